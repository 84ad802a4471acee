/- How ObjChannel's argument is opened. -/
import Derived.Test.YtcnefjfboagbmaaGreatXD
import Derived.Test.YtcnefjfboagbmaaGreatLB
namespace Go.Proofs.YtcnefjfboagbmaaGreat
open Go.Proofs.Tryz
open Go.ChangeShapes Go.WideShapes Go.ChangeAt Go.RowKit Go.Deep
set_option maxRecDepth 100000
theorem Ss{av:Type}(f:av->Pl):∀l:List av,l.map f=l.flatMap λ x=>[f x]
 |[]=>rfl
 |x::l=>by rw[List.map_cons,List.flatMap_cons,Ss f l];rfl
section
variable{H:Type}{enc:TypeId×Value->H}{w:World}{base:Nat}{mW:Nat->Bool}{aw:Bool}{v:Value}{r:Reach}{b0:Nat}
theorem ad2{v:Value}(h:Read enc prog w base mW aw 45 [v]):∃l:List Int,(∀x∈l,0<=x/\x<256)/\l.length<=maxLen/\dm (rG w) v (.sl false l.length (l.map p8))/\mr v=true:=by
 obtain⟨l,A,F,O,h4⟩:=ad5 (e:=5) (sz:=1) (λ x:Int=>[p8 x]) (λ x=>0<=x/\x<256) (by decide) (λ _=>rfl) underlying45 (by kernel_rfl) (λ cs cD hr=>by
  obtain⟨n,e,hn⟩:=TJ underlying5 hr;subst e;exact⟨n,⟨hn.1,by omega⟩,jL.int (jL.nil _)⟩) h
 refine⟨l,A,F,?_,h4⟩;rw[Ss];exact O
theorem ME{t dE:Nat}{cs:List Value}{i:Nat}(hf:JL prog t i=some (5,dE,1))(h:Read enc prog w base mW aw t cs):∃n:Int,(cs.drop dE).take 1=[.int .u8 n]/\0<=n/\n<256:=by obtain⟨n,e,hn⟩:=TJ underlying5 (TH hf h);exact⟨n,e,hn.1,by omega⟩
structure CO where
 many:Int
 one:Int
 two:Int
 turns:List Int
structure CO.Fits(p:CO):Prop where
 many:0<=p.many/\p.many<256
 one:0<=p.one/\p.one<256
 two:0<=p.two/\p.two<256
 turns:∀x∈p.turns,0<=x/\x<256
theorem arg_chan(hv:Value.okWide prog w r b0 70 v)(h:Read enc prog w base mW aw 70 v.cells.toList):∃p:CO,p.Fits/\bz (rG w) v (.agg [dK .u8 p.many,dK .u8 p.one,dK .u8 p.two,va p.turns]):=by
 obtain⟨p,A,F⟩:=Wd (λ p:CO=>[p8 p.many,p8 p.one,p8 p.two,(.sl false p.turns.length (p.turns.map p8):Pl)]) CO.Fits underlying70 hv h λ cs U hr=>by
  have fq:cs.length=4:=U.trans (by kernel_rfl);obtain⟨x0,e0,w0⟩:=ME (i:=0) (dE:=0) (by kernel_rfl) hr;obtain⟨x1,e1,w1⟩:=ME (i:=1) (dE:=1) (by kernel_rfl) hr;obtain⟨x2,e2,w2⟩:=ME (i:=2) (dE:=2) (by kernel_rfl) hr
  match cs,fq with
  |[c0,c1,c2,c3],_=>obtain⟨l2,g1,_,g3,g4⟩:=ad2 (v:=c3) (TH (i:=3) (ft:=45) (dE:=3) (sz:=1) (by kernel_rfl) hr);simp at e0 e1 e2;subst e0 e1 e2;exact⟨⟨x0,x1,x2,l2⟩,⟨w0,w1,w2,g1⟩,jL.int (jL.int (jL.int (jL.cons g3 g4 (jL.nil _))))⟩
 exact⟨p,A,F⟩
end
end Go.Proofs.YtcnefjfboagbmaaGreat
