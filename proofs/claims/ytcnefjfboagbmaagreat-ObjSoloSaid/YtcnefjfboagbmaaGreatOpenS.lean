/- How ObjSolo's arguments are opened. -/
import Derived.Test.YtcnefjfboagbmaaGreatXD
import Derived.Test.YtcnefjfboagbmaaGreatLB
namespace Go.Proofs.YtcnefjfboagbmaaGreat
open Go.Proofs.Tryz
open Go.ChangeShapes Go.WideShapes Go.ChangeAt Go.RowKit Go.Deep
set_option maxRecDepth 100000
def i64B(n:Int):Prop:=-9223372036854775808<=n/\n<=9223372036854775807
section
variable{H:Type}{enc:TypeId×Value->H}{w:World}{base:Nat}{mx:Nat->Bool}{aM:Bool}{v:Value}{r:Reach}{b0:Nat}
def bt.Fits(o:bt):Prop:=i64B o.kind/\i64B o.obj/\i64B o.a/\i64B o.b
theorem aco(cs:List Value)(R:cs.length=4)(h:Read enc prog w base mx aM 63 cs):∃o:bt,o.Fits/\kj (rW w) cs (G8 o):=by
 match cs,R with
 |[c0,c1,c2,c3],_=>obtain⟨x0,e0,w0⟩:=Hj underlying3 (Hi (i:=0) (ft:=3) (dF:=0) (sz:=1) (by kernel_rfl) h);obtain⟨x1,e1,w1⟩:=Hj underlying3 (Hi (i:=1) (ft:=3) (dF:=1) (sz:=1) (by kernel_rfl) h);obtain⟨aem,e2,w2⟩:=Hj underlying3 (Hi (i:=2) (ft:=3) (dF:=2) (sz:=1) (by kernel_rfl) h);obtain⟨aen,e3,w3⟩:=Hj underlying3 (Hi (i:=3) (ft:=3) (dF:=3) (sz:=1) (by kernel_rfl) h);simp at e0 e1 e2 e3;subst e0 e1 e2 e3;exact⟨⟨x0,x1,aem,aen⟩,⟨w0,w1,w2,w3⟩,kj.int (kj.int (kj.int (kj.int (kj.nil _))))⟩
theorem acp{v:Value}(h:Read enc prog w base mx aM 43 [v]):∃l:List bt,(∀x∈l,x.Fits)/\l.length<=maxLen/\db (rW w) v (tT l)/\lX v=true:=
 acs (e:=63) (sz:=4) G8 bt.Fits (by decide) (λ _=>rfl) underlying43 (by kernel_rfl) (λ cs ci hr=>aco cs ci hr) h
theorem arg_ops(hv:Value.okWide prog w r b0 43 v)(h:Read enc prog w base mx aM 43 v.cells.toList):∃l:List bt,l.length<=9223372036854775807/\(∀x∈l,x.Fits)/\bD (rW w) v (vS l):=by obtain⟨a,len,bK,rfl⟩:=okWide_slice underlying43 hv;obtain⟨l,h1,A,K,h4⟩:=acp (v:=.slice a len bK) h;exact⟨l,A,h1,.p K⟩
theorem arg_u8{t:TypeId}(ht:prog.underlying t=some (.int .u8))(hv:Value.okWide prog w r b0 t v)(h:Read enc prog w base mx aM t v.cells.toList):∃n:Int,(0<=n/\n<=255)/\bD (rW w) v (dK .u8 n):=by obtain⟨n,rfl⟩:=okWide_int ht hv;obtain⟨m,e,hm⟩:=acv ht h;cases e;exact⟨_,hm,.p (.raw _)⟩
end
end Go.Proofs.YtcnefjfboagbmaaGreat
