/- How layouts, memories and confs are opened. -/
import Derived.Test.YtcnefjfboagbmaaGreatXF
import Derived.Test.YtcnefjfboagbmaaGreatLB
import Derived.Test.YtcnefjfboagbmaaGreatXG
namespace Go.Proofs.YtcnefjfboagbmaaGreat
open Go.Proofs.Tryz
open Go.ChangeShapes Go.WideShapes Go.ChangeAt Go.RowKit Go.Deep
set_option maxRecDepth 100000
theorem N8:∀l:List Int,aZ l=l.flatMap λ x=>[pI x]
 |[]=>rfl
 |x::l=>by
  have:=N8 l;unfold aZ at this⊢;rw[List.map_cons,List.flatMap_cons,this];rfl
section
variable{H:Type}{enc:TypeId×Value->H}{w:World}{base:Nat}{kh:Nat->Bool}{aM:Bool}{v:Value}{r:Reach}{b0:Nat}
theorem XI{v:Value}(h:Read enc prog w base kh aM 26 [v]):∃l:List Int,(∀x∈l,eY x)/\l.length<=maxLen/\cV (m6 w) v (.sl false l.length (aZ l))/\lc v=true:=by
 obtain⟨l,u,D,K,h4⟩:=XM (e:=3) (sz:=1) (λ x:Int=>[pI x]) eY (by decide) (λ _=>rfl) underlying26 (by kernel_rfl) (λ cs cg hr=>by
  obtain⟨n,e,hn⟩:=OM underlying3 hr;subst e;exact⟨n,hn,dM.int (dM.nil _)⟩) h
 refine⟨l,u,D,?_,h4⟩;rw[N8];exact K
theorem iT{t b6:Nat}{cs:List Value}{i:Nat}(hf:GF prog t i=some (3,b6,1))(h:Read enc prog w base kh aM t cs):∃n:Int,(cs.drop b6).take 1=[.int .i64 n]/\eY n:=by obtain⟨n,e,hn⟩:=OM underlying3 (Cr hf h);exact⟨n,e,hn⟩
def KC(c:kO):List Pl:=[pI c.aA,pI c.nodes,pI c.buckets,pI c.bm,pI c.tasks,pI c.cells,pI c.maps,pI c.bo,pI c.aL]
theorem OJ(cs:List Value)(M:cs.length=9)(h:Read enc prog w base kh aM 23 cs):∃c:kO,(eY c.aA/\eY c.nodes/\eY c.buckets/\eY c.bm/\eY c.tasks/\eY c.cells/\eY c.maps/\eY c.bo/\eY c.aL)/\dM (m6 w) cs (KC c):=by
 match cs,M with
 |[c0,c1,c2,c3,c4,c5,c6,c7,c8],_=>obtain⟨x0,e0,w0⟩:=iT (i:=0) (b6:=0) (by kernel_rfl) h;obtain⟨x1,e1,w1⟩:=iT (i:=1) (b6:=1) (by kernel_rfl) h;obtain⟨x2,e2,w2⟩:=iT (i:=2) (b6:=2) (by kernel_rfl) h;obtain⟨x3,e3,w3⟩:=iT (i:=3) (b6:=3) (by kernel_rfl) h;obtain⟨x4,e4,w4⟩:=iT (i:=4) (b6:=4) (by kernel_rfl) h;obtain⟨x5,e5,w5⟩:=iT (i:=5) (b6:=5) (by kernel_rfl) h;obtain⟨x6,e6,w6⟩:=iT (i:=6) (b6:=6) (by kernel_rfl) h;obtain⟨x7,e7,w7⟩:=iT (i:=7) (b6:=7) (by kernel_rfl) h;obtain⟨x8,e8,w8⟩:=iT (i:=8) (b6:=8) (by kernel_rfl) h;simp at e0 e1 e2 e3 e4 e5 e6 e7 e8;subst e0 e1 e2 e3 e4 e5 e6 e7 e8;exact⟨⟨x0,x1,x2,x3,x4,x5,x6,x7,x8⟩,⟨w0,w1,w2,w3,w4,w5,w6,w7,w8⟩,dM.int (dM.int (dM.int (dM.int (dM.int (dM.int (dM.int (dM.int (dM.int (dM.nil _)))))))))⟩
theorem XJ(cs:List Value)(M:cs.length=25)(h:Read enc prog w base kh aM 25 cs):∃l:ab,tO l/\dM (m6 w) cs (sa pI l):=by
 obtain⟨c,L,hp⟩:=OJ ((cs.drop 0).take 9) (by simp[M]) (Cr (i:=0) (ft:=23) (b6:=0) (sz:=9) (by kernel_rfl) h);obtain⟨us,ts,rfl,ha⟩:∃us ts,cs=us++ts/\us.length=9:=⟨cs.take 9,cs.drop 9,(List.take_append_drop 9 cs).symm,by rw[List.length_take];omega⟩;rw[List.drop_zero,List.take_append_of_le_length (by omega),List.take_of_length_le (by omega)] at hp;have rN:ts.length=16:=by rw[List.length_append] at M;omega
 match us,ha,ts,rN with
 |[a0,a1,a2,a3,a4,a5,a6,a7,a8],_,[c0,c1,c2,c3,c4,c5,c6,c7,c8,c9,d0,d1,d2,d3,d4,d5],_=>
  obtain⟨x0,e0,w0⟩:=iT (i:=1) (b6:=9) (by kernel_rfl) h;obtain⟨x1,e1,w1⟩:=iT (i:=2) (b6:=10) (by kernel_rfl) h;obtain⟨x2,e2,w2⟩:=iT (i:=3) (b6:=11) (by kernel_rfl) h;obtain⟨x3,e3,w3⟩:=iT (i:=4) (b6:=12) (by kernel_rfl) h;obtain⟨x4,e4,w4⟩:=iT (i:=5) (b6:=13) (by kernel_rfl) h;obtain⟨x5,e5,w5⟩:=iT (i:=6) (b6:=14) (by kernel_rfl) h;obtain⟨x6,e6,w6⟩:=iT (i:=7) (b6:=15) (by kernel_rfl) h;obtain⟨x7,e7,w7⟩:=iT (i:=8) (b6:=16) (by kernel_rfl) h;obtain⟨x8,e8,w8⟩:=iT (i:=9) (b6:=17) (by kernel_rfl) h;obtain⟨x9,e9,w9⟩:=iT (i:=10) (b6:=18) (by kernel_rfl) h;obtain⟨y0,iM,u0⟩:=iT (i:=11) (b6:=19) (by kernel_rfl) h;obtain⟨y1,gT,u1⟩:=iT (i:=12) (b6:=20) (by kernel_rfl) h;obtain⟨y2,iN,u2⟩:=iT (i:=13) (b6:=21) (by kernel_rfl) h;obtain⟨y3,f3,u3⟩:=iT (i:=14) (b6:=22) (by kernel_rfl) h;obtain⟨y4,i7,u4⟩:=iT (i:=15) (b6:=23) (by kernel_rfl) h;obtain⟨y5,kR,u5⟩:=iT (i:=16) (b6:=24) (by kernel_rfl) h;simp at e0 e1 e2 e3 e4 e5 e6 e7 e8 e9 iM gT iN f3 i7 kR;subst e0 e1 e2 e3 e4 e5 e6 e7 e8 e9 iM gT iN f3 i7 kR;refine⟨⟨c.aA,c.nodes,c.buckets,c.bm,c.tasks,c.cells,c.maps,c.bo,c.aL,x0,x1,x2,x3,x4,x5,x6,x7,x8,x9,y0,y1,y2,y3,y4,y5⟩,⟨L,⟨w0,w1,w2,w3,w4,w5,w6,w7,w8,w9,u0,u1,u2,u3,u4,u5⟩⟩,?_⟩
  have wz:dM (m6 w) [.int .i64 x0,.int .i64 x1,.int .i64 x2,.int .i64 x3,.int .i64 x4,.int .i64 x5,.int .i64 x6,.int .i64 x7,.int .i64 x8,.int .i64 x9,.int .i64 y0,.int .i64 y1,.int .i64 y2,.int .i64 y3,.int .i64 y4,.int .i64 y5] [pI x0,pI x1,pI x2,pI x3,pI x4,pI x5,pI x6,pI x7,pI x8,pI x9,pI y0,pI y1,pI y2,pI y3,pI y4,pI y5]:=dM.int (dM.int (dM.int (dM.int (dM.int (dM.int (dM.int (dM.int (dM.int (dM.int (dM.int (dM.int (dM.int (dM.int (dM.int (dM.int (dM.nil _))))))))))))))));exact hp.append wz
theorem arg_conf(hv:Value.okWide prog w r b0 23 v)(h:Read enc prog w base kh aM 23 v.cells.toList):∃c:kO,bt (m6 w) v (tZ c):=by
 obtain⟨c,_,D⟩:=Kk KC (λ _=>True) underlying23 hv h λ cs M hr=>by
  obtain⟨c,_,h⟩:=OJ cs (M.trans (by kernel_rfl)) hr;exact⟨c,trivial,h⟩
 exact⟨c,D⟩
abbrev PK(l:ab)(m:List Int)(kind i:Int):List F:=sa z l++[aV m,z kind,z i]
theorem arg_tells(hv:Value.okWide prog w r b0 30 v)(h:Read enc prog w base kh aM 30 v.cells.toList):∃(l:ab)(m:List Int)(kind i:Int),(tO l/\(∀x∈m,eY x)/\m.length<=maxLen)/\bt (m6 w) v (.agg (PK l m kind i)):=by
 obtain⟨⟨l,m,kind,i⟩,u,D⟩:=Kk (λ p:ab×List Int×Int×Int=>sa pI p.1++[.sl false p.2.1.length (aZ p.2.1),pI p.2.2.1,pI p.2.2.2]) (λ p=>tO p.1/\(∀x∈p.2.1,eY x)/\p.2.1.length<=maxLen) underlying30 hv h λ cs M hr=>by
  have eJ:cs.length=28:=M.trans (by kernel_rfl);obtain⟨l,k1,k2⟩:=XJ ((cs.drop 0).take 25) (by simp[eJ]) (Cr (i:=0) (ft:=25) (b6:=0) (sz:=25) (by kernel_rfl) hr);have hX:=Cr (i:=1) (ft:=28) (b6:=25) (sz:=1) (by kernel_rfl) hr;obtain⟨x0,e0,w0⟩:=iT (i:=2) (b6:=26) (by kernel_rfl) hr;obtain⟨x1,e1,w1⟩:=iT (i:=3) (b6:=27) (by kernel_rfl) hr;obtain⟨us,ts,rfl,ha⟩:∃us ts,cs=us++ts/\us.length=25:=⟨cs.take 25,cs.drop 25,(List.take_append_drop 25 cs).symm,by rw[List.length_take];omega⟩;rw[List.drop_zero,List.take_append_of_le_length (by omega),List.take_of_length_le (by omega)] at k2;have G:∀k,(us++ts).drop (25+k)=ts.drop k:=λ k=>by rw[List.drop_append,List.drop_of_length_le (by omega),ha,show 25+k-25=k by omega];rfl
  have dI:=G 0;have kE:=G 1;have rP:=G 2;simp only[Nat.add_zero] at dI;rw[dI] at hX;rw[show 26=25+1 from rfl,kE] at e0;rw[show 27=25+2 from rfl,rP] at e1;have rN:ts.length=3:=by rw[List.length_append] at eJ;omega
  match ts,rN with
  |[b0,b1,b2],_=>have SN:Read enc prog w base kh aM 26 [b0]:=Cr (t:=28) (cs:=[b0]) (i:=0) (b6:=0) (sz:=1) (by kernel_rfl) hX;obtain⟨m,g1,g2,g3,g4⟩:=XI SN;simp at e0 e1;subst e0 e1;exact⟨(l,m,x0,x1),⟨k1,g1,g2⟩,k2.append (dM.cons g3 g4 (dM.int (dM.int (dM.nil _))))⟩
 exact⟨l,m,kind,i,u,D⟩
end
open Go.RowKit
theorem WI{l:ab}(h:Aa l=true):OL l:=by unfold Aa at h;rw[Bool.and_eq_true,decide_eq_true_eq] at h;obtain⟨u,D⟩:=h;have hC:=AN u;rw[<-D];generalize sA l=c at*;have:=hC.n;have:=hC.m;have:=hC.ch;exact⟨Ih hC,Ig hC,(uC hC.b).1,⟨by show 0<=c.nodes;omega,by show c.nodes<=1000;omega⟩,hC.m,hC.st,hC.ch⟩
theorem VV(l:ab)(hn:0<=l.nodes/\l.nodes<=1000)(m:List Int)(i:Int):(oH l m i).length<=2000:=by
 unfold oH;split
 ·simp
 ·rw[Ph];unfold il hc;rw[List.length_map];refine Nat.le_trans (List.length_filter_le _ _) ?_;rw[List.length_map];refine Nat.le_trans (List.length_filter_le _ _) ?_;have:=jc l m (am l (az (aG m (fA l i 0))).idx 0);omega
theorem NV(l:ab)(hn:0<=l.nodes/\l.nodes<=1000)(m:List Int)(k i:Int):(lh l m k i).2.1.length<=10000/\(lh l m k i).2.2.length<=10000:=by
 have u:=VV l hn m i;have D:=Em.jc l m i;have K:=Sg.jc l m i;unfold lh;split
 ·simp only[List.length_map];omega
 ·split
  ·simp only[List.length_nil,Em.hc,List.length_map];omega
  ·split
   ·have h4:=Sg.GJ l m (Sg.cW l m i);have h5:=List.length_filter_le (λ v:Int=>decide (1<v)) ((Sg.cW l m i).flatMap (Sg.fD l m));refine⟨by simp,?_⟩;show(Sg.hc l m i).length<=_;unfold Sg.hc;rw[List.length_map];omega
   ·simp
theorem WL(l:ab)(hO:OL l)(m:List Int):(mR l m).length<=100000:=by obtain⟨n0,n1⟩:=hO.n;have b1:(b5 l m l.maps.toNat).length<=l.maps.toNat*1002:=rE (λ o=>Nat.le_trans (IC l m o) (by omega)) _;have b2:(cX l m l.bo.toNat).length<=l.bo.toNat*1002:=rE (λ o=>Nat.le_trans (Em.jc l m o) (by omega)) _;have b3:(fO l m l.aL.toNat).length<=l.aL.toNat*1002:=rE (λ o=>Nat.le_trans (Sg.jc l m o) (by omega)) _;have:=hO.maps;have:=hO.bo;have:=hO.aL;rw[IS];simp only[List.length_append];omega
theorem NY(l:ab)(hO:OL l):(eX l).length<=100000:=by
 obtain⟨n0,n1⟩:=hO.n;have u:=El l l.maps.toNat;have D:=Ei l l.aL.toNat;have K:=hO.maps;have h4:=hO.aL;have h5:(lp l (l.maps+l.aL+1).toNat).length<=1002:=by
  unfold lp;split
  ·simp
  ·unfold r8;rw[List.length_append,wQ];simp;omega
 rw[EL];simp only[List.length_append,List.length_cons,List.length_nil];omega
set_option maxHeartbeats 16000000 in
theorem tells_w(l:ab)(M:tO l)(m:List Int)(hm:∀x∈m,eY x)(kind i:Int):aW prog 3 [.agg (PK l m kind i)] (dB true):=by
 have hR:=WP l M;cases hr:Aa l with
 |false=>
  rw[hr] at hR;refine sP func3 ntmps3 λ w cl=>?_
  refine gA CF ?_;refine cA hR ?_;refine gf ?_
  rfl
 |true=>
  rw[hr] at hR;have hO:=WI hr;have l6:xL m:=λ x T=>by have:=(hm x T).2;omega
  have u:=IP l hO.ok hO.m hO.b hO.maps hO.aL;have D:=OS l hO.ok hO.m hO.b hO.maps hO.aL;have K:=Sg.QB (eX l) (eX l) (by have:=NY l hO;omega);have h4:=Cg l hO m l6 kind i;have h5:=X2 l hO m l6 kind i;have h6:=AT (lh l m kind i) (lh l m kind i) (by have:=NV l hO.n m kind i;omega) (by have:=NV l hO.n m kind i;omega);have h7:=IT l hO m l6;have h8:=X3 l hO m l6;have h9:=H9 (mR l m) (mR l m) (by have:=WL l hO m;omega);rw[decide_eq_true rfl] at K h6 h9;generalize eX l=A1 at*;generalize lh l m kind i=A2 at*;generalize mR l m=A3 at*;clear hO l6 hm M hr;refine sP func3 ntmps3 λ w cl=>?_
  refine gA CF ?_;refine cA hR ?_;refine go ?_
  by_cases k1:m.length<=2000
  ·rw[show decide ((m.length:Int)>2000)=false by rw[decide_eq_false_iff_not];omega];refine go ?_
   by_cases k2:l.size>9000
   ·rw[decide_eq_true k2];refine gf ?_
    rfl
   ·rw[decide_eq_false k2];refine go ?_;refine dQ [] ?_;refine gQ u ?_;refine cQ D ?_;refine gQ K ?_;refine cQ h4 ?_;refine gQ h5 ?_;refine cQ h6 ?_;refine gQ h7 ?_;refine cQ h8 ?_;refine gQ h9 ?_;refine gf ?_
    rfl
  ·rw[show decide ((m.length:Int)>2000)=true by rw[decide_eq_true_eq];omega];refine gf ?_
   rfl
end Go.Proofs.YtcnefjfboagbmaaGreat
