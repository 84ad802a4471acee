/- The document's example of objects, as its walk asks for it. -/
import Derived.Test.YtcnefjfboagbmaaGreatPA
import Derived.Test.YtcnefjfboagbmaaGreatWE
import Derived.Test.YtcnefjfboagbmaaGreatWB
import Derived.Test.YtcnefjfboagbmaaGreatXD
import Derived.Test.YtcnefjfboagbmaaGreatXF
namespace Go.Proofs.YtcnefjfboagbmaaGreat
open Go.Proofs.Tryz
set_option maxRecDepth 100000
def Ff:kO:=⟨1,6,1,1,1,0,1,1,1⟩
def iU:ab:=cO Ff
def xz:List (List cq):=[[⟨2,0,5,9⟩,⟨4,0,3,0⟩,⟨6,0,4,0⟩,⟨6,0,6,0⟩,⟨7,0,0,0⟩,⟨1,0,5,0⟩]]
def CE:eu:=EO iU xz []
def Pb:Bool:=let t:=CE;!t.bad&&!t.cU&&decide (t.calls.length=6)&&decide ((t.calls.map iW.is).getD 4 false=true)&&decide ((t.calls.map iW.val).getD 4 0=4)&&decide ((t.calls.map iW.val).getD 5 0=9)&&decide (lh iU t.m 1 0=(1,[5],[9]))&&decide (lh iU t.m 2 0=(2,[],[3]))&&decide (lh iU t.m 3 0=(3,[],[6]))&&decide ((mR iU t.m).length=4)&&t.m.all (λ x=>decide (x<9223372036854775808))
theorem Yu:Pb=true:=by decide+kernel
structure Qm(t:eu):Prop where
 bad:t.bad=false
 cU:t.cU=false
 calls:∃c0 c1 c2 c3 c4 c5:iW,t.calls=[c0,c1,c2,c3,c4,c5]/\c4.is=true/\c4.val=4/\c5.val=9
 map:lh iU t.m 1 0=(1,[5],[9])
 aaL:lh iU t.m 2 0=(2,[],[3])
 Zv:lh iU t.m 3 0=(3,[],[6])
 nodes:(mR iU t.m).length=4
 mem:∀x∈t.m,x<9223372036854775808
theorem Yy:Qm CE:=by
 have h:=Yu;unfold Pb at h;generalize CE=t at h;obtain⟨m,step,aA,calls,full,cU,bad⟩:=t;simp only[Bool.and_eq_true,decide_eq_true_eq,Bool.not_eq_true',List.all_eq_true] at h;obtain⟨⟨⟨⟨⟨⟨⟨⟨⟨⟨u,D⟩,K⟩,h4⟩,h5⟩,h6⟩,h7⟩,h8⟩,h9⟩,GV⟩,Sp⟩:=h
 match calls,K with
 |[c0,c1,c2,c3,c4,c5],_=>exact⟨u,D,⟨c0,c1,c2,c3,c4,c5,rfl,h4,h5,h6⟩,h7,h8,h9,GV,Sp⟩
theorem Yz:q7 iU 0 [] ⟨6,0,-1,0⟩ []=(eF,⟨0,false,1,-1,[]⟩,true):=by decide+kernel
theorem Yx:(eX iU).length=21:=by decide+kernel
theorem Yw:sy Ff=true:=by decide+kernel
theorem YA:∀a∈eX iU,a.kind=2/\a.eh=0/\0<=a.cell/\a.cell<(iU.size.toNat:Int):=by decide+kernel
theorem Ig{c:kO}(h:vm c):iY (cO c):=by have h0:=uC h.b;have u:=h.m;refine⟨?_,?_,?_⟩<;>simp only[cO,kM]<;>omega
open Go.RowKit
theorem Gm{l:List iW}{i:Int}{x:iW}(h:l[i.toNat]?=some x):∀(m:Nat) q,[pI x.aQ,pI x.op.kind,pI x.op.obj,pI x.op.a,pI x.op.b,pI x.val,pB x.is,pI x.first,pI x.last,pI x.cJ][m]?=some q->(qc l)[i.toNat*10+m]?=some q:=Ds (f:=EV) (k:=10) (λ _=>rfl) h
theorem VO{e:ay}{v:Value}{ds:List F}(h:bt e v (.agg ds)):bt e v (.agg (ds.map kJ)):=by
 cases h with
 |agg M h=>
  refine .agg (by rw[List.length_map];exact M) λ i v d hv G=>?_
  rw[List.getElem?_map,Option.map_eq_some_iff] at G;obtain⟨d0,D,rfl⟩:=G;exact Iu (h i v d0 hv D)
theorem VN{Γ:bE}{I:St}(t:Nat){ds gS:List F}(ht:Y I.s t=some (.agg ds))(G:ds.map kJ=gS):bF Γ I ⟨(t,.agg gS)::I.s,I.b,I.g⟩:=by
 intro a e L;refine⟨e,rfl,L.size,L.df,λ aa c hu=>?_,L.boxes,L.dX,L.gs,L.env⟩;simp only[cL] at hu;split at hu
 ·rename_i kG;subst kG;cases hu;subst G;exact VO (L.bm _ _ ht)
 ·exact L.bm aa c hu
theorem Pd:OL iU:=by have h:=AN Yw;exact⟨Ih h,Ig h,(uC h.b).1,⟨by show(0:Int)<=6;omega,by show(6:Int)<=1000;omega⟩,h.m,h.st,h.ch⟩
theorem Yv:CT iU:=by have h:=Pd;exact⟨h.ok,h.m,h.b,h.maps,h.aL,by show(6:Int)<=20000;omega,by decide+kernel,YA⟩
set_option maxHeartbeats 32000000 in
theorem CF:aW prog 8 [] (dB true):=by
 have ig:=IU Ff;have ig:aW prog 26 [tZ Ff] (.bc [cF iU,z 0]):=ig;have hP:d8 prog 21 [] [cF iU,Dj xz []] [] (λ d O=>d=.ptr 30 0/\O=xC CE 1):=Xc iU Yv xz [] (by simp[xz]) (by simp[xz]) (by simp) (λ x T=>by cases T) (λ w hw=>by
  rw[xz,List.mem_singleton] at hw;subst hw;simp)
 have hO:=Pd;have hN:=N0 iU hO.ok hO.ok.aA.1 hO.m 0 (by omega) [] ⟨6,0,-1,0⟩ [] (λ p hp=>by cases hp) (by simp) (by simp);rw[Yz] at hN;dsimp only[qx] at hN;have hI:=IP iU hO.ok hO.m hO.b hO.maps hO.aL;obtain⟨R,wO,⟨c0,c1,c2,c3,c4,c5,L,i4,v4,v5⟩,BD,b8,wc,ie,rY⟩:=Yy;generalize CE=t at*;obtain⟨m,step,aA,calls,full,cU,bad⟩:=t;simp only at R wO L BD b8 wc ie rY;subst R;subst wO;subst L;have vY:=Cg iU hO m rY 1 0;have yw:=Cg iU hO m rY 2 0;have yx:=Cg iU hO m rY 3 0;rw[BD] at vY;rw[b8] at yw;rw[wc] at yx;have Lp:=AT (1,[5],[9]) (1,[5],[9]) (by simp) (by simp);have Lq:=AT (2,[],[3]) (2,[],[3]) (by simp) (by simp);have Lr:=AT (3,[],[6]) (3,[],[6]) (by simp) (by simp);rw[show decide (((1,[5],[9]):xI)=(1,[5],[9]))=true from rfl] at Lp;rw[show decide (((2,[],[3]):xI)=(2,[],[3]))=true from rfl] at Lq;rw[show decide (((3,[],[6]):xI)=(3,[],[6]))=true from rfl] at Lr;have rJ:=IT iU hO m rY;have eP:=Yx;unfold jl at hI;generalize cH (eX iU)=PA at hI;rw[eP] at hI;clear BD b8 wc eP hO;generalize mR iU m=NS at*;generalize iU=l at*;refine sP func8 ntmps8 λ w cl=>?_
 refine gA ig ?_;refine oh (VN (gS:=nt xz []) 21 rfl rfl) ?_;refine go ?_;refine cI hP ?_;rintro d O ⟨rfl,rfl⟩;refine gA hN ?_;refine cA hI ?_;refine go ?_;refine(show CK false _ _ from ?_);refine go ?_;clear hN hI hP ig;refine da (bS:=⟨[(6,dB true),(5,.ptr 9 0),(3,.ptr 30 0),(1,.ptr 0 0)],(9,[z 0,dB false,z 1,z (-1),cT []])::(xC ⟨m,step,aA,[c0,c1,c2,c3,c4,c5],full,false,false⟩ 1++[(0,bs l)]),[]⟩) ?_ ?_
 ·exact zX (R:=⟨⟨rfl,rfl⟩,⟨rfl,rfl⟩,⟨rfl,jF _ _ _⟩,⟨rfl,jA _ _ _⟩,⟨rfl,jG _ _ _⟩,⟨rfl,jC _ _ _⟩,⟨rfl,jo _ _ _⟩,⟨rfl,rfl⟩,trivial⟩)
 refine gD [] ?_;refine ri [pI c4.aQ,pI c4.op.kind,pI c4.op.obj,pI c4.op.a,pI c4.op.b,pI c4.val,pB c4.is,pI c4.first,pI c4.last,pI c4.cJ] (Gm (l:=[c0,c1,c2,c3,c4,c5]) (i:=(4:Int)) (x:=c4) rfl) ?_;refine ba ?_;rw[i4];refine ba ?_;refine ri [pI c4.aQ,pI c4.op.kind,pI c4.op.obj,pI c4.op.a,pI c4.op.b,pI c4.val,pB c4.is,pI c4.first,pI c4.last,pI c4.cJ] (Gm (l:=[c0,c1,c2,c3,c4,c5]) (i:=(4:Int)) (x:=c4) rfl) ?_;refine ba ?_;rw[v4];refine ba ?_;refine ri [pI c5.aQ,pI c5.op.kind,pI c5.op.obj,pI c5.op.a,pI c5.op.b,pI c5.val,pB c5.is,pI c5.first,pI c5.last,pI c5.cJ] (Gm (l:=[c0,c1,c2,c3,c4,c5]) (i:=(5:Int)) (x:=c5) rfl) ?_;refine ba ?_;rw[v5];refine gQ vY ?_;refine cQ Lp ?_;refine gQ yw ?_;refine cQ Lq ?_;refine gQ yx ?_;refine cQ Lr ?_;refine gQ rJ ?_;refine gf ?_;rw[ie]
 rfl
end Go.Proofs.YtcnefjfboagbmaaGreat
