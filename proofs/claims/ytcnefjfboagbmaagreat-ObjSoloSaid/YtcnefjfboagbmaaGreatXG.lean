/- The document's example of objects, as its walk asks for it. -/
import Derived.Test.YtcnefjfboagbmaaGreatPA
import Derived.Test.YtcnefjfboagbmaaGreatWE
import Derived.Test.YtcnefjfboagbmaaGreatWB
import Derived.Test.YtcnefjfboagbmaaGreatXD
import Derived.Test.YtcnefjfboagbmaaGreatXF
namespace Go.Proofs.YtcnefjfboagbmaaGreat
open Go.Proofs.Tryz
set_option maxRecDepth 100000
def Hu:oF:=⟨1,6,1,1,1,0,1,1,1⟩
def jp:ag:=gm Hu
def y0:List (List bt):=[[⟨2,0,5,9⟩,⟨4,0,3,0⟩,⟨6,0,4,0⟩,⟨6,0,6,0⟩,⟨7,0,0,0⟩,⟨1,0,5,0⟩]]
def Er:dG:=tR jp y0 []
def SF:Bool:=let t:=Er;!t.bad&&!t.cD&&decide (t.calls.length=6)&&decide ((t.calls.map fH.is).getD 4 false=true)&&decide ((t.calls.map fH.val).getD 4 0=4)&&decide ((t.calls.map fH.val).getD 5 0=9)&&decide (pQ jp t.m 1 0=(1,[5],[9]))&&decide (pQ jp t.m 2 0=(2,[],[3]))&&decide (pQ jp t.m 3 0=(3,[],[6]))&&decide ((Bg jp t.m).length=4)&&t.m.all (λ x=>decide (x<9223372036854775808))
theorem adc:SF=true:=by decide+kernel
structure T1(t:dG):Prop where
 bad:t.bad=false
 cD:t.cD=false
 calls:∃c0 c1 c2 c3 c4 c5:fH,t.calls=[c0,c1,c2,c3,c4,c5]/\c4.is=true/\c4.val=4/\c5.val=9
 map:pQ jp t.m 1 0=(1,[5],[9])
 af3:pQ jp t.m 2 0=(2,[],[3])
 aeO:pQ jp t.m 3 0=(3,[],[6])
 nodes:(Bg jp t.m).length=4
 mem:∀x∈t.m,x<9223372036854775808
theorem adh:T1 Er:=by
 have h:=adc;unfold SF at h;generalize Er=t at h;obtain⟨m,step,az,calls,full,cD,bad⟩:=t;simp only[Bool.and_eq_true,decide_eq_true_eq,Bool.not_eq_true',List.all_eq_true] at h;obtain⟨⟨⟨⟨⟨⟨⟨⟨⟨⟨h1,A⟩,K⟩,h4⟩,h5⟩,h6⟩,h7⟩,h8⟩,h9⟩,Aj⟩,Fu⟩:=h
 match calls,K with
 |[c0,c1,c2,c3,c4,c5],_=>exact⟨h1,A,⟨c0,c1,c2,c3,c4,c5,rfl,h4,h5,h6⟩,h7,h8,h9,Aj,Fu⟩
theorem adi:oq jp 0 [] ⟨6,0,-1,0⟩ []=(eN,⟨0,false,1,-1,[]⟩,true):=by decide+kernel
theorem adg:(nJ jp).length=21:=by decide+kernel
theorem adf:xx Hu=true:=by decide+kernel
theorem adj:∀a∈nJ jp,a.kind=2/\a.fz=0/\0<=a.cell/\a.cell<(jp.size.toNat:Int):=by decide+kernel
theorem QW{c:oF}(h:BL c):kh (gm c):=by have h0:=DL h.b;have h1:=h.m;refine⟨?_,?_,?_⟩<;>simp only[gm,lH]<;>omega
open Go.RowKit
theorem uh{l:List fH}{i:Int}{x:fH}(h:l[i.toNat]?=some x):∀(m:Nat) q,[pI x.aN,pI x.op.kind,pI x.op.obj,pI x.op.a,pI x.op.b,pI x.val,pB x.is,pI x.first,pI x.last,pI x.bS][m]?=some q->(mv l)[i.toNat*10+m]?=some q:=Fl (f:=rt) (k:=10) (λ _=>rfl) h
theorem aap{e:aA}{v:Value}{ds:List G}(h:bD e v (.agg ds)):bD e v (.agg (ds.map lF)):=by
 cases h with
 |agg R h=>
  refine .agg (by rw[List.length_map];exact R) λ i v d hv F=>?_
  rw[List.getElem?_map,Option.map_eq_some_iff] at F;obtain⟨d0,A,rfl⟩:=F;exact KW (h i v d0 hv A)
theorem aao{Γ:bI}{J:St}(t:Nat){ds ik:List G}(ht:kv J.s t=some (.agg ds))(F:ds.map lF=ik):bN Γ J ⟨(t,.agg ik)::J.s,J.b,J.g⟩:=by
 intro a e L;refine⟨e,rfl,L.size,L.df,λ af c hu=>?_,L.boxes,L.ei,L.gs,L.env⟩;simp only[cM] at hu;split at hu
 ·rename_i lE;subst lE;cases hu;subst F;exact aap (L.bP _ _ ht)
 ·exact L.bP af c hu
theorem SG:OL jp:=by have h:=Iy adf;exact⟨QX h,QW h,(DL h.b).1,⟨by show(0:Int)<=6;omega,by show(6:Int)<=1000;omega⟩,h.m,h.st,h.ch⟩
theorem ade:BY jp:=by have h:=SG;exact⟨h.ok,h.m,h.b,h.maps,h.bo,by show(6:Int)<=20000;omega,by decide+kernel,adj⟩
set_option maxHeartbeats 32000000 in
theorem adk:aX prog 8 [] (dB true):=by
 have gy:=RC Hu;have gy:aX prog 26 [Cr Hu] (.bg [dD jp,u 0]):=gy;have hP:eo prog 21 [] [dD jp,Ct y0 []] [] (λ d U=>d=.ptr 30 0/\U=qJ Er 1):=R0 jp ade y0 [] (by simp[y0]) (by simp[y0]) (by simp) (λ x O=>by cases O) (λ w hw=>by
  rw[y0,List.mem_singleton] at hw;subst hw;simp)
 have hO:=SG;have hN:=RB jp hO.ok hO.ok.az.1 hO.m 0 (by omega) [] ⟨6,0,-1,0⟩ [] (λ p hp=>by cases hp) (by simp) (by simp);rw[adi] at hN;dsimp only[rT] at hN;have hI:=aa8 jp hO.ok hO.m hO.b hO.maps hO.bo;obtain⟨T,j3,⟨c0,c1,c2,c3,c4,c5,L,i4,v4,v5⟩,Dg,dg,tx,gV,tH⟩:=adh;generalize Er=t at*;obtain⟨m,step,az,calls,full,cD,bad⟩:=t;simp only at T j3 L Dg dg tx gV tH;subst T;subst j3;subst L;have xN:=GV jp hO m tH 1 0;have Ao:=GV jp hO m tH 2 0;have Ap:=GV jp hO m tH 3 0;rw[Dg] at xN;rw[dg] at Ao;rw[tx] at Ap;have OJ:=E4 (1,[5],[9]) (1,[5],[9]) (by simp) (by simp);have OK:=E4 (2,[],[3]) (2,[],[3]) (by simp) (by simp);have OM:=E4 (3,[],[6]) (3,[],[6]) (by simp) (by simp);rw[show decide (((1,[5],[9]):jM)=(1,[5],[9]))=true from rfl] at OJ;rw[show decide (((2,[],[3]):jM)=(2,[],[3]))=true from rfl] at OK;rw[show decide (((3,[],[6]):jM)=(3,[],[6]))=true from rfl] at OM;have Au:=abf jp hO m tH;have dz:=adg;unfold mI at hI;generalize cL (nJ jp)=aeB at hI;rw[dz] at hI;clear Dg dg tx dz hO;generalize Bg jp m=NS at*;generalize jp=l at*;refine sP func8 ntmps8 λ w cl=>?_
 refine gA gy ?_;refine oL (aao (ik:=nc y0 []) 21 rfl rfl) ?_;refine go ?_;refine cI hP ?_;rintro d U ⟨rfl,rfl⟩;refine gA hN ?_;refine cA hI ?_;refine go ?_;refine(show CK false _ _ from ?_);refine go ?_;clear hN hI hP gy;refine dO (bU:=⟨[(6,dB true),(5,.ptr 9 0),(3,.ptr 30 0),(1,.ptr 0 0)],(9,[u 0,dB false,u 1,u (-1),d7 []])::(qJ ⟨m,step,az,[c0,c1,c2,c3,c4,c5],full,false,false⟩ 1++[(0,cn l)]),[]⟩) ?_ ?_
 ·exact zX (T:=⟨⟨rfl,rfl⟩,⟨rfl,rfl⟩,⟨rfl,jB _ _ _⟩,⟨rfl,jz _ _ _⟩,⟨rfl,jI _ _ _⟩,⟨rfl,jA _ _ _⟩,⟨rfl,jv _ _ _⟩,⟨rfl,rfl⟩,trivial⟩)
 refine gD [] ?_;refine ri [pI c4.aN,pI c4.op.kind,pI c4.op.obj,pI c4.op.a,pI c4.op.b,pI c4.val,pB c4.is,pI c4.first,pI c4.last,pI c4.bS] (uh (l:=[c0,c1,c2,c3,c4,c5]) (i:=(4:Int)) (x:=c4) rfl) ?_;refine bh ?_;rw[i4];refine bh ?_;refine ri [pI c4.aN,pI c4.op.kind,pI c4.op.obj,pI c4.op.a,pI c4.op.b,pI c4.val,pB c4.is,pI c4.first,pI c4.last,pI c4.bS] (uh (l:=[c0,c1,c2,c3,c4,c5]) (i:=(4:Int)) (x:=c4) rfl) ?_;refine bh ?_;rw[v4];refine bh ?_;refine ri [pI c5.aN,pI c5.op.kind,pI c5.op.obj,pI c5.op.a,pI c5.op.b,pI c5.val,pB c5.is,pI c5.first,pI c5.last,pI c5.bS] (uh (l:=[c0,c1,c2,c3,c4,c5]) (i:=(5:Int)) (x:=c5) rfl) ?_;refine bh ?_;rw[v5];refine gQ xN ?_;refine cQ OJ ?_;refine gQ Ao ?_;refine cQ OK ?_;refine gQ Ap ?_;refine cQ OM ?_;refine gQ Au ?_;refine gf ?_;rw[gV]
 rfl
end Go.Proofs.YtcnefjfboagbmaaGreat
