/- The document's example of objects, as its walk asks for it. -/
import Derived.Test.YtcnefjfboagbmaaGreatPA
import Derived.Test.YtcnefjfboagbmaaGreatWE
import Derived.Test.YtcnefjfboagbmaaGreatWB
import Derived.Test.YtcnefjfboagbmaaGreatXD
import Derived.Test.YtcnefjfboagbmaaGreatXF
namespace Go.Proofs.YtcnefjfboagbmaaGreat
open Go.Proofs.Tryz
set_option maxRecDepth 100000
def Im:o5:=⟨1,6,1,1,1,0,1,1,1⟩
def jG:ah:=gZ Im
def AE:List (List bl):=[[⟨2,0,5,9⟩,⟨4,0,3,0⟩,⟨6,0,4,0⟩,⟨6,0,6,0⟩,⟨7,0,0,0⟩,⟨1,0,5,0⟩]]
def Fp:cP:=uE jG AE []
def Uh:Bool:=let t:=Fp;!t.bad&&!t.cO&&decide (t.calls.length=6)&&decide ((t.calls.map eO.is).getD 4 false=true)&&decide ((t.calls.map eO.val).getD 4 0=4)&&decide ((t.calls.map eO.val).getD 5 0=9)&&decide (uB jG t.m 1 0=(1,[5],[9]))&&decide (uB jG t.m 2 0=(2,[],[3]))&&decide (uB jG t.m 3 0=(3,[],[6]))&&decide ((Ci jG t.m).length=4)&&t.m.all (λ x=>decide (x<9223372036854775808))
theorem aeU:Uh=true:=by decide+kernel
structure Vz(t:cP):Prop where
 bad:t.bad=false
 cO:t.cO=false
 calls:∃c0 c1 c2 c3 c4 c5:eO,t.calls=[c0,c1,c2,c3,c4,c5]/\c4.is=true/\c4.val=4/\c5.val=9
 map:uB jG t.m 1 0=(1,[5],[9])
 ahU:uB jG t.m 2 0=(2,[],[3])
 agp:uB jG t.m 3 0=(3,[],[6])
 nodes:(Ci jG t.m).length=4
 mem:∀x∈t.m,x<9223372036854775808
theorem aeY:Vz Fp:=by
 have h:=aeU;unfold Uh at h;generalize Fp=t at h;obtain⟨m,step,ar,calls,full,cO,bad⟩:=t;simp only[Bool.and_eq_true,decide_eq_true_eq,Bool.not_eq_true',List.all_eq_true] at h;obtain⟨⟨⟨⟨⟨⟨⟨⟨⟨⟨A,F⟩,O⟩,h4⟩,h5⟩,h6⟩,h7⟩,h8⟩,h9⟩,J1⟩,Yb⟩:=h
 match calls,O with
 |[c0,c1,c2,c3,c4,c5],_=>exact⟨A,F,⟨c0,c1,c2,c3,c4,c5,rfl,h4,h5,h6⟩,h7,h8,h9,J1,Yb⟩
theorem aeZ:pG jG 0 [] ⟨6,0,-1,0⟩ []=(eZ,⟨0,false,1,-1,[]⟩,true):=by decide+kernel
theorem aeX:(ol jG).length=21:=by decide+kernel
theorem aeW:yu Im=true:=by decide+kernel
theorem ae0:∀a∈ol jG,a.kind=2/\a.dg=0/\0<=a.cell/\a.cell<(jG.size.toNat:Int):=by decide+kernel
theorem R0{c:o5}(h:AM c):kJ (gZ c):=by have h0:=EH h.b;have A:=h.m;refine⟨?_,?_,?_⟩<;>simp only[gZ,mb]<;>omega
open Go.RowKit
theorem F4{l:List eO}{i:Int}{x:eO}(h:l[i.toNat]?=some x):∀(m:Nat) q,[pI x.al,pI x.op.kind,pI x.op.obj,pI x.op.a,pI x.op.b,pI x.val,pB x.is,pI x.first,pI x.last,pI x.c6][m]?=some q->(se l)[i.toNat*10+m]?=some q:=Gv (f:=E3) (k:=10) (λ _=>rfl) h
theorem abD{e:aC}{v:Value}{ds:List K}(h:bz e v (.agg ds)):bz e v (.agg (ds.map l7)):=by
 cases h with
 |agg U h=>
  refine .agg (by rw[List.length_map];exact U) λ i v d hv D=>?_
  rw[List.getElem?_map,Option.map_eq_some_iff] at D;obtain⟨d0,F,rfl⟩:=D;exact LR (h i v d0 hv F)
theorem abC{Γ:bN}{M:St}(t:Nat){ds iA:List K}(ht:kv M.s t=some (.agg ds))(D:ds.map l7=iA):bY Γ M ⟨(t,.agg iA)::M.s,M.b,M.g⟩:=by
 intro a e L;refine⟨e,rfl,L.size,L.df,λ u c hu=>?_,L.boxes,L.eE,L.gs,L.env⟩;simp only[da] at hu;split at hu
 ·rename_i l6;subst l6;cases hu;subst D;exact abD (L.bU _ _ ht)
 ·exact L.bU u c hu
theorem Ui:OL jG:=by have h:=Jq aeW;exact⟨R3 h,R0 h,(EH h.b).1,⟨by show(0:Int)<=6;omega,by show(6:Int)<=1000;omega⟩,h.m,h.st,h.ch⟩
theorem aeV:CY jG:=by have h:=Ui;exact⟨h.ok,h.m,h.b,h.maps,h.bo,by show(6:Int)<=20000;omega,by decide+kernel,ae0⟩
set_option maxHeartbeats 32000000 in
theorem ae2:bc prog 8 [] (dB true):=by
 have oQ:=SS Im;have oQ:bc prog 26 [Gg Im] (.bd [dP jG,E 0]):=oQ;have hP:eI prog 21 [] [dP jG,Gh AE []] [] (λ d Y=>d=.ptr 30 0/\Y=nL Fp 1):=Tl jG aeV AE [] (by simp[AE]) (by simp[AE]) (by simp) (λ x T=>by cases T) (λ w hw=>by
  rw[AE,List.mem_singleton] at hw;subst hw;simp)
 have hO:=Ui;have hN:=SR jG hO.ok hO.ok.ar.1 hO.m 0 (by omega) [] ⟨6,0,-1,0⟩ [] (λ p hp=>by cases hp) (by simp) (by simp);rw[aeZ] at hN;dsimp only[sH] at hN;have hI:=acA jG hO.ok hO.m hO.b hO.maps hO.bo;obtain⟨Z,zq,⟨c0,c1,c2,c3,c4,c5,L,aaV,v4,afK⟩,Eg,cF,yU,fz,uo⟩:=aeY;generalize Fp=t at*;obtain⟨m,step,ar,calls,full,cO,bad⟩:=t;simp only at Z zq L Eg cF yU fz uo;subst Z;subst zq;subst L;have yK:=HX jG hO m uo 1 0;have Bo:=HX jG hO m uo 2 0;have Bp:=HX jG hO m uo 3 0;rw[Eg] at yK;rw[cF] at Bo;rw[yU] at Bp;have P0:=Jx (1,[5],[9]) (1,[5],[9]) (by simp) (by simp);have P1:=Jx (2,[],[3]) (2,[],[3]) (by simp) (by simp);have P3:=Jx (3,[],[6]) (3,[],[6]) (by simp) (by simp);rw[show decide (((1,[5],[9]):AN)=(1,[5],[9]))=true from rfl] at P0;rw[show decide (((2,[],[3]):AN)=(2,[],[3]))=true from rfl] at P1;rw[show decide (((3,[],[6]):AN)=(3,[],[6]))=true from rfl] at P3;have Bv:=acF jG hO m uo;have dH:=aeX;unfold m9 at hI;generalize c9 (ol jG)=agb at hI;rw[dH] at hI;clear Eg cF yU dH hO;generalize Ci jG m=NS at*;generalize jG=l at*;refine sP func8 ntmps8 λ w cl=>?_
 refine gA oQ ?_;refine nT (abC (iA:=oX AE []) 21 rfl rfl) ?_;refine go ?_;refine cI hP ?_;rintro d Y ⟨rfl,rfl⟩;refine gA hN ?_;refine cA hI ?_;refine go ?_;refine(show CK false _ _ from ?_);refine go ?_;clear hN hI hP oQ;refine ey (cb:=⟨[(6,dB true),(5,.ptr 9 0),(3,.ptr 30 0),(1,.ptr 0 0)],(9,[E 0,dB false,E 1,E (-1),eh []])::(nL ⟨m,step,ar,[c0,c1,c2,c3,c4,c5],full,false,false⟩ 1++[(0,cG l)]),[]⟩) ?_ ?_
 ·exact zX (Z:=⟨⟨rfl,rfl⟩,⟨rfl,rfl⟩,⟨rfl,jZ _ _ _⟩,⟨rfl,jW _ _ _⟩,⟨rfl,j8 _ _ _⟩,⟨rfl,jX _ _ _⟩,⟨rfl,jQ _ _ _⟩,⟨rfl,rfl⟩,trivial⟩)
 refine gD [] ?_;refine ri [pI c4.al,pI c4.op.kind,pI c4.op.obj,pI c4.op.a,pI c4.op.b,pI c4.val,pB c4.is,pI c4.first,pI c4.last,pI c4.c6] (F4 (l:=[c0,c1,c2,c3,c4,c5]) (i:=(4:Int)) (x:=c4) rfl) ?_;refine br ?_;rw[aaV];refine br ?_;refine ri [pI c4.al,pI c4.op.kind,pI c4.op.obj,pI c4.op.a,pI c4.op.b,pI c4.val,pB c4.is,pI c4.first,pI c4.last,pI c4.c6] (F4 (l:=[c0,c1,c2,c3,c4,c5]) (i:=(4:Int)) (x:=c4) rfl) ?_;refine br ?_;rw[v4];refine br ?_;refine ri [pI c5.al,pI c5.op.kind,pI c5.op.obj,pI c5.op.a,pI c5.op.b,pI c5.val,pB c5.is,pI c5.first,pI c5.last,pI c5.c6] (F4 (l:=[c0,c1,c2,c3,c4,c5]) (i:=(5:Int)) (x:=c5) rfl) ?_;refine br ?_;rw[afK];refine gQ yK ?_;refine cQ P0 ?_;refine gQ Bo ?_;refine cQ P1 ?_;refine gQ Bp ?_;refine cQ P3 ?_;refine gQ Bv ?_;refine gf ?_;rw[fz]
 rfl
end Go.Proofs.YtcnefjfboagbmaaGreat
