/- Plays of a map: what will be told of operations; looks that are points. -/
import Derived.Test.YtkkldicehapklaaGreatPV
import Derived.Test.YtkkldicehapklaaGreatPT
import Derived.Test.YtkkldicehapklaaGreatPU
namespace Go.Proofs.YtkkldicehapklaaGreat.Tq
set_option maxRecDepth 100000
def xu(p:bU)(ts:List Int)(w i:Nat):Q Lk:=match(bb p ts i).ar[w]? with
 |some x=>(bo p x).q
 |none=>pS []
def fH(p:bU)(ts:List Int)(w:Nat):Nat->Nat->bd
 |0,_=>gl
 |k+1,i=>match(xu p ts w (i+1)).R with
  |.fin o=>o
  |_=>fH p ts w k (i+1)
def mA(h:Hq):Prop:=∃z d aN,h.ph=.li z [] d aN
theorem yS{p:bU}{ts:List Int}{w i:Nat}{x:bp}(hx:(bb p ts i).ar[w]?=some x):xu p ts w i=(bo p x).q:=by unfold xu;rw[hx]
theorem x7{p:bU}{ts:List Int}{w i k:Nat}(h:∀o,(xu p ts w (i+1)).R≠.fin o):fH p ts w (k+1) i=fH p ts w k (i+1):=by
 rw[fH];split
 ·rename_i o ho;exact absurd ho (h o)
 ·rfl
theorem Ie{p:bU}{ts:List Int}{w i k:Nat}{o:bd}(h:(xu p ts w (i+1)).R=.fin o):fH p ts w (k+1) i=o:=by rw[fH,h]
theorem Di(op:a9)(z d:Int)(aN:Nat)(q:Q Lk)(m:Nat):(∃o,q.R=.fin o/\(ec op z [] d aN q m=⟨.ad z (jR o aN),q,m⟩/\o.is=true/\(op.kind=2\/op.kind=3)\/ec op z [] d aN q m=⟨.fin (jR o aN),q,m⟩))\/((∀o,q.R≠.fin o)/\ec op z [] d aN q m=⟨.li z [] d aN,q,m⟩):=by
 unfold ec;split
 ·rename_i o ho;refine .inl ⟨o,ho,?_⟩;unfold kw;simp only;split
  ·rename_i h;exact .inl ⟨rfl,h.1,h.2⟩
  ·exact .inr rfl
 ·rename_i h;exact .inr ⟨h,rfl⟩
theorem KE{p:bU}(G:dZ p){ts:List Int}(dR:ts.length<=300){i:Nat}(hi:i<hZ p ts){V:Vw}{aw X:List Int}{g:dF}(hG:GH p (2*i+1) (bb p ts i) V aw X g):∃ba cE be bg,nW p (bN p.want.length ts i) (bb p ts i) V aw X g (bb p ts (i+1)) ba cE be bg/\GH p (2*(i+1)+1) (bb p ts (i+1)) ba cE be bg:=by
 have dH:hZ p ts<=4800:=by have:=G.w3;unfold hZ;omega
 exact hG.step G (by omega) (KN G hi)
structure Zt(p:bU)(op:a9)(z d:Int)(aN:Nat)(W:Ws)(X:List Int)(h:Hq):Prop where
 ask:h.q.R.gX
 shape:cJ h.q
 ah2:ie (eu op [] d) (cB (aO p) op [] d) h.q.R
 lk:qe h.q
 made:h.made=aN+h.q.s.made
theorem akb{o:Or}{op:a9}{gone:List (Int×Int)}:qe (d6 o op gone):=by have hn:cC (d6 o op gone).R=none:=Mx op;exact⟨λ a ha=>(by rw[hn] at ha;cases ha),λ _ t ht=>(by simp[d6,dl,bm] at ht),λ _=>trivial⟩
theorem yF{p:bU}{op:a9}{W:Ws}{X:List Int}{h:Hq}(bv:kT op){z d:Int}{aN:Nat}(gy:h.ph=.li z [] d aN)(hk:kr p W X op h):Zt p op z d aN W X h:=by
 have aF:=A1 bv hk;obtain⟨ph,q,made⟩:=h;simp only at gy;subst gy;obtain⟨hz,ht,K,⟨gone,ap,hR,nG,hm⟩,io,rJ⟩:=hk;have hR:q=_:=hR;have eN:=vL (op:=op) (l:=aO p) (aU:=[]) (d:=d) bv.1;have hf:=LR.facts (w:=0) eN _ rfl nG;refine⟨io,aF,?_,?_,?_⟩
 ·show ie _ _ q.R;rw[hR];exact yL ap (xB _ _ _) ⟨rfl,B1 eN⟩
 ·show qe q;rw[hR];exact Jw ap (xB _ _ _) akb
 ·show made=aN+q.s.made;have hm:made=aN+ap.length:=hm;rw[hm,hR,hf.2.1]
theorem ME{p:bU}(G:dZ p){ts:List Int}(dR:ts.length<=300):∀(k i:Nat),i+k=hZ p ts->∀(w:Nat)(x:bp),(bb p ts i).ar[w]?=some x->mA (bo p x)->∃ap,(bZ U p.want.length (bo p x).q ap).R=.fin (fH p ts w k i)
 |0,i,hi,w,x,hx,hm=>by
  rw[Nat.add_zero] at hi;subst hi;obtain⟨V,aw,X,g,hG,_⟩:=xC G dR _ (Nat.le_refl _);have C7:w<p.want.length:=by have:=(List.getElem?_eq_some_iff.1 hx).1;have:=hG.n;omega
  have:=((PB G dR).2 w x _ hx (List.getElem?_eq_getElem C7)).1;obtain⟨z,d,aN,hm⟩:=hm;rw[oW this] at hm;cases hm
 |k+1,i,hi,w,x,hx,hm=>by
  obtain⟨V,aw,X,g,hG,_⟩:=xC G dR i (by omega);obtain⟨ba,cE,be,bg,hS,tP⟩:=KE G dR (by omega) hG;have ih:=ME G dR k (i+1) (by omega) w
  by_cases yB:w=bN p.want.length ts i
  ·subst yB;have fY:x.op.kind≠0:=λ e=>by
    obtain⟨z,d,aN,hm⟩:=hm;rw[oW e] at hm;cases hm
   have bv:=(hG.iv _ x hx).op.resolve_left fY;have hk:=(hG.iv _ x hx).hk fY;obtain⟨z,d,aN,gy⟩:=hm;have hM:=yF bv gy hk;generalize bY:bb p ts (i+1)=ah at*;cases hS with
   |idle qV ws cX hw h0 ha=>rw[hx] at cX;cases cX;exact absurd h0 fY
   |done qV hh o cX h0 cU ct Z cW qC=>rw[hx] at cX;cases cX;rw[<-cU,ct] at gy;cases gy
   |acc qV y ws hh aB cX hw hy ho cU fe cg mu Z hK hq hI=>
    rw[hx] at cX;cases cX;have Bs:y=x:=(tD hy).elim (λ h=>h.2) λ h=>absurd h.1 fY
    subst Bs;rw[<-cU] at gy hM⊢;have e1:bo p {y with log:=y.log++[(cF p (bN p.want.length ts i) y.op hh V).2],steps:=y.steps++[(bb p ts i).step]}=eW (aO p) p.want.length y.op hh (cF p (bN p.want.length ts i) y.op hh V).2:=by rw[wv ho,<-cU]
    have gM:(bb p ts (i+1)).ar[bN p.want.length ts i]?=some {y with log:=y.log++[(cF p (bN p.want.length ts i) y.op hh V).2],steps:=y.steps++[(bb p ts i).step]}:=by rw[bY];exact uG hx
    have ih:=ih _ (by rw[<-bY];exact gM);have cq:=yS gM;rw[e1] at cq ih;generalize(cF p (bN p.want.length ts i) y.op hh V).2=r at cq ih;obtain⟨ph,q,made⟩:=hh;simp only at gy;subst gy;have cq:xu p ts (bN p.want.length ts i) (i+1)=tell U p.want.length q r:=by rw[cq];exact BA _ _ _ _ _ _
    have ih:mA (ec y.op z [] d aN (tell U p.want.length q r) (made+1))->∃ap,(bZ U p.want.length (ec y.op z [] d aN (tell U p.want.length q r) (made+1)).q ap).R=.fin (fH p ts (bN p.want.length ts i) k (i+1)):=ih;rw[BA] at ih;rcases Di y.op z d aN (tell U p.want.length q r) (made+1) with⟨o,cY,_⟩|⟨cv,e⟩
    ·refine⟨[r],?_⟩;rw[Ie (by rw[cq];exact cY)];exact cY
    ·obtain⟨ap,hR⟩:=ih ⟨z,d,aN,by rw[e]⟩;refine⟨r::ap,?_⟩;rw[x7 (by rw[cq];exact cv)];exact hR
  ·have gM:(bb p ts (i+1)).ar[w]?=some x:=by rw[Kt hS yB];exact hx
   obtain⟨ap,hR⟩:=ih x gM hm;refine⟨ap,?_⟩;rw[x7,hR];intro o ho;rw[yS gM] at ho;have fY:x.op.kind≠0:=λ e=>by
    obtain⟨z,d,aN,hm⟩:=hm;rw[oW e] at hm;cases hm
   obtain⟨z,d,aN,gy⟩:=hm;have:=(yF ((hG.iv _ x hx).op.resolve_left fY) gy ((hG.iv _ x hx).hk fY)).ask;rw[ho] at this;exact this
def Zs(p:bU)(ts:List Int)(k i:Nat)(W:Ws)(X:List Int):Prop:=∀(w:Nat)(x:bp),(bb p ts i).ar[w]?=some x->mA (bo p x)->cC (bo p x).q.R=none->(fH p ts w k i).aD∈bm (bo p x).q.R->(fH p ts w k i).err=0/\uQ W X (fH p ts w k i).aD (bo p x).q.R
theorem JD{p:bU}{x:bp}(hm:mA (bo p x)):x.op.kind≠0:=λ e=>by
 obtain⟨z,d,aN,hm⟩:=hm;rw[oW e] at hm;cases hm
theorem VU{p:bU}(G:dZ p){ts:List Int}(dR:ts.length<=300):∀(k i:Nat),i+k=hZ p ts->∀V aw X g,GH p (2*i+1) (bb p ts i) V aw X g->Zs p ts k i V.W X
 |0,i,hi,V,aw,X,g,hG=>λ w x hx hm=>by
  rw[Nat.add_zero] at hi;subst hi;have C7:w<p.want.length:=by have:=(List.getElem?_eq_some_iff.1 hx).1;have:=hG.n;omega
  have:=((PB G dR).2 w x _ hx (List.getElem?_eq_getElem C7)).1;exact absurd this (JD hm)
 |k+1,i,hi,V,aw,X,g,hG=>by
  have hN:=pm G;obtain⟨ba,cE,be,bg,hS,tP⟩:=KE G dR (show i<hZ p ts by omega) hG;have ih:=VU G dR k (i+1) (by omega) ba cE be bg tP;have t9:=ME G dR k (i+1) (by omega);intro w x hx hm cW Z;have fY:=JD hm;have bv:=(hG.iv _ x hx).op.resolve_left fY;have hk:=(hG.iv _ x hx).hk fY;obtain⟨z,d,aN,gy⟩:=hm;have hM:=yF bv gy hk
  by_cases yB:w=bN p.want.length ts i
  ·subst yB;have ih:=ih (bN p.want.length ts i);have t9:=t9 (bN p.want.length ts i);generalize bY:bb p ts (i+1)=ah at*;cases hS with
   |idle qV ws cX hw h0 ha=>rw[hx] at cX;cases cX;exact absurd h0 fY
   |done qV hh o cX h0 cU ct Z cW qC=>rw[hx] at cX;cases cX;rw[<-cU,ct] at gy;cases gy
   |acc qV y ws hh aB cX hw hy ho cU fe cg mu fl hK hq hI=>
    rw[hx] at cX;cases cX;have Bs:y=x:=(tD hy).elim (λ h=>h.2) λ h=>absurd h.1 fY
    subst Bs;rw[<-cU] at gy hM cW Z⊢;have e1:bo p {y with log:=y.log++[(cF p (bN p.want.length ts i) y.op hh V).2],steps:=y.steps++[(bb p ts i).step]}=eW (aO p) p.want.length y.op hh (cF p (bN p.want.length ts i) y.op hh V).2:=by rw[wv ho,<-cU]
    have gM:(bb p ts (i+1)).ar[bN p.want.length ts i]?=some {y with log:=y.log++[(cF p (bN p.want.length ts i) y.op hh V).2],steps:=y.steps++[(bb p ts i).step]}:=by rw[bY];exact uG hx
    have ih:=ih _ (by rw[<-bY];exact gM);have t9:=t9 _ (by rw[<-bY];exact gM);have cq:=yS gM;rw[e1] at cq ih t9;obtain⟨ph,q,made⟩:=hh;simp only at gy;subst gy;have hq:(jK p (bb p ts i).ar)[bN p.want.length ts i]?=some q:=hq;have cq:xu p ts (bN p.want.length ts i) (i+1)=tell U p.want.length q (act V (aS U (bN p.want.length ts i) q.R)).2:=by rw[cq];exact BA _ _ _ _ _ _
    have ih:mA (ec y.op z [] d aN (tell U p.want.length q (act V (aS U (bN p.want.length ts i) q.R)).2) (made+1))->cC (ec y.op z [] d aN (tell U p.want.length q (act V (aS U (bN p.want.length ts i) q.R)).2) (made+1)).q.R=none->(fH p ts (bN p.want.length ts i) k (i+1)).aD∈bm (ec y.op z [] d aN (tell U p.want.length q (act V (aS U (bN p.want.length ts i) q.R)).2) (made+1)).q.R->(fH p ts (bN p.want.length ts i) k (i+1)).err=0/\uQ (act V (aS U (bN p.want.length ts i) q.R)).1.W (hc (a7 (nQ p)) V.W X g q.R).1 (fH p ts (bN p.want.length ts i) k (i+1)).aD (ec y.op z [] d aN (tell U p.want.length q (act V (aS U (bN p.want.length ts i) q.R)).2) (made+1)).q.R:=ih;have t9:mA (ec y.op z [] d aN (tell U p.want.length q (act V (aS U (bN p.want.length ts i) q.R)).2) (made+1))->∃ap,(bZ U p.want.length (ec y.op z [] d aN (tell U p.want.length q (act V (aS U (bN p.want.length ts i) q.R)).2) (made+1)).q ap).R=.fin (fH p ts (bN p.want.length ts i) k (i+1)):=t9;rw[BA] at ih t9;have mo:q.R.gX:=hM.ask;have sD:cJ q:=hM.shape;have yd:qe q:=hM.lk;have cW:cC q.R=none:=cW;rcases Di y.op z d aN (tell U p.want.length q (act V (aS U (bN p.want.length ts i) q.R)).2) (made+1) with⟨o,cY,_⟩|⟨cv,e⟩
    ·have e2:fH p ts (bN p.want.length ts i) (k+1) i=o:=Ie (by rw[cq];exact cY);rw[e2] at Z⊢;exact VV (ap:=[]) (by omega) hI hq mo sD yd cW cY Z (λ h=>by rw[cY] at h;cases h)
    ·have e2:fH p ts (bN p.want.length ts i) (k+1) i=fH p ts (bN p.want.length ts i) k (i+1):=x7 (by rw[cq];exact cv);rw[e2] at Z⊢;obtain⟨ap,hR⟩:=t9 ⟨z,d,aN,by rw[e]⟩;exact VV (by omega) hI hq mo sD yd cW hR Z (ih ⟨z,d,aN,by rw[e]⟩)
  ·have gM:(bb p ts (i+1)).ar[w]?=some x:=by rw[Kt hS yB];exact hx
   have e2:fH p ts w (k+1) i=fH p ts w k (i+1):=x7 λ o ho=>by
    rw[yS gM] at ho;have:=hM.ask;rw[ho] at this;exact this
   rw[e2] at Z⊢;obtain⟨i1,i2⟩:=ih w x gM ⟨z,d,aN,gy⟩ cW Z;refine⟨i1,?_⟩;have FH:=(hG.inv.loc w _ (xv hx)).R;generalize bY:bb p ts (i+1)=ah at*;cases hS with
   |idle qV ws cX hw h0 ha=>exact i2
   |done qV hh o cX h0 cU ct Z cW qC=>exact i2
   |acc qV y ws hh aB cX hw hy ho cU fe cg mu fl hK hq hI=>have EX:=J3 G hI hK hq ho cg hG.nh fe;exact agO EX.mH (λ i n h=>qS h) FH i2
def jg(c:v5):List (Int×Int):=((c.keys.zip c.jA).filter λ y=>decide (y.1%2=1)).map λ y=>(xg y.1,y.2)
section
variable{A B VA VB:List Int}{x v k:Int}
theorem H6(h:A.length=VA.length):jg ⟨k,A++B,VA++VB⟩=jg ⟨k,A,VA⟩++jg ⟨k,B,VB⟩:=by unfold jg;simp only;rw[List.zip_append h,List.filter_append,List.map_append]
theorem acd:jg ⟨k,x::B,v::VB⟩=(if x%2=1 then[(xg x,v)] else[])++jg ⟨k,B,VB⟩:=by
 unfold jg;simp only[List.zip_cons_cons,List.filter_cons]
 by_cases h:x%2=1
 ·simp[h]
 ·simp[h]
theorem Mm(h:A.length=VA.length):jg ⟨k,A++x::B,VA++v::VB⟩=jg ⟨k,A,VA⟩++((if x%2=1 then[(xg x,v)] else[])++jg ⟨k,B,VB⟩):=by rw[H6 h,acd]
theorem Yo{c:v5}(F:BV c=true)(hk:c.kind=1)(x:Int):∃A B VA VB,A.length=VA.length/\B.length=VB.length/\(∀y∈A,y<x)/\(∀y∈B,x<y)/\((∃v,c=⟨1,A++x::B,VA++v::VB⟩)\/c=⟨1,A++B,VA++VB⟩):=by
 obtain⟨kind,keys,jA⟩:=c;simp only at hk;subst hk;unfold BV at F;simp only[if_true,Bool.and_eq_true,decide_eq_true_eq] at F;obtain⟨Z,hr⟩:=F;have rN:=List.takeWhile_append_dropWhile (p:=λ y=>decide (y<x)) (l:=keys);have hA:∀y∈keys.takeWhile (λ y=>decide (y<x)),y<x:=λ y hy=>by
  have:=List.all_eq_true.1 (List.all_takeWhile (p:=λ y=>decide (y<x)) (l:=keys)) y hy;exact of_decide_eq_true this
 generalize alD:keys.takeWhile (λ y=>decide (y<x))=A at*;cases K:keys.dropWhile (λ y=>decide (y<x)) with
 |nil=>rw[K] at rN;refine⟨A,[],jA,[],by rw[<-Z,<-rN];simp,rfl,hA,λ y hy=>(by cases hy),.inr ?_⟩;rw[rN];simp
 |cons z B=>
  rw[K] at rN;have hz:¬z<x:=by
   have:=List.head_dropWhile_not (p:=λ y=>decide (y<x)) (l:=keys) (by rw[K];simp);simp only[K,List.head_cons] at this
   simpa using this
  have cx:A.length<jA.length:=by rw[<-Z,<-rN];simp
  have qK:jA=jA.take A.length++jA[A.length]::jA.drop (A.length+1):=by rw[<-List.drop_eq_getElem_cons cx,List.take_append_drop]
  have A3:B.length=(jA.drop (A.length+1)).length:=by rw[List.length_drop,<-Z,<-rN];simp;omega
  have Ut:A.length=(jA.take A.length).length:=by rw[List.length_take];omega
  rw[Hw,<-rN,List.pairwise_append] at hr;have hB:=(List.pairwise_cons.1 hr.2.1).1
  by_cases e:z=x
  ·subst e;exact⟨A,B,jA.take A.length,jA.drop (A.length+1),Ut,A3,hA,hB,.inl ⟨jA[A.length],by rw[rN,<-qK]⟩⟩
  ·refine⟨A,z::B,jA.take A.length,jA[A.length]::jA.drop (A.length+1),Ut,by rw[List.length_cons,List.length_cons,A3],hA,λ y hy=>?_,.inr (by rw[rN,<-qK])⟩;rcases List.mem_cons.1 hy with rfl|hy
   ·omega
   ·have:=hB y hy;omega
end
theorem ab3{c aT:v5}{op vK:a9}{v:Int}{b:Bool}(F:BV c=true)(eN:c.kind=1)(hk:op.kind=1\/op.kind=2\/op.kind=3)(cg:vK.kind=op.kind)(Ni:vK.a=lH op.a)(fO:vK.b=op.b)(ha:0<=op.a/\op.a<65536)(FO:∀y∈c.keys,y%2=1->∃k,0<=k/\k<65536/\y=lH k)(h:mC c vK=(aT,v,b)):xG op (jg c) (jg aT) ⟨v,b,0,0,[]⟩:=by
 have I6:=PS ha.1 ha.2;have vh:=Vt ha.1 ha.2;obtain⟨A,B,VA,VB,l1,l2,hA,hB,T⟩:=Yo F eN (lH op.a);rcases T with⟨v0,rfl⟩|rfl
 ·obtain⟨e1,e2⟩:=It (k:=1) (B:=B) (VA:=VA) (VB:=VB) (v:=v0) hA;have Y:jg ⟨1,A++lH op.a::B,VA++v0::VB⟩=jg ⟨1,A,VA⟩++((op.a,v0)::jg ⟨1,B,VB⟩):=by
   rw[Mm l1,if_pos I6.2.2,vh];rfl
  unfold mC at h;rw[cg,Ni,e1,e2] at h;simp only[if_true] at h;refine .inl ⟨v0,by rw[Y];simp,?_⟩;rcases hk with k|k|k
  ·rw[if_pos k] at h;injection h with h1 u
   injection u with u J
   rw[<-h1];rw[Tn l1.symm] at u;exact .inl ⟨k,.refl _,u.symm,J.symm⟩
  ·rw[if_neg (by omega),if_pos k] at h;injection h with h1 u
   injection u with u J
   rw[<-h1];exact .inr (.inl ⟨k,.refl _,u.symm,J.symm⟩)
  ·rw[if_neg (by omega),if_neg (by omega)] at h;injection h with h1 u
   injection u with u J
   rw[H1 rfl,H1 l1.symm] at h1;rw[<-h1,Y,H6 l1];exact .inr (.inr ⟨k,List.perm_middle,u.symm,J.symm⟩)
 ·obtain⟨e1,e2⟩:=Nm (k:=1) hA hB (vs:=VA++VB);have cv:∀aH,(op.a,aH)∉jg ⟨1,A++B,VA++VB⟩:=λ aH hu=>by
   unfold jg at hu;obtain⟨y,hy,e⟩:=List.mem_map.1 hu;obtain⟨fp,vz⟩:=List.mem_filter.1 hy;have vz:y.1%2=1:=by simpa using vz
   have On:y.1∈A++B:=(List.of_mem_zip fp).1;obtain⟨k,k0,k1,ek⟩:=FO y.1 On vz;have e:xg y.1=op.a:=congrArg Prod.fst e;rw[ek,Vt k0 k1] at e;rw[ek,e] at On;rcases List.mem_append.1 On with h|h
   ·have:=hA _ h;omega
   ·have:=hB _ h;omega
  unfold mC at h;rw[cg,Ni,e1,e2] at h;simp only[Bool.false_eq_true,if_false] at h;refine .inr ⟨cv,?_⟩;rcases hk with k|k|k
  ·rw[if_pos k] at h;injection h with h1 u
   injection u with u J
   rw[<-h1];exact .inl ⟨by omega,.refl _,u.symm,J.symm⟩
  ·rw[if_neg (by omega),if_pos k] at h;injection h with h1 u
   injection u with u J
   rw[Dc rfl,Dc l1.symm,fO] at h1;rw[<-h1,Mm l1,if_pos I6.2.2,vh,H6 l1];exact .inr ⟨k,List.perm_middle,u.symm,J.symm⟩
  ·rw[if_neg (by omega),if_neg (by omega)] at h;injection h with h1 u
   injection u with u J
   rw[<-h1];exact .inl ⟨by omega,.refl _,u.symm,J.symm⟩
theorem abP{c aT:v5}{vK:a9}{v:Int}{b:Bool}(F:BV c=true)(eN:c.kind=1)(cg:vK.kind=2)(Ni:vK.a%2=0)(h:mC c vK=(aT,v,b)):jg aT=jg c:=by
 obtain⟨A,B,VA,VB,l1,l2,hA,hB,T⟩:=Yo F eN vK.a;rcases T with⟨v0,rfl⟩|rfl
 ·obtain⟨e1,e2⟩:=It (k:=1) (B:=B) (VA:=VA) (VB:=VB) (v:=v0) hA;unfold mC at h;rw[cg,e1,if_neg (by omega),if_pos rfl,if_pos rfl] at h;injection h with h1 _
  rw[<-h1]
 ·obtain⟨e1,e2⟩:=Nm (k:=1) hA hB (vs:=VA++VB);unfold mC at h;rw[cg,e1,e2,if_neg (by omega),if_pos rfl] at h;simp only[Bool.false_eq_true,if_false] at h;injection h with h1 _
  rw[Dc rfl,Dc l1.symm] at h1;rw[<-h1,Mm l1,if_neg (by omega),H6 l1]
  rfl
section
variable{p:bU}{i:Nat}{t fA:cP}{V ba:Vw}{aw X cE be:List Int}{g bg:dF}
def Ee(W:Ws)(X:List Int):Prop:=∀n∈X,W.nd n 1%2=1->∃k,0<=k/\k<65536/\W.nd n 1=lH k
theorem Ee.keys{W:Ws}{X:List Int}(h:Ee W X):∀y∈(dm W X).keys,y%2=1->∃k,0<=k/\k<65536/\y=lH k:=λ y hy ho=>by
 obtain⟨n,hn,rfl⟩:=List.mem_map.1 hy;exact h n (Bu hn) ho
theorem WP{aB:Nat}{qs:List (Q Lk)}{w:Nat}{op:a9}{h:Hq}(G:dZ p)(hI:Inv (a7 (nQ p)) (aO p) p.want.length (nQ p) aB V qs aw X g)(hq:qs[w]?=some h.q)(bv:kT op)(hk:kr p V.W X op h)(Y:gq V.W (cF p w op h V).1.W X (ot (nQ p) V.W X g h).1 (Dq (a7 (nQ p)) qs) (eQ (a7 (nQ p)) h.q.R))(hO:Ee V.W X):Ee (cF p w op h V).1.W (ot (nQ p) V.W X g h).1:=by
 have hN:=pm G;have dL:∀{n:Int},n∈X->(cF p w op h V).1.W.nd n 1%2=1->∃k,0<=k/\k<65536/\(cF p w op h V).1.W.nd n 1=lH k:=λ{n} hn ho=>by
  rw[(Y.key n (.inl hn)).1] at ho⊢;exact hO n hn ho
 obtain⟨ph,q,made⟩:=h;cases ph with
 |li z aU d aN=>
  have hq:qs[w]?=some q:=hq;have aF:cJ q:=A1 bv hk;have io:q.R.gX:=hk.2.2.2.2.1;obtain⟨hz,ht,K,⟨gone,ap,hR,nG,hm⟩,_,rJ⟩:=hk;have hR:q=_:=hR;have eN:=vL (op:=op) (l:=aO p) (aU:=aU) (d:=d) bv.1;have bL:ie (eu op aU d) (cB (aO p) op aU d) q.R:=by rw[hR];exact yL ap (xB _ _ _) ⟨rfl,B1 eN⟩
  have iE:KU (nQ p) p.want.length w V X g q:=Lp (by omega) hI hq io aF;intro n hn ho;have hn:n∈(hc (a7 (nQ p)) V.W X g q.R).1:=hn;cases iE with
  |vA hk hW hX=>rw[hX] at hn;exact dL hn ho
  |own k hk h=>
   cases h with
   |same hX=>rw[hX] at hn;exact dL hn ho
   |mark o D cur aA cg ge hX=>rw[hX] at hn;exact dL hn ho
   |cut cur cg ge Z T=>exact dL (T n hn) ho
   |put o v cO D cur A B cg ge hX vc cv=>
    rw[vc] at hn;rcases List.mem_append.1 hn with hn|hn
    ·exact dL (by rw[hX];simp[hn]) ho
    ·rcases List.mem_cons.1 hn with rfl|hn
     ·rw[hk,cg] at bL;obtain⟨rfl,UN⟩:o=_/\_:=bL;have cv:(cF p w op ⟨.li z aU d aN,q,made⟩ V).1.W.nd n 1=(eu op aU d).o:=cv;rw[cv] at ho⊢;cases aU with
      |nil=>exact⟨op.a,bv.2.2.1.1,bv.2.2.1.2,rfl⟩
      |cons c al=>have:=xV G hz (c:=c) (by have:=ht.1;omega) ht.2.1;have e:(eu op (c::al) d).o=fv c:=rfl;omega
     ·exact dL (by rw[hX];simp[hn]) ho
 |_=>exact λ n hn ho=>dL hn ho
theorem ace{aB:Nat}{qs:List (Q Lk)}{w:Nat}{op:a9}{h:Hq}(G:dZ p)(hI:Inv (a7 (nQ p)) (aO p) p.want.length (nQ p) aB V qs aw X g)(hq:qs[w]?=some h.q)(bv:kT op)(hk:kr p V.W X op h)(aW:∀z d aN,h.ph=.li z [] d aN->cC (tell U p.want.length h.q (act V (aS U w h.q.R)).2).R≠some (h.q.s.made:Int)):jg (dm (cF p w op h V).1.W (ot (nQ p) V.W X g h).1)=jg (dm V.W X):=by
 have hN:=pm G;have afn:BV (dm V.W X)=true:=R6 hI.si;obtain⟨ph,q,made⟩:=h;cases ph with
 |li z aU d aN=>
  have hq:qs[w]?=some q:=hq;have aF:cJ q:=A1 bv hk;obtain⟨hz,ht,K,⟨gone,ap,hR,nG,hm⟩,_,rJ⟩:=hk;have hR:q=_:=hR;have eN:=vL (op:=op) (l:=aO p) (aU:=aU) (d:=d) bv.1;have bL:ie (eu op aU d) (cB (aO p) op aU d) q.R:=by rw[hR];exact yL ap (xB _ _ _) ⟨rfl,B1 eN⟩
  have Fo:=Lq (by omega) hI hq aF (r:=eu op aU d) (op:=cB (aO p) op aU d) (by cases aU<;>rfl) bL;rcases Fo with h1|h1
  ·show jg (dm (act V (aS U w q.R)).1.W (hc (a7 (nQ p)) V.W X g q.R).1)=_;rw[h1.1]
  ·cases aU with
   |nil=>exact absurd h1.2.1 (aW z d aN rfl)
   |cons c al=>have:=xV G hz (c:=c) (by have:=ht.1;omega) ht.2.1;exact abP afn rfl rfl this h1.2.2.2
 |cb z al c n=>
  show jg (dm (act V (.cs (.ob (aQ p c)) 0 n)).1.W X)=_;have:(act V (.cs (.ob (aQ p c)) 0 n)).1.W.nd=V.W.nd:=by simp only[act];split<;>rfl
  unfold dm eP;rw[this]
 |cz z o=>
  show jg (dm (act V (.cs (.ob (cT p)) z (2*z))).1.W X)=_;have:(act V (.cs (.ob (cT p)) z (2*z))).1.W.nd=V.W.nd:=by simp only[act];split<;>rfl
  unfold dm eP;rw[this]
 |_=>rfl
end
theorem Te{p:bU}(G:dZ p){ts:List Int}(dR:ts.length<=300):∀(k i:Nat),i+k=hZ p ts->∀(w:Nat)(x:bp),(bb p ts i).ar[w]?=some x->mA (bo p x)->(fH p ts w k i).err=0
 |0,i,hi,w,x,hx,hm=>rfl
 |k+1,i,hi,w,x,hx,hm=>by
  obtain⟨V,aw,X,g,hG,_⟩:=xC G dR i (by omega);obtain⟨ba,cE,be,bg,hS,tP⟩:=KE G dR (by omega) hG;obtain⟨_,_,_,_,_,pJ⟩:=xC G dR (i+1) (by omega);have Nb:=pJ.n.err;have ih:=Te G dR k (i+1) (by omega) w;have fY:=JD hm;have bv:=(hG.iv _ x hx).op.resolve_left fY;have hk:=(hG.iv _ x hx).hk fY
  by_cases yB:w=bN p.want.length ts i
  ·subst yB;obtain⟨z,d,aN,gy⟩:=hm;have hM:=yF bv gy hk;generalize bY:bb p ts (i+1)=ah at*;cases hS with
   |idle qV ws cX hw h0 ha=>rw[hx] at cX;cases cX;exact absurd h0 fY
   |done qV hh o cX h0 cU ct Z cW qC=>rw[hx] at cX;cases cX;rw[<-cU,ct] at gy;cases gy
   |acc qV y ws hh aB cX hw hy ho cU fe cg mu Z hK hq hI=>
    rw[hx] at cX;cases cX;have Bs:y=x:=(tD hy).elim (λ h=>h.2) λ h=>absurd h.1 fY
    subst Bs;rw[<-cU] at gy hM;have e1:bo p {y with log:=y.log++[(cF p (bN p.want.length ts i) y.op hh V).2],steps:=y.steps++[(bb p ts i).step]}=eW (aO p) p.want.length y.op hh (cF p (bN p.want.length ts i) y.op hh V).2:=by rw[wv ho,<-cU]
    have gM:(bb p ts (i+1)).ar[bN p.want.length ts i]?=some {y with log:=y.log++[(cF p (bN p.want.length ts i) y.op hh V).2],steps:=y.steps++[(bb p ts i).step]}:=by rw[bY];exact uG hx
    have ih:=ih _ (by rw[<-bY];exact gM);have cq:=yS gM;have aW:=Nb _ _ (by rw[<-bY];exact gM);rw[e1] at cq ih aW;generalize(cF p (bN p.want.length ts i) y.op hh V).2=r at cq ih aW;obtain⟨ph,q,made⟩:=hh;simp only at gy;subst gy;have cq:xu p ts (bN p.want.length ts i) (i+1)=tell U p.want.length q r:=by rw[cq];exact BA _ _ _ _ _ _
    have ih:mA (ec y.op z [] d aN (tell U p.want.length q r) (made+1))->(fH p ts (bN p.want.length ts i) k (i+1)).err=0:=ih;have aW:oI (ec y.op z [] d aN (tell U p.want.length q r) (made+1)):=aW;rcases Di y.op z d aN (tell U p.want.length q r) (made+1) with⟨o,cY,he⟩|⟨cv,e⟩
    ·rw[Ie (by rw[cq];exact cY)];rcases he with⟨e,_⟩|e<;>rw[e] at aW<;>exact aW
    ·rw[x7 (by rw[cq];exact cv)];exact ih ⟨z,d,aN,by rw[e]⟩
  ·have gM:(bb p ts (i+1)).ar[w]?=some x:=by rw[Kt hS yB];exact hx
   rw[x7]
   ·exact ih x gM hm
   intro o ho;rw[yS gM] at ho;obtain⟨z,d,aN,gy⟩:=hm;have:=(yF bv gy hk).ask;rw[ho] at this;exact this
def jJ(w:Nat)(e:cw×Bool):Bool:=e.2&&decide (e.1.au=(w:Int))
def qk(out:bd)(W:Ws)(x:bp)(h:Hq)(op:List (cw×Bool)):Prop:=match h.ph with
 |.li _ [] _ aN=>(out.aD<h.q.s.made/\∃e,op=[e]/\e.1.op=x.op/\e.1.aD=x.steps.getD (aN+out.aD.toNat) 0/\iA e.1.val e.1.is W out.aD h.q.R)\/(h.q.s.made<=out.aD/\op=[]/\∀v b,iA v b W out.aD h.q.R)
 |.ad _ o|.cz _ o=>∃e,op=[e]/\e.1.op=x.op/\e.1.val=o.val/\e.1.is=o.is/\e.1.aD=x.steps.getD o.aD.toNat 0
 |.fin o=>(x.op.kind=0/\op=[])\/(x.op.kind≠0/\∃e,op=[e]/\e.1.op=x.op/\e.1.val=o.val/\e.1.is=o.is/\e.1.aD=x.steps.getD o.aD.toNat 0)
 |_=>op=[]
structure uN(p:bU)(ts:List Int)(k i:Nat)(t:cP)(W:Ws)(X:List Int)(H:List (cw×Bool)):Prop where
 runs:v7 [] (H.map (·.1)) (jg (dm W X))
 up:H.Pairwise λ a b=>a.1.aD<b.1.aD
 lt:∀e∈H,e.1.aD<t.step
 perm:t.calls.Perm ((H.filter λ e=>!e.2).map (·.1))
 au:∀e∈H,e.2=true->∃w:Nat,w<p.want.length/\e.1.au=(w:Int)
 Dy:∀e∈H,e.2=false->e.1.first<=e.1.aD/\e.1.aD<=e.1.last
 kind:∀e∈H,e.1.op.kind=1\/e.1.op.kind=2\/e.1.op.kind=3
 iv:∀(w:Nat)(x:bp),t.ar[w]?=some x->qk (fH p ts w k i) W x (bo p x) (H.filter (jJ w))
 yY:∀(w:Nat)(x:bp),t.ar[w]?=some x->x.steps.Pairwise (·<·)/\∀s∈x.steps,s<t.step
 gj:Ee W X
def lu(w:Nat)(c:cw)(e:cw×Bool):cw×Bool:=if jJ w e then(c,false) else e
theorem RW{w:Nat}{c:cw}{e0:cw×Bool}:∀{H:List (cw×Bool)},H.filter (jJ w)=[e0]->(((H.map (lu w c)).filter λ e=>!e.2).map (·.1)).Perm (((H.filter λ e=>!e.2).map (·.1))++[c])
 |[],h=>by cases h
 |e::H,h=>by
  have ahK:∀{H:List (cw×Bool)},H.filter (jJ w)=[]->H.map (lu w c)=H:=λ{H} h=>by
   have:∀e∈H,lu w c e=e:=λ e he=>by
    unfold lu;rw[if_neg];intro hh;have:=List.mem_filter.2 ⟨he,hh⟩;rw[h] at this;cases this
   rw[List.map_congr_left (g:=id) (λ e he=>this e he),List.map_id]
  rw[List.filter_cons] at h
  by_cases ho:jJ w e=true
  ·rw[if_pos ho] at h;have u:H.filter (jJ w)=[]:=(List.cons.inj h).2;have Y:e.2=true:=by
    unfold jJ at ho;rw[Bool.and_eq_true] at ho;exact ho.1
   rw[List.map_cons,ahK u];have e1:lu w c e=(c,false):=by unfold lu;rw[if_pos ho]
   rw[e1,List.filter_cons,List.filter_cons,Y];simp only[Bool.not_false,if_true,Bool.not_true,Bool.false_eq_true,if_false,List.map_cons];exact(List.perm_append_comm (l₁:=[c]))
  ·rw[if_neg ho] at h;have ih:=RW (c:=c) h;have e1:lu w c e=e:=by unfold lu;rw[if_neg ho]
   rw[List.map_cons,e1,List.filter_cons,List.filter_cons];split
   ·rw[List.map_cons,List.map_cons,List.cons_append];exact ih.cons _
   ·exact ih
theorem LU{w aA:Nat}{c:cw}:∀(H:List (cw×Bool)),(H.map (lu w c)).filter (jJ aA)=if aA=w then[] else H.filter (jJ aA)
 |[]=>by split<;>rfl
 |e::H=>by
  have ih:=LU (w:=w) (aA:=aA) (c:=c) H;rw[List.map_cons,List.filter_cons,List.filter_cons,ih]
  by_cases ho:jJ w e=true
  ·have e1:lu w c e=(c,false):=by unfold lu;rw[if_pos ho]
   have e2:jJ aA (lu w c e)=false:=by rw[e1];rfl
   rw[e2]
   by_cases hw:aA=w
   ·rw[if_pos hw,if_pos hw];rfl
   ·rw[if_neg hw,if_neg hw];have e3:jJ aA e=false:=by
     unfold jJ at ho⊢;rw[Bool.and_eq_true,decide_eq_true_eq] at ho;rw[ho.2,Bool.and_eq_false_iff];right;simp;omega
    rw[e3];rfl
  ·have e1:lu w c e=e:=by unfold lu;rw[if_neg ho]
   rw[e1]
   by_cases hw:aA=w
   ·subst hw;rw[if_pos rfl,if_pos rfl,if_neg ho]
   ·rw[if_neg hw,if_neg hw]
theorem Xk{l:List Int}(h:l.Pairwise (·<·)){a b:Nat}(sE:a<=b)(hb:b<l.length):l.getD a 0<=l.getD b 0:=by
 rw[List.getD_eq_getElem?_getD,List.getD_eq_getElem?_getD,List.getElem?_eq_getElem (by omega),List.getElem?_eq_getElem hb];simp only[Option.getD_some]
 by_cases e:a=b
 ·subst e;exact Int.le_refl _
 ·exact Int.le_of_lt (List.pairwise_iff_getElem.1 h a b (by omega) hb (by omega))
theorem EN{l:List Int}{a:Int}{j:Nat}(h:j<l.length):(l++[a]).getD j 0=l.getD j 0:=by rw[List.getD_eq_getElem?_getD,List.getD_eq_getElem?_getD,List.getElem?_append_left h]
theorem acO{l:List Int}{a:Int}{j:Nat}(h:j=l.length):(l++[a]).getD j 0=a:=by rw[List.getD_eq_getElem?_getD,h];simp
theorem Ks{p:bU}{W W':Ws}{x:bp}{op:List (cw×Bool)}{out vM:bd}(ho:mA (bo p x)->vM=out)(hr:∀v b,mA (bo p x)->iA v b W out.aD (bo p x).q.R->iA v b W' out.aD (bo p x).q.R)(h:qk out W x (bo p x) op):qk vM W' x (bo p x) op:=by
 generalize bo p x=hh at*;obtain⟨ph,q,made⟩:=hh;cases ph with
 |li z aU d aN=>
  cases aU with
  |nil=>
   have hm:mA ⟨.li z [] d aN,q,made⟩:=⟨z,d,aN,rfl⟩;rw[ho hm];rcases h with⟨h1,e,u,J,h4,h5⟩|⟨h1,u,J⟩
   ·exact .inl ⟨h1,e,u,J,h4,hr _ _ hm h5⟩
   ·exact .inr ⟨h1,u,λ v b=>hr v b hm (J v b)⟩
  |cons c al=>exact h
 |_=>exact h
theorem akc{v:Int}{b:Bool}{W:Ws}{tp:Int}(o:Or)(op:a9)(gone:List (Int×Int)):iA v b W tp (d6 o op gone).R:=iA.m7 (Mx op) rfl trivial
section
variable{p:bU}{ts:List Int}{k i:Nat}
theorem Rs{W:Ws}{y:bp}{out:bd}{op:a9}{z n:Int}{al:List Int}{gone:List (Int×Int)}{m:Nat}(h0:mA (iO (aO p) op z al n gone m)->0<=out.aD):qk out W y (iO (aO p) op z al n gone m) []:=by
 cases al with
 |nil=>exact .inr ⟨by show((0:Nat):Int)<=_;exact h0 ⟨_,_,_,rfl⟩,rfl,λ v b=>akc _ _ _⟩
 |cons c al=>rfl
theorem SF(G:dZ p)(_:ts.length<=300)(_:i+(k+1)=hZ p ts){ah:cP}{V:Vw}{aw X:List Int}{g:dF}{H:List (cw×Bool)}(_:GH p (2*i+1) (bb p ts i) V aw X g)(h:uN p ts (k+1) i (bb p ts i) V.W X H)(wq:∀(w:Nat)(x:bp),(bb p ts i).ar[w]?=some x->(bb p ts (i+1)).ar[w]?=some x->mA (bo p x)->fH p ts w k (i+1)=fH p ts w (k+1) i)
 {x y:bp}{ws:List a9}{hh:Hq}{aB:Nat}(bY:bb p ts (i+1)=ah)(hx:(bb p ts i).ar[bN p.want.length ts i]?=some x)(hy:rf ws x=some y)(ho:kT y.op)(cU:hh=bo p y)(_:∀o,hh.ph≠.fin o)(hk:kr p V.W X y.op hh)(_:hh.made=y.log.length)(Z:y.steps.length=y.log.length)(hq:(jK p (bb p ts i).ar)[bN p.want.length ts i]?=some hh.q)(hI:Inv (a7 (nQ p)) (aO p) p.want.length (nQ p) aB V (jK p (bb p ts i).ar) aw X g)
 (Y:gq V.W (cF p (bN p.want.length ts i) y.op hh V).1.W X (ot (nQ p) V.W X g hh).1 (Dq (a7 (nQ p)) (jK p (bb p ts i).ar)) (eQ (a7 (nQ p)) hh.q.R))
 (uo:ah=⟨(iw (bb p ts i).m (qp (aO p) (bN p.want.length ts i) y.op hh)).1,(bb p ts i).step+1,(bb p ts i).ar.set (bN p.want.length ts i) {y with log:=y.log++[(cF p (bN p.want.length ts i) y.op hh V).2],steps:=y.steps++[(bb p ts i).step]},(bb p ts i).calls,(bb p ts i).full,(bb p ts i).cD,(bb p ts i).bad⟩)
 (aW:∀z d aN,hh.ph=.li z [] d aN->cC (tell U p.want.length hh.q (act V (aS U (bN p.want.length ts i) hh.q.R)).2).R≠some (hh.q.s.made:Int))
 (jW:qk (fH p ts (bN p.want.length ts i) k (i+1)) (cF p (bN p.want.length ts i) y.op hh V).1.W {y with log:=y.log++[(cF p (bN p.want.length ts i) y.op hh V).2],steps:=y.steps++[(bb p ts i).step]} (eW (aO p) p.want.length y.op hh (cF p (bN p.want.length ts i) y.op hh V).2) (H.filter (jJ (bN p.want.length ts i)))):
 uN p ts k (i+1) ah (cF p (bN p.want.length ts i) y.op hh V).1.W (ot (nQ p) V.W X g hh).1 H:=by
 have aea:=ace G hI hq ho hk aW;have FO:=WP G hI hq ho hk Y h.gj;have e1:bo p {y with log:=y.log++[(cF p (bN p.want.length ts i) y.op hh V).2],steps:=y.steps++[(bb p ts i).step]}=eW (aO p) p.want.length y.op hh (cF p (bN p.want.length ts i) y.op hh V).2:=by rw[wv ho,<-cU]
 have yz:ah.step=(bb p ts i).step+1:=by rw[uo]
 have Fh:ah.calls=(bb p ts i).calls:=by rw[uo]
 have yw:ah.ar=(bb p ts i).ar.set (bN p.want.length ts i) {y with log:=y.log++[(cF p (bN p.want.length ts i) y.op hh V).2],steps:=y.steps++[(bb p ts i).step]}:=by rw[uo]
 have Bn:y.steps.Pairwise (·<·)/\∀s∈y.steps,s<(bb p ts i).step:=by
  rcases tD hy with⟨_,e⟩|⟨_,_,_,_,mr,_⟩
  ·rw[e];exact h.yY _ x hx
  ·have:y.steps=[]:=List.eq_nil_of_length_eq_zero (by rw[Z,mr];rfl);rw[this];exact⟨List.Pairwise.nil,λ s T=>by cases T⟩
 refine⟨by rw[aea];exact h.runs,h.up,λ e he=>?_,by rw[Fh];exact h.perm,h.au,h.Dy,h.kind,λ w z hz=>?_,λ w z hz=>?_,FO⟩
 ·have:=h.lt e he;rw[yz];omega
 ·have w9:=hz;rw[yw] at hz;rcases pw hx hz with⟨rfl,rfl⟩|⟨hw,hz⟩
  ·rw[e1];exact jW
  ·refine Ks (wq w z hz (by rw[bY];exact w9)) (λ v b hm hr=>?_) (h.iv w z hz);exact Xx Y (λ i n h=>qS h) (hI.loc w _ (xv hz)).R hr
 ·rw[yw] at hz;rw[yz];rcases pw hx hz with⟨rfl,rfl⟩|⟨hw,hz⟩
  ·refine⟨List.pairwise_append.2 ⟨Bn.1,List.pairwise_singleton _ _,λ a ha b hb=>?_⟩,λ s T=>?_⟩
   ·have hb:b=(bb p ts i).step:=by simpa using hb
    rw[hb];exact Bn.2 a ha
   ·rcases List.mem_append.1 T with T|T
    ·have:=Bn.2 s T;omega
    ·have T:s=(bb p ts i).step:=by simpa using T
     omega
  ·obtain⟨a,b⟩:=h.yY w z hz;exact⟨a,λ s T=>by have:=b s T;omega⟩
end
section
variable{p:bU}{ts:List Int}{k i:Nat}
theorem ack{V:Vw}{aw X:List Int}{g:dF}{H:List (cw×Bool)}(hG:GH p (2*i+1) (bb p ts i) V aw X g)(hN:NJ p (bb p ts i))(h:uN p ts (k+1) i (bb p ts i) V.W X H)(wq:∀(w:Nat)(x:bp),(bb p ts i).ar[w]?=some x->(bb p ts (i+1)).ar[w]?=some x->mA (bo p x)->fH p ts w k (i+1)=fH p ts w (k+1) i)
 {x:bp}{hh:Hq}{o:bd}{au:Nat}(bY:bb p ts (i+1)=jw (bb p ts i) au x {o with gone:=hh.q.s.gone})(hx:(bb p ts i).ar[au]?=some x)(h0:x.op.kind≠0)(cU:hh=bo p x)(ct:hh.ph=.fin o)(Z:x.log≠[])(cW:xr o x.log.length):∃Eb,uN p ts k (i+1) (bb p ts (i+1)) V.W X Eb:=by
 have o6:o.err=0:=by have:=hN.err au x hx;rw[<-cU] at this;unfold oI at this;rw[ct] at this;exact this
 have cx:=(hG.iv au x hx).len;have fS:1<=x.log.length:=by
  cases hx:x.log with
  |nil=>exact absurd hx Z
  |cons a l=>simp
 have ow:=h.iv au x hx;rw[<-cU] at ow;unfold qk at ow;rw[ct] at ow;obtain⟨e0,TY,acg,eval,ab4,ach⟩:∃e,H.filter (jJ au)=[e]/\e.1.op=x.op/\e.1.val=o.val/\e.1.is=o.is/\e.1.aD=x.steps.getD o.aD.toNat 0:=ow.elim (λ h=>absurd h.1 h0) λ h=>h.2
 generalize d4:(⟨au,x.op,o.val,o.is,x.steps.getD 0 0,x.steps.getD (x.steps.length-1) 0,x.steps.getD o.aD.toNat 0⟩:cw)=aT;have Fh:(bb p ts (i+1)).calls=(bb p ts i).calls++[aT]:=by rw[bY,<-d4];unfold jw;simp only;rw[if_neg (by omega),if_neg (by omega)];simp only;rw[if_pos ⟨cW.2.1,by have:=cW.2.2;omega⟩]
 have yz:(bb p ts (i+1)).step=(bb p ts i).step:=by
  rw[bY];unfold jw;simp only;split
  ·rfl
  ·split<;>rfl
 have yw:(bb p ts (i+1)).ar=(bb p ts i).ar.set au {x with op:=gZ,gone:=hh.q.s.gone}:=by rw[bY];exact AO _ _ _ _
 have dw:∀e∈H,(lu au aT e=e/\jJ au e=false)\/(lu au aT e=(aT,false)/\e=e0):=λ e he=>by
  unfold lu;cases hb:jJ au e with
  |false=>exact .inl ⟨by simp,rfl⟩
  |true=>
   refine .inr ⟨by simp,?_⟩;have:=List.mem_filter.2 ⟨he,hb⟩;rw[TY] at this
   simpa using this
 have Fp:∀e∈H,(lu au aT e).1.aD=e.1.aD/\(lu au aT e).1.op=e.1.op/\(lu au aT e).1.val=e.1.val/\(lu au aT e).1.is=e.1.is:=λ e he=>by
  rcases dw e he with⟨h1,_⟩|⟨h1,u⟩
  ·rw[h1];exact⟨rfl,rfl,rfl,rfl⟩
  ·rw[h1,u,acg,eval,ab4,ach,<-d4];exact⟨rfl,rfl,rfl,rfl⟩
 refine⟨H.map (lu au aT),?_,?_,λ e he=>?_,?_,λ e he ho=>?_,λ e he ho=>?_,λ e he=>?_,λ w z hz=>?_,λ w z hz=>?_,h.gj⟩
 ·refine h.runs.alike (by simp) λ n c d F K=>?_
  rw[List.map_map,List.getElem?_map] at K;rw[List.getElem?_map] at F;cases he:H[n]? with
  |none=>rw[he] at F;cases F
  |some e=>rw[he] at F K;cases F;cases K;have:=Fp e (List.mem_of_getElem? he);exact⟨this.2.1,this.2.2.1,this.2.2.2⟩
 ·rw[List.pairwise_map];exact List.Pairwise.imp_of_mem (λ{a b} ha hb sE=>by rw[(Fp a ha).1,(Fp b hb).1];exact sE) h.up
 ·obtain⟨ae,tX,rfl⟩:=List.mem_map.1 he;rw[(Fp ae tX).1,yz];exact h.lt ae tX
 ·rw[Fh];exact((List.Perm.append_right [aT] h.perm).trans (RW TY).symm)
 ·obtain⟨ae,tX,rfl⟩:=List.mem_map.1 he;rcases dw ae tX with⟨h1,_⟩|⟨h1,_⟩
  ·rw[h1] at ho⊢;exact h.au ae tX ho
  ·rw[h1] at ho;cases ho
 ·obtain⟨ae,tX,rfl⟩:=List.mem_map.1 he;rcases dw ae tX with⟨h1,_⟩|⟨h1,_⟩
  ·rw[h1] at ho⊢;exact h.Dy ae tX ho
  ·rw[h1,<-d4];have T:=(h.yY au x hx).1;have h1:=cW.2.1;have u:=cW.2.2;exact⟨Xk T (Nat.zero_le _) (by omega),Xk T (by omega) (by omega)⟩
 ·obtain⟨ae,tX,rfl⟩:=List.mem_map.1 he;rw[(Fp ae tX).2.1];exact h.kind ae tX
 ·have w9:=hz;rw[yw] at hz;rcases pw hx hz with⟨rfl,rfl⟩|⟨hw,hz⟩
  ·rw[LU,if_pos rfl,oW rfl];exact .inl ⟨rfl,rfl⟩
  ·rw[LU,if_neg hw];exact Ks (wq w z hz w9) (λ v b _ hr=>hr) (h.iv w z hz)
 ·rw[yw] at hz;rw[yz];rcases pw hx hz with⟨rfl,rfl⟩|⟨hw,hz⟩
  ·exact h.yY _ x hx
  ·exact h.yY w z hz
theorem aip{V:Vw}{X:List Int}{y:bp}{hh:Hq}{s:Int}{op:List (cw×Bool)}{aig out:bd}{W':Ws}{rr:aJ}(ho:kT y.op)(hk:kr p V.W X y.op hh)(fe:∀o,hh.ph≠.fin o)(A5:¬mA hh)(hm:hh.made=y.log.length)(Z:y.steps.length=y.log.length)(aW:oI (eW (aO p) p.want.length y.op hh rr))
 (h0:mA (eW (aO p) p.want.length y.op hh rr)->0<=out.aD)(bv:qk aig V.W y hh op):qk out W' {y with log:=y.log++[rr],steps:=y.steps++[s]} (eW (aO p) p.want.length y.op hh rr) op:=by
 obtain⟨ph,q,made⟩:=hh;cases ph with
 |sz=>
  have bv:op=[]:=bv;subst bv;have ht:eW (aO p) p.want.length y.op ⟨.sz,q,made⟩ rr=if rr.val<1\/(aO p).buckets<rr.val\/qR rr.val=false then⟨.fin rp,q,made+1⟩ else⟨.ld rr.val [] (y.op.a%rr.val),q,made+1⟩:=rfl
  rw[ht] at aW⊢;split
  ·rename_i h;rw[if_pos h] at aW;cases aW
  ·rfl
 |ld z al b=>
  have bv:op=[]:=bv;subst bv;have ht:eW (aO p) p.want.length y.op ⟨.ld z al b,q,made⟩ rr=if(av rr.val).idx≠0 then iO (aO p) y.op z al (av rr.val).idx q.s.gone (made+1) else if b=0 then⟨.fin rp,q,made+1⟩ else⟨.ld z (b::al) (eH b),q,made+1⟩:=rfl
  rw[ht] at aW h0⊢
  by_cases h1:(av rr.val).idx≠0
  ·rw[if_pos h1] at h0⊢;exact Rs h0
  ·rw[if_neg h1] at aW⊢
   by_cases u:b=0
   ·rw[if_pos u] at aW;cases aW
   ·rw[if_neg u];rfl
 |li z aU d aN=>
  cases aU with
  |nil=>exact absurd ⟨z,d,aN,rfl⟩ A5
  |cons c al=>
   have bv:op=[]:=bv;subst bv;have aW:oI (ec y.op z (c::al) d aN (tell U p.want.length q rr) (made+1)):=aW;show qk out W' _ (ec y.op z (c::al) d aN (tell U p.want.length q rr) (made+1)) [];unfold ec at aW⊢;split
   ·rename_i o cY;rw[cY] at aW;unfold kw at aW⊢;simp only at aW⊢;split
    ·rename_i he;rw[if_pos he] at aW;exact absurd aW he
    ·rfl
   ·rfl
 |cb z al c n=>have bv:op=[]:=bv;subst bv;exact Rs h0
 |ad z o=>
  obtain⟨e,h1,u,J,h4,h5⟩:=bv;obtain⟨_,cW,_,_⟩:=hk;have hm:made=y.log.length:=hm;have yn:o.aD.toNat<y.steps.length:=by have a:=cW.2.1;have b:o.aD<(made:Int):=cW.2.2;omega
  show qk out W' _ (if y.op.kind=2/\2*z<=rr.val/\z<(aO p).buckets then⟨.cz z o,q,made+1⟩ else⟨.fin o,q,made+1⟩) op;split
  ·exact⟨e,h1,u,J,h4,by rw[h5];exact(EN yn).symm⟩
  ·exact .inr ⟨yO ho,e,h1,u,J,h4,by rw[h5];exact(EN yn).symm⟩
 |cz z o=>
  obtain⟨e,h1,u,J,h4,h5⟩:=bv;obtain⟨_,_,cW,_,_⟩:=hk;have hm:made=y.log.length:=hm;have yn:o.aD.toNat<y.steps.length:=by have a:=cW.2.1;have b:o.aD<(made:Int):=cW.2.2;omega
  exact .inr ⟨yO ho,e,h1,u,J,h4,by rw[h5];exact(EN yn).symm⟩
 |fin o=>exact absurd rfl (fe o)
theorem aio{z d:Int}{aN made:Nat}{q a6:Q Lk}{y:bp}{s:Int}{rr:aJ}{op:List (cw×Bool)}{out vM:bd}{W W':Ws}{S:Nat}(eO:a6=tell U S q rr)(ho:kT y.op)(io:q.R.gX)(aF:cJ q)(fT:qe q)(ue:made=aN+q.s.made)(hm:made=y.log.length)(Z:y.steps.length=y.log.length)(o6:out.err=0)(h0:0<=out.aD)
 (yq:(∃o,a6.R=.fin o/\out=o)\/((∀o,a6.R≠.fin o)/\vM=out))(aW:out.aD≠q.s.made)(wV:∀v b,iA v b W out.aD q.R->iA v b W' out.aD a6.R)(h:qk out W y ⟨.li z [] d aN,q,made⟩ op):qk vM W' {y with log:=y.log++[rr],steps:=y.steps++[s]} (ec y.op z [] d aN a6 (made+1)) op:=by
 have aeU:a6.s.made=q.s.made+1:=by rw[eO];exact BF io
 have N3:qe a6:=by rw[eO];exact OR aF fT io
 rcases Di y.op z d aN a6 (made+1) with⟨o,cY,he⟩|⟨cv,e⟩
 ·have e0:out=o:=yq.elim (λ⟨o2,u,J⟩=>by rw[cY] at u;cases u;exact J) λ u=>absurd cY (u.1 o)
  subst e0;have hb:=N3.pt out.aD (by rw[cY];rfl);rcases h with⟨h1,e,u,J,h4,h5⟩|⟨h1,u,J⟩
  ·have hr:=(wV _ _ h5).out out.val out.is out.err (by rw[cY];rfl);have hr:=hr.1 o6;have yn:(jR out aN).aD.toNat=aN+out.aD.toNat:=by show(out.aD+(aN:Int)).toNat=_;omega
   have aY:aN+out.aD.toNat<y.steps.length:=by have h1:out.aD<(q.s.made:Int):=h1;omega
   have key:∃e,op=[e]/\e.1.op=y.op/\e.1.val=(jR out aN).val/\e.1.is=(jR out aN).is/\e.1.aD=(y.steps++[s]).getD (jR out aN).aD.toNat 0:=⟨e,u,J,hr.1.symm,hr.2.symm,by rw[yn,EN aY,h4]⟩;rcases he with⟨he,_⟩|he
   ·rw[he];exact key
   ·rw[he];exact .inr ⟨yO ho,key⟩
  ·exfalso;have h1:(q.s.made:Int)<=out.aD:=h1;omega
 ·have e0:vM=out:=yq.elim (λ⟨o2,u,_⟩=>absurd u (cv o2)) λ u=>u.2
  subst e0;rw[e];rcases h with⟨h1,e,u,J,h4,h5⟩|⟨h1,u,J⟩
  ·have h1:vM.aD<(q.s.made:Int):=h1;refine .inl ⟨by show vM.aD<(a6.s.made:Int);omega,e,u,J,?_,wV _ _ h5⟩;rw[h4];exact(EN (by omega)).symm
  ·have h1:(q.s.made:Int)<=vM.aD:=h1;exact .inr ⟨by show(a6.s.made:Int)<=vM.aD;omega,u,λ v b=>wV v b (J v b)⟩
end
section
variable{p:bU}{ts:List Int}{k i:Nat}
theorem acl{V:Vw}{aw X:List Int}{g:dF}{H:List (cw×Bool)}(G:dZ p)(h:uN p ts (k+1) i (bb p ts i) V.W X H)(wq:∀(w:Nat)(x:bp),(bb p ts i).ar[w]?=some x->(bb p ts (i+1)).ar[w]?=some x->mA (bo p x)->fH p ts w k (i+1)=fH p ts w (k+1) i)
 {ah:cP}{au:Nat}{y:bp}{hh:Hq}{aB:Nat}{v:Int}{b:Bool}(vu:au<p.want.length)(bY:bb p ts (i+1)=ah)(hx:(bb p ts i).ar[au]?=some y)(ho:kT y.op)(cU:hh=bo p y)(hk:kr p V.W X y.op hh)(hq:(jK p (bb p ts i).ar)[au]?=some hh.q)(hI:Inv (a7 (nQ p)) (aO p) p.want.length (nQ p) aB V (jK p (bb p ts i).ar) aw X g)
 (Y:gq V.W (cF p au y.op hh V).1.W X (ot (nQ p) V.W X g hh).1 (Dq (a7 (nQ p)) (jK p (bb p ts i).ar)) (eQ (a7 (nQ p)) hh.q.R))
 (uo:ah=⟨(iw (bb p ts i).m (qp (aO p) au y.op hh)).1,(bb p ts i).step+1,(bb p ts i).ar.set au {y with log:=y.log++[(cF p au y.op hh V).2],steps:=y.steps++[(bb p ts i).step]},(bb p ts i).calls,(bb p ts i).full,(bb p ts i).cD,(bb p ts i).bad⟩)
 (NG:xG y.op (jg (dm V.W X)) (jg (dm (cF p au y.op hh V).1.W (ot (nQ p) V.W X g hh).1)) ⟨v,b,0,0,[]⟩)(bv:H.filter (jJ au)=[])
 (jW:qk (fH p ts au k (i+1)) (cF p au y.op hh V).1.W {y with log:=y.log++[(cF p au y.op hh V).2],steps:=y.steps++[(bb p ts i).step]} (eW (aO p) p.want.length y.op hh (cF p au y.op hh V).2) [(⟨au,y.op,v,b,0,0,(bb p ts i).step⟩,true)]):
 uN p ts k (i+1) ah (cF p au y.op hh V).1.W (ot (nQ p) V.W X g hh).1 (H++[(⟨au,y.op,v,b,0,0,(bb p ts i).step⟩,true)]):=by
 have FO:=WP G hI hq ho hk Y h.gj;have e1:bo p {y with log:=y.log++[(cF p au y.op hh V).2],steps:=y.steps++[(bb p ts i).step]}=eW (aO p) p.want.length y.op hh (cF p au y.op hh V).2:=by rw[wv ho,<-cU]
 have yz:ah.step=(bb p ts i).step+1:=by rw[uo]
 have Fh:ah.calls=(bb p ts i).calls:=by rw[uo]
 have yw:ah.ar=(bb p ts i).ar.set au {y with log:=y.log++[(cF p au y.op hh V).2],steps:=y.steps++[(bb p ts i).step]}:=by rw[uo]
 have Bn:=h.yY _ y hx;have ail:jJ au ((⟨au,y.op,v,b,0,0,(bb p ts i).step⟩:cw),true)=true:=by simp[jJ]
 have JJ:∀{e:cw×Bool},e∈H++[(⟨au,y.op,v,b,0,0,(bb p ts i).step⟩,true)]->e∈H\/e=((⟨au,y.op,v,b,0,0,(bb p ts i).step⟩:cw),true):=λ{e} he=>by
  rcases List.mem_append.1 he with he|he
  ·exact .inl he
  ·exact .inr (by simpa using he)
 refine⟨?_,?_,λ e he=>?_,?_,λ e he rL=>?_,λ e he rL=>?_,λ e he=>?_,λ w z hz=>?_,λ w z hz=>?_,FO⟩
 ·rw[List.map_append];exact h.runs.snoc NG
 ·refine List.pairwise_append.2 ⟨h.up,List.pairwise_singleton _ _,λ a ha c F=>?_⟩;have F:c=((⟨au,y.op,v,b,0,0,(bb p ts i).step⟩:cw),true):=by simpa using F
  rw[F];exact h.lt a ha
 ·rw[yz];rcases JJ he with he|rfl
  ·have:=h.lt e he;omega
  ·show(bb p ts i).step<_;omega
 ·rw[Fh,List.filter_append]
  simpa using h.perm
 ·rcases JJ he with he|rfl
  ·exact h.au e he rL
  ·exact⟨au,vu,rfl⟩
 ·rcases JJ he with he|rfl
  ·exact h.Dy e he rL
  ·cases rL
 ·rcases JJ he with he|rfl
  ·exact h.kind e he
  ·exact ho.1
 ·have w9:=hz;rw[yw] at hz;rw[List.filter_append];rcases pw hx hz with⟨rfl,rfl⟩|⟨hw,hz⟩
  ·rw[e1,bv,List.filter_cons,ail];exact jW
  ·have e2:jJ w ((⟨au,y.op,v,b,0,0,(bb p ts i).step⟩:cw),true)=false:=by
    unfold jJ;simp;omega
   rw[List.filter_cons,e2];simp only[Bool.false_eq_true,if_false,List.filter_nil,List.append_nil];refine Ks (wq w z hz (by rw[bY];exact w9)) (λ v b hm hr=>?_) (h.iv w z hz);exact Xx Y (λ i n h=>qS h) (hI.loc w _ (xv hz)).R hr
 ·rw[yw] at hz;rw[yz];rcases pw hx hz with⟨rfl,rfl⟩|⟨hw,hz⟩
  ·refine⟨List.pairwise_append.2 ⟨Bn.1,List.pairwise_singleton _ _,λ a ha c F=>?_⟩,λ s T=>?_⟩
   ·have F:c=(bb p ts i).step:=by simpa using F
    rw[F];exact Bn.2 a ha
   ·rcases List.mem_append.1 T with T|T
    ·have:=Bn.2 s T;omega
    ·have T:s=(bb p ts i).step:=by simpa using T
     omega
  ·obtain⟨a,b⟩:=h.yY w z hz;exact⟨a,λ s T=>by have:=b s T;omega⟩
theorem acn(G:dZ p)(dR:ts.length<=300)(hi:i+(k+1)=hZ p ts){V ba:Vw}{aw X cE be:List Int}{g bg:dF}{H:List (cw×Bool)}(hG:GH p (2*i+1) (bb p ts i) V aw X g)(hN:NJ p (bb p ts i))(hS:nW p (bN p.want.length ts i) (bb p ts i) V aw X g (bb p ts (i+1)) ba cE be bg)(tP:GH p (2*(i+1)+1) (bb p ts (i+1)) ba cE be bg)(h:uN p ts (k+1) i (bb p ts i) V.W X H):∃Eb,uN p ts k (i+1) (bb p ts (i+1)) ba.W be Eb:=by
 have ads:=pm G;have wq:∀(w:Nat)(x:bp),(bb p ts i).ar[w]?=some x->(bb p ts (i+1)).ar[w]?=some x->mA (bo p x)->fH p ts w k (i+1)=fH p ts w (k+1) i:=λ w x h1 u hm=>by
  rw[x7];intro o ho;rw[yS u] at ho;have fY:=JD hm;obtain⟨z,d,aN,gy⟩:=hm;have:=(yF ((hG.iv _ x h1).op.resolve_left fY) gy ((hG.iv _ x h1).hk fY)).ask;rw[ho] at this;exact this
 obtain⟨_,_,_,_,_,pJ⟩:=xC G dR (i+1) (by omega);have Nb:=pJ.n.err;have Uy:=VU G dR k (i+1) (by omega) ba cE be bg tP;have t9:=ME G dR k (i+1) (by omega);have aef:=Te G dR (k+1) i hi;have amq:=tP.iv;have vu:=KN G (show i<hZ p ts by omega);generalize bY:bb p ts (i+1)=ah at*;cases hS with
 |idle x ws hx hw h0 ha=>refine⟨H,h.runs,h.up,h.lt,h.perm,h.au,h.Dy,h.kind,λ w z hz=>?_,h.yY,h.gj⟩;exact Ks (wq w z hz hz) (λ v b _ hr=>hr) (h.iv w z hz)
 |done x hh o hx h0 cU ct Z cW qC=>have:=ack (k:=k) (hh:=hh) hG hN h (λ w x h1 u=>wq w x h1 (by rw[<-bY];exact u)) bY hx h0 cU ct Z cW;rw[bY] at this;exact this
 |acc x y ws hh aB hx hw hy ho cU fe hk hm Z hK hq hI=>
  have AG:=J3 G hI hK hq ho hk hG.nh fe;have e1:bo p {y with log:=y.log++[(cF p (bN p.want.length ts i) y.op hh V).2],steps:=y.steps++[(bb p ts i).step]}=eW (aO p) p.want.length y.op hh (cF p (bN p.want.length ts i) y.op hh V).2:=by rw[wv ho,<-cU]
  have gM:((bb p ts i).ar.set (bN p.want.length ts i) {y with log:=y.log++[(cF p (bN p.want.length ts i) y.op hh V).2],steps:=y.steps++[(bb p ts i).step]})[bN p.want.length ts i]?=some {y with log:=y.log++[(cF p (bN p.want.length ts i) y.op hh V).2],steps:=y.steps++[(bb p ts i).step]}:=uG hx;have aW:=Nb _ _ gM;rw[e1] at aW;have ly:=t9 _ _ gM;rw[e1] at ly;have cq:=yS (p:=p) (ts:=ts) (w:=bN p.want.length ts i) (i:=i+1) (by rw[bY];exact gM);rw[e1] at cq;have NN:∀(w:Nat)(x:bp),(bb p ts i).ar[w]?=some x->(bb p ts (i+1)).ar[w]?=some x->mA (bo p x)->fH p ts w k (i+1)=fH p ts w (k+1) i:=λ w x h1 u=>wq w x h1 (by rw[<-bY];exact u)
  by_cases A5:mA hh
  ·have Bs:y=x:=(tD hy).elim (λ h=>h.2) λ h=>by
    obtain⟨z,d,aN,gy⟩:=A5;rw[cU,AC ho h.2.2.2.2.1] at gy;cases gy
   subst Bs;have k8:=h.iv _ y hx;have o6:=aef _ y hx (by rw[<-cU];exact A5);have IK:=Uy _ _ (by rw[bY];exact gM);rw[e1] at IK;rw[<-cU] at k8;obtain⟨z,d,aN,gy⟩:=A5;have hM:=yF ho gy hk;have ae2:∀z2 d2 GK,hh.ph=.li z2 [] d2 GK->(fH p ts (bN p.want.length ts i) (k+1) i).aD≠hh.q.s.made->∀ap,(bZ U p.want.length (tell U p.want.length hh.q (act V (aS U (bN p.want.length ts i) hh.q.R)).2) ap).R=.fin (fH p ts (bN p.want.length ts i) (k+1) i)->cC (tell U p.want.length hh.q (act V (aS U (bN p.want.length ts i) hh.q.R)).2).R≠some (hh.q.s.made:Int):=λ _ _ _ _ aW ap hR afj=>by
    have:=uC (S:=p.want.length) ap (qT hM.shape) afj;rw[hR] at this;have:some (fH p ts (bN p.want.length ts i) (k+1) i).aD=some (hh.q.s.made:Int):=this;exact aW (by simpa using this)
   obtain⟨ph,q,made⟩:=hh;simp only at gy;subst gy;have io:q.R.gX:=hM.ask;have aF:cJ q:=hM.shape;have fT:qe q:=hM.lk;have bL:ie (eu y.op [] d) (cB (aO p) y.op [] d) q.R:=hM.ah2;have ue:made=aN+q.s.made:=hM.made;have hq:(jK p (bb p ts i).ar)[bN p.want.length ts i]?=some q:=hq;generalize eO:tell U p.want.length q (act V (aS U (bN p.want.length ts i) q.R)).2=a6 at*;have Oi:eW (aO p) p.want.length y.op ⟨.li z [] d aN,q,made⟩ (cF p (bN p.want.length ts i) y.op ⟨.li z [] d aN,q,made⟩ V).2=ec y.op z [] d aN a6 (made+1):=by rw[<-eO];rfl
   rw[Oi] at cq ly aW IK;have cq:xu p ts (bN p.want.length ts i) (i+1)=a6:=by rw[cq];exact BA _ _ _ _ _ _
   have N3:qe a6:=by rw[<-eO];exact OR aF fT io
   have jX:cJ a6:=by rw[<-eO];exact qT aF
   have aeU:a6.s.made=q.s.made+1:=by rw[<-eO];exact BF io
   generalize yq:fH p ts (bN p.want.length ts i) (k+1) i=out at*;have aeb:∃ap,(bZ U p.want.length a6 ap).R=.fin out/\((∃o,a6.R=.fin o/\out=o)\/((∀o,a6.R≠.fin o)/\fH p ts (bN p.want.length ts i) k (i+1)=out))/\(cC a6.R=none->out.aD∈bm a6.R->uQ (act V (aS U (bN p.want.length ts i) q.R)).1.W (hc (a7 (nQ p)) V.W X g q.R).1 out.aD a6.R):=by
    rcases Di y.op z d aN a6 (made+1) with⟨o,cY,_⟩|⟨cv,e⟩
    ·have e2:out=o:=by rw[<-yq];exact Ie (by rw[cq];exact cY)
     exact⟨[],by rw[e2];exact cY,.inl ⟨o,cY,e2⟩,λ h=>by rw[cY] at h;cases h⟩
    ·have e2:fH p ts (bN p.want.length ts i) k (i+1)=out:=by rw[<-yq];exact(x7 (by rw[cq];exact cv)).symm
     rw[e,e2] at ly IK;obtain⟨ap,hR⟩:=ly ⟨z,d,aN,rfl⟩;exact⟨ap,hR,.inr ⟨cv,e2⟩,λ h1 u=>(IK ⟨z,d,aN,rfl⟩ h1 u).2⟩
   obtain⟨ap,hR,Nw,aeP⟩:=aeb;have h0:0<=out.aD:=((Jw ap jX N3).pt out.aD (by rw[hR];rfl)).1
   by_cases he:out.aD=q.s.made
   ·
    have Bd:H.filter (jJ (bN p.want.length ts i))=[]:=by
     rcases k8 with⟨h1,_⟩|⟨_,u,_⟩
     ·have h1:out.aD<(q.s.made:Int):=h1;omega
     ·exact u
    have qw:(bZ U p.want.length (tell U p.want.length q (act V (aS U (bN p.want.length ts i) q.R)).2) ap).R=.fin out:=by rw[eO];exact hR
    obtain⟨v,b,rN,wV⟩:=ab2 (by omega) hI hq io aF fT (ro:=eu y.op [] d) (op:=cB (aO p) y.op [] d) rfl bL qw he o6 (by rw[eO];exact aeP);rw[eO] at wV;have NG:=ab3 (op:=y.op) (vK:=cB (aO p) y.op [] d) (R6 hI.si) rfl ho.1 rfl rfl rfl ho.2.2.1 h.gj.keys rN;have hm:made=y.log.length:=hm;refine⟨_,acl (k:=k) (v:=v) (b:=b) G h NN vu bY hx ho cU hk hq hI AG.mH rfl NG Bd ?_⟩;rw[Oi];have key:((⟨bN p.want.length ts i,y.op,v,b,0,0,(bb p ts i).step⟩:cw),true).1.aD=(y.steps++[(bb p ts i).step]).getD (aN+out.aD.toNat) 0:=(acO (by omega)).symm;rcases Di y.op z d aN a6 (made+1) with⟨o,cY,wE⟩|⟨cv,e⟩
    ·have e2:out=o:=Nw.elim (λ⟨o2,a,b⟩=>by rw[cY] at a;cases a;exact b) λ u=>absurd cY (u.1 o)
     subst e2;have hr:=(wV.out out.val out.is out.err (by rw[cY];rfl)).1 o6;have yn:(jR out aN).aD.toNat=aN+out.aD.toNat:=by show(out.aD+(aN:Int)).toNat=_;omega
     have Jn:∃e,[((⟨bN p.want.length ts i,y.op,v,b,0,0,(bb p ts i).step⟩:cw),true)]=[e]/\e.1.op=y.op/\e.1.val=(jR out aN).val/\e.1.is=(jR out aN).is/\e.1.aD=(y.steps++[(bb p ts i).step]).getD (jR out aN).aD.toNat 0:=⟨_,rfl,rfl,hr.1.symm,hr.2.symm,by rw[yn];exact key⟩;rcases wE with⟨wE,_⟩|wE
     ·rw[wE];exact Jn
     ·rw[wE];exact .inr ⟨yO ho,Jn⟩
    ·have e2:fH p ts (bN p.want.length ts i) k (i+1)=out:=Nw.elim (λ⟨o2,a,_⟩=>absurd a (cv o2)) λ u=>u.2
     rw[e,e2];exact .inl ⟨by show out.aD<(a6.s.made:Int);omega,_,rfl,rfl,key,wV⟩
   ·have qw:(bZ U p.want.length (tell U p.want.length q (act V (aS U (bN p.want.length ts i) q.R)).2) ap).R=.fin out:=by rw[eO];exact hR
    have hm:made=y.log.length:=hm;have wV:∀v b,iA v b V.W out.aD q.R->iA v b (act V (aS U (bN p.want.length ts i) q.R)).1.W out.aD a6.R:=λ v b hr=>by
     have:=ajg (w:=bN p.want.length ts i) (V:=V) io aF qw (.inl he) (λ _ _=>o6) hr;rw[eO] at this;exact this
    refine⟨H,SF (k:=k) G dR hi hG h NN bY hx hy ho cU fe hk hm Z hq hI AG.mH rfl (λ z2 d2 GK e3=>by
     have:=ae2 z2 d2 GK e3 he ap hR;show cC (tell U p.want.length q (act V (aS U (bN p.want.length ts i) q.R)).2).R≠some (q.s.made:Int);rw[eO];exact this) ?_⟩
    rw[Oi];exact aio (rr:=(cF p (bN p.want.length ts i) y.op ⟨.li z [] d aN,q,made⟩ V).2) eO.symm ho io aF fT ue hm Z o6 h0 Nw he wV k8
  ·have bv:∃o2,qk o2 V.W y hh (H.filter (jJ (bN p.want.length ts i))):=by
    rcases tD hy with⟨_,e⟩|⟨fY,_,_,_,mr,_⟩
    ·rw[cU,e];exact⟨_,h.iv _ x hx⟩
    ·have:=h.iv _ x hx;rw[oW fY] at this;rw[cU,AC ho mr];exact⟨gl,this.elim (λ h=>h.2) λ h=>absurd fY h.1⟩
   obtain⟨o2,bv⟩:=bv;refine⟨H,SF (k:=k) G dR hi hG h NN bY hx hy ho cU fe hk hm Z hq hI AG.mH rfl (λ z2 d2 GK e3=>absurd ⟨z2,d2,GK,e3⟩ A5) ?_⟩;refine aip ho hk fe A5 hm Z aW (λ mu=>?_) bv;obtain⟨ap,hR⟩:=ly mu;obtain⟨z,d,aN,gy⟩:=mu;have hM:=yF ho gy AG.hk;exact((Jw ap hM.shape hM.lk).pt _ (by rw[hR];rfl)).1
end
theorem Mb{len:Nat}{d5:Nat->Nat}:∀n j,j<len->((qt len d5 n).getD j true=true↔∃m,m<n/\d5 m=j)
 |0,j,h=>by
  simp[qt,List.getD_eq_getElem?_getD,h]
 |n+1,j,h=>by
  have ih:=Mb (len:=len) (d5:=d5) n j h;rw[qt,List.getD_eq_getElem?_getD,List.getElem?_set]
  by_cases e:d5 n=j
  ·rw[if_pos e,if_pos (by rw[Md];omega)];simp only[Option.getD_some,true_iff];exact⟨n,by omega,e⟩
  ·rw[if_neg e,<-List.getD_eq_getElem?_getD,ih];exact⟨λ⟨m,h1,u⟩=>⟨m,by omega,u⟩,λ⟨m,h1,u⟩=>⟨m,by
    by_cases dP:m=n
    ·subst dP;exact absurd u e
    ·omega,u⟩⟩
theorem RE(l:List cw)(dn:List Bool):∀i,(j8 l dn i<0/\∀j,j<i->dn.getD j true=true)\/(0<=j8 l dn i/\(j8 l dn i).toNat<i/\dn.getD (j8 l dn i).toNat true=false/\∀j,j<i->dn.getD j true=false->(l.getD (j8 l dn i).toNat uV).aD<=(l.getD j uV).aD)
 |0=>.inl ⟨by rw[j8];omega,λ j h=>by omega⟩
 |i+1=>by
  have ih:=RE l dn i;rw[j8]
  by_cases F:dn.getD i true=false/\(j8 l dn i<0\/(l.getD i uV).aD<(l.getD (j8 l dn i).toNat uV).aD)
  ·rw[if_pos F];refine .inr ⟨by omega,by omega,by simpa using F.1,λ j hj K=>?_⟩;rw[show((i:Int)).toNat=i by omega]
   by_cases e:j=i
   ·subst e;exact Int.le_refl _
   ·rcases ih with⟨_,u⟩|⟨h1,_,_,h4⟩
    ·rw[u j (by omega)] at K;cases K
    ·have:=h4 j (by omega) K;rcases F.2 with h|h
     ·omega
     ·omega
  ·rw[if_neg F];rcases ih with⟨h1,u⟩|⟨h1,u,J,h4⟩
   ·refine .inl ⟨h1,λ j hj=>?_⟩
    by_cases e:j=i
    ·subst e;cases K:dn.getD j true with
     |true=>rfl
     |false=>exact absurd ⟨K,.inl h1⟩ F
    ·exact u j (by omega)
   ·refine .inr ⟨h1,by omega,J,λ j hj K=>?_⟩
    by_cases e:j=i
    ·subst e;apply Classical.byContradiction;intro aY;exact F ⟨K,.inr (by omega)⟩
    ·exact h4 j (by omega) K
theorem aa1{l cs:List cw}{C:Nat->cr}(G:l.Perm cs)(U8:cs.Pairwise λ a b=>a.aD<b.aD)(h:∀n x,cs[n]?=some x->(x.op.kind=1\/x.op.kind=2\/x.op.kind=3)/\x.first<=x.aD/\x.aD<=x.last/\jf (C n) x.op=(C (n+1),x.val,x.is)):∃d5,KT l d5 C:=by
 have cx:=G.length_eq;have vt:∀(a b:Nat)(x y:cw),cs[a]?=some x->cs[b]?=some y->x.aD<=y.aD->a<=b:=by intro a b x y hx hy fD;apply Classical.byContradiction;intro sE;obtain⟨ha,ea⟩:=List.getElem?_eq_some_iff.1 hx;obtain⟨hb,eb⟩:=List.getElem?_eq_some_iff.1 hy;have:=List.pairwise_iff_getElem.1 U8 b a hb ha (by omega);rw[ea,eb] at this;omega
 have om:∀n,∃j,n<cs.length->l[j]?=cs[n]?:=λ n=>by
  by_cases hn:n<cs.length
  ·obtain⟨j,hj⟩:=List.getElem?_of_mem (G.mem_iff.2 (List.getElem_mem hn));exact⟨j,λ _=>by rw[hj,List.getElem?_eq_getElem hn]⟩
  ·exact⟨0,λ h=>absurd h hn⟩
 obtain⟨d5,vn⟩:=Classical.skolem.1 om;have aY:∀n,n<l.length->d5 n<l.length:=λ n hn=>by
  have:=vn n (by omega);rw[List.getElem?_eq_getElem (show n<cs.length by omega)] at this;exact(List.getElem?_eq_some_iff.1 this).1
 have Bf:∀j,j<l.length->∃m,m<cs.length/\cs[m]?=l[j]?:=λ j hj=>by
  obtain⟨m,hm⟩:=List.getElem?_of_mem (G.mem_iff.1 (List.getElem_mem hj));exact⟨m,(List.getElem?_eq_some_iff.1 hm).1,by rw[hm,List.getElem?_eq_getElem hj]⟩
 have Up:∀a b,a<l.length->b<l.length->d5 a=d5 b->a=b:=λ a b ha hb e=>by
  have h1:=vn a (by omega);have u:=vn b (by omega);rw[e] at h1;rw[h1] at u;have ex:=List.getElem?_eq_getElem (show a<cs.length by omega);rw[ex] at u;have e1:=vt a b _ _ ex u.symm (Int.le_refl _);have e2:=vt b a _ _ u.symm ex (Int.le_refl _);omega
 have aft:∀j,j<l.length->∃m,m<l.length/\d5 m=j:=by
  have hnd:((List.range l.length).map d5).Nodup:=by rw[List.Nodup,List.pairwise_map];exact List.Pairwise.imp_of_mem (λ{a b} ha hb aW e=>aW (Up a b (List.mem_range.1 ha) (List.mem_range.1 hb) e)) List.nodup_range
  intro j hj;apply Classical.byContradiction;intro cv;have h1:(j::(List.range l.length).map d5).length<=(List.range l.length).length:=GG (List.nodup_cons.2 ⟨λ h=>by
   obtain⟨m,hm,e⟩:=List.mem_map.1 h;exact cv ⟨m,List.mem_range.1 hm,e⟩,hnd⟩) λ x hx=>by
   rcases List.mem_cons.1 hx with rfl|hx
   ·exact List.mem_range.2 hj
   ·obtain⟨m,hm,rfl⟩:=List.mem_map.1 hx;exact List.mem_range.2 (aY m (List.mem_range.1 hm))
  simp at h1;omega
 refine⟨d5,λ n hn=>?_,aY,λ n x hn hx=>h n x (by rw[<-vn n (by omega)];exact hx)⟩;have ny:(qt l.length d5 n).getD (d5 n) true=false:=by
  cases K:(qt l.length d5 n).getD (d5 n) true with
  |false=>rfl
  |true=>obtain⟨m,hm,e⟩:=(Mb n (d5 n) (aY n hn)).1 K;have:=Up m n (by omega) hn e;omega
 rcases RE l (qt l.length d5 n) l.length with⟨_,u⟩|⟨h1,u,J,h4⟩
 ·rw[u _ (aY n hn)] at ny;cases ny
 ·obtain⟨m,hm,em⟩:=aft _ u;have dP:n<=m:=by
   apply Classical.byContradiction;intro al7;have:=(Mb (len:=l.length) (d5:=d5) n _ u).2 ⟨m,by omega,em⟩;rw[this] at J;cases J
  have h5:=h4 (d5 n) (aY n hn) ny;rw[<-em] at h5;have e1:=vn m (by omega);have e2:=vn n (by omega);have x1:=List.getElem?_eq_getElem (show m<cs.length by omega);have x2:=List.getElem?_eq_getElem (show n<cs.length by omega);rw[x1] at e1;rw[x2] at e2;rw[List.getD_eq_getElem?_getD,List.getD_eq_getElem?_getD,e1,e2] at h5;simp only[Option.getD_some] at h5;have:=vt m n _ _ x1 x2 h5;have:m=n:=by omega
  subst this;omega
theorem acm{p:bU}{ts:List Int}(k:Nat):uN p ts k 0 (i6 (aO p) p.want.length) (V0 p.want.length (nQ p)).W [1] []:=by
 have yv:∀(w:Nat)(x:bp),(i6 (aO p) p.want.length).ar[w]?=some x->x=kH:=by
  intro w x hx;simp only[i6,List.getElem?_replicate] at hx;split at hx
  ·cases hx;rfl
  ·cases hx
 refine⟨List.Perm.refl _,List.Pairwise.nil,λ e he=>(by cases he),List.Perm.refl _,λ e he=>(by cases he),λ e he=>(by cases he),λ e he=>(by cases he),λ w x hx=>?_,λ w x hx=>?_,λ n hn ho=>?_⟩
 ·rw[yv w x hx];exact .inl ⟨rfl,rfl⟩
 ·rw[yv w x hx];exact⟨List.Pairwise.nil,λ s T=>by cases T⟩
 ·have ho:(0:Int)%2=1:=ho;omega
theorem SE{p:bU}(G:dZ p){ts:List Int}(dR:ts.length<=300):∀(i k:Nat),i+k=hZ p ts->∃V aw X g H,GH p (2*i+1) (bb p ts i) V aw X g/\uN p ts k i (bb p ts i) V.W X H
 |0,k,_=>⟨_,_,_,_,_,KZ G,acm k⟩
 |i+1,k,hi=>by
  obtain⟨V,aw,X,g,H,hG,Y⟩:=SE G dR i (k+1) (by omega);obtain⟨_,_,_,_,_,hA⟩:=xC G dR i (by omega);obtain⟨ba,cE,be,bg,hS,tP⟩:=KE G dR (by omega) hG;obtain⟨Eb,u9⟩:=acn G dR (by omega) hG hA.n hS tP Y;exact⟨ba,cE,be,bg,Eb,tP,u9⟩
def D5(t:cP):Prop:=t.calls.length+(t.ar.map λ x=>if x.op.kind=0 then 0 else 1).sum<=(t.ar.map (·.next)).sum
theorem D5.step{p:bU}{t fA:cP}{V ba:Vw}{aw X cE be:List Int}{g bg:dF}{au:Nat}(hS:nW p au t V aw X g fA ba cE be bg)(h:D5 t):D5 fA:=by
 unfold D5 at h⊢;cases hS with
 |idle=>exact h
 |done x hh o hx h0 cU ct Z cW hi=>
  have ow:(jw t au x {o with gone:=hh.q.s.gone}).ar=t.ar.set au {x with op:=gZ,gone:=hh.q.s.gone}:=AO t au x {o with gone:=hh.q.s.gone};have F:(jw t au x {o with gone:=hh.q.s.gone}).calls.length<=t.calls.length+1:=by
   unfold jw;simp only;split
   ·simp
   ·split<;>simp
  rw[ow];have e1:=tc (λ x:bp=>if x.op.kind=0 then 0 else 1) {x with op:=gZ,gone:=hh.q.s.gone} hx;have e2:=tc (λ x:bp=>x.next) {x with op:=gZ,gone:=hh.q.s.gone} hx;simp only[if_neg h0,gZ,if_true] at e1 e2;simp only[gZ];omega
 |acc x y ws hh aB hx hw hy ho cU fe hk hm Z hK hq hI=>
  have e1:=tc (λ x:bp=>if x.op.kind=0 then 0 else 1) {y with log:=y.log++[(cF p au y.op hh V).2],steps:=y.steps++[t.step]} hx;have e2:=tc (λ x:bp=>x.next) {y with log:=y.log++[(cF p au y.op hh V).2],steps:=y.steps++[t.step]} hx;simp only[if_neg (yO ho)] at e1 e2;simp only;rcases tD hy with⟨fY,e⟩|⟨h0,_,J,_⟩
  ·rw[if_neg fY] at e1;have:y.next=x.next:=by rw[e]
   omega
  ·rw[if_pos h0] at e1;omega
theorem aa4{p:bU}(G:dZ p){ts:List Int}(dR:ts.length<=300){i:Nat}(hi:i<=hZ p ts):(bb p ts i).calls.length<=12:=by
 obtain⟨V,aw,X,g,hG,hJ⟩:=KD G dR (λ i V _ X g=>D5 (bb p ts i)/\CJ p (bb p ts i) V.W X g) ⟨by
  show 0+_<=_;have e1:∀n:Nat,((List.replicate n kH).map λ x:bp=>if x.op.kind=0 then 0 else 1).sum=0:=λ n=>by
   induction n with
   |zero=>rfl
   |succ n ih=>rw[List.replicate_succ,List.map_cons,List.sum_cons,ih];rfl
  have:=e1 p.want.length;show 0+((List.replicate p.want.length kH).map λ x:bp=>if x.op.kind=0 then 0 else 1).sum<=_;omega,CJ.start G⟩ (λ _ _ _ _ _ _ _ _ _ _ hG hS _ h=>⟨h.1.step hS,h.2.step G hG hS⟩) i hi
 have h1:=(Ds hG hJ.2).1;have u:=G.sum;have J:(bb p ts i).calls.length+_<=_:=hJ.1;omega
structure ZC(p:bU)(t:cP):Prop where
 len:t.m.length=(aO p).size.toNat
 bad:t.bad=false
 full:t.full=0
 cl:t.calls.length<=12
 bk:db t.m (il (aO p) 0 0)=1
 amE:r5 t.calls.length [] t.calls=true
 kind:∀c∈t.calls,c.op.kind=1\/c.op.kind=2\/c.op.kind=3
 alt:∃d5 C,KT t.calls d5 C/\C 0=[]/\(∀n,n<=t.calls.length->(C n).length<=n)/\uT (C t.calls.length)/\(C t.calls.length).Perm (qP (uE (aO p) t.m (bf (aO p) 1 0)))/\(uE (aO p) t.m (bf (aO p) 1 0)).length<=24
theorem abG(S:cr)(op:a9):(jf S op).1.length<=S.length+1:=by
 unfold jf;split
 ·split<;>simp
 ·split
  ·split
   ·simp
   ·rw[(Gd _ S).length_eq];simp
  ·split
   ·split
    ·have:=List.length_eraseIdx_le S (i4 S op.a);show(S.eraseIdx _).length<=_;omega
    ·simp
   ·simp
theorem Xd{p:bU}(G:dZ p){ts:List Int}(dR:ts.length<=300):ZC p (vo (aO p) p.want ts):=by
 have nt:=iX G;have hN:=pm G;have hL:=Gm G;obtain⟨cV,CN⟩:=PB G dR;rw[cV];obtain⟨V,aw,X,g,H,hG,Y⟩:=SE G dR (hZ p ts) 0 (by omega);obtain⟨_,_,_,_,_,hA⟩:=xC G dR _ (Nat.le_refl (hZ p ts));have dw:=aa4 G dR (Nat.le_refl (hZ p ts));generalize bb p ts (hZ p ts)=t at*;have Ny:∀e∈H,e.2=false:=λ e he=>by
  cases u:e.2 with
  |false=>rfl
  |true=>
   obtain⟨w,hw,ew⟩:=Y.au e he u;obtain⟨x,hx⟩:∃x,t.ar[w]?=some x:=⟨_,List.getElem?_eq_getElem (by have:=hG.n;omega)⟩;have fY:=(CN w x _ hx (List.getElem?_eq_getElem hw)).1;have T:=Y.iv w x hx;rw[oW fY] at T;have T:H.filter (jJ w)=[]:=T.elim (λ h=>h.2) λ h=>absurd fY h.1
   have:e∈H.filter (jJ w):=List.mem_filter.2 ⟨he,by simp[jJ,u,ew]⟩;rw[T] at this;cases this
 have aeg:(H.filter λ e=>!e.2)=H:=List.filter_eq_self.2 λ e he=>by rw[Ny e he];rfl
 have FT:=Y.perm;rw[aeg] at FT;obtain⟨C,c0,c1,c2,c3⟩:=X2 (S:=[]) (E:=[]) (λ c F=>by
  obtain⟨e,he,rfl⟩:=List.mem_map.1 F;exact Y.kind e he) List.Pairwise.nil (.refl _) Y.runs
 obtain⟨d5,fQ⟩:=aa1 (C:=C) FT (by rw[List.pairwise_map];exact Y.up) λ n x hx=>by
  obtain⟨e,he,rfl⟩:=List.mem_map.1 (List.mem_of_getElem? hx);have h1:=Y.Dy e he (Ny e he);exact⟨Y.kind e he,h1.1,h1.2,c1 n _ hx⟩
 have cx:=FT.length_eq;obtain⟨bK,hY⟩:=S8 hG.inv.si;have yu:=ajI hL (by omega) hG.view hG.inv hY;have ac6:V.W.nd 1 1%2=0:=by
  rcases hG.nh.bk 0 (Int.le_refl 0) (by omega) with h|h
  ·rw[hG.nh.b0] at h;cases h
  ·rw[hG.nh.b0] at h;rw[h.2,Aj.1]
   rfl
 have NH:jg (dm V.W X)=qP (uE (aO p) t.m (bf (aO p) 1 0)):=by
  rw[yu];unfold jg dm qP;simp only;rw[List.zip_map',List.filter_map,List.filter_map,List.map_map,List.map_map,hY];have e:(eP V.W (1::bK)).filter ((λ y:Int×Int=>decide (y.1%2=1))∘λ n=>(V.W.nd n 1,V.W.nd n 2))=(eP V.W bK).filter ((λ y:Int×Int=>decide (y.1%2=1))∘λ n=>(V.W.nd n 1,V.W.nd n 2)):=by
   rw[Da];split
   ·rfl
   ·rw[List.filter_cons,if_neg];simp[ac6]
  rw[e]
 have afa:r5 t.calls.length [] t.calls=true:=by
  refine WK _ [] (H.map λ e=>e.1) t.calls (Nat.le_refl _) ?_ (by rw[List.pairwise_map];exact Y.up) (λ c F=>?_) FT
  ·have:=SQ (H.map λ e=>e.1) C c1;rw[c0] at this;exact this
  ·obtain⟨e,he,rfl⟩:=List.mem_map.1 F;exact Y.Dy e he (Ny e he)
 have aeD:∀c∈t.calls,c.op.kind=1\/c.op.kind=2\/c.op.kind=3:=λ c F=>by
  obtain⟨e,he,rfl⟩:=List.mem_map.1 (FT.mem_iff.1 F);exact Y.kind e he
 refine⟨?_,hG.bad,hA.n.full,dw,?_,afa,aeD,d5,C,fQ,c0,?_,?_,?_,?_⟩
 ·exact hG.view.len
 ·rw[Dn G (Int.le_refl 0) (by omega)];have:=HF hL hG.view (a:=.ob (aQ p 0)) (Ad.sf (HK G (Int.le_refl 0) (by omega)));rw[show db t.m (aQ p 0)=V.W.ob (aQ p 0) from this];exact hG.nh.b0
 ·intro n;induction n with
  |zero=>intro _;rw[c0];exact Nat.le_refl _
  |succ n ih=>
   intro hn;have h1:=ih (by omega);have IR:n<(H.map λ e:cw×Bool=>e.1).length:=by omega
   have u:=c1 n _ (List.getElem?_eq_getElem IR);have J:=abG (C n) ((H.map λ e:cw×Bool=>e.1)[n]'IR).op;rw[u] at J;simp only at J;omega
 ·rw[cx];exact c2
 ·rw[cx,<-NH];exact c3
 ·rw[yu,List.length_map];have h1:(eP V.W bK).length<=bK.length:=List.length_filter_le _ _;have u:=Dw (nQ p) X hG.inv.yK hG.inv.si.e8;rw[hY] at u;simp at u;omega
end Go.Proofs.YtkkldicehapklaaGreat.Tq
