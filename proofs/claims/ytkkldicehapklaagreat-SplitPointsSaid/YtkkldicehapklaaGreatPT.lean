/- Programs on lists behind nodes, as machines. -/
import Derived.Test.YtkkldicehapklaaGreatPA
namespace Go.Proofs.YtkkldicehapklaaGreat.Tq
set_option maxRecDepth 100000
inductive Fk where
 |get|put (v n:Int)|del|fin (a:Int)
structure Or where
 o:Int
 d:Int
inductive Lk where
 |ga (o:Or) (f:Fk)
 |gb (o:Or) (f:Fk) (a b D cur:Int)
 |ls (o:Or) (f:Fk) (a b D cur w t:Int)
 |lo (o:Or) (f:Fk) (a b D cur w t k:Int)
 |cu (o:Or) (f:Fk) (a b D cur w:Int)
 |rr (o:Or) (f:Fk) (a b D nx pt:Int)
 |gv (o:Or) (cur pt:Int)
 |tk (o:Or) (v D cur:Int)
 |p1 (o:Or) (v n D cur:Int)|p2 (o:Or) (v n D cur:Int)|p0 (o:Or) (v n D cur:Int)|cp (o:Or) (v n D cur:Int)
 |sv (a c:Int)
 |cm (o:Or) (D cur w:Int)|cd (o:Or) (D cur nx at_:Int)
 |rx (n a:Int)|ry (a:Int)
 |fi (o:bd)
def vJ(a:Int):bd:=⟨0,true,0,a,[]⟩
def BJ(a:Int):bd:=⟨0,false,0,a,[]⟩
def nL(a n:Int):bd:=⟨0,true,0,a,[(n,0)]⟩
def yJ(a n:Int):bd:=⟨0,false,0,a,[(n,0)]⟩
section
abbrev bM(D:Int):Ad:=.nd D 0
abbrev Or.a(o:Or):Ad:=.nd o.d 0
def bh:Lk->Ak
 |.ls _ _ _ _ D _ _ _=>.ld (bM D)
 |.lo _ _ _ _ _ cur _ _ _=>.ld (.nd cur 1)
 |.cu _ _ _ _ D cur w=>.cs (bM D) (bt cur) (bt (av w).idx)
 |.gv _ cur _=>.ld (.nd cur 2)
 |.p1 o _ n _ _=>.st (.nd n 1) o.o
 |.p2 _ v n _ _=>.st (.nd n 2) v
 |.p0 _ _ n _ cur=>.st (.nd n 0) (bt cur)
 |.cp _ _ n D cur=>.cs (bM D) (bt cur) (bt n)
 |.cm _ _ cur w=>.cs (.nd cur 0) w (pk (av w).idx)
 |.cd _ D cur nx _=>.cs (bM D) (bt cur) (bt nx)
 |_=>.ld (.nd 1 0)
def d9(o:Or)(f:Fk)(D cur pt:Int):Pc Lk:=match f with
 |.get=>.bn (.fi (BJ pt))
 |.put v n=>if n=0 then .t1 (.tk o v D cur) else .at_ (.p0 o v n D cur)
 |.del=>.bn (.fi (BJ pt))
 |.fin a=>.bn (.fi (vJ a))
def eU(o:Or)(f:Fk)(D cur w pt:Int):Pc Lk:=match f with
 |.get=>.at_ (.gv o cur pt)
 |.put _ n=>if n=0 then .bn (.fi (yJ pt cur)) else .v1 (.sv pt cur) n
 |.del=>.at_ (.cm o D cur w)
 |.fin a=>.bn (.fi (vJ a))
def dG(o:Or)(f:Fk)(a b D cur pt:Int):Pc Lk:=if cur=0 then d9 o f D 0 pt else .g1 (.gb o f a b D cur) b (.nd cur 0)
def dl(o:Or)(f:Fk):Pc Lk:=.g1 (.ga o f) 0 o.a
def cZ:Lk->Nat->aJ->Pc Lk
 |.ls o f a b D cur w t,made,r=>if r.val=bt cur then .at_ (.lo o f a b D cur w t made) else dl o f
 |.lo o f a b D cur w t k,_,r=>if(av w).mark then .at_ (.cu o f a b D cur w) else if r.val<o.o then dG o f b (3-a-b) cur (av w).idx t else if r.val=o.o then eU o f D cur w t else d9 o f D cur k
 |.cu o f a b D cur w,made,r=>if r.ok then .r1 (.rr o f a b D (av w).idx made) cur else dl o f
 |.gv _ _ pt,_,r=>.bn (.fi ⟨r.val,true,0,pt,[]⟩)
 |.p1 o v n D cur,_,_=>.at_ (.p2 o v n D cur)
 |.p2 o v n D cur,_,_=>.at_ (.p0 o v n D cur)
 |.p0 o v n D cur,_,_=>.at_ (.cp o v n D cur)
 |.cp o v n _ _,made,r=>if r.ok then .bn (.fi (nL made n)) else dl o (.put v n)
 |.cm o D cur w,made,r=>if r.ok then .at_ (.cd o D cur (av w).idx made) else dl o .del
 |.cd o _ cur _ at_,_,r=>if r.ok then .bn (.rx cur at_) else dl o (.fin at_)
 |k,_,_=>.at_ k
def U:lO Lk where
 ask:=bh
 tell:=cZ
 vV:=λ k n _=>match k with
  |.tk o v D cur=>.at_ (.p1 o v n D cur)
  |k=>.v1 k n
 full:=λ k a=>match k with
  |.tk _ _ _ _=>.bn (.fi ⟨0,false,8,a,[]⟩)
  |k=>.at_ k
 guarded:=λ k v t=>match k with
  |.ga o f=>dG o f 0 1 o.d (av v).idx t
  |.gb o f a b D cur=>.at_ (.ls o f a b D cur v t)
  |k=>.at_ k
 pD:=λ k=>match k with
  |.fi o=>.fin o
  |.rx n a=>.r1 (.ry a) n
  |k=>.at_ k
 tM:=λ k=>match k with
  |.sv a c=>.bn (.fi (yJ a c))
  |k=>.at_ k
 retired:=λ k=>match k with
  |.rr o f a b D nx pt=>dG o f b a D nx pt
  |.ry a=>.fin (vJ a)
  |k=>.at_ k
end
section
variable{l:aI}{S:Nat}{O:Int}{log:List aJ}
theorem QO(s:ag):s.up.made=s.made+1:=rfl
theorem xj(s:ag):((s.up.made:Nat):Int)-1=(s.made:Int):=by rw[QO];omega
theorem abI{o o':bd}{s:ag}{rest:List aJ}(ho:∀g,{o' with gone:=g}={o with gone:=g}):cf U l S O ⟨.fin o',s⟩ (.ok (o,s)) rest:=by unfold cf;rw[Ko];show(iB,{o with gone:=s.gone},true)=(iB,{o' with gone:=s.gone},true);rw[ho]
theorem mI{o o':bd}(ho:∀g,{o' with gone:=g}={o with gone:=g}){s:ag}(T:s.made<=log.length):cf U l S O (aG U (.bn (.fi o')) s) (ki l O o log s) (log.drop s.made):=
 HT (M0:=s.made) (f:=λ _=>.pure o) (λ _ _ _ _ _ _=>abI ho) s (Nat.le_refl _) T
theorem rq(hS:l.ar=(S:Int)){o:Or}{f:Fk}{g:j6->Pm bd}{M0:Nat}
 (hN:∀(D cur pt:Int)(s:ag),M0<=s.made->s.made<=log.length->cf U l S O (aG U (d9 o f D cur pt) s) (g ⟨false,(bM D).cell l,cur,0,pt⟩ log s) (log.drop s.made))
 (hY:∀(D cur w pt:Int)(s:ag),M0<=s.made->s.made<=log.length->cf U l S O (aG U (eU o f D cur w pt) s) (g ⟨true,(bM D).cell l,cur,w,pt⟩ log s) (log.drop s.made)):
 ∀(k:Nat)(s:ag),M0<=s.made->s.made<=log.length->
  (2*(log.length-s.made)+2<=k->cf U l S O (aG U (dl o f) s) ((mJ l O (o.a.cell l) o.o k none).bind g log s) (log.drop s.made))/\
  (∀a b D cur pt,2*(log.length-s.made)+1<=k->cf U l S O (aG U (dG o f a b D cur pt) s) ((mJ l O (o.a.cell l) o.o k (some ⟨a,b,(bM D).cell l,cur,pt⟩)).bind g log s) (log.drop s.made))
 |0,s,_,_=>⟨λ h=>by omega,λ a b D cur pt h=>by omega⟩
 |k+1,s,hM,T=>by
  refine⟨λ hk=>?_,λ a b D cur pt hk=>?_⟩
  ·rw[mJ,bind_assoc];refine EP (M0:=s.made) (k:=Lk.ga o f) (i:=0) (c:=o.a) (λ v t ah adp uo=>?_) (log.length+1-s.made) s (Nat.le_refl _) (by omega);have:=(rq hS hN hY k ah (by omega) uo).2 0 1 o.d (av v).idx t (by omega);exact this
  ·rw[mJ];unfold dG
   by_cases h0:cur=0
   ·subst h0;simp only[if_true];exact hN D 0 pt s hM T
   ·simp only[h0,if_false];rw[bind_assoc];refine EP (M0:=s.made) (k:=Lk.gb o f a b D cur) (i:=b) (c:=.nd cur 0) (λ w t s1 mo fm=>?_) (log.length+1-s.made) s (Nat.le_refl _) (by omega);show cf U l S O ⟨.at_ (.ls o f a b D cur w t),s1⟩ _ _;rw[bind_assoc,pj];refine fM (q:=⟨.at_ (Lk.ls o f a b D cur w t),s1⟩) (s:=s1) rfl trivial λ r1 h1=>?_
    rw[bind_assoc,bl jI,xj];show cf U l S O (aG U (if r1.val=bt cur then .at_ (.lo o f a b D cur w t s1.made) else dl o f) s1.up) _ _
    by_cases hv:r1.val=bt cur
    ·rw[if_pos hv,if_pos hv,bind_assoc,pj];refine fM (q:=⟨.at_ (Lk.lo o f a b D cur w t s1.made),s1.up⟩) (s:=s1.up) rfl trivial λ r2 u=>?_
     have cj:s1.made+1<log.length:=u;have m2:s1.up.up.made=s1.made+2:=rfl;have AB:s1.up.up.made<=log.length:=by omega
     show cf U l S O (aG U (if(av w).mark then .at_ (.cu o f a b D cur w) else if r2.val<o.o then dG o f b (3-a-b) cur (av w).idx t else if r2.val=o.o then eU o f D cur w t else d9 o f D cur s1.made) s1.up.up) _ _
     by_cases hm:(av w).mark=true
     ·rw[if_pos hm,if_pos hm,bind_assoc,tz];refine fM (q:=⟨.at_ (Lk.cu o f a b D cur w),s1.up.up⟩) (s:=s1.up.up) rfl trivial λ r3 J=>?_
      have jh:s1.made+2<log.length:=J;have m3:s1.up.up.up.made=s1.made+3:=rfl;show cf U l S O (aG U (if r3.ok then .r1 (.rr o f a b D (av w).idx s1.up.up.made) cur else dl o f) s1.up.up.up) _ _
      by_cases lW:r3.ok=true
      ·rw[if_pos lW,if_pos lW,bind_assoc,bl jI,xj,bind_assoc];show cf U l S O ⟨.r1 (.rr o f a b D (av w).idx s1.up.up.made) cur,s1.up.up.up⟩ _ _;refine Kk hS (M0:=s1.up.up.up.made) (λ s2 sD ic=>?_) s1.up.up.up (Nat.le_refl _);exact(rq hS hN hY k s2 (by omega) ic).2 b a D (av w).idx s1.up.up.made (by omega)
      ·rw[if_neg lW,if_neg lW];exact(rq hS hN hY k s1.up.up.up (by omega) (by omega)).1 (by omega)
     ·rw[if_neg hm,if_neg hm]
      by_cases aY:r2.val<o.o
      ·rw[if_pos aY,if_pos aY];have:=(rq hS hN hY k s1.up.up (by omega) AB).2 b (3-a-b) cur (av w).idx t (by omega);exact this
      ·rw[if_neg aY,if_neg aY]
       by_cases he:r2.val=o.o
       ·rw[if_pos he,if_pos he];exact hY D cur w t s1.up.up (by omega) AB
       ·rw[if_neg he,if_neg he];exact hN D cur s1.made s1.up.up (by omega) AB
    ·rw[if_neg hv,if_neg hv];have m1:s1.up.made=s1.made+1:=rfl;exact(rq hS hN hY k s1.up (by omega) (by omega)).1 (by omega)
theorem wu(hS:l.ar=(S:Int)){o:Or}{f:Fk}{g:j6->Pm bd}{M0:Nat}
 (hN:∀(D cur pt:Int)(s:ag),M0<=s.made->s.made<=log.length->cf U l S O (aG U (d9 o f D cur pt) s) (g ⟨false,(bM D).cell l,cur,0,pt⟩ log s) (log.drop s.made))
 (hY:∀(D cur w pt:Int)(s:ag),M0<=s.made->s.made<=log.length->cf U l S O (aG U (eU o f D cur w pt) s) (g ⟨true,(bM D).cell l,cur,w,pt⟩ log s) (log.drop s.made))
 (s:ag)(hM:M0<=s.made)(T:s.made<=log.length):cf U l S O (aG U (dl o f) s) ((tL l O (o.a.cell l) o.o).bind g log s) (log.drop s.made):=
 (rq hS hN hY _ s hM T).1 (Nat.le_refl _)
theorem MH(hS:l.ar=(S:Int)){o:Or}(s:ag)(T:s.made<=log.length):cf U l S O (aG U (dl o .get) s) (getM l O (o.a.cell l) o.o log s) (log.drop s.made):=by
 unfold getM;refine wu hS (M0:=s.made) (λ D cur pt s1 _ fm=>?_) (λ D cur w pt s1 _ fm=>?_) s (Nat.le_refl _) T
 ·simp only[Bool.false_eq_true,if_false];exact mI (λ _=>rfl) fm
 ·simp only[if_true];rw[pj];refine fM (q:=⟨.at_ (Lk.gv o cur pt),s1⟩) (s:=s1) rfl trivial λ r1 h1=>?_
  exact mI (λ _=>rfl) (by simp only[ag.up];omega)
theorem PH{o:Or}{v n D cur:Int}{M0:Nat}{c pt nx:Int}{th:Bool}{g:Option Int->Pm bd}(F:c=(bM D).cell l)
 (h1:∀(a:Nat)(s:ag),s.made<=log.length->cf U l S O (aG U (.bn (.fi (nL a n))) s) (g (some (a:Int)) log s) (log.drop s.made))
 (u:∀s:ag,M0<s.made->s.made<=log.length->cf U l S O (aG U (dl o (.put v n)) s) (g none log s) (log.drop s.made))
 (s:ag)(hM:M0<=s.made):cf U l S O ⟨.at_ (.p0 o v n D cur),s⟩ ((uD l ⟨th,c,cur,nx,pt⟩ n).bind g log s) (log.drop s.made):=by
 subst F;rw[uD,bind_assoc,se];refine fM (q:=⟨.at_ (Lk.p0 o v n D cur),s⟩) (s:=s) rfl trivial λ r1 J=>?_
 rw[bind_assoc,tz];refine fM (q:=⟨.at_ (Lk.cp o v n D cur),s.up⟩) (s:=s.up) rfl trivial λ r2 h4=>?_
 have sA:s.made+1<log.length:=h4;have m2:s.up.up.made=s.made+2:=rfl;show cf U l S O (aG U (if r2.ok then .bn (.fi (nL s.up.made n)) else dl o (.put v n)) s.up.up) _ _
 by_cases hk:r2.ok=true
 ·rw[if_pos hk,if_pos hk,bind_assoc,bl jI,xj];exact h1 s.up.made s.up.up (by omega)
 ·rw[if_neg hk,if_neg hk];exact u s.up.up (by omega) (by omega)
theorem GY(hS:l.ar=(S:Int)){o:Or}{v:Int}:∀(k:Nat)(n:Int)(s:ag),s.made<=log.length->log.length-s.made<k->cf U l S O (aG U (dl o (.put v n)) s) (sZ l O (o.a.cell l) o.o v k n log s) (log.drop s.made)
 |0,n,s,_,h=>by omega
 |k+1,n,s,T,h=>by
  rw[sZ];have hB:∀(n D cur pt:Int)(s1:ag),s.made<=s1.made->cf U l S O ⟨.at_ (.p0 o v n D cur),s1⟩ ((uD l ⟨false,(bM D).cell l,cur,0,pt⟩ n).bind (λ r=>match r with
   |some a=>ki l O ⟨0,true,0,a,[]⟩
   |none=>sZ l O (o.a.cell l) o.o v k n) log s1) (log.drop s1.made):=λ n D cur pt s1 mo=>
   PH (M0:=s1.made) rfl (λ a s2 ic=>mI (o:=⟨0,true,0,a,[]⟩) (o':=nL a n) (λ _=>rfl) ic) (λ s2 sD ic=>GY hS k n s2 ic (by omega)) s1 (Nat.le_refl _)
  refine wu hS (M0:=s.made) (λ D cur pt s1 mo fm=>?_) (λ D cur w pt s1 mo fm=>?_) s (Nat.le_refl _) T
  ·simp only[Bool.false_eq_true,if_false];unfold d9
   by_cases hn:n=0
   ·simp only[hn,if_true];refine QK (M0:=s1.made) (k:=Lk.tk o v D cur) (λ t a s2 sD ic=>?_) (λ a s2 sD ic=>?_) (log.length+1-s1.made) s1 (Nat.le_refl _) (by omega)
    ·simp only[if_true];show cf U l S O ⟨.at_ (.p1 o v t D cur),s2⟩ _ _;rw[se];refine fM (q:=⟨.at_ (Lk.p1 o v t D cur),s2⟩) (s:=s2) rfl trivial λ r1 J=>?_
     rw[se];refine fM (q:=⟨.at_ (Lk.p2 o v t D cur),s2.up⟩) (s:=s2.up) rfl trivial λ r2 h4=>?_
     exact hB t D cur pt s2.up.up (by simp only[ag.up];omega)
    ·simp only[Bool.false_eq_true,if_false];exact mI (λ _=>rfl) ic
   ·simp only[hn,if_false];exact hB n D cur pt s1 mo
  ·simp only[if_true];unfold eU
   by_cases hn:n=0
   ·simp only[hn,if_true];exact mI (o:=⟨0,false,0,pt,[]⟩) (o':=yJ pt cur) (λ _=>rfl) fm
   ·simp only[hn,if_false];refine MI (k:=Lk.sv pt cur) (n:=n) (M0:=s1.made) (λ s2 _ ic=>?_) (log.length+1-s1.made) s1 (Nat.le_refl _) (by omega);exact mI (o:=⟨0,false,0,pt,[]⟩) (o':=yJ pt cur) (λ _=>rfl) ic
theorem ED(hS:l.ar=(S:Int)){o:Or}:∀(k:Nat)(s:ag),s.made<=log.length->log.length-s.made<k->cf U l S O (aG U (dl o .del) s) (wk l O (o.a.cell l) o.o k log s) (log.drop s.made)
 |0,s,_,h=>by omega
 |k+1,s,T,h=>by
  rw[wk];refine wu hS (M0:=s.made) (λ D cur pt s1 mo fm=>?_) (λ D cur w pt s1 mo fm=>?_) s (Nat.le_refl _) T
  ·simp only[Bool.false_eq_true,if_false];exact mI (λ _=>rfl) fm
  ·simp only[if_true];unfold eU;simp only;rw[tz];refine fM (q:=⟨.at_ (Lk.cm o D cur w),s1⟩) (s:=s1) rfl trivial λ r1 J=>?_
   have m1:s1.up.made=s1.made+1:=rfl;show cf U l S O (aG U (if r1.ok then .at_ (.cd o D cur (av w).idx s1.made) else dl o .del) s1.up) _ _
   by_cases hk:r1.ok=true
   ·rw[if_pos hk,if_pos hk,bl jI,xj,tz];refine fM (q:=⟨.at_ (Lk.cd o D cur (av w).idx s1.made),s1.up⟩) (s:=s1.up) rfl trivial λ r2 h4=>?_
    have sA:s1.made+1<log.length:=h4;have m2:s1.up.up.made=s1.made+2:=rfl;show cf U l S O (aG U (if r2.ok then .bn (.rx cur s1.made) else dl o (.fin s1.made)) s1.up.up) _ _
    by_cases fR:r2.ok=true
    ·rw[if_pos fR,if_pos fR];refine HT (M0:=s1.up.up.made) (λ s2 _ _ _ sD ic=>?_) s1.up.up (Nat.le_refl _) (by omega);show cf U l S O ⟨.r1 (.ry s1.made) cur,s2⟩ _ _;refine Kk hS (M0:=s2.made) (λ s3 yd my=>?_) s2 (Nat.le_refl _);exact Me
    ·rw[if_neg fR,if_neg fR];refine wu hS (M0:=s1.up.up.made) (λ xq fj Kb s3 yd my=>?_) (λ xq fj aA Kb s3 yd my=>?_) s1.up.up (Nat.le_refl _) (by omega)
     ·exact mI (λ _=>rfl) my
     ·exact mI (λ _=>rfl) my
   ·rw[if_neg hk,if_neg hk];exact ED hS k s1.up (by omega) (by omega)
end
def i5(op:a9):Fk:=if op.kind=1 then .get else if op.kind=2 then .put op.b 0 else .del
def d6(o:Or)(op:a9)(gone:List (Int×Int)):Q Lk:=⟨dl o (i5 op),⟨0,gone,0,0,0⟩⟩
theorem GC{l:aI}{S:Nat}{O:Int}(hS:l.ar=(S:Int)){gone:List (Int×Int)}{op:a9}{log:List aJ}{o:Or}(ho:o.a.cell l=op.obj)(ae8:o.o=op.a)(hh:¬(op.obj<0\/l.size<=op.obj))(hk:op.kind=1\/op.kind=2\/op.kind=3):
 fJ l O gone op log=rn U l O (bZ U S (d6 o op gone) log):=by
 unfold fJ;rw[if_neg hh];unfold d6 i5;rw[<-ho,<-ae8];rcases hk with hk|hk|hk
 ·rw[if_pos hk,if_pos hk];exact MH hS ⟨0,gone,0,0,0⟩ (Nat.zero_le _)
 ·rw[if_neg (by omega),if_pos hk,if_neg (by omega),if_pos hk];exact GY hS (log.length+1) 0 ⟨0,gone,0,0,0⟩ (Nat.zero_le _) (by simp)
 ·rw[if_neg (by omega),if_neg (by omega),if_pos hk,if_neg (by omega),if_neg (by omega)];exact ED hS (log.length+1) ⟨0,gone,0,0,0⟩ (Nat.zero_le _) (by simp)
theorem uA{n:Int}(h0:0<=n)(h1:n<65536):bt n=n:=by unfold bt eh;simp;omega
theorem JG{n:Int}(h0:0<=n)(h1:n<65536):pk n=n+65536:=by unfold pk eh;simp;omega
theorem F9{n:Int}(h0:0<=n)(h1:n<65536):(av n).idx=n:=by rw[xn];omega
theorem F8{n:Int}(h0:0<=n)(h1:n<65536):(av (n+65536)).idx=n:=by rw[xn];omega
def Wf(N:Nat)(w:Int):Prop:=(w=(av w).idx\/w=(av w).idx+65536)/\(av w).idx<=N
theorem Wf.mark{N:Nat}{w:Int}(h:Wf N w):(av w).mark=true↔w=(av w).idx+65536:=by have h0:=jb w;have h1:=h.1;show decide (w/65536%2=1)=true↔_;rw[decide_eq_true_eq];omega
theorem Wf.plain{N:Nat}{w:Int}(h:Wf N w):¬(av w).mark=true↔w=(av w).idx:=by have h0:=jb w;have h1:=h.1;show¬decide (w/65536%2=1)=true↔_;rw[decide_eq_true_eq];omega
structure dF where
 put:Nat
 ret:Nat
def PN(N:Nat)(P:Int->Int->Prop)(i n:Int):Prop:=n=0\/(1<=n/\n<=N/\P i n)
def PD(N:Nat)(W:Ws)(X:List Int)(P:Int->Int->Prop)(i n:Int):Prop:=1<=n/\n<=N/\(P i n\/(n∈X/\W.nd n 1%2=0))
def Kp(W:Ws)(o:Or)(D:Int):Prop:=W.nd D 1<o.o
structure lP(N:Nat)(W:Ws)(X:List Int)(o:Or):Prop where
 x:o.d∈X
 ev:W.nd o.d 1%2=0
 lt:W.nd o.d 1<o.o
 d1:1<=o.d
 dN:o.d<=N
def Ab(a b:Int):Prop:=0<=a/\a<=2/\0<=b/\b<=2/\a≠b
def yH(m:Int):List Int:=if m=0 then[] else[m]
def oH:Fk->List Int
 |.put _ n=>yH n
 |_=>[]
def qW(W:Ws)(o:Or):Fk->Prop
 |.put v n=>0<=n/\(n≠0->W.nd n 1=o.o/\W.nd n 2=v)
 |.del=>o.o%2=1
 |_=>True
structure oK(N:Nat)(W:Ws)(X:List Int)(P:Int->Int->Prop)(o:Or)(f:Fk)(a b D cur:Int):Prop where
 or:lP N W X o
 fk:qW W o f
 ab:Ab a b
 c1:1<=cur
 cN:cur<=N
 R:P a cur
 pp:PD N W X P (3-a-b) D
 kp:Kp W o D
structure qd(N:Nat)(W:Ws)(X:List Int)(P:Int->Int->Prop)(o:Or)(D cur:Int):Prop where
 or:lP N W X o
 pp:∃i,PD N W X P i D
 R:∃i,PN N P i cur
 kp:Kp W o D
 kc:cur=0\/o.o<W.nd cur 1
structure At(N:Nat)(W:Ws)(X:List Int)(P:Int->Int->Prop)(o:Or)(D cur:Int):Prop where
 or:lP N W X o
 c1:1<=cur
 cN:cur<=N
 R:∃i,P i cur
 pp:∃i,PD N W X P i D
 kp:Kp W o D
 kc:W.nd cur 1=o.o
section
variable(N:Nat)
structure eX(aB:Nat)(W:Ws)(X:List Int)(aC:Int->Prop)(g:dF):Prop where
 first:X.headD 0=1
 even:∀n∈X,W.nd n 1%2=0->W.nd n 0<65536
 gj:∀n,aC n->W.nd n 1%2=1
 link:md (λ n=>W.nd n 0%65536) X
 form:∀n,n∈X\/aC n->Wf N (W.nd n 0)
 dead:∀n,aC n->65536<=W.nd n 0
 p9:X.Pairwise λ x y=>W.nd x 1<W.nd y 1
 e8:∀n∈X,1<=n/\n<=(N:Int)
 jS:g.ret+X.length=g.put
 k:g.put<=aB
def nK(W:Ws)(X:List Int)(P:Int->Int->Prop):Lk->Prop
 |.ga o f=>qW W o f/\lP N W X o
 |.gb o f a b D cur=>oK N W X P o f a b D cur
 |.ls o f a b D cur w _=>oK N W X P o f a b D cur/\Wf N w/\(cur∈X->PN N P b (av w).idx)/\((av w).mark=true->W.nd cur 0=w)
 |.lo o f a b D cur w _ _=>oK N W X P o f a b D cur/\Wf N w/\PN N P b (av w).idx/\((av w).mark=true->W.nd cur 0=w)
 |.cu o f a b D cur w=>oK N W X P o f a b D cur/\Wf N w/\PN N P b (av w).idx/\(av w).mark=true/\W.nd cur 0=w
 |.rr o f a b D nx _=>lP N W X o/\qW W o f/\Ab a b/\PN N P b nx/\PD N W X P (3-a-b) D/\Kp W o D
 |.gv o cur _=>1<=cur/\cur<=N/\(∃i,P i cur)/\W.nd cur 1=o.o
 |.tk o _ D cur=>qd N W X P o D cur
 |.p1 o _ n D cur=>qd N W X P o D cur/\1<=n
 |.p2 o _ n D cur=>qd N W X P o D cur/\1<=n/\W.nd n 1=o.o
 |.p0 o v n D cur=>qd N W X P o D cur/\1<=n/\W.nd n 1=o.o/\W.nd n 2=v
 |.cp o v n D cur=>qd N W X P o D cur/\1<=n/\W.nd n 1=o.o/\W.nd n 2=v/\W.nd n 0=cur
 |.cm o D cur w=>At N W X P o D cur/\Wf N w/\¬(av w).mark=true/\o.o%2=1
 |.cd o D cur nx _=>At N W X P o D cur/\W.nd cur 0=nx+65536/\0<=nx/\nx<=N
 |_=>True
def BE(W:Ws)(X:List Int)(P:Int->Int->Prop):Lk->Int->Int->Prop
 |.ga _ _,i,v=>PN N P i (av v).idx
 |.gb _ _ _ _ _ cur,i,v=>Wf N v/\(cur∈X->PN N P i (av v).idx)/\((av v).mark=true->W.nd cur 0=v)
 |_,_,_=>True
def cM(W:Ws)(X:List Int)(g:dF):Lk->List Int×dF
 |.cu _ _ _ _ D cur _=>if W.get (bM D)=bt cur then(X.erase cur,{g with ret:=g.ret+1}) else(X,g)
 |.cd _ D cur _ _=>if W.get (bM D)=bt cur then(X.erase cur,{g with ret:=g.ret+1}) else(X,g)
 |.cp _ _ n D cur=>if W.get (bM D)=bt cur then((X.takeWhile λ x=>decide (x≠D))++D::n::(X.dropWhile λ x=>decide (x≠D)).tail,{g with put:=g.put+1}) else(X,g)
 |_=>(X,g)
def ed:Lk->List Int
 |.ga _ f|.gb _ f _ _ _ _|.ls _ f _ _ _ _ _ _|.lo _ f _ _ _ _ _ _ _|.cu _ f _ _ _ _ _|.rr _ f _ _ _ _ _=>oH f
 |.p1 _ _ n _ _|.p2 _ _ n _ _|.p0 _ _ n _ _|.cp _ _ n _ _=>[n]
 |_=>[]
def iL:Lk->List Int
 |.rx n _=>[n]
 |_=>[]
def a7:Sp Lk dF where
 gh:=ed
 dead:=iL
 zero:=λ k=>match k with
  |.ry _=>True
  |_=>False
 Ax:=λ k i c=>match k with
  |.ga o _=>i=0/\c=.nd o.d 0
  |.gb _ _ _ b _ cur=>i=b/\c=.nd cur 0
  |_=>False
 SI:=eX N
 KL:=λ W X _ P k=>nK N W X P k
 GL:=λ W X _ P k i _ v=>BE N W X P k i v
 nx:=cM
structure gq(W W':Ws)(X be:List Int)(aC:Int->Prop)(mi:List Int):Prop where
 key:∀n,n∈X\/aC n->W'.nd n 1=W.nd n 1/\W'.nd n 2=W.nd n 2
 mw:∀n,n∈X\/aC n->65536<=W.nd n 0->W'.nd n 0=W.nd n 0
 mi:∀n,n∉X->¬aC n->n∉mi->∀i,W'.nd n i=W.nd n i
 sub:∀n,n∈X\/aC n->n∈be->n∈X
 stay:∀n∈X,W.nd n 1%2=0->n∈be
end
section
variable{N:Nat}{W W':Ws}{X be:List Int}{aC:Int->Prop}{mi:List Int}{P:Int->Int->Prop}
theorem PN.mono{ik:Int->Int->Prop}{i n:Int}(h:PN N P i n)(hP:∀i n,P i n->ik i n):PN N ik i n:=h.imp id λ h=>⟨h.1,h.2.1,hP _ _ h.2.2⟩
theorem PD.mono{ik:Int->Int->Prop}{i n:Int}(h:PD N W X P i n)(hP:∀i n,P i n->ik i n):PD N W X ik i n:=⟨h.1,h.2.1,h.2.2.imp (hP _ _) id⟩
theorem PD.at_{i n:Int}(hP:∀i n,P i n->n∈X\/aC n)(h:PD N W X P i n):n∈X\/aC n:=h.2.2.elim (hP _ _) λ h=>.inl h.1
theorem qu:gq W W X X aC mi:=⟨λ _ _=>⟨rfl,rfl⟩,λ _ _ _=>rfl,λ _ _ _ _ _=>rfl,λ _ _ h=>h,λ _ h _=>h⟩
variable(Y:gq W W' X be aC mi)
include Y
theorem gq.or{o:Or}(h:lP N W X o):lP N W' be o:=by have h1:=(Y.key o.d (.inl h.x)).1;exact⟨Y.stay _ h.x h.ev,by rw[h1];exact h.ev,by rw[h1];exact h.lt,h.d1,h.dN⟩
theorem gq.pd{i n:Int}(h:PD N W X P i n):PD N W' be P i n:=⟨h.1,h.2.1,h.2.2.imp id λ h=>⟨Y.stay _ h.1 h.2,by rw[(Y.key n (.inl h.1)).1];exact h.2⟩⟩
theorem gq.kp{o:Or}{D i:Int}(hP:∀i n,P i n->n∈X\/aC n)(G:PD N W X P i D)(h:Kp W o D):Kp W' o D:=by unfold Kp at h⊢;rw[(Y.key D (G.at_ hP)).1];exact h
theorem gq.fk{o:Or}{f:Fk}(hm:∀n∈oH f,n∉X/\¬aC n/\n∉mi)(h:qW W o f):qW W' o f:=by
 cases f with
 |put v n=>refine⟨h.1,λ hn=>?_⟩;have h1:=hm n (by simp[oH,yH,hn]);rw[Y.mi n h1.1 h1.2.1 h1.2.2,Y.mi n h1.1 h1.2.1 h1.2.2];exact h.2 hn
 |del=>exact h
 |_=>trivial
theorem gq.fN{o:Or}{f:Fk}{a b D cur:Int}(hP:∀i n,P i n->n∈X\/aC n)(hm:∀n∈oH f,n∉X/\¬aC n/\n∉mi)(h:oK N W X P o f a b D cur):oK N W' be P o f a b D cur:=⟨Y.or h.or,Y.fk hm h.fk,h.ab,h.c1,h.cN,h.R,Y.pd h.pp,Y.kp hP h.pp h.kp⟩
theorem gq.xO{o:Or}{D cur:Int}(hP:∀i n,P i n->n∈X\/aC n)(h:qd N W X P o D cur):qd N W' be P o D cur:=by
 obtain⟨h0,⟨i,h1⟩,⟨j,u⟩,J,h4⟩:=h;refine⟨Y.or h0,⟨i,Y.pd h1⟩,⟨j,u⟩,Y.kp hP h1 J,?_⟩;rcases h4 with h4|h4
 ·exact .inl h4
 ·rcases u with u|u
  ·exact .inl u
  ·exact .inr (by rw[(Y.key cur (hP _ _ u.2.2)).1];exact h4)
theorem gq.at_{o:Or}{D cur:Int}(hP:∀i n,P i n->n∈X\/aC n)(h:At N W X P o D cur):At N W' be P o D cur:=by obtain⟨h0,h1,F,⟨i,u⟩,⟨j,J⟩,h4,h5⟩:=h;exact⟨Y.or h0,h1,F,⟨i,u⟩,⟨j,Y.pd J⟩,Y.kp hP J h4,by rw[(Y.key cur (hP _ _ u)).1];exact h5⟩
theorem gq.marked{w n:Int}(hn:n∈X\/aC n)(hw:Wf N w)(h:(av w).mark=true->W.nd n 0=w):(av w).mark=true->W'.nd n 0=w:=λ hm=>by
 have h1:=h hm;have u:=hw.mark.1 hm;have J:=jb w;rw[Y.mw n hn (by omega)];exact h1
theorem gq.kl{k:Lk}(hP:∀i n,P i n->n∈X\/aC n)(hm:∀n∈ed k,n∉X/\¬aC n/\n∉mi)(h:nK N W X P k):nK N W' be P k:=by
 cases k with
 |ga o f=>exact⟨Y.fk hm h.1,Y.or h.2⟩
 |gb o f a b D cur=>exact Y.fN hP hm h
 |ls o f a b D cur w t=>obtain⟨h1,u,J,h4⟩:=h;exact⟨Y.fN hP hm h1,u,λ hx=>J (Y.sub cur (hP _ _ h1.R) hx),Y.marked (hP _ _ h1.R) u h4⟩
 |lo o f a b D cur w t k=>obtain⟨h1,u,J,h4⟩:=h;exact⟨Y.fN hP hm h1,u,J,Y.marked (hP _ _ h1.R) u h4⟩
 |cu o f a b D cur w=>obtain⟨h1,u,J,h4,h5⟩:=h;exact⟨Y.fN hP hm h1,u,J,h4,Y.marked (hP _ _ h1.R) u (λ _=>h5) h4⟩
 |rr o f a b D nx pt=>obtain⟨h0,h1,u,J,h4,h5⟩:=h;exact⟨Y.or h0,Y.fk hm h1,u,J,Y.pd h4,Y.kp hP h4 h5⟩
 |gv o cur pt=>obtain⟨h1,F,⟨i,u⟩,J⟩:=h;exact⟨h1,F,⟨i,u⟩,by rw[(Y.key cur (hP _ _ u)).1];exact J⟩
 |tk o v D cur=>exact Y.xO hP h
 |p1 o v n D cur=>exact⟨Y.xO hP h.1,h.2⟩
 |p2 o v n D cur=>obtain⟨h1,u,J⟩:=h;have hn:=hm n (by simp[ed]);exact⟨Y.xO hP h1,u,by rw[Y.mi n hn.1 hn.2.1 hn.2.2];exact J⟩
 |p0 o v n D cur=>obtain⟨h1,u,J,h4⟩:=h;have hn:=hm n (by simp[ed]);exact⟨Y.xO hP h1,u,by rw[Y.mi n hn.1 hn.2.1 hn.2.2];exact J,by rw[Y.mi n hn.1 hn.2.1 hn.2.2];exact h4⟩
 |cp o v n D cur=>obtain⟨h1,u,J,h4,h5⟩:=h;have hn:=hm n (by simp[ed]);exact⟨Y.xO hP h1,u,by rw[Y.mi n hn.1 hn.2.1 hn.2.2];exact J,by rw[Y.mi n hn.1 hn.2.1 hn.2.2];exact h4,by rw[Y.mi n hn.1 hn.2.1 hn.2.2];exact h5⟩
 |cm o D cur w=>obtain⟨h1,u,J,h4⟩:=h;exact⟨Y.at_ hP h1,u,J,h4⟩
 |cd o D cur nx at_=>obtain⟨h1,u,J,h4⟩:=h;obtain⟨i,h5⟩:=h1.R;exact⟨Y.at_ hP h1,by rw[Y.mw cur (hP _ _ h5) (by omega)];exact u,J,h4⟩
 |_=>trivial
theorem gq.acR{k:Lk}{i v:Int}(hk:∃ik,(∀i n,ik i n->n∈X\/aC n)/\nK N W X ik k)(h:BE N W X P k i v):BE N W' be P k i v:=by
 cases k with
 |ga o f=>exact h
 |gb o f a b D cur=>obtain⟨ik,adt,hk⟩:=hk;obtain⟨h1,u,J⟩:=h;have F:=adt _ _ hk.R;exact⟨h1,λ hx=>u (Y.sub cur F hx),Y.marked F h1 J⟩
 |_=>trivial
end
theorem vC{nx:Int->Int}:∀{A B:List Int},md nx (A++B)->md nx B
 |[],_,h=>h
 |_::A,_,h=>vC (A:=A) h.2
theorem VP{nx BK:Int->Int}{p:Int}{C B:List Int}:∀{A:List Int},md nx (A++p::C)->(∀x∈A,BK x=nx x)->BK p=B.headD 0->md BK B->md BK (A++p::B)
 |[],_,_,G,hB=>⟨G,hB⟩
 |a::A,h,hA,G,hB=>by
  refine⟨?_,VP h.2 (λ x hx=>hA x (by simp[hx])) G hB⟩;rw[hA a (by simp),h.1];cases A<;>rfl
theorem DU{X:List Int}{n:Int}(h:n∈X)(K:X.Nodup):∃A B,X=A++n::B/\n∉A/\n∉B:=by obtain⟨A,B,rfl⟩:=List.append_of_mem h;rw[List.nodup_append] at K;exact⟨A,B,rfl,λ hA=>K.2.2 n hA n (by simp) rfl,(List.nodup_cons.1 K.2.1).1⟩
theorem mY{W:Ws}{n i v m j:Int}:(W.fF n i v).nd m j=if m=n/\j=i then v else W.nd m j:=rfl
theorem po{W:Ws}{c v d:Int}:(W.hE c v).ob d=if d=c then v else W.ob d:=rfl
section
variable{N aB:Nat}{W:Ws}{X:List Int}{aC:Int->Prop}{g:dF}
structure uR(W:Ws)(X:List Int)(D c:Int)(A B:List Int):Prop where
 eq:X=A++B
 hB:B.headD 0=c
 hA:∃dC,A=dC++[D]
theorem DW(h:eX N aB W X aC g)(eM:X.Nodup){D c:Int}(G:D∈X\/aC D)(hw:W.nd D 0=c)(h1:c<65536)(h0:0<=c):∃A B,uR W X D c A B:=by
 have afc:D∈X:=by
  rcases G with G|G
  ·exact G
  ·have:=h.dead D G;omega
 obtain⟨A,B,hX,_,_⟩:=DU afc eM;refine⟨A++[D],B,by rw[hX];simp,?_,A,rfl⟩;have Z:=h.link;rw[hX] at Z;have fS:W.nd D 0%65536=B.headD 0:=(vC Z).1;rw[<-fS,hw];omega
theorem uR.oz{D c:Int}{A B:List Int}(h:uR W X D c A B)(F:c≠0):∃qc,B=c::qc/\c∈X:=by
 cases B with
 |nil=>exact absurd h.hB.symm F
 |cons b qc=>have:b=c:=h.hB;subst this;exact⟨qc,rfl,by rw[h.eq];simp⟩
theorem MG{D:Int}:W.get (bM D)=W.nd D 0:=rfl
theorem l7{D v m j:Int}:(W.put (bM D) v).nd m j=if m=D/\j=0 then v else W.nd m j:=rfl
theorem Xz(h:eX N aB W X aC g){D c v:Int}{A B C:List Int}(T:uR W X D c A C)(eM:X.Nodup)(hv:v=B.headD 0)(h0:0<=v)(h1:v<65536)(FQ:D∉B)(hB:md (λ n=>W.nd n 0%65536) B):(A++B).headD 0=X.headD 0/\md (λ n=>(W.put (bM D) v).nd n 0%65536) (A++B):=by
 have AD:md (λ n=>(W.put (bM D) v).nd n 0%65536) B:=hB.same λ x hx=>by
  rw[l7,if_neg (λ hh:x=D/\(0:Int)=0=>FQ (hh.1▸hx))]
 obtain⟨dC,rfl⟩:=T.hA;have Z:=h.link;have he:=T.eq;rw[List.append_assoc,List.singleton_append] at he;rw[he] at Z eM;have I2:D∉dC:=by rw[List.nodup_append] at eM;exact λ hh=>eM.2.2 D hh D (by simp) rfl
 refine⟨?_,?_⟩
 ·rw[he];cases dC<;>rfl
 ·rw[List.append_assoc,List.singleton_append];refine VP Z (λ x hx=>?_) ?_ AD
  ·rw[l7,if_neg (λ hh:x=D/\(0:Int)=0=>I2 (hh.1▸hx))]
  ·rw[l7,if_pos ⟨rfl,rfl⟩,hv];omega
theorem Xi{D v:Int}{be mi:List Int}(G:D∈X\/aC D)(aY:W.nd D 0<65536)(rO:∀n,n∈X\/aC n->n∈be->n∈X)(bY:∀n∈X,W.nd n 1%2=0->n∈be):gq W (W.put (bM D) v) X be aC mi:=by
 refine⟨λ n hn=>⟨by rw[l7,if_neg (by omega)],by rw[l7,if_neg (by omega)]⟩,λ n hn hm=>?_,λ n hX hD _ i=>?_,rO,bY⟩
 ·rw[l7,if_neg];rintro⟨u,_⟩;rw[u] at hm;omega
 ·rw[l7,if_neg];rintro⟨u,_⟩;rcases G with G|G
  ·exact hX (u▸G)
  ·exact hD (u▸G)
theorem QP{v:Int}(h0:0<=v)(h1:v<=N)(hN:N<=100):Wf N v:=by have:=F9 h0 (show v<65536 by omega);exact⟨.inl this.symm,by rw[this];exact h1⟩
theorem Hj{v:Int}(h0:0<=v)(h1:v<=N)(hN:N<=100):Wf N (v+65536):=by have:=F8 h0 (show v<65536 by omega);exact⟨.inr (by rw[this]),by rw[this];exact h1⟩
theorem TZ(h:∀n∈X,1<=n/\n<=(N:Int)):0<=X.headD 0/\X.headD 0<=(N:Int):=by
 cases X with
 |nil=>simp
 |cons x X=>have:=h x (by simp);simp only[List.headD_cons];omega
theorem vW(h:eX N aB W X aC g)(hN:N<=100)(eM:X.Nodup)(_:∀n,aC n->n∉X){D cur nx:Int}(G:D∈X\/aC D)(F:1<=cur)(d4:cur<=N)(hw:W.nd D 0=cur)(hm:W.nd cur 0=nx+65536)(h0:0<=nx)(h1:nx<=N){lK:Int->Prop}(M5:∀n,lK n->aC n\/n=cur):
 cur∈X/\eX N (aB+1) (W.put (bM D) nx) (X.erase cur) lK {g with ret:=g.ret+1}/\(∀mi,gq W (W.put (bM D) nx) X (X.erase cur) aC mi)/\(∀n,X.count n=(X.erase cur).count n+[cur].count n)/\∃A B,uR W X D cur A (cur::B)/\X.erase cur=A++B/\B.headD 0=nx:=by
 obtain⟨A,C,T⟩:=DW h eM G hw (by omega) (by omega);obtain⟨B,rfl,oa⟩:=T.oz (by omega);have hX:=T.eq;have hnd:=eM;rw[hX,List.nodup_append] at hnd;have TV:cur∉A:=λ hh=>hnd.2.2 cur hh cur (by simp) rfl
 have AQ:X.erase cur=A++B:=by rw[hX,List.erase_append_right _ TV,List.erase_cons_head]
 have Z:=h.link;rw[hX] at Z;have A3:=vC Z;have ya:B.headD 0=nx:=by have fS:W.nd cur 0%65536=B.headD 0:=A3.1;rw[hm] at fS;omega
 have ad2:W.nd cur 1%2=1:=by
  have:=h.even cur oa
  by_cases e:W.nd cur 1%2=0
  ·have:=this e;omega
  ·omega
 obtain⟨dC,pJ⟩:=T.hA;have ct:D≠cur:=λ e=>TV (by rw[pJ,<-e];simp)
 have FQ:D∉B:=λ hh=>hnd.2.2 D (by rw[pJ];simp) D (by simp[hh]) rfl
 have rM:=Xz h T eM ya.symm h0 (by omega) FQ A3.2;rw[<-AQ] at rM;have rO:∀n,n∈X.erase cur->n∈X:=λ n hn=>List.mem_of_mem_erase hn
 have Y:∀mi,gq W (W.put (bM D) nx) X (X.erase cur) aC mi:=λ mi=>Xi G (by rw[hw];omega) (λ n _ hn=>rO n hn) (λ n hn he=>(List.mem_erase_of_ne (λ e=>by subst e;omega)).2 hn)
 have pL:∀n,(W.put (bM D) nx).nd n 1=W.nd n 1:=λ n=>by rw[l7,if_neg (by omega)]
 refine⟨oa,⟨rM.1.trans h.first,λ n hn he=>?_,λ n hn=>?_,rM.2,λ n hn=>?_,λ n hn=>?_,?_,λ n hn=>h.e8 n (rO n hn),?_,Nat.le_succ_of_le h.k⟩,Y,λ n=>?_,A,B,T,AQ,ya⟩
 ·rw[pL] at he;rw[l7];split
  ·omega
  ·exact h.even n (rO n hn) he
 ·rw[pL];rcases M5 n hn with hn|rfl
  ·exact h.gj n hn
  ·exact ad2
 ·rw[l7];split
  ·exact QP h0 h1 hN
  ·rcases hn with hn|hn
   ·exact h.form n (.inl (rO n hn))
   ·rcases M5 n hn with hn|rfl
    ·exact h.form n (.inr hn)
    ·exact h.form n (.inl oa)
 ·rcases M5 n hn with hn|rfl
  ·rw[(Y []).mw n (.inr hn) (h.dead n hn)];exact h.dead n hn
  ·rw[l7,if_neg (λ hh:n=D/\(0:Int)=0=>ct hh.1.symm)];omega
 ·have:=h.p9.sublist (List.erase_sublist (a:=cur) (l:=X));exact this.imp λ{x y} w8=>by rw[pL,pL];exact w8
 ·have u:=h.jS;have J:=List.length_erase_of_mem oa;have h4:0<X.length:=List.length_pos_of_mem oa;simp only;omega
 ·rw[List.count_erase];have h4:=List.count_pos_iff.2 oa
  by_cases e:n=cur
  ·subst e;simp;omega
  ·have ae:¬cur=n:=λ hh=>e hh.symm
   simp[ae]
theorem Jj(h:eX N aB W X aC g)(hK:g.put+1<=aB+1)(hN:N<=100)(eM:X.Nodup){D cur n:Int}{o:Or}(G:D∈X\/aC D)(F:0<=cur)(d4:cur<=N)(hw:W.nd D 0=cur)(mT:1<=n)(pN:n<=N)(wS:n∉X)(IU:¬aC n)(cv:W.nd n 1=o.o)(qG:W.nd n 0=cur)(IH:Kp W o D)(IF:cur=0\/o.o<W.nd cur 1):
 ∃A B,uR W X D cur A B/\eX N (aB+1) (W.put (bM D) n) (A++n::B) aC {g with put:=g.put+1}/\(∀mi,gq W (W.put (bM D) n) X (A++n::B) aC mi):=by
 obtain⟨A,B,T⟩:=DW h eM G hw (by omega) (by omega);have hX:=T.eq;have Be:D≠n:=λ e=>by
  subst e;exact G.elim wS IU
 have hnd:=eM;rw[hX,List.nodup_append] at hnd;obtain⟨dC,pJ⟩:=T.hA;have FQ:D∉n::B:=λ hh=>by
  rw[List.mem_cons] at hh;rcases hh with hh|hh
  ·exact Be hh
  ·exact hnd.2.2 D (by rw[pJ];simp) D hh rfl
 have Z:=h.link;rw[hX] at Z;have A3:md (λ n=>W.nd n 0%65536) (n::B):=⟨by show W.nd n 0%65536=B.headD 0;rw[T.hB,qG];omega,vC Z⟩;have rM:=Xz h (B:=n::B) (v:=n) T eM rfl (by omega) (by omega) FQ A3;have qE:∀x,x∈A++n::B↔x∈X\/x=n:=λ x=>by
  rw[hX];simp only[List.mem_append,List.mem_cons];constructor
  ·rintro(h|h|h)
   ·exact .inl (.inl h)
   ·exact .inr h
   ·exact .inl (.inr h)
  ·rintro((h|h)|h)
   ·exact .inl h
   ·exact .inr (.inr h)
   ·exact .inr (.inl h)
 have Y:∀mi,gq W (W.put (bM D) n) X (A++n::B) aC mi:=λ mi=>Xi G (by rw[hw];omega) (λ x hx cX=>by
  rcases(qE x).1 cX with h1|rfl
  ·exact h1
  ·exact hx.elim id λ hh=>absurd hh IU) (λ x hx _=>(qE x).2 (.inl hx))
 have pL:∀cO,(W.put (bM D) n).nd cO 1=W.nd cO 1:=λ cO=>by rw[l7,if_neg (by omega)]
 refine⟨A,B,T,⟨rM.1.trans h.first,λ x hx he=>?_,λ x hx=>by rw[pL];exact h.gj x hx,rM.2,λ x hx=>?_,λ x hx=>?_,?_,λ x hx=>?_,?_,hK⟩,Y⟩
 ·rw[pL] at he;rw[l7];split
  ·omega
  ·rcases(qE x).1 hx with h1|rfl
   ·exact h.even x h1 he
   ·rw[qG];omega
 ·rw[l7];split
  ·exact QP (by omega) pN hN
  ·rcases hx with hx|hx
   ·rcases(qE x).1 hx with h1|rfl
    ·exact h.form x (.inl h1)
    ·rw[qG];exact QP F d4 hN
   ·exact h.form x (.inr hx)
 ·rw[(Y []).mw x (.inr hx) (h.dead x hx)];exact h.dead x hx
 ·have hr:=h.p9;rw[hX,List.pairwise_append] at hr;obtain⟨r1,r2,r3⟩:=hr;rw[List.pairwise_append];have ade:∀x∈A,W.nd x 1<o.o:=λ x hx=>by
   have rG:W.nd D 1<o.o:=IH;rw[pJ] at hx r1;rw[List.pairwise_append] at r1;rcases List.mem_append.1 hx with hx|hx
   ·have:=r1.2.2 x hx D (by simp);omega
   ·simp at hx;rw[hx];exact rG
  have adh:∀x∈B,o.o<W.nd x 1:=λ x hx=>by
   have hB:=T.hB;cases B with
   |nil=>simp at hx
   |cons b B=>
    have sF:b=cur:=hB;have jD:=(h.e8 b (by rw[hX];simp)).1;have rG:o.o<W.nd b 1:=by rw[sF];exact IF.resolve_left (by omega)
    rw[List.mem_cons] at hx;rcases hx with rfl|hx
    ·exact rG
    ·have:=(List.pairwise_cons.1 r2).1 x hx;omega
  refine⟨r1.imp λ{x y} w8=>by rw[pL,pL];exact w8,List.pairwise_cons.2 ⟨λ x hx=>?_,r2.imp λ{x y} w8=>by rw[pL,pL];exact w8⟩,λ x hx y hy=>?_⟩
  ·rw[pL,pL,cv];exact adh x hx
  ·rw[pL,pL];rw[List.mem_cons] at hy;rcases hy with rfl|hy
   ·rw[cv];exact ade x hx
   ·exact r3 x hx y hy
 ·rcases(qE x).1 hx with h1|rfl
  ·exact h.e8 x h1
  ·exact⟨mT,pN⟩
 ·have u:=h.jS;rw[hX] at u;simp only[List.length_append,List.length_cons] at u⊢;omega
theorem JI(h:eX N aB W X aC g)(hN:N<=100){cur w:Int}(F:cur∈X\/aC cur)(hw:Wf N w)(hm:¬(av w).mark=true)(he:W.nd cur 0=w)(ho:W.nd cur 1%2=1):
 cur∈X/\eX N (aB+1) (W.fF cur 0 ((av w).idx+65536)) X aC g/\(∀mi,gq W (W.fF cur 0 ((av w).idx+65536)) X X aC mi):=by
 have G:=hw.plain.1 hm;have hi:=jb w;have fD:=hw.2;have hX:cur∈X:=F.elim id λ hD=>by have:=h.dead cur hD;omega
 have aW:∀x j,¬(x=cur/\j=0)->(W.fF cur 0 ((av w).idx+65536)).nd x j=W.nd x j:=λ x j hx=>by rw[mY,if_neg hx]
 have eN:∀x,(W.fF cur 0 ((av w).idx+65536)).nd x 1=W.nd x 1:=λ x=>aW x 1 (by omega)
 have Y:∀mi,gq W (W.fF cur 0 ((av w).idx+65536)) X X aC mi:=λ mi=>⟨λ n _=>⟨aW n 1 (by omega),aW n 2 (by omega)⟩,λ n _ hn=>aW n 0 (λ hh=>by rw[hh.1] at hn;omega),λ n h1 _ _ i=>aW n i (λ hh=>h1 (hh.1▸hX)),λ _ _ h=>h,λ _ h _=>h⟩
 refine⟨hX,⟨h.first,λ x hx c8=>?_,λ x hx=>by rw[eN];exact h.gj x hx,h.link.same λ x hx=>?_,λ x hx=>?_,λ x hx=>?_,h.p9.imp λ{x y} w8=>by rw[eN,eN];exact w8,h.e8,h.jS,Nat.le_succ_of_le h.k⟩,Y⟩
 ·rw[eN] at c8;rw[aW x 0 (λ hh=>by rw[hh.1] at c8;omega)];exact h.even x hx c8
 ·rw[mY];split
  ·rename_i hh;rw[hh.1];omega
  ·rfl
 ·rw[mY];split
  ·exact Hj hi.1 fD hN
  ·exact h.form x hx
 ·rw[(Y []).mw x (.inr hx) (h.dead x hx)];exact h.dead x hx
theorem D3(h:eX N aB W X aC g){n i v:Int}(wS:n∉X)(IU:¬aC n):eX N (aB+1) (W.fF n i v) X aC g/\gq W (W.fF n i v) X X aC [n]:=by
 have aW:∀x j,x≠n->(W.fF n i v).nd x j=W.nd x j:=λ x j hx=>by rw[mY,if_neg (λ hh:x=n/\_=>hx hh.1)]
 have hX:∀x,x∈X\/aC x->x≠n:=λ x hx e=>by subst e;exact hx.elim wS IU
 refine⟨⟨h.first,λ x hx he=>?_,λ x hx=>by rw[aW x 1 (hX x (.inr hx))];exact h.gj x hx,h.link.same λ x hx=>by rw[aW x 0 (hX x (.inl hx))],λ x hx=>by rw[aW x 0 (hX x hx)];exact h.form x hx,λ x hx=>by rw[aW x 0 (hX x (.inr hx))];exact h.dead x hx,?_,h.e8,h.jS,Nat.le_succ_of_le h.k⟩,⟨λ x hx=>⟨aW x 1 (hX x hx),aW x 2 (hX x hx)⟩,λ x hx _=>aW x 0 (hX x hx),λ x _ _ J j=>aW x j (by simpa using J),λ _ _ h=>h,λ _ h _=>h⟩⟩
 ·rw[aW x 1 (hX x (.inl hx))] at he;rw[aW x 0 (hX x (.inl hx))];exact h.even x hx he
 ·exact List.Pairwise.imp_of_mem (λ{x y} hx hy w8=>by rw[aW x 1 (hX x (.inl hx)),aW y 1 (hX y (.inl hy))];exact w8) h.p9
end
section
variable{l:aI}{S N aB:Nat}{W:Ws}{X:List Int}{aC:Int->Prop}{g:dF}{P ik:Int->Int->Prop}
theorem oK.mono{o:Or}{f:Fk}{a b D cur:Int}(h:oK N W X P o f a b D cur)(hP:∀i n,P i n->ik i n):oK N W X ik o f a b D cur:=⟨h.or,h.fk,h.ab,h.c1,h.cN,hP _ _ h.R,h.pp.mono hP,h.kp⟩
theorem qd.mono{o:Or}{D cur:Int}(h:qd N W X P o D cur)(hP:∀i n,P i n->ik i n):qd N W X ik o D cur:=⟨h.or,h.pp.imp λ _ h=>h.mono hP,h.R.imp λ _ h=>h.mono hP,h.kp,h.kc⟩
theorem At.mono{o:Or}{D cur:Int}(h:At N W X P o D cur)(hP:∀i n,P i n->ik i n):At N W X ik o D cur:=⟨h.or,h.c1,h.cN,h.R.imp λ _ h=>hP _ _ h,h.pp.imp λ _ h=>h.mono hP,h.kp,h.kc⟩
theorem agU{k:Lk}(h:nK N W X P k)(hP:∀i n,P i n->ik i n):nK N W X ik k:=by
 cases k with
 |gb o f a b D cur=>exact oK.mono h hP
 |ls o f a b D cur w t=>exact⟨h.1.mono hP,h.2.1,λ hx=>(h.2.2.1 hx).mono hP,h.2.2.2⟩
 |lo o f a b D cur w t k=>exact⟨h.1.mono hP,h.2.1,h.2.2.1.mono hP,h.2.2.2⟩
 |cu o f a b D cur w=>exact⟨h.1.mono hP,h.2.1,h.2.2.1.mono hP,h.2.2.2⟩
 |rr o f a b D nx pt=>exact⟨h.1,h.2.1,h.2.2.1,h.2.2.2.1.mono hP,h.2.2.2.2.1.mono hP,h.2.2.2.2.2⟩
 |gv o cur pt=>exact⟨h.1,h.2.1,h.2.2.1.imp λ _ h=>hP _ _ h,h.2.2.2⟩
 |tk o v D cur=>exact qd.mono h hP
 |p1 o v n D cur=>exact⟨h.1.mono hP,h.2⟩
 |p2 o v n D cur=>exact⟨h.1.mono hP,h.2⟩
 |p0 o v n D cur=>exact⟨h.1.mono hP,h.2⟩
 |cp o v n D cur=>exact⟨h.1.mono hP,h.2⟩
 |cm o D cur w=>exact⟨h.1.mono hP,h.2⟩
 |cd o D cur nx a=>exact⟨h.1.mono hP,h.2⟩
 |_=>exact h
theorem agT{k:Lk}{i v:Int}(h:BE N W X P k i v)(hP:∀i n,P i n->ik i n):BE N W X ik k i v:=by
 cases k with
 |ga o f=>exact PN.mono h hP
 |gb o f a b D cur=>exact⟨h.1,λ hx=>(h.2.1 hx).mono hP,h.2.2⟩
 |_=>exact h
structure D7(l:aI)(S N:Nat)(W:Ws)(X:List Int)(g:dF)(P:Int->Int->Prop)(s:ag)(f:Fk)(R:Pc Lk):Prop where
 ok:oP (a7 N) l S N W X g P s R
 gh:eQ (a7 N) R=oH f
 dead:eJ (a7 N) R=[]
theorem SN{s:ag}{o:Or}{f:Fk}{D cur pt:Int}(hf:qW W o f)(hb:qd N W X P o D cur):D7 l S N W X g P s f (d9 o f D cur pt):=by
 unfold d9;cases f with
 |get=>exact⟨trivial,rfl,rfl⟩
 |put v n=>
  simp only;split
  ·rename_i h;subst h;exact⟨⟨hb,λ h=>absurd h id⟩,rfl,rfl⟩
  ·rename_i h;obtain⟨h1,u⟩:=hf;exact⟨⟨⟨hb,by omega,(u h).1,(u h).2⟩,λ h=>absurd h id⟩,by simp[eQ,a7,ed,oH,yH,h],rfl⟩
 |del=>exact⟨trivial,rfl,rfl⟩
 |fin a=>exact⟨trivial,rfl,rfl⟩
theorem acu{s:ag}{o:Or}{f:Fk}{D cur w pt:Int}(hf:qW W o f)(ha:At N W X P o D cur)(hw:Wf N w)(hm:¬(av w).mark=true):D7 l S N W X g P s f (eU o f D cur w pt):=by
 unfold eU;cases f with
 |get=>exact⟨⟨⟨ha.c1,ha.cN,ha.R,ha.kc⟩,λ h=>absurd h id⟩,rfl,rfl⟩
 |put v n=>
  simp only;split
  ·rename_i h;subst h;exact⟨trivial,rfl,rfl⟩
  ·rename_i h;exact⟨⟨trivial,λ h=>absurd h id⟩,by simp[eQ,a7,ed,oH,yH,h],rfl⟩
 |del=>exact⟨⟨⟨ha,hw,hm,hf⟩,λ h=>absurd h id⟩,rfl,rfl⟩
 |fin a=>exact⟨trivial,rfl,rfl⟩
theorem MP{s:ag}{o:Or}{f:Fk}{a b D cur pt:Int}(ho:lP N W X o)(hf:qW W o f)(sE:Ab a b)(F:PN N P a cur)(G:PD N W X P (3-a-b) D)(hk:Kp W o D):D7 l S N W X g P s f (dG o f a b D cur pt):=by
 unfold dG;split
 ·exact SN hf ⟨ho,⟨_,G⟩,⟨a,.inl rfl⟩,hk,.inl rfl⟩
 ·rename_i h0;have F:=F.resolve_left h0;obtain⟨a1,a2,a3,a4,a5⟩:=sE;exact⟨⟨⟨ho,hf,⟨a1,a2,a3,a4,a5⟩,F.1,F.2.1,⟨a5,F.2.2⟩,⟨G.1,G.2.1,G.2.2.imp (λ h=>⟨by omega,h⟩) id⟩,hk⟩,(λ h=>absurd h id),a3,a4,⟨F.1,F.2.1,by omega,by omega⟩,rfl,rfl⟩,rfl,rfl⟩
theorem El{s:ag}{o:Or}{f:Fk}(ho:lP N W X o)(hf:qW W o f):D7 l S N W X g P s f (dl o f):=
 ⟨⟨⟨hf,ho⟩,(λ h=>absurd h id),by omega,by omega,⟨ho.d1,ho.dN,by omega,by omega⟩,rfl,rfl⟩,rfl,rfl⟩
theorem s8{s:ag}{k:Lk}{gS:Pc Lk}(bq:eX N aB W X aC g)(hD:∀n∈iL k,aC n)(aV:oP (a7 N) l S N W X g P s gS)(hm:eQ (a7 N) gS=ed k)(fC:eJ (a7 N) gS=iL k):zl (a7 N) l S N aB W X aC g P s k W X g gS:=by
 refine⟨?_,aV,λ _ _ _ _ _ h=>h,λ _ _ _ _ _ _ _ _ _ h=>h,λ n=>by rw[hm,fC];rfl,λ n h=>.inl h,λ n h=>by rw[fC];exact h⟩;have nv:∀n,aC n\/n∈eJ (a7 N) gS->aC n:=λ n hn=>hn.elim id λ h=>hD n (by rw[<-fC];exact h)
 exact⟨bq.first,bq.even,λ n hn=>bq.gj n (nv n hn),bq.link,λ n hn=>bq.form n (hn.imp id (nv n)),λ n hn=>bq.dead n (nv n hn),bq.p9,bq.e8,bq.jS,Nat.le_succ_of_le bq.k⟩
theorem xY{s:ag}{k:Lk}{f:Fk}{gS:Pc Lk}(bq:eX N aB W X aC g)(Y:D7 l S N W X g P s f gS)(hm:ed k=oH f)(fC:iL k=[]):zl (a7 N) l S N aB W X aC g P s k W X g gS:=
 s8 bq (λ n hn=>by rw[fC] at hn;simp at hn) Y.ok (Y.gh.trans hm.symm) (Y.dead.trans fC.symm)
theorem Ao{s:ag}{k:Lk}{gS:Pc Lk}{W':Ws}{be:List Int}{bg:dF}(Y:gq W W' X be aC (ed k))(bq:eX N (aB+1) W' be (λ n=>aC n\/n∈eJ (a7 N) gS) bg)(aV:oP (a7 N) l S N W' be bg P s gS)
 (F:∀n,be.count n+(eQ (a7 N) gS).count n+(eJ (a7 N) gS).count n=X.count n+(ed k).count n+(iL k).count n)(hX:∀n∈X,n∈be\/n∈eJ (a7 N) gS)(fC:∀n∈iL k,n∈eJ (a7 N) gS):zl (a7 N) l S N aB W X aC g P s k W' be bg gS:=
 ⟨bq,aV,λ _ _ hP hm _ h=>Y.kl hP hm h,λ _ P2 i _ _ hP _ _ hk h=>Y.acR ⟨mB P2 i,(λ j n hj=>hP j n hj.2),hk⟩ h,F,hX,fC⟩
theorem eX.GF(h:eX N aB W X aC g){R:Pc Lk}(G:eJ (a7 N) R=[]):eX N aB W X (λ n=>aC n\/n∈eJ (a7 N) R) g:=by
 have nv:∀n,aC n\/n∈eJ (a7 N) R->aC n:=λ n hn=>hn.elim id λ h=>by rw[G] at h;simp at h
 exact⟨h.first,h.even,λ n hn=>h.gj n (nv n hn),h.link,λ n hn=>h.form n (hn.imp id (nv n)),λ n hn=>h.dead n (nv n hn),h.p9,h.e8,h.jS,h.k⟩
theorem JQ{n D cur:Int}{A B:List Int}(T:uR W X D cur A B)(eM:X.Nodup):(X.takeWhile λ x=>decide (x≠D))++D::n::(X.dropWhile λ x=>decide (x≠D)).tail=A++n::B:=by
 obtain⟨dC,rfl⟩:=T.hA;have he:=T.eq;rw[List.append_assoc,List.singleton_append] at he;subst he;have I2:∀x∈dC,(decide (x≠D))=true:=λ x hx=>by
  rw[decide_eq_true_eq];rintro rfl;rw[List.nodup_append] at eM;exact eM.2.2 x hx x (by simp) rfl
 rw[List.takeWhile_append_of_pos I2,List.dropWhile_append_of_pos I2];simp
theorem agY(hN:N<=100){k:Lk}(s:ag)(m:Nat)(bq:eX N aB W X aC g)(hk:nK N W X P k)(hz:(a7 N).zero k->s.z)(hP:∀i n,P i n->n∈X\/aC n)(hb:∀n,n∈X\/n∈ed k\/aC n->1<=n/\n<=(N:Int))(eM:X.Nodup)
 (lb:∀n∈ed k,n∉X/\¬aC n)(yc:∀n,aC n->n∉X)(o5:∀n∈iL k,aC n):
 zl (a7 N) l S N aB W X aC g P s k (br W (bh k)).1 (cM W X g k).1 (cM W X g k).2 (cZ k m (br W (bh k)).2):=by
 have qO:∀k2:Lk,(∀a,k2≠.ry a)->(a7 N).zero k2->s.z:=λ k2 h hz=>by cases k2<;>first|exact absurd hz id|exact absurd rfl (h _)
 have adR:∀n,n∈X\/aC n->1<=n/\n<=(N:Int):=λ n hn=>hb n (hn.imp id .inr)
 have jj:∀{i n},PD N W X P i n->n∈X\/aC n:=λ h=>h.at_ hP
 have pl:∀{n:Int},0<=n->n<=N->bt n=n:=λ h0 h1=>uA h0 (by omega)
 cases k with
 |ga o f=>exact s8 bq o5 ⟨hk,qO _ (by simp)⟩ rfl rfl
 |gb o f a b D cur=>exact s8 bq o5 ⟨hk,qO _ (by simp)⟩ rfl rfl
 |rr o f a b D nx pt=>exact s8 bq o5 ⟨hk,qO _ (by simp)⟩ rfl rfl
 |tk o v D cur=>exact s8 bq o5 ⟨hk,qO _ (by simp)⟩ rfl rfl
 |sv a=>exact s8 bq o5 ⟨hk,qO _ (by simp)⟩ rfl rfl
 |rx n a=>exact s8 bq o5 ⟨hk,qO _ (by simp)⟩ rfl rfl
 |ry a=>exact s8 bq o5 ⟨hk,hz⟩ rfl rfl
 |fi o=>exact s8 bq o5 ⟨hk,qO _ (by simp)⟩ rfl rfl
 |ls o f a b D cur w t=>
  obtain⟨h1,u,J,h4⟩:=hk;show zl (a7 N) l S N aB W X aC g P s _ W X g (if W.nd D 0=bt cur then _ else _);rw[pl (by have:=h1.c1;omega) h1.cN]
  by_cases F:W.nd D 0=cur
  ·rw[if_pos F];obtain⟨A,B,T⟩:=DW bq eM (jj h1.pp) F (by have:=h1.cN;omega) (by have:=h1.c1;omega);obtain⟨_,_,oa⟩:=T.oz (by have:=h1.c1;omega);exact s8 bq o5 ⟨⟨h1,u,J oa,h4⟩,qO _ (by simp)⟩ rfl rfl
  ·rw[if_neg F];exact xY bq (El h1.or h1.fk) rfl rfl
 |lo o f a b D cur w t kk=>
  obtain⟨h1,u,J,h4⟩:=hk;show zl (a7 N) l S N aB W X aC g P s _ W X g (if(av w).mark then _ else if W.nd cur 1<o.o then _ else if W.nd cur 1=o.o then _ else _)
  by_cases hm:(av w).mark=true
  ·rw[if_pos hm];exact s8 bq o5 ⟨⟨h1,u,J,hm,h4 hm⟩,qO _ (by simp)⟩ rfl rfl
  ·rw[if_neg hm]
   by_cases aY:W.nd cur 1<o.o
   ·rw[if_pos aY];obtain⟨a1,a2,a3,a4,a5⟩:=h1.ab;refine xY bq (MP h1.or h1.fk ⟨a3,a4,by omega,by omega,by omega⟩ J ?_ aY) rfl rfl;rw[show 3-b-(3-a-b)=a by omega];exact⟨h1.c1,h1.cN,.inl h1.R⟩
   ·rw[if_neg aY]
    by_cases he:W.nd cur 1=o.o
    ·rw[if_pos he];exact xY bq (acu h1.fk ⟨h1.or,h1.c1,h1.cN,⟨a,h1.R⟩,⟨_,h1.pp⟩,h1.kp,he⟩ u hm) rfl rfl
    ·rw[if_neg he];exact xY bq (SN h1.fk ⟨h1.or,⟨_,h1.pp⟩,⟨a,.inr ⟨h1.c1,h1.cN,h1.R⟩⟩,h1.kp,.inr (by omega)⟩) rfl rfl
 |cu o f a b D cur w=>
  obtain⟨h1,u,J,h4,h5⟩:=hk;have hw:=u.mark.1 h4;have hi:=jb w;have fD:=u.2
  by_cases F:W.nd D 0=cur
  ·have e0:bt cur=cur:=pl (by have:=h1.c1;omega) h1.cN;have jT:bt (av w).idx=(av w).idx:=pl hi.1 fD;have e1:br W (bh (.cu o f a b D cur w))=(W.put (bM D) (av w).idx,⟨cur,true⟩):=by simp only[bh,br,bM,Ws.get,e0,jT,F,if_true]
   have e2:cM W X g (.cu o f a b D cur w)=(X.erase cur,{g with ret:=g.ret+1}):=by simp only[cM,Ws.get,e0,F,if_true]
   rw[e1,e2];obtain⟨kZ,kA,lv,f4,_⟩:=vW bq hN eM yc (jj h1.pp) h1.c1 h1.cN F (by rw[h5];exact hw) hi.1 fD (lK:=λ n=>aC n\/n∈[cur]) (λ n hn=>hn.imp id λ h=>by simpa using h);refine Ao (gS:=.r1 (.rr o f a b D (av w).idx m) cur) (lv _) ?_ ⟨⟨(lv []).or h1.or,(lv []).fk (λ n hn=>⟨(lb n hn).1,(lb n hn).2,by simp⟩) h1.fk,h1.ab,J,(lv []).pd h1.pp,(lv []).kp hP h1.pp h1.kp⟩,qO _ (by simp)⟩ (λ n=>?_) (λ n hn=>?_) (λ n h=>by simp[iL] at h)
   ·exact kA
   ·have:=f4 n;show(X.erase cur).count n+(oH f).count n+[cur].count n=X.count n+(oH f).count n+([]:List Int).count n;simp only[List.count_nil];omega
   ·by_cases e:n=cur
    ·exact .inr (by rw[e];simp[eJ,a7,iL])
    ·exact .inl ((List.mem_erase_of_ne e).2 hn)
  ·have e0:bt cur=cur:=pl (by have:=h1.c1;omega) h1.cN;have e1:br W (bh (.cu o f a b D cur w))=(W,⟨W.nd D 0,false⟩):=by simp only[bh,br,bM,Ws.get,e0,F,if_false]
   have e2:cM W X g (.cu o f a b D cur w)=(X,g):=by simp only[cM,Ws.get,e0,F,if_false]
   rw[e1,e2];exact xY (k:=.cu o f a b D cur w) bq (El h1.or h1.fk) rfl rfl
 |gv o cur pt=>exact s8 bq o5 trivial rfl rfl
 |p1 o v n D cur=>obtain⟨h1,u⟩:=hk;have dP:=lb n (by simp[ed]);obtain⟨kZ,kA⟩:=D3 bq (i:=1) (v:=o.o) dP.1 dP.2;exact Ao (W':=W.fF n 1 o.o) (gS:=.at_ (.p2 o v n D cur)) kA (kZ.GF rfl) ⟨⟨kA.xO hP h1,u,by rw[mY,if_pos ⟨rfl,rfl⟩]⟩,qO _ (by simp)⟩ (λ n=>rfl) (λ n h=>.inl h) (λ n h=>h)
 |p2 o v n D cur=>obtain⟨h1,u,J⟩:=hk;have dP:=lb n (by simp[ed]);obtain⟨kZ,kA⟩:=D3 bq (i:=2) (v:=v) dP.1 dP.2;exact Ao (W':=W.fF n 2 v) (gS:=.at_ (.p0 o v n D cur)) kA (kZ.GF rfl) ⟨⟨kA.xO hP h1,u,by rw[mY,if_neg (by omega)];exact J,by rw[mY,if_pos ⟨rfl,rfl⟩]⟩,qO _ (by simp)⟩ (λ n=>rfl) (λ n h=>.inl h) (λ n h=>h)
 |p0 o v n D cur=>
  obtain⟨h1,u,J,h4⟩:=hk;have dP:=lb n (by simp[ed]);obtain⟨i,hi⟩:=h1.R;have fw:0<=cur/\cur<=N:=by
   rcases hi with rfl|hi
   ·omega
   ·omega
  have e0:bt cur=cur:=pl fw.1 fw.2;obtain⟨kZ,kA⟩:=D3 bq (i:=0) (v:=bt cur) dP.1 dP.2;exact Ao (W':=W.fF n 0 (bt cur)) (gS:=.at_ (.cp o v n D cur)) kA (kZ.GF rfl) ⟨⟨kA.xO hP h1,u,by rw[mY,if_neg (by omega)];exact J,by rw[mY,if_neg (by omega)];exact h4,by rw[mY,if_pos ⟨rfl,rfl⟩];exact e0⟩,qO _ (by simp)⟩ (λ n=>rfl) (λ n h=>.inl h) (λ n h=>h)
 |cp o v n D cur=>
  obtain⟨h1,u,J,h4,h5⟩:=hk;have dP:=lb n (by simp[ed]);have c6:=hb n (.inr (.inl (by simp[ed])));obtain⟨i,hi⟩:=h1.R;obtain⟨j,hj⟩:=h1.pp;have fw:0<=cur/\cur<=N:=by
   rcases hi with rfl|hi
   ·omega
   ·omega
  have e0:bt cur=cur:=pl fw.1 fw.2;have jT:bt n=n:=pl (by omega) c6.2
  by_cases F:W.nd D 0=cur
  ·obtain⟨A,B,T,kZ,kA⟩:=Jj bq (Nat.succ_le_succ bq.k) hN eM (jj hj) fw.1 fw.2 F c6.1 c6.2 dP.1 dP.2 J h5 h1.kp h1.kc;have e1:br W (bh (.cp o v n D cur))=(W.put (bM D) n,⟨cur,true⟩):=by simp only[bh,br,bM,Ws.get,e0,jT,F,if_true]
   have e2:cM W X g (.cp o v n D cur)=(A++n::B,{g with put:=g.put+1}):=by simp only[cM,Ws.get,e0,F,if_true];rw[JQ T eM]
   rw[e1,e2];refine Ao (gS:=.bn (.fi (nL m n))) (kA _) (kZ.GF rfl) trivial (λ x=>?_) (λ x hx=>.inl ?_) (λ x h=>h)
   ·show(A++n::B).count x+([]:List Int).count x+([]:List Int).count x=X.count x+[n].count x+([]:List Int).count x;rw[T.eq];simp only[List.count_append,List.count_cons,List.count_nil];omega
   ·rw[T.eq] at hx;simp only[List.mem_append,List.mem_cons] at hx⊢;exact hx.imp id .inr
  ·have e1:br W (bh (.cp o v n D cur))=(W,⟨W.nd D 0,false⟩):=by simp only[bh,br,bM,Ws.get,e0,F,if_false]
   have e2:cM W X g (.cp o v n D cur)=(X,g):=by simp only[cM,Ws.get,e0,F,if_false]
   rw[e1,e2];have mT:n≠0:=by omega
   exact xY (k:=.cp o v n D cur) (f:=.put v n) bq (El h1.or ⟨by omega,λ _=>⟨J,h4⟩⟩) (by simp[ed,oH,yH,mT]) rfl
 |cm o D cur w=>
  obtain⟨h1,u,J,uh⟩:=hk;obtain⟨i,hi⟩:=h1.R;have hw:=u.plain.1 J;have hx:=jb w;have fD:=u.2;have e0:pk (av w).idx=(av w).idx+65536:=JG hx.1 (by omega)
  by_cases F:W.nd cur 0=w
  ·obtain⟨kZ,kA,lv⟩:=JI bq hN (hP _ _ hi) u J F (by rw[h1.kc];exact uh);have e1:br W (bh (.cm o D cur w))=(W.fF cur 0 ((av w).idx+65536),⟨w,true⟩):=by simp only[bh,br,Ws.get,e0,F,if_true];rfl
   rw[e1];exact Ao (W':=W.fF cur 0 ((av w).idx+65536)) (gS:=.at_ (.cd o D cur (av w).idx m)) (lv _) (kA.GF rfl) ⟨⟨(lv []).at_ hP h1,by rw[mY,if_pos ⟨rfl,rfl⟩],hx.1,fD⟩,qO _ (by simp)⟩ (λ x=>rfl) (λ x h=>.inl h) (λ x h=>h)
  ·have e1:br W (bh (.cm o D cur w))=(W,⟨W.nd cur 0,false⟩):=by simp only[bh,br,Ws.get,F,if_false]
   rw[e1];exact xY (k:=.cm o D cur w) (f:=.del) bq (El h1.or uh) rfl rfl
 |cd o D cur nx at_=>
  obtain⟨h1,u,J,h4⟩:=hk;obtain⟨j,hj⟩:=h1.pp;have e0:bt cur=cur:=pl (by have:=h1.c1;omega) h1.cN;have jT:bt nx=nx:=pl J h4
  by_cases F:W.nd D 0=cur
  ·have e1:br W (bh (.cd o D cur nx at_))=(W.put (bM D) nx,⟨cur,true⟩):=by simp only[bh,br,bM,Ws.get,e0,jT,F,if_true]
   have e2:cM W X g (.cd o D cur nx at_)=(X.erase cur,{g with ret:=g.ret+1}):=by simp only[cM,Ws.get,e0,F,if_true]
   rw[e1,e2];obtain⟨kZ,kA,lv,f4,_⟩:=vW bq hN eM yc (jj hj) h1.c1 h1.cN F u J h4 (lK:=λ n=>aC n\/n∈[cur]) (λ n hn=>hn.imp id λ h=>by simpa using h);refine Ao (gS:=.bn (.rx cur at_)) (lv _) kA trivial (λ n=>?_) (λ n hn=>?_) (λ n h=>by simp[iL] at h)
   ·have:=f4 n;show(X.erase cur).count n+([]:List Int).count n+[cur].count n=X.count n+([]:List Int).count n+([]:List Int).count n;simp only[List.count_nil];omega
   ·by_cases e:n=cur
    ·exact .inr (by rw[e];simp[eJ,a7,iL])
    ·exact .inl ((List.mem_erase_of_ne e).2 hn)
  ·have e1:br W (bh (.cd o D cur nx at_))=(W,⟨W.nd D 0,false⟩):=by simp only[bh,br,bM,Ws.get,e0,F,if_false]
   have e2:cM W X g (.cd o D cur nx at_)=(X,g):=by simp only[cM,Ws.get,e0,F,if_false]
   rw[e1,e2];exact xY (k:=.cd o D cur nx at_) (f:=.fin at_) bq (El h1.or trivial) rfl rfl
theorem aco(o:Or)(f:Fk)(D cur pt:Int):eQ (a7 N) (d9 o f D cur pt)=oH f/\eJ (a7 N) (d9 o f D cur pt)=[]:=by
 unfold d9;cases f with
 |put v n=>
  simp only;split
  ·rename_i h;subst h;exact⟨rfl,rfl⟩
  ·rename_i h;exact⟨by simp[eQ,a7,ed,oH,yH,h],rfl⟩
 |_=>exact⟨rfl,rfl⟩
theorem Ij(o:Or)(f:Fk)(a b D cur pt:Int):eQ (a7 N) (dG o f a b D cur pt)=oH f/\eJ (a7 N) (dG o f a b D cur pt)=[]:=by
 unfold dG;split
 ·exact aco _ _ _ _ _
 ·exact⟨rfl,rfl⟩
theorem V2(hN:N<=100):mf U (a7 N) l S N where
 iu:=λ h hP=>agU h hP
 MJ:=λ h hP=>agT h hP
 DS:=λ h hD hK=>⟨h.first,h.even,λ n hn=>h.gj n (hD n hn),h.link,λ n hn=>h.form n (hn.imp id (hD n)),λ n hn=>h.dead n (hD n hn),h.p9,h.e8,h.jS,Nat.le_trans h.k hK⟩
 vV:=λ{W X g P k} s n a h hz n1 n2 hX=>by
  cases k<;>first
   |exact⟨h,hz⟩
   |exact⟨⟨h,n1⟩,λ h=>absurd h id⟩
 YR:=λ k n a x=>by cases k<;>rfl
 KJ:=λ k n a=>by cases k<;>rfl
 full:=λ{W X g P k} s a h hz=>by
  cases k<;>first
   |exact⟨h,hz⟩
   |exact trivial
 Td:=λ k a=>by cases k<;>rfl
 Ic:=λ k a=>by cases k<;>rfl
 tM:=λ{W X g P k} s h hz=>by
  cases k<;>first
   |exact⟨h,hz⟩
   |exact trivial
 Tm:=λ k=>by cases k<;>rfl
 Ih:=λ k=>by cases k<;>rfl
 retired:=λ{W X g P k} s h hz=>by
  cases k with
  |rr o f a b D nx pt=>obtain⟨h0,h1,u,J,h4,h5⟩:=h;obtain⟨a1,a2,a3,a4,a5⟩:=u;exact(MP h0 h1 ⟨a3,a4,a1,a2,λ e=>a5 e.symm⟩ J (by rw[show 3-b-a=3-a-b by omega];exact h4) h5).ok
  |ry a=>exact hz trivial
  |_=>exact⟨h,hz⟩
 P0:=λ k=>by
  cases k with
  |rr o f a b D nx pt=>exact(Ij _ _ _ _ _ _ _).1
  |_=>rfl
 G7:=λ k=>by
  cases k with
  |rr o f a b D nx pt=>exact(Ij _ _ _ _ _ _ _).2
  |_=>rfl
 pD:=λ{W X g k} s h hz=>by
  cases k with
  |fi o=>exact hz
  |rx n a=>exact⟨trivial,λ _=>hz⟩
  |_=>exact⟨h,λ _=>hz⟩
 RV:=λ k iJ=>by cases k<;>simp[U]
 RU:=λ k=>by cases k<;>rfl
 RT:=λ k=>by cases k<;>rfl
 Ts:=λ{W X g aC P k aB} i c F hg bq hk hX hP=>by
  cases k with
  |ga o f=>
   obtain⟨rfl,rfl⟩:=hg;have ho:lP N W X o:=hk.2;show PN N P 0 (av (W.nd o.d 0)).idx;obtain⟨A,B,E4⟩:=List.append_of_mem ho.x;have Z:=eX.link bq;rw[E4] at Z;have fS:W.nd o.d 0%65536=B.headD 0:=(vC Z).1;rw[xn,fS];cases B with
   |nil=>exact .inl rfl
   |cons y B=>
    have hy:y∈X:=by rw[E4];simp
    have:=eX.e8 bq y hy;exact .inr ⟨this.1,this.2,hX y hy⟩
  |gb o f a b D cur=>
   obtain⟨rfl,rfl⟩:=hg;have h1:oK N W X (mB P i) o f a i D cur:=hk;have F:=hP _ _ h1.R.2;have hf:=eX.form bq cur F;refine⟨hf,λ hx=>?_,λ _=>rfl⟩;show PN N P i (av (W.nd cur 0)).idx;obtain⟨A,B,E4⟩:=List.append_of_mem hx;have Z:=eX.link bq;rw[E4] at Z;have fS:W.nd cur 0%65536=B.headD 0:=(vC Z).1;rw[xn,fS];cases B with
   |nil=>exact .inl rfl
   |cons y B=>
    have hy:y∈X:=by rw[E4];simp
    have:=eX.e8 bq y hy;exact .inr ⟨this.1,this.2,hX y hy⟩
  |_=>exact absurd hg id
 guarded:=λ{W X g P k i c v} s a hg h hk=>by
  cases k with
  |ga o f=>obtain⟨rfl,rfl⟩:=hg;exact(MP hk.2 hk.1 ⟨by omega,by omega,by omega,by omega,by omega⟩ h ⟨hk.2.d1,hk.2.dN,.inr ⟨hk.2.x,hk.2.ev⟩⟩ hk.2.lt).ok
  |gb o f a b D cur=>obtain⟨rfl,rfl⟩:=hg;have h1:oK N W X (mB P i) o f a i D cur:=hk;exact⟨⟨h1.mono λ _ _ h=>h.2,h.1,h.2.1,h.2.2⟩,λ h=>absurd h id⟩
  |_=>exact absurd hg id
 Tx:=λ k v a=>by
  cases k with
  |ga o f=>exact(Ij _ _ _ _ _ _ _).1
  |_=>rfl
 Im:=λ k v a=>by
  cases k with
  |ga o f=>exact(Ij _ _ _ _ _ _ _).2
  |_=>rfl
 ask:=λ{W X g P aC k aB} bq hk hP hb=>by
  have ah5:(Ad.nd 1 0).str l S N:=by
   have h1:=eX.first bq;have u:=eX.e8 bq;cases X with
   |nil=>cases h1
   |cons x X=>have:=u x (by simp);have hx:x=1:=h1;exact⟨by omega,by omega,by omega,by omega⟩
  have pv:∀{i D},PD N W X P i D->(bM D).str l S N:=λ{i D} h=>⟨h.1,h.2.1,by omega,by omega⟩
  cases k with
  |ls o f a b D cur w t=>exact pv hk.1.pp
  |lo o f a b D cur w t kk=>exact⟨hk.1.c1,hk.1.cN,by omega,by omega⟩
  |cu o f a b D cur w=>exact pv hk.1.pp
  |gv o cur pt=>exact⟨hk.1,hk.2.1,by omega,by omega⟩
  |p1 o v n D cur=>have:=hb n (.inr (.inl (by simp[a7,ed])));exact⟨this.1,this.2,by omega,by omega⟩
  |p2 o v n D cur=>have:=hb n (.inr (.inl (by simp[a7,ed])));exact⟨this.1,this.2,by omega,by omega⟩
  |p0 o v n D cur=>have:=hb n (.inr (.inl (by simp[a7,ed])));exact⟨this.1,this.2,by omega,by omega⟩
  |cp o v n D cur=>obtain⟨j,hj⟩:=hk.1.pp;exact pv hj
  |cm o D cur w=>exact⟨hk.1.c1,hk.1.cN,by omega,by omega⟩
  |cd o D cur nx at_=>obtain⟨j,hj⟩:=hk.1.pp;exact pv hj
  |_=>exact ah5
 step:=λ{W X aC g P k aB} s m _ bq hk hz hP hb eM _ lb yc o5=>agY hN s m bq hk hz hP hb eM lb yc o5
end
def k6:Fk->Option Int
 |.fin a=>some a
 |_=>none
def lE:Lk->Option Int
 |.ga _ f|.gb _ f _ _ _ _|.ls _ f _ _ _ _ _ _|.lo _ f _ _ _ _ _ _ _|.cu _ f _ _ _ _ _|.rr _ f _ _ _ _ _=>k6 f
 |.gv _ _ a|.sv a _|.cd _ _ _ _ a|.rx _ a|.ry a=>some a
 |.fi o=>some o.aD
 |_=>none
def sT:Lk->Option (Int×Bool×Int)
 |.ga _ f|.gb _ f _ _ _ _|.ls _ f _ _ _ _ _ _|.lo _ f _ _ _ _ _ _ _|.cu _ f _ _ _ _ _|.rr _ f _ _ _ _ _=>(k6 f).map λ _=>(0,true,0)
 |.sv _ _=>some (0,false,0)
 |.cd _ _ _ _ _|.rx _ _|.ry _=>some (0,true,0)
 |.fi o=>some (o.val,o.is,o.err)
 |_=>none
def cC:Pc Lk->Option Int
 |.fin o=>some o.aD
 |.at_ k|.t1 k|.t2 k _|.t3 k _ _|.t4 k _ _|.t5 k _ _ _|.g1 k _ _|.g2 k _ _ _ _|.g3 k _ _ _|.bn k|.c k _|.v1 k _|.v2 k _ _|.v3 k _ _|.r1 k _|.r2 k _ _|.rs k _ _ _|.s1 k _ _ _ _|.w1 k _ _ _ _|.w2 k _ _ _ _ _|.w3 k _ _ _ _ _=>lE k
def gm:Pc Lk->Option (Int×Bool×Int)
 |.fin o=>some (o.val,o.is,o.err)
 |.at_ k|.t1 k|.t2 k _|.t3 k _ _|.t4 k _ _|.t5 k _ _ _|.g1 k _ _|.g2 k _ _ _ _|.g3 k _ _ _|.bn k|.c k _|.v1 k _|.v2 k _ _|.v3 k _ _|.r1 k _|.r2 k _ _|.rs k _ _ _|.s1 k _ _ _ _|.w1 k _ _ _ _|.w2 k _ _ _ _ _|.w3 k _ _ _ _ _=>sT k
def bm:Pc Lk->List Int
 |.g2 _ _ _ _ t=>[t]
 |.at_ (.ls _ _ _ _ _ _ _ t)=>[t]
 |.at_ (.lo _ _ _ _ _ _ _ t k)=>[t,k]
 |.r1 (.rr _ _ _ _ _ _ pt) _|.r2 (.rr _ _ _ _ _ _ pt) _ _|.rs (.rr _ _ _ _ _ _ pt) _ _ _|.s1 (.rr _ _ _ _ _ _ pt) _ _ _ _|.w1 (.rr _ _ _ _ _ _ pt) _ _ _ _|.w2 (.rr _ _ _ _ _ _ pt) _ _ _ _ _|.w3 (.rr _ _ _ _ _ _ pt) _ _ _ _ _=>[pt]
 |_=>[]
def e9(k:Lk):Prop:=(∃o f a b D nx pt,k=.rr o f a b D nx pt)\/∃a,k=.ry a
def Q2(k:Lk)(i:Int)(c:Ad):Prop:=(∃o f,k=.ga o f)\/∃o f a D cur,k=.gb o f a i D cur/\c=.nd cur 0
def cJ(q:Q Lk):Prop:=match q.R with
 |.at_ k=>match k with
  |.ls ..|.lo ..|.cu ..|.gv ..|.p1 ..|.p2 ..|.p0 ..|.cp ..|.cm ..|.cd ..=>True
  |_=>False
 |.t1 k|.t2 k _|.t3 k _ _|.t4 k _ _|.t5 k _ _ _=>∃o v D cur,k=.tk o v D cur
 |.g1 k i c|.g2 k i c _ _|.g3 k i c _=>Q2 k i c
 |.bn _=>False
 |.c k i=>q.s.e i≠0/\0<=i/\i<=2/\((∃o,k=.fi o)\/∃n a,k=.rx n a)
 |.v1 k _|.v2 k _ _|.v3 k _ _=>∃a c,k=.sv a c
 |.r1 k _|.r2 k _ _|.rs k _ _ _|.s1 k _ _ _ _|.w1 k _ _ _ _|.w2 k _ _ _ _ _|.w3 k _ _ _ _ _=>e9 k
 |.fin _=>True
section
variable{S:Nat}
theorem zz{k:Lk}(s:ag)(hk:(∃o,k=.fi o)\/∃n a,k=.rx n a):cJ (dJ U k s):=by
 rcases wc (am:=U) k s with⟨i,i0,i2,h,e⟩|⟨_,e⟩
 ·rw[e];exact⟨h,i0,i2,hk⟩
 ·rw[e];rcases hk with⟨o,rfl⟩|⟨n,a,rfl⟩
  ·trivial
  ·exact .inr ⟨a,rfl⟩
theorem Mp(o:Or)(f:Fk)(D cur pt:Int)(s:ag):cJ (aG U (d9 o f D cur pt) s):=by
 unfold d9;cases f with
 |put v n=>
  simp only;split
  ·exact⟨_,_,_,_,rfl⟩
  ·trivial
 |_=>exact zz s (.inl ⟨_,rfl⟩)
theorem Mq(o:Or)(f:Fk)(D cur w pt:Int)(s:ag):cJ (aG U (eU o f D cur w pt) s):=by
 unfold eU;cases f with
 |get=>trivial
 |put v n=>
  simp only;split
  ·exact zz s (.inl ⟨_,rfl⟩)
  ·exact⟨_,_,rfl⟩
 |del=>trivial
 |fin a=>exact zz s (.inl ⟨_,rfl⟩)
theorem Ik(o:Or)(f:Fk)(a b D cur pt:Int)(s:ag):cJ (aG U (dG o f a b D cur pt) s):=by
 unfold dG;split
 ·exact Mp _ _ _ _ _ _
 ·exact .inr ⟨_,_,_,_,_,rfl,rfl⟩
theorem zt(o:Or)(f:Fk)(s:ag):cJ (aG U (dl o f) s):=.inl ⟨_,_,rfl⟩
theorem XO{k:Lk}(hk:e9 k)(s:ag):cJ (aG U (U.retired k) s):=by
 rcases hk with⟨o,f,a,b,D,nx,pt,rfl⟩|⟨a,rfl⟩
 ·exact Ik _ _ _ _ _ _ _ _
 ·trivial
theorem Qr{k:Lk}(hk:e9 k)(held:List Int)(s:ag)(gs stay:List (Int×Int)):cJ (du U k held s gs stay):=by
 cases gs with
 |nil=>exact XO hk _
 |cons g gs=>exact hk
theorem Yd{k:Lk}(hk:e9 k)(held:List Int)(s:ag)(cs:List Ad):cJ (gG U k held s cs):=by
 cases cs with
 |nil=>exact Qr hk _ _ _ _
 |cons c cs=>exact hk
theorem qT{q:Q Lk}{r:aJ}(h:cJ q):cJ (tell U S q r):=by
 obtain⟨R,s⟩:=q;have t6:∀(o:bd)(s:ag),cJ (aG U (.bn (.fi o)) s):=λ o s=>zz s (.inl ⟨o,rfl⟩)
 cases R with
 |fin o=>exact h
 |bn k=>exact absurd h id
 |at_ k=>
  cases k with
  |ls o f a b D cur w t=>
   show cJ (aG U (if r.val=bt cur then _ else _) s.up);split
   ·trivial
   ·exact zt _ _ _
  |lo o f a b D cur w t k=>
   show cJ (aG U (if(av w).mark then _ else if r.val<o.o then _ else if r.val=o.o then _ else _) s.up);split
   ·trivial
   ·split
    ·exact Ik _ _ _ _ _ _ _ _
    ·split
     ·exact Mq _ _ _ _ _ _ _
     ·exact Mp _ _ _ _ _ _
  |cu o f a b D cur w=>
   show cJ (aG U (if r.ok then _ else _) s.up);split
   ·exact .inl ⟨_,_,_,_,_,_,_,rfl⟩
   ·exact zt _ _ _
  |gv o cur pt=>exact t6 _ _
  |p1 o v n D cur=>trivial
  |p2 o v n D cur=>trivial
  |p0 o v n D cur=>trivial
  |cp o v n D cur=>
   show cJ (aG U (if r.ok then _ else _) s.up);split
   ·exact t6 _ _
   ·exact zt _ _ _
  |cm o D cur w=>
   show cJ (aG U (if r.ok then _ else _) s.up);split
   ·trivial
   ·exact zt _ _ _
  |cd o D cur nx a=>
   show cJ (aG U (if r.ok then _ else _) s.up);split
   ·exact zz _ (.inr ⟨_,_,rfl⟩)
   ·exact zt _ _ _
  |_=>exact absurd h id
 |t1 k=>
  obtain⟨o,v,D,cur,rfl⟩:=h;show cJ (if(av r.val).idx=0 then aG U _ s.up else _);split
  ·exact t6 _ _
  ·exact⟨o,v,D,cur,rfl⟩
 |t2 k f=>exact h
 |t3 k f lk=>show cJ (if r.ok then _ else _);split<;>exact h
 |t4 k n b=>exact h
 |t5 k n b c=>
  obtain⟨o,v,D,cur,rfl⟩:=h
  trivial
 |g1 k i c=>exact h
 |g2 k i c v b=>
  show cJ (if r.val=s.e i then aG U _ s.up else _);split
  ·rcases h with⟨o,f,rfl⟩|⟨o,f,a,D,cur,rfl,rfl⟩
   ·exact Ik _ _ _ _ _ _ _ _
   ·trivial
  ·exact h
 |g3 k i c er=>exact h
 |c k i=>exact zz _ h.2.2.2
 |v1 k n=>exact h
 |v2 k n f=>exact h
 |v3 k n f=>
  obtain⟨a,c,rfl⟩:=h;show cJ (if r.ok then aG U _ s.up else _);split
  ·exact t6 _ _
  ·exact⟨a,c,rfl⟩
 |r1 k n=>exact h
 |r2 k n er=>
  show cJ (if(s.gone.length:Int)+1<2*(S:Int) then aG U _ _ else _);split
  ·exact XO h _
  ·exact Yd h _ _ _
 |rs k held c cs=>exact Yd h _ _ _
 |s1 k held y gs stay=>
  show cJ (if held.any (ja (kM r.val) y.2)=true then du U _ _ _ _ _ else _);split
  ·exact Qr h _ _ _ _
  ·exact h
 |w1 k held y gs stay=>exact h
 |w2 k held y gs stay f=>exact h
 |w3 k held y gs stay f=>
  show cJ (if r.ok then du U _ _ _ _ _ else _);split
  ·exact Qr h _ _ _ _
  ·exact h
theorem RY(k:Lk)(s:ag):cC (dJ U k s).R=lE k/\gm (dJ U k s).R=sT k/\bm (dJ U k s).R=bm (U.pD k)\/cC (dJ U k s).R=lE k/\gm (dJ U k s).R=sT k/\bm (dJ U k s).R=[]:=by
 rcases wc (am:=U) k s with⟨i,i0,i2,h,e⟩|⟨_,e⟩
 ·rw[e];exact .inr ⟨rfl,rfl,rfl⟩
 ·rw[e];left;cases k<;>exact⟨rfl,rfl,rfl⟩
theorem HU(k:Lk)(s:ag):cC (dJ U k s).R=lE k/\gm (dJ U k s).R=sT k:=by rcases RY k s with h|h<;>exact⟨h.1,h.2.1⟩
theorem LW{k:Lk}(s:ag)(hk:(∃o,k=.fi o)\/∃n a,k=.rx n a):bm (dJ U k s).R=[]:=by
 rcases RY k s with h|h
 ·rw[h.2.2];rcases hk with⟨o,rfl⟩|⟨n,a,rfl⟩<;>rfl
 ·exact h.2.2
theorem l6(R:Pc Lk)(s:ag):cC (aG U R s).R=cC R/\gm (aG U R s).R=gm R:=by
 cases R with
 |bn k=>exact HU k s
 |_=>exact⟨rfl,rfl⟩
theorem MR{o:Or}{f:Fk}{a b D cur pt x:Int}(h:k6 f=some x):cC (dG o f a b D cur pt)=some x/\gm (dG o f a b D cur pt)=some (0,true,0):=by
 cases f with
 |fin y=>cases h;unfold dG;split<;>exact⟨rfl,rfl⟩
 |_=>cases h
theorem XM{k:Lk}{s:ag}{x:Int}(h:lE k=some x)(hk:e9 k):cC (aG U (U.retired k) s).R=some x/\gm (aG U (U.retired k) s).R=sT k:=by
 rw[(l6 _ _).1,(l6 _ _).2];rcases hk with⟨o,f,a,b,D,nx,pt,rfl⟩|⟨a,rfl⟩
 ·have hf:k6 f=some x:=h;obtain⟨h1,u⟩:=MR (o:=o) (a:=b) (b:=a) (D:=D) (cur:=nx) (pt:=pt) hf;exact⟨h1,by rw[show sT (.rr o f a b D nx pt)=(k6 f).map λ _=>(0,true,0) from rfl,hf];exact u⟩
 ·exact⟨h,rfl⟩
theorem Qo{k:Lk}{s:ag}{x:Int}(h:lE k=some x)(hk:e9 k)(held:List Int)(gs stay:List (Int×Int)):cC (du U k held s gs stay).R=some x/\gm (du U k held s gs stay).R=sT k:=by
 cases gs with
 |nil=>exact XM h hk
 |cons g gs=>exact⟨h,rfl⟩
theorem Ya{k:Lk}{s:ag}{x:Int}(h:lE k=some x)(hk:e9 k)(held:List Int)(cs:List Ad):cC (gG U k held s cs).R=some x/\gm (gG U k held s cs).R=sT k:=by
 cases cs with
 |nil=>exact Qo h hk _ _ _
 |cons c cs=>exact⟨h,rfl⟩
def Zv(q:Q Lk):Prop:=∀o cur pt,q.R≠.at_ (.gv o cur pt)
theorem BP{q:Q Lk}{r:aJ}{x:Int}(T:cJ q)(h:cC q.R=some x):cC (tell U S q r).R=some x/\(Zv q->gm (tell U S q r).R=gm q.R):=by
 obtain⟨R,s⟩:=q;have ff:∀{f:Fk},k6 f=some x->f=.fin x:=λ{f} h=>by cases f<;>cases h;rfl
 cases R with
 |fin o=>exact⟨h,λ _=>rfl⟩
 |bn k=>exact absurd T id
 |at_ k=>
  show cC (aG U (cZ k s.made r) s.up).R=_/\(_->gm (aG U (cZ k s.made r) s.up).R=_);rw[(l6 _ _).1,(l6 _ _).2];cases k with
  |ls o f a b D cur w t=>have hf:=ff h;subst hf;simp only[cZ];split<;>exact⟨rfl,λ _=>rfl⟩
  |lo o f a b D cur w t k=>
   have hf:=ff h;subst hf;simp only[cZ];split
   ·exact⟨rfl,λ _=>rfl⟩
   ·split
    ·have:=MR (o:=o) (f:=.fin x) (a:=b) (b:=3-a-b) (D:=cur) (cur:=(av w).idx) (pt:=t) rfl;exact⟨this.1,λ _=>this.2⟩
    ·split<;>exact⟨rfl,λ _=>rfl⟩
  |cu o f a b D cur w=>have hf:=ff h;subst hf;simp only[cZ];split<;>exact⟨rfl,λ _=>rfl⟩
  |gv o cur pt=>exact⟨h,λ hn=>absurd rfl (hn o cur pt)⟩
  |cd o D cur nx a=>simp only[cZ];split<;>exact⟨h,λ _=>rfl⟩
  |p1|p2|p0|cp|cm=>cases h
  |_=>exact absurd T id
 |t1 k=>obtain⟨o,v,D,cur,rfl⟩:=T;cases h
 |t2 k f=>obtain⟨o,v,D,cur,rfl⟩:=T;cases h
 |t3 k f lk=>obtain⟨o,v,D,cur,rfl⟩:=T;cases h
 |t4 k n b=>obtain⟨o,v,D,cur,rfl⟩:=T;cases h
 |t5 k n b c=>obtain⟨o,v,D,cur,rfl⟩:=T;cases h
 |g1 k i c=>exact⟨h,λ _=>rfl⟩
 |g2 k i c v b=>
  show cC (if r.val=s.e i then aG U _ s.up else _:Q Lk).R=_/\(_->gm (if r.val=s.e i then aG U _ s.up else _:Q Lk).R=_);split
  ·rw[(l6 _ _).1,(l6 _ _).2];rcases T with⟨o,f,rfl⟩|⟨o,f,a,D,cur,rfl,rfl⟩
   ·have hf:=ff h;subst hf;have:=MR (o:=o) (f:=.fin x) (a:=0) (b:=1) (D:=o.d) (cur:=(av v).idx) (pt:=b) rfl;exact⟨this.1,λ _=>this.2⟩
   ·exact⟨h,λ _=>rfl⟩
  ·exact⟨h,λ _=>rfl⟩
 |g3 k i c er=>exact⟨h,λ _=>rfl⟩
 |c k i=>have:=HU k (s.up.ej i 0);exact⟨this.1.trans h,λ _=>this.2⟩
 |v1 k n=>exact⟨h,λ _=>rfl⟩
 |v2 k n f=>exact⟨h,λ _=>rfl⟩
 |v3 k n f=>
  obtain⟨a,c,rfl⟩:=T;show cC (if r.ok then aG U _ s.up else _:Q Lk).R=_/\(_->gm (if r.ok then aG U _ s.up else _:Q Lk).R=_);split
  ·rw[(l6 _ _).1,(l6 _ _).2];exact⟨h,λ _=>rfl⟩
  ·exact⟨h,λ _=>rfl⟩
 |r1 k n=>exact⟨h,λ _=>rfl⟩
 |r2 k n er=>
  show cC (if(s.gone.length:Int)+1<2*(S:Int) then aG U _ _ else _:Q Lk).R=_/\(_->gm (if(s.gone.length:Int)+1<2*(S:Int) then aG U _ _ else _:Q Lk).R=_);split
  ·have:=XM (s:={s.up with gone:=s.gone++[(n,er)]}) h T;exact⟨this.1,λ _=>this.2⟩
  ·have:=Ya (s:={s.up with gone:=s.gone++[(n,er)]}) h T [] (nP 0 S);exact⟨this.1,λ _=>this.2⟩
 |rs k held c cs=>have:=Ya (s:=s.up) h T (held++[r.val]) cs;exact⟨this.1,λ _=>this.2⟩
 |s1 k held y gs stay=>
  show cC (if held.any (ja (kM r.val) y.2)=true then du U _ _ _ _ _ else _:Q Lk).R=_/\(_->gm (if held.any (ja (kM r.val) y.2)=true then du U _ _ _ _ _ else _:Q Lk).R=_);split
  ·have:=Qo (s:=s.up) h T held gs (stay++[y]);exact⟨this.1,λ _=>this.2⟩
  ·exact⟨h,λ _=>rfl⟩
 |w1 k held y gs stay=>exact⟨h,λ _=>rfl⟩
 |w2 k held y gs stay f=>exact⟨h,λ _=>rfl⟩
 |w3 k held y gs stay f=>
  show cC (if r.ok then du U _ _ _ _ _ else _:Q Lk).R=_/\(_->gm (if r.ok then du U _ _ _ _ _ else _:Q Lk).R=_);split
  ·have:=Qo (s:=s.up) h T held gs stay;exact⟨this.1,λ _=>this.2⟩
  ·exact⟨h,λ _=>rfl⟩
structure ju(q a6:Q Lk):Prop where
 pt:cC a6.R=none\/cC a6.R=some (q.s.made:Int)\/∃t∈bm q.R,cC a6.R=some t
 lk:∀t∈bm a6.R,t∈bm q.R\/t=(q.s.made:Int)
theorem ju.fi{q:Q Lk}{o:bd}{s:ag}(h:o.aD=(q.s.made:Int)\/o.aD∈bm q.R):ju q (aG U (.bn (.fi o)) s):=by
 refine⟨.inr ?_,λ t ht=>by rw[show aG U (.bn (.fi o)) s=dJ U (.fi o) s from rfl,LW s (.inl ⟨o,rfl⟩)] at ht;simp at ht⟩;rw[(l6 _ _).1];rcases h with h|h
 ·exact .inl (by rw[<-h];rfl)
 ·exact .inr ⟨_,h,rfl⟩
theorem ju.none{q a6:Q Lk}(h:cC a6.R=Option.none)(Z:∀t∈bm a6.R,t∈bm q.R\/t=(q.s.made:Int)):ju q a6:=⟨.inl h,Z⟩
theorem SL{q:Q Lk}{o:Or}{f:Fk}{D cur pt:Int}{s:ag}(hf:k6 f=none)(h:pt=(q.s.made:Int)\/pt∈bm q.R):ju q (aG U (d9 o f D cur pt) s):=by
 unfold d9;cases f with
 |get=>exact ju.fi h
 |put v n=>
  simp only;split
  ·exact .none rfl (by simp[aG,bm])
  ·exact .none rfl (by simp[aG,bm])
 |del=>exact ju.fi h
 |fin a=>cases hf
theorem acr{q:Q Lk}{o:Or}{f:Fk}{D cur w pt:Int}{s:ag}(hf:k6 f=none)(h:pt∈bm q.R):ju q (aG U (eU o f D cur w pt) s):=by
 unfold eU;cases f with
 |get=>exact⟨.inr (.inr ⟨pt,h,rfl⟩),by simp[aG,bm]⟩
 |put v n=>
  simp only;split
  ·exact ju.fi (.inr h)
  ·exact⟨.inr (.inr ⟨pt,h,rfl⟩),by simp[aG,bm]⟩
 |del=>exact .none rfl (by simp[aG,bm])
 |fin a=>cases hf
theorem MN{q:Q Lk}{o:Or}{f:Fk}{a b D cur pt:Int}{s:ag}(hf:k6 f=none)(h:pt=(q.s.made:Int)\/pt∈bm q.R):ju q (aG U (dG o f a b D cur pt) s):=by
 unfold dG;split
 ·exact SL hf h
 ·exact .none hf (by simp[aG,bm])
theorem HC{q:Q Lk}{o:Or}{f:Fk}{s:ag}(hf:k6 f=none):ju q (aG U (dl o f) s):=.none hf (by simp[aG,dl,bm])
theorem Gq{o:Or}{f:Fk}{a b D nx pt:Int}:∀(k:Lk),k=.rr o f a b D nx pt->(∀n,bm (.r1 k n)=[pt])/\(∀n e,bm (.r2 k n e)=[pt])/\(∀h c cs,bm (.rs k h c cs)=[pt])/\(∀h g gs st,bm (.s1 k h g gs st)=[pt]/\bm (.w1 k h g gs st)=[pt]/\∀x,bm (.w2 k h g gs st x)=[pt]/\bm (.w3 k h g gs st x)=[pt]):=λ k e=>by subst e;exact⟨λ _=>rfl,λ _ _=>rfl,λ _ _ _=>rfl,λ _ _ _ _=>⟨rfl,rfl,λ _=>⟨rfl,rfl⟩⟩⟩
theorem XJ{q:Q Lk}{k:Lk}(hk:e9 k)(G:lE k=none)(Z:∀o f a b D nx pt,k=.rr o f a b D nx pt->bm q.R=[pt])(s:ag):ju q (aG U (U.retired k) s):=by
 rcases hk with⟨o,f,a,b,D,nx,pt,rfl⟩|⟨a,rfl⟩
 ·exact MN G (.inr (by rw[Z o f a b D nx pt rfl];simp))
 ·cases G
theorem Qk{q:Q Lk}{k:Lk}(hk:e9 k)(G:lE k=none)(Z:∀o f a b D nx pt,k=.rr o f a b D nx pt->bm q.R=[pt])(held:List Int)(s:ag)(gs stay:List (Int×Int)):ju q (du U k held s gs stay):=by
 cases gs with
 |nil=>exact XJ hk G Z _
 |cons g gs=>
  refine .none G λ t ht=>.inl ?_
  rcases hk with⟨o,f,a,b,D,nx,pt,rfl⟩|⟨a,rfl⟩
  ·rw[Z o f a b D nx pt rfl];exact ht
  ·cases G
theorem X6{q:Q Lk}{k:Lk}(hk:e9 k)(G:lE k=none)(Z:∀o f a b D nx pt,k=.rr o f a b D nx pt->bm q.R=[pt])(held:List Int)(s:ag)(cs:List Ad):ju q (gG U k held s cs):=by
 cases cs with
 |nil=>exact Qk hk G Z _ _ _ _
 |cons c cs=>
  refine .none G λ t ht=>.inl ?_
  rcases hk with⟨o,f,a,b,D,nx,pt,rfl⟩|⟨a,rfl⟩
  ·rw[Z o f a b D nx pt rfl];exact ht
  ·cases G
theorem Wi{q:Q Lk}{r:aJ}(T:cJ q)(h:cC q.R=none):ju q (tell U S q r):=by
 obtain⟨R,s⟩:=q;cases R with
 |fin o=>cases h
 |bn k=>exact absurd T id
 |at_ k=>
  cases k with
  |ls o f a b D cur w t=>
   show ju _ (aG U (if r.val=bt cur then _ else _) s.up);split
   ·exact .none h (by simp[aG,bm])
   ·exact HC h
  |lo o f a b D cur w t k=>
   show ju _ (aG U (if(av w).mark then _ else if r.val<o.o then _ else if r.val=o.o then _ else _) s.up);split
   ·exact .none h (by simp[aG,bm])
   ·split
    ·exact MN h (.inr (by simp[bm]))
    ·split
     ·exact acr h (by simp[bm])
     ·exact SL h (.inr (by simp[bm]))
  |cu o f a b D cur w=>
   show ju _ (aG U (if r.ok then _ else _) s.up);split
   ·exact .none h (by simp[aG,bm])
   ·exact HC h
  |gv o cur pt=>cases h
  |p1 o v n D cur=>exact .none rfl (by simp[tell,aG,U,cZ,bm])
  |p2 o v n D cur=>exact .none rfl (by simp[tell,aG,U,cZ,bm])
  |p0 o v n D cur=>exact .none rfl (by simp[tell,aG,U,cZ,bm])
  |cp o v n D cur=>
   show ju _ (aG U (if r.ok then _ else _) s.up);split
   ·exact ju.fi (.inl rfl)
   ·exact HC rfl
  |cm o D cur w=>
   show ju _ (aG U (if r.ok then _ else _) s.up);split
   ·exact⟨.inr (.inl rfl),by simp[aG,bm]⟩
   ·exact HC rfl
  |cd o D cur nx a=>cases h
  |_=>exact absurd T id
 |t1 k=>
  obtain⟨o,v,D,cur,rfl⟩:=T;show ju _ (if(av r.val).idx=0 then aG U _ s.up else _);split
  ·exact ju.fi (.inl rfl)
  ·exact .none rfl (by simp[bm])
 |t2 k f=>obtain⟨o,v,D,cur,rfl⟩:=T;exact .none rfl (by simp[tell,bm])
 |t3 k f lk=>obtain⟨o,v,D,cur,rfl⟩:=T;show ju _ (if r.ok then _ else _);split<;>exact .none rfl (by simp[bm])
 |t4 k n b=>obtain⟨o,v,D,cur,rfl⟩:=T;exact .none rfl (by simp[tell,bm])
 |t5 k n b c=>obtain⟨o,v,D,cur,rfl⟩:=T;exact .none rfl (by simp[tell,aG,U,bm])
 |g1 k i c=>exact .none h (by simp[tell,bm])
 |g2 k i c v b=>
  show ju _ (if r.val=s.e i then aG U _ s.up else _);split
  ·rcases T with⟨o,f,rfl⟩|⟨o,f,a,D,cur,rfl,rfl⟩
   ·exact MN h (.inr (by simp[bm]))
   ·exact .none h (by simp[aG,U,bm])
  ·exact .none h (by simp[bm])
 |g3 k i c er=>exact .none h (by simp[tell,bm])
 |c k i=>refine .none ((HU _ _).1.trans h) ?_;show∀t∈bm (dJ U k (s.up.ej i 0)).R,_;rw[LW _ T.2.2.2];simp
 |v1 k n=>obtain⟨a,c,rfl⟩:=T;cases h
 |v2 k n f=>obtain⟨a,c,rfl⟩:=T;cases h
 |v3 k n f=>obtain⟨a,c,rfl⟩:=T;cases h
 |r1 k n=>
  refine .none h λ t ht=>.inl ?_
  rcases T with⟨o,f,a,b,D,nx,pt,rfl⟩|⟨a,rfl⟩
  ·exact ht
  ·cases h
 |r2 k n er=>
  show ju _ (if(s.gone.length:Int)+1<2*(S:Int) then aG U _ _ else _);split
  ·exact XJ T h (λ o f a b D nx pt e=>(Gq k e).2.1 n er) _
  ·exact X6 T h (λ o f a b D nx pt e=>(Gq k e).2.1 n er) _ _ _
 |rs k held c cs=>exact X6 T h (λ o f a b D nx pt e=>(Gq k e).2.2.1 held c cs) _ _ _
 |s1 k held y gs stay=>
  show ju _ (if held.any (ja (kM r.val) y.2)=true then du U _ _ _ _ _ else _);split
  ·exact Qk T h (λ o f a b D nx pt e=>((Gq k e).2.2.2 held y gs stay).1) _ _ _ _
  ·refine .none h λ t ht=>.inl ?_
   rcases T with⟨o,f,a,b,D,nx,pt,rfl⟩|⟨a,rfl⟩
   ·exact ht
   ·cases h
 |w1 k held y gs stay=>
  refine .none h λ t ht=>.inl ?_
  rcases T with⟨o,f,a,b,D,nx,pt,rfl⟩|⟨a,rfl⟩
  ·exact ht
  ·cases h
 |w2 k held y gs stay f=>
  refine .none h λ t ht=>.inl ?_
  rcases T with⟨o,f,a,b,D,nx,pt,rfl⟩|⟨a,rfl⟩
  ·exact ht
  ·cases h
 |w3 k held y gs stay f=>
  show ju _ (if r.ok then du U _ _ _ _ _ else _);split
  ·exact Qk T h (λ o f a b D nx pt e=>(((Gq k e).2.2.2 held y gs stay).2.2 _).2) _ _ _ _
  ·refine .none h λ t ht=>.inl ?_
   rcases T with⟨o,f,a,b,D,nx,pt,rfl⟩|⟨a,rfl⟩
   ·exact ht
   ·cases h
end
theorem Hb{aM:Type}(am:lO aM)(k:aM)(held:List Int)(s:ag)(gs stay:List (Int×Int)):(du am k held s gs stay).s.made=s.made:=by
 cases gs with
 |nil=>unfold du;rw[rX]
 |cons g gs=>rfl
theorem Kr{aM:Type}(am:lO aM)(k:aM)(held:List Int)(s:ag)(cs:List Ad):(gG am k held s cs).s.made=s.made:=by
 cases cs with
 |nil=>exact Hb _ _ _ _ _ _
 |cons c cs=>rfl
theorem abf{aM:Type}(am:lO aM)(k:aM)(s:ag):(dJ am k s).s=s:=by have:=rX (am:=am) (.bn k) s;exact this
theorem BF{aM:Type}{am:lO aM}{S:Nat}{q:Q aM}{r:aJ}(hf:q.R.gX):(tell am S q r).s.made=q.s.made+1:=by
 obtain⟨R,s⟩:=q;cases R with
 |fin o=>exact absurd hf id
 |bn k=>exact absurd hf id
 |at_ k=>show(aG am _ s.up).s.made=_;rw[rX];rfl
 |t1 k=>
  show(if(av r.val).idx=0 then aG am _ s.up else _:Q aM).s.made=_;split
  ·rw[rX];rfl
  ·rfl
 |t3 k f lk=>show(if r.ok then _ else _:Q aM).s.made=_;split<;>rfl
 |t5 k n a b=>show(aG am _ s.up).s.made=_;rw[rX];rfl
 |g2 k i c v a=>
  show(if r.val=s.e i then aG am _ s.up else _:Q aM).s.made=_;split
  ·rw[rX];rfl
  ·rfl
 |g3 k i c er=>exact DF _ _ _
 |c k i=>show(dJ am k (s.up.ej i 0)).s.made=_;rw[abf];exact DF _ _ _
 |v3 k n f=>
  show(if r.ok then aG am _ s.up else _:Q aM).s.made=_;split
  ·rw[rX];rfl
  ·rfl
 |r2 k n er=>
  show(if(s.gone.length:Int)+1<2*(S:Int) then aG am _ _ else _:Q aM).s.made=_;split
  ·rw[rX];rfl
  ·exact Kr _ _ _ _ _
 |rs k held c cs=>exact Kr _ _ _ _ _
 |s1 k held y gs stay=>
  show(if held.any (ja (kM r.val) y.2)=true then du am _ _ _ _ _ else _:Q aM).s.made=_;split
  ·exact Hb _ _ _ _ _ _
  ·rfl
 |w3 k held y gs stay f=>
  show(if r.ok then du am _ _ _ _ _ else _:Q aM).s.made=_;split
  ·exact Hb _ _ _ _ _ _
  ·rfl
 |_=>rfl
def sx(op:a9):Fk->Prop
 |.get=>op.kind=1
 |.put v _=>op.kind=2/\v=op.b
 |.del=>op.kind=3
 |.fin _=>op.kind=3
def xf(r:Or)(op:a9):Lk->Prop
 |.ga o f|.gb o f _ _ _ _|.ls o f _ _ _ _ _ _|.lo o f _ _ _ _ _ _ _|.cu o f _ _ _ _ _|.rr o f _ _ _ _ _=>o=r/\sx op f
 |.gv o _ _=>o=r/\op.kind=1
 |.tk o v _ _|.p1 o v _ _ _|.p2 o v _ _ _|.p0 o v _ _ _|.cp o v _ _ _=>o=r/\op.kind=2/\v=op.b
 |.sv _ _=>op.kind=2
 |.cm o _ _ _|.cd o _ _ _ _=>o=r/\op.kind=3
 |.rx _ _|.ry _=>op.kind=3
 |.fi _=>True
def ie(r:Or)(op:a9):Pc Lk->Prop
 |.fin _=>True
 |.at_ k|.t1 k|.t2 k _|.t3 k _ _|.t4 k _ _|.t5 k _ _ _|.g1 k _ _|.g2 k _ _ _ _|.g3 k _ _ _|.bn k|.c k _|.v1 k _|.v2 k _ _|.v3 k _ _|.r1 k _|.r2 k _ _|.rs k _ _ _|.s1 k _ _ _ _|.w1 k _ _ _ _|.w2 k _ _ _ _ _|.w3 k _ _ _ _ _=>xf r op k
section
variable{S:Nat}{r:Or}{op:a9}
theorem RX{k:Lk}(h:xf r op k)(s:ag):ie r op (dJ U k s).R:=by
 rcases wc (am:=U) k s with⟨i,_,_,_,e⟩|⟨_,e⟩
 ·rw[e];exact h
 ·rw[e];cases k<;>first|trivial|exact h
theorem GI{R:Pc Lk}(h:ie r op R)(s:ag):ie r op (aG U R s).R:=by
 cases R with
 |bn k=>exact RX h s
 |_=>exact h
theorem SM{f:Fk}(h:sx op f)(D cur pt:Int):ie r op (d9 r f D cur pt):=by
 unfold d9;cases f with
 |put v n=>simp only;split<;>exact⟨rfl,h.1,h.2⟩
 |_=>trivial
theorem acs{f:Fk}(h:sx op f)(D cur w pt:Int):ie r op (eU r f D cur w pt):=by
 unfold eU;cases f with
 |get=>exact⟨rfl,h⟩
 |put v n=>
  simp only;split
  ·trivial
  ·exact h.1
 |del=>exact⟨rfl,h⟩
 |fin a=>trivial
theorem MO{f:Fk}(h:sx op f)(a b D cur pt:Int):ie r op (dG r f a b D cur pt):=by
 unfold dG;split
 ·exact SM h _ _ _
 ·exact⟨rfl,h⟩
theorem XK{k:Lk}(h:xf r op k)(s:ag):ie r op (aG U (U.retired k) s).R:=by
 refine GI ?_ s;cases k with
 |rr o f a b D nx pt=>obtain⟨rfl,hf⟩:=h;exact MO hf _ _ _ _ _
 |ry a=>trivial
 |_=>exact h
theorem Qm{k:Lk}(h:xf r op k)(held:List Int)(s:ag)(gs stay:List (Int×Int)):ie r op (du U k held s gs stay).R:=by
 cases gs with
 |nil=>exact XK h _
 |cons g gs=>exact h
theorem X8{k:Lk}(h:xf r op k)(held:List Int)(s:ag)(cs:List Ad):ie r op (gG U k held s cs).R:=by
 cases cs with
 |nil=>exact Qm h _ _ _ _
 |cons c cs=>exact h
theorem ah3{q:Q Lk}{a:aJ}(T:cJ q)(h:ie r op q.R):ie r op (tell U S q a).R:=by
 obtain⟨R,s⟩:=q;cases R with
 |fin o=>trivial
 |bn k=>exact absurd T id
 |at_ k=>
  show ie r op (aG U (cZ k s.made a) s.up).R;refine GI ?_ _;cases k with
  |ls o f a b D cur w t=>simp only[cZ];split<;>exact h
  |lo o f a b D cur w t k=>
   obtain⟨rfl,hf⟩:=h;simp only[cZ];split
   ·exact⟨rfl,hf⟩
   ·split
    ·exact MO hf _ _ _ _ _
    ·split
     ·exact acs hf _ _ _ _
     ·exact SM hf _ _ _
  |cu o f a b D cur w=>simp only[cZ];split<;>exact h
  |gv o cur pt=>trivial
  |p1 o v n D cur=>exact h
  |p2 o v n D cur=>exact h
  |p0 o v n D cur=>exact h
  |cp o v n D cur=>
   simp only[cZ];split
   ·trivial
   ·exact⟨h.1,h.2.1,h.2.2⟩
  |cm o D cur w=>simp only[cZ];split<;>exact h
  |cd o D cur nx a=>
   simp only[cZ];split
   ·exact h.2
   ·exact⟨h.1,h.2⟩
  |_=>exact absurd T id
 |t1 k=>
  obtain⟨o,v,D,cur,rfl⟩:=T;show ie r op (if(av a.val).idx=0 then aG U _ s.up else _:Q Lk).R;split
  ·exact GI (R:=.bn (.fi _)) trivial _
  ·exact h
 |t2 k f=>exact h
 |t3 k f lk=>show ie r op (if a.ok then _ else _:Q Lk).R;split<;>exact h
 |t4 k n b=>exact h
 |t5 k n b c=>obtain⟨o,v,D,cur,rfl⟩:=T;exact h
 |g1 k i c=>exact h
 |g2 k i c v b=>
  show ie r op (if a.val=s.e i then aG U _ s.up else _:Q Lk).R;split
  ·refine GI ?_ _;rcases T with⟨o,f,rfl⟩|⟨o,f,bF,D,cur,rfl,rfl⟩
   ·obtain⟨rfl,hf⟩:=h;exact MO hf _ _ _ _ _
   ·exact h
  ·exact h
 |g3 k i c er=>exact h
 |c k i=>exact RX h _
 |v1 k n=>exact h
 |v2 k n f=>exact h
 |v3 k n f=>
  obtain⟨bF,aT,rfl⟩:=T;show ie r op (if a.ok then aG U _ s.up else _:Q Lk).R;split
  ·exact GI (R:=.bn (.fi _)) trivial _
  ·exact h
 |r1 k n=>exact h
 |r2 k n er=>
  show ie r op (if(s.gone.length:Int)+1<2*(S:Int) then aG U _ _ else _:Q Lk).R;split
  ·exact XK h _
  ·exact X8 h _ _ _
 |rs k held c cs=>exact X8 h _ _ _
 |s1 k held y gs stay=>
  show ie r op (if held.any (ja (kM a.val) y.2)=true then du U _ _ _ _ _ else _:Q Lk).R;split
  ·exact Qm h _ _ _ _
  ·exact h
 |w1 k held y gs stay=>exact h
 |w2 k held y gs stay f=>exact h
 |w3 k held y gs stay f=>
  show ie r op (if a.ok then du U _ _ _ _ _ else _:Q Lk).R;split
  ·exact Qm h _ _ _ _
  ·exact h
theorem yL:∀(ap:List aJ){q:Q Lk},cJ q->ie r op q.R->ie r op (bZ U S q ap).R
 |[],_,_,h=>h
 |a::ap,_,T,h=>yL ap (qT (r:=a) T) (ah3 T h)
end
theorem B1{op:a9}(hk:op.kind=1\/op.kind=2\/op.kind=3):sx op (i5 op):=by
 unfold i5;rcases hk with hk|hk|hk
 ·rw[if_pos hk];exact hk
 ·rw[if_neg (by omega),if_pos hk];exact⟨hk,rfl⟩
 ·rw[if_neg (by omega),if_neg (by omega)];exact hk
section
variable{l:aI}{S N aB:Nat}{m:List Int}{V:Vw}{qs:List (Q Lk)}{aw X:List Int}{g:dF}
theorem GB(hL:oO l S N)(hV:qm l S N m V){n i:Int}(h1:1<=n)(u:n<=N)(i0:0<=i)(afW:i<=5):db m (bf l n i)=V.W.nd n i:=HF hL hV (a:=.nd n i) ⟨h1,u,i0,afW⟩
theorem S8{aC:Int->Prop}{W:Ws}(h:eX N aB W X aC g):∃bK,X=1::bK:=by
 have h1:=h.first;cases X with
 |nil=>cases h1
 |cons x bK=>have:x=1:=h1;exact⟨bK,by rw[this]⟩
theorem ahI{bK:List Int}(hL:oO l S N)(hN:N<=100)(hV:qm l S N m V)(hI:Inv (a7 N) l S N aB V qs aw X g)(hY:X=1::bK):uy l m (bf l 1 0)=bK:=by
 have nv:=hI.yK;have bq:eX N aB V.W X (Dq (a7 N) qs) g:=hI.si;have fT:=bq.link;rw[hY] at fT;have TB:=bq.e8 1 (by rw[hY];simp);have hr:=TZ (X:=bK) (N:=N) (λ n hn=>bq.e8 n (by rw[hY];simp[hn]));unfold uy;have hw:V.W.nd 1 0%65536=bK.headD 0:=fT.1;rw[GB hL hV TB.1 TB.2 (by omega) (by omega),show(av (V.W.nd 1 0)).idx=bK.headD 0 by rw[xn];exact hw];have rO:∀x∈bK,1<=x/\x<=(N:Int):=λ x hx=>bq.e8 x (by rw[hY];simp[hx])
 have hnd:bK.Nodup:=by rw[hY] at nv;exact(List.nodup_cons.1 nv).2
 have:=LO (nx:=λ n=>(av (db m (bf l n 0))).idx) (nd:=λ n=>V.W.nd n 0%65536) (N:=l.nodes) bK [] (l.nodes.toNat+1) (λ x hx=>by have:=rO x hx;have:=hL.nodes;omega) (by simpa using hnd) (by
  have:=Dw N bK hnd rO;have:=hL.nodes;omega) fT.2 (λ x hx=>by
   have hx:=rO x hx;show(av (db m (bf l x 0))).idx=_;rw[GB hL hV hx.1 hx.2 (by omega) (by omega),xn])
 simpa using this
def eP(W:Ws)(X:List Int):List Int:=X.filter λ n=>!(av (W.nd n 0)).mark
theorem ajI{bK:List Int}(hL:oO l S N)(hN:N<=100)(hV:qm l S N m V)(hI:Inv (a7 N) l S N aB V qs aw X g)(hY:X=1::bK):uE l m (bf l 1 0)=(eP V.W bK).map λ n=>(V.W.nd n 1,V.W.nd n 2):=by
 unfold uE eP;rw[ahI hL hN hV hI hY];have rO:∀x∈bK,1<=x/\x<=(N:Int):=λ x hx=>hI.oz (by rw[hY];simp[hx])
 have e1:(bK.filter λ n=>!(av (db m (bf l n 0))).mark)=bK.filter λ n=>!(av (V.W.nd n 0)).mark:=List.filter_congr λ x hx=>by
  have hx:=rO x hx;rw[GB hL hV hx.1 hx.2 (by omega) (by omega)]
 rw[e1];refine List.map_congr_left λ x hx=>?_
 have hx:=rO x (List.mem_filter.1 hx).1;rw[GB hL hV hx.1 hx.2 (by omega) (by omega),GB hL hV hx.1 hx.2 (by omega) (by omega)]
end
section
variable{l:aI}{S N aB:Nat}{W W':Ws}{X be:List Int}{aC:Int->Prop}{g:dF}{P:Int->Int->Prop}
theorem agX(hN:N<=100){k:Lk}(bq:eX N aB W X aC g)(hk:nK N W X P k)(hP:∀i n,P i n->n∈X\/aC n)(hb:∀n,n∈X\/n∈ed k\/aC n->1<=n/\n<=(N:Int))(eM:X.Nodup)(lb:∀n∈ed k,n∉X/\¬aC n)(yc:∀n,aC n->n∉X):
 gq W (br W (bh k)).1 X (cM W X g k).1 aC (ed k):=by
 have adR:∀n,n∈X\/aC n->1<=n/\n<=(N:Int):=λ n hn=>hb n (hn.imp id .inr)
 have jj:∀{i n},PD N W X P i n->n∈X\/aC n:=λ h=>h.at_ hP
 have pl:∀{n:Int},0<=n->n<=N->bt n=n:=λ h0 h1=>uA h0 (by omega)
 cases k with
 |cu o f a b D cur w=>
  obtain⟨h1,u,J,h4,h5⟩:=hk;have hw:=u.mark.1 h4;have hi:=jb w;have fD:=u.2;have e0:bt cur=cur:=pl (by have:=h1.c1;omega) h1.cN;have jT:bt (av w).idx=(av w).idx:=pl hi.1 fD
  by_cases F:W.nd D 0=cur
  ·have e1:br W (bh (.cu o f a b D cur w))=(W.put (bM D) (av w).idx,⟨cur,true⟩):=by simp only[bh,br,Ws.get,e0,jT,F,if_true]
   have e2:cM W X g (.cu o f a b D cur w)=(X.erase cur,{g with ret:=g.ret+1}):=by simp only[cM,Ws.get,e0,F,if_true]
   rw[e1,e2];obtain⟨_,_,lv,_,_⟩:=vW bq hN eM yc (jj h1.pp) h1.c1 h1.cN F (by rw[h5];exact hw) hi.1 fD (lK:=aC) (λ n hn=>.inl hn);exact lv _
  ·have e1:br W (bh (.cu o f a b D cur w))=(W,⟨W.nd D 0,false⟩):=by simp only[bh,br,Ws.get,e0,F,if_false]
   have e2:cM W X g (.cu o f a b D cur w)=(X,g):=by simp only[cM,Ws.get,e0,F,if_false]
   rw[e1,e2];exact qu
 |p1 o v n D cur=>have dP:=lb n (by simp[ed]);exact(D3 bq (i:=1) (v:=o.o) dP.1 dP.2).2
 |p2 o v n D cur=>have dP:=lb n (by simp[ed]);exact(D3 bq (i:=2) (v:=v) dP.1 dP.2).2
 |p0 o v n D cur=>have dP:=lb n (by simp[ed]);exact(D3 bq (i:=0) (v:=bt cur) dP.1 dP.2).2
 |cp o v n D cur=>
  obtain⟨h1,u,J,h4,h5⟩:=hk;have dP:=lb n (by simp[ed]);have c6:=hb n (.inr (.inl (by simp[ed])));obtain⟨i,hi⟩:=h1.R;obtain⟨j,hj⟩:=h1.pp;have fw:0<=cur/\cur<=N:=by
   rcases hi with rfl|hi
   ·omega
   ·omega
  have e0:bt cur=cur:=pl fw.1 fw.2;have jT:bt n=n:=pl (by omega) c6.2
  by_cases F:W.nd D 0=cur
  ·obtain⟨A,B,T,_,kA⟩:=Jj bq (Nat.succ_le_succ bq.k) hN eM (jj hj) fw.1 fw.2 F c6.1 c6.2 dP.1 dP.2 J h5 h1.kp h1.kc;have e1:br W (bh (.cp o v n D cur))=(W.put (bM D) n,⟨cur,true⟩):=by simp only[bh,br,Ws.get,e0,jT,F,if_true]
   have e2:cM W X g (.cp o v n D cur)=(A++n::B,{g with put:=g.put+1}):=by simp only[cM,Ws.get,e0,F,if_true];rw[JQ T eM]
   rw[e1,e2];exact kA _
  ·have e1:br W (bh (.cp o v n D cur))=(W,⟨W.nd D 0,false⟩):=by simp only[bh,br,Ws.get,e0,F,if_false]
   have e2:cM W X g (.cp o v n D cur)=(X,g):=by simp only[cM,Ws.get,e0,F,if_false]
   rw[e1,e2];exact qu
 |cm o D cur w=>
  obtain⟨h1,u,J,uh⟩:=hk;obtain⟨i,hi⟩:=h1.R;have hx:=jb w;have fD:=u.2;have e0:pk (av w).idx=(av w).idx+65536:=JG hx.1 (by omega)
  by_cases F:W.nd cur 0=w
  ·obtain⟨_,_,lv⟩:=JI bq hN (hP _ _ hi) u J F (by rw[h1.kc];exact uh);have e1:br W (bh (.cm o D cur w))=(W.fF cur 0 ((av w).idx+65536),⟨w,true⟩):=by simp only[bh,br,Ws.get,e0,F,if_true];rfl
   rw[e1];exact lv _
  ·have e1:br W (bh (.cm o D cur w))=(W,⟨W.nd cur 0,false⟩):=by simp only[bh,br,Ws.get,F,if_false]
   rw[e1];exact qu
 |cd o D cur nx at_=>
  obtain⟨h1,u,J,h4⟩:=hk;obtain⟨j,hj⟩:=h1.pp;have e0:bt cur=cur:=pl (by have:=h1.c1;omega) h1.cN;have jT:bt nx=nx:=pl J h4
  by_cases F:W.nd D 0=cur
  ·have e1:br W (bh (.cd o D cur nx at_))=(W.put (bM D) nx,⟨cur,true⟩):=by simp only[bh,br,Ws.get,e0,jT,F,if_true]
   have e2:cM W X g (.cd o D cur nx at_)=(X.erase cur,{g with ret:=g.ret+1}):=by simp only[cM,Ws.get,e0,F,if_true]
   rw[e1,e2];obtain⟨_,_,lv,_,_⟩:=vW bq hN eM yc (jj hj) h1.c1 h1.cN F u J h4 (lK:=aC) (λ n hn=>.inl hn);exact lv _
  ·have e1:br W (bh (.cd o D cur nx at_))=(W,⟨W.nd D 0,false⟩):=by simp only[bh,br,Ws.get,e0,F,if_false]
   have e2:cM W X g (.cd o D cur nx at_)=(X,g):=by simp only[cM,Ws.get,e0,F,if_false]
   rw[e1,e2];exact qu
 |_=>exact qu
structure Hv(l:aI)(S N:Nat)(V:Vw)(X:List Int)(g:dF)(aC:Int->Prop)(P:Int->Int->Prop)(k:Lk):Prop where
 kl:nK N V.W X P k
 hP:∀i n,P i n->n∈X\/aC n
 hb:∀n,n∈X\/n∈ed k\/aC n->1<=n/\n<=(N:Int)
 nd:X.Nodup
 mi:∀n∈ed k,n∉X/\¬aC n
 dx:∀n,aC n->n∉X
 act:act V (bh k)=({V with W:=(br V.W (bh k)).1},(br V.W (bh k)).2)
variable{V:Vw}{qs:List (Q Lk)}{aw:List Int}{w:Nat}{q:Q Lk}
theorem vO(hN:N<=100)(hI:Inv (a7 N) l S N aB V qs aw X g){k:Lk}{s:ag}(hq:qs[w]?=some ⟨.at_ k,s⟩):Hv l S N V X g (Dq (a7 N) qs) (Pr (a7 N) V X qs w s) k:=by
 have ct:=(hI.loc w _ hq).R;have T:=V2 (l:=l) (S:=S) hN;have c6:∀i n,Pr (a7 N) V X qs w s i n->1<=n/\n<=(N:Int):=λ i n h=>(qS h).elim (λ h=>hI.oz h) λ h=>(hI.dq h).1
 have dP:∀n∈ed k,n∈own (a7 N) ⟨.at_ k,s⟩:=λ n h=>by unfold own;rw[List.mem_append];exact .inl h
 have ny:∀n∈iL k,n∈own (a7 N) ⟨.at_ k,s⟩:=λ n h=>by unfold own eC;rw[List.mem_append,List.mem_append];exact .inr (.inl h)
 have Oh:=T.ask hI.si ct.1 c6 (λ n h=>h.elim (λ h=>hI.oz h) λ h=>h.elim (λ h=>hI.mX hq (dP n h)) λ h=>hI.mX hq (ny n h));refine⟨ct.1,λ i n h=>qS h,λ n h=>h.elim (λ h=>hI.oz h) λ h=>h.elim (λ h=>hI.mX hq (dP n h)) λ h=>(hI.dq h).1,hI.yK,λ n h=>?_,λ n h=>(hI.dq h).2.1,Rg Oh⟩;have u:=hI.JK hq (n:=n) (by exact h);exact⟨u.1,u.2.1⟩
theorem Lr(hN:N<=100)(hI:Inv (a7 N) l S N aB V qs aw X g)(hq:qs[w]?=some q):gq V.W (act V (aS U w q.R)).1.W X (hc (a7 N) V.W X g q.R).1 (Dq (a7 N) qs) (eQ (a7 N) q.R):=by
 obtain⟨R,s⟩:=q;have bV:∀(f v:Int),(act V (.cs .free f v)).1.W=V.W:=λ f v=>by simp only[act];split<;>rfl
 cases R with
 |at_ k=>have ho:=vO hN hI hq;show gq V.W (act V (bh k)).1.W X (cM V.W X g k).1 _ (ed k);rw[ho.act];exact agX hN hI.si ho.kl ho.hP ho.hb ho.nd ho.mi ho.dx
 |t3 k f lk=>show gq V.W (act V (.cs .free f _)).1.W X X _ _;rw[bV];exact qu
 |v3 k n f=>show gq V.W (act V (.cs .free f _)).1.W X X _ _;rw[bV];exact qu
 |w3 k held y gs stay f=>show gq V.W (act V (.cs .free f _)).1.W X X _ _;rw[bV];exact qu
 |_=>exact qu
end
structure v5 where
 kind:Int
 keys:List Int
 jA:List Int
deriving DecidableEq
def Hw(l:List Int):Prop:=l.Pairwise (·<·)
instance(l:List Int):Decidable (Hw l):=inferInstanceAs(Decidable (l.Pairwise (·<·)))
def pos(l:List Int)(x:Int):Nat:=(l.takeWhile λ y=>decide (y<x)).length
def Ji(l:List Int)(p:Nat)(x:Int):List Int:=l.take p++x::l.drop p
def H0(l:List Int)(p:Nat):List Int:=l.take p++l.drop (p+1)
def BV(c:v5):Bool:=if c.kind=1 then decide (c.keys.length=c.jA.length)&&decide (Hw c.keys) else if c.kind=2\/c.kind=3 then decide (c.keys.length=0) else false
def yg(c:v5)(x:Int):Bool:=decide (c.keys[pos c.keys x]?=some x)
def mC(c:v5)(o:a9):v5×Int×Bool:=
 if o.kind=1 then(if yg c o.a then(c,c.jA.getD (pos c.keys o.a) 0,true) else(c,0,false))
 else if o.kind=2 then(if yg c o.a then(c,0,false) else(⟨c.kind,Ji c.keys (pos c.keys o.a) o.a,Ji c.jA (pos c.keys o.a) o.b⟩,0,true))
 else(if yg c o.a then(⟨c.kind,H0 c.keys (pos c.keys o.a),H0 c.jA (pos c.keys o.a)⟩,0,true) else(c,0,false))
theorem W9{A B:List Int}{x:Int}(hA:∀y∈A,y<x)(hB:∀y,B.head?=some y->x<=y):pos (A++B) x=A.length:=by
 unfold pos;rw[List.takeWhile_append_of_pos (λ y hy=>by simpa using hA y hy)];cases B with
 |nil=>simp
 |cons b B=>have:=hB b rfl;rw[List.takeWhile_cons_of_neg (by simpa using this)];simp
section
variable{A B VA VB:List Int}{x v k:Int}
theorem It(hA:∀y∈A,y<x):yg ⟨k,A++x::B,VA++v::VB⟩ x=true/\pos (A++x::B) x=A.length:=by have h:=W9 (B:=x::B) hA (λ y hy=>by simp at hy;omega);refine⟨?_,h⟩;unfold yg;simp only[h];simp
theorem Nm(hA:∀y∈A,y<x)(hB:∀y∈B,x<y){vs:List Int}:yg ⟨k,A++B,vs⟩ x=false/\pos (A++B) x=A.length:=by
 have h:=W9 (B:=B) hA (λ y hy=>by
  cases B with
  |nil=>cases hy
  |cons b B=>simp at hy;have:=hB b (by simp);omega)
 refine⟨?_,h⟩;unfold yg;simp only[h];rw[List.getElem?_append_right (Nat.le_refl _),Nat.sub_self,decide_eq_false_iff_not];intro e;cases B with
 |nil=>cases e
 |cons b B=>simp at e;have:=hB b (by simp);omega
theorem Dc{n:Nat}(h:A.length=n):Ji (A++B) n x=A++x::B:=by subst h;unfold Ji;simp
theorem H1{n:Nat}(h:A.length=n):H0 (A++x::B) n=A++B:=by subst h;unfold H0;simp
theorem Tn{n:Nat}(h:A.length=n):(A++x::B).getD n 0=x:=by subst h;simp
end
def dm(W:Ws)(X:List Int):v5:=⟨1,(eP W X).map λ n=>W.nd n 1,(eP W X).map λ n=>W.nd n 2⟩
theorem C9(W:Ws)(A B:List Int):eP W (A++B)=eP W A++eP W B:=List.filter_append A B
theorem Da(W:Ws)(n:Int)(B:List Int):eP W (n::B)=if(av (W.nd n 0)).mark=true then eP W B else n::eP W B:=by
 unfold eP
 by_cases h:(av (W.nd n 0)).mark=true
 ·rw[if_pos h,List.filter_cons_of_neg (by simp[h])]
 ·rw[if_neg h,List.filter_cons_of_pos (by simp[h])]
theorem Bu{W:Ws}{X:List Int}{n:Int}(h:n∈eP W X):n∈X:=(List.mem_filter.1 h).1
theorem af2{W W':Ws}{X:List Int}(h:∀n∈X,(av (W'.nd n 0)).mark=(av (W.nd n 0)).mark):eP W' X=eP W X:=List.filter_congr λ x hx=>by rw[h x hx]
structure Alike(W W':Ws)(X:List Int):Prop where
 key:∀n∈X,W'.nd n 1=W.nd n 1/\W'.nd n 2=W.nd n 2
 mark:∀n∈X,(av (W'.nd n 0)).mark=(av (W.nd n 0)).mark
theorem Alike.eP{W W':Ws}{X:List Int}(h:Alike W W' X):eP W' X=eP W X:=af2 h.mark
theorem Alike.keys{W W':Ws}{X:List Int}(h:Alike W W' X):(Go.Proofs.YtkkldicehapklaaGreat.Tq.eP W' X).map (λ n=>W'.nd n 1)=(Go.Proofs.YtkkldicehapklaaGreat.Tq.eP W X).map λ n=>W.nd n 1:=by rw[h.eP];exact List.map_congr_left λ n hn=>(h.key n (Bu hn)).1
theorem Alike.jA{W W':Ws}{X:List Int}(h:Alike W W' X):(Go.Proofs.YtkkldicehapklaaGreat.Tq.eP W' X).map (λ n=>W'.nd n 2)=(Go.Proofs.YtkkldicehapklaaGreat.Tq.eP W X).map λ n=>W.nd n 2:=by rw[h.eP];exact List.map_congr_left λ n hn=>(h.key n (Bu hn)).2
theorem Alike.LZ{W W':Ws}{X:List Int}(h:Alike W W' X):dm W' X=dm W X:=by unfold dm;rw[h.keys,h.jA]
theorem Alike.sub{W W':Ws}{X bK:List Int}(h:Alike W W' X)(T:∀n∈bK,n∈X):Alike W W' bK:=⟨λ n hn=>h.key n (T n hn),λ n hn=>h.mark n (T n hn)⟩
section
variable{N aB:Nat}{W W':Ws}{X A B:List Int}{aC:Int->Prop}{g:dF}{n o:Int}
theorem R6(h:eX N aB W X aC g):BV (dm W X)=true:=by unfold BV dm;simp only[if_true,List.length_map,decide_true,Bool.true_and,decide_eq_true_eq];unfold Hw;rw[List.pairwise_map];exact h.p9.sublist List.filter_sublist
theorem R5(hA:∀m∈A,W.nd m 1<o)(hB:∀m∈B,o<W.nd m 1):yg (dm W (A++B)) o=false/\pos (dm W (A++B)).keys o=(eP W A).length:=by
 unfold dm;simp only[C9,List.map_append];have:=Nm (k:=1) (x:=o) (A:=(eP W A).map λ n=>W.nd n 1) (B:=(eP W B).map λ n=>W.nd n 1) (vs:=(eP W A).map (λ n=>W.nd n 2)++(eP W B).map λ n=>W.nd n 2) (λ y hy=>by
  obtain⟨m,hm,rfl⟩:=List.mem_map.1 hy;exact hA m (Bu hm)) (λ y hy=>by
  obtain⟨m,hm,rfl⟩:=List.mem_map.1 hy;exact hB m (Bu hm))
 rw[List.length_map] at this;exact this
theorem Kx{op:a9}(ho:op.a=o)(hk:op.kind=1\/op.kind=3)(hA:∀m∈A,W.nd m 1<o)(hB:∀m∈B,o<W.nd m 1):mC (dm W (A++B)) op=(dm W (A++B),0,false):=by
 have h:=(R5 hA hB).1;rw[<-ho] at h;unfold mC;rcases hk with hk|hk
 ·rw[if_pos hk,h];rfl
 ·rw[if_neg (by omega),if_neg (by omega),h];rfl
theorem aj3{op:a9}(ho:op.a=o)(hk:op.kind=1\/op.kind=2)(hA:∀m∈A,W.nd m 1<o)(hn:W.nd n 1=o)(hm:¬(av (W.nd n 0)).mark=true):mC (dm W (A++n::B)) op=(dm W (A++n::B),if op.kind=1 then W.nd n 2 else 0,decide (op.kind=1)):=by
 have e:dm W (A++n::B)=⟨1,(eP W A).map (λ n=>W.nd n 1)++o::(eP W B).map (λ n=>W.nd n 1),(eP W A).map (λ n=>W.nd n 2)++W.nd n 2::(eP W B).map λ n=>W.nd n 2⟩:=by unfold dm;simp only[C9,Da,if_neg hm,List.map_append,List.map_cons,hn]
 have h:=It (k:=1) (x:=o) (v:=W.nd n 2) (A:=(eP W A).map λ n=>W.nd n 1) (B:=(eP W B).map λ n=>W.nd n 1) (VA:=(eP W A).map λ n=>W.nd n 2) (VB:=(eP W B).map λ n=>W.nd n 2) (λ y hy=>by
  obtain⟨m,hm,rfl⟩:=List.mem_map.1 hy;exact hA m (Bu hm))
 rw[e];unfold mC;rcases hk with hk|hk
 ·rw[if_pos hk,ho,h.1,if_pos rfl,if_pos hk];simp only[h.2];rw[Tn (by simp)];simp[hk]
 ·rw[if_neg (by omega),if_pos hk,ho,h.1,if_pos rfl,if_neg (by omega)];simp[hk]
theorem aj4{op:a9}(ho:op.a=o)(hk:op.kind=2)(hA:∀m∈A,W.nd m 1<o)(hB:∀m∈B,o<W.nd m 1)(iS:Alike W W' (A++B))(pN:W'.nd n 1=o)(IR:W'.nd n 2=op.b)(hm:¬(av (W'.nd n 0)).mark=true):mC (dm W (A++B)) op=(dm W' (A++n::B),0,true):=by obtain⟨h1,u⟩:=R5 hA hB;have x8:=iS.sub (bK:=A) (by simp+contextual);have x9:=iS.sub (bK:=B) (by simp+contextual);unfold mC;rw[if_neg (by omega),if_pos hk,ho,h1,u];simp only[Bool.false_eq_true,if_false];unfold dm;simp only[C9,Da,if_neg hm,List.map_append,List.map_cons,pN,IR];rw[x8.keys,x8.jA,x9.keys,x9.jA,Dc (by simp),Dc (by simp)]
theorem aj2{op:a9}(ho:op.a=o)(hk:op.kind=3)(hA:∀m∈A,W.nd m 1<o)(iS:Alike W W' (A++B))(hn:W.nd n 1=o)(hm:¬(av (W.nd n 0)).mark=true)(mu:(av (W'.nd n 0)).mark=true):mC (dm W (A++n::B)) op=(dm W' (A++n::B),0,true):=by
 have e:dm W (A++n::B)=⟨1,(eP W A).map (λ n=>W.nd n 1)++o::(eP W B).map (λ n=>W.nd n 1),(eP W A).map (λ n=>W.nd n 2)++W.nd n 2::(eP W B).map λ n=>W.nd n 2⟩:=by unfold dm;simp only[C9,Da,if_neg hm,List.map_append,List.map_cons,hn]
 have h:=It (k:=1) (x:=o) (v:=W.nd n 2) (A:=(eP W A).map λ n=>W.nd n 1) (B:=(eP W B).map λ n=>W.nd n 1) (VA:=(eP W A).map λ n=>W.nd n 2) (VB:=(eP W B).map λ n=>W.nd n 2) (λ y hy=>by
  obtain⟨m,hm,rfl⟩:=List.mem_map.1 hy;exact hA m (Bu hm))
 have x8:=iS.sub (bK:=A) (by simp+contextual);have x9:=iS.sub (bK:=B) (by simp+contextual);rw[e];unfold mC;rw[if_neg (by omega),if_neg (by omega),ho,h.1,if_pos rfl];simp only[h.2];rw[H1 (by simp),H1 (by simp)];unfold dm;simp only[C9,Da,if_pos mu,List.map_append];rw[x8.keys,x8.jA,x9.keys,x9.jA]
theorem L0(iS:Alike W W' (A++B))(hm:(av (W.nd n 0)).mark=true):dm W' (A++B)=dm W (A++n::B):=by have x8:=iS.sub (bK:=A) (by simp+contextual);have x9:=iS.sub (bK:=B) (by simp+contextual);unfold dm;simp only[C9,Da,if_pos hm,List.map_append];rw[x8.keys,x8.jA,x9.keys,x9.jA]
end
def nI:Pc Lk->Prop
 |.at_ (.lo _ _ _ _ _ _ _ t k)=>t<k
 |_=>True
section
variable{S:Nat}
theorem LX(k:Lk)(s:ag)(hk:(∃o,k=.fi o)\/∃n a,k=.rx n a):nI (dJ U k s).R:=by
 rcases wc (am:=U) k s with⟨i,i0,i2,h,e⟩|⟨_,e⟩
 ·rw[e];trivial
 ·rw[e];rcases hk with⟨o,rfl⟩|⟨n,a,rfl⟩<;>trivial
theorem As(o:bd)(s:ag):nI (aG U (.bn (.fi o)) s).R:=LX _ s (.inl ⟨o,rfl⟩)
theorem SK(o:Or)(f:Fk)(D cur pt:Int)(s:ag):nI (aG U (d9 o f D cur pt) s).R:=by
 unfold d9;cases f with
 |put v n=>simp only;split<;>trivial
 |_=>exact As _ _
theorem acq(o:Or)(f:Fk)(D cur w pt:Int)(s:ag):nI (aG U (eU o f D cur w pt) s).R:=by
 unfold eU;cases f with
 |put v n=>
  simp only;split
  ·exact As _ _
  ·trivial
 |fin a=>exact As _ _
 |_=>trivial
theorem MM(o:Or)(f:Fk)(a b D cur pt:Int)(s:ag):nI (aG U (dG o f a b D cur pt) s).R:=by
 unfold dG;split
 ·exact SK _ _ _ _ _ _
 ·trivial
theorem XI{k:Lk}(hk:e9 k)(s:ag):nI (aG U (U.retired k) s).R:=by
 rcases hk with⟨o,f,a,b,D,nx,pt,rfl⟩|⟨a,rfl⟩
 ·exact MM _ _ _ _ _ _ _ _
 ·trivial
theorem Qj{k:Lk}(hk:e9 k)(held:List Int)(s:ag)(gs stay:List (Int×Int)):nI (du U k held s gs stay).R:=by
 cases gs with
 |nil=>exact XI hk _
 |cons g gs=>trivial
theorem X5{k:Lk}(hk:e9 k)(held:List Int)(s:ag)(cs:List Ad):nI (gG U k held s cs).R:=by
 cases cs with
 |nil=>exact Qj hk _ _ _ _
 |cons c cs=>trivial
structure qe(q:Q Lk):Prop where
 pt:∀a,cC q.R=some a->0<=a/\a<q.s.made
 lk:cC q.R=none->∀t∈bm q.R,0<=t/\t<q.s.made
 lo:cC q.R=none->nI q.R
theorem agK{q:Q Lk}{r:aJ}(T:cJ q)(Z:cC q.R=none->∀t∈bm q.R,t<q.s.made):cC q.R=none->nI (tell U S q r).R:=by
 intro G;have Z:=Z G;obtain⟨R,s⟩:=q;cases R with
 |fin o=>trivial
 |bn k=>exact absurd T id
 |at_ k=>
  show nI (aG U (cZ k s.made r) s.up).R;cases k with
  |ls o f a b D cur w t=>
   simp only[cZ];split
   ·exact Z t (by simp[bm])
   ·trivial
  |lo o f a b D cur w t k=>
   simp only[cZ];split
   ·trivial
   ·split
    ·exact MM _ _ _ _ _ _ _ _
    ·split
     ·exact acq _ _ _ _ _ _ _
     ·exact SK _ _ _ _ _ _
  |cu o f a b D cur w=>simp only[cZ];split<;>trivial
  |gv o cur pt=>exact As _ _
  |p1|p2|p0=>trivial
  |cp o v n D cur=>
   simp only[cZ];split
   ·exact As _ _
   ·trivial
  |cm o D cur w=>simp only[cZ];split<;>trivial
  |cd o D cur nx a=>
   simp only[cZ];split
   ·exact LX _ _ (.inr ⟨_,_,rfl⟩)
   ·trivial
  |_=>exact absurd T id
 |t1 k=>
  obtain⟨o,v,D,cur,rfl⟩:=T;show nI (if(av r.val).idx=0 then aG U _ s.up else _:Q Lk).R;split
  ·exact As _ _
  ·trivial
 |t2 k f=>trivial
 |t3 k f lk=>show nI (if r.ok then _ else _:Q Lk).R;split<;>trivial
 |t4 k n b=>trivial
 |t5 k n b c=>
  obtain⟨o,v,D,cur,rfl⟩:=T
  trivial
 |g1 k i c=>trivial
 |g2 k i c v b=>
  show nI (if r.val=s.e i then aG U _ s.up else _:Q Lk).R;split
  ·rcases T with⟨o,f,rfl⟩|⟨o,f,a,D,cur,rfl,rfl⟩
   ·exact MM _ _ _ _ _ _ _ _
   ·trivial
  ·trivial
 |g3 k i c er=>trivial
 |c k i=>exact LX _ _ T.2.2.2
 |v1 k n=>trivial
 |v2 k n f=>trivial
 |v3 k n f=>
  obtain⟨a,aT,rfl⟩:=T;show nI (if r.ok then aG U _ s.up else _:Q Lk).R;split
  ·exact As _ _
  ·trivial
 |r1 k n=>trivial
 |r2 k n er=>
  show nI (if(s.gone.length:Int)+1<2*(S:Int) then aG U _ _ else _:Q Lk).R;split
  ·exact XI T _
  ·exact X5 T _ _ _
 |rs k held c cs=>exact X5 T _ _ _
 |s1 k held y gs stay=>
  show nI (if held.any (ja (kM r.val) y.2)=true then du U _ _ _ _ _ else _:Q Lk).R;split
  ·exact Qj T _ _ _ _
  ·trivial
 |w1 k held y gs stay=>trivial
 |w2 k held y gs stay f=>trivial
 |w3 k held y gs stay f=>
  show nI (if r.ok then du U _ _ _ _ _ else _:Q Lk).R;split
  ·exact Qj T _ _ _ _
  ·trivial
theorem YP{q:Q Lk}{r:aJ}(T:cJ q)(hf:¬q.R.gX):tell U S q r=q:=by
 obtain⟨R,s⟩:=q;cases R with
 |fin o=>rfl
 |bn k=>exact absurd T id
 |_=>exact absurd trivial hf
theorem OR{q:Q Lk}{r:aJ}(T:cJ q)(h:qe q)(hf:q.R.gX):qe (tell U S q r):=by
 have hm:=BF (am:=U) (S:=S) (r:=r) hf;cases G:cC q.R with
 |some x=>have h1:=(BP (S:=S) (r:=r) T G).1;have u:=h.pt x G;refine⟨λ a ha=>?_,λ hn=>(by rw[h1] at hn;cases hn),λ hn=>(by rw[h1] at hn;cases hn)⟩;rw[h1] at ha;cases ha;omega
 |none=>
  obtain⟨n1,n2⟩:=Wi (S:=S) (r:=r) T G;have u:=h.lk G;refine⟨λ a ha=>?_,λ _ t ht=>?_,λ _=>agK T (λ hn t ht=>(h.lk hn t ht).2) G⟩
  ·rcases n1 with n1|n1|⟨t,ht,n1⟩
   ·rw[n1] at ha;cases ha
   ·rw[n1] at ha;cases ha;omega
   ·rw[n1] at ha;cases ha;have:=u _ ht;omega
  ·rcases n2 t ht with n2|n2
   ·have:=u t n2;omega
   ·omega
theorem Jw:∀(ap:List aJ){q:Q Lk},cJ q->qe q->qe (bZ U S q ap)
 |[],_,_,h=>h
 |r::ap,q,T,h=>by
  refine Jw ap (q:=tell U S q r) (qT T) ?_
  by_cases hf:q.R.gX
  ·exact OR T h hf
  ·rw[YP T hf];exact h
theorem uC{a:Int}:∀(ap:List aJ){q:Q Lk},cJ q->cC q.R=some a->cC (bZ U S q ap).R=some a
 |[],_,_,h=>h
 |r::ap,q,T,h=>uC ap (q:=tell U S q r) (qT T) (BP T h).1
theorem agh(k:Lk){x:Int×Bool×Int}(h:sT k=some x):∃a,lE k=some a:=by
 cases k with
 |ga o f|gb o f _ _ _ _|ls o f _ _ _ _ _ _|lo o f _ _ _ _ _ _ _|cu o f _ _ _ _ _|rr o f _ _ _ _ _=>
  cases f with
  |fin a=>exact⟨a,rfl⟩
  |_=>cases h
 |sv a c=>exact⟨a,rfl⟩
 |cd _ _ _ _ a=>exact⟨a,rfl⟩
 |rx _ a=>exact⟨a,rfl⟩
 |ry a=>exact⟨a,rfl⟩
 |fi o=>exact⟨o.aD,rfl⟩
 |_=>cases h
theorem GN{R:Pc Lk}{x:Int×Bool×Int}(h:gm R=some x):∃a,cC R=some a:=by
 cases R with
 |fin o=>exact⟨o.aD,rfl⟩
 |at_ k|t1 k|t2 k _|t3 k _ _|t4 k _ _|t5 k _ _ _|g1 k _ _|g2 k _ _ _ _|g3 k _ _ _|bn k|c k _|v1 k _|v2 k _ _|v3 k _ _|r1 k _|r2 k _ _|rs k _ _ _|s1 k _ _ _ _|w1 k _ _ _ _|w2 k _ _ _ _ _|w3 k _ _ _ _ _=>exact agh k h
theorem GO{x:Int×Bool×Int}:∀(ap:List aJ){q:Q Lk},cJ q->gm q.R=some x->gm (bZ U S q ap).R=some x
 |[],_,_,h=>h
 |r::ap,q,T,h=>by
  obtain⟨a,ha⟩:=GN h;refine GO ap (q:=tell U S q r) (qT T) ?_;rw[(BP T ha).2 (λ o cur pt e=>by rw[e] at h;cases h)];exact h
theorem ac4{o:Or}{cur pt:Int}{ap:List aJ}{q:Q Lk}{out:bd}(h:q.R=.at_ (.gv o cur pt))(hr:(bZ U S q ap).R=.fin out):out.err=0:=by
 obtain⟨R,s⟩:=q;simp only at h;subst h;cases ap with
 |nil=>cases hr
 |cons r ap=>have h1:gm (tell U S ⟨.at_ (.gv o cur pt),s⟩ r).R=some (r.val,true,0):=(l6 (.bn (.fi ⟨r.val,true,0,pt,[]⟩)) s.up).2;have u:=GO (S:=S) ap (q:=tell U S ⟨.at_ (.gv o cur pt),s⟩ r) (qT trivial) h1;have hr:(bZ U S (tell U S ⟨.at_ (.gv o cur pt),s⟩ r) ap).R=.fin out:=hr;rw[hr] at u;exact congrArg (·.2.2) (Option.some.inj u)
theorem GX:∀(ap:List aJ){q:Q Lk}{o:bd},cJ q->cC q.R=none->(bZ U S q ap).R=.fin o->o.aD∈bm q.R\/(q.s.made:Int)<=o.aD
 |[],q,o,_,G,hr=>by
  have hr:q.R=.fin o:=hr;rw[hr] at G;cases G
 |r::ap,q,o,T,G,hr=>by
  have hr:(bZ U S (tell U S q r) ap).R=.fin o:=hr
  by_cases hf:q.R.gX
  ·have hm:=BF (am:=U) (S:=S) (r:=r) hf;obtain⟨n1,n2⟩:=Wi (S:=S) (r:=r) T G;have cW:∀a,cC (tell U S q r).R=some a->o.aD=a:=λ a ha=>by
    have:=uC (S:=S) ap (qT T) ha;rw[hr] at this;exact Option.some.inj this
   rcases n1 with n1|n1|⟨t,ht,n1⟩
   ·rcases GX ap (qT T) n1 hr with h|h
    ·rcases n2 _ h with h|h
     ·exact .inl h
     ·exact .inr (by omega)
    ·exact .inr (by omega)
   ·have:=cW _ n1;exact .inr (by omega)
   ·rw[cW _ n1];exact .inl ht
  ·rw[YP T hf] at hr;exact GX ap T G hr
def x3:Fk->Prop
 |.get|.del=>True
 |_=>False
def SS:Fk->Prop
 |.get|.put _ _=>True
 |_=>False
def zf(W:Ws)(o:Or)(f:Fk)(cur w:Int):Prop:=¬(av w).mark=true/\((W.nd cur 1=o.o/\SS f)\/(W.nd cur 1<o.o/\(av w).idx=0/\x3 f))
def Hp:Lk->Prop
 |.rr _ f _ _ _ nx _=>nx=0/\x3 f
 |_=>True
def uQ(W:Ws)(X:List Int)(tp:Int):Pc Lk->Prop
 |.g2 (.ga _ f) _ _ v _=>(av v).idx=0/\x3 f
 |.g2 (.gb o f _ _ _ cur) _ _ v _=>cur∈X/\zf W o f cur v
 |.at_ (.ls o f _ _ _ cur w _)=>cur∈X/\zf W o f cur w
 |.at_ (.lo o f _ _ _ cur w t k)=>(tp=t->zf W o f cur w)/\(tp=k->o.o<W.nd cur 1/\x3 f)
 |.r1 k _|.r2 k _ _|.rs k _ _ _|.s1 k _ _ _ _|.w1 k _ _ _ _|.w2 k _ _ _ _ _|.w3 k _ _ _ _ _=>Hp k
 |_=>True
theorem agO{l:aI}{N:Nat}{W':Ws}{X be:List Int}{aC:Int->Prop}{g:dF}{P:Int->Int->Prop}{V:Vw}{mi:List Int}{s:ag}{tp:Int}(Y:gq V.W W' X be aC mi)(hP:∀i n,P i n->n∈X\/aC n){R:Pc Lk}(Z:xI (a7 N) l S N V X g P s R)(h:uQ W' be tp R):uQ V.W X tp R:=by
 have lt:∀{o f cur w},cur∈X\/aC cur->zf W' o f cur w->zf V.W o f cur w:=λ F h=>by
  unfold zf at h⊢;rw[(Y.key _ F).1] at h;exact h
 cases R with
 |at_ k=>
  have hk:nK N V.W X P k:=Z.1;cases k with
  |ls o f a b D cur w t=>have F:=hP _ _ hk.1.R;exact⟨Y.sub _ F h.1,lt F h.2⟩
  |lo o f a b D cur w t k=>have F:=hP _ _ hk.1.R;exact⟨λ e=>lt F (h.1 e),λ e=>by have:=h.2 e;rw[(Y.key _ F).1] at this;exact this⟩
  |_=>trivial
 |g2 k i c v b=>
  have hk:nK N V.W X (mB P i) k:=Z.1;cases k with
  |ga o f=>exact h
  |gb o f a aP D cur=>have F:=hP _ _ hk.R.2;exact⟨Y.sub _ F h.1,lt F h.2⟩
  |_=>trivial
 |r1 k n=>exact h
 |r2 k n er=>exact h
 |rs k held c cs=>exact h
 |s1 k held y gs stay=>exact h
 |w1 k held y gs stay=>exact h
 |w2 k held y gs stay f=>exact h
 |w3 k held y gs stay f=>exact h
 |_=>trivial
section
variable{ap:List aJ}{out:bd}{s:ag}{o:Or}{f:Fk}
theorem Dv{q:Q Lk}(T:cJ q)(G:cC q.R=none)(Z:bm q.R=[])(hr:(bZ U S q ap).R=.fin out)(aY:out.aD<q.s.made):False:=by
 rcases GX ap T G hr with h|h
 ·rw[Z] at h;simp at h
 ·omega
theorem x5{o:bd}(hr:(bZ U S (aG U (.bn (.fi o)) s) ap).R=.fin out):out.aD=o.aD/\out.err=o.err:=by have T:cJ (aG U (.bn (.fi o)) s):=zz s (.inl ⟨o,rfl⟩);have h1:=uC (S:=S) ap T (l6 (.bn (.fi o)) s).1;have u:=GO (S:=S) ap T (l6 (.bn (.fi o)) s).2;rw[hr] at h1 u;exact⟨Option.some.inj h1,congrArg (·.2.2) (Option.some.inj u)⟩
theorem SH{D cur pt:Int}(hf:k6 f=none)(hr:(bZ U S (aG U (d9 o f D cur pt) s) ap).R=.fin out)(aY:out.aD<s.made):x3 f/\out.aD=pt/\out.err=0:=by
 have T:=Mp o f D cur pt s;have hm:(aG U (d9 o f D cur pt) s).s.made=s.made:=by rw[rX]
 unfold d9 at hr T hm;cases f with
 |get=>exact⟨trivial,x5 hr⟩
 |del=>exact⟨trivial,x5 hr⟩
 |fin a=>cases hf
 |put v n=>
  exfalso;simp only at hr T hm;refine Dv T ?_ ?_ hr (by rw[hm];exact aY)
  ·split<;>rfl
  ·split<;>rfl
theorem acp{D cur w pt:Int}(hf:k6 f=none)(hr:(bZ U S (aG U (eU o f D cur w pt) s) ap).R=.fin out)(aY:out.aD<s.made):SS f/\out.aD=pt/\out.err=0:=by
 have T:=Mq o f D cur w pt s;have hm:(aG U (eU o f D cur w pt) s).s.made=s.made:=by rw[rX]
 unfold eU at hr T hm;cases f with
 |get=>have h1:=uC (S:=S) (a:=pt) ap T rfl;rw[hr] at h1;exact⟨trivial,Option.some.inj h1,ac4 (q:=⟨.at_ (.gv o cur pt),s⟩) rfl hr⟩
 |del=>exact absurd (Dv T rfl rfl hr (by rw[hm];exact aY)) id
 |fin a=>cases hf
 |put v n=>
  simp only at hr T hm
  by_cases hn:n=0
  ·rw[if_pos hn] at hr;exact⟨trivial,x5 hr⟩
  ·rw[if_neg hn] at hr T;have h1:=uC (S:=S) (a:=pt) ap T rfl;have u:=GO (S:=S) (x:=(0,false,0)) ap T rfl;rw[hr] at h1 u;exact⟨trivial,Option.some.inj h1,congrArg (·.2.2) (Option.some.inj u)⟩
theorem MK{a b D cur pt:Int}(hf:k6 f=none)(hr:(bZ U S (aG U (dG o f a b D cur pt) s) ap).R=.fin out)(aY:out.aD<s.made):cur=0/\x3 f/\out.aD=pt/\out.err=0:=by
 by_cases h:cur=0
 ·unfold dG at hr;rw[if_pos h] at hr;exact⟨h,SH hf hr aY⟩
 ·exfalso;have T:=Ik o f a b D cur pt s;unfold dG at hr T;rw[if_neg h] at hr T;exact Dv T hf rfl hr aY
theorem XF{k:Lk}(hk:e9 k)(G:lE k=none)(hr:(bZ U S (aG U (U.retired k) s) ap).R=.fin out)(aY:out.aD<s.made):Hp k/\out.err=0:=by
 rcases hk with⟨o,f,a,b,D,nx,pt,rfl⟩|⟨a,rfl⟩
 ·obtain⟨h1,u,_,h4⟩:=MK G hr aY;exact⟨⟨h1,u⟩,h4⟩
 ·cases G
end
end
section
variable{l:aI}{S N aB:Nat}{V:Vw}{qs:List (Q Lk)}{aw X:List Int}{g:dF}{w:Nat}{q:Q Lk}{ap:List aJ}{out:bd}
theorem Qh{W:Ws}{k:Lk}{held:List Int}{s:ag}{gs stay:List (Int×Int)}(hk:e9 k)(G:lE k=none)(hr:(bZ U S (du U k held s gs stay) ap).R=.fin out)(aY:out.aD<s.made)(cW:∀o f a b D nx pt,k=.rr o f a b D nx pt->out.aD=pt)
 (ih:cC (du U k held s gs stay).R=none->out.aD∈bm (du U k held s gs stay).R->out.err=0/\uQ W X out.aD (du U k held s gs stay).R):out.err=0/\Hp k:=by
 cases gs with
 |nil=>exact(XF hk G hr aY).symm
 |cons y gs=>
  refine ih G ?_;rcases hk with⟨o,f,a,b,D,nx,pt,rfl⟩|⟨a,rfl⟩
  ·rw[cW o f a b D nx pt rfl];simp[du,bm]
  ·cases G
theorem X3{W:Ws}{k:Lk}{held:List Int}{s:ag}{cs:List Ad}(hk:e9 k)(G:lE k=none)(hr:(bZ U S (gG U k held s cs) ap).R=.fin out)(aY:out.aD<s.made)(cW:∀o f a b D nx pt,k=.rr o f a b D nx pt->out.aD=pt)
 (ih:cC (gG U k held s cs).R=none->out.aD∈bm (gG U k held s cs).R->out.err=0/\uQ W X out.aD (gG U k held s cs).R):out.err=0/\Hp k:=by
 cases cs with
 |nil=>exact Qh hk G hr aY cW ih
 |cons c cs=>
  refine ih G ?_;rcases hk with⟨o,f,a,b,D,nx,pt,rfl⟩|⟨a,rfl⟩
  ·rw[cW o f a b D nx pt rfl];simp[gG,bm]
  ·cases G
theorem Gp{k:Lk}(hk:e9 k)(G:lE k=none){n:Int}(h:out.aD∈bm (.r1 k n)):(∀o f a b D nx pt,k=.rr o f a b D nx pt->out.aD=pt)/\∀R,bm R=bm (.r1 k n)->out.aD∈bm R:=by
 refine⟨λ o f a b D nx pt e=>?_,λ R e=>by rw[e];exact h⟩;subst e
 simpa[bm] using h
theorem VV(hN:N<=100)(hI:Inv (a7 N) l S N aB V qs aw X g)(hq:qs[w]?=some q)(hf:q.R.gX)(aF:cJ q)(hw:qe q)(G:cC q.R=none)(hr:(bZ U S (tell U S q (act V (aS U w q.R)).2) ap).R=.fin out)(Z:out.aD∈bm q.R)
 (ih:cC (tell U S q (act V (aS U w q.R)).2).R=none->out.aD∈bm (tell U S q (act V (aS U w q.R)).2).R->out.err=0/\uQ (act V (aS U w q.R)).1.W (hc (a7 N) V.W X g q.R).1 out.aD (tell U S q (act V (aS U w q.R)).2).R):out.err=0/\uQ V.W X out.aD q.R:=by
 have FH:=hI.loc w _ hq;have aY:out.aD<(tell U S q (act V (aS U w q.R)).2).s.made:=by have:=(hw.lk G _ Z).2;rw[BF hf];omega
 have jX:=qT (S:=S) (r:=(act V (aS U w q.R)).2) aF;have bV:∀(f v:Int),(act V (.cs .free f v)).1.W=V.W:=λ f v=>by simp only[act];split<;>rfl
 have pM:=hw.lo G;have fT:=hw.lk G;obtain⟨R,s⟩:=q;have ct:=FH.R;cases R with
 |fin o=>exact absurd hf id
 |bn k=>exact absurd hf id
 |at_ k=>
  have ho:=vO hN hI hq;have ha:act V (aS U w (.at_ k))=({V with W:=(br V.W (bh k)).1},(br V.W (bh k)).2):=ho.act;have hk:=ho.kl;rw[ha] at hr aY jX ih;cases k with
  |ls o f a b D cur aA t=>
   obtain⟨h1,u,J,h4⟩:=hk;have e:tell U S ⟨.at_ (.ls o f a b D cur aA t),s⟩ (br V.W (bh (.ls o f a b D cur aA t))).2=aG U (if V.W.nd D 0=bt cur then .at_ (.lo o f a b D cur aA t s.made) else dl o f) s.up:=rfl;rw[e] at hr aY jX ih
   by_cases F:V.W.nd D 0=bt cur
   ·rw[if_pos F] at hr aY jX ih;have ht:out.aD=t:=by simpa[bm] using Z
    obtain⟨i1,i2⟩:=ih G (by rw[ht];simp[aG,bm]);refine⟨i1,?_,i2.1 ht⟩;rw[uA (show 0<=cur by have:=h1.c1;omega) (by have:=h1.cN;omega)] at F;obtain⟨A,B,T⟩:=DW hI.si ho.nd (h1.pp.at_ ho.hP) F (by have:=h1.cN;omega) (by have:=h1.c1;omega);exact(T.oz (by have:=h1.c1;omega)).choose_spec.2
   ·rw[if_neg F] at hr aY jX;exact absurd (Dv jX G rfl hr aY) id
  |lo o f a b D cur aA t k=>
   have e:tell U S ⟨.at_ (.lo o f a b D cur aA t k),s⟩ (br V.W (bh (.lo o f a b D cur aA t k))).2=aG U (if(av aA).mark then .at_ (.cu o f a b D cur aA) else if V.W.nd cur 1<o.o then dG o f b (3-a-b) cur (av aA).idx t else if V.W.nd cur 1=o.o then eU o f D cur aA t else d9 o f D cur k) s.up:=rfl;rw[e] at hr aY jX;have mW:t<k:=pM;have FI:out.aD<(s.up.made:Int):=by rw[rX] at aY;exact aY
   by_cases hm:(av aA).mark=true
   ·rw[if_pos hm] at hr aY jX;exact absurd (Dv jX G rfl hr aY) id
   ·rw[if_neg hm] at hr
    by_cases eN:V.W.nd cur 1<o.o
    ·rw[if_pos eN] at hr;obtain⟨e1,e2,e3,e4⟩:=MK G hr FI;exact⟨e4,λ _=>⟨hm,.inr ⟨eN,e1,e2⟩⟩,λ e=>by omega⟩
    ·rw[if_neg eN] at hr
     by_cases fR:V.W.nd cur 1=o.o
     ·rw[if_pos fR] at hr;obtain⟨e1,e2,e3⟩:=acp G hr FI;exact⟨e3,λ _=>⟨hm,.inl ⟨fR,e1⟩⟩,λ e=>by omega⟩
     ·rw[if_neg fR] at hr;obtain⟨e1,e2,e3⟩:=SH G hr FI;exact⟨e3,λ e=>by omega,λ _=>⟨by omega,e1⟩⟩
  |_=>simp[bm] at Z
 |g2 k i c v b=>
  have hb:out.aD=b:=by simpa[bm] using Z
  have e:tell U S ⟨.g2 k i c v b,s⟩ (act V (aS U w (.g2 k i c v b))).2=if V.er=s.e i then aG U (U.guarded k v b) s.up else⟨.g3 k i c V.er,s.up⟩:=rfl
  rw[e] at hr aY jX ih
  by_cases he:V.er=s.e i
  ·rw[if_pos he] at hr aY jX ih;rcases aF with⟨o,f,rfl⟩|⟨o,f,a,D,cur,rfl,rfl⟩
   ·have FI:out.aD<(s.up.made:Int):=by rw[rX] at aY;exact aY
    obtain⟨e1,e2,e3,e4⟩:=MK (o:=o) (f:=f) (a:=0) (b:=1) (D:=o.d) (cur:=(av v).idx) (pt:=b) G hr FI;exact⟨e4,e1,e2⟩
   ·exact ih G (by rw[hb];exact List.mem_singleton.2 rfl)
  ·rw[if_neg he] at hr aY jX;exact absurd (Dv jX G rfl hr aY) id
 |r1 k n=>
  have hh:=(Gp aF G Z).2;refine ih G (hh _ ?_);rcases aF with⟨o,f,a,b,D,nx,pt,rfl⟩|⟨a,rfl⟩
  ·rfl
  ·cases G
 |r2 k n er=>
  have fS:out.aD∈bm (.r1 k 0):=by
   rcases aF with⟨o,f,a,b,D,nx,pt,rfl⟩|⟨a,rfl⟩
   ·exact Z
   ·cases G
  have hh:=(Gp aF G fS).1;have e:tell U S ⟨.r2 k n er,s⟩ (act V (aS U w (.r2 k n er))).2=if(s.gone.length:Int)+1<2*(S:Int) then aG U (U.retired k) {s.up with gone:=s.gone++[(n,er)]} else gG U k [] {s.up with gone:=s.gone++[(n,er)]} (nP 0 S):=rfl
  rw[e] at hr aY ih
  by_cases F:(s.gone.length:Int)+1<2*(S:Int)
  ·rw[if_pos F] at hr aY;rw[rX] at aY;exact(XF aF G hr aY).symm
  ·rw[if_neg F] at hr aY ih;rw[Kr] at aY;exact X3 aF G hr aY hh ih
 |rs k held c cs=>
  have fS:out.aD∈bm (.r1 k 0):=by
   rcases aF with⟨o,f,a,b,D,nx,pt,rfl⟩|⟨a,rfl⟩
   ·exact Z
   ·cases G
  have aY:out.aD<(gG U k (held++[V.get c]) s.up cs).s.made:=aY;rw[Kr] at aY;exact X3 (s:=s.up) aF G hr aY (Gp aF G fS).1 ih
 |s1 k held y gs stay=>
  have fS:out.aD∈bm (.r1 k 0):=by
   rcases aF with⟨o,f,a,b,D,nx,pt,rfl⟩|⟨a,rfl⟩
   ·exact Z
   ·cases G
  have e:tell U S ⟨.s1 k held y gs stay,s⟩ (act V (aS U w (.s1 k held y gs stay))).2=if held.any (ja (kM (V.bi y.1)) y.2)=true then du U k held s.up gs (stay++[y]) else⟨.w1 k held y gs stay,s.up⟩:=rfl
  rw[e] at hr aY ih
  by_cases F:held.any (ja (kM (V.bi y.1)) y.2)=true
  ·rw[if_pos F] at hr aY ih;rw[Hb] at aY;exact Qh aF G hr aY (Gp aF G fS).1 ih
  ·rw[if_neg F] at ih;refine ih G ?_;rcases aF with⟨o,f,a,b,D,nx,pt,rfl⟩|⟨a,rfl⟩
   ·exact Z
   ·cases G
 |w1 k held y gs stay=>
  refine ih G ?_;rcases aF with⟨o,f,a,b,D,nx,pt,rfl⟩|⟨a,rfl⟩
  ·exact Z
  ·cases G
 |w2 k held y gs stay f=>
  refine ih G ?_;rcases aF with⟨o,f,a,b,D,nx,pt,rfl⟩|⟨a,rfl⟩
  ·exact Z
  ·cases G
 |w3 k held y gs stay f=>
  have fS:out.aD∈bm (.r1 k 0):=by
   rcases aF with⟨o,f,a,b,D,nx,pt,rfl⟩|⟨a,rfl⟩
   ·exact Z
   ·cases G
  have e:tell U S ⟨.w3 k held y gs stay f,s⟩ (act V (aS U w (.w3 k held y gs stay f))).2=if(act V (aS U w (.w3 k held y gs stay f))).2.ok then du U k held s.up gs stay else⟨.w1 k held y gs stay,s.up⟩:=rfl
  rw[e] at hr aY ih
  by_cases F:(act V (aS U w (.w3 k held y gs stay f))).2.ok=true
  ·rw[if_pos F] at hr aY ih;rw[Hb] at aY;exact Qh aF G hr aY (Gp aF G fS).1 ih
  ·rw[if_neg F] at ih;refine ih G ?_;rcases aF with⟨o,ml,a,b,D,nx,pt,rfl⟩|⟨a,rfl⟩
   ·exact Z
   ·cases G
 |_=>simp[bm] at Z
end
theorem JH{w:Int}(h0:0<=w)(h1:w<65536):(av w).mark=false:=by show decide (w/65536%2=1)=false;rw[decide_eq_false_iff_not];omega
section
variable{l:aI}{S N aB:Nat}{W W':Ws}{X A B:List Int}{aC:Int->Prop}{g:dF}{P:Int->Int->Prop}{D c:Int}
theorem below{o:Or}(h:eX N aB W X aC g)(T:uR W X D c A B)(hk:Kp W o D):∀m∈A,W.nd m 1<o.o:=by
 intro m hm;obtain⟨dC,rfl⟩:=T.hA;have hk:W.nd D 1<o.o:=hk;have hr:=h.p9;rw[T.eq,List.append_assoc,List.pairwise_append] at hr;rcases List.mem_append.1 hm with hm|hm
 ·have:=hr.2.2 m hm D (by simp);omega
 ·have:m=D:=by simpa using hm
  rw[this];exact hk
theorem Lo{o:Int}(h:eX N aB W X aC g)(T:uR W X D c A B)(hk:c=0\/o<W.nd c 1):∀m∈B,o<W.nd m 1:=by
 intro m hm;have hh:=T.hB;cases B with
 |nil=>simp at hm
 |cons b B=>
  have hb:b=c:=hh;have hr:=h.e8 b (by rw[T.eq];simp);have hk:o<W.nd b 1:=by rw[hb];exact hk.resolve_left (by omega)
  rcases List.mem_cons.1 hm with rfl|hm
  ·exact hk
  ·have hr:=h.p9;rw[T.eq,List.pairwise_append] at hr;have:=(List.pairwise_cons.1 hr.2.1).1 m hm;omega
theorem Cf{v:Int}(bK:List Int)(h0:0<=W.nd D 0)(h1:W.nd D 0<65536)(u:0<=v)(J:v<65536):Alike W (W.put (bM D) v) bK:=by
 refine⟨λ n _=>⟨by rw[l7,if_neg (by omega)],by rw[l7,if_neg (by omega)]⟩,λ n _=>?_⟩;rw[l7];split
 ·rename_i h;rw[JH u J];rw[<-h.1] at h0 h1;rw[h.2,JH h0 h1]
 ·rfl
theorem tw{n i v:Int}{bK:List Int}(hn:n∉bK):Alike W (W.fF n i v) bK:=by
 have aW:∀x∈bK,∀j,(W.fF n i v).nd x j=W.nd x j:=λ x hx j=>by rw[mY,if_neg (λ hh:x=n/\_=>hn (hh.1▸hx))]
 exact⟨λ x hx=>⟨aW x hx 1,aW x hx 2⟩,λ x hx=>by rw[aW x hx 0]⟩
theorem Z3(W:Ws)(X:List Int):Alike W W X:=⟨λ _ _=>⟨rfl,rfl⟩,λ _ _=>rfl⟩
def Dd:Lk->Prop
 |.cp _ _ _ _ _|.cm _ _ _ _=>True
 |_=>False
def agc:Pc Lk->Prop
 |.at_ k=>Dd k
 |_=>False
theorem agV(hN:N<=100){V:Vw}{k:Lk}(s ah:ag)(bq:eX N aB V.W X aC g)(ho:Hv l S N V X g aC P k)(aF:cJ ⟨.at_ k,s⟩){r:Or}{op:a9}(un:r.o=op.a)(bv:xf r op k):
 (dm (br V.W (bh k)).1 (cM V.W X g k).1=dm V.W X/\(Dd k->gm (aG U (cZ k s.made (br V.W (bh k)).2) ah).R=none))\/(cC (.at_ k)=none/\cC (aG U (cZ k s.made (br V.W (bh k)).2) ah).R=some (s.made:Int)/\gm (aG U (cZ k s.made (br V.W (bh k)).2) ah).R=some (0,true,0)/\mC (dm V.W X) op=(dm (br V.W (bh k)).1 (cM V.W X g k).1,0,true)):=by
 have jj:∀{i n},PD N V.W X P i n->n∈X\/aC n:=λ h=>h.at_ ho.hP
 have pl:∀{n:Int},0<=n->n<=N->bt n=n:=λ h0 h1=>uA h0 (by omega)
 have hk:=ho.kl;cases k with
 |ls=>exact .inl ⟨rfl,λ h=>absurd h id⟩
 |lo=>exact .inl ⟨rfl,λ h=>absurd h id⟩
 |gv=>exact .inl ⟨rfl,λ h=>absurd h id⟩
 |cu o f a b D cur w=>
  obtain⟨h1,u,J,h4,h5⟩:=hk;have hw:=u.mark.1 h4;have hi:=jb w;have fD:=u.2;have c7:=h1.c1;have qz:=h1.cN;have e0:bt cur=cur:=pl (by omega) qz;have jT:bt (av w).idx=(av w).idx:=pl hi.1 fD;refine .inl ⟨?_,λ h=>absurd h id⟩
  by_cases F:V.W.nd D 0=cur
  ·have e1:br V.W (bh (.cu o f a b D cur w))=(V.W.put (bM D) (av w).idx,⟨cur,true⟩):=by simp only[bh,br,Ws.get,e0,jT,F,if_true]
   have e2:cM V.W X g (.cu o f a b D cur w)=(X.erase cur,{g with ret:=g.ret+1}):=by simp only[cM,Ws.get,e0,F,if_true]
   rw[e1,e2];obtain⟨_,_,_,_,A,B,T,f5,_⟩:=vW bq hN ho.nd ho.dx (jj h1.pp) c7 qz F (by rw[h5];exact hw) hi.1 fD (lK:=aC) (λ n hn=>.inl hn);have hX:=T.eq;show dm (V.W.put (bM D) (av w).idx) (X.erase cur)=dm V.W X;rw[f5,hX];exact L0 (Cf _ (by omega) (by omega) (by omega) (by omega)) (by rw[h5];exact h4)
  ·have e1:br V.W (bh (.cu o f a b D cur w))=(V.W,⟨V.W.nd D 0,false⟩):=by simp only[bh,br,Ws.get,e0,F,if_false]
   have e2:cM V.W X g (.cu o f a b D cur w)=(X,g):=by simp only[cM,Ws.get,e0,F,if_false]
   rw[e1,e2]
 |p1 o v n D cur=>exact .inl ⟨(tw (ho.mi n (by simp[ed])).1).LZ,λ h=>absurd h id⟩
 |p2 o v n D cur=>exact .inl ⟨(tw (ho.mi n (by simp[ed])).1).LZ,λ h=>absurd h id⟩
 |p0 o v n D cur=>exact .inl ⟨(tw (ho.mi n (by simp[ed])).1).LZ,λ h=>absurd h id⟩
 |cp o v n D cur=>
  obtain⟨h1,u,J,h4,h5⟩:=hk;obtain⟨rfl,fR,rfl⟩:=bv;have dP:=ho.mi n (by simp[ed]);have c6:=ho.hb n (.inr (.inl (by simp[ed])));obtain⟨i,hi⟩:=h1.R;obtain⟨j,hj⟩:=h1.pp;have fw:0<=cur/\cur<=N:=by
   rcases hi with rfl|hi
   ·omega
   ·omega
  have e0:bt cur=cur:=pl fw.1 fw.2;have jT:bt n=n:=pl (by omega) c6.2
  by_cases F:V.W.nd D 0=cur
  ·right;obtain⟨A,B,T,_,_⟩:=Jj bq (Nat.succ_le_succ bq.k) hN ho.nd (jj hj) fw.1 fw.2 F c6.1 c6.2 dP.1 dP.2 J h5 h1.kp h1.kc;have e1:br V.W (bh (.cp o op.b n D cur))=(V.W.put (bM D) n,⟨cur,true⟩):=by simp only[bh,br,Ws.get,e0,jT,F,if_true]
   have e2:cM V.W X g (.cp o op.b n D cur)=(A++n::B,{g with put:=g.put+1}):=by simp only[cM,Ws.get,e0,F,if_true];rw[JQ T ho.nd]
   have hA:=below bq T h1.kp;have hB:=Lo bq T h1.kc;have Be:D≠n:=λ e=>by
    subst e;rcases jj hj with G|G
    ·exact dP.1 G
    ·exact dP.2 G
   have gL:∀i,(V.W.put (bM D) n).nd n i=V.W.nd n i:=λ i=>by rw[l7,if_neg (λ hh=>Be hh.1.symm)]
   rw[e1,e2];refine⟨rfl,(l6 (.bn (.fi (nL s.made n))) ah).1,(l6 (.bn (.fi (nL s.made n))) ah).2,?_⟩;show mC (dm V.W X) op=(dm (V.W.put (bM D) n) (A++n::B),0,true);rw[T.eq];exact aj4 un.symm fR hA hB (Cf _ (by omega) (by omega) (by omega) (by omega)) (by rw[gL];exact J) (by rw[gL];exact h4) (by rw[gL,h5,JH (by omega) (by omega)];simp)
  ·left;have e1:br V.W (bh (.cp o op.b n D cur))=(V.W,⟨V.W.nd D 0,false⟩):=by simp only[bh,br,Ws.get,e0,F,if_false]
   have e2:cM V.W X g (.cp o op.b n D cur)=(X,g):=by simp only[cM,Ws.get,e0,F,if_false]
   rw[e1,e2];exact⟨rfl,λ _=>rfl⟩
 |cm o D cur w=>
  obtain⟨h1,u,J,uh⟩:=hk;obtain⟨rfl,lW⟩:=bv;obtain⟨i,hi⟩:=h1.R;have hx:=jb w;have fD:=u.2;have e0:pk (av w).idx=(av w).idx+65536:=JG hx.1 (by omega)
  by_cases F:V.W.nd cur 0=w
  ·right;obtain⟨oa,_,_⟩:=JI bq hN (ho.hP _ _ hi) u J F (by rw[h1.kc];exact uh);have e1:br V.W (bh (.cm o D cur w))=(V.W.fF cur 0 ((av w).idx+65536),⟨w,true⟩):=by simp only[bh,br,Ws.get,e0,F,if_true];rfl
   obtain⟨A,B,hX,hA,hB⟩:=DU oa ho.nd;rw[e1];refine⟨rfl,rfl,rfl,?_⟩;show mC (dm V.W X) op=(dm (V.W.fF cur 0 ((av w).idx+65536)) X,0,true);rw[hX];have hr:=bq.p9;rw[hX,List.pairwise_append] at hr;refine aj2 un.symm lW (λ m hm=>?_) (tw ?_) h1.kc (by rw[F];exact J) ?_
   ·rw[<-h1.kc];exact hr.2.2 m hm cur (by simp)
   ·rw[List.mem_append];exact λ h=>h.elim hA hB
   ·rw[mY,if_pos ⟨rfl,rfl⟩];exact(Hj (N:=N) hx.1 fD hN).mark.2 (by rw[F8 hx.1 (by omega)])
  ·left;have e1:br V.W (bh (.cm o D cur w))=(V.W,⟨V.W.nd cur 0,false⟩):=by simp only[bh,br,Ws.get,F,if_false]
   rw[e1];exact⟨rfl,λ _=>rfl⟩
 |cd o D cur nx at_=>
  obtain⟨h1,u,J,h4⟩:=hk;obtain⟨j,hj⟩:=h1.pp;have c7:=h1.c1;have qz:=h1.cN;have e0:bt cur=cur:=pl (by omega) qz;have jT:bt nx=nx:=pl J h4;refine .inl ⟨?_,λ h=>absurd h id⟩
  by_cases F:V.W.nd D 0=cur
  ·have e1:br V.W (bh (.cd o D cur nx at_))=(V.W.put (bM D) nx,⟨cur,true⟩):=by simp only[bh,br,Ws.get,e0,jT,F,if_true]
   have e2:cM V.W X g (.cd o D cur nx at_)=(X.erase cur,{g with ret:=g.ret+1}):=by simp only[cM,Ws.get,e0,F,if_true]
   rw[e1,e2];obtain⟨_,_,_,_,A,B,T,f5,_⟩:=vW bq hN ho.nd ho.dx (jj hj) c7 qz F u J h4 (lK:=aC) (λ n hn=>.inl hn);have hX:=T.eq;show dm (V.W.put (bM D) nx) (X.erase cur)=dm V.W X;rw[f5,hX];exact L0 (Cf _ (by omega) (by omega) (by omega) (by omega)) (by rw[u];exact(Hj (N:=N) J h4 hN).mark.2 (by rw[F8 J (by omega)]))
  ·have e1:br V.W (bh (.cd o D cur nx at_))=(V.W,⟨V.W.nd D 0,false⟩):=by simp only[bh,br,Ws.get,e0,F,if_false]
   have e2:cM V.W X g (.cd o D cur nx at_)=(X,g):=by simp only[cM,Ws.get,e0,F,if_false]
   rw[e1,e2]
 |_=>exact absurd aF id
variable{V:Vw}{qs:List (Q Lk)}{aw:List Int}{w:Nat}{q:Q Lk}
theorem Lq(hN:N<=100)(hI:Inv (a7 N) l S N aB V qs aw X g)(hq:qs[w]?=some q)(aF:cJ q){r:Or}{op:a9}(un:r.o=op.a)(bv:ie r op q.R):
 (dm (act V (aS U w q.R)).1.W (hc (a7 N) V.W X g q.R).1=dm V.W X/\(agc q.R->gm (tell U S q (act V (aS U w q.R)).2).R=none))\/(cC q.R=none/\cC (tell U S q (act V (aS U w q.R)).2).R=some (q.s.made:Int)/\gm (tell U S q (act V (aS U w q.R)).2).R=some (0,true,0)/\mC (dm V.W X) op=(dm (act V (aS U w q.R)).1.W (hc (a7 N) V.W X g q.R).1,0,true)):=by
 have bq:eX N aB V.W X (Dq (a7 N) qs) g:=hI.si;have bV:∀(f v:Int),(act V (.cs .free f v)).1.W=V.W:=λ f v=>by simp only[act];split<;>rfl
 obtain⟨R,s⟩:=q;cases R with
 |at_ k=>have ho:=vO hN hI hq;have ha:act V (aS U w (.at_ k))=({V with W:=(br V.W (bh k)).1},(br V.W (bh k)).2):=ho.act;rw[ha];exact agV hN s s.up bq ho aF un bv
 |t3 k f lk=>exact .inl ⟨by show dm (act V (.cs .free f _)).1.W X=_;rw[bV],λ h=>absurd h id⟩
 |v3 k n f=>exact .inl ⟨by show dm (act V (.cs .free f _)).1.W X=_;rw[bV],λ h=>absurd h id⟩
 |w3 k held y gs stay f=>exact .inl ⟨by show dm (act V (.cs .free f _)).1.W X=_;rw[bV],λ h=>absurd h id⟩
 |_=>exact .inl ⟨rfl,λ h=>absurd h id⟩
end
def mL:Pc Lk->Prop
 |.at_ (.gv _ _ _)=>False
 |_=>True
section
variable{S:Nat}
theorem LV(k:Lk)(s:ag)(hk:(∃o,k=.fi o)\/∃n a,k=.rx n a):mL (dJ U k s).R:=by
 rcases wc (am:=U) k s with⟨i,i0,i2,h,e⟩|⟨_,e⟩
 ·rw[e];trivial
 ·rw[e];rcases hk with⟨o,rfl⟩|⟨n,a,rfl⟩<;>trivial
theorem Ar(o:bd)(s:ag):mL (aG U (.bn (.fi o)) s).R:=LV _ s (.inl ⟨o,rfl⟩)
theorem SJ(o:Or)(f:Fk)(D cur pt:Int)(s:ag):mL (aG U (d9 o f D cur pt) s).R:=by
 unfold d9;cases f with
 |put v n=>simp only;split<;>trivial
 |_=>exact Ar _ _
theorem ML(o:Or)(f:Fk)(a b D cur pt:Int)(s:ag):mL (aG U (dG o f a b D cur pt) s).R:=by
 unfold dG;split
 ·exact SJ _ _ _ _ _ _
 ·trivial
theorem XH{k:Lk}(hk:e9 k)(s:ag):mL (aG U (U.retired k) s).R:=by
 rcases hk with⟨o,f,a,b,D,nx,pt,rfl⟩|⟨a,rfl⟩
 ·exact ML _ _ _ _ _ _ _ _
 ·trivial
theorem Qi{k:Lk}(hk:e9 k)(held:List Int)(s:ag)(gs stay:List (Int×Int)):mL (du U k held s gs stay).R:=by
 cases gs with
 |nil=>exact XH hk _
 |cons g gs=>trivial
theorem X4{k:Lk}(hk:e9 k)(held:List Int)(s:ag)(cs:List Ad):mL (gG U k held s cs).R:=by
 cases cs with
 |nil=>exact Qi hk _ _ _ _
 |cons c cs=>trivial
theorem ac5{q:Q Lk}{r:aJ}(T:cJ q)(hn:∀o f a b D cur w t k,q.R=.at_ (.lo o f a b D cur w t k)->∃x,f=.fin x):mL (tell U S q r).R:=by
 obtain⟨R,s⟩:=q;cases R with
 |fin o=>trivial
 |bn k=>exact absurd T id
 |at_ k=>
  show mL (aG U (cZ k s.made r) s.up).R;cases k with
  |ls o f a b D cur w t=>simp only[cZ];split<;>trivial
  |lo o f a b D cur w t k=>
   obtain⟨x,rfl⟩:=hn _ _ _ _ _ _ _ _ _ rfl;simp only[cZ];split
   ·trivial
   ·split
    ·exact ML _ _ _ _ _ _ _ _
    ·split
     ·exact Ar _ _
     ·exact SJ _ _ _ _ _ _
  |cu o f a b D cur w=>simp only[cZ];split<;>trivial
  |gv o cur pt=>exact Ar _ _
  |p1|p2|p0=>trivial
  |cp o v n D cur=>
   simp only[cZ];split
   ·exact Ar _ _
   ·trivial
  |cm o D cur w=>simp only[cZ];split<;>trivial
  |cd o D cur nx a=>
   simp only[cZ];split
   ·exact LV _ _ (.inr ⟨_,_,rfl⟩)
   ·trivial
  |_=>exact absurd T id
 |t1 k=>
  obtain⟨o,v,D,cur,rfl⟩:=T;show mL (if(av r.val).idx=0 then aG U _ s.up else _:Q Lk).R;split
  ·exact Ar _ _
  ·trivial
 |t2 k f=>trivial
 |t3 k f lk=>show mL (if r.ok then _ else _:Q Lk).R;split<;>trivial
 |t4 k n b=>trivial
 |t5 k n b c=>
  obtain⟨o,v,D,cur,rfl⟩:=T
  trivial
 |g1 k i c=>trivial
 |g2 k i c v b=>
  show mL (if r.val=s.e i then aG U _ s.up else _:Q Lk).R;split
  ·rcases T with⟨o,f,rfl⟩|⟨o,f,a,D,cur,rfl,rfl⟩
   ·exact ML _ _ _ _ _ _ _ _
   ·trivial
  ·trivial
 |g3 k i c er=>trivial
 |c k i=>exact LV _ _ T.2.2.2
 |v1 k n=>trivial
 |v2 k n f=>trivial
 |v3 k n f=>
  obtain⟨a,aT,rfl⟩:=T;show mL (if r.ok then aG U _ s.up else _:Q Lk).R;split
  ·exact Ar _ _
  ·trivial
 |r1 k n=>trivial
 |r2 k n er=>
  show mL (if(s.gone.length:Int)+1<2*(S:Int) then aG U _ _ else _:Q Lk).R;split
  ·exact XH T _
  ·exact X4 T _ _ _
 |rs k held c cs=>exact X4 T _ _ _
 |s1 k held y gs stay=>
  show mL (if held.any (ja (kM r.val) y.2)=true then du U _ _ _ _ _ else _:Q Lk).R;split
  ·exact Qi T _ _ _ _
  ·trivial
 |w1 k held y gs stay=>trivial
 |w2 k held y gs stay f=>trivial
 |w3 k held y gs stay f=>
  show mL (if r.ok then du U _ _ _ _ _ else _:Q Lk).R;split
  ·exact Qi T _ _ _ _
  ·trivial
end
def xK(v:Int)(b:Bool)(W:Ws)(o:Or)(f:Fk)(cur:Int):Prop:=(W.nd cur 1=o.o->f=.get->v=W.nd cur 2/\b=true)/\((W.nd cur 1=o.o->f≠.get)->v=0/\b=false)
def Q4(v:Int)(b:Bool)(W:Ws)(tp:Int):Pc Lk->Prop
 |.g2 (.gb o f _ _ _ cur) _ _ _ _=>xK v b W o f cur
 |.at_ (.ls o f _ _ _ cur _ _)=>xK v b W o f cur
 |.at_ (.lo o f _ _ _ cur _ t k)=>(tp=t->xK v b W o f cur)/\(tp=k->v=0/\b=false)
 |_=>v=0/\b=false
structure iA(v:Int)(b:Bool)(W:Ws)(tp:Int)(R:Pc Lk):Prop where
 out:∀gU aP e,gm R=some (gU,aP,e)->(e=0->gU=v/\aP=b)/\(e≠0->e=8/\aP=false)
 gv:∀o cur pt,R=.at_ (.gv o cur pt)->v=W.nd cur 2/\b=true
 look:cC R=none->tp∈bm R->Q4 v b W tp R
section
variable{S:Nat}{v:Int}{b:Bool}{W:Ws}{tp:Int}
theorem iA.m7{R:Pc Lk}(G:cC R=none)(Z:bm R=[])(hg:mL R):iA v b W tp R:=⟨λ gU aP e h=>(by obtain⟨a,ha⟩:=GN h;rw[G] at ha;cases ha),λ o cur pt h=>(by rw[h] at hg;exact absurd hg id),λ _ h=>(by rw[Z] at h;simp at h)⟩
theorem iA.lk{R:Pc Lk}(G:cC R=none)(hg:mL R)(h:tp∈bm R->Q4 v b W tp R):iA v b W tp R:=⟨λ gU aP e h=>(by obtain⟨a,ha⟩:=GN h;rw[G] at ha;cases ha),λ o cur pt h=>(by rw[h] at hg;exact absurd hg id),λ _=>h⟩
theorem iA.dn{R:Pc Lk}{a gU:Int}{aP:Bool}{e:Int}(G:cC R=some a)(ho:gm R=some (gU,aP,e))(hg:mL R)(h:(e=0->gU=v/\aP=b)/\(e≠0->e=8/\aP=false)):iA v b W tp R:=⟨λ v2 b2 e2 u=>(by rw[ho] at u;cases u;exact h),λ o cur pt h=>(by rw[h] at hg;exact absurd hg id),λ hn=>(by rw[G] at hn;cases hn)⟩
theorem iA.fi(o:bd)(s:ag)(h:(o.err=0->o.val=v/\o.is=b)/\(o.err≠0->o.err=8/\o.is=false)):iA v b W tp (aG U (.bn (.fi o)) s).R:=
 .dn (l6 (.bn (.fi o)) s).1 (l6 (.bn (.fi o)) s).2 (Ar o s) h
variable{ap:List aJ}{out:bd}{s:ag}{o:Or}{f:Fk}
theorem SP{D cur pt:Int}(hf:k6 f=none)(hr:(bZ U S (aG U (d9 o f D cur pt) s) ap).R=.fin out)(h:out.aD=pt->v=0/\b=false):iA v b W out.aD (aG U (d9 o f D cur pt) s).R:=by
 unfold d9 at hr⊢;cases f with
 |get=>exact .fi _ _ ⟨λ _=>by have:=h (x5 hr).1;exact⟨this.1.symm,this.2.symm⟩,λ e=>absurd rfl e⟩
 |del=>exact .fi _ _ ⟨λ _=>by have:=h (x5 hr).1;exact⟨this.1.symm,this.2.symm⟩,λ e=>absurd rfl e⟩
 |fin a=>cases hf
 |put v n=>simp only;split<;>exact .m7 rfl rfl trivial
theorem acw{D cur w pt:Int}(hf:k6 f=none)(hr:(bZ U S (aG U (eU o f D cur w pt) s) ap).R=.fin out)(h:out.aD=pt->xK v b W o f cur)(hk:W.nd cur 1=o.o):iA v b W out.aD (aG U (eU o f D cur w pt) s).R:=by
 have T:=Mq o f D cur w pt s;unfold eU at hr T⊢;cases f with
 |get=>have h1:=uC (S:=S) (a:=pt) ap T rfl;rw[hr] at h1;have:=(h (Option.some.inj h1)).1 hk rfl;refine⟨λ gU aP e h=>(by cases h),λ o' fj Kb e=>?_,λ hn=>(by cases hn)⟩;cases e;exact this
 |del=>exact .m7 rfl rfl trivial
 |fin a=>cases hf
 |put x n=>
  simp only at hr T⊢
  by_cases hn:n=0
  ·rw[if_pos hn] at hr⊢;have:=(h (x5 hr).1).2 (λ _ e=>by cases e);exact .fi _ _ ⟨λ _=>⟨this.1.symm,this.2.symm⟩,λ e=>absurd rfl e⟩
  ·rw[if_neg hn] at hr T⊢;have h1:=uC (S:=S) (a:=pt) ap T rfl;rw[hr] at h1;have:=(h (Option.some.inj h1)).2 (λ _ e=>by cases e);exact .dn (a:=pt) (gU:=0) (aP:=false) (e:=0) rfl rfl trivial ⟨λ _=>⟨this.1.symm,this.2.symm⟩,λ e=>absurd rfl e⟩
theorem MS{a aP D cur pt:Int}(hf:k6 f=none)(hr:(bZ U S (aG U (dG o f a aP D cur pt) s) ap).R=.fin out)(h:out.aD=pt->v=0/\b=false):iA v b W out.aD (aG U (dG o f a aP D cur pt) s).R:=by
 unfold dG at hr⊢
 by_cases F:cur=0
 ·rw[if_pos F] at hr⊢;exact SP hf hr h
 ·rw[if_neg F];exact .m7 hf rfl trivial
theorem XN{k:Lk}(hk:e9 k)(G:lE k=none)(hr:(bZ U S (aG U (U.retired k) s) ap).R=.fin out)(h:∀o f a aP D nx pt,k=.rr o f a aP D nx pt->out.aD=pt->v=0/\b=false):iA v b W out.aD (aG U (U.retired k) s).R:=by
 rcases hk with⟨o,f,a,aP,D,nx,pt,rfl⟩|⟨a,rfl⟩
 ·exact MS G hr (h _ _ _ _ _ _ _ rfl)
 ·cases G
theorem XY{k:Lk}(hk:e9 k)(G:lE k=none)(h:∀o f a aP D nx pt,k=.rr o f a aP D nx pt->tp=pt->v=0/\b=false){n:Int}(Z:tp∈bm (.r1 k n)):v=0/\b=false:=by
 rcases hk with⟨o,f,a,aP,D,nx,pt,rfl⟩|⟨a,rfl⟩
 ·exact h _ _ _ _ _ _ _ rfl (by simpa[bm] using Z)
 ·cases G
theorem Qp{k:Lk}(hk:e9 k)(G:lE k=none){held:List Int}{gs stay:List (Int×Int)}(hr:(bZ U S (du U k held s gs stay) ap).R=.fin out)(h:∀o f a aP D nx pt,k=.rr o f a aP D nx pt->out.aD=pt->v=0/\b=false):iA v b W out.aD (du U k held s gs stay).R:=by
 cases gs with
 |nil=>exact XN hk G hr h
 |cons g gs=>
  refine .lk G trivial λ Z=>XY hk G h (n:=0) ?_
  rcases hk with⟨o,f,a,aP,D,nx,pt,rfl⟩|⟨a,rfl⟩
  ·exact Z
  ·cases G
theorem Yb{k:Lk}(hk:e9 k)(G:lE k=none){held:List Int}{cs:List Ad}(hr:(bZ U S (gG U k held s cs) ap).R=.fin out)(h:∀o f a aP D nx pt,k=.rr o f a aP D nx pt->out.aD=pt->v=0/\b=false):iA v b W out.aD (gG U k held s cs).R:=by
 cases cs with
 |nil=>exact Qp hk G hr h
 |cons c cs=>
  refine .lk G trivial λ Z=>XY hk G h (n:=0) ?_
  rcases hk with⟨o,f,a,aP,D,nx,pt,rfl⟩|⟨a,rfl⟩
  ·exact Z
  ·cases G
end
section
variable{l:aI}{S N aB:Nat}{V:Vw}{qs:List (Q Lk)}{aw X:List Int}{g:dF}{w:Nat}{q:Q Lk}{ap:List aJ}{out:bd}{v:Int}{b:Bool}
theorem Xx{W':Ws}{be:List Int}{aC:Int->Prop}{P:Int->Int->Prop}{mi:List Int}{s:ag}{tp:Int}(Y:gq V.W W' X be aC mi)(hP:∀i n,P i n->n∈X\/aC n){R:Pc Lk}(Z:xI (a7 N) l S N V X g P s R)(h:iA v b V.W tp R):iA v b W' tp R:=by
 have rt:∀{o f cur},cur∈X\/aC cur->xK v b V.W o f cur->xK v b W' o f cur:=λ F h=>by
  unfold xK at h⊢;rw[(Y.key _ F).1,(Y.key _ F).2];exact h
 refine⟨h.out,λ o cur pt e=>?_,λ G ht=>?_⟩
 ·subst e;obtain⟨_,_,⟨i,hi⟩,_⟩:nK N V.W X P (.gv o cur pt):=Z.1;have:=h.gv o cur pt rfl;rw[(Y.key cur (hP _ _ hi)).2];exact this
 ·have h:=h.look G ht;cases R with
  |at_ k=>
   have hk:nK N V.W X P k:=Z.1;cases k with
   |ls o f a b D cur w t=>exact rt (hP _ _ hk.1.R) h
   |lo o f a b D cur w t k=>exact⟨λ e=>rt (hP _ _ hk.1.R) (h.1 e),h.2⟩
   |_=>exact h
  |g2 k i c v b=>
   have hk:nK N V.W X (mB P i) k:=Z.1;cases k with
   |gb o f a aP D cur=>exact rt (hP _ _ hk.R.2) h
   |_=>exact h
  |_=>exact h
theorem ajg(hf:q.R.gX)(aF:cJ q)(hr:(bZ U S (tell U S q (act V (aS U w q.R)).2) ap).R=.fin out)(aW:out.aD≠q.s.made\/out.err≠0)
 (fT:cC (tell U S q (act V (aS U w q.R)).2).R=none->out.aD∈bm (tell U S q (act V (aS U w q.R)).2).R->out.err=0)(h:iA v b V.W out.aD q.R):iA v b (act V (aS U w q.R)).1.W out.aD (tell U S q (act V (aS U w q.R)).2).R:=by
 have jX:=qT (S:=S) (r:=(act V (aS U w q.R)).2) aF;have bV:∀(f v:Int),(act V (.cs .free f v)).1.W=V.W:=λ f v=>by simp only[act];split<;>rfl
 have hM:cC (tell U S q (act V (aS U w q.R)).2).R=none->out.aD∈bm (tell U S q (act V (aS U w q.R)).2).R->out.aD≠q.s.made:=λ h1 u J=>by
  have:=fT h1 u;rcases aW with aW|aW
  ·exact aW J
  ·exact aW this
 cases G:cC q.R with
 |some x=>
  have h1:=BP (S:=S) (r:=(act V (aS U w q.R)).2) aF G
  by_cases hg:∃o cur pt,q.R=.at_ (.gv o cur pt)
  ·obtain⟨o,cur,pt,e⟩:=hg;have hv:=h.gv o cur pt e;obtain⟨R,s⟩:=q;simp only at e;subst e;exact .fi ⟨V.W.nd cur 2,true,0,pt,[]⟩ s.up ⟨λ _=>⟨hv.1.symm,hv.2.symm⟩,λ e=>absurd rfl e⟩
  ·have u:=h1.2 (λ o cur pt e=>hg ⟨o,cur,pt,e⟩);have wM:=ac5 (S:=S) (r:=(act V (aS U w q.R)).2) aF (λ o f a b D cur aA t k e=>by
    rw[e] at G;cases f with
    |fin a=>exact⟨a,rfl⟩
    |_=>cases G)
   exact⟨by rw[u];exact h.out,λ o cur pt e=>(by rw[e] at wM;exact absurd wM id),λ hn=>(by rw[h1.1] at hn;cases hn)⟩
 |none=>
  obtain⟨R,s⟩:=q;cases R with
  |fin o=>exact absurd hf id
  |bn k=>exact absurd hf id
  |at_ k=>
   cases k with
   |ls o f a aP D cur aA t=>
    have e:tell U S ⟨.at_ (.ls o f a aP D cur aA t),s⟩ (act V (aS U w (.at_ (.ls o f a aP D cur aA t)))).2=aG U (if(act V (.ld (bM D))).2.val=bt cur then .at_ (.lo o f a aP D cur aA t s.made) else dl o f) s.up:=rfl;rw[e] at hM⊢
    by_cases F:(act V (.ld (bM D))).2.val=bt cur
    ·rw[if_pos F] at hM⊢;refine .lk G trivial λ ht=>⟨λ e=>?_,λ e=>absurd e (hM G ht)⟩
     exact h.look G (by rw[e];simp[bm])
    ·rw[if_neg F];exact .m7 G rfl trivial
   |lo o f a aP D cur aA t k=>
    have e:tell U S ⟨.at_ (.lo o f a aP D cur aA t k),s⟩ (act V (aS U w (.at_ (.lo o f a aP D cur aA t k)))).2=aG U (if(av aA).mark then .at_ (.cu o f a aP D cur aA) else if V.W.nd cur 1<o.o then dG o f aP (3-a-aP) cur (av aA).idx t else if V.W.nd cur 1=o.o then eU o f D cur aA t else d9 o f D cur k) s.up:=rfl;have pM:out.aD=t\/out.aD=k->(out.aD=t->xK v b V.W o f cur)/\(out.aD=k->v=0/\b=false):=λ e=>h.look G (by simpa[bm] using e)
    rw[e] at hr⊢
    by_cases hm:(av aA).mark=true
    ·rw[if_pos hm];exact .m7 G rfl trivial
    ·rw[if_neg hm] at hr⊢
     by_cases eN:V.W.nd cur 1<o.o
     ·rw[if_pos eN] at hr⊢;exact MS G hr λ e=>((pM (.inl e)).1 e).2 (λ e2=>by omega)
     ·rw[if_neg eN] at hr⊢
      by_cases fR:V.W.nd cur 1=o.o
      ·rw[if_pos fR] at hr⊢;exact acw G hr (λ e=>(pM (.inl e)).1 e) fR
      ·rw[if_neg fR] at hr⊢;exact SP G hr λ e=>(pM (.inr e)).2 e
   |cu o f a aP D cur aA=>
    have e:tell U S ⟨.at_ (.cu o f a aP D cur aA),s⟩ (act V (aS U w (.at_ (.cu o f a aP D cur aA)))).2=aG U (if(act V (bh (.cu o f a aP D cur aA))).2.ok then .r1 (.rr o f a aP D (av aA).idx s.made) cur else dl o f) s.up:=rfl;rw[e] at hM⊢
    by_cases F:(act V (bh (.cu o f a aP D cur aA))).2.ok=true
    ·rw[if_pos F] at hM⊢;exact .lk G trivial λ ht=>absurd (by simpa[aG,bm] using ht) (hM G ht)
    ·rw[if_neg F];exact .m7 G rfl trivial
   |gv o cur pt=>cases G
   |p1 o x n D cur=>exact .m7 rfl rfl trivial
   |p2 o x n D cur=>exact .m7 rfl rfl trivial
   |p0 o x n D cur=>exact .m7 rfl rfl trivial
   |cp o x n D cur=>
    have e:tell U S ⟨.at_ (.cp o x n D cur),s⟩ (act V (aS U w (.at_ (.cp o x n D cur)))).2=aG U (if(act V (bh (.cp o x n D cur))).2.ok then .bn (.fi (nL s.made n)) else dl o (.put x n)) s.up:=rfl;rw[e] at hr⊢
    by_cases F:(act V (bh (.cp o x n D cur))).2.ok=true
    ·rw[if_pos F] at hr;obtain⟨e1,e2⟩:=x5 hr;rcases aW with aW|aW
     ·exact absurd e1 aW
     ·exact absurd e2 aW
    ·rw[if_neg F];exact .m7 rfl rfl trivial
   |cm o D cur aA=>
    have e:tell U S ⟨.at_ (.cm o D cur aA),s⟩ (act V (aS U w (.at_ (.cm o D cur aA)))).2=aG U (if(act V (bh (.cm o D cur aA))).2.ok then .at_ (.cd o D cur (av aA).idx s.made) else dl o .del) s.up:=rfl;rw[e] at hr jX⊢
    by_cases F:(act V (bh (.cm o D cur aA))).2.ok=true
    ·rw[if_pos F] at hr jX;have e1:=uC (S:=S) (a:=(s.made:Int)) ap jX rfl;have e2:=GO (S:=S) (x:=(0,true,0)) ap jX rfl;rw[hr] at e1 e2;rcases aW with aW|aW
     ·exact absurd (Option.some.inj e1) aW
     ·exact absurd (congrArg (·.2.2) (Option.some.inj e2)) aW
    ·rw[if_neg F];exact .m7 rfl rfl trivial
   |cd o D cur nx a=>cases G
   |_=>exact absurd aF id
  |t1 k=>
   obtain⟨o,x,D,cur,rfl⟩:=aF;show iA v b V.W out.aD (if(av V.fr).idx=0 then aG U (.bn (.fi ⟨0,false,8,s.made,[]⟩)) s.up else _:Q Lk).R;split
   ·exact .fi _ _ ⟨λ e=>(by cases e),λ _=>⟨rfl,rfl⟩⟩
   ·exact .m7 rfl rfl trivial
  |t2 k f=>obtain⟨o,x,D,cur,rfl⟩:=aF;exact .m7 rfl rfl trivial
  |t3 k f lk=>obtain⟨o,x,D,cur,rfl⟩:=aF;show iA v b _ out.aD (if(act V (aS U w (.t3 (.tk o x D cur) f lk))).2.ok then _ else _:Q Lk).R;split<;>exact .m7 rfl rfl trivial
  |t4 k n aP=>obtain⟨o,x,D,cur,rfl⟩:=aF;exact .m7 rfl rfl trivial
  |t5 k n aP c=>obtain⟨o,x,D,cur,rfl⟩:=aF;exact .m7 rfl rfl trivial
  |g1 k i c=>exact .lk G trivial λ ht=>absurd (by simpa[tell,bm] using ht) (hM G ht)
  |g2 k i c x aP=>
   have e:tell U S ⟨.g2 k i c x aP,s⟩ (act V (aS U w (.g2 k i c x aP))).2=if V.er=s.e i then aG U (U.guarded k x aP) s.up else⟨.g3 k i c V.er,s.up⟩:=rfl
   rw[e] at hr⊢
   by_cases he:V.er=s.e i
   ·rw[if_pos he] at hr⊢;rcases aF with⟨o,f,rfl⟩|⟨o,f,a,D,cur,rfl,rfl⟩
    ·exact MS (o:=o) (f:=f) (a:=0) (aP:=1) (D:=o.d) (cur:=(av x).idx) (pt:=aP) G hr λ e=>h.look G (by rw[e];simp[bm])
    ·exact .lk G trivial λ ht=>h.look G ht
   ·rw[if_neg he];exact .m7 G rfl trivial
  |g3 k i c er=>exact .m7 G rfl trivial
  |c k i=>rcases aF.2.2.2 with⟨o,rfl⟩|⟨n,a,rfl⟩<;>cases G
  |v1 k n=>obtain⟨a,aT,rfl⟩:=aF;cases G
  |v2 k n f=>obtain⟨a,aT,rfl⟩:=aF;cases G
  |v3 k n f=>obtain⟨a,aT,rfl⟩:=aF;cases G
  |r1 k n=>
   refine .lk G trivial λ Z=>h.look G ?_
   rcases aF with⟨o,f,a,aP,D,nx,pt,rfl⟩|⟨a,rfl⟩
   ·exact Z
   ·cases G
  |r2 k n er=>
   have hA:∀o f a aP D nx pt,k=.rr o f a aP D nx pt->out.aD=pt->v=0/\b=false:=λ o f a aP D nx pt e e2=>h.look G (by rw[e,e2];simp[bm])
   have e:tell U S ⟨.r2 k n er,s⟩ (act V (aS U w (.r2 k n er))).2=if(s.gone.length:Int)+1<2*(S:Int) then aG U (U.retired k) {s.up with gone:=s.gone++[(n,er)]} else gG U k [] {s.up with gone:=s.gone++[(n,er)]} (nP 0 S):=rfl
   rw[e] at hr⊢
   by_cases F:(s.gone.length:Int)+1<2*(S:Int)
   ·rw[if_pos F] at hr⊢;exact XN aF G hr hA
   ·rw[if_neg F] at hr⊢;exact Yb aF G hr hA
  |rs k held c cs=>exact Yb aF G hr λ o f a aP D nx pt e e2=>h.look G (by rw[e,e2];simp[bm])
  |s1 k held y gs stay=>
   have hA:∀o f a aP D nx pt,k=.rr o f a aP D nx pt->out.aD=pt->v=0/\b=false:=λ o f a aP D nx pt e e2=>h.look G (by rw[e,e2];simp[bm])
   have e:tell U S ⟨.s1 k held y gs stay,s⟩ (act V (aS U w (.s1 k held y gs stay))).2=if held.any (ja (kM (V.bi y.1)) y.2)=true then du U k held s.up gs (stay++[y]) else⟨.w1 k held y gs stay,s.up⟩:=rfl
   rw[e] at hr⊢
   by_cases F:held.any (ja (kM (V.bi y.1)) y.2)=true
   ·rw[if_pos F] at hr⊢;exact Qp aF G hr hA
   ·rw[if_neg F];refine .lk G trivial λ Z=>h.look G ?_
    rcases aF with⟨o,f,a,aP,D,nx,pt,rfl⟩|⟨a,rfl⟩
    ·exact Z
    ·cases G
  |w1 k held y gs stay=>
   refine .lk G trivial λ Z=>h.look G ?_
   rcases aF with⟨o,f,a,aP,D,nx,pt,rfl⟩|⟨a,rfl⟩
   ·exact Z
   ·cases G
  |w2 k held y gs stay f=>
   refine .lk G trivial λ Z=>h.look G ?_
   rcases aF with⟨o,f,a,aP,D,nx,pt,rfl⟩|⟨a,rfl⟩
   ·exact Z
   ·cases G
  |w3 k held y gs stay f=>
   have hA:∀o f a aP D nx pt,k=.rr o f a aP D nx pt->out.aD=pt->v=0/\b=false:=λ o f a aP D nx pt e e2=>h.look G (by rw[e,e2];simp[bm])
   have e:tell U S ⟨.w3 k held y gs stay f,s⟩ (act V (aS U w (.w3 k held y gs stay f))).2=if(act V (aS U w (.w3 k held y gs stay f))).2.ok then du U k held s.up gs stay else⟨.w1 k held y gs stay,s.up⟩:=rfl
   rw[e] at hr⊢
   by_cases F:(act V (aS U w (.w3 k held y gs stay f))).2.ok=true
   ·rw[if_pos F] at hr⊢;exact Qp aF G hr hA
   ·rw[if_neg F];refine .lk G trivial λ Z=>h.look G ?_
    rcases aF with⟨o,ml,a,aP,D,nx,pt,rfl⟩|⟨a,rfl⟩
    ·exact Z
    ·cases G
end
structure mE(aR:List Int)(a6:Q Lk):Prop where
 pt:cC a6.R=none\/∃t∈aR,cC a6.R=some t
 lk:∀t∈bm a6.R,t∈aR
section
variable{S:Nat}{aR:List Int}{s:ag}{o:Or}{f:Fk}
theorem mE.none{a6:Q Lk}(h:cC a6.R=Option.none)(Z:∀t∈bm a6.R,t∈aR):mE aR a6:=⟨.inl h,Z⟩
theorem mE.fi{o:bd}(h:o.aD∈aR):mE aR (aG U (.bn (.fi o)) s):=⟨.inr ⟨_,h,(l6 (.bn (.fi o)) s).1⟩,λ t ht=>by rw[show aG U (.bn (.fi o)) s=dJ U (.fi o) s from rfl,LW s (.inl ⟨o,rfl⟩)] at ht;simp at ht⟩
theorem SO{D cur pt:Int}(hf:k6 f=none)(h:pt∈aR):mE aR (aG U (d9 o f D cur pt) s):=by
 unfold d9;cases f with
 |get=>exact .fi h
 |del=>exact .fi h
 |fin a=>cases hf
 |put v n=>simp only;split<;>exact .none rfl (by simp[aG,bm])
theorem acv{D cur w pt:Int}(hf:k6 f=none)(h:pt∈aR):mE aR (aG U (eU o f D cur w pt) s):=by
 unfold eU;cases f with
 |get=>exact⟨.inr ⟨pt,h,rfl⟩,by simp[aG,bm]⟩
 |del=>exact .none rfl (by simp[aG,bm])
 |fin a=>cases hf
 |put v n=>
  simp only;split
  ·exact .fi h
  ·exact⟨.inr ⟨pt,h,rfl⟩,by simp[aG,bm]⟩
theorem MQ{a b D cur pt:Int}(hf:k6 f=none)(h:pt∈aR):mE aR (aG U (dG o f a b D cur pt) s):=by
 unfold dG;split
 ·exact SO hf h
 ·exact .none hf (by simp[aG,bm])
theorem XL{k:Lk}(hk:e9 k)(G:lE k=none)(h:∀n,∀t∈bm (.r1 k n),t∈aR):mE aR (aG U (U.retired k) s):=by
 rcases hk with⟨o,f,a,b,D,nx,pt,rfl⟩|⟨a,rfl⟩
 ·exact MQ G (h 0 pt (by simp[bm]))
 ·cases G
theorem Qn{k:Lk}(hk:e9 k)(G:lE k=none)(h:∀n,∀t∈bm (.r1 k n),t∈aR)(held:List Int)(gs stay:List (Int×Int)):mE aR (du U k held s gs stay):=by
 cases gs with
 |nil=>exact XL hk G h
 |cons y gs=>
  refine .none G λ t ht=>h 0 t ?_
  rcases hk with⟨o,f,a,b,D,nx,pt,rfl⟩|⟨a,rfl⟩
  ·exact ht
  ·cases G
theorem X9{k:Lk}(hk:e9 k)(G:lE k=none)(h:∀n,∀t∈bm (.r1 k n),t∈aR)(held:List Int)(cs:List Ad):mE aR (gG U k held s cs):=by
 cases cs with
 |nil=>exact Qn hk G h _ _ _
 |cons c cs=>
  refine .none G λ t ht=>h 0 t ?_
  rcases hk with⟨o,f,a,b,D,nx,pt,rfl⟩|⟨a,rfl⟩
  ·exact ht
  ·cases G
theorem mE.no{a6:Q Lk}{ap:List aJ}{out:bd}{m:Nat}(h:mE aR a6)(T:cJ a6)(hr:(bZ U S a6 ap).R=.fin out)(hL:∀t∈aR,t<m)(hm:a6.s.made=m+1):out.aD≠m:=by
 intro e;rcases h.pt with G|⟨t,ht,G⟩
 ·rcases GX ap T G hr with h1|h1
  ·have:=hL _ (h.lk _ h1);omega
  ·omega
 ·have:=uC (S:=S) ap T G;rw[hr] at this;have:=Option.some.inj this;have:=hL t ht;omega
end
section
variable{l:aI}{S N aB:Nat}{V:Vw}{qs:List (Q Lk)}{aw X:List Int}{g:dF}{w:Nat}{q:Q Lk}{ap:List aJ}{out:bd}{op:a9}
theorem H8{f:Fk}(h:x3 f)(ho:sx op f):op.kind=1\/op.kind=3:=by
 cases f with
 |get=>exact .inl ho
 |del=>exact .inr ho
 |_=>exact absurd h id
theorem ab2(hN:N<=100)(hI:Inv (a7 N) l S N aB V qs aw X g)(hq:qs[w]?=some q)(hf:q.R.gX)(aF:cJ q)(hw:qe q){ro:Or}(un:ro.o=op.a)(bv:ie ro op q.R)(hr:(bZ U S (tell U S q (act V (aS U w q.R)).2) ap).R=.fin out)(h1:out.aD=q.s.made)(u:out.err=0)
 (fT:cC (tell U S q (act V (aS U w q.R)).2).R=none->out.aD∈bm (tell U S q (act V (aS U w q.R)).2).R->uQ (act V (aS U w q.R)).1.W (hc (a7 N) V.W X g q.R).1 out.aD (tell U S q (act V (aS U w q.R)).2).R):
 ∃v b,mC (dm V.W X) op=(dm (act V (aS U w q.R)).1.W (hc (a7 N) V.W X g q.R).1,v,b)/\iA v b (act V (aS U w q.R)).1.W out.aD (tell U S q (act V (aS U w q.R)).2).R:=by
 have bq:eX N aB V.W X (Dq (a7 N) qs) g:=hI.si;have jX:=qT (S:=S) (r:=(act V (aS U w q.R)).2) aF;have ue:=BF (am:=U) (S:=S) (r:=(act V (aS U w q.R)).2) hf;have FH:=hI.loc w _ hq;have Fo:=Lq hN hI hq aF un bv;rcases Fo with⟨same,hC⟩|⟨_,p1,o1,sp⟩
 rotate_left
 ·refine⟨0,true,sp,⟨λ gU aP e h=>?_,λ o cur pt e=>(by rw[e] at o1;cases o1),λ hn=>(by rw[p1] at hn;cases hn)⟩⟩;rw[o1] at h;cases h;exact⟨λ _=>⟨rfl,rfl⟩,λ e=>absurd rfl e⟩
 cases G:cC q.R with
 |some x=>have e:=uC (S:=S) ap jX (BP (S:=S) (r:=(act V (aS U w q.R)).2) aF G).1;rw[hr] at e;have:=Option.some.inj e;have:=hw.pt x G;omega
 |none=>
  have hL:∀t∈bm q.R,t<q.s.made:=λ t ht=>(hw.lk G t ht).2
  have no:mE (bm q.R) (tell U S q (act V (aS U w q.R)).2)->∃v b,mC (dm V.W X) op=(dm V.W X,v,b)/\iA v b (act V (aS U w q.R)).1.W out.aD (tell U S q (act V (aS U w q.R)).2).R:=λ h=>absurd h1 (h.no jX hr hL ue)
  have rH:cC (tell U S q (act V (aS U w q.R)).2).R=none->out.aD∈bm (tell U S q (act V (aS U w q.R)).2).R:=λ h=>by
   rcases GX ap jX h hr with h|h
   ·exact h
   ·omega
  have alG:∀i n,Pr (a7 N) V X qs w q.s i n->n∈X\/Dq (a7 N) qs n:=λ i n h=>qS h
  rw[same];obtain⟨R,s⟩:=q;have ct:=FH.R;cases R with
  |fin o=>exact absurd hf id
  |bn k=>exact absurd hf id
  |at_ k=>
   have ho:=vO hN hI hq;have ha:act V (aS U w (.at_ k))=({V with W:=(br V.W (bh k)).1},(br V.W (bh k)).2):=ho.act;have hk:=ho.kl;cases k with
   |ls o f a b D cur aA t=>
    obtain⟨k1,k2,k3,k4⟩:=hk;obtain⟨rfl,bL⟩:=bv;rw[ha] at rH fT jX hr⊢;have e:tell U S ⟨.at_ (.ls o f a b D cur aA t),s⟩ (br V.W (bh (.ls o f a b D cur aA t))).2=aG U (if V.W.nd D 0=bt cur then .at_ (.lo o f a b D cur aA t s.made) else dl o f) s.up:=rfl;rw[e] at rH fT jX hr⊢
    by_cases F:V.W.nd D 0=bt cur
    ·rw[if_pos F] at rH fT⊢;have Z:=fT G (rH G);obtain⟨l1,l2⟩:=Z.2 h1;have c7:=k1.c1;have qz:=k1.cN;rw[uA (show 0<=cur by omega) (by omega)] at F;obtain⟨A,B,T⟩:=DW bq ho.nd (k1.pp.at_ ho.hP) F (by omega) (by omega);have sp:=Kx (op:=op) (W:=V.W) un.symm (H8 l2 bL) (below bq T k1.kp) (Lo bq T (.inr l1));rw[<-T.eq] at sp;refine⟨0,false,sp,.lk G trivial λ _=>⟨λ e=>?_,λ _=>⟨rfl,rfl⟩⟩⟩;have:=(hw.lk G t (by simp[bm])).2;have h1:out.aD=(s.made:Int):=h1;have this:t<(s.made:Int):=this;omega
    ·rw[if_neg F] at rH;have:=rH G;simp[aG,dl,bm] at this
   |lo o f a b D cur aA t k=>
    refine no ?_;show mE _ (aG U (if(av aA).mark then .at_ (.cu o f a b D cur aA) else if V.W.nd cur 1<o.o then dG o f b (3-a-b) cur (av aA).idx t else if V.W.nd cur 1=o.o then eU o f D cur aA t else d9 o f D cur k) s.up);split
    ·exact .none G (by simp[aG,bm])
    ·split
     ·exact MQ G (by simp[bm])
     ·split
      ·exact acv G (by simp[bm])
      ·exact SO G (by simp[bm])
   |cu o f a b D cur aA=>
    obtain⟨k1,k2,k3,k4,k5⟩:=hk;obtain⟨rfl,bL⟩:=bv;rw[ha] at rH fT jX hr⊢;have hx:=k2.mark.1 k4;have hi:=jb aA;have fD:=k2.2;have c7:=k1.c1;have qz:=k1.cN;have e0:bt cur=cur:=uA (by omega) (by omega)
    by_cases F:V.W.nd D 0=cur
    ·have e1:(br V.W (bh (.cu o f a b D cur aA))).2=⟨cur,true⟩:=by simp only[bh,br,Ws.get,e0,F,if_true]
     have e:tell U S ⟨.at_ (.cu o f a b D cur aA),s⟩ ⟨cur,true⟩=⟨.r1 (.rr o f a b D (av aA).idx s.made) cur,s.up⟩:=rfl;rw[e1,e] at rH fT⊢;obtain⟨l1,l2⟩:=fT G (rH G);obtain⟨_,_,_,_,A,B,T,f5,Mr⟩:=vW bq hN ho.nd ho.dx (k1.pp.at_ ho.hP) c7 qz F (by rw[k5];exact hx) hi.1 fD (lK:=Dq (a7 N) qs) (λ n hn=>.inl hn);have hB:B=[]:=by
      cases B with
      |nil=>rfl
      |cons y B=>have:=bq.e8 y (by rw[T.eq];simp);simp only[List.headD_cons] at Mr;omega
     subst hB;have hA:=below bq T k1.kp;have abW:dm V.W X=dm V.W A:=by have:=L0 (A:=A) (B:=[]) (n:=cur) (Z3 V.W (A++[])) (by rw[k5];exact k4);rw[List.append_nil] at this;rw[T.eq,this]
     have sp:=Kx (op:=op) (W:=V.W) (B:=[]) un.symm (H8 l2 bL) hA (by simp);rw[List.append_nil,<-abW] at sp;exact⟨0,false,sp,.lk G trivial λ _=>⟨rfl,rfl⟩⟩
    ·have e1:(br V.W (bh (.cu o f a b D cur aA))).2=⟨V.W.nd D 0,false⟩:=by simp only[bh,br,Ws.get,e0,F,if_false]
     have e:tell U S ⟨.at_ (.cu o f a b D cur aA),s⟩ ⟨V.W.nd D 0,false⟩=aG U (dl o f) s.up:=rfl;rw[e1,e] at rH;have:=rH G;simp[aG,dl,bm] at this
   |gv o cur pt=>cases G
   |p1 o v n D cur=>exact no (.none rfl (by simp[tell,aG,U,cZ,bm]))
   |p2 o v n D cur=>exact no (.none rfl (by simp[tell,aG,U,cZ,bm]))
   |p0 o v n D cur=>exact no (.none rfl (by simp[tell,aG,U,cZ,bm]))
   |cp o v n D cur=>
    have hC:=hC trivial;have e:tell U S ⟨.at_ (.cp o v n D cur),s⟩ (act V (aS U w (.at_ (.cp o v n D cur)))).2=aG U (if(act V (bh (.cp o v n D cur))).2.ok then .bn (.fi (nL s.made n)) else dl o (.put v n)) s.up:=rfl;refine no ?_;rw[e] at hC⊢
    by_cases F:(act V (bh (.cp o v n D cur))).2.ok=true
    ·rw[if_pos F] at hC;have:=(l6 (.bn (.fi (nL s.made n))) s.up).2;rw[hC] at this;cases this
    ·rw[if_neg F];exact .none rfl (by simp[aG,dl,bm])
   |cm o D cur aA=>
    have hC:=hC trivial;have e:tell U S ⟨.at_ (.cm o D cur aA),s⟩ (act V (aS U w (.at_ (.cm o D cur aA)))).2=aG U (if(act V (bh (.cm o D cur aA))).2.ok then .at_ (.cd o D cur (av aA).idx s.made) else dl o .del) s.up:=rfl;refine no ?_;rw[e] at hC⊢
    by_cases F:(act V (bh (.cm o D cur aA))).2.ok=true
    ·rw[if_pos F] at hC;cases hC
    ·rw[if_neg F];exact .none rfl (by simp[aG,dl,bm])
   |cd o D cur nx a=>cases G
   |_=>exact absurd aF id
  |t1 k=>
   obtain⟨o,v,D,cur,rfl⟩:=aF;have e:tell U S ⟨.t1 (.tk o v D cur),s⟩ (act V (aS U w (.t1 (.tk o v D cur)))).2=if(av V.fr).idx=0 then aG U (.bn (.fi ⟨0,false,8,s.made,[]⟩)) s.up else⟨.t2 (.tk o v D cur) V.fr,s.up⟩:=rfl
   by_cases h0:(av V.fr).idx=0
   ·rw[e,if_pos h0] at hr;have:=(x5 hr).2;rw[u] at this;cases this
   ·refine no ?_;rw[e,if_neg h0];exact .none rfl (by simp[bm])
  |t2 k f=>obtain⟨o,v,D,cur,rfl⟩:=aF;exact no (.none rfl (by simp[tell,bm]))
  |t3 k f lk=>obtain⟨o,v,D,cur,rfl⟩:=aF;refine no ?_;show mE _ (if(act V (aS U w (.t3 (.tk o v D cur) f lk))).2.ok then _ else _);split<;>exact .none rfl (by simp[bm])
  |t4 k n b=>obtain⟨o,v,D,cur,rfl⟩:=aF;exact no (.none rfl (by simp[tell,bm]))
  |t5 k n b c=>obtain⟨o,v,D,cur,rfl⟩:=aF;exact no (.none rfl (by simp[tell,aG,U,bm]))
  |g1 k i c=>
   have e1:act V (aS U w (.g1 k i c))=(V,⟨V.W.get c,true⟩):=by simp only[aS,act,CB ct.2.2.2.2.1]
   have aen:=ct.2.2.2.2.2;have fZ:nK N V.W X (mB (Pr (a7 N) V X qs w s) i) k:=ct.1;rw[e1] at rH fT⊢;have Z:=fT G (rH G);rcases aF with⟨o,f,rfl⟩|⟨o,f,a,D,cur,rfl,rfl⟩
   ·obtain⟨rfl,rfl⟩:=aen;obtain⟨rfl,bL⟩:=bv;obtain⟨l1,l2⟩:(av (V.W.nd o.d 0)).idx=0/\x3 f:=Z;have lY:lP N V.W X o:=fZ.2;obtain⟨A,B,hX,hA,hB⟩:=DU lY.x hI.yK;have FZ:=bq.p9;rw[hX,List.pairwise_append] at FZ;have C1:∀m∈A,V.W.nd m 1<V.W.nd o.d 1:=λ m hm=>FZ.2.2 m hm o.d (by simp)
    have aY:=lY.lt;have FF:=bq.link;rw[hX] at FF;have hb:V.W.nd o.d 0%65536=B.headD 0:=(vC FF).1;rw[<-xn,l1] at hb;have ya:B=[]:=by
     cases B with
     |nil=>rfl
     |cons y B=>have:=bq.e8 y (by rw[hX];simp);simp only[List.headD_cons] at hb;omega
    subst ya;have sp:=Kx (op:=op) (W:=V.W) (A:=A++[o.d]) (B:=[]) un.symm (H8 l2 bL) (λ m hm=>by
     rcases List.mem_append.1 hm with hm|hm
     ·have:=C1 m hm;omega
     ·have:m=o.d:=by simpa using hm
      rw[this];exact aY) (by simp)
    rw[List.append_nil,<-hX] at sp;exact⟨0,false,sp,.lk G trivial λ _=>⟨rfl,rfl⟩⟩
   ·obtain⟨rfl,bL⟩:=bv;obtain⟨oa,l1,l2⟩:cur∈X/\zf V.W o f cur (V.W.nd cur 0):=Z;obtain⟨A,B,hX,hA,hB⟩:=DU oa hI.yK;have FZ:=bq.p9;rw[hX,List.pairwise_append] at FZ;have C1:∀m∈A,V.W.nd m 1<V.W.nd cur 1:=λ m hm=>FZ.2.2 m hm cur (by simp)
    rcases l2 with⟨l2,l3⟩|⟨l2,l3,agj⟩
    ·have Ur:op.kind=1\/op.kind=2:=by
      cases f with
      |get=>exact .inl bL
      |put v n=>exact .inr bL.1
      |_=>exact absurd l3 id
     have sp:=aj3 (op:=op) (W:=V.W) (B:=B) un.symm Ur (by rw[<-l2];exact C1) l2 l1;rw[<-hX] at sp;refine⟨_,_,sp,.lk G trivial λ _=>⟨λ _ e=>?_,λ e=>?_⟩⟩
     ·subst e;have eN:op.kind=1:=bL;rw[if_pos eN];exact⟨rfl,by simp[eN]⟩
     ·have aW:=e l2;have fR:op.kind=2:=by
       rcases Ur with h|h
       ·cases f with
        |get=>exact absurd rfl aW
        |put v n=>exact bL.1
        |_=>exact absurd l3 id
       ·exact h
      rw[if_neg (by omega)];exact⟨rfl,by simp[fR]⟩
    ·have FF:=bq.link;rw[hX] at FF;have hb:V.W.nd cur 0%65536=B.headD 0:=(vC FF).1;rw[<-xn,l3] at hb;have ya:B=[]:=by
      cases B with
      |nil=>rfl
      |cons y B=>have:=bq.e8 y (by rw[hX];simp);simp only[List.headD_cons] at hb;omega
     subst ya;have sp:=Kx (op:=op) (W:=V.W) (A:=A++[cur]) (B:=[]) un.symm (H8 agj bL) (λ m hm=>by
      rcases List.mem_append.1 hm with hm|hm
      ·have:=C1 m hm;omega
      ·have:m=cur:=by simpa using hm
       rw[this];exact l2) (by simp)
     rw[List.append_nil,<-hX] at sp;exact⟨0,false,sp,.lk G trivial λ _=>⟨λ e=>(by have e:V.W.nd cur 1=o.o:=e;omega),λ _=>⟨rfl,rfl⟩⟩⟩
  |g2 k i c x b=>
   refine no ?_;show mE _ (if V.er=s.e i then aG U (U.guarded k x b) s.up else⟨.g3 k i c V.er,s.up⟩);split
   ·rcases aF with⟨o,f,rfl⟩|⟨o,f,a,D,cur,rfl,rfl⟩
    ·exact MQ (o:=o) (f:=f) (a:=0) (b:=1) (D:=o.d) (cur:=(av x).idx) (pt:=b) G (by simp[bm])
    ·exact .none G (by simp[aG,U,bm])
   ·exact .none G (by simp[bm])
  |g3 k i c er=>exact no (.none G (by simp[tell,bm]))
  |c k i=>rcases aF.2.2.2 with⟨o,rfl⟩|⟨n,a,rfl⟩<;>cases G
  |v1 k n=>obtain⟨a,aT,rfl⟩:=aF;cases G
  |v2 k n f=>obtain⟨a,aT,rfl⟩:=aF;cases G
  |v3 k n f=>obtain⟨a,aT,rfl⟩:=aF;cases G
  |r1 k n=>
   refine no (.none G λ t ht=>?_);rcases aF with⟨o,f,a,aP,D,nx,pt,rfl⟩|⟨a,rfl⟩
   ·exact ht
   ·cases G
  |r2 k n er=>
   have hA:∀cO,∀t∈bm (.r1 k cO),t∈bm (.r2 k n er):=λ cO t ht=>by
    rcases aF with⟨o,f,a,aP,D,nx,pt,rfl⟩|⟨a,rfl⟩
    ·exact ht
    ·cases G
   refine no ?_;show mE _ (if(s.gone.length:Int)+1<2*(S:Int) then aG U (U.retired k) {s.up with gone:=s.gone++[(n,er)]} else gG U k [] {s.up with gone:=s.gone++[(n,er)]} (nP 0 S));split
   ·exact XL aF G hA
   ·exact X9 aF G hA _ _
  |rs k held c cs=>
   refine no (X9 (s:=s.up) aF G (λ cO t ht=>?_) _ _);rcases aF with⟨o,f,a,aP,D,nx,pt,rfl⟩|⟨a,rfl⟩
   ·exact ht
   ·cases G
  |s1 k held y gs stay=>
   have hA:∀cO,∀t∈bm (.r1 k cO),t∈bm (.s1 k held y gs stay):=λ cO t ht=>by
    rcases aF with⟨o,f,a,aP,D,nx,pt,rfl⟩|⟨a,rfl⟩
    ·exact ht
    ·cases G
   refine no ?_;show mE _ (if held.any (ja (kM (V.bi y.1)) y.2)=true then du U k held s.up gs (stay++[y]) else⟨.w1 k held y gs stay,s.up⟩);split
   ·exact Qn aF G hA _ _ _
   ·refine .none G λ t ht=>hA 0 t ?_
    rcases aF with⟨o,f,a,aP,D,nx,pt,rfl⟩|⟨a,rfl⟩
    ·exact ht
    ·cases G
  |w1 k held y gs stay=>
   refine no (.none G λ t ht=>?_);rcases aF with⟨o,f,a,aP,D,nx,pt,rfl⟩|⟨a,rfl⟩
   ·exact ht
   ·cases G
  |w2 k held y gs stay f=>
   refine no (.none G λ t ht=>?_);rcases aF with⟨o,f,a,aP,D,nx,pt,rfl⟩|⟨a,rfl⟩
   ·exact ht
   ·cases G
  |w3 k held y gs stay f=>
   have hA:∀cO,∀t∈bm (.r1 k cO),t∈bm (.w3 k held y gs stay f):=λ cO t ht=>by
    rcases aF with⟨o,ml,a,aP,D,nx,pt,rfl⟩|⟨a,rfl⟩
    ·exact ht
    ·cases G
   refine no ?_;show mE _ (if(act V (aS U w (.w3 k held y gs stay f))).2.ok then du U k held s.up gs stay else⟨.w1 k held y gs stay,s.up⟩);split
   ·exact Qn aF G hA _ _ _
   ·refine .none G λ t ht=>hA 0 t ?_
    rcases aF with⟨o,ml,a,aP,D,nx,pt,rfl⟩|⟨a,rfl⟩
    ·exact ht
    ·cases G
end
end Go.Proofs.YtkkldicehapklaaGreat.Tq
