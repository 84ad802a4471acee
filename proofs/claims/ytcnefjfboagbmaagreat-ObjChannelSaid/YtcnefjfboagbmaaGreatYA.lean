/- What holds at every step, where some nodes are others'. -/
import Derived.Test.YtcnefjfboagbmaaGreatPA
namespace Go.Proofs.YtcnefjfboagbmaaGreat.Sg
set_option maxRecDepth 100000
variable{aK cC:Type}
section
variable(ag:Sp aK cC)(l:ah)(S N:Nat)
structure Inv(aG:Nat)(V:Vw)(qs:List (Q aK))(aA X:List Int)(g:cC):Prop where
 n:qs.length=S
 fr:V.fr=131072*(V.fr/131072)+aA.headD 0
 w7:0<=V.fr/131072/\V.fr/131072<=aG
 er:1<=V.er/\V.er<=aG+1
 lf:o7 V.lk aA
 part:∀n,aA.count n+X.count n+sd ag qs n<=1/\(0<aA.count n+X.count n+sd ag qs n->1<=n/\n<=(N:Int))
 bi:∀n,1<=n->n<=(N:Int)->V.bi n<=V.er
 si:ag.SI aG V.W X (Dq ag qs) g
 loc:∀(w:Nat)(q:Q aK),qs[w]?=some q->Loc ag l S N V X g qs w q
end
section
variable{ag:Sp aK cC}{l:ah}{S N aG:Nat}{V:Vw}{qs:List (Q aK)}{aA X:List Int}{g:cC}(hI:Inv ag l S N aG V qs aA X g)
include hI
theorem Inv.bound{n:Int}(h:0<aA.count n+X.count n+sd ag qs n):1<=n/\n<=(N:Int):=(hI.part n).2 h
theorem Inv.one(n:Int):aA.count n+X.count n+sd ag qs n<=1:=(hI.part n).1
theorem Inv.zv{n:Int}(h:n∈aA):1<=n/\n<=(N:Int):=hI.bound (by have:=List.count_pos_iff.2 h;omega)
theorem Inv.rW{n:Int}(h:n∈X):1<=n/\n<=(N:Int):=hI.bound (by have:=List.count_pos_iff.2 h;omega)
theorem Inv.nD{n:Int}{w:Nat}{q:Q aK}(hq:qs[w]?=some q)(h:n∈own ag q):1<=n/\n<=(N:Int):=hI.bound (by
 have A:=List.count_pos_iff.2 h;have F:=EJ (λ q=>(own ag q).count n) hq;unfold sd;omega)
theorem Inv.gm:0<=aA.headD 0/\aA.headD 0<=(N:Int):=by
 cases aA with
 |nil=>simp
 |cons x aA=>have:=hI.zv (n:=x) (by simp);simp;omega
theorem Inv.ts{n:Int}{w:Nat}{q:Q aK}(hq:qs[w]?=some q)(h:n∈own ag q):n∉aA/\n∉X/\(own ag q).count n=1/\∀(j:Nat)(bD:Q aK),j≠w->qs[j]?=some bD->n∉own ag bD:=by have h0:=hI.one n;have A:=List.count_pos_iff.2 h;have F:=EJ (λ q=>(own ag q).count n) hq;have bB:(own ag q).count n<=sd ag qs n:=F;refine⟨λ hf=>by have:=List.count_pos_iff.2 hf;omega,λ hf=>by have:=List.count_pos_iff.2 hf;omega,by omega,λ j bD hj iF hm=>?_⟩;have O:=List.count_pos_iff.2 hm;have h4:=R5 (λ q=>(own ag q).count n) hj iF hq;have rI:(own ag bD).count n+(own ag q).count n<=sd ag qs n:=h4;omega
theorem Inv.yE(hN:N<=100):(ae V.fr).idx=aA.headD 0:=by have A:=hI.fr;have F:=hI.gm;rw[SO];omega
theorem Inv.MY(hN:N<=100):jt N V.fr V.fr:=by have A:=hI.fr;have F:=hI.gm;have O:=hI.yE hN;have h4:=hI.w7;exact⟨by omega,by rw[O];exact A,by rw[O];exact F.2,Int.le_refl _,λ _=>rfl⟩
theorem Inv.HU:X.Nodup:=by rw[List.nodup_iff_count];intro x;have:=hI.one x;omega
theorem Inv.aci:aA.Nodup:=by rw[List.nodup_iff_count];intro x;have:=hI.one x;omega
theorem Inv.dq{n:Int}(h:Dq ag qs n):(1<=n/\n<=(N:Int))/\n∉X/\n∉aA:=by
 obtain⟨j,q,hq,hn⟩:=h;have A:n∈own ag q:=by unfold own;rw[List.mem_append];exact .inr hn
 have F:=hI.ts hq A;exact⟨hI.nD hq A,F.2.1,F.1⟩
theorem Inv.Ce{n:Int}{w:Nat}{q:Q aK}(hq:qs[w]?=some q)(h:n∈eJ ag q.pc):n∉X/\¬Dq ag qs n/\n∉aA:=by
 have A:n∈own ag q:=by unfold own;rw[List.mem_append];exact .inl h
 obtain⟨F,O,h4,h5⟩:=hI.ts hq A;refine⟨O,λ⟨j,bD,iF,hn⟩=>?_,F⟩
 by_cases hj:j=w
 ·subst hj;rw[hq] at iF;cases iF;have h6:=List.count_pos_iff.2 h;have h7:=List.count_pos_iff.2 hn;unfold own at h4;rw[List.count_append] at h4;omega
 ·exact h5 j bD hj iF (by unfold own;rw[List.mem_append];exact .inr hn)
end
variable{aK cC:Type}{ak:lx aK}{ag:Sp aK cC}{l:ah}{S N aG:Nat}
theorem Inv.step(hs:nO ak ag l S N){V bt:Vw}{qs:List (Q aK)}{aA d8 X dO:List Int}{g bF:cC}(hI:Inv ag l S N aG V qs aA X g){w:Nat}{q bD:Q aK}(hq:qs[w]?=some q)(hm:Move ag V bt X dO qs q bD)
 (DL:bt.fr=131072*(bt.fr/131072)+d8.headD 0)(Bx:bt.fr=V.fr\/bt.fr/131072=V.fr/131072+1)(DK:bt.er=V.er\/bt.er=V.er+1)(DM:o7 bt.lk d8)
 (vj:∀n,d8.count n+dO.count n+(own ag bD).count n=aA.count n+X.count n+(own ag q).count n)(DJ:∀n,1<=n->n<=(N:Int)->bt.bi n<=bt.er)(Yz:ag.SI (aG+1) bt.W dO (Dq ag (qs.set w bD)) bF)
 (By:∀j:Nat,j≠w->∀i:Int,bt.rv j i=V.rv j i)(DN:bt.fr=V.fr->bt.lk (ae V.fr).idx=V.lk (ae V.fr).idx)(DO:∀n,n∉aA->n∉own ag q->bt.lk n=V.lk n)
 (Yw:∀(j:Nat)(x:Q aK),j≠w->qs[j]?=some x->∀k,x.pc.cont=some k->∀P,(∀i n,P i n->n∈X\/Dq ag qs n)->ag.KL V.W X g P k->ag.KL bt.W dO bF P k)
 (Yv:∀(j:Nat)(x:Q aK),j≠w->qs[j]?=some x->∀k,x.pc.cont=some k->∀(P:Int->Int->Prop)(i:Int)(c:Ad)(v:Int),(∀i n,P i n->n∈X\/Dq ag qs n)->ag.KL V.W X g (qk P i) k->ag.GL V.W X g P k i c v->ag.GL bt.W dO bF P k i c v)
 (DP:Loc ag l S N bt dO bF (qs.set w bD) w bD):Inv ag l S N (aG+1) bt (qs.set w bD) d8 dO bF:=by
 have xk:=hI.er;have agX:=hI.w7;have po:=hI.fr;refine⟨by rw[List.length_set];exact hI.n,DL,?_,by omega,DM,λ n=>?_,DJ,Yz,λ j x T=>?_⟩
 ·rcases Bx with e|e
  ·rw[e];omega
  ·rw[e];omega
 ·have A:=hI.part n;have F:=acT (ag:=ag) bD n hq;have O:=vj n;exact⟨by omega,λ h=>A.2 (by omega)⟩
 ·rcases xY hq T with⟨rfl,rfl⟩|⟨A,F⟩
  ·exact DP
  ·refine(hI.loc j x F).frame hs (λ i n h=>hm.pr hq F rfl h) Bx DN (λ n hn=>?_) DK (By j A) (Yw j x A F) (Yv j x A F);obtain⟨o1,o2,o3,acu⟩:=hI.ts F hn;exact DO n o1 (λ h=>acu w q (by omega) hq h)
theorem Inv.quiet(hs:nO ak ag l S N){V:Vw}{qs:List (Q aK)}{aA X:List Int}{g:cC}(hI:Inv ag l S N aG V qs aA X g){w:Nat}{q bD:Q aK}(hq:qs[w]?=some q)
 (vj:∀n,(own ag bD).count n=(own ag q).count n)(yO:∀n∈ej ag bD,n∈ej ag q)(he:∀i,bD.s.e i=q.s.e i)
 (yP:∀(j:Nat)(x:Q aK)(i n:Int),qs[j]?=some x->0<=i->i<=2->wx ag V X qs j i n (x.s.e i)->lM ag j i n (x.s.e i) q->lM ag j i n (x.s.e i) bD)
 (DP:(∀i n,Pr ag V X qs w q.s i n->Pr ag V X (qs.set w bD) w bD.s i n)->(∀n,Dq ag (qs.set w bD) n->Dq ag qs n)->wv ag l S N V X g (Pr ag V X (qs.set w bD) w bD.s) bD.s bD.pc):Inv ag l S N (aG+1) V (qs.set w bD) aA X g:=by
 have U:=hI.loc w q hq;have hm:Move ag V V X X qs q bD:=⟨λ _ _=>rfl,λ n h=>.inl h,yP⟩;have D:∀n,Dq ag (qs.set w bD) n->Dq ag qs n:=λ n h=>(JG hq h).elim id λ h=>⟨w,q,hq,yO n h⟩
 refine hI.step hs hq hm hI.fr (.inl rfl) (.inl rfl) hI.lf (λ n=>by rw[vj]) hI.bi (hs.CG hI.si D (Nat.le_succ aG)) (λ _ _ _=>rfl) (λ _=>rfl) (λ _ _ _=>rfl) (λ _ _ _ _ _ _ _ _ h=>h) (λ _ _ _ _ _ _ _ _ _ _ _ _ h=>h) ⟨λ i i0 i2=>by rw[he];exact U.rv i i0 i2,λ i=>by rw[he];exact U.e0 i,DP (λ i n h=>hm.pr hq hq (he i) h) D⟩
variable{aK cC:Type}{ak:lx aK}{ag:Sp aK cC}{l:ah}{S N aG:Nat}
section
variable{V:Vw}{qs:List (Q aK)}{aA X:List Int}{g:cC}{w:Nat}{q:Q aK}
theorem Inv.gen(hs:nO ak ag l S N)(hI:Inv ag l S N aG V qs aA X g)(hq:qs[w]?=some q){bt:Vw}{d8:List Int}{bD:Q aK}(hW:bt.W=V.W)
 (Kh:∀n,n∈X\/Dq ag qs n->bt.bi n=V.bi n)(yP:∀(j:Nat)(x:Q aK)(i n:Int),qs[j]?=some x->0<=i->i<=2->wx ag V X qs j i n (x.s.e i)->lM ag j i n (x.s.e i) q->lM ag j i n (x.s.e i) bD)
 (DL:bt.fr=131072*(bt.fr/131072)+d8.headD 0)(Bx:bt.fr=V.fr\/bt.fr/131072=V.fr/131072+1)(DK:bt.er=V.er\/bt.er=V.er+1)(DM:o7 bt.lk d8)
 (vj:∀n,d8.count n+(own ag bD).count n=aA.count n+(own ag q).count n)(DJ:∀n,1<=n->n<=(N:Int)->bt.bi n<=bt.er)(yO:∀n∈ej ag bD,n∈ej ag q)
 (By:∀j:Nat,j≠w->∀i:Int,bt.rv j i=V.rv j i)(DN:bt.fr=V.fr->bt.lk (ae V.fr).idx=V.lk (ae V.fr).idx)(DO:∀n,n∉aA->n∉own ag q->bt.lk n=V.lk n)
 (Yx:∀i:Int,0<=i->i<=2->bt.rv w i=bD.s.e i)(Yy:∀i,0<=bD.s.e i/\bD.s.e i<=bt.er)
 (DP:(∀i n,bD.s.e i=q.s.e i->Pr ag V X qs w q.s i n->Pr ag bt X (qs.set w bD) w bD.s i n)->(∀n,Dq ag (qs.set w bD) n->Dq ag qs n)->wv ag l S N bt X g (Pr ag bt X (qs.set w bD) w bD.s) bD.s bD.pc):Inv ag l S N (aG+1) bt (qs.set w bD) d8 X g:=by
 have hm:Move ag V bt X X qs q bD:=⟨Kh,λ n h=>.inl h,yP⟩;have D:∀n,Dq ag (qs.set w bD) n->Dq ag qs n:=λ n h=>(JG hq h).elim id λ h=>⟨w,q,hq,yO n h⟩
 refine hI.step hs hq hm DL Bx DK DM (λ n=>by have:=vj n;omega) DJ (by rw[hW];exact hs.CG hI.si D (Nat.le_succ aG)) By DN DO (λ _ _ _ _ _ _ _ _ h=>by rw[hW];exact h) (λ _ _ _ _ _ _ _ _ _ _ _ _ h=>by rw[hW];exact h) ⟨Yx,Yy,DP (λ i n he h=>hm.pr hq hq he h) D⟩
theorem Inv.go(hs:nO ak ag l S N)(hI:Inv ag l S N aG V qs aA X g)(hq:qs[w]?=some q){bt:Vw}{d8:List Int}{bD:Q aK}{aa:af}{mi de:List Int}{go:List (Int×Int)}{C:Int->Int->Int->Int->Prop}
 (hX:∀P,(∀i n,Pr ag V X qs w q.s i n->P i n)->CX ag l S N bt X g P aa mi de go C bD)(he:∀i,aa.e i=q.s.e i)(hW:bt.W=V.W)
 (Kh:∀n,n∈X\/Dq ag qs n->bt.bi n=V.bi n)(yP:∀(j:Nat)(x:Q aK)(i n:Int),qs[j]?=some x->0<=i->i<=2->wx ag V X qs j i n (x.s.e i)->lM ag j i n (x.s.e i) q->C j i n (x.s.e i))
 (DL:bt.fr=131072*(bt.fr/131072)+d8.headD 0)(Bx:bt.fr=V.fr\/bt.fr/131072=V.fr/131072+1)(DK:bt.er=V.er\/bt.er=V.er+1)(DM:o7 bt.lk d8)
 (vj:∀n,d8.count n+(mi++(de++go.map (·.1))).count n=aA.count n+(own ag q).count n)(DJ:∀n,1<=n->n<=(N:Int)->bt.bi n<=bt.er)(yO:∀n∈de++go.map (·.1),n∈ej ag q)
 (By:∀j i:Int,bt.rv j i=V.rv j i)(DN:bt.fr=V.fr->bt.lk (ae V.fr).idx=V.lk (ae V.fr).idx)(DO:∀n,n∉aA->n∉own ag q->bt.lk n=V.lk n):Inv ag l S N (aG+1) bt (qs.set w bD) d8 X g:=by
 have U:=hI.loc w q hq;have h0:=hX (λ i n=>Pr ag V X qs w q.s i n) (λ _ _ h=>h);have yX:∀i,bD.s.e i=q.s.e i:=λ i=>(h0.e i).trans (he i)
 have jy:ej ag bD=de++go.map (·.1):=by unfold ej;rw[h0.dead,h0.gone]
 have aaa:own ag bD=mi++(de++go.map (·.1)):=by unfold own;rw[h0.aZ,jy]
 refine hI.gen hs hq hW Kh (λ j x i n T i0 i2 hP J=>h0.keeps (yP j x i n T i0 i2 hP J)) DL Bx DK DM (λ n=>by rw[aaa];exact vj n) DJ (λ n hn=>yO n (by rw[<-jy];exact hn)) (λ j _ i=>By j i) DN DO (λ i i0 i2=>by rw[By,yX];exact U.rv i i0 i2) (λ i=>by rw[yX];have:=U.e0 i;omega) (λ hP _=>(hX _ (λ i n h=>hP i n (yX i) h)).loc)
theorem Inv.still(hs:nO ak ag l S N)(hI:Inv ag l S N aG V qs aA X g)(hq:qs[w]?=some q){bD:Q aK}{aa:af}{mi de:List Int}{go:List (Int×Int)}{C:Int->Int->Int->Int->Prop}
 (hX:∀P,(∀i n,Pr ag V X qs w q.s i n->P i n)->CX ag l S N V X g P aa mi de go C bD)(he:∀i,aa.e i=q.s.e i)
 (yP:∀(j:Nat)(x:Q aK)(i n:Int),qs[j]?=some x->0<=i->i<=2->wx ag V X qs j i n (x.s.e i)->lM ag j i n (x.s.e i) q->C j i n (x.s.e i))
 (vj:∀n,(mi++(de++go.map (·.1))).count n=(own ag q).count n)(yO:∀n∈de++go.map (·.1),n∈ej ag q):Inv ag l S N (aG+1) V (qs.set w bD) aA X g:=
 hI.go hs hq hX he rfl (λ _ _=>rfl) yP hI.fr (.inl rfl) (.inl rfl) hI.lf (λ n=>by rw[vj]) hI.bi yO (λ _ _=>rfl) (λ _=>rfl) (λ _ _ _=>rfl)
theorem PF(hI:Inv ag l S N aG V qs aA X g)(hN:N<=100)(hq:qs[w]?=some q){n:Int}(hn:n∈own ag q):n≠(ae V.fr).idx:=λ e=>by
 have A:=(hI.ts hq hn).1;have F:=hI.nD hq hn;rw[hI.yE hN] at e;cases aA with
 |nil=>simp at e;omega
 |cons x aA=>simp at e;exact A (by simp[e])
theorem S4(hI:Inv ag l S N aG V qs aA X g)(hq:qs[w]?=some q){j:Nat}{x:Q aK}(hj:j≠w)(T:qs[j]?=some x){k k2:aK}(J:x.pc.cont=some k2){n:Int}(hn:n∈ag.aZ k2)(hm:∀n∈ag.aZ k,n∈own ag q):n∉X/\¬Dq ag qs n/\n∉ag.aZ k:=by
 have A:=abQ J hn;have F:=hI.Ce T A;refine⟨F.1,F.2.1,λ h=>?_⟩;have O:n∈own ag x:=by unfold own;rw[List.mem_append];exact .inl A
 exact(hI.ts T O).2.2.2 w q (by omega) hq (hm n h)
theorem S3(hI:Inv ag l S N aG V qs aA X g){j:Nat}{x:Q aK}(T:qs[j]?=some x){k2:aK}(J:x.pc.cont=some k2){n:Int}(hn:n∈ag.dead k2):Dq ag qs n/\n∉X:=by
 have A:n∈ej ag x:=by unfold ej;rw[List.mem_append];exact .inl (Xc J hn)
 have F:Dq ag qs n:=⟨j,x,T,A⟩;exact⟨F,(hI.dq F).2.1⟩
theorem RK(hs:nO ak ag l S N)(hN:N<=100)(hK:aG<=100000)(hI:Inv ag l S N aG V qs aA X g)(hq:qs[w]?=some q)(hf:q.pc.pS):Inv ag l S N (aG+1) (bn V (cf ak w q.pc)).1 (qs.set w (tell ak S q (bn V (cf ak w q.pc)).2)) (oT V aA q.pc) (iN ag V.W X g q.pc).1 (iN ag V.W X g q.pc).2:=by
 have U:=hI.loc w _ hq;have xk:=hI.er;have hw:w<S:=by have:=(List.getElem?_eq_some_iff.1 hq).1;have:=hI.n;omega
 obtain⟨pc,s⟩:=q;have cT:=U.pc;have dH:∀i n,Pr ag V X qs w s i n->n∈X\/Dq ag qs n:=λ i n h=>uH h
 have Lb:∀(j:Nat)(x:Q aK)(i:Int),qs[j]?=some x->0<=i->i<=2->V.rv j i=x.s.e i:=λ j x i T i0 i2=>(hI.loc j x T).rv i i0 i2
 have Zv:∀(j:Nat)(x:Q aK),qs[j]?=some x->j<S:=λ j x T=>by have:=(List.getElem?_eq_some_iff.1 T).1;have:=hI.n;omega
 cases pc with
 |bG k=>exact absurd hf id
 |fin o=>exact absurd hf id
 |at_ k=>
  obtain⟨k1,k2⟩:=cT;have eo:∀i n,Pr ag V X qs w s i n->1<=n/\n<=(N:Int):=λ i n h=>(dH i n h).elim (λ h=>hI.rW h) λ h=>(hI.dq h).1
  have jA:∀n∈ag.aZ k,n∈own ag ⟨.at_ k,s⟩:=λ n h=>by unfold own;rw[List.mem_append];exact .inl h
  have Qm:∀n∈ag.dead k,n∈ej ag ⟨.at_ k,s⟩:=λ n h=>by unfold ej;rw[List.mem_append];exact .inl h
  have Kp:∀n∈ag.dead k,n∈own ag ⟨.at_ k,s⟩:=λ n h=>by unfold own;rw[List.mem_append];exact .inr (Qm n h)
  have aau:=hs.ask hI.si k1 eo (λ n h=>h.elim (λ h=>hI.rW h) λ h=>h.elim (λ h=>hI.nD hq (jA n h)) λ h=>hI.nD hq (Kp n h));have cF:=hs.step (aG:=aG) s.up s.made hK hI.si k1 k2 dH (λ n h=>h.elim (λ h=>hI.rW h) λ h=>h.elim (λ h=>hI.nD hq (jA n h)) λ h=>(hI.dq h).1) hI.HU (by
   rw[List.nodup_iff_count];intro x
   by_cases T:x∈ag.aZ k
   ·have h9:(ag.aZ k++ej ag ⟨.at_ k,s⟩).count x=1:=(hI.ts hq (jA x T)).2.2.1;rw[List.count_append] at h9;omega
   ·rw[List.count_eq_zero.2 T];omega) (λ n h=>by have:=hI.Ce hq (n:=n) h;exact⟨this.1,this.2.1⟩) (λ n h=>(hI.dq h).2.1) (λ n h=>⟨w,_,hq,Qm n h⟩)
  show Inv ag l S N (aG+1) (bn V (ak.ask k)).1 (qs.set w (aR ak (ak.tell k s.made (bn V (ak.ask k)).2) s.up)) aA (ag.nx V.W X g k).1 (ag.nx V.W X g k).2;rw[VQ aau];simp only;generalize(fS V.W (ak.ask k)).1=W' at cF⊢;generalize ak.tell k s.made (fS V.W (ak.ask k)).2=eK at cF⊢;generalize(ag.nx V.W X g k).1=dO at cF⊢;generalize(ag.nx V.W X g k).2=bF at cF⊢;have I:∀P,(∀i n,Pr ag V X qs w s i n->P i n)->sy ag l S N {V with W:=W'} dO bF P s.up (eJ ag eK) (d3 ag eK) (aR ak eK s.up):=λ P hP=>yD hs (V:={V with W:=W'}) (Sh hs (V:={V with W:=W'}) cF.ok hP)
  have mI:=I _ (λ _ _ h=>h);have hm:Move ag V {V with W:=W'} X dO qs ⟨.at_ k,s⟩ (aR ak eK s.up):=by refine⟨λ _ _=>rfl,λ n hn=>(cF.Lw n hn).imp id λ h j i e=>mI.keeps.2 (.inl h),λ j x i n _ _ _ _ h=>mI.keeps.2 ?_⟩;exact h.imp (cF.tn n) id
  refine hI.step hs hq hm hI.fr (.inl rfl) (.inl rfl) hI.lf (λ n=>?_) hI.bi (hs.CG cF.si (λ n hn=>?_) (Nat.le_refl _)) (λ _ _ _=>rfl) (λ _=>rfl) (λ _ _ _=>rfl) (λ j x hj T k2 hk P hP gH=>?_) (λ j x hj T k2 hk P i c v hP gH gU=>?_) ⟨λ i i0 i2=>by rw[mI.hs];exact U.rv i i0 i2,λ i=>by rw[mI.hs];exact U.e0 i,?_⟩
  ·have:=cF.count n;rw[mI.own];simp only[own,eJ,d3,ej,iU,List.count_append,af.up] at this⊢;omega
  ·rcases JG hq hn with h|h
   ·exact .inl h
   ·rw[mI.ej,List.mem_append] at h;rcases h with h|h
    ·exact .inr h
    ·exact .inl ⟨w,_,hq,by unfold ej;rw[List.mem_append];exact .inr h⟩
  ·exact cF.Mh k2 P hP (λ n hn=>S4 hI hq hj T hk hn jA) (λ n hn=>S3 hI T hk hn) gH
  ·exact cF.acO k2 P i c v hP (λ n hn=>S4 hI hq hj T hk hn jA) (λ n hn=>S3 hI T hk hn) gH gU
  ·have:=(I (Pr ag {V with W:=W'} dO (qs.set w (aR ak eK s.up)) w (aR ak eK s.up).s) (λ i n h=>hm.pr hq hq (by rw[mI.hs];rfl) h)).loc;rw[mI.hs] at this⊢;exact this
 |t1 k=>
  obtain⟨k1,k2⟩:=cT;show Inv ag l S N (aG+1) V (qs.set w (if(ae V.fr).idx=0 then _ else _)) aA X g;split
  ·refine hI.still hs hq (aa:=s.up) (λ P hP=>(yD hs (hs.full s.up s.made (hs.ic k1 hP) k2)).Ch) (λ _=>rfl) (λ j x i n _ _ _ _ h=>?_) (λ n=>?_) (λ n hn=>?_)
   ·rw[hs.Gy];exact h
   ·rw[hs.PH,hs.Gy];rfl
   ·rw[hs.Gy] at hn;exact hn
  ·rename_i h0;have h0:¬(ae V.fr).idx=0:=h0;have:=kU V.fr;exact hI.still hs hq (aa:=s.up) (λ P hP=>⟨λ _=>rfl,⟨hs.ic k1 hP,k2,hI.MY hN,by show 1<=(ae V.fr).idx;omega⟩,rfl,rfl,rfl,λ h=>h⟩) (λ _=>rfl) (λ j x i n _ _ _ _ h=>h) (λ n=>rfl) (λ n hn=>hn)
 |t2 k f=>obtain⟨k1,k2,k3,k4⟩:=cT;exact hI.still hs hq (aa:=s.up) (λ P hP=>⟨λ _=>rfl,⟨hs.ic k1 hP,k2,k3,k4,λ _=>rfl⟩,rfl,rfl,rfl,λ h=>h⟩) (λ _=>rfl) (λ j x i n _ _ _ _ h=>h) (λ n=>rfl) (λ n hn=>hn)
 |t3 k f lk=>
  obtain⟨k1,k2,k3,k4,k5⟩:=cT
  by_cases L:V.fr=f
  ·have e1:bn V (cf ak w (.t3 k f lk))=({V with fr:=bK (ca (ae f) lk)},⟨V.fr,true⟩):=by simp only[cf,bn,Vw.get,L,if_true];rfl
   have e2:oT V aA (.t3 k f lk)=aA.tail:=by simp only[oT,L,if_true]
   simp only[e1,e2];have hi:=hI.yE hN;have A:=hI.w7;have O:=hI.gm;have h4:=hI.fr;have RP:=k5 L;subst L;rw[hi] at k4 RP;obtain⟨d8,hF⟩:=head_cons k4;have qU:=hI.lf;rw[hF] at qU;obtain⟨m1,m2⟩:=qU;have ku:lk=d8.headD 0:=RP.trans m1;have J8:0<=d8.headD 0/\d8.headD 0<=(N:Int):=by
    cases d8 with
    |nil=>simp
    |cons y d8=>have:=hI.zv (n:=y) (by rw[hF];simp);simp;omega
   have hp:=E4 h4 A.1 (by omega) (by omega) (j:=lk) (by omega);have T:bK (ca (ae V.fr) lk)/131072=V.fr/131072+1:=by omega
   have ht:aA.tail=d8:=by rw[hF];rfl
   rw[ht];show Inv ag l S N (aG+1) _ (qs.set w ⟨.t4 k (ae V.fr).idx s.made,s.up⟩) d8 X g;rw[hi];refine hI.go hs hq (aa:=s.up) (λ P hP=>⟨λ _=>rfl,⟨hs.ic k1 hP,k2⟩,rfl,rfl,rfl,λ h=>h⟩) (λ _=>rfl) rfl (λ _ _=>rfl) (λ j x i n _ _ _ _ h=>h) (by show bK _=131072*(bK _/131072)+_;rw[T,hp,ku]) (.inr T) (.inl rfl) m2 (λ n=>?_) hI.bi (λ n hn=>hn) (λ _ _=>rfl) (λ e=>by have:bK (ca (ae V.fr) lk)=V.fr:=e;omega) (λ _ _ _=>rfl);have L:aA.count n=(aA.headD 0::d8).count n:=by rw[<-hF]
   rw[L];simp only[own,eJ,d3,ej,iU,List.count_append,List.count_cons,af.up];omega
  ·have e1:bn V (cf ak w (.t3 k f lk))=(V,⟨V.fr,false⟩):=by simp only[cf,bn,Vw.get,L,if_false]
   have e2:oT V aA (.t3 k f lk)=aA:=by simp only[oT,L,if_false]
   simp only[e1,e2];exact hI.still hs hq (aa:=s.up) (λ P hP=>⟨λ _=>rfl,⟨hs.ic k1 hP,k2⟩,rfl,rfl,rfl,λ h=>h⟩) (λ _=>rfl) (λ j x i n _ _ _ _ h=>h) (λ n=>rfl) (λ n hn=>hn)
 |t4 k n a=>obtain⟨k1,k2⟩:=cT;exact hI.still hs hq (aa:=s.up) (λ P hP=>⟨λ _=>rfl,⟨hs.ic k1 hP,k2,Int.le_refl _⟩,rfl,rfl,rfl,λ h=>h⟩) (λ _=>rfl) (λ j x i n _ _ _ _ h=>h) (λ n=>rfl) (λ n hn=>hn)
 |t5 k n a b=>
  obtain⟨k1,k2,k3⟩:=cT;have jA:=hI.Ce hq (n:=n) (by simp[eJ]);have eo:=hI.nD hq (n:=n) (by simp[own,eJ]);refine hI.go hs hq (aa:=s.up) (bt:={V with bi:=λ fU=>if fU=n then b else V.bi fU}) (λ P hP=>(yD hs (V:={V with bi:=λ fU=>if fU=n then b else V.bi fU}) (hs.uO s.up n a (hs.ic k1 hP) k2 eo.1 eo.2 jA.1)).Ch) (λ _=>rfl) rfl (λ x T=>?_) (λ j x i n _ _ _ _ h=>?_) hI.fr (.inl rfl) (.inl rfl) hI.lf (λ x=>?_) (λ x x1 x2=>?_) (λ x T=>?_) (λ _ _=>rfl) (λ _=>rfl) (λ _ _ _=>rfl)
  ·show(if x=n then b else V.bi x)=V.bi x;rw[if_neg];intro e;subst e;exact T.elim jA.1 jA.2.1
  ·rw[hs.Iz];exact h
  ·rw[hs.Iz,List.count_append,hs.UQ,<-List.count_append];rfl
  ·show(if x=n then b else V.bi x)<=V.er;split
   ·exact k3
   ·exact hI.bi x x1 x2
  ·rw[hs.Iz] at T;exact T
 |g1 k i c=>
  obtain⟨k1,k2,i0,i2,k3,k5⟩:=cT;have e1:bn V (cf ak w (.g1 k i c))=(V,⟨V.W.get c,true⟩):=by simp only[cf,bn,Dx k3]
  simp only[e1];refine hI.quiet hs hq (bD:=⟨.g2 k i c (V.W.get c) s.made,s.up⟩) (λ n=>rfl) (λ n hn=>hn) (λ _=>rfl) (λ j x i n _ _ _ _ h=>h) (λ hP D=>?_);have qh:=hs.ic k1 (E1 hP);refine⟨qh,k2,i0,i2,k3,k5,λ e=>hs.PL i c k3 k5 (hs.CG hI.si D (Nat.le_refl aG)) qh (λ n hn=>⟨i0,i2,?_,.inl hn⟩) (λ i n h=>uH h)⟩;have Z:=hI.rW hn;have:=hI.bi n Z.1 Z.2;rw[<-e];unfold kT;split<;>omega
 |g2 k i c v a=>
  obtain⟨k1,k2,i0,i2,k3,k5,k4⟩:=cT;show Inv ag l S N (aG+1) V (qs.set w (if V.er=s.e i then _ else _)) aA X g;split
  ·rename_i he;refine hI.still hs hq (aa:=s.up) (λ P hP=>(yD hs (hs.guarded s.up a k5 (hs.JX (k4 he) hP) (hs.ic k1 (E1 hP)))).Ch) (λ _=>rfl) (λ j x i n _ _ _ _ h=>?_) (λ n=>?_) (λ n hn=>?_)
   ·rw[hs.GF];exact h
   ·rw[hs.PQ,hs.GF];rfl
   ·rw[hs.GF] at hn;exact hn
  ·exact hI.still hs hq (aa:=s.up) (λ P hP=>⟨λ _=>rfl,⟨hs.ic k1 (E1 hP),k2,i0,i2,k3,k5,xk.1,Int.le_refl _⟩,rfl,rfl,rfl,λ h=>h⟩) (λ _=>rfl) (λ j x i n _ _ _ _ h=>h) (λ n=>rfl) (λ n hn=>hn)
 |g3 k i c er=>
  obtain⟨k1,k2,i0,i2,k3,k6,k4,k5⟩:=cT;have hg:(s.up.fb i er).gone=s.gone:=Mv _ _ _;have QH:iU (⟨.g1 k i c,s.up.fb i er⟩:Q aK)=s.gone:=hg;refine hI.gen hs hq (bt:=V.put (.rv w i) er) (bD:=⟨.g1 k i c,s.up.fb i er⟩) rfl (λ _ _=>rfl) (λ j x vR n T aaT aaU hP h=>?_) hI.fr (.inl rfl) (.inl rfl) hI.lf (λ n=>?_) hI.bi (λ n hn=>?_) (λ j hj vR=>?_) (λ _=>rfl) (λ _ _ _=>rfl) (λ j j0 j2=>?_) (Ts (λ x=>0<=x/\x<=V.er) (λ j=>U.e0 j) ⟨by omega,k5⟩) (λ hP D=>?_)
  ·show n∈_\/jr (s.up.fb i er).gone n _;rw[hg];exact h
  ·simp only[own,ej,QH];rfl
  ·simp only[ej,QH] at hn;exact hn
  ·simp only[Vw.put];rw[if_neg (λ h=>hj (by omega))]
  ·simp only[Vw.put];rw[Gn i0 i2 j0 j2]
   by_cases hd:j=i
   ·rw[if_pos ⟨trivial,hd⟩,if_pos hd]
   ·rw[if_neg (λ h=>hd h.2),if_neg hd];exact U.rv j j0 j2
  ·exact⟨hs.ic k1 (λ j n hj=>⟨hj.1,hP j n (by
    show(s.up.fb i er).e j=s.e j;rw[Gn i0 i2 hj.2.1 hj.2.2.1,if_neg hj.1];rfl) hj.2⟩),k2,i0,i2,k3,k6⟩
 |c k i=>
  obtain⟨k1,i0,i2⟩:=cT;have hg:(s.up.fb i 0).gone=s.gone:=Mv _ _ _;have I:∀P,sy ag l S N (V.put (.rv w i) 0) X g P (s.up.fb i 0) (ag.aZ k) (ag.dead k) (gj ak k (s.up.fb i 0)):=λ P=>JI (ak:=ak) hs (V:=V.put (.rv w i) 0) (P:=P) (s:=s.up.fb i 0) k1
  have mI:=I xF;refine hI.gen hs hq (bt:=V.put (.rv w i) 0) (bD:=gj ak k (s.up.fb i 0)) rfl (λ _ _=>rfl) (λ j x vR n T aaT aaU hP h=>?_) hI.fr (.inl rfl) (.inl rfl) hI.lf (λ n=>?_) hI.bi (λ n hn=>?_) (λ j hj vR=>?_) (λ _=>rfl) (λ _ _ _=>rfl) (λ j j0 j2=>?_) ?_ (λ hP D=>?_)
  ·rw[mI.keeps,hg];exact h
  ·rw[mI.own,hg];rfl
  ·rw[mI.ej,hg] at hn;exact hn
  ·simp only[Vw.put];rw[if_neg (λ h=>hj (by omega))]
  ·simp only[Vw.put];rw[mI.hs,Gn i0 i2 j0 j2]
   by_cases hd:j=i
   ·rw[if_pos ⟨trivial,hd⟩,if_pos hd]
   ·rw[if_neg (λ h=>hd h.2),if_neg hd];exact U.rv j j0 j2
  ·rw[mI.hs];exact Ts (λ x=>0<=x/\x<=V.er) (λ j=>U.e0 j) ⟨by omega,by omega⟩
  ·have:=(I (Pr ag (V.put (.rv w i) 0) X (qs.set w (gj ak k (s.up.fb i 0))) w (gj ak k (s.up.fb i 0)).s)).loc;rw[mI.hs] at this⊢;exact this
 |v1 k n=>obtain⟨k1,k2⟩:=cT;exact hI.still hs hq (aa:=s.up) (λ P hP=>⟨λ _=>rfl,⟨hs.ic k1 hP,k2,hI.MY hN⟩,rfl,rfl,rfl,λ h=>h⟩) (λ _=>rfl) (λ j x i n _ _ _ _ h=>h) (λ n=>rfl) (λ n hn=>hn)
 |v2 k n f=>
  obtain⟨k1,k2,k3⟩:=cT;have fz:n∈own ag ⟨.v2 k n f,s⟩:=by simp[own,eJ]
  have K0:=(hI.ts hq fz).1;have b9:=PF hI hN hq fz;have ku:∀x,x≠n->(if x=n then(ae f).idx else V.lk x)=V.lk x:=λ x T=>if_neg T
  refine hI.go hs hq (aa:=s.up) (bt:=V.put (.lk n) (ae f).idx) (λ P hP=>⟨λ _=>rfl,⟨hs.ic k1 hP,k2,k3,by simp[Vw.put]⟩,rfl,rfl,rfl,λ h=>h⟩) (λ _=>rfl) rfl (λ _ _=>rfl) (λ j x i n _ _ _ _ h=>h) hI.fr (.inl rfl) (.inl rfl) (hI.lf.same λ x T=>ku x (λ e=>K0 (e▸T))) (λ n=>rfl) hI.bi (λ n hn=>hn) (λ _ _=>rfl) (λ _=>ku _ (λ e=>b9 e.symm)) (λ x _ T=>ku x (λ e=>T (e▸fz)))
 |v3 k n f=>
  obtain⟨k1,k2,k3,k4⟩:=cT
  by_cases L:V.fr=f
  ·have e1:bn V (cf ak w (.v3 k n f))=({V with fr:=bK (ca (ae f) n)},⟨V.fr,true⟩):=by simp only[cf,bn,Vw.get,L,if_true];rfl
   have e2:oT V aA (.v3 k n f:Pc aK)=n::aA:=by simp only[oT,L,if_true]
   simp only[e1,e2];have hi:=hI.yE hN;have A:=hI.w7;have O:=hI.gm;have h4:=hI.fr;subst L;have hg:=hI.nD hq (n:=n) (by simp[own,eJ]);have hp:=E4 h4 A.1 (by omega) (by omega) (j:=n) (by omega);have T:bK (ca (ae V.fr) n)/131072=V.fr/131072+1:=by omega
   show Inv ag l S N (aG+1) _ (qs.set w (aR ak (ak.sN k) s.up)) (n::aA) X g;refine hI.go hs hq (aa:=s.up) (bt:={V with fr:=bK (ca (ae V.fr) n)}) (λ P hP=>(yD hs (V:={V with fr:=bK (ca (ae V.fr) n)}) (hs.sN s.up (hs.ic k1 hP) k2)).Ch) (λ _=>rfl) rfl (λ _ _=>rfl) (λ j x i n _ _ _ _ h=>?_) (by show bK _=131072*(bK _/131072)+_;rw[T,hp];rfl) (.inr T) (.inl rfl) ⟨by rw[k4,hi],hI.lf⟩ (λ x=>?_) hI.bi (λ x T=>?_) (λ _ _=>rfl) (λ e=>by have:bK (ca (ae V.fr) n)=V.fr:=e;omega) (λ _ _ _=>rfl)
   ·rw[hs.GB];exact h
   ·rw[hs.PJ,hs.GB];simp only[own,eJ,d3,ej,iU,List.count_append,List.count_cons,af.up];omega
   ·rw[hs.GB] at T;exact T
  ·have e1:bn V (cf ak w (.v3 k n f))=(V,⟨V.fr,false⟩):=by simp only[cf,bn,Vw.get,L,if_false]
   have e2:oT V aA (.v3 k n f:Pc aK)=aA:=by simp only[oT,L,if_false]
   simp only[e1,e2];exact hI.still hs hq (aa:=s.up) (λ P hP=>⟨λ _=>rfl,⟨hs.ic k1 hP,k2⟩,rfl,rfl,rfl,λ h=>h⟩) (λ _=>rfl) (λ j x i n _ _ _ _ h=>h) (λ n=>rfl) (λ n hn=>hn)
 |r1 k n=>
  obtain⟨k1,k2⟩:=cT;refine hI.still hs hq (bD:=⟨.r2 k n V.er,s.up⟩) (aa:=s.up) (C:=λ _ _ x e=>(n=x/\e<=V.er)\/x∈ag.dead k\/jr s.gone x e) (λ P hP=>⟨λ _=>rfl,⟨hs.ic k1 hP,k2,Int.le_refl _⟩,rfl,rfl,rfl,λ h=>h⟩) (λ _=>rfl) (λ j x i m T _ _ _ h=>?_) (λ n=>rfl) (λ n hn=>hn);rcases h with h|h
  ·exact .inl ⟨h,((hI.loc j x T).e0 i).2⟩
  ·exact .inr h
 |r2 k n er=>
  obtain⟨k1,k2,k3⟩:=cT;have DW:∀x,(ag.aZ k++(ag.dead k++(s.gone++[(n,er)]).map (·.1))).count x=(own ag ⟨.r2 k n er,s⟩).count x:=λ x=>by
   simp only[own,eJ,d3,ej,iU,List.count_append,List.count_cons,List.map_append,List.map_cons,List.map_nil,List.count_nil];omega
  have gu:∀x∈ag.dead k++(s.gone++[(n,er)]).map (·.1),x∈ej ag ⟨.r2 k n er,s⟩:=λ x T=>by
   simp only[ej,d3,iU,List.mem_append,List.map_append,List.map_cons,List.map_nil,List.mem_cons,List.not_mem_nil,or_false] at T⊢;rcases T with h|h|h
   ·exact .inl (.inr h)
   ·exact .inr h
   ·exact .inl (.inl h)
  have Qh:∀n,1<=n->n<=(N:Int)->V.bi n<=V.er+1:=λ n n1 n2=>by have:=hI.bi n n1 n2;omega
  have QR:∀(j:Nat)(x:Q aK)(i m:Int),lM ag j i m (x.s.e i) ⟨.r2 k n er,s⟩->m∈ag.dead k\/jr (s.gone++[(n,er)]) m (x.s.e i):=λ j x i m h=>by
   rcases h with⟨rfl,h⟩|h|h
   ·exact .inr ⟨er,h,by simp⟩
   ·exact .inl h
   ·exact .inr (h.app _)
  show Inv ag l S N (aG+1) {V with er:=V.er+1} (qs.set w (if(s.gone.length:Int)+1<2*(S:Int) then _ else _)) aA X g;split
  ·refine hI.go hs hq (aa:={s.up with gone:=s.gone++[(n,er)]}) (bt:={V with er:=V.er+1}) (λ P hP=>(yD hs (V:={V with er:=V.er+1}) (hs.retired {s.up with gone:=s.gone++[(n,er)]} (hs.ic k1 hP) k2)).Ch) (λ _=>rfl) rfl (λ _ _=>rfl) (λ j x i m _ _ _ _ h=>?_) hI.fr (.inl rfl) (.inr rfl) hI.lf (λ x=>?_) Qh (λ x T=>?_) (λ _ _=>rfl) (λ _=>rfl) (λ _ _ _=>rfl)
   ·rw[hs.Fh];exact QR j x i m h
   ·rw[hs.MN,hs.Fh];exact congrArg _ (DW x)
   ·rw[hs.Fh] at T;exact gu x T
  ·have hr:=TR (S:=S) S 0 (by omega);refine hI.go hs hq (aa:={s.up with gone:=s.gone++[(n,er)]}) (bt:={V with er:=V.er+1}) (λ P hP=>T6 hs (V:={V with er:=V.er+1}) (s:={s.up with gone:=s.gone++[(n,er)]}) (hs.ic k1 hP) k2 (by rw[ML];exact Nat.le_refl _) hr.1) (λ _=>rfl) rfl (λ _ _=>rfl) (λ j x i m T i0 i2 _ h=>?_) hI.fr (.inl rfl) (.inr rfl) hI.lf (λ x=>?_) Qh (λ x T=>gu x T) (λ _ _=>rfl) (λ _=>rfl) (λ _ _ _=>rfl)
   ·rcases QR j x i m h with h|h
    ·exact .inl h
    ·exact .inr ⟨h,.inr (hr.2 j i (by omega) (by have:=Zv j x T;omega) i0 i2)⟩
   ·exact congrArg _ (DW x)
 |rs k aw c cs=>
  obtain⟨k1,k2,k3,k4⟩:=cT;show Inv ag l S N (aG+1) V (qs.set w (mU ak k (aw++[V.get c]) s.up cs)) aA X g;refine hI.still hs hq (aa:=s.up) (λ P hP=>T6 hs (s:=s.up) (hs.ic k1 hP) k2 (by simp at k3;omega) (λ x T=>k4 x (by simp[T]))) (λ _=>rfl) (λ j x i m T i0 i2 _ h=>?_) (λ n=>rfl) (λ n hn=>hn);rcases h with h|⟨A,F⟩
  ·exact .inl h
  ·refine .inr ⟨A,?_⟩;rcases F with F|F
   ·exact .inl (by simp[F])
   ·rw[List.mem_cons] at F;rcases F with F|F
    ·left;subst F;simp only[Vw.get,Lb j x i T i0 i2];simp
    ·exact .inr F
 |s1 k aw y gs aL=>
  obtain⟨k1,k2⟩:=cT;show Inv ag l S N (aG+1) V (qs.set w (if aw.any (fE (kT (V.bi y.1)) y.2)=true then _ else _)) aA X g
  by_cases fz:aw.any (fE (kT (V.bi y.1)) y.2)=true
  ·rw[if_pos fz];refine hI.still hs hq (aa:=s.up) (λ P hP=>M7 hs (s:=s.up) (hs.ic k1 hP) k2) (λ _=>rfl) (λ j x i m _ _ _ _ h=>?_) (λ n=>?_) (λ n hn=>?_)
   ·rcases h with h|⟨A,F⟩
    ·exact .inl h
    ·refine .inr ⟨A.perm λ z hz=>?_,F⟩;simp only[List.mem_cons,List.mem_append,List.not_mem_nil,or_false] at hz⊢;rcases hz with rfl|hz|hz
     ·exact .inr (.inr rfl)
     ·exact .inl hz
     ·exact .inr (.inl hz)
   ·simp only[own,eJ,d3,ej,iU,List.map_append,List.count_append,List.map_cons,List.map_nil,List.count_cons,List.count_nil];omega
   ·simp only[d3,ej,iU,List.map_append,List.map_cons,List.map_nil,List.mem_append,List.mem_cons,List.not_mem_nil,or_false] at hn⊢;rcases hn with h|h|h|h
    ·exact .inl h
    ·exact .inr (.inr (.inl h))
    ·exact .inr (.inr (.inr h))
    ·exact .inr (.inl h)
  ·rw[if_neg fz];refine hI.still hs hq (aa:=s.up) (C:=λ _ _ n e=>n∈ag.dead k\/(jr (gs++aL) n e/\e∈aw)) (λ P hP=>⟨λ _=>rfl,⟨hs.ic k1 hP,k2⟩,rfl,rfl,rfl,λ h=>h⟩) (λ _=>rfl) (λ j x i m _ _ _ hP h=>?_) (λ n=>rfl) (λ n hn=>hn);rcases h with h|⟨⟨er,A,F⟩,O⟩
   ·exact .inl h
   ·rw[List.mem_cons] at F;rcases F with F|F
    ·exfalso;apply fz;subst F;exact V4 O hP.FW A
    ·exact .inr ⟨⟨er,A,F⟩,O⟩
 |w1 k aw y gs aL=>obtain⟨k1,k2⟩:=cT;exact hI.still hs hq (aa:=s.up) (C:=λ _ _ n e=>n∈ag.dead k\/(jr (gs++aL) n e/\e∈aw)) (λ P hP=>⟨λ _=>rfl,⟨hs.ic k1 hP,k2,hI.MY hN⟩,rfl,rfl,rfl,λ h=>h⟩) (λ _=>rfl) (λ j x i n _ _ _ _ h=>h) (λ n=>rfl) (λ n hn=>hn)
 |w2 k aw y gs aL f=>
  obtain⟨k1,k2,k3⟩:=cT;have fz:y.1∈own ag ⟨.w2 k aw y gs aL f,s⟩:=by simp[own,ej,iU]
  have K0:=(hI.ts hq fz).1;have b9:=PF hI hN hq fz;have ku:∀x,x≠y.1->(if x=y.1 then(ae f).idx else V.lk x)=V.lk x:=λ x T=>if_neg T
  refine hI.go hs hq (aa:=s.up) (bt:=V.put (.lk y.1) (ae f).idx) (C:=λ _ _ n e=>n∈ag.dead k\/(jr (gs++aL) n e/\e∈aw)) (λ P hP=>⟨λ _=>rfl,⟨hs.ic k1 hP,k2,k3,by simp[Vw.put]⟩,rfl,rfl,rfl,λ h=>h⟩) (λ _=>rfl) rfl (λ _ _=>rfl) (λ j x i n _ _ _ _ h=>h) hI.fr (.inl rfl) (.inl rfl) (hI.lf.same λ x T=>ku x (λ e=>K0 (e▸T))) (λ n=>rfl) hI.bi (λ n hn=>hn) (λ _ _=>rfl) (λ _=>ku _ (λ e=>b9 e.symm)) (λ x _ T=>ku x (λ e=>T (e▸fz)))
 |w3 k aw y gs aL f=>
  obtain⟨k1,k2,k3,k4⟩:=cT
  by_cases L:V.fr=f
  ·have e1:bn V (cf ak w (.w3 k aw y gs aL f))=({V with fr:=bK (ca (ae f) y.1)},⟨V.fr,true⟩):=by simp only[cf,bn,Vw.get,L,if_true];rfl
   have e2:oT V aA (.w3 k aw y gs aL f:Pc aK)=y.1::aA:=by simp only[oT,L,if_true]
   simp only[e1,e2];have hi:=hI.yE hN;have A:=hI.w7;have O:=hI.gm;have h4:=hI.fr;subst L;have hg:=hI.nD hq (n:=y.1) (by simp[own,ej,iU]);have hp:=E4 h4 A.1 (by omega) (by omega) (j:=y.1) (by omega);have T:bK (ca (ae V.fr) y.1)/131072=V.fr/131072+1:=by omega
   show Inv ag l S N (aG+1) _ (qs.set w (gL ak k aw s.up gs aL)) (y.1::aA) X g;refine hI.go hs hq (aa:=s.up) (bt:={V with fr:=bK (ca (ae V.fr) y.1)}) (λ P hP=>M7 hs (V:={V with fr:=bK (ca (ae V.fr) y.1)}) (s:=s.up) (hs.ic k1 hP) k2) (λ _=>rfl) rfl (λ _ _=>rfl) (λ j x i n _ _ _ _ h=>h) (by show bK _=131072*(bK _/131072)+_;rw[T,hp];rfl) (.inr T) (.inl rfl) ⟨by rw[k4,hi],hI.lf⟩ (λ x=>?_) hI.bi (λ x T=>?_) (λ _ _=>rfl) (λ e=>by have:bK (ca (ae V.fr) y.1)=V.fr:=e;omega) (λ _ _ _=>rfl)
   ·simp only[own,eJ,d3,ej,iU,List.map_append,List.count_append,List.map_cons,List.count_cons];omega
   ·simp only[d3,ej,iU,List.map_append,List.map_cons,List.mem_append,List.mem_cons] at T⊢;rcases T with h|h|h
    ·exact .inl h
    ·exact .inr (.inr (.inl h))
    ·exact .inr (.inr (.inr h))
  ·have e1:bn V (cf ak w (.w3 k aw y gs aL f))=(V,⟨V.fr,false⟩):=by simp only[cf,bn,Vw.get,L,if_false]
   have e2:oT V aA (.w3 k aw y gs aL f:Pc aK)=aA:=by simp only[oT,L,if_false]
   simp only[e1,e2];exact hI.still hs hq (aa:=s.up) (C:=λ _ _ n e=>n∈ag.dead k\/(jr (gs++aL) n e/\e∈aw)) (λ P hP=>⟨λ _=>rfl,⟨hs.ic k1 hP,k2⟩,rfl,rfl,rfl,λ h=>h⟩) (λ _=>rfl) (λ j x i n _ _ _ _ h=>h) (λ n=>rfl) (λ n hn=>hn)
end
end Go.Proofs.YtcnefjfboagbmaaGreat.Sg
namespace Go.Proofs.YtcnefjfboagbmaaGreat
def Ak.wr:Ak->Int
 |.st _ v=>v
 |.cs _ _ v=>v
 |_=>0
end Go.Proofs.YtcnefjfboagbmaaGreat
namespace Go.Proofs.YtcnefjfboagbmaaGreat.Sg
set_option maxRecDepth 100000
theorem Js{nx nd:Int->Int}{N:Int}:∀(aE acc:List Int)(k:Nat),(∀x∈aE,1<=x/\x<=N)->(acc++aE).Nodup->aE.length<k->o7 nd aE->(∀x∈aE,nx x=nd x)->k8 nx N k acc (aE.headD 0)=acc++aE
 |[],acc,0,_,_,J,_,_=>by simp at J
 |[],acc,k+1,_,_,_,_,_=>by
  rw[k8,if_neg (by simp)];simp
 |x::aE,acc,0,_,_,J,_,_=>by simp at J
 |x::aE,acc,k+1,Z,D,J,U,hn=>by
  have T:=Z x (by simp);have En:x∉acc:=λ h=>by
   rw[List.nodup_append] at D;exact D.2.2 x h x (by simp) rfl
  rw[List.headD_cons,k8,if_pos ⟨T.1,T.2,En⟩,hn x (by simp),U.1,Js aE (acc++[x]) k (λ y hy=>Z y (by simp[hy])) (by simpa using D) (by simp at J;omega) U.2 (λ y hy=>hn y (by simp[hy]))];simp
theorem Wi{m:List Int}{c:Int}(h0:0<=c)(A:c<m.length):bE m c=dp m c:=by unfold bE;rw[if_neg (by omega)]
theorem C9{l:ah}{S N:Nat}{m:List Int}{V:Vw}(hL:rA l S N)(hV:pP l S N m V){a:Ad}(ha:a.ok l S N):bE m (a.cell l)=V.get a:=by have h:=Ad.F5 hL ha;have U:=hV.len;rw[Wi h.1 (by omega)];exact hV.at_ a ha
section
variable{aK cC:Type}{ak:lx aK}{ag:Sp aK cC}{l:ah}{S N aG:Nat}{m:List Int}{V:Vw}{qs:List (Q aK)}{aA X:List Int}{g:cC}{w:Nat}{q:Q aK}
theorem abt(hL:rA l S N)(hN:N<=100)(hV:pP l S N m V)(hI:Inv ag l S N aG V qs aA X g):uy l m=aA:=by
 have D:=hI.aci;unfold uy;rw[show bE m l.free=V.fr from C9 hL hV (a:=.free) trivial,hI.yE hN];have:=Js (nx:=λ n=>bE m (aN l n 7)) (N:=l.nodes) aA [] (l.nodes.toNat+1) (λ x T=>by have:=hI.zv T;have:=hL.nodes;omega) (by simpa using D) (by
  have:=v5 N aA D (λ x T=>hI.zv T);have:=hL.nodes;omega) hI.lf (λ x T=>C9 hL hV (a:=.lk x) (hI.zv T))
 simpa using this
def tG(m:List Int):Prop:=∀x∈m,x<9223372036854775808
theorem Jp{m:List Int}{i:Nat}{v:Int}(h:tG m)(hv:v<9223372036854775808):tG (m.set i v):=λ x T=>by
 rcases List.mem_or_eq_of_mem_set T with T|rfl
 ·exact h x T
 ·exact hv
theorem An(r:wy):bK r<9223372036854775808:=by unfold bK;have A:=Int.emod_lt_of_pos r.idx (show(0:Int)<65536 by omega);have F:=Int.emod_lt_of_pos r.mF (show(0:Int)<268435456 by omega);split<;>omega
theorem VN(a:Ak):(a.acc l).cell=a.ad.cell l:=by cases a<;>rfl
theorem WP{a:Ak}(h:tG m)(hw:a.wr<9223372036854775808)(hu:0<=dp m l.era/\dp m l.era<=1000000):tG (ii m (a.acc l)).1:=by
 cases a with
 |ld a=>simp only[Ak.acc];rw[NJ];exact h
 |st a v=>simp only[Ak.acc];rw[NK];exact Jp h hw
 |cs a o v=>
  simp only[Ak.acc];rw[NI];split
  ·exact Jp h hw
  ·exact h
 |up=>simp only[Ak.acc];rw[NH,ID (by omega) (by omega)];exact Jp h (by omega)
theorem Wg(hI:Inv ag l S N aG V qs aA X g)(hK:aG<=100000)(hq:qs[w]?=some q)(J:∀k,q.pc=.at_ k->(ak.ask k).wr<9223372036854775808):(cf ak w q.pc).wr<9223372036854775808:=by
 have cT:=(hI.loc w q hq).pc;have xk:=hI.er;have ix:∀f,(ae f).idx<9223372036854775808:=λ f=>by have:=(kU f).2;omega
 obtain⟨pc,s⟩:=q;cases pc with
 |at_ k=>exact J k rfl
 |t3 k f lk=>exact An _
 |t5 k n a b=>have:b<=V.er:=cT.2.2;show b<_;omega
 |g3 k i c er=>have:er<=V.er:=cT.2.2.2.2.2.2.2;show er<_;omega
 |v2 k n f=>exact ix f
 |v3 k n f=>exact An _
 |w2 k aw y gs aL f=>exact ix f
 |w3 k aw y gs aL f=>exact An _
 |_=>show(0:Int)<_;omega
theorem WO(hI:Inv ag l S N aG V qs aA X g)(hK:aG<=100000)(hV:pP l S N m V)(hq:qs[w]?=some q)(J:∀k,q.pc=.at_ k->(ak.ask k).wr<9223372036854775808)(h:tG m):tG (ii m ((cf ak w q.pc).acc l)).1:=by have xk:=hI.er;have he:dp m l.era=V.er:=hV.at_ .era trivial;exact WP h (Wg hI hK hq J) (by omega)
theorem afv(hL:rA l S N){a:Ad}(ha:a.ok l S N){n:Int}(A:1<=n)(hN:n<=N)(hn:∀i,a≠.nd n i)(Z:a≠.bi n):¬(aN l n 0<=a.cell l/\a.cell l<aN l n 0+7):=by
 rintro⟨c1,c2⟩;have e0:=hL.node n 0 A hN (by omega) (by omega);generalize hj:a.cell l-aN l n 0=j
 by_cases h6:j=6
 ·have e6:=hL.node n 6 A hN (by omega) (by omega);exact Z (Ad.Jo hL ha (b:=.bi n) ⟨A,hN⟩ (by show a.cell l=aN l n 6;omega))
 ·have e6:=hL.node n j A hN (by omega) (by omega);exact hn j (Ad.Jo hL ha (b:=.nd n j) ⟨A,hN,by omega,by omega⟩ (by show a.cell l=aN l n j;omega))
theorem Wf(hs:nO ak ag l S N)(hI:Inv ag l S N aG V qs aA X g)(hq:qs[w]?=some q)(hf:q.pc.pS){n:Int}(hn:n∈aA)(J:∀k i,q.pc=.at_ k->(ak.ask k).ad≠.nd n i)(hg:∀k i c j,q.pc=.g1 k i c->c≠.nd n j):(∀i,(cf ak w q.pc).ad≠.nd n i)/\(cf ak w q.pc).ad≠.bi n:=by
 have cT:=(hI.loc w q hq).pc;have l5:∀x,x∈own ag q->x≠n:=λ x T e=>by
  subst e;exact(hI.ts hq T).1 hn
 obtain⟨pc,s⟩:=q;cases pc with
 |at_ k=>
  refine⟨λ i=>J k i rfl,λ e=>?_⟩;have cF:=hs.ask (k:=k) (P:=Pr ag V X qs w s) hI.si cT.1 (λ i n h=>by
   rcases uH h with h|h
   ·exact hI.rW h
   ·exact(hI.dq h).1) (λ n h=>by
   rcases h with h|h|h
   ·exact hI.rW h
   ·exact hI.nD hq (List.mem_append_left _ h)
   ·exact hI.nD hq (List.mem_append_right _ (List.mem_append_left _ h)))
  have e:(ak.ask k).ad=.bi n:=e;have:(ak.ask k).ad.str l S N:=by
   cases h:ak.ask k with
   |ld a=>rw[h] at cF;exact cF
   |st a v=>rw[h] at cF;exact cF
   |cs a o v=>rw[h] at cF;exact cF
   |up=>rw[h] at cF;exact absurd cF id
  rw[e] at this;exact absurd this id
 |t5 k x a b=>exact⟨λ i e=>by simp[cf,Ak.ad] at e,λ e=>by simp only[cf,Ak.ad,Ad.bi.injEq] at e;exact l5 x (by simp[own,eJ]) e⟩
 |s1 k aw y gs aL=>exact⟨λ i e=>by simp[cf,Ak.ad] at e,λ e=>by simp only[cf,Ak.ad,Ad.bi.injEq] at e;exact l5 y.1 (by simp[own,ej,iU]) e⟩
 |g1 k i c=>refine⟨λ j=>hg k i c j rfl,λ e=>?_⟩;have cF:c.str l S N:=cT.2.2.2.2.1;have e:c=.bi n:=e;rw[e] at cF;exact absurd cF id
 |rs k aw c cs=>obtain⟨x,i,_,_,_,_,rfl⟩:=cT.2.2.2 c (by simp);exact⟨λ i e=>by simp[cf,Ak.ad] at e,λ e=>by simp[cf,Ak.ad] at e⟩
 |fin o=>exact absurd hf id
 |bG k=>exact absurd hf id
 |_=>exact⟨λ i e=>by simp[cf,Ak.ad] at e,λ e=>by simp[cf,Ak.ad] at e⟩
end
inductive Sk where
 |sg (v m:Int)|sl (v m w i:Int)|sc (v m w i:Int)|sn (v m w:Int)|st (v m w nx:Int)
 |tk (v w:Int)|f0 (v w n:Int)|f1 (v w n:Int)|f2 (v w n i:Int)|sa (v m w:Int)|sb (w m a:Int)|sv (a:Int)|fi (o:aY)
 |rg|rl (w i:Int)|rc (w i x:Int)|rn (w:Int)|re (w nx:Int)|rt (w nx en:Int)|rh (w nx:Int)|rx (n:Int)|rr
def jm(a:Int):aY:=⟨0,true,0,a,[]⟩
def mv(a:Int):aY:=⟨0,false,0,a,[]⟩
section
variable(D R:Int)
def iI:Sk->Ak
 |.sl _ _ w i=>.ld (.nd (ae w).idx i)
 |.sc v _ w i=>.cs (.nd (ae w).idx i) 0 (v+2)
 |.sn _ _ w=>.ld (.nd (ae w).idx 0)
 |.st _ _ w nx=>.cs (.ob R) w (bK (ca (ae w) nx))
 |.f0 _ _ n=>.st (.nd n 0) 0
 |.f1 v _ n=>.st (.nd n 1) (v+2)
 |.f2 _ _ n i=>.st (.nd n i) 0
 |.sa _ m w=>.cs (.nd (ae w).idx 0) 0 m
 |.sb w m _=>.cs (.ob R) w (bK (ca (ae w) m))
 |.rl w i=>.ld (.nd (ae w).idx i)
 |.rc w i x=>.cs (.nd (ae w).idx i) x 1
 |.rn w=>.ld (.nd (ae w).idx 0)
 |.re _ _=>.ld (.ob R)
 |.rt _ nx en=>.cs (.ob R) en (bK (ca (ae en) nx))
 |.rh w nx=>.cs (.ob D) w (bK (ca (ae w) nx))
 |_=>.ld (.ob R)
def kB(v m w i:Int):Pc Sk:=if i<5 then .at_ (.sl v m w (i+1)) else .at_ (.sn v m w)
def l9(w i:Int):Pc Sk:=if i<5 then .at_ (.rl w (i+1)) else .at_ (.rn w)
def oq:Sk->Nat->aF->Pc Sk
 |.sl v m w i,_,r=>if r.val=0 then .at_ (.sc v m w i) else kB v m w i
 |.sc v m w i,made,r=>if r.ok then(if m=0 then .bG (.fi (jm made)) else .v1 (.sv made) m) else kB v m w i
 |.sn v m w,_,r=>if r.val=0 then(if m=0 then .t1 (.tk v w) else .at_ (.sa v m w)) else .at_ (.st v m w r.val)
 |.st v m _ _,_,_=>.g1 (.sg v m) 0 (.ob R)
 |.f0 v w n,_,_=>.at_ (.f1 v w n)
 |.f1 v w n,_,_=>.at_ (.f2 v w n 2)
 |.f2 v w n i,_,_=>if i<5 then .at_ (.f2 v w n (i+1)) else .at_ (.sa v n w)
 |.sa v m w,made,r=>if r.ok then .at_ (.sb w m made) else .g1 (.sg v m) 0 (.ob R)
 |.sb _ _ a,_,_=>.bG (.fi (jm a))
 |.rl w i,made,r=>if r.val=0 then .bG (.fi (mv made)) else if r.val=1 then l9 w i else .at_ (.rc w i r.val)
 |.rc w i x,made,r=>if r.ok then .bG (.fi ⟨m4 (x-2),true,0,made,[]⟩) else l9 w i
 |.rn w,made,r=>if r.val=0 then .bG (.fi (mv made)) else .at_ (.re w r.val)
 |.re w nx,_,r=>if(ae r.val).idx=(ae w).idx then .at_ (.rt w nx r.val) else .at_ (.rh w nx)
 |.rt w nx _,_,_=>.at_ (.rh w nx)
 |.rh w _,_,r=>if r.ok then .bG (.rx (ae w).idx) else .g1 .rg 0 (.ob D)
 |k,_,_=>.at_ k
def aB:lx Sk where
 ask:=iI D R
 tell:=oq D R
 uO:=λ k n _=>match k with
  |.tk v w=>.at_ (.f0 v w n)
  |k=>.v1 k n
 full:=λ k a=>match k with
  |.tk _ _=>.bG (.fi ⟨0,false,8,a,[]⟩)
  |k=>.at_ k
 guarded:=λ k v _=>match k with
  |.sg x m=>.at_ (.sl x m v 1)
  |.rg=>.at_ (.rl v 1)
  |k=>.at_ k
 rD:=λ k=>match k with
  |.fi o=>.fin o
  |.rx n=>.r1 .rr n
  |k=>.at_ k
 sN:=λ k=>match k with
  |.sv a=>.bG (.fi (jm a))
  |k=>.at_ k
 retired:=λ k=>match k with
  |.rr=>.g1 .rg 0 (.ob D)
  |k=>.at_ k
end
section
variable{D R:Int}{l:ah}{S:Nat}{G:Int}{log:List aF}
theorem oH{o:aY}{s:af}(hs:s.made<=log.length){f:Unit->Pm aY}(hf:∀s,f () log s=.ok (o,s)):bT (aB D R) l S G (aR (aB D R) (.bG (.fi o)) s) ((gB l G).bind f log s) (log.drop s.made):=
 F9 (M0:=s.made) (λ s _ _ _ _ _=>by rw[hf];exact JF) s (Nat.le_refl _) hs
theorem adh{v m w:Int}{M0:Nat}{f:Option Int->Pm aY}
 (A:∀(a:Nat)(s:af),M0<s.made->s.made<=log.length->bT (aB D R) l S G (aR (aB D R) (if m=0 then .bG (.fi (jm a)) else .v1 (.sv a) m) s) (f (some (a:Int)) log s) (log.drop s.made))
 (F:∀s:af,M0<s.made->s.made<=log.length->bT (aB D R) l S G ⟨.at_ (.sn v m w),s⟩ (f none log s) (log.drop s.made)):
 ∀(k:Nat)(i:Int)(s:af),i+k=5->M0<=s.made->bT (aB D R) l S G ⟨.at_ (.sl v m w i),s⟩ ((uG l (ae w).idx v ((List.range (k+1)).map λ(j:Nat)=>i+j)).bind f log s) (log.drop s.made):=by
 intro k;induction k with
 |zero=>
  intro i s hi hM;have D6:¬i<5:=by omega
  rw[show((List.range (0+1)).map λ(j:Nat)=>i+(j:Int))=[i] by simp,uG,bind_assoc,mR];refine eP rfl trivial λ r O=>?_
  show bT (aB D R) l S G (aR (aB D R) (if r.val=0 then _ else kB v m w i) s.up) _ _
  by_cases h0:r.val=0
  ·rw[if_pos h0,if_pos h0,bind_assoc,pd];refine eP (q:=⟨.at_ (Sk.sc v m w i),s.up⟩) (s:=s.up) rfl trivial λ r2 h4=>?_
   show bT (aB D R) l S G (aR (aB D R) (if r2.ok then _ else kB v m w i) s.up.up) _ _
   by_cases J:r2.ok=true
   ·rw[if_pos J,if_pos J,bind_assoc,az eu];have:=A s.up.made s.up.up (by simp only[af.up];omega) (by simp only[af.up] at h4⊢;omega);show bT (aB D R) l S G _ (f (some (((s.up.made+1:Nat):Int)-1)) log _) _;rw[show((s.up.made+1:Nat):Int)-1=(s.up.made:Int) by omega];exact this
   ·rw[if_neg J,if_neg J];unfold kB;rw[if_neg D6];exact F s.up.up (by simp only[af.up];omega) (by simp only[af.up] at h4⊢;omega)
  ·rw[if_neg h0,if_neg h0];unfold kB;rw[if_neg D6];exact F s.up (by simp only[af.up];omega) (by simp only[af.up];omega)
 |succ k ih=>
  intro i s hi hM;have D6:i<5:=by omega
  have hr:((List.range (k+1+1)).map λ(j:Nat)=>i+(j:Int))=i::((List.range (k+1)).map λ(j:Nat)=>(i+1)+(j:Int)):=by
   rw[List.range_succ_eq_map];simp only[List.map_cons,List.map_map]
   congr 1
   ·simp
   ·apply List.map_congr_left;intro j _;simp only[Function.comp];omega
  rw[hr,uG,bind_assoc,mR];refine eP rfl trivial λ r O=>?_
  show bT (aB D R) l S G (aR (aB D R) (if r.val=0 then _ else kB v m w i) s.up) _ _
  by_cases h0:r.val=0
  ·rw[if_pos h0,if_pos h0,bind_assoc,pd];refine eP (q:=⟨.at_ (Sk.sc v m w i),s.up⟩) (s:=s.up) rfl trivial λ r2 h4=>?_
   show bT (aB D R) l S G (aR (aB D R) (if r2.ok then _ else kB v m w i) s.up.up) _ _
   by_cases J:r2.ok=true
   ·rw[if_pos J,if_pos J,bind_assoc,az eu];have:=A s.up.made s.up.up (by simp only[af.up];omega) (by simp only[af.up] at h4⊢;omega);show bT (aB D R) l S G _ (f (some (((s.up.made+1:Nat):Int)-1)) log _) _;rw[show((s.up.made+1:Nat):Int)-1=(s.up.made:Int) by omega];exact this
   ·rw[if_neg J,if_neg J];unfold kB;rw[if_pos D6];exact ih (i+1) s.up.up (by omega) (by simp only[af.up];omega)
  ·rw[if_neg h0,if_neg h0];unfold kB;rw[if_pos D6];exact ih (i+1) s.up (by omega) (by simp only[af.up];omega)
theorem Tj:Aq=(List.range (4+1)).map λ(j:Nat)=>(1:Int)+j:=by decide
theorem OE{v m w:Int}{M0:Nat}{f:Option aY×Int->Pm aY}
 (A:∀(o:aY)(s:af),f (some o,m) log s=.ok (o,s))
 (F:∀s:af,M0<s.made->s.made<=log.length->bT (aB D R) l S G ⟨.g1 (.sg v m) 0 (.ob R),s⟩ (f (none,m) log s) (log.drop s.made))
 (s:af)(hM:M0<=s.made):bT (aB D R) l S G ⟨.at_ (.sa v m w),s⟩ ((uW l G R w m).bind f log s) (log.drop s.made):=by
 rw[uW,bind_assoc,pd];refine eP rfl trivial λ r O=>?_
 show bT (aB D R) l S G (aR (aB D R) (if r.ok then _ else _) s.up) _ _
 by_cases J:r.ok=true
 ·rw[if_pos J,if_pos J,bind_assoc,az eu,bind_assoc,pd];refine eP (q:=⟨.at_ (Sk.sb w m s.made),s.up⟩) (s:=s.up) rfl trivial λ r2 h4=>?_
  rw[bind_assoc];have:=oH (D:=D) (R:=R) (l:=l) (S:=S) (G:=G) (log:=log) (o:=jm s.made) (s:=s.up.up) (by simp only[af.up] at h4⊢;omega) (f:=λ _=>(Pm.pure (some ⟨0,true,0,((s.made+1:Nat):Int)-1,[]⟩,m)).bind f) (λ aa=>by
   show f (some ⟨0,true,0,((s.made+1:Nat):Int)-1,[]⟩,m) log aa=_;rw[A,show((s.made+1:Nat):Int)-1=(s.made:Int) by omega];rfl)
  exact this
 ·rw[if_neg J,if_neg J];exact F s.up (by simp only[af.up];omega) (by simp only[af.up];omega)
theorem XC{v w n:Int}{M0:Nat}{f:Unit->Pm aY}(h:∀s:af,M0<s.made->s.made<=log.length->bT (aB D R) l S G ⟨.at_ (.sa v n w),s⟩ (f () log s) (log.drop s.made))(s:af)(hM:M0<=s.made):bT (aB D R) l S G ⟨.at_ (.f0 v w n),s⟩ ((tY l n v).bind f log s) (log.drop s.made):=by
 rw[tY,bind_assoc,oY];refine eP rfl trivial λ r1 A=>?_
 rw[bind_assoc,oY];refine eP (q:=⟨.at_ (Sk.f1 v w n),s.up⟩) (s:=s.up) rfl trivial λ r2 F=>?_
 rw[pX,bind_assoc,oY];refine eP (q:=⟨.at_ (Sk.f2 v w n 2),s.up.up⟩) (s:=s.up.up) rfl trivial λ r3 O=>?_
 rw[pX,bind_assoc,oY];refine eP (q:=⟨.at_ (Sk.f2 v w n 3),s.up.up.up⟩) (s:=s.up.up.up) rfl trivial λ r4 h4=>?_
 rw[pX,bind_assoc,oY];refine eP (q:=⟨.at_ (Sk.f2 v w n 4),s.up.up.up.up⟩) (s:=s.up.up.up.up) rfl trivial λ r5 h5=>?_
 rw[pX,bind_assoc,oY];refine eP (q:=⟨.at_ (Sk.f2 v w n 5),s.up.up.up.up.up⟩) (s:=s.up.up.up.up.up) rfl trivial λ ahQ h6=>?_
 exact h s.up.up.up.up.up.up (by simp only[af.up];omega) (by simp only[af.up] at h6⊢;omega)
theorem Wl{v m:Int}{M0:Nat}{f:Option aY×Int->Pm aY}
 (A:∀(o:aY)(m:Int)(s:af),f (some o,m) log s=.ok (o,s))
 (F:∀(m:Int)(s:af),M0<s.made->s.made<=log.length->bT (aB D R) l S G ⟨.g1 (.sg v m) 0 (.ob R),s⟩ (f (none,m) log s) (log.drop s.made))
 (s:af)(hM:M0<=s.made)(oa:s.made<=log.length):bT (aB D R) l S G ⟨.g1 (.sg v m) 0 (.ob R),s⟩ ((wK l G R v m).bind f log s) (log.drop s.made):=by
 rw[wK,bind_assoc];refine DA (M0:=M0) (c:=.ob R) (λ w a s hM hs=>?_) (log.length+1-s.made) s hM (by omega);show bT (aB D R) l S G ⟨.at_ (.sl v m w 1),s⟩ _ _;rw[bind_assoc,Tj];refine adh (M0:=M0) (λ a s hM hs=>?_) (λ s hM hs=>?_) 4 1 s (by omega) hM
 ·simp only
  by_cases hm:m=0
  ·rw[if_pos hm,if_pos hm,bind_assoc];exact oH hs (λ s=>A _ _ s)
  ·rw[if_neg hm,if_neg hm,bind_assoc];refine JV (k:=Sk.sv a) (n:=m) (M0:=s.made) (λ s _ hs=>?_) (log.length+1-s.made) s (Nat.le_refl _) (by omega);rw[bind_assoc];exact oH hs (λ s=>A _ _ s)
 ·simp only;rw[bind_assoc,mR];refine eP rfl trivial λ r O=>?_
  show bT (aB D R) l S G (aR (aB D R) (if r.val=0 then(if m=0 then _ else _) else _) s.up) _ _
  by_cases h0:r.val=0
  ·rw[if_pos h0,if_pos h0]
   by_cases hm:m=0
   ·rw[if_pos hm,if_pos hm,bind_assoc];refine NC (M0:=s.up.made) (k:=Sk.tk v w) (λ n a aa DF zf=>?_) (λ a aa DF zf=>?_) (log.length+1-s.up.made) s.up (Nat.le_refl _) (by simp only[af.up];omega)
    ·simp only[if_true];rw[bind_assoc];show bT (aB D R) l S G ⟨.at_ (.f0 v w n),aa⟩ _ _;refine XC (M0:=aa.made) (λ s2 Bu fD=>?_) aa (Nat.le_refl _);exact OE (M0:=s2.made) (λ o s=>A o n s) (λ s3 GJ gx=>F n s3 (by simp only[af.up] at*;omega) gx) s2 (Nat.le_refl _)
    ·simp only[Bool.false_eq_true,if_false];rw[bind_assoc];exact oH zf (λ s=>A _ _ s)
   ·rw[if_neg hm,if_neg hm];exact OE (M0:=s.up.made) (λ o s=>A o m s) (λ s3 GJ gx=>F m s3 (by simp only[af.up] at*;omega) gx) s.up (Nat.le_refl _)
  ·rw[if_neg h0,if_neg h0,bind_assoc,pd];refine eP (q:=⟨.at_ (Sk.st v m w r.val),s.up⟩) (s:=s.up) rfl trivial λ r2 h4=>?_
   exact F m s.up.up (by simp only[af.up];omega) (by simp only[af.up] at h4⊢;omega)
theorem Ub{v:Int}:∀(k:Nat)(m:Int)(s:af),s.made<=log.length->log.length-s.made<k->bT (aB D R) l S G ⟨.g1 (.sg v m) 0 (.ob R),s⟩ (AD l G R v k m log s) (log.drop s.made)
 |0,m,s,_,h=>by omega
 |k+1,m,s,hs,h=>by
  rw[AD];exact Wl (M0:=s.made) (λ o m s=>rfl) (λ m s2 hM fD=>Ub k m s2 fD (by omega)) s (Nat.le_refl _) hs
theorem adg{w:Int}{M0:Nat}{f:Option aY->Pm aY}
 (A:∀(o:aY)(s:af),M0<s.made->s.made<=log.length->bT (aB D R) l S G (aR (aB D R) (.bG (.fi o)) s) (f (some o) log s) (log.drop s.made))
 (F:∀s:af,M0<s.made->s.made<=log.length->bT (aB D R) l S G ⟨.at_ (.rn w),s⟩ (f none log s) (log.drop s.made)):
 ∀(k:Nat)(i:Int)(s:af),i+k=5->M0<=s.made->bT (aB D R) l S G ⟨.at_ (.rl w i),s⟩ ((tu l (ae w).idx ((List.range (k+1)).map λ(j:Nat)=>i+j)).bind f log s) (log.drop s.made):=by
 intro k;have one:∀(i:Int)(is:List Int)(s:af),M0<=s.made->(∀aa,M0<aa.made->aa.made<=log.length->bT (aB D R) l S G (aR (aB D R) (l9 w i) aa) ((tu l (ae w).idx is).bind f log aa) (log.drop aa.made))->bT (aB D R) l S G ⟨.at_ (.rl w i),s⟩ ((tu l (ae w).idx (i::is)).bind f log s) (log.drop s.made):=by
  intro i is s hM hn;rw[tu,bind_assoc,mR];refine eP rfl trivial λ r O=>?_
  rw[bind_assoc,az eu];show bT (aB D R) l S G (aR (aB D R) (if r.val=0 then _ else if r.val=1 then _ else _) s.up) _ _
  by_cases h0:r.val=0
  ·rw[if_pos h0,if_pos h0];have:=A (mv s.made) s.up (by simp only[af.up];omega) (by simp only[af.up];omega);show bT (aB D R) l S G _ (f (some ⟨0,false,0,((s.made+1:Nat):Int)-1,[]⟩) log s.up) _;rw[show((s.made+1:Nat):Int)-1=(s.made:Int) by omega];exact this
  ·rw[if_neg h0,if_neg h0]
   by_cases h4:r.val=1
   ·rw[if_pos h4,if_pos h4];exact hn s.up (by simp only[af.up];omega) (by simp only[af.up];omega)
   ·rw[if_neg h4,if_neg h4,bind_assoc,pd];refine eP (q:=⟨.at_ (Sk.rc w i r.val),s.up⟩) (s:=s.up) rfl trivial λ r2 h5=>?_
    show bT (aB D R) l S G (aR (aB D R) (if r2.ok then _ else _) s.up.up) _ _
    by_cases J:r2.ok=true
    ·rw[if_pos J,if_pos J,bind_assoc,az eu];have:=A ⟨m4 (r.val-2),true,0,s.up.made,[]⟩ s.up.up (by simp only[af.up];omega) (by simp only[af.up] at h5⊢;omega);show bT (aB D R) l S G _ (f (some ⟨m4 (r.val-2),true,0,((s.up.made+1:Nat):Int)-1,[]⟩) log s.up.up) _;rw[show((s.up.made+1:Nat):Int)-1=(s.up.made:Int) by omega];exact this
    ·rw[if_neg J,if_neg J];exact hn s.up.up (by simp only[af.up];omega) (by simp only[af.up] at h5⊢;omega)
 induction k with
 |zero=>
  intro i s hi hM;rw[show((List.range (0+1)).map λ(j:Nat)=>i+(j:Int))=[i] by simp];refine one i [] s hM λ aa DF zf=>?_
  unfold l9;rw[if_neg (by omega)];exact F aa DF zf
 |succ k ih=>
  intro i s hi hM;have hr:((List.range (k+1+1)).map λ(j:Nat)=>i+(j:Int))=i::((List.range (k+1)).map λ(j:Nat)=>(i+1)+(j:Int)):=by
   rw[List.range_succ_eq_map];simp only[List.map_cons,List.map_map]
   congr 1
   ·simp
   ·apply List.map_congr_left;intro j _;simp only[Function.comp];omega
  rw[hr];refine one i _ s hM λ aa DF zf=>?_
  unfold l9;rw[if_pos (by omega)];exact ih (i+1) aa (by omega) (by omega)
theorem OD(hS:l.ar=(S:Int)){w nx:Int}{M0:Nat}{f:Option aY->Pm aY}
 (F:∀s:af,M0<s.made->s.made<=log.length->bT (aB D R) l S G ⟨.g1 .rg 0 (.ob D),s⟩ (f none log s) (log.drop s.made))
 (s:af)(hM:M0<=s.made):bT (aB D R) l S G ⟨.at_ (.rh w nx),s⟩ ((uV l G D w nx).bind f log s) (log.drop s.made):=by
 rw[uV,bind_assoc,pd];refine eP rfl trivial λ r O=>?_
 show bT (aB D R) l S G (aR (aB D R) (if r.ok then _ else _) s.up) _ _
 by_cases J:r.ok=true
 ·rw[if_pos J,if_pos J,bind_assoc];refine F9 (M0:=s.up.made) (λ s1 _ _ _ rL fe=>?_) s.up (Nat.le_refl _) (by simp only[af.up];omega);rw[bind_assoc];show bT (aB D R) l S G ⟨.r1 .rr (ae w).idx,s1⟩ _ _;refine MM hS (M0:=s1.made) (λ s2 Bu fD=>?_) s1 (Nat.le_refl _);exact F s2 (by simp only[af.up] at rL;omega) fD
 ·rw[if_neg J,if_neg J];exact F s.up (by simp only[af.up];omega) (by simp only[af.up];omega)
theorem Wk(hS:l.ar=(S:Int)){M0:Nat}{f:Option aY->Pm aY}
 (A:∀(o:aY)(s:af),f (some o) log s=.ok (o,s))
 (F:∀s:af,M0<s.made->s.made<=log.length->bT (aB D R) l S G ⟨.g1 .rg 0 (.ob D),s⟩ (f none log s) (log.drop s.made))
 (s:af)(hM:M0<=s.made)(oa:s.made<=log.length):bT (aB D R) l S G ⟨.g1 .rg 0 (.ob D),s⟩ ((wJ l G D R).bind f log s) (log.drop s.made):=by
 rw[wJ,bind_assoc];refine DA (M0:=M0) (c:=.ob D) (λ w a s hM hs=>?_) (log.length+1-s.made) s hM (by omega);show bT (aB D R) l S G ⟨.at_ (.rl w 1),s⟩ _ _;rw[bind_assoc,Tj];refine adg (M0:=M0) (λ o s hM hs=>?_) (λ s hM hs=>?_) 4 1 s (by omega) hM
 ·simp only;rw[bind_assoc];exact oH hs (λ s=>A _ s)
 ·simp only;rw[bind_assoc,mR];refine eP rfl trivial λ r O=>?_
  show bT (aB D R) l S G (aR (aB D R) (if r.val=0 then _ else _) s.up) _ _
  by_cases h0:r.val=0
  ·rw[if_pos h0,if_pos h0,bind_assoc,az eu,bind_assoc];refine oH (by simp only[af.up];omega) (λ aa=>?_);show f (some ⟨0,false,0,((s.made+1:Nat):Int)-1,[]⟩) log aa=_;rw[A,show((s.made+1:Nat):Int)-1=(s.made:Int) by omega];rfl
  ·rw[if_neg h0,if_neg h0,bind_assoc,mR];refine eP (q:=⟨.at_ (Sk.re w r.val),s.up⟩) (s:=s.up) rfl trivial λ r2 h4=>?_
   show bT (aB D R) l S G (aR (aB D R) (if(ae r2.val).idx=(ae w).idx then _ else _) s.up.up) _ _
   by_cases he:(ae r2.val).idx=(ae w).idx
   ·rw[if_pos he,if_pos he,bind_assoc,pd];refine eP (q:=⟨.at_ (Sk.rt w r.val r2.val),s.up.up⟩) (s:=s.up.up) rfl trivial λ r3 h5=>?_
    exact OD hS (M0:=M0) F s.up.up.up (by simp only[af.up];omega)
   ·rw[if_neg he,if_neg he];exact OD hS (M0:=M0) F s.up.up (by simp only[af.up];omega)
theorem TL(hS:l.ar=(S:Int)):∀(k:Nat)(s:af),s.made<=log.length->log.length-s.made<k->bT (aB D R) l S G ⟨.g1 .rg 0 (.ob D),s⟩ (Ax l G D R k log s) (log.drop s.made)
 |0,s,_,h=>by omega
 |k+1,s,hs,h=>by
  rw[Ax];exact Wk hS (M0:=s.made) (λ o s=>rfl) (λ s2 hM fD=>TL hS k s2 fD (by omega)) s (Nat.le_refl _) hs
end
def i8(D R:Int)(op:bl)(gone:List (Int×Int)):Q Sk:=⟨if op.kind=6 then .g1 (.sg op.a 0) 0 (.ob R) else .g1 .rg 0 (.ob D),⟨0,gone,0,0,0⟩⟩
theorem EW{l:ah}{S:Nat}{G:Int}(hS:l.ar=(S:Int)){gone:List (Int×Int)}{op:bl}{log:List aF}(hh:¬gm l op.obj<0)(J:op.kind=6\/op.kind=7):
 dJ l G gone op log=sK (aB (gm l op.obj) (mY l op.obj)) l G (oo (aB (gm l op.obj) (mY l op.obj)) S (i8 (gm l op.obj) (mY l op.obj) op gone) log):=by
 unfold dJ;rw[if_neg hh];rcases J with J|J
 ·rw[if_pos J];unfold i8;rw[if_pos J];have:=Ub (D:=gm l op.obj) (l:=l) (S:=S) (G:=G) (log:=log) (R:=mY l op.obj) (v:=op.a) (log.length+1) 0 ⟨0,gone,0,0,0⟩ (by simp) (by simp);exact this
 ·rw[if_neg (by omega),if_pos J];unfold i8;rw[if_neg (by omega)];have:=TL (D:=gm l op.obj) (l:=l) (S:=S) (G:=G) (log:=log) (R:=mY l op.obj) hS (log.length+1) ⟨0,gone,0,0,0⟩ (by simp) (by simp);exact this
theorem Cw{n i:Nat}{x y:Int}(h:(List.replicate n x)[i]?=some y):y=x:=by
 rw[List.getElem?_replicate] at h;split at h
 ·cases h;rfl
 ·cases h
theorem aex{aE am:List Int}{c p:Nat}{x:Int}(hL:aE=am++List.replicate c 0)(hA:∀v∈am,v≠0)(h0:aE[p]?=some 0)(hn:∀q,am.length<=q->q<p->aE[q]?≠some 0):p=am.length/\0<c/\aE.set p x=(am++[x])++List.replicate (c-1) 0:=by
 subst hL;have A:am.length<=p:=by
  rcases Nat.lt_or_ge p am.length with h|h
  ·rw[List.getElem?_append_left h] at h0;exact absurd rfl (hA 0 (List.mem_of_getElem? h0))
  ·exact h
 have hp:p<am.length+c:=by
  have:=(List.getElem?_eq_some_iff.1 h0).1
  simpa using this
 have F:p=am.length:=by
  rcases Nat.lt_or_ge am.length p with h|h
  ·exfalso;refine hn am.length (Nat.le_refl _) h ?_;rw[List.getElem?_append_right (Nat.le_refl _),Nat.sub_self,List.getElem?_replicate,if_pos (by omega)]
  ·omega
 refine⟨F,by omega,?_⟩;obtain⟨d,rfl⟩:∃d,c=d+1:=⟨c-1,by omega⟩;rw[F,List.set_append_right _ _ (Nat.le_refl _),Nat.sub_self,List.replicate_succ,List.set_cons_zero];simp
theorem aez{aE vs:List Int}{a c p:Nat}{x:Int}(hL:aE=List.replicate a 1++(vs++List.replicate c 0))(hv:∀v∈vs,2<=v)(T:aE[p]?=some x)(F:2<=x)(hn:∀q,q<p->aE[q]?=some 1):∃eY,vs=x::eY/\aE.set p 1=List.replicate (a+1) 1++(eY++List.replicate c 0):=by
 subst hL;have A:a<=p:=by
  rcases Nat.lt_or_ge p a with h|h
  ·rw[List.getElem?_append_left (by simpa using h)] at T;have:=Cw T;omega
  ·exact h
 have O:p<=a:=by
  rcases Nat.lt_or_ge a p with h|h
  ·exfalso;have h4:=hn a h;rw[List.getElem?_append_right (by simp),List.length_replicate,Nat.sub_self] at h4;cases vs with
   |nil=>have:=Cw (x:=0) (by simpa using h4);omega
   |cons v vs=>simp at h4;have:=hv v (by simp);omega
  ·exact h
 have hp:p=a:=by omega
 subst hp;rw[List.getElem?_append_right (by simp),List.length_replicate,Nat.sub_self] at T;cases vs with
 |nil=>have:=Cw (x:=0) (by simpa using T);omega
 |cons v vs=>simp at T;subst T;refine⟨vs,rfl,?_⟩;rw[List.set_append_right _ _ (by simp),List.length_replicate,Nat.sub_self];simp[List.replicate_succ',List.append_assoc]
theorem TX{aE vs:List Int}{a c p:Nat}(hL:aE=List.replicate a 1++(vs++List.replicate c 0))(hv:∀v∈vs,2<=v)(T:aE[p]?=some 0\/p=aE.length)(hn:∀q,q<p->aE[q]?=some 1):vs=[]:=by
 cases vs with
 |nil=>rfl
 |cons v vs=>
  exfalso;have F:=hv v (by simp);have xA:aE[a]?=some v:=by rw[hL,List.getElem?_append_right (by simp)];simp
  have bm:=(List.getElem?_eq_some_iff.1 xA).1;rcases Nat.lt_or_ge a p with h|h
  ·have:=hn a h;rw[xA] at this;cases this;omega
  ·rcases T with T|T
   ·rcases Nat.lt_or_ge p a with O|O
    ·rw[hL,List.getElem?_append_left (by simpa using O)] at T;have:=Cw T;omega
    ·have:p=a:=by omega
     subst this;rw[xA] at T;cases T;omega
   ·omega
def mT(W:Ws)(n:Int):List Int:=[W.nd n 1,W.nd n 2,W.nd n 3,W.nd n 4,W.nd n 5]
def hZ(W:Ws)(X:List Int):List Int:=X.flatMap (mT W)
theorem xW(W:Ws):∀X:List Int,(hZ W X).length=5*X.length
 |[]=>rfl
 |x::X=>by
  have:=xW W X;unfold hZ at this⊢;rw[List.flatMap_cons,List.length_append,this];simp[mT];omega
theorem Ij(W:Ws)(X aH:List Int):hZ W (X++aH)=hZ W X++hZ W aH:=by simp[hZ]
theorem CF(W:Ws)(n:Int)(aH:List Int):hZ W (n::aH)=mT W n++hZ W aH:=rfl
theorem adp{W:Ws}{n i:Int}(i1:1<=i)(i5:i<=5):(mT W n)[(i-1).toNat]?=some (W.nd n i):=by
 have:i=1\/i=2\/i=3\/i=4\/i=5:=by omega
 rcases this with rfl|rfl|rfl|rfl|rfl<;>rfl
theorem adr{W:Ws}{n i v:Int}(i1:1<=i)(i5:i<=5):mT (W.eT n i v) n=(mT W n).set (i-1).toNat v:=by
 have:i=1\/i=2\/i=3\/i=4\/i=5:=by omega
 rcases this with rfl|rfl|rfl|rfl|rfl<;>simp[mT,Ws.eT]
theorem adq{W:Ws}{n m i v:Int}(h:m≠n):mT (W.eT n i v) m=mT W m:=by simp[mT,Ws.eT,h]
theorem Ik{W:Ws}{n i v:Int}:∀{X:List Int},n∉X->hZ (W.eT n i v) X=hZ W X
 |[],_=>rfl
 |x::X,h=>by
  rw[List.mem_cons] at h;rw[CF,CF,adq (λ e=>h (.inl e.symm)),Ik (λ e=>h (.inr e))]
theorem CE{W:Ws}{am B:List Int}{n i:Int}(i1:1<=i)(i5:i<=5):(hZ W (am++n::B))[5*am.length+(i-1).toNat]?=some (W.nd n i):=by rw[Ij,List.getElem?_append_right (by rw[xW];omega),xW,Nat.add_sub_cancel_left,CF,List.getElem?_append_left (by simp[mT];omega)];exact adp i1 i5
theorem Ue{W:Ws}{am B:List Int}{n i v:Int}(hA:n∉am)(hB:n∉B)(i1:1<=i)(i5:i<=5):hZ (W.eT n i v) (am++n::B)=(hZ W (am++n::B)).set (5*am.length+(i-1).toNat) v:=by rw[Ij,Ij,CF,CF,Ik hA,Ik hB,adr i1 i5,List.set_append_right _ _ (by rw[xW];omega),xW,Nat.add_sub_cancel_left,List.set_append_left _ _ (by simp[mT];omega)]
theorem ads{W:Ws}{n v:Int}(m:Int):mT (W.eT n 0 v) m=mT W m:=by simp[mT,Ws.eT]
theorem aeQ{W:Ws}{n v:Int}(X:List Int):hZ (W.eT n 0 v) X=hZ W X:=by
 unfold hZ
 congr 1
 funext m
 exact ads m
theorem HI{nx:Int->Int}:∀{X:List Int}{j:Nat}{t:Int},o7 nx X->X[j]?=some t->nx t=(X[j+1]?).getD 0
 |[],j,t,_,h=>by simp at h
 |x::X,0,t,U,h=>by
  simp at h;subst h;rw[U.1];cases X<;>rfl
 |x::X,j+1,t,U,h=>by
  have:=HI (j:=j) U.2 (by simpa using h)
  simpa using this
theorem Sd{nx Al:Int->Int}{n m:Int}:∀{X:List Int},o7 nx (X++[n])->(∀x∈X,Al x=nx x)->Al n=m->Al m=0->o7 Al (X++[n]++[m])
 |[],h,hs,A,F=>⟨A,F,trivial⟩
 |x::X,h,hs,A,F=>by
  refine⟨?_,Sd h.2 (λ y hy=>hs y (by simp[hy])) A F⟩;rw[hs x (by simp),h.1];cases X<;>rfl
def AS(W:Ws)(n:Int):Prop:=(∀i,1<=i->i<=5->W.nd n i=1)/\W.nd n 0≠0
def uQ(W:Ws)(n:Int):Prop:=∀i,1<=i->i<=5->W.nd n i≠0
def CN(W:Ws)(n:Int):Prop:=∀i,1<=i->i<=5->W.nd n i=1
def oD(v:Int):Prop:=0<=v/\v<4294967296
def CW(W:Ws)(v m:Int):Prop:=W.nd m 0=0/\W.nd m 1=v+2/\∀i,2<=i->i<=5->W.nd m i=0
def ww(W:Ws)(v m:Int):Prop:=0<=m/\(m≠0->CW W v m)
structure ge where
 ret:Nat
 put:Nat
 vs:List Int
section
variable(D R:Int)(N:Nat)
structure gh(aG:Nat)(W:Ws)(X:List Int)(ay:Int->Prop)(g:ge):Prop where
 head:W.ob D=131072*(g.ret:Int)+X.headD 0
 rk:g.ret<=aG
 tail:∃(j:Nat)(t:Int),X[j]?=some t/\X.length<=j+2/\W.ob R=131072*((g.ret:Int)+j)+t
 link:o7 (λ n=>W.nd n 0) X
 seq:∃a c:Nat,hZ W X=List.replicate a 1++(g.vs++List.replicate c 0)/\c<=5/\5*(g.ret+X.length)=g.put+c
 vs:∀v∈g.vs,2<=v/\v<4294967298
 dg:∀n,ay n->AS W n
 iw:∀n∈X,1<=n/\n<=(N:Int)
def SW(W:Ws)(P:Int->Int->Prop)(w:Int):Prop:=jt N w (W.ob R)/\1<=(ae w).idx/\P 0 (ae w).idx/\(W.ob R≠w->W.nd (ae w).idx 0≠0)
def RW(W:Ws)(P:Int->Int->Prop)(w:Int):Prop:=jt N w (W.ob D)/\1<=(ae w).idx/\P 0 (ae w).idx/\(W.ob D≠w->AS W (ae w).idx)
def qo(W:Ws)(P:Int->Int->Prop):Sk->Prop
 |.sg v m=>oD v/\ww W v m
 |.sl v m w i=>oD v/\ww W v m/\SW R N W P w/\1<=i/\i<=5/\∀j,1<=j->j<i->W.nd (ae w).idx j≠0
 |.sc v m w i=>oD v/\ww W v m/\SW R N W P w/\1<=i/\i<=5/\∀j,1<=j->j<i->W.nd (ae w).idx j≠0
 |.sn v m w=>oD v/\ww W v m/\SW R N W P w/\uQ W (ae w).idx
 |.st v m w nx=>oD v/\ww W v m/\jt N w (W.ob R)/\nx≠0/\(W.ob R=w->W.nd (ae w).idx 0=nx)
 |.tk v w=>oD v/\SW R N W P w/\uQ W (ae w).idx
 |.f0 v w n=>oD v/\SW R N W P w/\uQ W (ae w).idx/\1<=n
 |.f1 v w n=>oD v/\SW R N W P w/\uQ W (ae w).idx/\1<=n/\W.nd n 0=0
 |.f2 v w n i=>oD v/\SW R N W P w/\uQ W (ae w).idx/\1<=n/\W.nd n 0=0/\W.nd n 1=v+2/\2<=i/\i<=5/\∀j,2<=j->j<i->W.nd n j=0
 |.sa v m w=>oD v/\SW R N W P w/\uQ W (ae w).idx/\1<=m/\CW W v m
 |.sb w m _=>jt N w (W.ob R)/\m≠0/\(W.ob R=w->W.nd (ae w).idx 0=m)
 |.rl w i=>RW D N W P w/\1<=i/\i<=5/\∀j,1<=j->j<i->W.nd (ae w).idx j=1
 |.rc w i x=>RW D N W P w/\1<=i/\i<=5/\(∀j,1<=j->j<i->W.nd (ae w).idx j=1)/\2<=x/\(W.nd (ae w).idx i=x\/W.nd (ae w).idx i=1)
 |.rn w=>RW D N W P w/\CN W (ae w).idx
 |.re w nx=>RW D N W P w/\CN W (ae w).idx/\nx≠0/\W.nd (ae w).idx 0=nx
 |.rt w nx en=>RW D N W P w/\CN W (ae w).idx/\nx≠0/\W.nd (ae w).idx 0=nx/\jt N en (W.ob R)/\(ae en).idx=(ae w).idx/\(W.ob D=w->W.ob R=en\/(ae (W.ob R)).idx≠(ae w).idx)
 |.rh w nx=>RW D N W P w/\CN W (ae w).idx/\nx≠0/\W.nd (ae w).idx 0=nx/\(W.ob D=w->(ae (W.ob R)).idx≠(ae w).idx)
 |_=>True
def AB(W:Ws)(P:Int->Int->Prop):Sk->Int->Prop
 |.sg _ _,w=>SW R N W P w
 |.rg,w=>RW D N W P w
 |_,_=>True
def vY(m:Int):List Int:=if m=0 then[] else[m]
def dv(W:Ws)(X:List Int)(g:ge):Sk->List Int×ge
 |.sc v _ w i=>if W.nd (ae w).idx i=0 then(X,{g with put:=g.put+1,vs:=g.vs++[v+2]}) else(X,g)
 |.sa v m w=>if W.nd (ae w).idx 0=0 then(X++[m],{g with put:=g.put+1,vs:=g.vs++[v+2]}) else(X,g)
 |.rc w i x=>if W.nd (ae w).idx i=x then(X,{g with vs:=g.vs.tail}) else(X,g)
 |.rh w _=>if W.ob D=w then(X.tail,{g with ret:=g.ret+1}) else(X,g)
 |_=>(X,g)
def bp:Sp Sk ge where
 aZ:=λ k=>match k with
  |.sg _ m|.sl _ m _ _|.sc _ m _ _|.sn _ m _|.st _ m _ _=>vY m
  |.f0 _ _ n|.f1 _ _ n|.f2 _ _ n _|.sa _ n _=>[n]
  |_=>[]
 dead:=λ k=>match k with
  |.rx n=>[n]
  |_=>[]
 zero:=λ _=>False
 vf:=λ k i c=>i=0/\match k with
  |.sg _ _=>c=.ob R
  |.rg=>c=.ob D
  |_=>False
 SI:=gh D R N
 KL:=λ W _ _ P k=>qo D R N W P k
 GL:=λ W _ _ P k _ _ v=>AB D R N W P k v
 nx:=dv D
structure jJ(W W':Ws)(X:List Int)(ay:Int->Prop)(mi:List Int):Prop where
 tX:(ae (W.ob R)).idx∈X
 R:W'.ob R=W.ob R\/(W'.ob R/131072=W.ob R/131072+1/\W.nd (ae (W.ob R)).idx 0≠0/\(ae (W'.ob R)).idx≠(ae (W.ob D)).idx)
 D:W'.ob D=W.ob D\/(W'.ob D/131072=W.ob D/131072+1/\AS W' (ae (W.ob D)).idx)
 pl:∀n,n∈X\/ay n->∀i,1<=i->i<=5->W'.nd n i=W.nd n i\/(W.nd n i=0/\W'.nd n i≠0)\/(2<=W.nd n i/\W'.nd n i=1)
 nx:∀n,n∈X\/ay n->W'.nd n 0=W.nd n 0\/(W.nd n 0=0/\W'.nd n 0≠0)
 mi:∀n,n∉X->¬ay n->n∉mi->∀i,W'.nd n i=W.nd n i
end
section
variable{D R:Int}{N:Nat}{W W':Ws}{X:List Int}{ay:Int->Prop}{mi:List Int}(I:jJ D R W W' X ay mi)
include I
theorem jJ.full{n:Int}(hn:n∈X\/ay n)(h:uQ W n):uQ W' n:=λ i i1 i5=>by
 rcases I.pl n hn i i1 i5 with e|⟨e,_⟩|⟨_,e⟩
 ·rw[e];exact h i i1 i5
 ·exact absurd e (h i i1 i5)
 ·rw[e];omega
theorem jJ.nz{n:Int}(hn:n∈X\/ay n){i:Int}(h:∀j,1<=j->j<i->W.nd n j≠0)(i5:i<=5):∀j,1<=j->j<i->W'.nd n j≠0:=λ j j1 ji=>by
 rcases I.pl n hn j j1 (by omega) with e|⟨e,_⟩|⟨_,e⟩
 ·rw[e];exact h j j1 ji
 ·exact absurd e (h j j1 ji)
 ·rw[e];omega
theorem jJ.one{n:Int}(hn:n∈X\/ay n){i:Int}(i1:1<=i)(i5:i<=5)(h:W.nd n i=1):W'.nd n i=1:=by
 rcases I.pl n hn i i1 i5 with e|⟨e,_⟩|⟨_,e⟩
 ·rw[e];exact h
 ·omega
 ·exact e
theorem jJ.next{n:Int}(hn:n∈X\/ay n)(h:W.nd n 0≠0):W'.nd n 0=W.nd n 0:=by
 rcases I.nx n hn with e|⟨e,_⟩
 ·exact e
 ·exact absurd e h
theorem jJ.dg{n:Int}(hn:n∈X\/ay n)(h:AS W n):AS W' n:=⟨λ i i1 i5=>I.one hn i1 i5 (h.1 i i1 i5),by rw[I.next hn h.2];exact h.2⟩
theorem jJ.xU{w:Int}(h:jt N w (W.ob R)):jt N w (W'.ob R):=by
 rcases I.R with e|⟨e,_⟩
 ·rw[e];exact h
 ·exact h.up e
theorem jJ.T4{w:Int}(h:jt N w (W.ob R))(e:W'.ob R=w):W.ob R=w:=by
 rcases I.R with ab|⟨ab,_⟩
 ·rw[<-ab];exact e
 ·exact absurd e (h.ne ab)
theorem jJ.MZ{w:Int}(h:jt N w (W.ob D)):jt N w (W'.ob D):=by
 rcases I.D with e|⟨e,_⟩
 ·rw[e];exact h
 ·exact h.up e
theorem jJ.MX{w:Int}(h:jt N w (W.ob D))(e:W'.ob D=w):W.ob D=w:=by
 rcases I.D with ab|⟨ab,_⟩
 ·rw[<-ab];exact e
 ·exact absurd e (h.ne ab)
theorem jJ.sw{P:Int->Int->Prop}(hP:∀i n,P i n->n∈X\/ay n){w:Int}(h:SW R N W P w):SW R N W' P w:=by
 obtain⟨A,F,O,h4⟩:=h;refine⟨I.xU A,F,O,λ e=>?_⟩;have hn:W.nd (ae w).idx 0≠0:=by
  by_cases L:W.ob R=w
  ·rcases I.R with ab|⟨_,ab,_⟩
   ·exact absurd (ab.trans L) e
   ·rw[L] at ab;exact ab
  ·exact h4 L
 rw[I.next (hP _ _ O) hn];exact hn
theorem jJ.rw{P:Int->Int->Prop}(hP:∀i n,P i n->n∈X\/ay n){w:Int}(h:RW D N W P w):RW D N W' P w:=by
 obtain⟨A,F,O,h4⟩:=h;refine⟨I.MZ A,F,O,λ e=>?_⟩
 by_cases L:W.ob D=w
 ·rcases I.D with ab|⟨_,ab⟩
  ·exact absurd (ab.trans L) e
  ·rw[L] at ab;exact ab
 ·exact I.dg (hP _ _ O) (h4 L)
theorem jJ.new{v m:Int}(hm:m∉X/\¬ay m/\m∉mi)(h:CW W v m):CW W' v m:=by have e:=I.mi m hm.1 hm.2.1 hm.2.2;exact⟨by rw[e];exact h.1,by rw[e];exact h.2.1,λ i i2 i5=>by rw[e];exact h.2.2 i i2 i5⟩
theorem jJ.aZ{v m:Int}(hm:∀n∈vY m,n∉X/\¬ay n/\n∉mi)(h:ww W v m):ww W' v m:=
 ⟨h.1,λ h0=>I.new (hm m (by simp[vY,h0])) (h.2 h0)⟩
theorem jJ.kl{P:Int->Int->Prop}(hP:∀i n,P i n->n∈X\/ay n){k:Sk}(hm:∀n∈(bp D R N).aZ k,n∉X/\¬ay n/\n∉mi)(h:qo D R N W P k):qo D R N W' P k:=by
 cases k<;>simp only[qo] at h⊢
 case sg v m=>exact⟨h.1,I.aZ hm h.2⟩
 case sl v m w i=>exact⟨h.1,I.aZ hm h.2.1,I.sw hP h.2.2.1,h.2.2.2.1,h.2.2.2.2.1,I.nz (hP _ _ h.2.2.1.2.2.1) h.2.2.2.2.2 h.2.2.2.2.1⟩
 case sc v m w i=>exact⟨h.1,I.aZ hm h.2.1,I.sw hP h.2.2.1,h.2.2.2.1,h.2.2.2.2.1,I.nz (hP _ _ h.2.2.1.2.2.1) h.2.2.2.2.2 h.2.2.2.2.1⟩
 case sn v m w=>exact⟨h.1,I.aZ hm h.2.1,I.sw hP h.2.2.1,I.full (hP _ _ h.2.2.1.2.2.1) h.2.2.2⟩
 case st v m w nx=>
  obtain⟨A,F,O,h4,h5⟩:=h;refine⟨A,I.aZ hm F,I.xU O,h4,λ e=>?_⟩;have ab:=I.T4 O e;have h6:=h5 ab;have hX:(ae w).idx∈X:=by rw[<-ab];exact I.tX
  rw[I.next (.inl hX) (by rw[h6];exact h4)];exact h6
 case tk v w=>exact⟨h.1,I.sw hP h.2.1,I.full (hP _ _ h.2.1.2.2.1) h.2.2⟩
 case f0 v w n=>exact⟨h.1,I.sw hP h.2.1,I.full (hP _ _ h.2.1.2.2.1) h.2.2.1,h.2.2.2⟩
 case f1 v w n=>have hn:=hm n (by simp[bp]);have e:=I.mi n hn.1 hn.2.1 hn.2.2;exact⟨h.1,I.sw hP h.2.1,I.full (hP _ _ h.2.1.2.2.1) h.2.2.1,h.2.2.2.1,by rw[e];exact h.2.2.2.2⟩
 case f2 v w n i=>have hn:=hm n (by simp[bp]);have e:=I.mi n hn.1 hn.2.1 hn.2.2;obtain⟨A,F,O,h4,h5,h6,h7,h8,h9⟩:=h;exact⟨A,I.sw hP F,I.full (hP _ _ F.2.2.1) O,h4,by rw[e];exact h5,by rw[e];exact h6,h7,h8,λ j j2 ji=>by rw[e];exact h9 j j2 ji⟩
 case sa v m w=>have hn:=hm m (by simp[bp]);exact⟨h.1,I.sw hP h.2.1,I.full (hP _ _ h.2.1.2.2.1) h.2.2.1,h.2.2.2.1,I.new hn h.2.2.2.2⟩
 case sb w m a=>
  obtain⟨O,h4,h5⟩:=h;refine⟨I.xU O,h4,λ e=>?_⟩;have ab:=I.T4 O e;have h6:=h5 ab;have hX:(ae w).idx∈X:=by rw[<-ab];exact I.tX
  rw[I.next (.inl hX) (by rw[h6];exact h4)];exact h6
 case rl w i=>exact⟨I.rw hP h.1,h.2.1,h.2.2.1,λ j j1 ji=>I.one (hP _ _ h.1.2.2.1) j1 (by omega) (h.2.2.2 j j1 ji)⟩
 case rc w i x=>
  obtain⟨A,F,O,h4,h5,h6⟩:=h;have hn:=hP _ _ A.2.2.1;refine⟨I.rw hP A,F,O,λ j j1 ji=>I.one hn j1 (by omega) (h4 j j1 ji),h5,?_⟩;rcases h6 with h6|h6
  ·rcases I.pl _ hn i F O with e|⟨e,_⟩|⟨_,e⟩
   ·exact .inl (e.trans h6)
   ·omega
   ·exact .inr e
  ·exact .inr (I.one hn F O h6)
 case rn w=>exact⟨I.rw hP h.1,λ j j1 j5=>I.one (hP _ _ h.1.2.2.1) j1 j5 (h.2 j j1 j5)⟩
 case re w nx=>obtain⟨A,F,O,h4⟩:=h;have hn:=hP _ _ A.2.2.1;exact⟨I.rw hP A,λ j j1 j5=>I.one hn j1 j5 (F j j1 j5),O,by rw[I.next hn (by rw[h4];exact O)];exact h4⟩
 case rt w nx en=>
  obtain⟨A,F,O,h4,h5,h6,h7⟩:=h;have hn:=hP _ _ A.2.2.1;refine⟨I.rw hP A,λ j j1 j5=>I.one hn j1 j5 (F j j1 j5),O,by rw[I.next hn (by rw[h4];exact O)];exact h4,I.xU h5,h6,λ e=>?_⟩;have ab:=I.MX A.1 e;rcases I.R with e2|⟨_,_,e2⟩
  ·rw[e2];exact h7 ab
  ·rw[ab] at e2;exact .inr e2
 case rh w nx=>
  obtain⟨A,F,O,h4,h7⟩:=h;have hn:=hP _ _ A.2.2.1;refine⟨I.rw hP A,λ j j1 j5=>I.one hn j1 j5 (F j j1 j5),O,by rw[I.next hn (by rw[h4];exact O)];exact h4,λ e=>?_⟩;have ab:=I.MX A.1 e;rcases I.R with e2|⟨_,_,e2⟩
  ·rw[e2];exact h7 ab
  ·rw[ab] at e2;exact e2
theorem jJ.gl{P:Int->Int->Prop}(hP:∀i n,P i n->n∈X\/ay n){k:Sk}{v:Int}(h:AB D R N W P k v):AB D R N W' P k v:=by
 cases k<;>simp only[AB] at h⊢
 case sg x m=>exact I.sw hP h
 case rg=>exact I.rw hP h
end
section
variable{D R:Int}{N aG:Nat}{W:Ws}{X:List Int}{ay:Int->Prop}{g:ge}
theorem BR{c n:Int}(h0:0<=n)(A:n<65536):(ae (131072*c+n)).idx=n:=by rw[SO];omega
theorem gh.Fx(h:gh D R N aG W X ay g)(hN:N<=100):∃j:Nat,X[j]?=some (ae (W.ob R)).idx/\X.length<=j+2/\W.ob R=131072*((g.ret:Int)+j)+(ae (W.ob R)).idx:=by
 obtain⟨j,t,A,F,O⟩:=h.tail;have ht:=h.iw t (List.mem_of_getElem? A);have e:(ae (W.ob R)).idx=t:=by rw[O];exact BR (by omega) (by omega)
 rw[e];exact⟨j,A,F,O⟩
theorem gh.tX(h:gh D R N aG W X ay g)(hN:N<=100):(ae (W.ob R)).idx∈X:=by obtain⟨j,A,_⟩:=h.Fx hN;exact List.mem_of_getElem? A
theorem gh.xU(h:gh D R N aG W X ay g)(hN:N<=100):jt N (W.ob R) (W.ob R):=by
 obtain⟨j,A,F,O⟩:=h.Fx hN;have ht:=h.iw _ (List.mem_of_getElem? A);generalize(ae (W.ob R)).idx=t at*;have e:(ae (W.ob R)).idx=t:=by rw[O];exact BR (by omega) (by omega)
 exact⟨by omega,by rw[e];omega,by rw[e];omega,Int.le_refl _,λ _=>rfl⟩
theorem gh.ne(h:gh D R N aG W X ay g):X≠[]:=λ e=>by
 obtain⟨j,t,A,_⟩:=h.tail;rw[e] at A;simp at A
theorem gh.yW(h:gh D R N aG W X ay g)(hN:N<=100):∃B,X=(ae (W.ob D)).idx::B:=by
 have A:=h.head;cases X with
 |nil=>exact absurd rfl h.ne
 |cons n B=>
  have hn:=h.iw n (by simp);have e:(ae (W.ob D)).idx=n:=by rw[A];exact BR (by simp;omega) (by simp;omega)
  exact⟨B,by rw[e]⟩
theorem gh.MZ(h:gh D R N aG W X ay g)(hN:N<=100):jt N (W.ob D) (W.ob D):=by
 obtain⟨B,hB⟩:=h.yW hN;have A:=h.head;have hn:=h.iw _ (by rw[hB];exact List.mem_cons_self);have F:X.headD 0=(ae (W.ob D)).idx:=by generalize(ae (W.ob D)).idx=n at hB;rw[hB];rfl
 rw[F] at A;exact⟨by omega,by omega,by omega,Int.le_refl _,λ _=>rfl⟩
theorem Nd{n:Int}(h:n∈X)(D:X.Nodup):∃am B,X=am++n::B/\n∉am/\n∉B:=by
 obtain⟨am,B,rfl⟩:=List.append_of_mem h;refine⟨am,B,rfl,λ h=>?_,λ h=>?_⟩
 ·rw[List.nodup_append] at D;exact D.2.2 n h n (by simp) rfl
 ·rw[List.nodup_append] at D;exact(List.nodup_cons.1 D.2.1).1 h
theorem i4{n i v m j:Int}:(W.eT n i v).nd m j=if m=n/\j=i then v else W.nd m j:=rfl
theorem adf(h:gh D R N aG W X ay g)(hN:N<=100)(ko:X.Nodup)(qH:∀n,ay n->n∉X){n i v:Int}(hn:n∈X\/ay n)(i1:1<=i)(i5:i<=5)(h0:W.nd n i=0)(hp:∀j,1<=j->j<i->W.nd n j≠0)(hv:oD v):
 gh D R N (aG+1) (W.eT n i (v+2)) X ay {g with put:=g.put+1,vs:=g.vs++[v+2]}/\jJ D R W (W.eT n i (v+2)) X ay []:=by
 have n7:n∈X:=hn.elim id λ hD=>by have:=(h.dg n hD).1 i i1 i5;omega
 obtain⟨am,B,hX,hA,hB⟩:=Nd n7 ko;obtain⟨a,c,hs,L,zb⟩:=h.seq;have cD:=xW W X;have hL:hZ W X=(List.replicate a 1++g.vs)++List.replicate c 0:=by rw[hs,List.append_assoc]
 have cN:(List.replicate a (1:Int)++g.vs).length+c=5*X.length:=by rw[<-cD,hL];simp;omega
 have agO:X.length=am.length+B.length+1:=by rw[hX];simp;omega
 have io:∀j:Int,1<=j->j<=5->(hZ W X)[5*am.length+(j-1).toNat]?=some (W.nd n j):=λ j j1 j5=>by rw[hX];exact CE j1 j5
 obtain⟨f1,f2,lW⟩:=aex (x:=v+2) hL (λ y hy=>by
  rw[List.mem_append] at hy;rcases hy with hy|hy
  ·have:=(List.mem_replicate.1 hy).2;omega
  ·have:=(h.vs y hy).1;omega) (by rw[io i i1 i5,h0]) (λ q bO bg bV=>by
  have e:=io ((q-5*am.length:Nat)+1:Int) (by omega) (by omega);rw[show 5*am.length+(((q-5*am.length:Nat)+1:Int)-1).toNat=q by omega,bV] at e;have e2:=Option.some.inj e;exact hp _ (by omega) (by omega) e2.symm)
 have qW:hZ (W.eT n i (v+2)) X=(hZ W X).set (5*am.length+(i-1).toNat) (v+2):=by rw[hX];exact Ue hA hB i1 i5
 refine⟨⟨h.head,by have:=h.rk;simp only;omega,h.tail,h.link.same λ x _=>?_,⟨a,c-1,?_,by omega,by simp only;omega⟩,λ y hy=>?_,λ x T=>?_,h.iw⟩,⟨h.tX hN,.inl rfl,.inl rfl,λ x T j j1 j5=>?_,λ x T=>?_,λ x T _ _ j=>?_⟩⟩
 ·rw[i4,if_neg (by omega)]
 ·rw[qW,lW];simp[List.append_assoc]
 ·simp only[List.mem_append,List.mem_singleton] at hy;rcases hy with hy|rfl
  ·exact h.vs y hy
  ·obtain⟨v0,v1⟩:=hv;omega
 ·have b9:x≠n:=λ e=>qH x T (e▸n7)
  have ho:=h.dg x T;exact⟨λ j j1 j5=>by rw[i4,if_neg (λ hh=>b9 hh.1)];exact ho.1 j j1 j5,by rw[i4,if_neg (λ hh=>b9 hh.1)];exact ho.2⟩
 ·rw[i4]
  by_cases L:x=n/\j=i
  ·rw[if_pos L,L.1,L.2];exact .inr (.inl ⟨h0,by have:=hv.1;omega⟩)
  ·rw[if_neg L];exact .inl rfl
 ·rw[i4,if_neg (by omega)];exact .inl rfl
 ·rw[i4,if_neg (λ hh:x=n/\_=>T (hh.1▸n7))]
theorem UP(h:gh D R N aG W X ay g)(hN:N<=100)(ko:X.Nodup)(qH:∀n,ay n->n∉X){n i x:Int}(hn:n=(ae (W.ob D)).idx)(i1:1<=i)(i5:i<=5)(h0:W.nd n i=x)(T:2<=x)(hp:∀j,1<=j->j<i->W.nd n j=1):
 gh D R N (aG+1) (W.eT n i 1) X ay {g with vs:=g.vs.tail}/\jJ D R W (W.eT n i 1) X ay []/\g.vs=x::g.vs.tail:=by
 obtain⟨B,hX⟩:=h.yW hN;rw[<-hn] at hX;have hB:n∉B:=by rw[hX] at ko;exact(List.nodup_cons.1 ko).1
 have n7:n∈X:=by rw[hX];exact List.mem_cons_self
 obtain⟨a,c,hs,L,zb⟩:=h.seq;have io:∀j:Int,1<=j->j<=5->(hZ W X)[(j-1).toNat]?=some (W.nd n j):=λ j j1 j5=>by have:=CE (W:=W) (am:=[]) (B:=B) (n:=n) j1 j5;rw[hX];simpa using this
 obtain⟨eY,f1,f2⟩:=aez hs (λ v hv=>(h.vs v hv).1) (by rw[io i i1 i5,h0]) T (λ q hq=>by
  have e:=io ((q:Int)+1) (by omega) (by omega);rw[show((q:Int)+1-1).toNat=q by omega,hp _ (by omega) (by omega)] at e;exact e)
 have qW:hZ (W.eT n i 1) X=(hZ W X).set ((i-1).toNat) 1:=by have:=Ue (W:=W) (am:=[]) (B:=B) (n:=n) (v:=1) (by simp) hB i1 i5;rw[hX];simpa using this
 refine⟨⟨h.head,by have:=h.rk;simp only;omega,h.tail,h.link.same λ x _=>?_,⟨a+1,c,?_,L,zb⟩,λ y hy=>h.vs y (List.mem_of_mem_tail hy),λ x T=>?_,h.iw⟩,⟨h.tX hN,.inl rfl,.inl rfl,λ x T j j1 j5=>?_,λ x T=>?_,λ x T _ _ j=>?_⟩,by rw[f1];rfl⟩
 ·rw[i4,if_neg (by omega)]
 ·rw[qW,f2,f1];rfl
 ·have b9:x≠n:=λ e=>qH x T (e▸n7)
  have ho:=h.dg x T;exact⟨λ j j1 j5=>by rw[i4,if_neg (λ hh=>b9 hh.1)];exact ho.1 j j1 j5,by rw[i4,if_neg (λ hh=>b9 hh.1)];exact ho.2⟩
 ·rw[i4]
  by_cases L:x=n/\j=i
  ·rw[if_pos L,L.1,L.2];exact .inr (.inr ⟨by omega,rfl⟩)
  ·rw[if_neg L];exact .inl rfl
 ·rw[i4,if_neg (by omega)];exact .inl rfl
 ·rw[i4,if_neg (λ hh:x=n/\_=>T (hh.1▸n7))]
theorem tq{c v d:Int}:(W.lK c v).ob d=if d=c then v else W.ob d:=rfl
theorem get_inj{j k:Nat}{x:Int}(D:X.Nodup)(A:X[j]?=some x)(F:X[k]?=some x):j=k:=by obtain⟨l1,e1⟩:=List.getElem?_eq_some_iff.1 A;obtain⟨l2,e2⟩:=List.getElem?_eq_some_iff.1 F;exact(List.getElem_inj D).1 (e1.trans e2.symm)
theorem Iw(h:gh D R N aG W X ay g)(hN:N<=100)(hK:aG<=100000)(b9:D≠R)(ko:X.Nodup){nx:Int}(T:W.nd (ae (W.ob R)).idx 0=nx)(h0:nx≠0):
 gh D R N (aG+1) (W.lK R (bK (ca (ae (W.ob R)) nx))) X ay g/\jJ D R W (W.lK R (bK (ca (ae (W.ob R)) nx))) X ay []/\(ae ((W.lK R (bK (ca (ae (W.ob R)) nx))).ob R)).idx=nx/\nx≠(ae (W.ob D)).idx/\W.nd nx 0=0:=by
 obtain⟨j,A,F,O⟩:=h.Fx hN;have U:=HI h.link A;simp only[T] at U;have hj:X[j+1]?=some nx:=by
  cases L:X[j+1]? with
  |none=>rw[L] at U;exact absurd U h0
  |some y=>rw[L] at U;rw[show nx=y from U]
 have vB:W.nd nx 0=0:=by have h9:=HI h.link hj;rw[List.getElem?_eq_none (by omega)] at h9;exact h9
 have Z4:=h.iw _ (List.mem_of_getElem? hj);have ahz:=h.iw _ (List.mem_of_getElem? A);have np:=(List.getElem?_eq_some_iff.1 hj).1;have aal:=h.rk;have agN:X.length<=j+2:=F;obtain⟨B,hB⟩:=h.yW hN;have BF:X[0]?=some (ae (W.ob D)).idx:=by generalize(ae (W.ob D)).idx=n at hB;rw[hB];rfl
 have Q7:nx≠(ae (W.ob D)).idx:=λ e=>by
  rw[<-e] at BF;have:=get_inj ko hj BF;omega
 have ag2:j<1000:=by have iE:X.length<=N:=v5 N X ko h.iw;omega
 generalize(ae (W.ob R)).idx=t at*;have hp:bK (ca (ae (W.ob R)) nx)=131072*(((g.ret:Int)+j)+1)+nx:=E4 O (by omega) (by omega) (by omega) (by omega);refine⟨⟨?_,by omega,⟨j+1,nx,hj,by omega,?_⟩,h.link,h.seq,h.vs,h.dg,h.iw⟩,⟨?_,.inr ⟨?_,?_,?_⟩,.inl ?_,λ x _ i _ _=>.inl rfl,λ x _=>.inl rfl,λ x _ _ _ i=>rfl⟩,?_,Q7,vB⟩
 ·rw[tq,if_neg b9];exact h.head
 ·rw[tq,if_pos rfl,hp];show 131072*((g.ret:Int)+j+1)+nx=131072*((g.ret:Int)+((j+1:Nat):Int))+nx;omega
 ·exact h.tX hN
 ·rw[tq,if_pos rfl,hp];omega
 ·have e:(ae (W.ob R)).idx=t:=by rw[O];exact BR (by omega) (by omega)
  rw[e,T];exact h0
 ·rw[tq,if_pos rfl,hp,BR (by omega) (by omega)];exact Q7
 ·rw[tq,if_neg b9]
 ·rw[tq,if_pos rfl,hp,BR (by omega) (by omega)]
theorem Wa(h:gh D R N aG W X ay g)(hN:N<=100)(ko:X.Nodup)(qH:∀n,ay n->n∉X){n m v:Int}(hn:n=(ae (W.ob R)).idx)(h0:W.nd n 0=0)(hf:uQ W n)(mj:1<=m)(ZQ:m<=N)(ZR:m∉X)(ahb:¬ay m)(kP:CW W v m)(hv:oD v):
 gh D R N (aG+1) (W.eT n 0 m) (X++[m]) ay {g with put:=g.put+1,vs:=g.vs++[v+2]}/\jJ D R W (W.eT n 0 m) X ay []/\(W.eT n 0 m).nd n 0=m:=by
 obtain⟨j,A,F,O⟩:=h.Fx hN;rw[<-hn] at A O;have U:=HI h.link A;simp only[h0] at U;have n7:=List.mem_of_getElem? A;have hj:X[j+1]?=none:=by
  cases L:X[j+1]? with
  |none=>rfl
  |some y=>rw[L] at U;have:=h.iw y (List.mem_of_getElem? L);simp at U;omega
 have np:X.length=j+1:=by have:=(List.getElem?_eq_some_iff.1 A).1;have:=List.getElem?_eq_none_iff.1 hj;omega
 obtain⟨am,B,hX,hA,hB⟩:=Nd n7 ko;have agH:am.length=j:=by
  have:X[am.length]?=some n:=by rw[hX];simp
  exact get_inj ko this A
 have J5:B=[]:=by
  have:X.length=am.length+B.length+1:=by rw[hX];simp;omega
  exact List.length_eq_zero_iff.1 (by omega)
 subst J5;obtain⟨a,c,hs,L,zb⟩:=h.seq;have cD:=xW W X;have ip:c=0:=by
  rcases Nat.eq_zero_or_pos c with h9|h9
  ·exact h9
  ·exfalso;have e:(hZ W X)[5*am.length+((5:Int)-1).toNat]?=some (W.nd n 5):=by rw[hX];exact CE (by omega) (by omega)
   have cN:a+g.vs.length+c=5*X.length:=by rw[<-cD,hs];simp;omega
   rw[hs,List.getElem?_append_right (by simp;omega),List.getElem?_append_right (by simp;omega)] at e;have:=Cw e;exact hf 5 (by omega) (by omega) this
 subst ip;have jA:m≠n:=λ e=>ZR (e▸n7)
 refine⟨⟨?_,by have:=h.rk;simp only;omega,⟨j,n,?_,by simp;omega,O⟩,?_,⟨a,4,?_,by omega,?_⟩,λ y hy=>?_,λ x T=>?_,λ x T=>?_⟩,⟨h.tX hN,.inl rfl,.inl rfl,λ x _ i i1 _=>?_,λ x _=>?_,λ x T _ _ i=>?_⟩,?_⟩
 ·have:=h.head;rw[hX] at this⊢;cases am<;>exact this
 ·rw[List.getElem?_append_left (by omega)];exact A
 ·rw[hX];refine Sd (nx:=λ n=>W.nd n 0) (by rw[<-hX];exact h.link) (λ x T=>?_) ?_ ?_
  ·rw[i4,if_neg (λ hh:x=n/\_=>hA (hh.1▸T))]
  ·rw[i4,if_pos ⟨rfl,rfl⟩]
  ·rw[i4,if_neg (λ hh=>jA hh.1)];exact kP.1
 ·rw[aeQ,Ij,hs];have e:hZ W [m]=[v+2,0,0,0,0]:=by
   simp only[hZ,List.flatMap_cons,List.flatMap_nil,mT,List.append_nil];rw[kP.2.1,kP.2.2 2 (by omega) (by omega),kP.2.2 3 (by omega) (by omega),kP.2.2 4 (by omega) (by omega),kP.2.2 5 (by omega) (by omega)]
  rw[e];simp[List.replicate_succ]
 ·simp only[List.length_append,List.length_cons,List.length_nil];omega
 ·simp only[List.mem_append,List.mem_singleton] at hy;rcases hy with hy|rfl
  ·exact h.vs y hy
  ·obtain⟨v0,v1⟩:=hv;omega
 ·have b9:x≠n:=λ e=>qH x T (e▸n7)
  have ho:=h.dg x T;exact⟨λ j j1 j5=>by rw[i4,if_neg (λ hh=>b9 hh.1)];exact ho.1 j j1 j5,by rw[i4,if_neg (λ hh=>b9 hh.1)];exact ho.2⟩
 ·rw[List.mem_append,List.mem_singleton] at T;rcases T with T|rfl
  ·exact h.iw x T
  ·exact⟨mj,ZQ⟩
 ·rw[i4,if_neg (by omega)];exact .inl rfl
 ·rw[i4]
  by_cases L:x=n/\(0:Int)=0
  ·rw[if_pos L,L.1];exact .inr ⟨h0,by omega⟩
  ·rw[if_neg L];exact .inl rfl
 ·rw[i4,if_neg (λ hh:x=n/\_=>T (hh.1▸n7))]
 ·rw[i4,if_pos ⟨rfl,rfl⟩]
theorem YX(h:gh D R N aG W X ay g)(hN:N<=100)(hK:aG<=100000)(b9:D≠R)(_:X.Nodup){n nx:Int}(hn:n=(ae (W.ob D)).idx)(T:W.nd n 0=nx)(h0:nx≠0)(n9:CN W n)(ht:(ae (W.ob R)).idx≠n):
 gh D R N (aG+1) (W.lK D (bK (ca (ae (W.ob D)) nx))) X.tail (λ x=>ay x\/x=n) {g with ret:=g.ret+1}/\jJ D R W (W.lK D (bK (ca (ae (W.ob D)) nx))) X ay []/\X=n::X.tail:=by
 obtain⟨B,hX⟩:=h.yW hN;rw[<-hn] at hX;have yN:X.tail=B:=by rw[hX];rfl
 have ku:=h.link;rw[hX] at ku;have Z:nx=B.headD 0:=T.symm.trans ku.1;have Z4:=h.iw n (by rw[hX];exact List.mem_cons_self);obtain⟨b,o4,hB⟩:∃b o4,B=b::o4:=by
  cases B with
  |nil=>exact absurd Z h0
  |cons b o4=>exact⟨b,o4,rfl⟩
 have iC:nx=b:=by rw[Z,hB];rfl
 have agS:=h.iw b (by rw[hX,hB];simp);have QL:=h.head;have Zk:X.headD 0=n:=by rw[hX];rfl
 rw[Zk] at QL;have aal:=h.rk;have hp:bK (ca (ae (W.ob D)) nx)=131072*((g.ret:Int)+1)+nx:=E4 QL (by omega) (by omega) (by omega) (by omega);obtain⟨j,A,F,O⟩:=h.Fx hN;have hj:j≠0:=λ e=>by
  subst e;rw[hX] at A;simp at A;exact ht A.symm
 obtain⟨zw,rfl⟩:∃zw,j=zw+1:=⟨j-1,by omega⟩;obtain⟨a,c,hs,L,zb⟩:=h.seq;have bH:mT W n=List.replicate 5 1:=by unfold mT;rw[n9 1 (by omega) (by omega),n9 2 (by omega) (by omega),n9 3 (by omega) (by omega),n9 4 (by omega) (by omega),n9 5 (by omega) (by omega)];rfl
 have fD:List.replicate 5 1++hZ W B=List.replicate a 1++(g.vs++List.replicate c 0):=by rw[<-bH,<-CF,<-hX];exact hs
 have ha:5<=a:=by
  rcases Nat.lt_or_ge a 5 with h9|h9
  ·exfalso;have e1:(List.replicate 5 (1:Int)++hZ W B)[a]?=some 1:=by rw[List.getElem?_append_left (by simpa using h9),List.getElem?_replicate,if_pos h9]
   rw[fD,List.getElem?_append_right (by simp),List.length_replicate,Nat.sub_self] at e1;cases oR:g.vs with
   |nil=>rw[oR] at e1;have:=Cw (x:=0) (by simpa using e1);omega
   |cons v vs=>rw[oR] at e1;simp at e1;have:=h.vs v (by rw[oR];simp);omega
  ·exact h9
 have aaq:hZ W B=List.replicate (a-5) 1++(g.vs++List.replicate c 0):=by
  have:List.replicate a (1:Int)=List.replicate 5 1++List.replicate (a-5) 1:=by rw[List.replicate_append_replicate];congr 1;omega
  rw[this,List.append_assoc] at fD;exact List.append_cancel_left fD
 refine⟨⟨?_,by simp only;omega,⟨zw,(ae (W.ob R)).idx,?_,?_,?_⟩,?_,⟨a-5,c,?_,L,?_⟩,h.vs,λ x T=>?_,λ x T=>?_⟩,⟨h.tX hN,.inl ?_,.inr ⟨?_,?_⟩,λ x _ i _ _=>.inl rfl,λ x _=>.inl rfl,λ x _ _ _ i=>rfl⟩,by rw[yN];exact hX⟩
 ·rw[tq,if_pos rfl,hp,yN,<-Z];simp only;omega
 ·rw[yN];rw[hX] at A
  simpa using A
 ·rw[yN];have:X.length=B.length+1:=by rw[hX];simp
  omega
 ·rw[tq,if_neg b9.symm];simp only;omega
 ·rw[yN];exact ku.2
 ·rw[yN];exact aaq
 ·simp only;have:X.length=X.tail.length+1:=by rw[yN,hX];simp
  omega
 ·rcases T with T|rfl
  ·exact h.dg x T
  ·exact⟨n9,by show W.nd x 0≠0;rw[‹W.nd x 0=nx›];exact h0⟩
 ·exact h.iw x (List.mem_of_mem_tail T)
 ·rw[tq,if_neg b9.symm]
 ·rw[tq,if_pos rfl,hp];omega
 ·rw[<-hn];exact⟨n9,by show W.nd n 0≠0;rw[T];exact h0⟩
end
section
variable{D R:Int}{l:ah}{S N aG:Nat}{W:Ws}{X:List Int}{ay:Int->Prop}{g:ge}{P lN:Int->Int->Prop}
theorem SW.mono{w:Int}(h:SW R N W P w)(hP:∀i n,P i n->lN i n):SW R N W lN w:=⟨h.1,h.2.1,hP _ _ h.2.2.1,h.2.2.2⟩
theorem RW.mono{w:Int}(h:RW D N W P w)(hP:∀i n,P i n->lN i n):RW D N W lN w:=⟨h.1,h.2.1,hP _ _ h.2.2.1,h.2.2.2⟩
theorem aeI{k:Sk}(h:qo D R N W P k)(hP:∀i n,P i n->lN i n):qo D R N W lN k:=by
 cases k<;>simp only[qo] at h⊢<;>first
  |exact h
  |exact⟨h.1,h.2.1,h.2.2.1.mono hP,h.2.2.2⟩
  |exact⟨h.1,h.2.1.mono hP,h.2.2⟩
  |exact⟨h.1.mono hP,h.2⟩
theorem aeG{k:Sk}{v:Int}(h:AB D R N W P k v)(hP:∀i n,P i n->lN i n):AB D R N W lN k v:=by
 cases k<;>simp only[AB] at h⊢
 case sg=>exact h.mono hP
 case rg=>exact h.mono hP
structure AU(l:ah)(S:Nat)(D R:Int):Prop where
 A:4+5*(S:Int)<=D
 F:D<l.node
 t1:4+5*(S:Int)<=R
 t2:R<l.node
 ne:D≠R
theorem j9{s:af}{k:Sk}{eK:Pc Sk}(cz:gh D R N aG W X ay g)(hD:∀n∈(bp D R N).dead k,ay n)(aT:o8 (bp D R N) l S N W X g P s eK)(hm:eJ (bp D R N) eK=(bp D R N).aZ k)(gu:d3 (bp D R N) eK=(bp D R N).dead k):qx (bp D R N) l S N aG W X ay g P s k W X g eK:=by refine⟨?_,aT,λ _ _ _ _ _ h=>h,λ _ _ _ _ _ _ _ _ _ h=>h,λ n=>by rw[hm,gu],λ n h=>.inl h,λ n h=>by rw[gu];exact h⟩;exact⟨cz.head,Nat.le_succ_of_le cz.rk,cz.tail,cz.link,cz.seq,cz.vs,λ n hn=>cz.dg n (hn.elim id λ h=>hD n (by rw[<-gu];exact h)),cz.iw⟩
theorem rH{s:af}{k:Sk}{eK:Pc Sk}{W':Ws}{dO:List Int}{bF:ge}(I:jJ D R W W' X ay ((bp D R N).aZ k))(cz:gh D R N (aG+1) W' dO (λ n=>ay n\/n∈d3 (bp D R N) eK) bF)(aT:o8 (bp D R N) l S N W' dO bF P s eK)
 (L:∀n,dO.count n+(eJ (bp D R N) eK).count n+(d3 (bp D R N) eK).count n=X.count n+((bp D R N).aZ k).count n+((bp D R N).dead k).count n)(hX:∀n∈X,n∈dO\/n∈d3 (bp D R N) eK)(gu:∀n∈(bp D R N).dead k,n∈d3 (bp D R N) eK):qx (bp D R N) l S N aG W X ay g P s k W' dO bF eK:=
 ⟨cz,aT,λ _ _ hP hm _ h=>I.kl hP hm h,λ _ _ _ _ _ hP _ _ _ h=>I.gl hP h,L,hX,gu⟩
theorem jJ.ye{W':Ws}{mi Sx:List Int}(I:jJ D R W W' X ay mi)(h:∀n∈mi,n∈Sx):jJ D R W W' X ay Sx:=⟨I.tX,I.R,I.D,I.pl,I.nx,λ n A F O=>I.mi n A F λ h4=>O (h n h4)⟩
theorem NR(h:gh D R N aG W X ay g)(hN:N<=100){n i v:Int}(n7:n∉X)(ZY:¬ay n):gh D R N (aG+1) (W.eT n i v) X ay g/\jJ D R W (W.eT n i v) X ay [n]:=by
 have b9:∀x j,x≠n->(W.eT n i v).nd x j=W.nd x j:=λ x j T=>by rw[i4,if_neg (λ hh:x=n/\_=>T hh.1)]
 have hX:∀x,x∈X\/ay x->x≠n:=λ x T e=>by subst e;exact T.elim n7 ZY
 refine⟨⟨h.head,Nat.le_succ_of_le h.rk,h.tail,h.link.same λ x T=>b9 x 0 (hX x (.inl T)),?_,h.vs,λ x T=>?_,h.iw⟩,⟨h.tX hN,.inl rfl,.inl rfl,λ x T j _ _=>.inl (b9 x j (hX x T)),λ x T=>.inl (b9 x 0 (hX x T)),λ x _ _ O j=>b9 x j (by simpa using O)⟩⟩
 ·obtain⟨a,c,A,F⟩:=h.seq;exact⟨a,c,by rw[Ik n7];exact A,F⟩
 ·have ho:=h.dg x T;exact⟨λ j j1 j5=>by rw[b9 x j (hX x (.inr T))];exact ho.1 j j1 j5,by rw[b9 x 0 (hX x (.inr T))];exact ho.2⟩
theorem SC{s:af}{k:Sk}{v m w i:Int}(cz:gh D R N aG W X ay g)(oN:(bp D R N).aZ k=vY m)(hk:(bp D R N).dead k=[])(h:oD v/\ww W v m/\SW R N W P w/\1<=i/\i<=5/\∀j,1<=j->j<i->W.nd (ae w).idx j≠0)(h0:W.nd (ae w).idx i≠0):qx (bp D R N) l S N aG W X ay g P s k W X g (kB v m w i):=by
 obtain⟨A,F,O,h4,h5,h6⟩:=h;have h7:∀j,1<=j->j<i+1->W.nd (ae w).idx j≠0:=λ j j1 ji=>by
  by_cases e:j=i
  ·rw[e];exact h0
  ·exact h6 j j1 (by omega)
 unfold kB;split
 ·exact j9 cz (λ n hn=>by rw[hk] at hn;simp at hn) ⟨⟨A,F,O,by omega,by omega,h7⟩,λ h=>absurd h id⟩ oN.symm hk.symm
 ·exact j9 cz (λ n hn=>by rw[hk] at hn;simp at hn) ⟨⟨A,F,O,λ j j1 j5=>h7 j j1 (by omega)⟩,λ h=>absurd h id⟩ oN.symm hk.symm
theorem SA{s:af}{k:Sk}{w i:Int}(cz:gh D R N aG W X ay g)(oN:(bp D R N).aZ k=[])(hk:(bp D R N).dead k=[])(h:RW D N W P w/\1<=i/\i<=5/\∀j,1<=j->j<i->W.nd (ae w).idx j=1)(h0:W.nd (ae w).idx i=1):qx (bp D R N) l S N aG W X ay g P s k W X g (l9 w i):=by
 obtain⟨O,h4,h5,h6⟩:=h;have h7:∀j,1<=j->j<i+1->W.nd (ae w).idx j=1:=λ j j1 ji=>by
  by_cases e:j=i
  ·rw[e];exact h0
  ·exact h6 j j1 (by omega)
 unfold l9;split
 ·exact j9 cz (λ n hn=>by rw[hk] at hn;simp at hn) ⟨⟨O,by omega,by omega,h7⟩,λ h=>absurd h id⟩ oN.symm hk.symm
 ·exact j9 cz (λ n hn=>by rw[hk] at hn;simp at hn) ⟨⟨O,λ j j1 j5=>h7 j j1 (by omega)⟩,λ h=>absurd h id⟩ oN.symm hk.symm
theorem aeK(jR:AU l S D R)(hN:N<=100)(hK:aG<=100000){k:Sk}(s:af)(m:Nat)(cz:gh D R N aG W X ay g)(J:qo D R N W P k)(hP:∀i n,P i n->n∈X\/ay n)(Z:∀n,n∈X\/n∈(bp D R N).aZ k\/ay n->1<=n/\n<=(N:Int))(ko:X.Nodup)
 (oP:∀n∈(bp D R N).aZ k,n∉X/\¬ay n)(qH:∀n,ay n->n∉X)(jy:∀n∈(bp D R N).dead k,ay n):
 qx (bp D R N) l S N aG W X ay g P s k (fS W (iI D R k)).1 (dv D W X g k).1 (dv D W X g k).2 (oq D R k m (fS W (iI D R k)).2):=by
 have lm:∀k2:Sk,(bp D R N).zero k2->s.z:=λ _ h=>absurd h id
 have Kx:∀k2:Sk,(∃v m,k2=.sg v m)->((0:Int)<=0/\(0:Int)<=2/\(Ad.ob R).str l S N/\(bp D R N).vf k2 0 (.ob R)):=λ k2⟨v,m,e⟩=>by subst e;exact⟨by omega,by omega,⟨jR.t1,jR.t2⟩,rfl,rfl⟩
 have Y5:((0:Int)<=0/\(0:Int)<=2/\(Ad.ob D).str l S N/\(bp D R N).vf .rg 0 (.ob D)):=⟨by omega,by omega,⟨jR.A,jR.F⟩,rfl,rfl⟩;cases k with
 |sg v m=>exact j9 cz jy ⟨J,lm _⟩ rfl rfl
 |tk v w=>exact j9 cz jy ⟨J,lm _⟩ rfl rfl
 |sv a=>exact j9 cz jy ⟨J,lm _⟩ rfl rfl
 |fi o=>exact j9 cz jy ⟨J,lm _⟩ rfl rfl
 |rg=>exact j9 cz jy ⟨J,lm _⟩ rfl rfl
 |rx n=>exact j9 cz jy ⟨J,lm _⟩ rfl rfl
 |rr=>exact j9 cz jy ⟨J,lm _⟩ rfl rfl
 |sl v mi w i=>
  show qx (bp D R N) l S N aG W X ay g P s _ W X g (if W.nd (ae w).idx i=0 then _ else _);split
  ·exact j9 cz jy ⟨J,lm _⟩ rfl rfl
  ·rename_i h0;exact SC cz rfl rfl J h0
 |sc v mi w i=>
  obtain⟨A,F,O,h4,h5,h6⟩:=J;have hn:=hP _ _ O.2.2.1
  by_cases L:W.nd (ae w).idx i=0
  ·have e1:fS W (iI D R (.sc v mi w i))=(W.eT (ae w).idx i (v+2),⟨0,true⟩):=by simp only[iI,fS,Ws.get,L,if_true];rfl
   have e2:dv D W X g (.sc v mi w i)=(X,{g with put:=g.put+1,vs:=g.vs++[v+2]}):=by simp only[dv,L,if_true]
   rw[e1,e2];obtain⟨f1,f2⟩:=adf cz hN ko qH hn h4 h5 L h6 A;show qx (bp D R N) l S N aG W X ay g P s _ (W.eT (ae w).idx i (v+2)) X {g with put:=g.put+1,vs:=g.vs++[v+2]} (if mi=0 then .bG (.fi (jm m)) else .v1 (.sv m) mi)
   by_cases hm:mi=0
   ·rw[if_pos hm];refine rH (f2.ye (by simp)) ?_ trivial (λ n=>?_) (λ n h=>.inl h) (λ n h=>h)
    ·exact⟨f1.head,f1.rk,f1.tail,f1.link,f1.seq,f1.vs,λ n hn=>f1.dg n (hn.elim id λ h=>by simp[d3,bp] at h),f1.iw⟩
    ·simp[eJ,d3,bp,vY,hm]
   ·rw[if_neg hm];refine rH (f2.ye (by simp)) ?_ ⟨trivial,lm _⟩ (λ n=>?_) (λ n h=>.inl h) (λ n h=>h)
    ·exact⟨f1.head,f1.rk,f1.tail,f1.link,f1.seq,f1.vs,λ n hn=>f1.dg n (hn.elim id λ h=>by simp[d3,bp] at h),f1.iw⟩
    ·simp[eJ,d3,bp,vY,hm]
  ·have e1:fS W (iI D R (.sc v mi w i))=(W,⟨W.nd (ae w).idx i,false⟩):=by simp only[iI,fS,Ws.get,L,if_false]
   have e2:dv D W X g (.sc v mi w i)=(X,g):=by simp only[dv,L,if_false]
   rw[e1,e2];exact SC cz rfl rfl ⟨A,F,O,h4,h5,h6⟩ L
 |sn v mi w=>
  obtain⟨A,F,O,h4⟩:=J;show qx (bp D R N) l S N aG W X ay g P s _ W X g (if W.nd (ae w).idx 0=0 then(if mi=0 then _ else _) else _)
  by_cases h0:W.nd (ae w).idx 0=0
  ·rw[if_pos h0]
   by_cases hm:mi=0
   ·rw[if_pos hm];exact j9 cz jy ⟨⟨A,O,h4⟩,lm _⟩ (by simp[eJ,bp,vY,hm]) rfl
   ·rw[if_neg hm];exact j9 cz jy ⟨⟨A,O,h4,by have:=F.1;omega,F.2 hm⟩,lm _⟩ (by simp[eJ,bp,vY,hm]) rfl
  ·rw[if_neg h0];exact j9 cz jy ⟨⟨A,F,O.1,h0,λ _=>rfl⟩,lm _⟩ rfl rfl
 |st v mi w nx=>
  obtain⟨A,F,O,h4,h5⟩:=J
  by_cases L:W.ob R=w
  ·have e1:fS W (iI D R (.st v mi w nx))=(W.lK R (bK (ca (ae w) nx)),⟨w,true⟩):=by simp only[iI,fS,Ws.get,L,if_true];rfl
   have e2:dv D W X g (.st v mi w nx)=(X,g):=rfl;rw[e1,e2];have h6:=h5 L;obtain⟨f1,f2,lW,ve,_⟩:=Iw cz hN hK jR.ne ko (nx:=nx) (by rw[L];exact h6) h4;rw[L] at f1 f2;have g1:=Kx (.sg v mi) ⟨v,mi,rfl⟩;refine rH (eK:=.g1 (.sg v mi) 0 (.ob R)) (f2.ye (by simp)) ?_ ⟨⟨A,f2.aZ (λ n hn=>⟨(oP n hn).1,(oP n hn).2,by simp⟩) F⟩,(λ h=>h),g1⟩ (λ n=>rfl) (λ n h=>.inl h) (λ n h=>h);exact⟨f1.head,f1.rk,f1.tail,f1.link,f1.seq,f1.vs,λ n hn=>f1.dg n (hn.elim id λ h=>by simp[d3,bp] at h),f1.iw⟩
  ·have e1:fS W (iI D R (.st v mi w nx))=(W,⟨W.ob R,false⟩):=by simp only[iI,fS,Ws.get,L,if_false]
   rw[e1];exact j9 (eK:=.g1 (.sg v mi) 0 (.ob R)) cz jy ⟨⟨A,F⟩,(λ h=>h),Kx _ ⟨v,mi,rfl⟩⟩ rfl rfl
 |f0 v w n=>obtain⟨A,F,O,h4⟩:=J;have jA:=oP n (by simp[bp]);obtain⟨f1,f2⟩:=NR cz hN (i:=0) (v:=0) jA.1 jA.2;have Bw:=hP _ _ F.2.2.1;refine rH (eK:=.at_ (.f1 v w n)) (W':=W.eT n 0 0) f2 ?_ ⟨⟨A,f2.sw hP F,f2.full Bw O,h4,by rw[i4,if_pos ⟨rfl,rfl⟩]⟩,lm _⟩ (λ n=>rfl) (λ n h=>.inl h) (λ n h=>h);exact⟨f1.head,f1.rk,f1.tail,f1.link,f1.seq,f1.vs,λ n hn=>f1.dg n (hn.elim id λ h=>by simp[d3,bp] at h),f1.iw⟩
 |f1 v w n=>obtain⟨A,F,O,h4,h5⟩:=J;have jA:=oP n (by simp[bp]);obtain⟨f1,f2⟩:=NR cz hN (i:=1) (v:=v+2) jA.1 jA.2;have Bw:=hP _ _ F.2.2.1;refine rH (eK:=.at_ (.f2 v w n 2)) (W':=W.eT n 1 (v+2)) f2 ?_ ⟨⟨A,f2.sw hP F,f2.full Bw O,h4,by rw[i4,if_neg (by omega)];exact h5,by rw[i4,if_pos ⟨rfl,rfl⟩],by omega,by omega,λ j j2 ahG=>by omega⟩,lm _⟩ (λ n=>rfl) (λ n h=>.inl h) (λ n h=>h);exact⟨f1.head,f1.rk,f1.tail,f1.link,f1.seq,f1.vs,λ n hn=>f1.dg n (hn.elim id λ h=>by simp[d3,bp] at h),f1.iw⟩
 |f2 v w n i=>
  obtain⟨A,F,O,h4,h5,h6,h7,h8,h9⟩:=J;have jA:=oP n (by simp[bp]);obtain⟨f1,f2⟩:=NR cz hN (i:=i) (v:=0) jA.1 jA.2;have Bw:=hP _ _ F.2.2.1;have hz:∀j,2<=j->j<i+1->(W.eT n i 0).nd n j=0:=λ j j2 ji=>by
   rw[i4]
   by_cases e:j=i
   ·rw[if_pos ⟨rfl,e⟩]
   ·rw[if_neg (λ hh=>e hh.2)];exact h9 j j2 (by omega)
  have PS:(W.eT n i 0).nd n 0=0:=by rw[i4,if_neg (by omega)];exact h5
  have PT:(W.eT n i 0).nd n 1=v+2:=by rw[i4,if_neg (by omega)];exact h6
  have GW:∀eK,d3 (bp D R N) eK=[]->gh D R N (aG+1) (W.eT n i 0) X (λ x=>ay x\/x∈d3 (bp D R N) eK) g:=λ eK hp=>⟨f1.head,f1.rk,f1.tail,f1.link,f1.seq,f1.vs,λ n hn=>f1.dg n (hn.elim id λ h=>by rw[hp] at h;simp at h),f1.iw⟩
  show qx (bp D R N) l S N aG W X ay g P s _ (W.eT n i 0) X g (if i<5 then _ else _)
  by_cases hi:i<5
  ·rw[if_pos hi];exact rH f2 (GW _ rfl) ⟨⟨A,f2.sw hP F,f2.full Bw O,h4,PS,PT,by omega,by omega,hz⟩,lm _⟩ (λ n=>rfl) (λ n h=>.inl h) (λ n h=>h)
  ·rw[if_neg hi];exact rH f2 (GW _ rfl) ⟨⟨A,f2.sw hP F,f2.full Bw O,h4,PS,PT,λ j j2 j5=>hz j j2 (by omega)⟩,lm _⟩ (λ n=>rfl) (λ n h=>.inl h) (λ n h=>h)
 |sa v mi w=>
  obtain⟨A,F,O,h4,h5⟩:=J;have hn:=hP _ _ F.2.2.1;have jA:=oP mi (by simp[bp]);have Q2:=Z mi (.inr (.inl (by simp[bp])))
  by_cases L:W.nd (ae w).idx 0=0
  ·have e1:fS W (iI D R (.sa v mi w))=(W.eT (ae w).idx 0 mi,⟨0,true⟩):=by simp only[iI,fS,Ws.get,L,if_true];rfl
   have e2:dv D W X g (.sa v mi w)=(X++[mi],{g with put:=g.put+1,vs:=g.vs++[v+2]}):=by simp only[dv,L,if_true]
   rw[e1,e2];have aaA:W.ob R=w:=by
    by_cases e:W.ob R=w
    ·exact e
    ·exact absurd L (F.2.2.2 e)
   obtain⟨f1,f2,lW⟩:=Wa cz hN ko qH (n:=(ae w).idx) (m:=mi) (v:=v) (by rw[aaA]) L O Q2.1 Q2.2 jA.1 jA.2 h5 A;refine rH (eK:=.at_ (.sb w mi m)) (f2.ye (by simp)) ?_ ⟨⟨f2.xU F.1,by omega,λ _=>lW⟩,lm _⟩ (λ n=>?_) (λ n h=>.inl (by simp[h])) (λ n h=>h)
   ·exact⟨f1.head,f1.rk,f1.tail,f1.link,f1.seq,f1.vs,λ n hn=>f1.dg n (hn.elim id λ h=>by simp[d3,bp] at h),f1.iw⟩
   ·simp[eJ,d3,bp,List.count_append]
  ·have e1:fS W (iI D R (.sa v mi w))=(W,⟨W.nd (ae w).idx 0,false⟩):=by simp only[iI,fS,Ws.get,L,if_false]
   have e2:dv D W X g (.sa v mi w)=(X,g):=by simp only[dv,L,if_false]
   rw[e1,e2];have l4:mi≠0:=by omega
   exact j9 (eK:=.g1 (.sg v mi) 0 (.ob R)) cz jy ⟨⟨A,by omega,λ _=>h5⟩,(λ h=>h),Kx _ ⟨v,mi,rfl⟩⟩ (by simp[eJ,bp,vY,l4]) rfl
 |sb w mi a=>
  obtain⟨O,h4,h5⟩:=J
  by_cases L:W.ob R=w
  ·have e1:fS W (iI D R (.sb w mi a))=(W.lK R (bK (ca (ae w) mi)),⟨w,true⟩):=by simp only[iI,fS,Ws.get,L,if_true];rfl
   have e2:dv D W X g (.sb w mi a)=(X,g):=rfl;rw[e1,e2];have h6:=h5 L;obtain⟨f1,f2,lW,ve,_⟩:=Iw cz hN hK jR.ne ko (nx:=mi) (by rw[L];exact h6) h4;rw[L] at f1 f2;refine rH (eK:=.bG (.fi (jm a))) (f2.ye (by simp)) ?_ trivial (λ n=>rfl) (λ n h=>.inl h) (λ n h=>h);exact⟨f1.head,f1.rk,f1.tail,f1.link,f1.seq,f1.vs,λ n hn=>f1.dg n (hn.elim id λ h=>by simp[d3,bp] at h),f1.iw⟩
  ·have e1:fS W (iI D R (.sb w mi a))=(W,⟨W.ob R,false⟩):=by simp only[iI,fS,Ws.get,L,if_false]
   rw[e1];exact j9 (eK:=.bG (.fi (jm a))) cz jy trivial rfl rfl
 |rl w i=>
  show qx (bp D R N) l S N aG W X ay g P s _ W X g (if W.nd (ae w).idx i=0 then _ else if W.nd (ae w).idx i=1 then _ else _)
  by_cases h0:W.nd (ae w).idx i=0
  ·rw[if_pos h0];exact j9 cz jy trivial rfl rfl
  ·rw[if_neg h0]
   by_cases A:W.nd (ae w).idx i=1
   ·rw[if_pos A];exact SA cz rfl rfl J A
   ·rw[if_neg A];obtain⟨k1,k2,k3,k4⟩:=J;have hn:=hP _ _ k1.2.2.1;have F:2<=W.nd (ae w).idx i:=by
     rcases hn with hn|hn
     ·obtain⟨am,B,hX,_,_⟩:=Nd hn ko;obtain⟨a,c,hs,_,_⟩:=cz.seq;have e:=CE (W:=W) (am:=am) (B:=B) (n:=(ae w).idx) k2 k3;rw[<-hX,hs] at e;have hm:=List.mem_of_getElem? e;rw[List.mem_append,List.mem_append] at hm;rcases hm with hm|hm|hm
      ·exact absurd (List.mem_replicate.1 hm).2 A
      ·exact(cz.vs _ hm).1
      ·exact absurd (List.mem_replicate.1 hm).2 h0
     ·exact absurd ((cz.dg _ hn).1 i k2 k3) A
    exact j9 cz jy ⟨⟨k1,k2,k3,k4,F,.inl rfl⟩,lm _⟩ rfl rfl
 |rc w i x=>
  obtain⟨k1,k2,k3,k4,k5,k6⟩:=J;have hn:=hP _ _ k1.2.2.1
  by_cases L:W.nd (ae w).idx i=x
  ·have e1:fS W (iI D R (.rc w i x))=(W.eT (ae w).idx i 1,⟨x,true⟩):=by simp only[iI,fS,Ws.get,L,if_true];rfl
   have e2:dv D W X g (.rc w i x)=(X,{g with vs:=g.vs.tail}):=by simp only[dv,L,if_true]
   rw[e1,e2];have Zn:W.ob D=w:=by
    by_cases e:W.ob D=w
    ·exact e
    ·have:=(k1.2.2.2 e).1 i k2 k3;omega
   obtain⟨f1,f2,lW⟩:=UP cz hN ko qH (n:=(ae w).idx) (by rw[Zn]) k2 k3 L k5 k4;refine rH (eK:=.bG (.fi ⟨m4 (x-2),true,0,m,[]⟩)) (f2.ye (by simp)) ?_ trivial (λ n=>rfl) (λ n h=>.inl h) (λ n h=>h);exact⟨f1.head,f1.rk,f1.tail,f1.link,f1.seq,f1.vs,λ n hn=>f1.dg n (hn.elim id λ h=>by simp[d3,bp] at h),f1.iw⟩
  ·have e1:fS W (iI D R (.rc w i x))=(W,⟨W.nd (ae w).idx i,false⟩):=by simp only[iI,fS,Ws.get,L,if_false]
   have e2:dv D W X g (.rc w i x)=(X,g):=by simp only[dv,L,if_false]
   rw[e1,e2];exact SA cz rfl rfl ⟨k1,k2,k3,k4⟩ (k6.resolve_left L)
 |rn w=>
  obtain⟨k1,k2⟩:=J;show qx (bp D R N) l S N aG W X ay g P s _ W X g (if W.nd (ae w).idx 0=0 then _ else _)
  by_cases h0:W.nd (ae w).idx 0=0
  ·rw[if_pos h0];exact j9 cz jy trivial rfl rfl
  ·rw[if_neg h0];exact j9 cz jy ⟨⟨k1,k2,h0,rfl⟩,lm _⟩ rfl rfl
 |re w nx=>
  obtain⟨k1,k2,k3,k4⟩:=J;show qx (bp D R N) l S N aG W X ay g P s _ W X g (if(ae (W.ob R)).idx=(ae w).idx then _ else _)
  by_cases h0:(ae (W.ob R)).idx=(ae w).idx
  ·rw[if_pos h0];exact j9 cz jy ⟨⟨k1,k2,k3,k4,cz.xU hN,h0,λ _=>.inl rfl⟩,lm _⟩ rfl rfl
  ·rw[if_neg h0];exact j9 cz jy ⟨⟨k1,k2,k3,k4,λ _=>h0⟩,lm _⟩ rfl rfl
 |rt w nx en=>
  obtain⟨k1,k2,k3,k4,k5,k6,k7⟩:=J;have hn:=hP _ _ k1.2.2.1
  by_cases L:W.ob R=en
  ·have e1:fS W (iI D R (.rt w nx en))=(W.lK R (bK (ca (ae en) nx)),⟨en,true⟩):=by simp only[iI,fS,Ws.get,L,if_true];rfl
   have e2:dv D W X g (.rt w nx en)=(X,g):=rfl;rw[e1,e2];obtain⟨f1,f2,lW,ve,_⟩:=Iw cz hN hK jR.ne ko (nx:=nx) (by rw[L,k6];exact k4) k3;rw[L] at f1 f2 lW;refine rH (eK:=.at_ (.rh w nx)) (f2.ye (by simp)) ?_ ⟨⟨f2.rw hP k1,λ j j1 j5=>f2.one hn j1 j5 (k2 j j1 j5),k3,by rw[f2.next hn (by rw[k4];exact k3)];exact k4,λ e=>?_⟩,lm _⟩ (λ n=>rfl) (λ n h=>.inl h) (λ n h=>h)
   ·exact⟨f1.head,f1.rk,f1.tail,f1.link,f1.seq,f1.vs,λ n hn=>f1.dg n (hn.elim id λ h=>by simp[d3,bp] at h),f1.iw⟩
   ·have ab:W.ob D=w:=f2.MX k1.1 e;rw[lW];rw[ab] at ve;exact ve
  ·have e1:fS W (iI D R (.rt w nx en))=(W,⟨W.ob R,false⟩):=by simp only[iI,fS,Ws.get,L,if_false]
   rw[e1];exact j9 (eK:=.at_ (.rh w nx)) cz jy ⟨⟨k1,k2,k3,k4,λ e=>(k7 e).resolve_left L⟩,lm _⟩ rfl rfl
 |rh w nx=>
  obtain⟨k1,k2,k3,k4,k7⟩:=J;have hn:=hP _ _ k1.2.2.1
  by_cases L:W.ob D=w
  ·have e1:fS W (iI D R (.rh w nx))=(W.lK D (bK (ca (ae w) nx)),⟨w,true⟩):=by simp only[iI,fS,Ws.get,L,if_true];rfl
   have e2:dv D W X g (.rh w nx)=(X.tail,{g with ret:=g.ret+1}):=by simp only[dv,L,if_true]
   rw[e1,e2];obtain⟨f1,f2,lW⟩:=YX cz hN hK jR.ne ko (n:=(ae w).idx) (nx:=nx) (by rw[L]) k4 k3 k2 (k7 L);rw[L] at f1 f2;refine rH (eK:=.bG (.rx (ae w).idx)) (f2.ye (by simp)) ?_ trivial (λ n=>?_) (λ n h=>?_) (λ n h=>by simp[bp] at h)
   ·exact⟨f1.head,f1.rk,f1.tail,f1.link,f1.seq,f1.vs,λ n hn=>f1.dg n (hn.imp id λ h=>by simpa[d3,bp] using h),f1.iw⟩
   ·have qN:X.count n=((ae w).idx::X.tail).count n:=by rw[<-lW]
    rw[qN];simp only[eJ,d3,bp,List.count_cons,List.count_nil];omega
   ·rw[lW,List.mem_cons] at h;rcases h with h|h
    ·exact .inr (by simp[d3,bp,h])
    ·exact .inl h
  ·have e1:fS W (iI D R (.rh w nx))=(W,⟨W.ob D,false⟩):=by simp only[iI,fS,Ws.get,L,if_false]
   have e2:dv D W X g (.rh w nx)=(X,g):=by simp only[dv,L,if_false]
   rw[e1,e2];exact j9 (eK:=.g1 .rg 0 (.ob D)) cz jy ⟨trivial,(λ h=>h),Y5⟩ rfl rfl
theorem M4(jR:AU l S D R)(hN:N<=100):nO (aB D R) (bp D R N) l S N where
 ic:=λ h hP=>aeI h hP
 JX:=λ h hP=>aeG h hP
 CG:=λ h hD hK=>⟨h.head,Nat.le_trans h.rk hK,h.tail,h.link,h.seq,h.vs,λ n hn=>h.dg n (hD n hn),h.iw⟩
 uO:=λ{W X g P k} s n a h hz n1 n2 hX=>by
  cases k<;>first
   |exact⟨h,hz⟩
   |exact⟨⟨h.1,h.2.1,h.2.2,n1⟩,λ h=>absurd h id⟩
 UQ:=λ k n a x=>by cases k<;>rfl
 Iz:=λ k n a=>by cases k<;>rfl
 full:=λ{W X g P k} s a h hz=>by
  cases k<;>first
   |exact⟨h,hz⟩
   |exact trivial
 PH:=λ k a=>by cases k<;>rfl
 Gy:=λ k a=>by cases k<;>rfl
 sN:=λ{W X g P k} s h hz=>by
  cases k<;>first
   |exact⟨h,hz⟩
   |exact trivial
 PJ:=λ k=>by cases k<;>rfl
 GB:=λ k=>by cases k<;>rfl
 retired:=λ{W X g P k} s h hz=>by
  cases k<;>first
   |exact⟨h,hz⟩
   |exact⟨trivial,(λ h=>h),by omega,by omega,⟨jR.A,jR.F⟩,rfl,rfl⟩
 MN:=λ k=>by cases k<;>rfl
 Fh:=λ k=>by cases k<;>rfl
 rD:=λ{W X g k} s h hz=>by
  cases k<;>first
   |exact hz
   |exact⟨h,λ h=>absurd h id⟩
   |exact⟨trivial,λ h=>absurd h id⟩
 O1:=λ k iG=>by cases k<;>simp[aB]
 O0:=λ k=>by cases k<;>rfl
 OZ:=λ k=>by cases k<;>rfl
 PL:=λ{W X g ay P k aG} i c L hg cz J hX hP=>by
  obtain⟨rfl,hg⟩:=hg;cases k<;>simp only at hg
  case sg v m=>subst hg;exact⟨cz.xU hN,(cz.iw _ (cz.tX hN)).1,hX _ (cz.tX hN),λ h=>absurd rfl h⟩
  case rg=>
   subst hg;have hh:(ae (W.ob D)).idx∈X:=by obtain⟨B,hB⟩:=gh.yW cz hN;generalize(ae (W.ob D)).idx=n at hB;rw[hB];exact List.mem_cons_self
   exact⟨cz.MZ hN,(cz.iw _ hh).1,hX _ hh,λ h=>absurd rfl h⟩
 guarded:=λ{W X g P k i c v} s a hg h J=>by
  obtain⟨rfl,hg⟩:=hg;cases k<;>simp only at hg
  case sg x m=>exact⟨⟨J.1,J.2,h,by omega,by omega,λ j j1 j2=>by omega⟩,λ h=>absurd h id⟩
  case rg=>exact⟨⟨h,by omega,by omega,λ j j1 j2=>by omega⟩,λ h=>absurd h id⟩
 PQ:=λ k v a=>by cases k<;>rfl
 GF:=λ k v a=>by cases k<;>rfl
 ask:=λ{W X g P ay k aG} cz J hP Z=>by
  have acN:(Ad.ob R).str l S N:=⟨jR.t1,jR.t2⟩;have acy:(Ad.ob D).str l S N:=⟨jR.A,jR.F⟩;cases k with
  |sl v m w i=>have:=hP _ _ J.2.2.1.2.2.1;exact⟨this.1,this.2,by have:=J.2.2.2.1;omega,J.2.2.2.2.1⟩
  |sc v m w i=>have:=hP _ _ J.2.2.1.2.2.1;exact⟨this.1,this.2,by have:=J.2.2.2.1;omega,J.2.2.2.2.1⟩
  |sn v m w=>have:=hP _ _ J.2.2.1.2.2.1;exact⟨this.1,this.2,by omega,by omega⟩
  |f0 v w n=>have:=Z n (.inr (.inl (by simp[bp])));exact⟨this.1,this.2,by omega,by omega⟩
  |f1 v w n=>have:=Z n (.inr (.inl (by simp[bp])));exact⟨this.1,this.2,by omega,by omega⟩
  |f2 v w n i=>have:=Z n (.inr (.inl (by simp[bp])));exact⟨this.1,this.2,by have:=J.2.2.2.2.2.2.1;omega,J.2.2.2.2.2.2.2.1⟩
  |sa v m w=>have:=hP _ _ J.2.1.2.2.1;exact⟨this.1,this.2,by omega,by omega⟩
  |rl w i=>have:=hP _ _ J.1.2.2.1;exact⟨this.1,this.2,by have:=J.2.1;omega,J.2.2.1⟩
  |rc w i x=>have:=hP _ _ J.1.2.2.1;exact⟨this.1,this.2,by have:=J.2.1;omega,J.2.2.1⟩
  |rn w=>have:=hP _ _ J.1.2.2.1;exact⟨this.1,this.2,by omega,by omega⟩
  |rh w nx=>exact acy
  |_=>exact acN
 step:=λ{W X ay g P k aG} s m hK cz J _ hP Z ko _ oP qH jy=>aeK jR hN hK s m cz J hP Z ko oP qH jy
end
end Go.Proofs.YtcnefjfboagbmaaGreat.Sg
