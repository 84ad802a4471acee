/- plays of channels: what is of any machine -/
import Derived.Test.YtcnefjfboagbmaaGreatYA
import Derived.Test.YtcnefjfboagbmaaGreatPA
namespace Go.Proofs.YtcnefjfboagbmaaGreat.Sg
set_option maxRecDepth 100000
def xC(gone:List (Int×Int)):Q Sk:=⟨.fin ⟨0,false,0,0,[]⟩,⟨0,gone,0,0,0⟩⟩
theorem Inv.mono{aK cC:Type}{ak:lx aK}{ag:Sp aK cC}{l:ah}{S N aG:Nat}{V:Vw}{qs:List (Q aK)}{aA X:List Int}{g:cC}(hs:nO ak ag l S N)(h:Inv ag l S N aG V qs aA X g):Inv ag l S N (aG+1) V qs aA X g:=
 ⟨h.n,h.fr,⟨h.w7.1,by have:=h.w7.2;omega⟩,⟨h.er.1,by have:=h.er.2;omega⟩,h.lf,h.part,h.bi,hs.CG h.si (λ _ h=>h) (Nat.le_succ aG),h.loc⟩
theorem aeA{aK:Type}(ak:lx aK)(S:Nat)(q:Q aK)(log:List aF)(r:aF):oo ak S q (log++[r])=tell ak S (oo ak S q log) r:=by simp[oo,List.foldl_append]
theorem OC{aK cC:Type}{ak:lx aK}{ag:Sp aK cC}{l:ah}{S N aG:Nat}{V:Vw}{qs:List (Q aK)}{aA X:List Int}{g:cC}(hs:nO ak ag l S N)(hI:Inv ag l S N aG V qs aA X g){w:Nat}{q:Q aK}(hq:qs[w]?=some q)(hf:q.pc.pS):(cf ak w q.pc).ad.ok l S N:=by
 have U:=hI.loc w _ hq;have hw:w<S:=by have:=(List.getElem?_eq_some_iff.1 hq).1;have:=hI.n;omega
 obtain⟨pc,s⟩:=q;have cT:=U.pc;cases pc with
 |bG k=>exact absurd hf id
 |fin o=>exact absurd hf id
 |at_ k=>
  have eo:∀i n,Pr ag V X qs w s i n->1<=n/\n<=(N:Int):=λ i n h=>(uH h).elim (λ h=>hI.rW h) λ h=>(hI.dq h).1
  have jA:∀n∈ag.aZ k,n∈own ag ⟨.at_ k,s⟩:=λ n h=>by unfold own;rw[List.mem_append];exact .inl h
  have Kp:∀n∈ag.dead k,n∈own ag ⟨.at_ k,s⟩:=λ n h=>by unfold own ej;rw[List.mem_append,List.mem_append];exact .inr (.inl h)
  have:=hs.ask hI.si cT.1 eo (λ n h=>h.elim (λ h=>hI.rW h) λ h=>h.elim (λ h=>hI.nD hq (jA n h)) λ h=>hI.nD hq (Kp n h));show(ak.ask k).ad.ok l S N;cases ha:ak.ask k with
  |ld a=>rw[ha] at this;exact Ad.Iu this
  |st a v=>rw[ha] at this;exact Ad.Iu this
  |cs a o v=>rw[ha] at this;exact Ad.Iu this
  |up=>trivial
 |t1 k=>trivial
 |t2 k f=>exact⟨cT.2.2.2,cT.2.2.1.le⟩
 |t3 k f lk=>trivial
 |t4 k n a=>trivial
 |t5 k n a b=>exact hI.nD hq (by simp[own,eJ])
 |g1 k i c=>exact Ad.Iu cT.2.2.2.2.1
 |g2 k i c v a=>trivial
 |g3 k i c er=>exact⟨by omega,by omega,cT.2.2.1,cT.2.2.2.1⟩
 |c k i=>exact⟨by omega,by omega,cT.2.1,cT.2.2⟩
 |v1 k n=>trivial
 |v2 k n f=>exact hI.nD hq (by simp[own,eJ])
 |v3 k n f=>trivial
 |r1 k n=>trivial
 |r2 k n er=>trivial
 |rs k aw c cs=>obtain⟨aM,i,A,F,O,h4,rfl⟩:=cT.2.2.2 c (by simp);exact⟨A,F,O,h4⟩
 |s1 k aw y gs aL=>exact hI.nD hq (by simp[own,ej,iU])
 |w1 k aw y gs aL=>trivial
 |w2 k aw y gs aL f=>exact hI.nD hq (by simp[own,ej,iU])
 |w3 k aw y gs aL f=>trivial
theorem abx{aK cC:Type}{ag:Sp aK cC}{l:ah}{S N:Nat}{V:Vw}{X:List Int}{g:cC}{P:Int->Int->Prop}{s:af}{pc:Pc aK}(h:wv ag l S N V X g P s pc)(hf:∀o,pc≠.fin o):pc.pS:=by cases pc<;>first|trivial|exact absurd rfl (hf _)|exact absurd h id
def kF(a:Int):Nat->List Int
 |0=>[]
 |k+1=>a::kF (a+1) k
theorem NM(n:Int):∀(k:Nat)(a:Int),(kF a k).count n=if a<=n/\n<a+k then 1 else 0
 |0,a=>by simp only[kF,List.count_nil];rw[if_neg (by omega)]
 |k+1,a=>by
  rw[kF,List.count_cons,NM n k (a+1)]
  by_cases h:a=n
  ·subst h;rw[if_neg (show¬(a+1<=a/\a<a+1+(k:Int)) by omega),if_pos (show a<=a/\a<a+((k+1:Nat):Int) by omega)];simp
  ·have Z:(a==n)=false:=by simp[h]
   rw[Z]
   by_cases F:a+1<=n/\n<a+1+(k:Int)
   ·rw[if_pos F,if_pos (show a<=n/\n<a+((k+1:Nat):Int) by omega)];rfl
   ·rw[if_neg F,if_neg (show¬(a<=n/\n<a+((k+1:Nat):Int)) by omega)];rfl
def g0:ge:=⟨0,0,[]⟩
def BX:Sk->Option Int
 |.sb _ _ a=>some a
 |.sv a=>some a
 |.fi o=>some o.c6
 |_=>none
def HA:Sk->Option (Int×Bool×Int)
 |.sb _ _ _=>some (0,true,0)
 |.sv _=>some (0,true,0)
 |.fi o=>some (o.val,o.is,o.err)
 |_=>none
def bW:Pc Sk->Option Int
 |.fin o=>some o.c6
 |.at_ k|.t1 k|.t2 k _|.t3 k _ _|.t4 k _ _|.t5 k _ _ _|.g1 k _ _|.g2 k _ _ _ _|.g3 k _ _ _|.bG k|.c k _|.v1 k _|.v2 k _ _|.v3 k _ _|.r1 k _|.r2 k _ _|.rs k _ _ _|.s1 k _ _ _ _|.w1 k _ _ _ _|.w2 k _ _ _ _ _|.w3 k _ _ _ _ _=>BX k
def fV:Pc Sk->Option (Int×Bool×Int)
 |.fin o=>some (o.val,o.is,o.err)
 |.at_ k|.t1 k|.t2 k _|.t3 k _ _|.t4 k _ _|.t5 k _ _ _|.g1 k _ _|.g2 k _ _ _ _|.g3 k _ _ _|.bG k|.c k _|.v1 k _|.v2 k _ _|.v3 k _ _|.r1 k _|.r2 k _ _|.rs k _ _ _|.s1 k _ _ _ _|.w1 k _ _ _ _|.w2 k _ _ _ _ _|.w3 k _ _ _ _ _=>HA k
def g9(q:Q Sk):Prop:=match q.pc with
 |.at_ k=>match k with
  |.sl ..|.sc ..|.sn ..|.st ..|.f0 ..|.f1 ..|.f2 ..|.sa ..|.sb ..|.rl ..|.rc ..|.rn ..|.re ..|.rt ..|.rh ..=>True
  |_=>False
 |.t1 k|.t2 k _|.t3 k _ _|.t4 k _ _|.t5 k _ _ _=>∃v w,k=.tk v w
 |.g1 k _ _|.g2 k _ _ _ _|.g3 k _ _ _=>(∃v m,k=.sg v m)\/k=.rg
 |.bG _=>False
 |.c k i=>q.s.e i≠0/\0<=i/\i<=2/\((∃o,k=.fi o)\/∃n,k=.rx n)
 |.v1 k _|.v2 k _ _|.v3 k _ _=>∃a,k=.sv a
 |.r1 k _|.r2 k _ _|.rs k _ _ _|.s1 k _ _ _ _|.w1 k _ _ _ _|.w2 k _ _ _ _ _|.w3 k _ _ _ _ _=>k=.rr
 |.fin _=>True
section
variable{D R:Int}{S:Nat}
theorem Ga(k:Sk)(s:af):bW (gj (aB D R) k s).pc=BX k/\fV (gj (aB D R) k s).pc=HA k:=by
 rcases A8 (ak:=aB D R) k s with⟨i,_,_,_,e⟩|⟨_,e⟩
 ·rw[e];exact⟨rfl,rfl⟩
 ·rw[e];cases k<;>exact⟨rfl,rfl⟩
theorem ll(pc:Pc Sk)(s:af):bW (aR (aB D R) pc s).pc=bW pc/\fV (aR (aB D R) pc s).pc=fV pc:=by
 unfold aR;split
 ·exact Ga _ s
 ·exact⟨rfl,rfl⟩
theorem wq(k:Sk)(aw:List Int)(s:af)(gs aL:List (Int×Int)):bW (gL (aB D R) k aw s gs aL).pc=BX k/\fV (gL (aB D R) k aw s gs aL).pc=HA k:=by
 cases gs with
 |nil=>have:=ll (D:=D) (R:=R) ((aB D R).retired k) {s with gone:=aL};unfold gL;rw[this.1,this.2];cases k<;>exact⟨rfl,rfl⟩
 |cons g gs=>exact⟨rfl,rfl⟩
theorem CA(k:Sk)(aw:List Int)(s:af)(cs:List Ad):bW (mU (aB D R) k aw s cs).pc=BX k/\fV (mU (aB D R) k aw s cs).pc=HA k:=by
 cases cs with
 |nil=>exact wq _ _ _ _ _
 |cons c cs=>exact⟨rfl,rfl⟩
theorem To{q:Q Sk}{r:aF}{a:Int}(h:bW q.pc=some a):bW (tell (aB D R) S q r).pc=some a/\fV (tell (aB D R) S q r).pc=fV q.pc:=by
 obtain⟨pc,s⟩:=q;cases pc with
 |fin o=>exact⟨h,rfl⟩
 |bG k=>exact⟨h,rfl⟩
 |at_ k=>have:=ll (D:=D) (R:=R) (oq D R k s.made r) s.up;show bW (aR (aB D R) (oq D R k s.made r) s.up).pc=_/\fV (aR (aB D R) (oq D R k s.made r) s.up).pc=_;rw[this.1,this.2];cases k<;>first|exact⟨h,rfl⟩|cases h
 |t1 k=>
  show bW (if(ae r.val).idx=0 then aR (aB D R) _ s.up else _:Q Sk).pc=_/\fV (if(ae r.val).idx=0 then aR (aB D R) _ s.up else _:Q Sk).pc=_;split
  ·rw[(ll _ _).1,(ll _ _).2];cases k<;>first|exact⟨h,rfl⟩|cases h
  ·exact⟨h,rfl⟩
 |t2 k f=>exact⟨h,rfl⟩
 |t3 k f lk=>show bW (if r.ok then _ else _:Q Sk).pc=_/\fV (if r.ok then _ else _:Q Sk).pc=_;split<;>exact⟨h,rfl⟩
 |t4 k n b=>exact⟨h,rfl⟩
 |t5 k n b c=>show bW (aR (aB D R) _ s.up).pc=_/\fV (aR (aB D R) _ s.up).pc=_;rw[(ll _ _).1,(ll _ _).2];cases k<;>first|exact⟨h,rfl⟩|cases h
 |g1 k i c=>exact⟨h,rfl⟩
 |g2 k i c v b=>
  show bW (if r.val=s.e i then aR (aB D R) _ s.up else _:Q Sk).pc=_/\fV (if r.val=s.e i then aR (aB D R) _ s.up else _:Q Sk).pc=_;split
  ·rw[(ll _ _).1,(ll _ _).2];cases k<;>first|exact⟨h,rfl⟩|cases h
  ·exact⟨h,rfl⟩
 |g3 k i c er=>exact⟨h,rfl⟩
 |c k i=>have:=Ga (D:=D) (R:=R) k (s.up.fb i 0);exact⟨this.1.trans h,this.2⟩
 |v1 k n=>exact⟨h,rfl⟩
 |v2 k n f=>exact⟨h,rfl⟩
 |v3 k n f=>
  show bW (if r.ok then aR (aB D R) _ s.up else _:Q Sk).pc=_/\fV (if r.ok then aR (aB D R) _ s.up else _:Q Sk).pc=_;split
  ·rw[(ll _ _).1,(ll _ _).2];cases k<;>first|exact⟨h,rfl⟩|cases h
  ·exact⟨h,rfl⟩
 |r1 k n=>exact⟨h,rfl⟩
 |r2 k n er=>
  show bW (if(s.gone.length:Int)+1<2*(S:Int) then aR (aB D R) _ _ else _:Q Sk).pc=_/\fV (if(s.gone.length:Int)+1<2*(S:Int) then aR (aB D R) _ _ else _:Q Sk).pc=_;split
  ·rw[(ll _ _).1,(ll _ _).2];cases k<;>first|exact⟨h,rfl⟩|cases h
  ·have:=CA (D:=D) (R:=R) k [] {s.up with gone:=s.gone++[(n,er)]} (pK 0 S);exact⟨this.1.trans h,this.2⟩
 |rs k aw c cs=>have:=CA (D:=D) (R:=R) k (aw++[r.val]) s.up cs;exact⟨this.1.trans h,this.2⟩
 |s1 k aw y gs aL=>
  show bW (if aw.any (fE (kT r.val) y.2)=true then gL (aB D R) _ _ _ _ _ else _:Q Sk).pc=_/\fV (if aw.any (fE (kT r.val) y.2)=true then gL (aB D R) _ _ _ _ _ else _:Q Sk).pc=_;split
  ·exact⟨(wq _ _ _ _ _).1.trans h,(wq _ _ _ _ _).2⟩
  ·exact⟨h,rfl⟩
 |w1 k aw y gs aL=>exact⟨h,rfl⟩
 |w2 k aw y gs aL f=>exact⟨h,rfl⟩
 |w3 k aw y gs aL f=>
  show bW (if r.ok then gL (aB D R) _ _ _ _ _ else _:Q Sk).pc=_/\fV (if r.ok then gL (aB D R) _ _ _ _ _ else _:Q Sk).pc=_;split
  ·exact⟨(wq _ _ _ _ _).1.trans h,(wq _ _ _ _ _).2⟩
  ·exact⟨h,rfl⟩
theorem Ju{k:Sk}(s:af)(J:(∃o,k=.fi o)\/∃n,k=.rx n):g9 (gj (aB D R) k s):=by
 rcases A8 (ak:=aB D R) k s with⟨i,i0,i2,h,e⟩|⟨_,e⟩
 ·rw[e];exact⟨h,i0,i2,J⟩
 ·rw[e];rcases J with⟨o,rfl⟩|⟨n,rfl⟩
  ·trivial
  ·rfl
theorem M9(aw:List Int)(s:af)(gs aL:List (Int×Int)):g9 (gL (aB D R) .rr aw s gs aL):=by
 cases gs with
 |nil=>exact .inr rfl
 |cons g gs=>rfl
theorem T8(aw:List Int)(s:af)(cs:List Ad):g9 (mU (aB D R) .rr aw s cs):=by
 cases cs with
 |nil=>exact M9 _ _ _ _
 |cons c cs=>rfl
theorem SD(v m w i:Int)(s:af):g9 (aR (aB D R) (kB v m w i) s):=by unfold kB;split<;>trivial
theorem SB(w i:Int)(s:af):g9 (aR (aB D R) (l9 w i) s):=by unfold l9;split<;>trivial
theorem ae1{q:Q Sk}{r:aF}(h:g9 q):g9 (tell (aB D R) S q r):=by
 obtain⟨pc,s⟩:=q;have jS:∀(o:aY)(s:af),g9 (aR (aB D R) (.bG (.fi o)) s):=λ o s=>Ju s (.inl ⟨o,rfl⟩)
 cases pc with
 |fin o=>exact h
 |bG k=>exact absurd h id
 |at_ k=>
  cases k with
  |sl v m w i=>
   show g9 (aR (aB D R) (if r.val=0 then _ else _) s.up);split
   ·trivial
   ·exact SD _ _ _ _ _
  |sc v m w i=>
   show g9 (aR (aB D R) (if r.ok then(if m=0 then _ else _) else _) s.up);split
   ·split
    ·exact jS _ _
    ·exact⟨_,rfl⟩
   ·exact SD _ _ _ _ _
  |sn v m w=>
   show g9 (aR (aB D R) (if r.val=0 then(if m=0 then _ else _) else _) s.up);split
   ·split
    ·exact⟨_,_,rfl⟩
    ·trivial
   ·trivial
  |st v m w nx=>exact .inl ⟨_,_,rfl⟩
  |f0 v w n=>trivial
  |f1 v w n=>trivial
  |f2 v w n i=>show g9 (aR (aB D R) (if i<5 then _ else _) s.up);split<;>trivial
  |sa v m w=>
   show g9 (aR (aB D R) (if r.ok then _ else _) s.up);split
   ·trivial
   ·exact .inl ⟨_,_,rfl⟩
  |sb w m a=>exact jS _ _
  |rl w i=>
   show g9 (aR (aB D R) (if r.val=0 then _ else if r.val=1 then _ else _) s.up);split
   ·exact jS _ _
   ·split
    ·exact SB _ _ _
    ·trivial
  |rc w i x=>
   show g9 (aR (aB D R) (if r.ok then _ else _) s.up);split
   ·exact jS _ _
   ·exact SB _ _ _
  |rn w=>
   show g9 (aR (aB D R) (if r.val=0 then _ else _) s.up);split
   ·exact jS _ _
   ·trivial
  |re w nx=>show g9 (aR (aB D R) (if(ae r.val).idx=(ae w).idx then _ else _) s.up);split<;>trivial
  |rt w nx en=>trivial
  |rh w nx=>
   show g9 (aR (aB D R) (if r.ok then _ else _) s.up);split
   ·exact Ju _ (.inr ⟨_,rfl⟩)
   ·exact .inr rfl
  |_=>exact absurd h id
 |t1 k=>
  obtain⟨v,w,rfl⟩:=h;show g9 (if(ae r.val).idx=0 then aR (aB D R) _ s.up else _);split
  ·exact jS _ _
  ·exact⟨v,w,rfl⟩
 |t2 k f=>exact h
 |t3 k f lk=>show g9 (if r.ok then _ else _);split<;>exact h
 |t4 k n b=>exact h
 |t5 k n b c=>
  obtain⟨v,w,rfl⟩:=h
  trivial
 |g1 k i c=>exact h
 |g2 k i c v b=>
  show g9 (if r.val=s.e i then aR (aB D R) _ s.up else _);split
  ·rcases h with⟨ij,m,rfl⟩|rfl<;>trivial
  ·exact h
 |g3 k i c er=>exact h
 |c k i=>exact Ju _ h.2.2.2
 |v1 k n=>exact h
 |v2 k n f=>exact h
 |v3 k n f=>
  obtain⟨a,rfl⟩:=h;show g9 (if r.ok then aR (aB D R) _ s.up else _);split
  ·exact jS _ _
  ·exact⟨a,rfl⟩
 |r1 k n=>exact h
 |r2 k n er=>
  have h:k=.rr:=h;subst h;show g9 (if(s.gone.length:Int)+1<2*(S:Int) then aR (aB D R) _ _ else _);split
  ·exact .inr rfl
  ·exact T8 _ _ _
 |rs k aw c cs=>have h:k=.rr:=h;subst h;exact T8 _ _ _
 |s1 k aw y gs aL=>
  have h:k=.rr:=h;subst h;show g9 (if aw.any (fE (kT r.val) y.2)=true then gL (aB D R) _ _ _ _ _ else _);split
  ·exact M9 _ _ _ _
  ·rfl
 |w1 k aw y gs aL=>exact h
 |w2 k aw y gs aL f=>exact h
 |w3 k aw y gs aL f=>
  have h:k=.rr:=h;subst h;show g9 (if r.ok then gL (aB D R) _ _ _ _ _ else _);split
  ·exact M9 _ _ _ _
  ·rfl
theorem adF{q:Q Sk}{r:aF}(hs:g9 q)(h:bW q.pc=none):bW (tell (aB D R) S q r).pc=none\/bW (tell (aB D R) S q r).pc=some (q.s.made:Int):=by
 obtain⟨pc,s⟩:=q;have jS:∀(o:aY)(s:af),bW (aR (aB D R) (.bG (.fi o)) s).pc=some o.c6:=λ o s=>(ll _ _).1
 have El:∀(v m w i:Int)(s:af),bW (aR (aB D R) (kB v m w i) s).pc=none:=λ v m w i s=>by rw[(ll _ _).1];unfold kB;split<;>rfl
 have Ek:∀(w i:Int)(s:af),bW (aR (aB D R) (l9 w i) s).pc=none:=λ w i s=>by rw[(ll _ _).1];unfold l9;split<;>rfl
 cases pc with
 |fin o=>cases h
 |bG k=>exact absurd hs id
 |at_ k=>
  cases k with
  |sl v m w i=>
   show bW (aR (aB D R) (if r.val=0 then _ else _) s.up).pc=_\/bW (aR (aB D R) (if r.val=0 then _ else _) s.up).pc=_;split
   ·exact .inl rfl
   ·exact .inl (El _ _ _ _ _)
  |sc v m w i=>
   show bW (aR (aB D R) (if r.ok then(if m=0 then _ else _) else _) s.up).pc=_\/bW (aR (aB D R) (if r.ok then(if m=0 then _ else _) else _) s.up).pc=_;split
   ·split
    ·exact .inr (jS _ _)
    ·exact .inr rfl
   ·exact .inl (El _ _ _ _ _)
  |sn v m w=>
   show bW (aR (aB D R) (if r.val=0 then(if m=0 then _ else _) else _) s.up).pc=_\/bW (aR (aB D R) (if r.val=0 then(if m=0 then _ else _) else _) s.up).pc=_;split
   ·split<;>exact .inl rfl
   ·exact .inl rfl
  |st v m w nx=>exact .inl rfl
  |f0 v w n=>exact .inl rfl
  |f1 v w n=>exact .inl rfl
  |f2 v w n i=>show bW (aR (aB D R) (if i<5 then _ else _) s.up).pc=_\/bW (aR (aB D R) (if i<5 then _ else _) s.up).pc=_;split<;>exact .inl rfl
  |sa v m w=>
   show bW (aR (aB D R) (if r.ok then _ else _) s.up).pc=_\/bW (aR (aB D R) (if r.ok then _ else _) s.up).pc=_;split
   ·exact .inr rfl
   ·exact .inl rfl
  |rl w i=>
   show bW (aR (aB D R) (if r.val=0 then _ else if r.val=1 then _ else _) s.up).pc=_\/bW (aR (aB D R) (if r.val=0 then _ else if r.val=1 then _ else _) s.up).pc=_;split
   ·exact .inr (jS _ _)
   ·split
    ·exact .inl (Ek _ _ _)
    ·exact .inl rfl
  |rc w i x=>
   show bW (aR (aB D R) (if r.ok then _ else _) s.up).pc=_\/bW (aR (aB D R) (if r.ok then _ else _) s.up).pc=_;split
   ·exact .inr (jS _ _)
   ·exact .inl (Ek _ _ _)
  |rn w=>
   show bW (aR (aB D R) (if r.val=0 then _ else _) s.up).pc=_\/bW (aR (aB D R) (if r.val=0 then _ else _) s.up).pc=_;split
   ·exact .inr (jS _ _)
   ·exact .inl rfl
  |re w nx=>show bW (aR (aB D R) (if(ae r.val).idx=(ae w).idx then _ else _) s.up).pc=_\/bW (aR (aB D R) (if(ae r.val).idx=(ae w).idx then _ else _) s.up).pc=_;split<;>exact .inl rfl
  |rt w nx en=>exact .inl rfl
  |rh w nx=>
   show bW (aR (aB D R) (if r.ok then _ else _) s.up).pc=_\/bW (aR (aB D R) (if r.ok then _ else _) s.up).pc=_;split
   ·exact .inl (ll _ _).1
   ·exact .inl rfl
  |sb w m a=>cases h
  |_=>exact absurd hs id
 |t1 k=>
  obtain⟨v,w,rfl⟩:=hs;show bW (if(ae r.val).idx=0 then aR (aB D R) _ s.up else _:Q Sk).pc=_\/bW (if(ae r.val).idx=0 then aR (aB D R) _ s.up else _:Q Sk).pc=_;split
  ·exact .inr (jS _ _)
  ·exact .inl rfl
 |t2 k f=>exact .inl h
 |t3 k f lk=>show bW (if r.ok then _ else _:Q Sk).pc=_\/bW (if r.ok then _ else _:Q Sk).pc=_;split<;>exact .inl h
 |t4 k n b=>exact .inl h
 |t5 k n b c=>obtain⟨v,w,rfl⟩:=hs;exact .inl rfl
 |g1 k i c=>exact .inl h
 |g2 k i c v b=>
  show bW (if r.val=s.e i then aR (aB D R) _ s.up else _:Q Sk).pc=_\/bW (if r.val=s.e i then aR (aB D R) _ s.up else _:Q Sk).pc=_;split
  ·rcases hs with⟨ij,m,rfl⟩|rfl<;>exact .inl rfl
  ·exact .inl h
 |g3 k i c er=>exact .inl h
 |c k i=>exact .inl ((Ga _ _).1.trans h)
 |v1 k n=>exact .inl h
 |v2 k n f=>exact .inl h
 |v3 k n f=>obtain⟨a,rfl⟩:=hs;cases h
 |r1 k n=>exact .inl h
 |r2 k n er=>
  have hs:k=.rr:=hs;subst hs;show bW (if(s.gone.length:Int)+1<2*(S:Int) then aR (aB D R) _ _ else _:Q Sk).pc=_\/bW (if(s.gone.length:Int)+1<2*(S:Int) then aR (aB D R) _ _ else _:Q Sk).pc=_;split
  ·exact .inl rfl
  ·exact .inl (CA _ _ _ _).1
 |rs k aw c cs=>exact .inl ((CA _ _ _ _).1.trans h)
 |s1 k aw y gs aL=>
  show bW (if aw.any (fE (kT r.val) y.2)=true then gL (aB D R) _ _ _ _ _ else _:Q Sk).pc=_\/bW (if aw.any (fE (kT r.val) y.2)=true then gL (aB D R) _ _ _ _ _ else _:Q Sk).pc=_;split
  ·exact .inl ((wq _ _ _ _ _).1.trans h)
  ·exact .inl h
 |w1 k aw y gs aL=>exact .inl h
 |w2 k aw y gs aL f=>exact .inl h
 |w3 k aw y gs aL f=>
  show bW (if r.ok then gL (aB D R) _ _ _ _ _ else _:Q Sk).pc=_\/bW (if r.ok then gL (aB D R) _ _ _ _ _ else _:Q Sk).pc=_;split
  ·exact .inl ((wq _ _ _ _ _).1.trans h)
  ·exact .inl h
end
def Vq(q:Q Sk):Prop:=∀a,bW q.pc=some a->0<=a/\a<q.s.made
theorem afi(D R:Int)(op:bl)(gone:List (Int×Int)):g9 (i8 D R op gone)/\Vq (i8 D R op gone)/\bW (i8 D R op gone).pc=none:=by
 unfold i8
 by_cases h:op.kind=6
 ·simp only[h,if_true];exact⟨.inl ⟨_,_,rfl⟩,(λ a ha=>by simp[bW,BX] at ha),rfl⟩
 ·simp only[h,if_false];exact⟨.inr rfl,(λ a ha=>by simp[bW,BX] at ha),rfl⟩
section
variable(D R:Int)
def jO(W:Ws)(w:Int):Nat:=if W.ob R=w then(if W.nd (ae w).idx 0=0 then 17 else 34) else 51
def gR(W:Ws)(w:Int):Nat:=if W.nd (ae w).idx 0=0 then 5 else 50
def h3(W:Ws)(w:Int):Nat:=if W.ob D=w then 0 else 19
def cK(W:Ws):Sk->Nat
 |.sl _ _ w i=>2*(6-i).toNat+jO R W w
 |.sc _ _ w i=>2*(6-i).toNat-1+jO R W w
 |.sn _ _ w=>jO R W w
 |.st _ _ w _=>if W.ob R=w then 33 else 50
 |.f0 _ w _=>6+gR W w
 |.f1 _ w _=>5+gR W w
 |.f2 _ w _ i=>(6-i).toNat+gR W w
 |.sa _ _ w=>gR W w
 |.sb _ _ _=>4
 |.rl w i=>2*(6-i).toNat+4+h3 D W w
 |.rc w i _=>2*(6-i).toNat+3+h3 D W w
 |.rn w=>4+h3 D W w
 |.re w _=>3+h3 D W w
 |.rt w _ _=>2+h3 D W w
 |.rh w _=>1+h3 D W w
 |_=>0
def gK(W:Ws)(k:Sk)(v:Int):Nat:=match k with
 |.sg _ _=>10+jO R W v
 |.rg=>14+h3 D W v
 |_=>0
def tK(W:Ws):Sk->Nat
 |.tk _ w=>6+gR W w
 |_=>0
def kC(S:Nat)(s:af):Sk->Nat
 |.rx _=>2+3*S+4*(s.gone.length+1)+19
 |_=>0
def nz(s:af):Nat:=(if s.e0=0 then 0 else 1)+(if s.e1=0 then 0 else 1)+(if s.e2=0 then 0 else 1)
def L6(S:Nat)(V:Vw)(s:af):Pc Sk->Nat
 |.at_ k=>cK D R V.W k
 |.t1 k=>5+tK V.W k
 |.t2 k f=>(if V.fr=f then 4 else 7)+tK V.W k
 |.t3 k f _=>(if V.fr=f then 3 else 6)+tK V.W k
 |.t4 k _ _=>2+tK V.W k
 |.t5 k _ _ _=>1+tK V.W k
 |.g1 k i c=>(if V.er=s.e i then 2 else 5)+gK D R V.W k (V.W.get c)
 |.g2 k i c v _=>if V.er=s.e i then 1+gK D R V.W k v else 4+gK D R V.W k (V.W.get c)
 |.g3 k _ c er=>(if V.er=er then 3 else 6)+gK D R V.W k (V.W.get c)
 |.bG _=>0
 |.c k _=>nz s+kC S s k
 |.v1 _ _=>6
 |.v2 _ _ f=>(if V.fr=f then 5 else 8)
 |.v3 _ _ f=>(if V.fr=f then 4 else 7)
 |.r1 _ _=>2+3*S+4*(s.gone.length+1)+19
 |.r2 _ _ _=>1+3*S+4*(s.gone.length+1)+19
 |.rs _ _ _ cs=>1+cs.length+4*s.gone.length+19
 |.s1 _ _ _ gs _=>4+4*gs.length+19
 |.w1 _ _ _ gs _=>3+4*gs.length+19
 |.w2 _ _ _ gs _ f=>(if V.fr=f then 2 else 5)+4*gs.length+19
 |.w3 _ _ _ gs _ f=>(if V.fr=f then 1 else 4)+4*gs.length+19
 |.fin _=>0
def nu(S:Nat)(V:Vw)(q:Q Sk):Nat:=L6 D R S V q.s q.pc
end
section
variable{D R:Int}{S N aG:Nat}{l:ah}{V:Vw}
theorem WK(W:Ws)(w:Int):17<=jO R W w:=by
 unfold jO;split
 ·split<;>omega
 ·omega
theorem F3(W:Ws)(w:Int):jO R W w<=51:=by
 unfold jO;split
 ·split<;>omega
 ·omega
theorem Jn{W:Ws}{n i v u:Int}(h:n≠(ae u).idx):gR (W.eT n i v) u=gR W u:=by
 have e:(W.eT n i v).nd (ae u).idx 0=W.nd (ae u).idx 0:=by rw[i4,if_neg (λ hh:(ae u).idx=n/\_=>h hh.1.symm)]
 unfold gR;rw[e]
theorem L9(s:af):nz s<=3:=by unfold nz;split<;>split<;>split<;>omega
theorem L7(k:Sk)(s:af)(J:(∃o,k=.fi o)\/∃n,k=.rx n):nu D R S V (gj (aB D R) k s)<=nz s+kC S s k:=by
 rcases A8 (ak:=aB D R) k s with⟨i,_,_,_,e⟩|⟨_,e⟩
 ·rw[e];exact Nat.le_refl _
 ·rw[e];rcases J with⟨o,rfl⟩|⟨n,rfl⟩
  ·exact Nat.zero_le _
  ·exact Nat.le_add_left _ _
theorem acp(o:aY)(s:af):nu D R S V (aR (aB D R) (.bG (.fi o)) s)<=3:=by have A:nu D R S V (gj (aB D R) (.fi o) s)<=_:=L7 (.fi o) s (.inl ⟨o,rfl⟩);have F:=L9 s;show nu D R S V (gj (aB D R) (.fi o) s)<=3;simp only[kC] at A;omega
theorem XV:gK D R V.W .rg (V.W.get (.ob D))=14:=by show 14+(if V.W.ob D=V.W.ob D then 0 else 19)=14;rw[if_pos rfl]
theorem JW(v m:Int):gK D R V.W (.sg v m) (V.W.get (.ob R))<=44:=by show 10+jO R V.W (V.W.ob R)<=44;unfold jO;rw[if_pos rfl];split<;>omega
theorem EY(k:Sk)(i:Int)(c:Ad)(s:af):nu D R S V ⟨.g1 k i c,s⟩<=5+gK D R V.W k (V.W.get c):=by show(if V.er=s.e i then 2 else 5)+gK D R V.W k (V.W.get c)<=_;split<;>omega
theorem HV(s:af):nu D R S V ⟨.g1 .rg 0 (.ob D),s⟩<=19:=by have:=EY (D:=D) (R:=R) (S:=S) (V:=V) .rg 0 (.ob D) s;rw[XV] at this;exact this
theorem L8(aw:List Int)(s:af)(gs aL:List (Int×Int)):nu D R S V (gL (aB D R) .rr aw s gs aL)<=4*gs.length+19:=by
 cases gs with
 |nil=>have:=HV (D:=D) (R:=R) (S:=S) (V:=V) {s with gone:=aL};show nu D R S V ⟨.g1 .rg 0 (.ob D),{s with gone:=aL}⟩<=4*0+19;omega
 |cons g gs=>simp only[gL,nu,L6,List.length_cons];omega
theorem SM(aw:List Int)(s:af)(cs:List Ad):nu D R S V (mU (aB D R) .rr aw s cs)<=cs.length+4*s.gone.length+19:=by
 cases cs with
 |nil=>have:=L8 (D:=D) (R:=R) (S:=S) (V:=V) aw s s.gone [];simpa[mU] using this
 |cons c cs=>simp only[mU,nu,L6,List.length_cons];omega
theorem acs{s:af}{i:Int}(i0:0<=i)(i2:i<=2)(h:s.e i≠0):nz (s.up.fb i 0)<nz s:=by
 have:i=0\/i=1\/i=2:=by omega
 rcases this with rfl|rfl|rfl
 ·have h:s.e0≠0:=h;simp only[af.fb,af.up,nz,if_true,h,if_false];omega
 ·have h:s.e1≠0:=h;show(if s.e0=0 then 0 else 1)+(if(0:Int)=0 then 0 else 1)+(if s.e2=0 then 0 else 1)<nz s;simp only[nz,if_true,h,if_false];omega
 ·have h:s.e2≠0:=h;show(if s.e0=0 then 0 else 1)+(if s.e1=0 then 0 else 1)+(if(0:Int)=0 then 0 else 1)<nz s;simp only[nz,if_true,h,if_false];omega
variable{qs:List (Q Sk)}{aA X:List Int}{g:ge}{w:Nat}{q:Q Sk}
theorem Mj{aK cC:Type}{ag:Sp aK cC}{l:ah}{S N aG:Nat}{V:Vw}{qs:List (Q aK)}{aA X:List Int}{g:cC}(hI:Inv ag l S N aG V qs aA X g){w:Nat}{q:Q aK}(hq:qs[w]?=some q):(own ag q).length<=N:=by
 refine v5 N (own ag q) ?_ (λ x T=>hI.nD hq T);rw[List.nodup_iff_count];intro x
 by_cases T:x∈own ag q
 ·exact Nat.le_of_eq (hI.ts hq T).2.2.1
 ·rw[List.count_eq_zero.2 T];omega
theorem SL(v m u i:Int)(s:af)(i5:i<=5):nu D R S V (aR (aB D R) (kB v m u i) s)<2*(6-i).toNat-1+jO R V.W u:=by
 unfold kB;split
 ·show 2*(6-(i+1)).toNat+jO R V.W u<_;omega
 ·show jO R V.W u<_;omega
theorem SK(u i:Int)(s:af)(i5:i<=5):nu D R S V (aR (aB D R) (l9 u i) s)<2*(6-i).toNat+3+h3 D V.W u:=by
 unfold l9;split
 ·show 2*(6-(i+1)).toNat+4+h3 D V.W u<_;omega
 ·show 4+h3 D V.W u<_;omega
theorem aco(jR:AU l S D R)(hN:N<=30)(hS:S<=3)(hK:aG<=100000)(hI:Inv (bp D R N) l S N aG V qs aA X g)(hq:qs[w]?=some q)(hf:q.pc.pS)(fJ:g9 q):
 nu D R S (bn V (cf (aB D R) w q.pc)).1 (tell (aB D R) S q (bn V (cf (aB D R) w q.pc)).2)+160*g.ret<nu D R S V q+160*(iN (bp D R N) V.W X g q.pc).2.ret:=by
 have U:=hI.loc w _ hq;have cz:gh D R N aG V.W X (Dq (bp D R N) qs) g:=hI.si;have ko:=hI.HU;have l5:=Mj hI hq;obtain⟨pc,s⟩:=q;have cT:=U.pc;have yF:∀(V:Vw)(o:aY)(s:af),nu D R S V (aR (aB D R) (.bG (.fi o)) s)<=3:=λ V o s=>acp o s
 cases pc with
 |fin o=>exact absurd hf id
 |bG k=>exact absurd hf id
 |at_ k=>
  have J:qo D R N V.W (Pr (bp D R N) V X qs w s) k:=cT.1;have hP:∀i n,Pr (bp D R N) V X qs w s i n->n∈X\/Dq (bp D R N) qs n:=λ i n h=>uH h
  cases k with
  |sl v m u i=>
   obtain⟨A,F,O,h4,h5,h6⟩:=J;show nu D R S V (aR (aB D R) (if V.W.nd (ae u).idx i=0 then _ else _) s.up)+160*g.ret<2*(6-i).toNat+jO R V.W u+160*g.ret;split
   ·show 2*(6-i).toNat-1+jO R V.W u+160*g.ret<_;omega
   ·have:=SL (D:=D) (R:=R) (S:=S) (V:=V) v m u i s.up h5;omega
  |sc v m u i=>
   obtain⟨A,F,O,h4,h5,h6⟩:=J
   by_cases L:V.W.nd (ae u).idx i=0
   ·have e1:bn V (cf (aB D R) w (.at_ (.sc v m u i)))=({V with W:=V.W.eT (ae u).idx i (v+2)},⟨0,true⟩):=by
     show bn V (.cs (.nd (ae u).idx i) 0 (v+2))=_;simp only[bn,Vw.get,L,if_true];rfl
    simp only[e1];have e2:(iN (bp D R N) V.W X g (.at_ (.sc v m u i))).2.ret=g.ret:=by show(dv D V.W X g (.sc v m u i)).2.ret=g.ret;simp only[dv,L,if_true]
    rw[e2];have agy:17<=jO R V.W u:=WK _ _;have ZO:nu D R S {V with W:=V.W.eT (ae u).idx i (v+2)} (aR (aB D R) (if m=0 then .bG (.fi (jm s.made)) else .v1 (.sv s.made) m) s.up)<=6:=by
     split
     ·exact Nat.le_trans (yF _ _ _) (by omega)
     ·exact Nat.le_refl _
    show nu D R S _ (aR (aB D R) (if m=0 then .bG (.fi (jm s.made)) else .v1 (.sv s.made) m) s.up)+160*g.ret<2*(6-i).toNat-1+jO R V.W u+160*g.ret;omega
   ·have e1:bn V (cf (aB D R) w (.at_ (.sc v m u i)))=(V,⟨V.W.nd (ae u).idx i,false⟩):=by
     show bn V (.cs (.nd (ae u).idx i) 0 (v+2))=_;simp only[bn,Vw.get,L,if_false]
    simp only[e1];have e2:(iN (bp D R N) V.W X g (.at_ (.sc v m u i))).2.ret=g.ret:=by show(dv D V.W X g (.sc v m u i)).2.ret=g.ret;simp only[dv,L,if_false]
    rw[e2];have:=SL (D:=D) (R:=R) (S:=S) (V:=V) v m u i s.up h5;show nu D R S V (aR (aB D R) (kB v m u i) s.up)+160*g.ret<2*(6-i).toNat-1+jO R V.W u+160*g.ret;omega
  |sn v m u=>
   obtain⟨A,F,O,h4⟩:=J;show nu D R S V (aR (aB D R) (if V.W.nd (ae u).idx 0=0 then(if m=0 then _ else _) else _) s.up)+160*g.ret<jO R V.W u+160*g.ret
   by_cases h0:V.W.nd (ae u).idx 0=0
   ·rw[if_pos h0];have ht:V.W.ob R=u:=by
     by_cases e:V.W.ob R=u
     ·exact e
     ·exact absurd h0 (O.2.2.2 e)
    have L:jO R V.W u=17:=by unfold jO;rw[if_pos ht,if_pos h0]
    have ha:gR V.W u=5:=by unfold gR;rw[if_pos h0]
    by_cases hm:m=0
    ·rw[if_pos hm];show 5+(6+gR V.W u)+160*g.ret<_;omega
    ·rw[if_neg hm];show gR V.W u+160*g.ret<_;omega
   ·rw[if_neg h0];show(if V.W.ob R=u then 33 else 50)+160*g.ret<_;unfold jO;rw[if_neg h0];split<;>omega
  |st v m u nx=>
   obtain⟨A,F,O,h4,h5⟩:=J
   by_cases L:V.W.ob R=u
   ·have e1:bn V (cf (aB D R) w (.at_ (.st v m u nx)))=({V with W:=V.W.lK R (bK (ca (ae u) nx))},⟨u,true⟩):=by
     show bn V (.cs (.ob R) u (bK (ca (ae u) nx)))=_;simp only[bn,Vw.get,L,if_true];rfl
    simp only[e1];obtain⟨f1,f2,lW,ve,Xw⟩:=Iw cz (by omega) hK jR.ne ko (nx:=nx) (by rw[L];exact h5 L) h4;rw[L] at lW;have hg:gK D R (V.W.lK R (bK (ca (ae u) nx))) (.sg v m) ((V.W.lK R (bK (ca (ae u) nx))).get (.ob R))=27:=by show 10+jO R _ ((V.W.lK R (bK (ca (ae u) nx))).ob R)=27;unfold jO;rw[if_pos rfl,lW,if_pos (show(V.W.lK R (bK (ca (ae u) nx))).nd nx 0=0 from Xw)]
    have:=EY (D:=D) (R:=R) (S:=S) (V:={V with W:=V.W.lK R (bK (ca (ae u) nx))}) (.sg v m) 0 (.ob R) s.up;simp only[hg] at this;show nu D R S _ ⟨.g1 (.sg v m) 0 (.ob R),s.up⟩+160*g.ret<(if V.W.ob R=u then 33 else 50)+160*g.ret;rw[if_pos L];omega
   ·have e1:bn V (cf (aB D R) w (.at_ (.st v m u nx)))=(V,⟨V.W.ob R,false⟩):=by
     show bn V (.cs (.ob R) u (bK (ca (ae u) nx)))=_;simp only[bn,Vw.get,L,if_false]
    simp only[e1];have h8:=EY (D:=D) (R:=R) (S:=S) (V:=V) (.sg v m) 0 (.ob R) s.up;have h9:=JW (D:=D) (R:=R) (V:=V) v m;show nu D R S V ⟨.g1 (.sg v m) 0 (.ob R),s.up⟩+160*g.ret<(if V.W.ob R=u then 33 else 50)+160*g.ret;rw[if_neg L];omega
  |f0 v u n=>
   have fz:n≠(ae u).idx:=λ e=>by
    have h9:=hI.Ce hq (n:=n) (by simp[eJ,bp]);exact(hP _ _ J.2.1.2.2.1).elim (λ h=>h9.1 (e▸h)) (λ h=>h9.2.1 (e▸h))
   have e:gR (V.W.eT n 0 0) u=gR V.W u:=Jn fz;show 5+gR (V.W.eT n 0 0) u+160*g.ret<6+gR V.W u+160*g.ret;omega
  |f1 v u n=>
   have fz:n≠(ae u).idx:=λ e=>by
    have h9:=hI.Ce hq (n:=n) (by simp[eJ,bp]);exact(hP _ _ J.2.1.2.2.1).elim (λ h=>h9.1 (e▸h)) (λ h=>h9.2.1 (e▸h))
   have e:gR (V.W.eT n 1 (v+2)) u=gR V.W u:=Jn fz;show(6-(2:Int)).toNat+gR (V.W.eT n 1 (v+2)) u+160*g.ret<5+gR V.W u+160*g.ret;omega
  |f2 v u n i=>
   obtain⟨A,F,O,h4,h5,h6,h7,h8,h9⟩:=J;have fz:n≠(ae u).idx:=λ e=>by
    have h9:=hI.Ce hq (n:=n) (by simp[eJ,bp]);exact(hP _ _ F.2.2.1).elim (λ h=>h9.1 (e▸h)) (λ h=>h9.2.1 (e▸h))
   have e:gR (V.W.eT n i 0) u=gR V.W u:=Jn fz;show nu D R S {V with W:=V.W.eT n i 0} (aR (aB D R) (if i<5 then _ else _) s.up)+160*g.ret<(6-i).toNat+gR V.W u+160*g.ret;split
   ·show(6-(i+1)).toNat+gR (V.W.eT n i 0) u+160*g.ret<_;omega
   ·show gR (V.W.eT n i 0) u+160*g.ret<_;omega
  |sa v m u=>
   by_cases L:V.W.nd (ae u).idx 0=0
   ·have e1:bn V (cf (aB D R) w (.at_ (.sa v m u)))=({V with W:=V.W.eT (ae u).idx 0 m},⟨0,true⟩):=by
     show bn V (.cs (.nd (ae u).idx 0) 0 m)=_;simp only[bn,Vw.get,L,if_true];rfl
    simp only[e1];have e2:(iN (bp D R N) V.W X g (.at_ (.sa v m u))).2.ret=g.ret:=by show(dv D V.W X g (.sa v m u)).2.ret=g.ret;simp only[dv,L,if_true]
    rw[e2];show 4+160*g.ret<gR V.W u+160*g.ret;unfold gR;rw[if_pos L];omega
   ·have e1:bn V (cf (aB D R) w (.at_ (.sa v m u)))=(V,⟨V.W.nd (ae u).idx 0,false⟩):=by
     show bn V (.cs (.nd (ae u).idx 0) 0 m)=_;simp only[bn,Vw.get,L,if_false]
    simp only[e1];have e2:(iN (bp D R N) V.W X g (.at_ (.sa v m u))).2.ret=g.ret:=by show(dv D V.W X g (.sa v m u)).2.ret=g.ret;simp only[dv,L,if_false]
    rw[e2];have h8:=EY (D:=D) (R:=R) (S:=S) (V:=V) (.sg v m) 0 (.ob R) s.up;have h9:=JW (D:=D) (R:=R) (V:=V) v m;show nu D R S V ⟨.g1 (.sg v m) 0 (.ob R),s.up⟩+160*g.ret<gR V.W u+160*g.ret;unfold gR;rw[if_neg L];omega
  |sb u m a=>
   have O:=yF (bn V (cf (aB D R) w (.at_ (.sb u m a)))).1 (jm a) s.up;have h4:nu D R S (bn V (cf (aB D R) w (.at_ (.sb u m a)))).1 (aR (aB D R) (.bG (.fi (jm a))) s.up)+160*g.ret<4+160*g.ret:=by omega
   exact h4
  |rl u i=>
   obtain⟨k1,k2,k3,k4⟩:=J;show nu D R S V (aR (aB D R) (if V.W.nd (ae u).idx i=0 then _ else if V.W.nd (ae u).idx i=1 then _ else _) s.up)+160*g.ret<2*(6-i).toNat+4+h3 D V.W u+160*g.ret;split
   ·have:=yF V (mv s.made) s.up;show nu D R S V (aR (aB D R) (.bG (.fi (mv s.made))) s.up)+160*g.ret<_;omega
   ·split
    ·have:=SK (D:=D) (R:=R) (S:=S) (V:=V) u i s.up k3;omega
    ·show 2*(6-i).toNat+3+h3 D V.W u+160*g.ret<_;omega
  |rc u i x=>
   obtain⟨k1,k2,k3,k4,k5,k6⟩:=J
   by_cases L:V.W.nd (ae u).idx i=x
   ·have e1:bn V (cf (aB D R) w (.at_ (.rc u i x)))=({V with W:=V.W.eT (ae u).idx i 1},⟨x,true⟩):=by
     show bn V (.cs (.nd (ae u).idx i) x 1)=_;simp only[bn,Vw.get,L,if_true];rfl
    simp only[e1];have e2:(iN (bp D R N) V.W X g (.at_ (.rc u i x))).2.ret=g.ret:=by show(dv D V.W X g (.rc u i x)).2.ret=g.ret;simp only[dv,L,if_true]
    rw[e2];have:=yF {V with W:=V.W.eT (ae u).idx i 1} ⟨m4 (x-2),true,0,s.made,[]⟩ s.up;show nu D R S _ (aR (aB D R) (.bG (.fi ⟨m4 (x-2),true,0,s.made,[]⟩)) s.up)+160*g.ret<2*(6-i).toNat+3+h3 D V.W u+160*g.ret;omega
   ·have e1:bn V (cf (aB D R) w (.at_ (.rc u i x)))=(V,⟨V.W.nd (ae u).idx i,false⟩):=by
     show bn V (.cs (.nd (ae u).idx i) x 1)=_;simp only[bn,Vw.get,L,if_false]
    simp only[e1];have e2:(iN (bp D R N) V.W X g (.at_ (.rc u i x))).2.ret=g.ret:=by show(dv D V.W X g (.rc u i x)).2.ret=g.ret;simp only[dv,L,if_false]
    rw[e2];have:=SK (D:=D) (R:=R) (S:=S) (V:=V) u i s.up k3;show nu D R S V (aR (aB D R) (l9 u i) s.up)+160*g.ret<2*(6-i).toNat+3+h3 D V.W u+160*g.ret;omega
  |rn u=>
   show nu D R S V (aR (aB D R) (if V.W.nd (ae u).idx 0=0 then _ else _) s.up)+160*g.ret<4+h3 D V.W u+160*g.ret;split
   ·have:=yF V (mv s.made) s.up;show nu D R S V (aR (aB D R) (.bG (.fi (mv s.made))) s.up)+160*g.ret<_;omega
   ·show 3+h3 D V.W u+160*g.ret<_;omega
  |re u nx=>
   show nu D R S V (aR (aB D R) (if(ae (V.W.ob R)).idx=(ae u).idx then _ else _) s.up)+160*g.ret<3+h3 D V.W u+160*g.ret;split
   ·show 2+h3 D V.W u+160*g.ret<_;omega
   ·show 1+h3 D V.W u+160*g.ret<_;omega
  |rt u nx en=>
   have e:∀bt:Vw,bt.W.ob D=V.W.ob D->h3 D bt.W u=h3 D V.W u:=λ bt h=>by unfold h3;rw[h]
   have h9:(bn V (cf (aB D R) w (.at_ (.rt u nx en)))).1.W.ob D=V.W.ob D:=by
    show(bn V (.cs (.ob R) en (bK (ca (ae en) nx)))).1.W.ob D=_;simp only[bn];split
    ·show(V.W.lK R _).ob D=_;rw[tq,if_neg jR.ne]
    ·rfl
   show 1+h3 D (bn V (cf (aB D R) w (.at_ (.rt u nx en)))).1.W u+160*g.ret<2+h3 D V.W u+160*g.ret;rw[e _ h9];omega
  |rh u nx=>
   obtain⟨k1,k2,k3,k4,k7⟩:=J
   by_cases L:V.W.ob D=u
   ·have e1:bn V (cf (aB D R) w (.at_ (.rh u nx)))=({V with W:=V.W.lK D (bK (ca (ae u) nx))},⟨u,true⟩):=by
     show bn V (.cs (.ob D) u (bK (ca (ae u) nx)))=_;simp only[bn,Vw.get,L,if_true];rfl
    have e2:(iN (bp D R N) V.W X g (.at_ (.rh u nx))).2.ret=g.ret+1:=by show(dv D V.W X g (.rh u nx)).2.ret=g.ret+1;simp only[dv,L,if_true]
    have PZ:=RK (M4 jR (by omega)) (by omega) hK hI hq hf;simp only[e1] at PZ⊢;have I:Q Sk:=gj (aB D R) (.rx (ae u).idx) s.up;have cD:s.gone.length+1<=N:=by have h8:=Mj PZ (wn hq);have DY:=JI (ak:=aB D R) (ag:=bp D R N) (l:=l) (S:=S) (N:=N) (M4 jR (by omega)) (V:=V) (X:=X) (g:=g) (P:=xF) (s:=s.up) (k:=.rx (ae u).idx) trivial;have h9:(own (bp D R N) (gj (aB D R) (.rx (ae u).idx) s.up)).length<=N:=h8;rw[DY.own] at h9;simp only[bp,List.nil_append,List.length_append,List.length_cons,List.length_nil,List.length_map,af.up] at h9;omega
    rw[e2];have h7:=L7 (D:=D) (R:=R) (S:=S) (V:={V with W:=V.W.lK D (bK (ca (ae u) nx))}) (.rx (ae u).idx) s.up (.inr ⟨_,rfl⟩);have h6:=L9 s.up;simp only[kC,af.up] at h7 h6;show nu D R S _ (gj (aB D R) (.rx (ae u).idx) s.up)+160*g.ret<1+h3 D V.W u+160*(g.ret+1);have h5:h3 D V.W u=0:=by unfold h3;rw[if_pos L]
    simp only[af.up] at*;omega
   ·have e1:bn V (cf (aB D R) w (.at_ (.rh u nx)))=(V,⟨V.W.ob D,false⟩):=by
     show bn V (.cs (.ob D) u (bK (ca (ae u) nx)))=_;simp only[bn,Vw.get,L,if_false]
    have e2:(iN (bp D R N) V.W X g (.at_ (.rh u nx))).2.ret=g.ret:=by show(dv D V.W X g (.rh u nx)).2.ret=g.ret;simp only[dv,L,if_false]
    simp only[e1];rw[e2];have:=HV (D:=D) (R:=R) (S:=S) (V:=V) s.up;show nu D R S V ⟨.g1 .rg 0 (.ob D),s.up⟩+160*g.ret<1+h3 D V.W u+160*g.ret;unfold h3;rw[if_neg L];omega
  |_=>exact absurd fJ id
 |t1 k=>
  obtain⟨v,u,rfl⟩:=fJ;show nu D R S V (if(ae V.fr).idx=0 then aR (aB D R) (.bG (.fi _)) s.up else⟨.t2 (.tk v u) V.fr,s.up⟩)+160*g.ret<5+(6+gR V.W u)+160*g.ret;split
  ·have:=yF V ⟨0,false,8,s.made,[]⟩ s.up;show nu D R S V (aR (aB D R) (.bG (.fi ⟨0,false,8,s.made,[]⟩)) s.up)+160*g.ret<_;omega
  ·show(if V.fr=V.fr then 4 else 7)+(6+gR V.W u)+160*g.ret<_;rw[if_pos rfl];omega
 |t2 k f=>show(if V.fr=f then 3 else 6)+tK V.W k+160*g.ret<(if V.fr=f then 4 else 7)+tK V.W k+160*g.ret;split<;>omega
 |t3 k f lk=>
  by_cases L:V.fr=f
  ·have e1:bn V (cf (aB D R) w (.t3 k f lk))=({V with fr:=bK (ca (ae f) lk)},⟨V.fr,true⟩):=by simp only[cf,bn,Vw.get,L,if_true];rfl
   simp only[e1];show 2+tK V.W k+160*g.ret<(if V.fr=f then 3 else 6)+tK V.W k+160*g.ret;rw[if_pos L];omega
  ·have e1:bn V (cf (aB D R) w (.t3 k f lk))=(V,⟨V.fr,false⟩):=by simp only[cf,bn,Vw.get,L,if_false]
   simp only[e1];show 5+tK V.W k+160*g.ret<(if V.fr=f then 3 else 6)+tK V.W k+160*g.ret;rw[if_neg L];omega
 |t4 k n a=>show 1+tK V.W k+160*g.ret<2+tK V.W k+160*g.ret;omega
 |t5 k n a b=>obtain⟨v,u,rfl⟩:=fJ;show 6+gR V.W u+160*g.ret<1+(6+gR V.W u)+160*g.ret;omega
 |g1 k i c=>
  have e1:bn V (cf (aB D R) w (.g1 k i c))=(V,⟨V.W.get c,true⟩):=by simp only[cf,bn,Dx cT.2.2.2.2.1]
  simp only[e1];show(if V.er=s.e i then 1+gK D R V.W k (V.W.get c) else 4+gK D R V.W k (V.W.get c))+160*g.ret<(if V.er=s.e i then 2 else 5)+gK D R V.W k (V.W.get c)+160*g.ret;split<;>omega
 |g2 k i c v a=>
  show nu D R S V (if V.er=s.e i then aR (aB D R) _ s.up else⟨.g3 k i c V.er,s.up⟩)+160*g.ret<(if V.er=s.e i then 1+gK D R V.W k v else 4+gK D R V.W k (V.W.get c))+160*g.ret
  by_cases he:V.er=s.e i
  ·rw[if_pos he,if_pos he];rcases fJ with⟨x,m,rfl⟩|rfl
   ·show 2*((6:Int)-1).toNat+jO R V.W v+160*g.ret<1+(10+jO R V.W v)+160*g.ret;omega
   ·show 2*((6:Int)-1).toNat+4+h3 D V.W v+160*g.ret<1+(14+h3 D V.W v)+160*g.ret;omega
  ·rw[if_neg he,if_neg he];show(if V.er=V.er then 3 else 6)+gK D R V.W k (V.W.get c)+160*g.ret<_;rw[if_pos rfl];omega
 |g3 k i c er=>
  have nl:(s.up.fb i er).e i=er:=by rw[Gn cT.2.2.1 cT.2.2.2.1 cT.2.2.1 cT.2.2.2.1,if_pos rfl]
  show(if V.er=(s.up.fb i er).e i then 2 else 5)+gK D R V.W k (V.W.get c)+160*g.ret<(if V.er=er then 3 else 6)+gK D R V.W k (V.W.get c)+160*g.ret;rw[nl];split<;>omega
 |c k i=>
  obtain⟨A,F,O,h4⟩:=fJ;have h5:nz (s.up.fb i 0)<nz s:=acs F O A;have h6:=L7 (D:=D) (R:=R) (S:=S) (V:=V.put (.rv w i) 0) k (s.up.fb i 0) h4;have h7:kC S (s.up.fb i 0) k=kC S s k:=by have:(s.up.fb i 0).gone=s.gone:=Mv _ _ _;cases k<;>simp only[kC,this]
  rw[h7] at h6;show nu D R S (V.put (.rv w i) 0) (gj (aB D R) k (s.up.fb i 0))+160*g.ret<nz s+kC S s k+160*g.ret;omega
 |v1 k n=>show(if V.fr=V.fr then 5 else 8)+160*g.ret<6+160*g.ret;rw[if_pos rfl];omega
 |v2 k n f=>show(if V.fr=f then 4 else 7)+160*g.ret<(if V.fr=f then 5 else 8)+160*g.ret;split<;>omega
 |v3 k n f=>
  obtain⟨a,rfl⟩:=fJ
  by_cases L:V.fr=f
  ·have e1:bn V (cf (aB D R) w (.v3 (.sv a) n f))=({V with fr:=bK (ca (ae f) n)},⟨V.fr,true⟩):=by simp only[cf,bn,Vw.get,L,if_true];rfl
   simp only[e1];have:=yF {V with fr:=bK (ca (ae f) n)} (jm a) s.up;show nu D R S _ (aR (aB D R) (.bG (.fi (jm a))) s.up)+160*g.ret<(if V.fr=f then 4 else 7)+160*g.ret;rw[if_pos L];omega
  ·have e1:bn V (cf (aB D R) w (.v3 (.sv a) n f))=(V,⟨V.fr,false⟩):=by simp only[cf,bn,Vw.get,L,if_false]
   simp only[e1];show 6+160*g.ret<(if V.fr=f then 4 else 7)+160*g.ret;rw[if_neg L];omega
 |r1 k n=>show 1+3*S+4*(s.gone.length+1)+19+160*g.ret<2+3*S+4*(s.gone.length+1)+19+160*g.ret;omega
 |r2 k n er=>
  have fJ:k=.rr:=fJ;subst fJ;show nu D R S {V with er:=V.er+1} (if(s.gone.length:Int)+1<2*(S:Int) then aR (aB D R) (.g1 .rg 0 (.ob D)) _ else mU (aB D R) .rr [] {s.up with gone:=s.gone++[(n,er)]} (pK 0 S))+160*g.ret<1+3*S+4*(s.gone.length+1)+19+160*g.ret;split
  ·have:=HV (D:=D) (R:=R) (S:=S) (V:={V with er:=V.er+1}) {s.up with gone:=s.gone++[(n,er)]};show nu D R S {V with er:=V.er+1} ⟨.g1 .rg 0 (.ob D),{s.up with gone:=s.gone++[(n,er)]}⟩+160*g.ret<_;omega
  ·have:=SM (D:=D) (R:=R) (S:=S) (V:={V with er:=V.er+1}) [] {s.up with gone:=s.gone++[(n,er)]} (pK 0 S);rw[ML] at this;simp only[List.length_append,List.length_cons,List.length_nil] at this;refine Nat.lt_of_le_of_lt (Nat.add_le_add_right this _) ?_;omega
 |rs k aw c cs=>have fJ:k=.rr:=fJ;subst fJ;have:=SM (D:=D) (R:=R) (S:=S) (V:=V) (aw++[V.get c]) s.up cs;have hg:s.up.gone=s.gone:=rfl;rw[hg] at this;show nu D R S V (mU (aB D R) .rr (aw++[V.get c]) s.up cs)+160*g.ret<1+cs.length+4*s.gone.length+19+160*g.ret;omega
 |s1 k aw y gs aL=>
  have fJ:k=.rr:=fJ;subst fJ;show nu D R S V (if aw.any (fE (kT (V.bi y.1)) y.2)=true then gL (aB D R) .rr aw s.up gs (aL++[y]) else⟨.w1 .rr aw y gs aL,s.up⟩)+160*g.ret<4+4*gs.length+19+160*g.ret;split
  ·have:=L8 (D:=D) (R:=R) (S:=S) (V:=V) aw s.up gs (aL++[y]);omega
  ·show 3+4*gs.length+19+160*g.ret<_;omega
 |w1 k aw y gs aL=>show(if V.fr=V.fr then 2 else 5)+4*gs.length+19+160*g.ret<3+4*gs.length+19+160*g.ret;rw[if_pos rfl];omega
 |w2 k aw y gs aL f=>show(if V.fr=f then 1 else 4)+4*gs.length+19+160*g.ret<(if V.fr=f then 2 else 5)+4*gs.length+19+160*g.ret;split<;>omega
 |w3 k aw y gs aL f=>
  have fJ:k=.rr:=fJ;subst fJ
  by_cases L:V.fr=f
  ·have e1:bn V (cf (aB D R) w (.w3 .rr aw y gs aL f))=({V with fr:=bK (ca (ae f) y.1)},⟨V.fr,true⟩):=by simp only[cf,bn,Vw.get,L,if_true];rfl
   simp only[e1];have:=L8 (D:=D) (R:=R) (S:=S) (V:={V with fr:=bK (ca (ae f) y.1)}) aw s.up gs aL;show nu D R S _ (gL (aB D R) .rr aw s.up gs aL)+160*g.ret<(if V.fr=f then 1 else 4)+4*gs.length+19+160*g.ret;rw[if_pos L];omega
  ·have e1:bn V (cf (aB D R) w (.w3 .rr aw y gs aL f))=(V,⟨V.fr,false⟩):=by simp only[cf,bn,Vw.get,L,if_false]
   simp only[e1];show 3+4*gs.length+19+160*g.ret<(if V.fr=f then 1 else 4)+4*gs.length+19+160*g.ret;rw[if_neg L];omega
end
section
variable{D R:Int}{S N aG:Nat}{l:ah}{V:Vw}{qs:List (Q Sk)}{aA X:List Int}{g:ge}{w:Nat}{q:Q Sk}
theorem Df(W:Ws)(u:Int):gR W u<=50:=by unfold gR;split<;>omega
theorem yI(W:Ws)(u:Int):h3 D W u<=19:=by unfold h3;split<;>omega
theorem GA(W:Ws)(k:Sk)(v:Int):gK D R W k v<=61:=by
 unfold gK;split
 ·have:=F3 (R:=R) W v;omega
 ·have:=yI (D:=D) W v;omega
 ·omega
theorem Fw(W:Ws)(k:Sk):tK W k<=56:=by
 unfold tK;split
 ·rename_i u;have:=Df W u;omega
 ·omega
theorem acq(hN:N<=30)(hS:S<=3)(hI:Inv (bp D R N) l S N aG V qs aA X g)(hq:qs[w]?=some q)(fJ:g9 q):nu D R S V q<=160:=by
 have U:=hI.loc w _ hq;have l5:=Mj hI hq;obtain⟨pc,s⟩:=q;have cT:=U.pc;cases pc with
 |fin o=>show 0<=160;omega
 |bG k=>exact absurd fJ id
 |at_ k=>
  have J:qo D R N V.W (Pr (bp D R N) V X qs w s) k:=cT.1;show cK D R V.W k<=160;cases k with
  |sl v m u i=>have:=J.2.2.2.1;have:=F3 (R:=R) V.W u;simp only[cK];omega
  |sc v m u i=>have:=J.2.2.2.1;have:=F3 (R:=R) V.W u;simp only[cK];omega
  |sn v m u=>have:=F3 (R:=R) V.W u;simp only[cK];omega
  |st v m u nx=>simp only[cK];split<;>omega
  |f0 v u n=>have:=Df V.W u;simp only[cK];omega
  |f1 v u n=>have:=Df V.W u;simp only[cK];omega
  |f2 v u n i=>have:=Df V.W u;have:=J.2.2.2.2.2.2.1;simp only[cK];omega
  |sa v m u=>have:=Df V.W u;simp only[cK];omega
  |sb u m a=>simp only[cK];omega
  |rl u i=>have:=J.2.1;have:=yI (D:=D) V.W u;simp only[cK];omega
  |rc u i x=>have:=J.2.1;have:=yI (D:=D) V.W u;simp only[cK];omega
  |rn u=>have:=yI (D:=D) V.W u;simp only[cK];omega
  |re u nx=>have:=yI (D:=D) V.W u;simp only[cK];omega
  |rt u nx en=>have:=yI (D:=D) V.W u;simp only[cK];omega
  |rh u nx=>have:=yI (D:=D) V.W u;simp only[cK];omega
  |_=>exact absurd fJ id
 |t1 k=>have:=Fw V.W k;show 5+tK V.W k<=160;omega
 |t2 k f=>have:=Fw V.W k;show(if V.fr=f then 4 else 7)+tK V.W k<=160;split<;>omega
 |t3 k f lk=>have:=Fw V.W k;show(if V.fr=f then 3 else 6)+tK V.W k<=160;split<;>omega
 |t4 k n a=>have:=Fw V.W k;show 2+tK V.W k<=160;omega
 |t5 k n a b=>have:=Fw V.W k;show 1+tK V.W k<=160;omega
 |g1 k i c=>have:=GA (D:=D) (R:=R) V.W k (V.W.get c);show(if V.er=s.e i then 2 else 5)+gK D R V.W k (V.W.get c)<=160;split<;>omega
 |g2 k i c v a=>have:=GA (D:=D) (R:=R) V.W k (V.W.get c);have:=GA (D:=D) (R:=R) V.W k v;show(if V.er=s.e i then 1+gK D R V.W k v else 4+gK D R V.W k (V.W.get c))<=160;split<;>omega
 |g3 k i c er=>have:=GA (D:=D) (R:=R) V.W k (V.W.get c);show(if V.er=er then 3 else 6)+gK D R V.W k (V.W.get c)<=160;split<;>omega
 |c k i=>
  have A:=L9 s;show nz s+kC S s k<=160;rcases fJ.2.2.2 with⟨o,rfl⟩|⟨n,rfl⟩
  ·simp only[kC];omega
  ·simp only[own,ej,eJ,d3,iU,bp,List.nil_append,List.length_append,List.length_cons,List.length_nil,List.length_map] at l5;simp only[kC];omega
 |v1 k n=>show 6<=160;omega
 |v2 k n f=>show(if V.fr=f then 5 else 8)<=160;split<;>omega
 |v3 k n f=>show(if V.fr=f then 4 else 7)<=160;split<;>omega
 |r1 k n=>simp only[own,ej,eJ,d3,iU,List.length_append,List.length_cons,List.length_map] at l5;show 2+3*S+4*(s.gone.length+1)+19<=160;omega
 |r2 k n er=>simp only[own,ej,eJ,d3,iU,List.length_append,List.length_cons,List.length_map] at l5;show 1+3*S+4*(s.gone.length+1)+19<=160;omega
 |rs k aw c cs=>simp only[own,ej,iU,List.length_append,List.length_map] at l5;have O:=cT.2.2.1;simp only[List.length_cons] at O;show 1+cs.length+4*s.gone.length+19<=160;omega
 |s1 k aw y gs aL=>simp only[own,ej,iU,List.length_append,List.length_cons,List.map_cons,List.map_append,List.length_map] at l5;show 4+4*gs.length+19<=160;omega
 |w1 k aw y gs aL=>simp only[own,ej,iU,List.length_append,List.length_cons,List.map_cons,List.map_append,List.length_map] at l5;show 3+4*gs.length+19<=160;omega
 |w2 k aw y gs aL f=>simp only[own,ej,iU,List.length_append,List.length_cons,List.map_cons,List.map_append,List.length_map] at l5;show(if V.fr=f then 2 else 5)+4*gs.length+19<=160;split<;>omega
 |w3 k aw y gs aL f=>simp only[own,ej,iU,List.length_append,List.length_cons,List.map_cons,List.map_append,List.length_map] at l5;show(if V.fr=f then 1 else 4)+4*gs.length+19<=160;split<;>omega
end
def hJ(q:Q Sk):Nat:=if(bW q.pc).isSome then 1 else 0
theorem adD(q:Q Sk):hJ q<=1:=by unfold hJ;split<;>omega
theorem adE{D R:Int}{S:Nat}{q:Q Sk}{r:aF}:hJ q<=hJ (tell (aB D R) S q r):=by
 unfold hJ;cases h:bW q.pc with
 |none=>simp
 |some a=>rw[(To h).1];exact Nat.le_refl _
theorem adP{D R:Int}{S N:Nat}{V:Vw}{X:List Int}{g:ge}{w:Int}{q:Q Sk}(hf:q.pc.pS):(iN (bp D R N) V.W X g q.pc).2.put+hJ q<=g.put+hJ (tell (aB D R) S q (bn V (cf (aB D R) w q.pc)).2):=by
 have h0:=adE (D:=D) (R:=R) (S:=S) (q:=q) (r:=(bn V (cf (aB D R) w q.pc)).2)
 by_cases hp:(iN (bp D R N) V.W X g q.pc).2.put=g.put
 ·omega
 obtain⟨pc,s⟩:=q;cases pc with
 |at_ k=>
  cases k with
  |sc v m u i=>
   by_cases L:V.W.nd (ae u).idx i=0
   ·have e1:(bn V (cf (aB D R) w (.at_ (.sc v m u i)))).2=⟨0,true⟩:=by
     show(bn V (.cs (.nd (ae u).idx i) 0 (v+2))).2=_;simp only[bn,Vw.get,L,if_true]
    have e2:(iN (bp D R N) V.W X g (.at_ (.sc v m u i))).2.put=g.put+1:=by show(dv D V.W X g (.sc v m u i)).2.put=_;simp only[dv,L,if_true]
    rw[e2,e1];have e3:hJ (tell (aB D R) S ⟨.at_ (.sc v m u i),s⟩ ⟨0,true⟩)=1:=by
     have h9:bW (aR (aB D R) (if m=0 then .bG (.fi (jm s.made)) else .v1 (.sv s.made) m) s.up).pc=some (s.made:Int):=by rw[(ll _ _).1];split<;>rfl
     show(if(bW (aR (aB D R) (if m=0 then .bG (.fi (jm s.made)) else .v1 (.sv s.made) m) s.up).pc).isSome then 1 else 0)=1;rw[h9];rfl
    have e4:hJ ⟨.at_ (.sc v m u i),s⟩=0:=rfl;omega
   ·exact absurd (by show(dv D V.W X g (.sc v m u i)).2.put=_;simp only[dv,L,if_false]) hp
  |sa v m u=>
   by_cases L:V.W.nd (ae u).idx 0=0
   ·have e1:(bn V (cf (aB D R) w (.at_ (.sa v m u)))).2=⟨0,true⟩:=by
     show(bn V (.cs (.nd (ae u).idx 0) 0 m)).2=_;simp only[bn,Vw.get,L,if_true]
    have e2:(iN (bp D R N) V.W X g (.at_ (.sa v m u))).2.put=g.put+1:=by show(dv D V.W X g (.sa v m u)).2.put=_;simp only[dv,L,if_true]
    rw[e2,e1];have e3:hJ (tell (aB D R) S ⟨.at_ (.sa v m u),s⟩ ⟨0,true⟩)=1:=rfl;have e4:hJ ⟨.at_ (.sa v m u),s⟩=0:=rfl;omega
   ·exact absurd (by show(dv D V.W X g (.sa v m u)).2.put=_;simp only[dv,L,if_false]) hp
  |rc u i x=>exact absurd (by show(dv D V.W X g (.rc u i x)).2.put=_;simp only[dv];split<;>rfl) hp
  |rh u nx=>exact absurd (by show(dv D V.W X g (.rh u nx)).2.put=_;simp only[dv];split<;>rfl) hp
  |_=>exact absurd rfl hp
 |_=>exact absurd rfl hp
theorem PB{av ei:Type}{f g:av->List ei}:∀{l:List av},(∀x∈l,f x=g x)->l.flatMap f=l.flatMap g
 |[],_=>rfl
 |x::l,h=>by rw[List.flatMap_cons,List.flatMap_cons,h x (by simp),PB λ y hy=>h y (by simp[hy])]
section
variable{D R:Int}{l:ah}{S N aG:Nat}{m:List Int}{V:Vw}{qs:List (Q Sk)}{aA X:List Int}{g:ge}
theorem ach(hL:rA l S N)(jR:AU l S D R)(BF:gm l 0=D)(hN:N<=100)(hV:pP l S N m V)(hI:Inv (bp D R N) l S N aG V qs aA X g):fF l m 0=X:=by
 have qO:=hI.HU;have cz:gh D R N aG V.W X (Dq (bp D R N) qs) g:=hI.si;have A:=jR.A;have F:=jR.F;unfold fF;obtain⟨B,hB⟩:=cz.yW hN;have hh:bE m D=V.W.ob D:=C9 hL hV (a:=.ob D) ⟨A,F⟩;rw[BF,if_neg (by omega),hh,show(ae (V.W.ob D)).idx=X.headD 0 by rw[hB];rfl];have:=Js (nx:=λ n=>bE m (aN l n 0)) (N:=l.nodes) X [] (l.nodes.toNat+1) (λ x T=>by have:=hI.rW T;have:=hL.nodes;omega) (by simpa using qO) (by
  have:=v5 N X qO (λ x T=>hI.rW T);have:=hL.nodes;omega) cz.link (λ x T=>by
   have T:=hI.rW T;exact C9 hL hV (a:=.nd x 0) ⟨T.1,T.2,by omega,by omega⟩)
 simpa using this
theorem aeP(hL:rA l S N)(hV:pP l S N m V)(hI:Inv (bp D R N) l S N aG V qs aA X g):X.flatMap (lp l m)=hZ V.W X:=by
 unfold hZ;refine PB (λ x T=>?_);have T:=hI.rW T;have key:∀i:Int,1<=i->i<=5->bE m (aN l x i)=V.W.nd x i:=λ i i1 i5=>C9 hL hV (a:=.nd x i) ⟨T.1,T.2,by omega,by omega⟩
 simp only[lp,Aq,mT,List.map_cons,List.map_nil,key 1 (by omega) (by omega),key 2 (by omega) (by omega),key 3 (by omega) (by omega),key 4 (by omega) (by omega),key 5 (by omega) (by omega)]
theorem XE{a c:Nat}{vs:List Int}(hv:∀v∈vs,2<=v):(List.replicate a (1:Int)++(vs++List.replicate c 0)).filter (λ v=>decide (1<v))=vs:=by
 rw[List.filter_append,List.filter_append];have A:(List.replicate a (1:Int)).filter (λ v=>decide (1<v))=[]:=by rw[List.filter_eq_nil_iff];intro x T;rw[List.eq_of_mem_replicate T];simp
 have F:(List.replicate c (0:Int)).filter (λ v=>decide (1<v))=[]:=by rw[List.filter_eq_nil_iff];intro x T;rw[List.eq_of_mem_replicate T];simp
 have O:vs.filter (λ v=>decide (1<v))=vs:=by rw[List.filter_eq_self];intro x T;have:=hv x T;simp;omega
 rw[A,F,O];simp
theorem aey(hL:rA l S N)(jR:AU l S D R)(BF:gm l 0=D)(hN:N<=100)(hV:pP l S N m V)(hI:Inv (bp D R N) l S N aG V qs aA X g):nJ l m 0=g.vs.map λ v=>v-2:=by have cz:gh D R N aG V.W X (Dq (bp D R N) qs) g:=hI.si;obtain⟨a,c,A,_,_⟩:=cz.seq;unfold nJ;rw[ach hL jR BF hN hV hI,aeP hL hV hI,A,XE (λ v hv=>(cz.vs v hv).1)]
end
def qw(op:bl):Sk->Prop
 |.sg v _|.sl v _ _ _|.sc v _ _ _|.sn v _ _|.st v _ _ _|.tk v _|.f0 v _ _|.f1 v _ _|.f2 v _ _ _|.sa v _ _=>op.kind=6/\v=op.a
 |.rg|.rl _ _|.rc _ _ _|.rn _|.re _ _|.rt _ _ _|.rh _ _|.rx _|.rr=>op.kind=7
 |.sb _ _ _|.sv _|.fi _=>True
def kL(op:bl)(pc:Pc Sk):Prop:=∀k,pc.cont=some k->qw op k
section
variable{D R:Int}{S:Nat}{op:bl}
theorem fl{k:Sk}{pc:Pc Sk}(h:pc.cont=some k)(J:qw op k):kL op pc:=λ iG bQ=>by rw[h] at bQ;cases bQ;exact J
theorem SV{o:aY}:kL op (.fin o):=λ k h=>by cases h
theorem SU{k:Sk}(s:af)(J:qw op k)(hr:∀n,k=.rx n->qw op .rr):kL op (gj (aB D R) k s).pc:=by
 rcases A8 (ak:=aB D R) k s with⟨i,i0,i2,h,e⟩|⟨_,e⟩
 ·rw[e];exact fl rfl J
 ·rw[e];cases k with
  |fi o=>exact SV
  |rx n=>exact fl rfl (hr n rfl)
  |_=>exact fl rfl J
theorem Mf{pc:Pc Sk}(s:af)(h:kL op pc):kL op (aR (aB D R) pc s).pc:=by
 cases pc with
 |bG k=>exact SU s (h k rfl) (λ n e=>by subst e;exact(h (.rx n) rfl:op.kind=7))
 |_=>exact h
theorem Mg(aw:List Int)(s:af)(gs aL:List (Int×Int))(J:op.kind=7):kL op (gL (aB D R) .rr aw s gs aL).pc:=by
 cases gs with
 |nil=>exact fl rfl J
 |cons g gs=>exact fl rfl J
theorem SX(aw:List Int)(s:af)(cs:List Ad)(J:op.kind=7):kL op (mU (aB D R) .rr aw s cs).pc:=by
 cases cs with
 |nil=>exact Mg _ _ _ _ J
 |cons c cs=>exact fl rfl J
theorem acH{q:Q Sk}{r:aF}(hs:g9 q)(h:kL op q.pc):kL op (tell (aB D R) S q r).pc:=by
 obtain⟨pc,s⟩:=q;cases pc with
 |fin o=>exact SV
 |bG k=>exact absurd hs id
 |at_ k=>
  have J:qw op k:=h k rfl;have fi:∀o,kL op (.bG (.fi o)):=λ o=>fl rfl trivial
  have nS:∀{v m w i},op.kind=6/\v=op.a->kL op (kB v m w i):=λ h=>by unfold kB;split<;>exact fl rfl h
  have nR:∀{w i},op.kind=7->kL op (l9 w i):=λ h=>by unfold l9;split<;>exact fl rfl h
  refine Mf s.up ?_;show kL op (oq D R k s.made r);cases k with
  |sl v m w i=>
   simp only[oq];split
   ·exact fl rfl J
   ·exact nS J
  |sc v m w i=>
   simp only[oq];split
   ·split
    ·exact fi _
    ·exact fl rfl trivial
   ·exact nS J
  |sn v m w=>
   simp only[oq];split
   ·split<;>exact fl rfl J
   ·exact fl rfl J
  |st v m w nx=>exact fl rfl J
  |f0 v w n=>exact fl rfl J
  |f1 v w n=>exact fl rfl J
  |f2 v w n i=>simp only[oq];split<;>exact fl rfl J
  |sa v m w=>
   simp only[oq];split
   ·exact fl rfl trivial
   ·exact fl rfl J
  |sb w m a=>exact fi _
  |rl w i=>
   simp only[oq];split
   ·exact fi _
   ·split
    ·exact nR J
    ·exact fl rfl J
  |rc w i x=>
   simp only[oq];split
   ·exact fi _
   ·exact nR J
  |rn w=>
   simp only[oq];split
   ·exact fi _
   ·exact fl rfl J
  |re w nx=>simp only[oq];split<;>exact fl rfl J
  |rt w nx en=>exact fl rfl J
  |rh w nx=>simp only[oq];split<;>exact fl rfl J
  |_=>exact absurd hs id
 |t1 k=>
  have J:qw op k:=h k rfl;obtain⟨v,w,rfl⟩:=hs;show kL op (if(ae r.val).idx=0 then aR (aB D R) (.bG (.fi _)) s.up else _:Q Sk).pc;split
  ·exact Mf _ (fl rfl trivial)
  ·exact fl rfl J
 |t2 k f=>exact fl rfl (h k rfl)
 |t3 k f lk=>show kL op (if r.ok then _ else _:Q Sk).pc;split<;>exact fl rfl (h k rfl)
 |t4 k n b=>exact fl rfl (h k rfl)
 |t5 k n b c=>have J:qw op k:=h k rfl;obtain⟨v,w,rfl⟩:=hs;exact fl rfl J
 |g1 k i c=>exact fl rfl (h k rfl)
 |g2 k i c v b=>
  have J:qw op k:=h k rfl;show kL op (if r.val=s.e i then aR (aB D R) _ s.up else _:Q Sk).pc;split
  ·rcases hs with⟨ij,m,rfl⟩|rfl<;>exact fl rfl J
  ·exact fl rfl J
 |g3 k i c er=>exact fl rfl (h k rfl)
 |c k i=>exact SU _ (h k rfl) (λ n e=>by subst e;exact(h (.rx n) rfl:op.kind=7))
 |v1 k n=>exact fl rfl (h k rfl)
 |v2 k n f=>exact fl rfl (h k rfl)
 |v3 k n f=>
  obtain⟨a,rfl⟩:=hs;show kL op (if r.ok then aR (aB D R) (.bG (.fi _)) s.up else _:Q Sk).pc;split
  ·exact Mf _ (fl rfl trivial)
  ·exact fl rfl trivial
 |r1 k n=>exact fl rfl (h k rfl)
 |r2 k n er=>
  have J:qw op k:=h k rfl;have hs:k=.rr:=hs;subst hs;show kL op (if(s.gone.length:Int)+1<2*(S:Int) then aR (aB D R) _ _ else _:Q Sk).pc;split
  ·exact fl rfl J
  ·exact SX _ _ _ J
 |rs k aw c cs=>have J:qw op k:=h k rfl;have hs:k=.rr:=hs;subst hs;exact SX _ _ _ J
 |s1 k aw y gs aL=>
  have J:qw op k:=h k rfl;have hs:k=.rr:=hs;subst hs;show kL op (if aw.any (fE (kT r.val) y.2)=true then gL (aB D R) _ _ _ _ _ else _:Q Sk).pc;split
  ·exact Mg _ _ _ _ J
  ·exact fl rfl J
 |w1 k aw y gs aL=>exact fl rfl (h k rfl)
 |w2 k aw y gs aL f=>exact fl rfl (h k rfl)
 |w3 k aw y gs aL f=>
  have J:qw op k:=h k rfl;have hs:k=.rr:=hs;subst hs;show kL op (if r.ok then gL (aB D R) _ _ _ _ _ else _:Q Sk).pc;split
  ·exact Mg _ _ _ _ J
  ·exact fl rfl J
theorem acG(op:bl)(gone:List (Int×Int))(J:op.kind=6\/op.kind=7):kL op (i8 D R op gone).pc:=by
 unfold i8;simp only;split
 ·rename_i h;exact fl rfl ⟨h,rfl⟩
 ·exact fl rfl (show op.kind=7 by omega)
end
def x5(c:List Int)(op:bl):List Int×Int×Bool:=if op.kind=6 then(c++[op.a],0,true) else match c with
 |[]=>([],0,false)
 |x::xs=>(xs,x,true)
def jv(g:ge):List Int:=g.vs.map λ v=>v-2
section
variable{D R:Int}{l:ah}{S N aG:Nat}{V:Vw}{qs:List (Q Sk)}{aA X:List Int}{g:ge}{w:Nat}{q:Q Sk}
theorem MV(hI:Inv (bp D R N) l S N aG V qs aA X g)(hN:N<=100){P:Int->Int->Prop}{u:Int}(h:RW D N V.W P u)(fz:¬AS V.W (ae u).idx):V.W.ob D=u/\∃B,X=(ae u).idx::B:=by
 have cz:gh D R N aG V.W X (Dq (bp D R N) qs) g:=hI.si;have A:V.W.ob D=u:=by
  by_cases e:V.W.ob D=u
  ·exact e
  ·exact absurd (h.2.2.2 e) fz
 obtain⟨B,hB⟩:=cz.yW hN;rw[A] at hB;exact⟨A,B,hB⟩
structure gO(V:Vw)(op:bl)(g bF:ge)(q bD:Q Sk):Prop where
 quiet:bW bD.pc=none\/bW q.pc≠none->jv bF=jv g
 new:bW q.pc=none->bW bD.pc≠none->∃v b e,fV bD.pc=some (v,b,e)/\((e=0/\x5 (jv g) op=(jv bF,v,b))\/(e=8/\b=false/\jv bF=jv g/\(ae V.fr).idx=0/\∃v u,q.pc=.t1 (.tk v u)))
theorem gO.same{V:Vw}{op:bl}{g bF:ge}{q bD:Q Sk}(hg:jv bF=jv g)(h:bW q.pc=none->bW bD.pc=none):gO V op g bF q bD:=⟨λ _=>hg,λ A F=>absurd (h A) F⟩
theorem gO.some{V:Vw}{op:bl}{g bF:ge}{q bD:Q Sk}{a v:Int}{b:Bool}(A:bW q.pc=none)(F:bW bD.pc=some a)(O:fV bD.pc=some (v,b,0))(h4:x5 (jv g) op=(jv bF,v,b)):gO V op g bF q bD:=⟨λ h=>by rcases h with h|h;rw[F] at h;cases h;exact absurd A h,λ _ _=>⟨v,b,0,O,.inl ⟨rfl,h4⟩⟩⟩
theorem aeJ(hN:N<=100)(hI:Inv (bp D R N) l S N aG V qs aA X g)(hq:qs[w]?=some q)(hf:q.pc.pS)(fJ:g9 q){op:bl}(ho:kL op q.pc):gO V op g (iN (bp D R N) V.W X g q.pc).2 q (tell (aB D R) S q (bn V (cf (aB D R) w q.pc)).2):=by
 have cz:gh D R N aG V.W X (Dq (bp D R N) qs) g:=hI.si;have cT:=(hI.loc w q hq).pc;have ko:=hI.HU;have qH:∀n,Dq (bp D R N) qs n->n∉X:=λ n h=>(hI.dq h).2.1
 have agJ:∀i n,Pr (bp D R N) V X qs w q.s i n->n∈X\/Dq (bp D R N) qs n:=λ i n h=>uH h
 have El:∀(v m w i:Int)(s:af),bW (aR (aB D R) (kB v m w i) s).pc=none:=λ v m w i s=>by rw[(ll _ _).1];unfold kB;split<;>rfl
 have Ek:∀(w i:Int)(s:af),bW (aR (aB D R) (l9 w i) s).pc=none:=λ w i s=>by rw[(ll _ _).1];unfold l9;split<;>rfl
 have jS:∀(o:aY)(s:af),bW (aR (aB D R) (.bG (.fi o)) s).pc=.some o.c6/\fV (aR (aB D R) (.bG (.fi o)) s).pc=.some (o.val,o.is,o.err):=λ o s=>ll _ _
 cases hp:bW q.pc with
 |some a=>
  refine⟨λ _=>?_,λ h=>by rw[hp] at h;cases h⟩;obtain⟨pc,s⟩:=q;cases pc with
  |at_ k=>cases k<;>first|rfl|cases hp
  |_=>rfl
 |none=>
  have kP:=adF (D:=D) (R:=R) (S:=S) (r:=(bn V (cf (aB D R) w q.pc)).2) fJ hp;obtain⟨pc,s⟩:=q;cases pc with
  |fin o=>exact absurd hf id
  |bG k=>exact absurd hf id
  |at_ k=>
   have gH:qo D R N V.W (Pr (bp D R N) V X qs w s) k:=cT.1;have J:qw op k:=ho k rfl;cases k with
   |sc v m u i=>
    obtain⟨A,F,O,h4,h5,h6⟩:=gH
    by_cases L:V.W.nd (ae u).idx i=0
    ·have e1:(bn V (cf (aB D R) w (.at_ (.sc v m u i)))).2=⟨0,true⟩:=by
      show(bn V (.cs (.nd (ae u).idx i) 0 (v+2))).2=_;simp only[bn,Vw.get,L,if_true]
     have e2:(iN (bp D R N) V.W X g (.at_ (.sc v m u i))).2={g with put:=g.put+1,vs:=g.vs++[v+2]}:=by show(dv D V.W X g (.sc v m u i)).2=_;simp only[dv,L,if_true]
     simp only[e1,e2];have e3:bW (tell (aB D R) S ⟨.at_ (.sc v m u i),s⟩ ⟨0,true⟩).pc=.some (s.made:Int)/\fV (tell (aB D R) S ⟨.at_ (.sc v m u i),s⟩ ⟨0,true⟩).pc=.some (0,true,0):=by show bW (aR (aB D R) (if m=0 then .bG (.fi (jm s.made)) else .v1 (.sv s.made) m) s.up).pc=_/\fV (aR (aB D R) (if m=0 then .bG (.fi (jm s.made)) else .v1 (.sv s.made) m) s.up).pc=_;rw[(ll _ _).1,(ll _ _).2];split<;>exact⟨rfl,rfl⟩
     refine gO.some hp e3.1 e3.2 ?_;unfold x5 jv;rw[if_pos J.1,J.2];simp only[List.map_append,List.map_cons,List.map_nil];rw[show op.a+2-2=op.a by omega]
    ·have e1:(bn V (cf (aB D R) w (.at_ (.sc v m u i)))).2=⟨V.W.nd (ae u).idx i,false⟩:=by
      show(bn V (.cs (.nd (ae u).idx i) 0 (v+2))).2=_;simp only[bn,Vw.get,L,if_false]
     have e2:(iN (bp D R N) V.W X g (.at_ (.sc v m u i))).2=g:=by show(dv D V.W X g (.sc v m u i)).2=g;simp only[dv,L,if_false]
     simp only[e1,e2];exact gO.same rfl λ _=>El v m u i s.up
   |sa v m u=>
    by_cases L:V.W.nd (ae u).idx 0=0
    ·have e1:(bn V (cf (aB D R) w (.at_ (.sa v m u)))).2=⟨0,true⟩:=by
      show(bn V (.cs (.nd (ae u).idx 0) 0 m)).2=_;simp only[bn,Vw.get,L,if_true]
     have e2:(iN (bp D R N) V.W X g (.at_ (.sa v m u))).2={g with put:=g.put+1,vs:=g.vs++[v+2]}:=by show(dv D V.W X g (.sa v m u)).2=_;simp only[dv,L,if_true]
     simp only[e1,e2];refine gO.some (a:=(s.made:Int)) hp rfl rfl ?_;unfold x5 jv;rw[if_pos J.1,J.2];simp only[List.map_append,List.map_cons,List.map_nil];rw[show op.a+2-2=op.a by omega]
    ·have e1:(bn V (cf (aB D R) w (.at_ (.sa v m u)))).2=⟨V.W.nd (ae u).idx 0,false⟩:=by
      show(bn V (.cs (.nd (ae u).idx 0) 0 m)).2=_;simp only[bn,Vw.get,L,if_false]
     have e2:(iN (bp D R N) V.W X g (.at_ (.sa v m u))).2=g:=by show(dv D V.W X g (.sa v m u)).2=g;simp only[dv,L,if_false]
     simp only[e1,e2];exact gO.same rfl λ _=>rfl
   |rc u i x=>
    obtain⟨k1,k2,k3,k4,k5,k6⟩:=gH;have Eb:¬op.kind=6:=λ e=>by have:op.kind=7:=J;omega
    by_cases L:V.W.nd (ae u).idx i=x
    ·have e1:(bn V (cf (aB D R) w (.at_ (.rc u i x)))).2=⟨x,true⟩:=by
      show(bn V (.cs (.nd (ae u).idx i) x 1)).2=_;simp only[bn,Vw.get,L,if_true]
     have e2:(iN (bp D R N) V.W X g (.at_ (.rc u i x))).2={g with vs:=g.vs.tail}:=by show(dv D V.W X g (.rc u i x)).2=_;simp only[dv,L,if_true]
     simp only[e1,e2];obtain⟨hh,B,hB⟩:=MV hI hN k1 (λ h=>by have:=h.1 i k2 k3;omega);obtain⟨_,_,t3⟩:=UP cz hN ko qH (by rw[hh]) k2 k3 L k5 k4;have oR:=(cz.vs x (by rw[t3];exact List.mem_cons_self)).2;refine gO.some (a:=(s.made:Int)) (v:=x-2) (b:=true) hp ?_ ?_ ?_
     ·exact(jS ⟨m4 (x-2),true,0,s.made,[]⟩ s.up).1
     ·have:=(jS ⟨m4 (x-2),true,0,s.made,[]⟩ s.up).2;rw[ID (by omega) (by omega)] at this;show fV (aR (aB D R) (.bG (.fi ⟨m4 (x-2),true,0,s.made,[]⟩)) s.up).pc=_;rw[ID (by omega) (by omega)];exact this
     ·unfold x5 jv;rw[if_neg Eb,t3]
      rfl
    ·have e1:(bn V (cf (aB D R) w (.at_ (.rc u i x)))).2=⟨V.W.nd (ae u).idx i,false⟩:=by
      show(bn V (.cs (.nd (ae u).idx i) x 1)).2=_;simp only[bn,Vw.get,L,if_false]
     have e2:(iN (bp D R N) V.W X g (.at_ (.rc u i x))).2=g:=by show(dv D V.W X g (.rc u i x)).2=g;simp only[dv,L,if_false]
     simp only[e1,e2];exact gO.same rfl λ _=>Ek u i s.up
   |rl u i=>
    obtain⟨k1,k2,k3,k4⟩:=gH;have Eb:¬op.kind=6:=λ e=>by have:op.kind=7:=J;omega
    have e2:(iN (bp D R N) V.W X g (.at_ (.rl u i))).2=g:=rfl;have e1:tell (aB D R) S ⟨.at_ (.rl u i),s⟩ (bn V (cf (aB D R) w (.at_ (.rl u i)))).2=aR (aB D R) (if V.W.nd (ae u).idx i=0 then .bG (.fi (mv s.made)) else if V.W.nd (ae u).idx i=1 then l9 u i else .at_ (.rc u i (V.W.nd (ae u).idx i))) s.up:=rfl;simp only[e2,e1]
    by_cases h0:V.W.nd (ae u).idx i=0
    ·rw[if_pos h0];obtain⟨hh,B,hB⟩:=MV hI hN k1 (λ h=>by have:=h.1 i k2 k3;omega);obtain⟨a,c,hs,_,_⟩:=cz.seq;have nl:∀j:Int,1<=j->j<=5->(hZ V.W X)[(j-1).toNat]?=.some (V.W.nd (ae u).idx j):=λ j j1 j5=>by
      have:=CE (W:=V.W) (am:=[]) (B:=B) (n:=(ae u).idx) j1 j5;rw[hB];simpa using this
     have hv:g.vs=[]:=TX hs (λ v hv=>(cz.vs v hv).1) (p:=(i-1).toNat) (.inl (by rw[nl i k2 k3,h0])) (λ y hy=>by
      have:=nl ((y:Int)+1) (by omega) (by omega);rw[show((y:Int)+1-1).toNat=y by omega] at this;rw[this,k4 ((y:Int)+1) (by omega) (by omega)])
     refine gO.some (v:=0) (b:=false) hp (jS (mv s.made) s.up).1 (jS (mv s.made) s.up).2 ?_;unfold x5 jv;rw[if_neg Eb,hv]
     rfl
    ·rw[if_neg h0];split
     ·exact gO.same rfl λ _=>Ek u i s.up
     ·exact gO.same rfl λ _=>rfl
   |rn u=>
    obtain⟨k1,k2⟩:=gH;have Eb:¬op.kind=6:=λ e=>by have:op.kind=7:=J;omega
    have e2:(iN (bp D R N) V.W X g (.at_ (.rn u))).2=g:=rfl;have e1:tell (aB D R) S ⟨.at_ (.rn u),s⟩ (bn V (cf (aB D R) w (.at_ (.rn u)))).2=aR (aB D R) (if V.W.nd (ae u).idx 0=0 then .bG (.fi (mv s.made)) else .at_ (.re u (V.W.nd (ae u).idx 0))) s.up:=rfl;simp only[e2,e1]
    by_cases h0:V.W.nd (ae u).idx 0=0
    ·rw[if_pos h0];obtain⟨hh,B,hB⟩:=MV hI hN k1 (λ h=>h.2 h0);obtain⟨a,c,hs,_,_⟩:=cz.seq;have ku:=cz.link;rw[hB] at ku;have J7:B=[]:=by
      have h9:V.W.nd (ae u).idx 0=B.headD 0:=ku.1;rw[h0] at h9;cases B with
      |nil=>rfl
      |cons y B=>have:=cz.iw y (by rw[hB];simp);simp at h9;omega
     subst J7;have nl:∀j:Int,1<=j->j<=5->(hZ V.W X)[(j-1).toNat]?=.some (V.W.nd (ae u).idx j):=λ j j1 j5=>by
      have:=CE (W:=V.W) (am:=[]) (B:=[]) (n:=(ae u).idx) j1 j5;rw[hB];simpa using this
     have hv:g.vs=[]:=TX hs (λ v hv=>(cz.vs v hv).1) (p:=5) (.inr (by rw[xW,hB];rfl)) (λ y hy=>by
      have:=nl ((y:Int)+1) (by omega) (by omega);rw[show((y:Int)+1-1).toNat=y by omega] at this;rw[this,k2 ((y:Int)+1) (by omega) (by omega)])
     refine gO.some (v:=0) (b:=false) hp (jS (mv s.made) s.up).1 (jS (mv s.made) s.up).2 ?_;unfold x5 jv;rw[if_neg Eb,hv]
     rfl
    ·rw[if_neg h0];exact gO.same rfl λ _=>rfl
   |rh u nx=>
    have e2:jv (iN (bp D R N) V.W X g (.at_ (.rh u nx))).2=jv g:=by show jv (dv D V.W X g (.rh u nx)).2=jv g;simp only[dv];split<;>rfl
    refine gO.same e2 λ _=>?_
    show bW (aR (aB D R) (if(bn V (cf (aB D R) w (.at_ (.rh u nx)))).2.ok then .bG (.rx (ae u).idx) else .g1 .rg 0 (.ob D)) s.up).pc=_;rw[(ll _ _).1];split<;>rfl
   |sl v m u i=>
    refine gO.same rfl λ _=>?_
    show bW (aR (aB D R) (if V.W.nd (ae u).idx i=0 then _ else _) s.up).pc=_;split
    ·rfl
    ·exact El _ _ _ _ _
   |sn v m u=>
    refine gO.same rfl λ _=>?_
    show bW (aR (aB D R) (if V.W.nd (ae u).idx 0=0 then(if m=0 then _ else _) else _) s.up).pc=_;split
    ·split<;>rfl
    ·rfl
   |re u nx=>
    refine gO.same rfl λ _=>?_
    show bW (aR (aB D R) (if(ae (V.W.ob R)).idx=(ae u).idx then _ else _) s.up).pc=_;split<;>rfl
   |f2 v u n i=>
    refine gO.same rfl λ _=>?_
    show bW (aR (aB D R) (if i<5 then _ else _) s.up).pc=_;split<;>rfl
   |sb u m a=>cases hp
   |st v m u nx=>exact gO.same rfl λ _=>rfl
   |f0 v u n=>exact gO.same rfl λ _=>rfl
   |f1 v u n=>exact gO.same rfl λ _=>rfl
   |rt u nx en=>exact gO.same rfl λ _=>rfl
   |_=>exact absurd fJ id
  |t1 k=>
   obtain⟨v,u,rfl⟩:=fJ;refine⟨λ _=>rfl,λ _ b9=>?_⟩;have e1:tell (aB D R) S ⟨.t1 (.tk v u),s⟩ (bn V (cf (aB D R) w (.t1 (.tk v u)))).2=if(ae V.fr).idx=0 then aR (aB D R) (.bG (.fi ⟨0,false,8,s.made,[]⟩)) s.up else⟨.t2 (.tk v u) V.fr,s.up⟩:=rfl
   rw[e1] at b9⊢;split at b9
   ·rename_i h0;rw[if_pos h0];exact⟨0,false,8,(jS ⟨0,false,8,s.made,[]⟩ s.up).2,.inr ⟨rfl,rfl,rfl,h0,v,u,rfl⟩⟩
   ·exact absurd rfl b9
  |t5 k n a b=>obtain⟨v,u,rfl⟩:=fJ;exact gO.same rfl λ _=>rfl
  |v3 k n f=>obtain⟨a,rfl⟩:=fJ;cases hp
  |g2 k i c v b=>
   refine gO.same rfl λ _=>?_
   show bW (if V.er=s.e i then aR (aB D R) _ s.up else _:Q Sk).pc=_;split
   ·rcases fJ with⟨ij,m,rfl⟩|rfl<;>rfl
   ·exact hp
  |c k i=>
   refine gO.same rfl λ _=>?_
   exact(Ga _ _).1.trans hp
  |t3 k f lk=>
   refine gO.same rfl λ _=>?_
   show bW (if(bn V (cf (aB D R) w (.t3 k f lk))).2.ok then _ else _:Q Sk).pc=_;split<;>exact hp
  |r2 k n er=>
   have fJ:k=.rr:=fJ;subst fJ;refine gO.same rfl λ _=>?_
   show bW (if(s.gone.length:Int)+1<2*(S:Int) then aR (aB D R) _ _ else _:Q Sk).pc=_;split
   ·rfl
   ·exact(CA _ _ _ _).1
  |rs k aw c cs=>exact gO.same rfl λ _=>(CA _ _ _ _).1.trans hp
  |s1 k aw y gs aL=>
   refine gO.same rfl λ _=>?_
   show bW (if aw.any (fE (kT (V.bi y.1)) y.2)=true then gL (aB D R) _ _ _ _ _ else _:Q Sk).pc=_;split
   ·exact(wq _ _ _ _ _).1.trans hp
   ·exact hp
  |w3 k aw y gs aL f=>
   refine gO.same rfl λ _=>?_
   show bW (if(bn V (cf (aB D R) w (.w3 k aw y gs aL f))).2.ok then gL (aB D R) _ _ _ _ _ else _:Q Sk).pc=_;split
   ·exact(wq _ _ _ _ _).1.trans hp
   ·exact hp
  |_=>exact gO.same rfl λ _=>hp
end
theorem acP{q:Q Sk}(h:bW q.pc=none):fV q.pc=none:=by
 obtain⟨pc,s⟩:=q;cases pc with
 |fin o=>cases h
 |at_ k|t1 k|t2 k _|t3 k _ _|t4 k _ _|t5 k _ _ _|g1 k _ _|g2 k _ _ _ _|g3 k _ _ _|bG k|c k _|v1 k _|v2 k _ _|v3 k _ _|r1 k _|r2 k _ _|rs k _ _ _|s1 k _ _ _ _|w1 k _ _ _ _|w2 k _ _ _ _ _|w3 k _ _ _ _ _=>cases k<;>first|rfl|cases h
def F7:o5:=⟨3,30,1,2,1,0,2,1,2⟩
def ct:ah:=⟨3,30,1,2,1,0,2,1,2,0,1,2,3,4,7,10,19,28,40,44,44,50,53,57,297⟩
theorem OW:yu F7=true:=by decide+kernel
theorem OX:gZ F7=ct:=by decide+kernel
theorem WT:AM F7:=Jq OW
abbrev mC:lx Sk:=aB 53 54
abbrev jH:Sp Sk ge:=bp 53 54 30
theorem Di{n i:Int}(A:1<=n)(F:n<=30)(O:0<=i)(h4:i<=7):aN ct n i=57+8*(n-1)+i:=by unfold aN;rw[if_neg (by omega)];show kG 57 30 8 (n-1) i=_;rw[Va (by omega) (by omega) (by omega) (by omega)];omega
theorem OY{w i:Int}(A:0<=w)(F:w<3)(O:0<=i)(h4:i<=2):cE ct w i=10+3*w+i:=by show kG 10 3 3 w i=_;rw[Va (by omega) (by omega) (by omega) (by omega)];omega
theorem LD:rA ct 3 30:=by
 refine⟨rfl,rfl,rfl,rfl,λ w i a1 a2 a3 a4=>?_,λ n i a1 a2 a3 a4=>?_,by decide,rfl,by decide⟩
 ·rw[OY a1 (by omega) a3 a4];omega
 ·rw[Di a1 (by omega) a3 a4];rfl
theorem Ii:AU ct 3 53 54:=⟨by decide,by decide,by decide,by decide,by decide⟩
theorem tC:nO mC jH ct 3 30:=M4 Ii (by omega)
theorem Jr:gm ct 0=53:=by decide
theorem WV:mY ct 0=54:=by decide
def tO:List Int:=uA ct
def u0:Vw:=⟨1,5,λ _ _=>0,λ n=>if n<=2 then 1 else 0,λ n=>if n<5\/n=30 then 0 else n+1,⟨λ c=>dp tO c,λ _ _=>0⟩⟩
def OT:Bool:=
 let m:=tO
 decide (m.length=297)&&decide (dp m 3=5)&&decide (dp m 2=1)&&decide (dp m 53=3)&&decide (dp m 54=3)&&m.all (λ x=>decide (x<9223372036854775808))&&
 ((List.range 3).all λ w=>(List.range 3).all λ i=>decide (dp m (10+3*(w:Int)+i)=0))&&
 ((List.range 30).all λ n=>((List.range 6).all λ i=>decide (dp m (57+8*(n:Int)+i)=0))&&decide (dp m (57+8*(n:Int)+6)=u0.bi ((n:Int)+1))&&decide (dp m (57+8*(n:Int)+7)=u0.lk ((n:Int)+1)))
theorem WS:OT=true:=by decide+kernel
theorem WW:pP ct 3 30 tO u0/\tG tO/\dp tO 53=3/\dp tO 54=3:=by
 have Z:=WS;unfold OT at Z;generalize hm:tO=m at Z;have hV:∀c,u0.W.ob c=dp m c:=λ c=>by rw[<-hm];rfl
 simp only[Bool.and_eq_true,decide_eq_true_eq,List.all_eq_true] at Z;obtain⟨⟨⟨⟨⟨⟨⟨b1,b2⟩,b3⟩,b4⟩,b5⟩,b6⟩,b7⟩,b8⟩:=Z;refine⟨⟨b1,λ a ha=>?_⟩,λ x T=>b6 x T,b4,b5⟩;cases a with
 |era=>exact b3
 |free=>exact b2
 |ob c=>exact(hV c).symm
 |rv w i=>obtain⟨w0,w1,i0,i1⟩:=ha;have:=b7 w.toNat (List.mem_range.2 (by omega)) i.toNat (List.mem_range.2 (by omega));rw[show((w.toNat:Nat):Int)=w by omega,show((i.toNat:Nat):Int)=i by omega] at this;show dp m (cE ct w i)=0;rw[OY w0 (by omega) i0 i1];exact this
 |nd n i=>obtain⟨n0,n1,i0,i1⟩:=ha;have:=(b8 (n-1).toNat (List.mem_range.2 (by omega))).1.1 i.toNat (List.mem_range.2 (by omega));rw[show(((n-1).toNat:Nat):Int)=n-1 by omega,show((i.toNat:Nat):Int)=i by omega] at this;show dp m (aN ct n i)=0;rw[Di n0 (by omega) i0 (by omega)];exact this
 |bi n=>obtain⟨n0,n1⟩:=ha;have:=(b8 (n-1).toNat (List.mem_range.2 (by omega))).1.2;rw[show(((n-1).toNat:Nat):Int)=n-1 by omega,show n-1+1=n by omega] at this;show dp m (aN ct n 6)=u0.bi n;rw[Di n0 (by omega) (by omega) (by omega)];exact this
 |lk n=>obtain⟨n0,n1⟩:=ha;have:=(b8 (n-1).toNat (List.mem_range.2 (by omega))).2;rw[show(((n-1).toNat:Nat):Int)=n-1 by omega,show n-1+1=n by omega] at this;show dp m (aN ct n 7)=u0.lk n;rw[Di n0 (by omega) (by omega) (by omega)];exact this
theorem U7:∀(k:Nat)(a:Int),5<=a->a+k=31->o7 u0.lk (kF a k)
 |0,a,_,_=>trivial
 |k+1,a,ha,h=>by
  refine⟨?_,U7 k (a+1) (by omega) (by omega)⟩;show(if a<5\/a=30 then(0:Int) else a+1)=_;cases k with
  |zero=>rw[if_pos (by omega)];rfl
  |succ k=>rw[if_neg (by omega)];rfl
def Mx:Sk->Nat
 |.sg _ m|.sl _ m _ _|.sc _ m _ _|.sn _ m _|.st _ m _ _=>if m=0 then 1 else 0
 |.tk _ _=>1
 |_=>0
def ig:Pc Sk->Nat
 |.at_ k|.t1 k|.t2 k _|.t3 k _ _|.g1 k _ _|.g2 k _ _ _ _|.g3 k _ _ _=>Mx k
 |_=>0
theorem adR{D R:Int}{S:Nat}{V:Vw}{aA:List Int}{w:Nat}{q:Q Sk}(hs:g9 q)(hf:q.pc.pS)(zh:∀v m u,q.pc=.at_ (.sa v m u)->m≠0):aA.length+ig (tell (aB D R) S q (bn V (cf (aB D R) w q.pc)).2).pc<=(oT V aA q.pc).length+ig q.pc:=by
 have bG:∀(k:Sk)(s:af),((∃o,k=.fi o)\/∃n,k=.rx n)->ig (gj (aB D R) k s).pc=0:=λ k s J=>by
  rcases A8 (ak:=aB D R) k s with⟨i,_,_,_,e⟩|⟨_,e⟩
  ·rw[e];rfl
  ·rw[e];rcases J with⟨o,rfl⟩|⟨n,rfl⟩<;>rfl
 have fi:∀(o:aY)(s:af),ig (aR (aB D R) (.bG (.fi o)) s).pc=0:=λ o s=>bG (.fi o) s (.inl ⟨o,rfl⟩)
 have M5:∀(aw:List Int)(s:af)(gs aL:List (Int×Int)),ig (gL (aB D R) .rr aw s gs aL).pc=0:=λ aw s gs aL=>by
  cases gs with
  |nil=>rfl
  |cons g gs=>rfl
 have T5:∀(aw:List Int)(s:af)(cs:List Ad),ig (mU (aB D R) .rr aw s cs).pc=0:=λ aw s cs=>by
  cases cs with
  |nil=>exact M5 _ _ _ _
  |cons c cs=>rfl
 obtain⟨pc,s⟩:=q;cases pc with
 |fin o=>exact absurd hf id
 |bG k=>exact absurd hf id
 |at_ k=>
  have nS:∀(v m w i:Int)(s:af),ig (aR (aB D R) (kB v m w i) s).pc=if m=0 then 1 else 0:=λ v m w i s=>by unfold kB;split<;>rfl
  have nR:∀(w i:Int)(s:af),ig (aR (aB D R) (l9 w i) s).pc=0:=λ w i s=>by unfold l9;split<;>rfl
  have:ig (aR (aB D R) (oq D R k s.made (bn V (cf (aB D R) w (.at_ k))).2) s.up).pc<=Mx k:=by
   generalize(bn V (cf (aB D R) w (.at_ k))).2=r;cases k with
   |sl v m u i=>
    show ig (aR (aB D R) (if r.val=0 then _ else _) s.up).pc<=_;split
    ·exact Nat.le_refl _
    ·rw[nS];exact Nat.le_refl _
   |sc v m u i=>
    show ig (aR (aB D R) (if r.ok then(if m=0 then .bG (.fi (jm s.made)) else .v1 (.sv s.made) m) else _) s.up).pc<=_;split
    ·split
     ·rw[fi];exact Nat.zero_le _
     ·exact Nat.zero_le _
    ·rw[nS];exact Nat.le_refl _
   |sn v m u=>
    show ig (aR (aB D R) (if r.val=0 then(if m=0 then .t1 (.tk v u) else .at_ (.sa v m u)) else _) s.up).pc<=if m=0 then 1 else 0
    split
    ·split
     ·exact Nat.le_refl _
     ·exact Nat.zero_le _
    ·exact Nat.le_refl _
   |st v m u nx=>exact Nat.le_refl _
   |f0 v u n=>exact Nat.zero_le _
   |f1 v u n=>exact Nat.zero_le _
   |f2 v u n i=>show ig (aR (aB D R) (if i<5 then _ else _) s.up).pc<=_;split<;>exact Nat.zero_le _
   |sa v m u=>
    show ig (aR (aB D R) (if r.ok then _ else _) s.up).pc<=0;split
    ·exact Nat.zero_le _
    ·show(if m=0 then 1 else 0)<=0;rw[if_neg (zh v m u rfl)];exact Nat.le_refl _
   |sb u m a=>show ig (aR (aB D R) (.bG (.fi (jm a))) s.up).pc<=_;rw[fi];exact Nat.zero_le _
   |rl u i=>
    show ig (aR (aB D R) (if r.val=0 then .bG (.fi (mv s.made)) else if r.val=1 then _ else _) s.up).pc<=_;split
    ·rw[fi];exact Nat.zero_le _
    ·split
     ·rw[nR];exact Nat.zero_le _
     ·exact Nat.zero_le _
   |rc u i x=>
    show ig (aR (aB D R) (if r.ok then .bG (.fi ⟨m4 (x-2),true,0,s.made,[]⟩) else _) s.up).pc<=_;split
    ·rw[fi];exact Nat.zero_le _
    ·rw[nR];exact Nat.zero_le _
   |rn u=>
    show ig (aR (aB D R) (if r.val=0 then .bG (.fi (mv s.made)) else _) s.up).pc<=_;split
    ·rw[fi];exact Nat.zero_le _
    ·exact Nat.zero_le _
   |re u nx=>show ig (aR (aB D R) (if(ae r.val).idx=(ae u).idx then _ else _) s.up).pc<=_;split<;>exact Nat.zero_le _
   |rt u nx en=>exact Nat.zero_le _
   |rh u nx=>
    show ig (aR (aB D R) (if r.ok then .bG (.rx (ae u).idx) else _) s.up).pc<=_;split
    ·exact Nat.le_trans (Nat.le_of_eq (bG (.rx (ae u).idx) s.up (.inr ⟨_,rfl⟩))) (Nat.zero_le _)
    ·exact Nat.zero_le _
   |_=>exact absurd hs id
  exact Nat.add_le_add_left this _
 |t1 k=>
  obtain⟨v,u,rfl⟩:=hs;show aA.length+ig (if(ae V.fr).idx=0 then aR (aB D R) (.bG (.fi ⟨0,false,8,s.made,[]⟩)) s.up else⟨.t2 (.tk v u) V.fr,s.up⟩:Q Sk).pc<=aA.length+1;split
  ·rw[fi];omega
  ·exact Nat.le_refl _
 |t2 k f=>exact Nat.le_refl _
 |t3 k f lk=>
  obtain⟨v,u,rfl⟩:=hs
  by_cases L:V.fr=f
  ·have e1:bn V (cf (aB D R) w (.t3 (Sk.tk v u) f lk))=({V with fr:=bK (ca (ae f) lk)},⟨V.fr,true⟩):=by simp only[cf,bn,Vw.get,L,if_true];rfl
   simp only[e1];show aA.length+0<=(if V.fr=f then aA.tail else aA).length+1;rw[if_pos L,List.length_tail];omega
  ·have e1:bn V (cf (aB D R) w (.t3 (Sk.tk v u) f lk))=(V,⟨V.fr,false⟩):=by simp only[cf,bn,Vw.get,L,if_false]
   simp only[e1];show aA.length+1<=(if V.fr=f then aA.tail else aA).length+1;rw[if_neg L];omega
 |t4 k n a=>exact Nat.le_refl _
 |t5 k n a b=>obtain⟨v,u,rfl⟩:=hs;exact Nat.le_refl _
 |g1 k i c=>exact Nat.le_refl _
 |g2 k i c v a=>
  show aA.length+ig (if V.er=s.e i then aR (aB D R) ((aB D R).guarded k v a) s.up else⟨.g3 k i c V.er,s.up⟩:Q Sk).pc<=aA.length+Mx k;split
  ·rcases hs with⟨ij,m,rfl⟩|rfl
   ·exact Nat.le_refl _
   ·exact Nat.le_refl _
  ·exact Nat.le_refl _
 |g3 k i c er=>exact Nat.le_refl _
 |c k i=>have:=bG k (s.up.fb i 0) hs.2.2.2;show aA.length+ig (gj (aB D R) k (s.up.fb i 0)).pc<=aA.length+0;omega
 |v1 k n=>exact Nat.le_refl _
 |v2 k n f=>exact Nat.le_refl _
 |v3 k n f=>
  obtain⟨a,rfl⟩:=hs
  by_cases L:V.fr=f
  ·have e1:bn V (cf (aB D R) w (.v3 (Sk.sv a) n f))=({V with fr:=bK (ca (ae f) n)},⟨V.fr,true⟩):=by simp only[cf,bn,Vw.get,L,if_true];rfl
   simp only[e1];show aA.length+ig (aR (aB D R) (.bG (.fi (jm a))) s.up).pc<=(if V.fr=f then n::aA else aA).length+0;rw[if_pos L,fi,List.length_cons];omega
  ·have e1:bn V (cf (aB D R) w (.v3 (Sk.sv a) n f))=(V,⟨V.fr,false⟩):=by simp only[cf,bn,Vw.get,L,if_false]
   simp only[e1];show aA.length+0<=(if V.fr=f then n::aA else aA).length+0;rw[if_neg L];omega
 |r1 k n=>exact Nat.le_refl _
 |r2 k n er=>
  have hs:k=.rr:=hs;subst hs;show aA.length+ig (if _ then _ else _:Q Sk).pc<=aA.length+0;split
  ·exact Nat.le_refl _
  ·rw[T5];omega
 |rs k aw c cs=>have hs:k=.rr:=hs;subst hs;exact Nat.add_le_add_left (Nat.le_of_eq (T5 _ _ _)) _
 |s1 k aw y gs aL=>
  have hs:k=.rr:=hs;subst hs;show aA.length+ig (if _ then _ else _:Q Sk).pc<=aA.length+0;split
  ·rw[M5];omega
  ·exact Nat.le_refl _
 |w1 k aw y gs aL=>exact Nat.le_refl _
 |w2 k aw y gs aL f=>exact Nat.le_refl _
 |w3 k aw y gs aL f=>
  have hs:k=.rr:=hs;subst hs
  by_cases L:V.fr=f
  ·have e1:bn V (cf (aB D R) w (.w3 Sk.rr aw y gs aL f))=({V with fr:=bK (ca (ae f) y.1)},⟨V.fr,true⟩):=by simp only[cf,bn,Vw.get,L,if_true];rfl
   simp only[e1];show aA.length+ig (gL (aB D R) .rr aw _ gs aL).pc<=(if V.fr=f then y.1::aA else aA).length+0;rw[if_pos L,M5,List.length_cons];omega
  ·have e1:bn V (cf (aB D R) w (.w3 Sk.rr aw y gs aL f))=(V,⟨V.fr,false⟩):=by simp only[cf,bn,Vw.get,L,if_false]
   simp only[e1];show aA.length+0<=(if V.fr=f then y.1::aA else aA).length+0;rw[if_neg L];omega
def AT(op:bl):Prop:=(op.kind=6\/op.kind=7)/\op.obj=0/\oD op.a
structure yl(W:List (List bl)):Prop where
 w3:W.length=3
 ops:∀ws∈W,∀o∈ws,AT o
 len:∀ws∈W,ws.length<=12
 US:(W.map List.length).sum<=24
 Ud:∀ws,W[0]?=some ws->∀(k:Nat)(o:bl),ws[k]?=some o->o.kind=6/\o.a=k
 TM:∀(w:Nat) ws,1<=w->W[w]?=some ws->∀o∈ws,o.kind=7
def cH(x:bZ):Q Sk:=if x.op.kind=0 then xC x.gone else oo mC 3 (i8 53 54 x.op x.gone) x.log
def tw(ar:List bZ):List (Q Sk):=ar.map cH
theorem MA{ar:List bZ}{w:Nat}{x:bZ}(T:ar[w]?=some x):(tw ar)[w]?=some (cH x):=by unfold tw;rw[List.getElem?_map,T];rfl
theorem TA{ar:List bZ}{w:Nat}(y:bZ):tw (ar.set w y)=(tw ar).set w (cH y):=by unfold tw;rw[List.map_set]
def tQ(ws:List bl)(x:bZ):Option bZ:=if x.op.kind=0 then(ws[x.next]?).map λ op=>⟨op,[],[],x.next+1,x.gone⟩ else some x
theorem UX(l:ah)(want:List (List bl))(t:cP)(al:Nat){x:bZ}{ws:List bl}(T:t.ar[al]?=some x)(hw:want[al]?=some ws):lI l want t al=match tQ ws x with
 |none=>t
 |some y=>lH l t al y:=by
 unfold lI tQ;simp only[T,hw];split
 ·cases ws[x.next]?<;>rfl
 ·rfl
def lV(x:bZ):Nat:=if x.op.kind=0 then x.next else x.next-1+hJ (cH x)
def jn(x:bZ):List Int:=if x.op.kind=7 then(match fV (cH x).pc with
    |some (v,true,_)=>[v]
    |_=>[]) else[]
def told(t:cP)(w:Nat):List Int:=(t.calls.filter λ c=>decide (c.al=(w:Int))&&c.is).map eO.val
def Cp:Option bZ->List Int
 |some x=>jn x
 |none=>[]
def lX(t:cP)(w:Nat):List Int:=told t w++Cp t.ar[w]?
structure AV(t:cP)(g:ge)(r s:Nat):Prop where
 le:r<=s
 xV:∀x,t.ar[0]?=some x->lV x=s
 cont:jv g=kF r (s-r)
 up:∀w:Nat,1<=w->w<=2->(lX t w).Pairwise (·<·)/\∀v∈lX t w,0<=v/\v<(r:Int)
 once:∀v:Int,(lX t 1).count v+(lX t 2).count v=if 0<=v/\v<(r:Int) then 1 else 0
structure Vx(W:List (List bl))(w:Nat)(x:bZ):Prop where
 op:x.op.kind=0\/(AT x.op/\1<=x.next/\∀ws,W[w]?=some ws->ws[x.next-1]?=some x.op)
 nx:∀ws,W[w]?=some ws->x.next<=ws.length
 len:x.steps.length=x.log.length
 sh:x.op.kind≠0->g9 (cH x)/\kL x.op (cH x).pc
 err:x.op.kind≠0->∀v b e,fV (cH x).pc=some (v,b,e)->e=0
def uI(x:bZ):Nat:=if x.op.kind=0 then 0 else ig (cH x).pc
structure PG(W:List (List bl))(n:Nat)(t:cP)(V:Vw)(aA X:List Int)(g:ge):Prop where
 n3:t.ar.length=3
 view:pP ct 3 30 t.m V
 inv:Inv jH ct 3 30 (2*n) V (tw t.ar) aA X g
 rd:∀(w:Nat)(x:bZ),t.ar[w]?=some x->Vx W w x
 bad:t.bad=false
 cO:t.cO=false
 mF:26+(t.ar.map uI).sum<=aA.length+(t.ar.map bZ.next).sum
 put:g.put<=(t.ar.map lV).sum
 lt:tG t.m
 val:∃r s,AV t g r s
abbrev uU(al:Nat)(V:Vw)(q:Q Sk):Vw×aF:=bn V (cf mC al q.pc)
abbrev yq(al:Nat)(q:Q Sk):aX:=(cf mC al q.pc).acc ct
def I4(pc:Pc Sk):Prop:=(∃v,oD v/\pc=.g1 (.sg v 0) 0 (.ob 54))\/pc=.g1 .rg 0 (.ob 53)\/∃o,pc=.fin o
theorem UD{op:bl}(ho:AT op)(gone:List (Int×Int)):∃eK,i8 53 54 op gone=⟨eK,⟨0,gone,0,0,0⟩⟩/\I4 eK/\eK.pS:=by
 unfold i8
 by_cases h:op.kind=6
 ·simp only[h,if_true];exact⟨_,rfl,.inl ⟨_,ho.2.2,rfl⟩,trivial⟩
 ·simp only[h,if_false];exact⟨_,rfl,.inr (.inl rfl),trivial⟩
theorem UC{V:Vw}{X:List Int}{g:ge}{P:Int->Int->Prop}{s:af}(hz:s.z){pc:Pc Sk}(h:I4 pc):wv jH ct 3 30 V X g P s pc/\eJ jH pc=[]/\d3 jH pc=[]/\(∀(s:af),iU (⟨pc,s⟩:Q Sk)=s.gone)/\∀(s:af)(j i n e:Int),jr s.gone n e->lM jH j i n e ⟨pc,s⟩:=by
 have U:=Ii;rcases h with⟨v,hv,rfl⟩|rfl|⟨o,rfl⟩
 ·exact⟨⟨⟨hv,by omega,λ h=>absurd rfl h⟩,(λ h=>h),by omega,by omega,⟨U.t1,U.t2⟩,rfl,rfl⟩,rfl,rfl,λ _=>rfl,λ s j i n e h=>.inr h⟩
 ·exact⟨⟨trivial,(λ h=>h),by omega,by omega,⟨U.A,U.F⟩,rfl,rfl⟩,rfl,rfl,λ _=>rfl,λ s j i n e h=>.inr h⟩
 ·exact⟨hz,rfl,rfl,λ _=>rfl,λ s j i n e h=>.inr h⟩
theorem RL{aG:Nat}{V:Vw}{qs:List (Q Sk)}{aA X:List Int}{g:ge}(hI:Inv jH ct 3 30 aG V qs aA X g){w:Nat}{o:aY}{s:af}(hq:qs[w]?=some ⟨.fin o,s⟩){eK:Pc Sk}(hp:I4 eK):Inv jH ct 3 30 (aG+1) V (qs.set w ⟨eK,⟨0,s.gone,0,0,0⟩⟩) aA X g:=by
 have U:=hI.loc w _ hq;have hz:s.z:=U.pc;obtain⟨z0,z1,z2⟩:=hz;have he:∀i,(⟨0,s.gone,0,0,0⟩:af).e i=s.e i:=λ i=>by
  unfold af.e;simp only[z0,z1,z2]
 have h0:=UC (V:=V) (X:=X) (g:=g) (P:=xF) (s:=⟨0,s.gone,0,0,0⟩) ⟨rfl,rfl,rfl⟩ hp;obtain⟨_,m1,m2,m3,abG⟩:=h0;refine hI.quiet tC hq (λ n=>?_) (λ n hn=>?_) he (λ j x i n _ _ _ _ h=>?_) (λ hP D=>(UC ⟨rfl,rfl,rfl⟩ hp).1)
 ·simp only[own,ej,m1,m2,m3];rfl
 ·simp only[ej,m2,m3] at hn;exact hn
 ·refine abG _ _ _ _ _ ?_;rcases h with h|h
  ·simp[d3] at h
  ·exact h
theorem ack{aG:Nat}{m:List Int}{V:Vw}{qs:List (Q Sk)}{aA X:List Int}{g:ge}(hV:pP ct 3 30 m V)(hI:Inv jH ct 3 30 aG V qs aA X g){w:Nat}{q:Q Sk}(hq:qs[w]?=some q)(hf:q.pc.pS):vr ct m (yq w q)=false:=by
 have hL:=LD;have ZK:uy ct m=aA:=abt hL (by omega) hV hI;have xh:(yq w q).cell=(cf mC w q.pc).ad.cell ct:=VN _;unfold vr;rw[ZK,xh];split
 ·rfl
 ·rename_i L;rw[Bool.eq_false_iff];intro Qe;rw[List.any_eq_true] at Qe;obtain⟨n,hn,he⟩:=Qe;have he:=of_decide_eq_true he;have eo:=hI.zv hn;have cT:=(hI.loc w q hq).pc;have n7:∀x:Int,x∈X\/Dq jH qs x->x≠n:=λ x T e=>by
   subst e;rcases T with h|h
   ·have A:=List.count_pos_iff.2 h;have F:=List.count_pos_iff.2 hn;have:=hI.one x;omega
   ·exact(hI.dq h).2.2 hn
  have oP:∀x∈eJ jH q.pc,x≠n:=λ x T e=>by
   subst e;exact(hI.ts hq (List.mem_append_left _ T)).1 hn
  have hA:=Wf tC hI hq hf hn (λ k i J=>by
   rw[J] at cT oP;have gH:qo 53 54 30 V.W (Pr jH V X qs w q.s) k:=cT.1;have sw:∀{u:Int},SW 54 30 V.W (Pr jH V X qs w q.s) u->(ae u).idx≠n:=λ h=>n7 _ (uH h.2.2.1)
   have MU:∀{u:Int},RW 53 30 V.W (Pr jH V X qs w q.s) u->(ae u).idx≠n:=λ h=>n7 _ (uH h.2.2.1)
   cases k with
   |sl v m u j=>intro e;cases e;exact sw gH.2.2.1 rfl
   |sc v m u j=>intro e;cases e;exact sw gH.2.2.1 rfl
   |sn v m u=>intro e;cases e;exact sw gH.2.2.1 rfl
   |sa v m u=>intro e;cases e;exact sw gH.2.1 rfl
   |f0 v u x=>intro e;cases e;exact oP n (by simp[eJ,bp]) rfl
   |f1 v u x=>intro e;cases e;exact oP n (by simp[eJ,bp]) rfl
   |f2 v u x j=>intro e;cases e;exact oP n (by simp[eJ,bp]) rfl
   |rl u j=>intro e;cases e;exact MU gH.1 rfl
   |rc u j x=>intro e;cases e;exact MU gH.1 rfl
   |rn u=>intro e;cases e;exact MU gH.1 rfl
   |_=>intro e;cases e) (λ k i c j J=>by
   rw[J] at cT;have Zh:=cT.2.2.2.2.2;obtain⟨_,d4⟩:=Zh;intro e;subst e;cases k<;>first|exact absurd d4 id|cases d4)
  have ahA:=afv hL (OC tC hI hq hf) eo.1 eo.2 hA.1 hA.2;have e0:=Di eo.1 eo.2 (show(0:Int)<=0 by omega) (by omega);have en:ct.node=57:=rfl;rw[en] at L he;omega
theorem aeL{aG:Nat}{V:Vw}{qs:List (Q Sk)}{aA X:List Int}{g:ge}(hI:Inv jH ct 3 30 aG V qs aA X g){w:Nat}{q:Q Sk}(hq:qs[w]?=some q):∀k,q.pc=.at_ k->(mC.ask k).wr<9223372036854775808:=by
 intro k J;have cT:=(hI.loc w q hq).pc;have hm:∀n∈eJ jH q.pc,n<=(30:Nat):=λ n hn=>(hI.nD hq (List.mem_append_left _ hn)).2
 rw[J] at cT hm;have gH:qo 53 54 30 V.W (Pr jH V X qs w q.s) k:=cT.1;cases k with
 |sc v m u i=>have:=gH.1.2;show v+2<_;omega
 |st v m u nx=>exact An _
 |f1 v u n=>have:=gH.1.2;show v+2<_;omega
 |sa v m u=>have:=hm m (by simp[eJ,bp]);show m<_;omega
 |sb u m a=>exact An _
 |rc u i x=>show(1:Int)<_;omega
 |rt u nx en=>exact An _
 |rh u nx=>exact An _
 |_=>show(0:Int)<_;omega
theorem Ca{ar:List bZ}{w:Nat}{x y:bZ}(f:bZ->Nat)(T:ar[w]?=some x):((ar.set w y).map f).sum+f x=(ar.map f).sum+f y:=Nw f y T
theorem U6:∀(k:Nat)(a:Int),kF a (k+1)=kF a k++[a+k]
 |0,a=>by simp[kF]
 |k+1,a=>by
  rw[kF,U6 k (a+1),kF];simp only[List.cons_append,List.cons.injEq,true_and]
  congr 2
  omega
theorem ada{x y:bZ}(J:y.op.kind=x.op.kind)(ho:fV (cH y).pc=fV (cH x).pc):jn y=jn x:=by unfold jn;rw[J,ho]
theorem Cg{q:Q Sk}(h:bW q.pc=none):fV q.pc=none:=acP h
theorem PN{t:cP}{al:Nat}{x z:bZ}(T:t.ar[al]?=some x)(m:List Int)(st fu:Int)(wi ba:Bool)(w:Nat):lX ⟨m,st,t.ar.set al z,t.calls,fu,wi,ba⟩ w=told t w++(if w=al then jn z else Cp t.ar[w]?):=by
 unfold lX
 congr 1
 show Cp (t.ar.set al z)[w]?=_
 by_cases h:w=al
 ·subst h;rw[if_pos rfl,wn T];rfl
 ·rw[if_neg h,List.getElem?_set_ne (by omega)]
theorem X3{t:cP}{al:Nat}{x:bZ}(T:t.ar[al]?=some x):lX t al=told t al++jn x:=by unfold lX;rw[T];rfl
theorem vg{t:cP}{al:Nat}{x z:bZ}(T:t.ar[al]?=some x)(hp:jn z=jn x)(m:List Int)(st fu:Int)(wi ba:Bool)(w:Nat):lX ⟨m,st,t.ar.set al z,t.calls,fu,wi,ba⟩ w=lX t w:=by
 rw[PN T];unfold lX
 congr 1
 by_cases h:w=al
 ·subst h;rw[if_pos rfl,T];exact hp
 ·rw[if_neg h]
theorem Cq{x:bZ}(h:x.op.kind≠7\/fV (cH x).pc=none):jn x=[]:=by
 unfold jn;split
 ·rename_i h7;rcases h with h|h
  ·exact absurd h7 h
  ·rw[h]
 ·rfl
theorem afI{a:Int}{k:Nat}{x:Int}{xs:List Int}(h:kF a k=x::xs):∃j,k=j+1/\x=a/\xs=kF (a+1) j:=by
 cases k with
 |zero=>cases h
 |succ j=>rw[kF,List.cons.injEq] at h;exact⟨j,rfl,h.1.symm,h.2.symm⟩
theorem afM{W:List (List bl)}(hp:yl W){t:cP}{V:Vw}{g bF:ge}{r s:Nat}(hv:AV t g r s){al:Nat}(rV:al<3){x y z:bZ}{ws:List bl}(T:t.ar[al]?=some x)(hw:W[al]?=some ws)
 (jg:AT y.op)(BJ:1<=y.next/\ws[y.next-1]?=some y.op)(vn:lV x=y.next-1+hJ (cH y))(zd:jn x=jn y)
 (uv:z.op=y.op)(zs:z.next=y.next)(I:gO V y.op g bF (cH y) (cH z))(qc:∀a,bW (cH y).pc=some a->bW (cH z).pc=some a/\fV (cH z).pc=fV (cH y).pc)(h8:∀v u,(cH y).pc=.t1 (.tk v u)->(ae V.fr).idx≠0)(m:List Int)(st fu:Int)(wi ba:Bool):
 (∃mA aa,AV ⟨m,st,t.ar.set al z,t.calls,fu,wi,ba⟩ bF mA aa)/\lV z+hJ (cH y)=lV x+hJ (cH z)/\((∀v b e,fV (cH y).pc=some (v,b,e)->e=0)->∀v b e,fV (cH z).pc=some (v,b,e)->e=0):=by
 have aaP:y.op.kind≠0:=by rcases jg.1 with h|h<;>omega
 have Ln:lV z=y.next-1+hJ (cH z):=by unfold lV;rw[uv,zs,if_neg aaP]
 have KR:(y.op.kind=6/\al=0/\y.op.a=((y.next-1:Nat):Int))\/(y.op.kind=7/\1<=al):=by
  by_cases h0:al=0
  ·subst h0;obtain⟨A,F⟩:=hp.Ud ws hw _ _ BJ.2;exact .inl ⟨A,rfl,F⟩
  ·exact .inr ⟨hp.TM al ws (by omega) hw _ (List.mem_of_getElem? BJ.2),by omega⟩
 have same:hJ (cH z)=hJ (cH y)->fV (cH z).pc=fV (cH y).pc->jv bF=jv g->AV ⟨m,st,t.ar.set al z,t.calls,fu,wi,ba⟩ bF r s:=by
  intro e1 e2 e3;have ep:jn z=jn x:=by rw[zd];exact ada (by rw[uv]) e2
  refine⟨hv.le,λ ru eA=>?_,by rw[e3];exact hv.cont,λ w w1 w2=>by rw[vg T ep];exact hv.up w w1 w2,λ v=>by rw[vg T ep,vg T ep];exact hv.once v⟩;simp only at eA;rcases xY T eA with⟨rfl,rfl⟩|⟨_,h⟩
  ·rw[<-hv.xV x T,Ln,vn,e1]
  ·exact hv.xV ru h
 refine⟨?_,by rw[Ln,vn];omega,λ hz v b e ho=>?_⟩
 ·by_cases hq:bW (cH z).pc=none\/bW (cH y).pc≠none
  ·have e3:=I.quiet hq;have:hJ (cH z)=hJ (cH y)/\fV (cH z).pc=fV (cH y).pc:=by
    cases qb:bW (cH y).pc with
    |some a=>obtain⟨k1,k2⟩:=qc a qb;exact⟨by unfold hJ;rw[k1,qb],k2⟩
    |none=>have ur:=hq.resolve_right (λ h=>h qb);exact⟨by unfold hJ;rw[ur,qb],by rw[Cg ur,Cg qb]⟩
   exact⟨r,s,same this.1 this.2 e3⟩
  ·have ur:bW (cH z).pc≠none:=λ h=>hq (.inl h)
   have qb:bW (cH y).pc=none:=by
    cases h:bW (cH y).pc with
    |none=>rfl
    |some a=>exact absurd (.inr (by rw[h];simp)) hq
   obtain⟨v,b,e,ho,Kn⟩:=I.new qb ur;have K6:hJ (cH y)=0:=by unfold hJ;rw[qb];rfl
   have aah:hJ (cH z)=1:=by
    unfold hJ;cases h:bW (cH z).pc with
    |none=>exact absurd h ur
    |some a=>rfl
   have K8:jn x=[]:=by rw[zd];exact Cq (.inr (Cg qb))
   rcases Kn with⟨rfl,kQ⟩|⟨_,_,_,KK,ij,u,cT⟩
   ·unfold x5 at kQ;rcases KR with⟨h6,rfl,ha⟩|⟨h7,Ll⟩
    ·rw[if_pos h6] at kQ;have dR:jv g++[y.op.a]=jv bF:=(Prod.mk.inj kQ).1;have hs:=hv.xV x T;have ep:jn z=jn x:=by rw[K8];exact Cq (.inl (by rw[uv];omega))
     have iE:=hv.le;refine⟨r,s+1,⟨by omega,λ ru eA=>?_,?_,λ w w1 w2=>by rw[vg T ep];exact hv.up w w1 w2,λ v=>by rw[vg T ep,vg T ep];exact hv.once v⟩⟩
     ·simp only at eA;rw[wn T] at eA;cases eA;rw[Ln,aah,<-hs,vn,K6]
     ·rw[<-dR,hv.cont,show s+1-r=(s-r)+1 by omega,U6,ha]
      congr 2
      omega
    ·rw[if_neg (by omega)] at kQ;cases L:jv g with
     |nil=>
      rw[L] at kQ;have dR:[]=jv bF:=(Prod.mk.inj kQ).1;have Z:(0,false)=(v,b):=(Prod.mk.inj kQ).2;obtain⟨rfl,rfl⟩:=Prod.mk.inj Z;have ep:jn z=jn x:=by rw[K8];unfold jn;rw[ho];split<;>rfl
      refine⟨r,s,⟨hv.le,λ ru eA=>?_,by rw[<-dR,<-L];exact hv.cont,λ w w1 w2=>by rw[vg T ep];exact hv.up w w1 w2,λ v=>by rw[vg T ep,vg T ep];exact hv.once v⟩⟩;simp only at eA;rcases xY T eA with⟨h,_⟩|⟨_,h⟩
      ·omega
      ·exact hv.xV ru h
     |cons c cs=>
      rw[L] at kQ;have dR:cs=jv bF:=(Prod.mk.inj kQ).1;have Z:(c,true)=(v,b):=(Prod.mk.inj kQ).2;obtain⟨rfl,rfl⟩:=Prod.mk.inj Z;obtain⟨j,hj,rfl,cR⟩:=afI (hv.cont.symm.trans L);have hz:jn z=[(r:Int)]:=by unfold jn;rw[uv,if_pos h7,ho]
      have KH:∀w,lX ⟨m,st,t.ar.set al z,t.calls,fu,wi,ba⟩ w=if w=al then lX t w++[(r:Int)] else lX t w:=λ w=>by
       rw[PN T]
       by_cases h:w=al
       ·subst h;rw[if_pos rfl,if_pos rfl,X3 T,K8,hz,List.append_nil]
       ·rw[if_neg h,if_neg h];rfl
      refine⟨r+1,s,⟨by omega,λ ru eA=>?_,?_,λ w w1 w2=>?_,λ v=>?_⟩⟩
      ·simp only at eA;rcases xY T eA with⟨h,_⟩|⟨_,h⟩
       ·omega
       ·exact hv.xV ru h
      ·rw[<-dR,cR,show s-(r+1)=j by omega]
       rfl
      ·obtain⟨k1,k2⟩:=hv.up w w1 w2;rw[KH];split
       ·refine⟨?_,λ v xA=>?_⟩
        ·rw[List.pairwise_append];exact⟨k1,by simp,λ a ha b Z=>by rw[List.mem_singleton] at Z;have:=(k2 a ha).2;omega⟩
        ·rw[List.mem_append,List.mem_singleton] at xA;rcases xA with h|h
         ·have:=k2 v h;omega
         ·omega
       ·exact⟨k1,λ v xA=>by have:=k2 v xA;omega⟩
      ·have A:=hv.once v;have aaJ:al=1\/al=2:=by omega
       have Qk:[(r:Int)].count v=if v=r then 1 else 0:=by
        by_cases h:v=r
        ·subst h;simp
        ·rw[if_neg h,List.count_eq_zero];simp[h]
       rw[KH,KH];rcases aaJ with rfl|rfl
       ·rw[if_pos rfl,if_neg (by omega),List.count_append,Qk]
        by_cases h:v=r
        ·subst h;rw[if_neg (by omega)] at A;rw[if_pos rfl,if_pos (by omega)];omega
        ·rw[if_neg h]
         by_cases F:0<=v/\v<(r:Int)
         ·rw[if_pos F] at A;rw[if_pos (by omega)];omega
         ·rw[if_neg F] at A;rw[if_neg (by omega)];omega
       ·rw[if_pos rfl,if_neg (by omega),List.count_append,Qk]
        by_cases h:v=r
        ·subst h;rw[if_neg (by omega)] at A;rw[if_pos rfl,if_pos (by omega)];omega
        ·rw[if_neg h]
         by_cases F:0<=v/\v<(r:Int)
         ·rw[if_pos F] at A;rw[if_pos (by omega)];omega
         ·rw[if_neg F] at A;rw[if_neg (by omega)];omega
   ·exact absurd KK (h8 ij u cT)
 ·by_cases hq:bW (cH z).pc=none\/bW (cH y).pc≠none
  ·cases qb:bW (cH y).pc with
   |some a=>rw[(qc a qb).2] at ho;exact hz v b e ho
   |none=>have ur:=hq.resolve_right (λ h=>h qb);rw[Cg ur] at ho;cases ho
  ·have ur:bW (cH z).pc≠none:=λ h=>hq (.inl h)
   have qb:bW (cH y).pc=none:=by
    cases h:bW (cH y).pc with
    |none=>rfl
    |some a=>exact absurd (.inr (by rw[h];simp)) hq
   obtain⟨ij,bf,ab,hl,Kn⟩:=I.new qb ur;rw[ho] at hl;cases hl;rcases Kn with⟨h,_⟩|⟨_,_,_,KK,ij,u,cT⟩
   ·exact h
   ·exact absurd KK (h8 ij u cT)
theorem afN{t:cP}{g:ge}{r s:Nat}(hv:AV t g r s){al:Nat}{x:bZ}(T:t.ar[al]?=some x)(J:(x.op.kind=6/\al=0)\/(x.op.kind=7/\1<=al))(hn:1<=x.next){o:aY}(cT:(cH x).pc=.fin o){c:eO}(xi:c.al=(al:Int))(YP:c.val=o.val)(yV:c.is=o.is)(gone:List (Int×Int)):
 AV {t with ar:=t.ar.set al {x with op:=lE,gone:=gone},calls:=t.calls++[c]} g r s/\lV {x with op:=lE,gone:=gone}=lV x:=by
 have EA:x.op.kind≠0:=by rcases J with h|h<;>omega
 generalize hy:({x with op:=lE,gone:=gone}:bZ)=y;have zr:y.op.kind=0:=by rw[<-hy];rfl
 have vn:lV y=lV x:=by
  have A:hJ (cH x)=1:=by unfold hJ;rw[cT];rfl
  unfold lV;rw[if_pos zr,if_neg EA,A,<-hy];show x.next=_;omega
 have zd:jn y=[]:=Cq (.inl (by omega));have y1:∀w:Nat,1<=w->lX {t with ar:=t.ar.set al y,calls:=t.calls++[c]} w=lX t w:=by
  intro w Ll;have e1:told {t with ar:=t.ar.set al y,calls:=t.calls++[c]} w=told t w++(if c.al=(w:Int)/\c.is=true then[c.val] else[]):=by
   unfold told;rw[List.filter_append,List.map_append]
   congr 1
   by_cases h:c.al=(w:Int)/\c.is=true
   ·rw[if_pos h,List.filter_cons_of_pos (by simp[h.1,h.2])];rfl
   ·rw[if_neg h,List.filter_cons_of_neg (by simp only[Bool.and_eq_true,decide_eq_true_eq];exact h)];rfl
  unfold lX;rw[e1];show _++Cp (t.ar.set al y)[w]?=_
  by_cases h:w=al
  ·subst h;rw[wn T,T,show Cp (some y)=[] from zd,List.append_nil]
   congr 1
   show _=jn x;have h7:x.op.kind=7:=by rcases J with h|h<;>omega
   unfold jn;rw[if_pos h7,cT];simp only[fV];cases Z:o.is with
   |false=>rw[if_neg (by rw[yV,Z];simp)]
   |true=>rw[if_pos ⟨xi,by rw[yV,Z]⟩,YP]
  ·rw[List.getElem?_set_ne (by omega),if_neg (by rw[xi];omega),List.append_nil]
 refine⟨⟨hv.le,λ ru eA=>?_,hv.cont,λ w w1 w2=>by rw[y1 w w1];exact hv.up w w1 w2,λ v=>by rw[y1 1 (by omega),y1 2 (by omega)];exact hv.once v⟩,vn⟩;simp only at eA;rcases xY T eA with⟨rfl,rfl⟩|⟨_,h⟩
 ·rw[vn];exact hv.xV x T
 ·exact hv.xV ru h
theorem Nv(f:bZ->Nat):∀(am:List bZ)(B:List (List bl)),am.length=B.length->(∀(i:Nat)(x:bZ)(ws:List bl),am[i]?=some x->B[i]?=some ws->f x<=ws.length)->(am.map f).sum<=(B.map List.length).sum
 |[],[],_,_=>Nat.le_refl _
 |x::am,ws::B,U,h=>by
  have A:=h 0 x ws rfl rfl;have F:=Nv f am B (by simpa using U) (λ i y af5 hy hz=>h (i+1) y af5 (by simpa using hy) (by simpa using hz));simp only[List.map_cons,List.sum_cons] at F⊢;omega
 |[],_::_,U,_=>by simp at U
 |_::_,[],U,_=>by simp at U
section
variable{W:List (List bl)}(hp:yl W){n:Nat}{t:cP}{V:Vw}{aA X:List Int}{g:ge}(h:PG W n t V aA X g)
include hp h
theorem PG.ab6:(t.ar.map bZ.next).sum<=24:=Nat.le_trans (Nv _ _ _ (by rw[h.n3,hp.w3]) λ i x ws T hw=>(h.rd i x T).nx ws hw) hp.US
theorem PG.TS:g.ret<=4:=by
 have cz:gh 53 54 30 (2*n) V.W X (Dq jH (tw t.ar)) g:=h.inv.si;obtain⟨a,c,_,L,aht⟩:=cz.seq;have hX:1<=X.length:=by
  rcases X with _|⟨x,X⟩
  ·exact absurd rfl cz.ne
  ·simp
 have A:=h.put;have F:(t.ar.map lV).sum<=24:=Nat.le_trans (Nv _ _ _ (by rw[h.n3,hp.w3]) λ i x ws T hw=>by
  have O:=h.rd i x T;have h4:=O.nx ws hw;have:=adD (cH x);unfold lV;split
  ·exact h4
  ·rename_i J;have:=(O.op.resolve_left J).2.1;omega) hp.US
 omega
theorem PG.ae7:(ae V.fr).idx≠0:=by
 have A:=h.ab6 hp;have F:=h.mF;rw[h.inv.yE (by omega)];cases hF:aA with
 |nil=>rw[hF] at F;simp at F;omega
 |cons f d8=>have:=h.inv.zv (n:=f) (by rw[hF];simp);show f≠0;omega
end
def q8(V:Vw)(ws:List bl)(x:bZ):Nat:=(if x.op.kind=0 then 0 else nu 53 54 3 V (cH x)+1)+51*(ws.length-x.next)
theorem acr{V:Vw}(op:bl)(gone:List (Int×Int)):nu 53 54 3 V (i8 53 54 op gone)<=49:=by
 unfold i8;split
 ·have A:=EY (D:=53) (R:=54) (S:=3) (V:=V) (.sg op.a 0) 0 (.ob 54) ⟨0,gone,0,0,0⟩;have F:=JW (D:=53) (R:=54) (V:=V) op.a 0;omega
 ·have A:=HV (D:=53) (R:=54) (S:=3) (V:=V) ⟨0,gone,0,0,0⟩;omega
theorem aeS{av:Type}{l:List av}{w:Nat}{x:av}(h:l[w]?=some x):l.set w x=l:=by
 apply List.ext_getElem?;intro j;rw[List.getElem?_set];split
 ·rename_i e;subst e;rw[if_pos (List.getElem?_eq_some_iff.1 h).1,h]
 ·rfl
theorem T2{al:Nat}{x:bZ}(ho:AT x.op):pG ct al x.gone x.op x.log=sK mC ct al (cH x):=by
 have J:x.op.kind≠0:=by rcases ho.1 with h|h<;>omega
 have A:=EW (l:=ct) (S:=3) (G:=(al:Int)) rfl (gone:=x.gone) (op:=x.op) (log:=x.log) (by rw[ho.2.1,Jr];omega) ho.1;rw[ho.2.1,Jr,WV] at A;have F:pG ct al x.gone x.op x.log=dJ ct al x.gone x.op x.log:=by
  unfold pG;have:=ho.2.2;unfold oD at this;rcases ho.1 with h|h
  ·rw[if_neg (by omega),if_neg (by omega),if_pos (.inr ⟨h,this⟩)]
  ·rw[if_neg (by omega),if_neg (by omega),if_pos (.inl h)]
 rw[F,A];unfold cH;rw[if_neg J]
structure FN(W:List (List bl))(n:Nat)(t:cP)(V:Vw)(g:ge)(al:Nat)(ws:List bl)(x:bZ)(iJ:cP)(bt:Vw)(d8 dO:List Int)(bF:ge):Prop where
 pg:PG W (n+1) iJ bt d8 dO bF
 Mh:∀j,j≠al->iJ.ar[j]?=t.ar[j]?
 less:(iJ=t/\x.op.kind=0/\ws.length<=x.next)\/∃ru,iJ.ar[al]?=some ru/\q8 bt ws ru+160*(4-bF.ret)<q8 V ws x+160*(4-g.ret)
theorem Oo{W:List (List bl)}(hp:yl W){n:Nat}{t:cP}{V:Vw}{aA X:List Int}{g:ge}(h:PG W n t V aA X g)(hn:n<=40000){al:Nat}(rV:al<3){x y:bZ}{ws:List bl}(T:t.ar[al]?=some x)(hw:W[al]?=some ws)
 (jg:AT y.op)(cD:y.steps.length=y.log.length)(Hu:y.next<=ws.length)(BJ:1<=y.next/\ws[y.next-1]?=some y.op)(uc:(cH y).pc.pS)(fJ:g9 (cH y))(Es:kL y.op (cH y).pc)(xk:∀v b e,fV (cH y).pc=some (v,b,e)->e=0)
 (cB:Inv jH ct 3 30 (2*n+1) V ((tw t.ar).set al (cH y)) aA X g)(vn:lV x=y.next-1+hJ (cH y))(zd:jn x=jn y)(Ev:ig (cH y).pc+x.next<=uI x+y.next)(K2:nu 53 54 3 V (cH y)+1+51*(ws.length-y.next)<=q8 V ws x):
 ∃bt d8 dO bF,FN W n t V g al ws x (lH ct t al y) bt d8 dO bF:=by
 have hL:=LD;have xq:y.op.kind≠0:=by rcases jg.1 with h|h<;>omega
 have xz:=MA T;have vJ:((tw t.ar).set al (cH y))[al]?=some (cH y):=wn xz;have BN:pG ct al y.gone y.op y.log=sK mC ct al (cH y):=T2 jg;have Q6:=ack h.view cB vJ uc;generalize BL:cH y=q at vJ BN Q6 uc cB fJ Es xk vn K2 Ev;have he:sK mC ct al q=(yq al q,mw,false):=by
  unfold sK;split
  ·rename_i o h;rw[h] at uc;exact absurd uc id
  ·rfl
 have agW:=cB.er;have Ki:=VR hL h.view (a:=cf mC al q.pc) ⟨by omega,by omega⟩ (OC tC cB vJ uc);generalize hz:({y with log:=y.log++[(uU al V q).2],steps:=y.steps++[t.step]}:bZ)=z;have KZ:lH ct t al y=⟨(ii t.m (yq al q)).1,t.step+1,t.ar.set al z,t.calls,t.full,t.cO,t.bad⟩:=by rw[<-hz];unfold lH;simp only[BN,he,Bool.false_eq_true,if_false,Ki.fault,if_true,Ki.res,Q6,Bool.or_false]
 have uv:z.op=y.op:=by rw[<-hz]
 have zs:z.next=y.next:=by rw[<-hz]
 have zt:cH z=tell mC 3 q (uU al V q).2:=by rw[<-hz,<-BL];unfold cH;simp only[xq,if_false];rw[aeA]
 rw[KZ];have F:=RK tC (by omega) (by omega) cB vJ uc;rw[List.set_set] at F;have I:=aeJ (by omega) cB vJ uc fJ Es;obtain⟨r,s,hv⟩:=h.val;have bm:tG (ii t.m (yq al q)).1:=WO cB (by omega) h.view vJ (aeL cB vJ) h.lt;have zh:∀v m u,q.pc=.at_ (.sa v m u)->m≠0:=λ v m u e=>by
  have cT:=(cB.loc al q vJ).pc;rw[e] at cT;have J:qo 53 54 30 V.W (Pr jH V X _ al q.s) (.sa v m u):=cT.1;have:=J.2.2.2.1;omega
 have aac:=adR (D:=53) (R:=54) (S:=3) (V:=V) (aA:=aA) (w:=al) fJ uc zh;have zb:=adP (D:=53) (R:=54) (S:=3) (N:=30) (V:=V) (X:=X) (g:=g) (w:=(al:Int)) uc;have YR:=aco Ii (by omega) (by omega) (by omega) cB vJ uc fJ;obtain⟨BQ,Rr,Rs⟩:=afM hp (V:=V) (bF:=(iN jH V.W X g q.pc).2) hv rV T hw jg BJ (by rw[BL];exact vn) zd uv zs (by rw[BL,zt];exact I) (λ a ha=>by rw[BL] at ha;rw[zt,BL];exact To ha) (λ _ _ _=>h.ae7 hp) (ii t.m (yq al q)).1 (t.step+1) t.full t.cO t.bad;rw[BL] at Rr Rs;have RB:z.op.kind≠0:=by rw[uv];exact xq
 have aav:=Ca (y:=z) uI T;have aaw:=Ca (y:=z) bZ.next T;have aax:=Ca (y:=z) lV T;have ur:uI z=ig (tell mC 3 q (uU al V q).2).pc:=by unfold uI;rw[if_neg RB,zt]
 have DW:=h.mF;have aho:=h.put;have Rg:PG W (n+1) ⟨(ii t.m (yq al q)).1,t.step+1,t.ar.set al z,t.calls,t.full,t.cO,t.bad⟩ (uU al V q).1 (oT V aA q.pc) (iN jH V.W X g q.pc).1 (iN jH V.W X g q.pc).2:=by
  refine⟨by rw[List.length_set];exact h.n3,Ki.view,?_,λ w af4 Hv=>?_,h.bad,h.cO,?_,?_,bm,BQ⟩
  ·rw[TA,zt,show 2*(n+1)=2*n+1+1 by omega];exact F
  ·simp only at Hv;rcases xY T Hv with⟨rfl,rfl⟩|⟨_,Hv⟩
   ·refine⟨.inr ⟨by rw[uv];exact jg,by rw[zs];exact BJ.1,λ NT qY=>?_⟩,λ NT qY=>?_,by rw[<-hz];simp[cD],λ _=>?_,λ _=>Rs xk⟩
    ·rw[hw] at qY;cases qY;rw[zs,uv];exact BJ.2
    ·rw[hw] at qY;cases qY;rw[zs];exact Hu
    ·rw[zt,uv];exact⟨ae1 fJ,acH fJ Es⟩
   ·exact h.rd w af4 Hv
  ·simp only;have h9:aA.length+ig (tell mC 3 q (uU al V q).2).pc<=(oT V aA q.pc).length+ig q.pc:=aac;omega
  ·simp only;have h9:(iN jH V.W X g q.pc).2.put+hJ q<=g.put+hJ (tell mC 3 q (uU al V q).2):=zb;rw[zt] at Rr;omega
 refine⟨_,_,_,_,Rg,λ j hj=>List.getElem?_set_ne (by omega),.inr ⟨z,wn T,?_⟩⟩;have h4:=Rg.TS hp;have h5:nu 53 54 3 (uU al V q).1 (cH z)+160*g.ret<nu 53 54 3 V q+160*(iN jH V.W X g q.pc).2.ret:=by rw[zt];exact YR
 have h6:q8 (uU al V q).1 ws z=nu 53 54 3 (uU al V q).1 (cH z)+1+51*(ws.length-y.next):=by unfold q8;rw[if_neg RB,zs]
 have h7:=h.TS hp;rw[h6];omega
theorem PG.UV{W:List (List bl)}(hp:yl W){n:Nat}{t:cP}{V:Vw}{aA X:List Int}{g:ge}(h:PG W n t V aA X g)(hn:n<=40000){al:Nat}(rV:al<3){x:bZ}{ws:List bl}(T:t.ar[al]?=some x)(hw:W[al]?=some ws):
 ∃bt d8 dO bF,FN W n t V g al ws x (lI ct W t al) bt d8 dO bF:=by
 rw[UX ct W t al T hw];have vO:=h.rd al x T;have xz:=MA T
 by_cases h0:x.op.kind=0
 ·cases ho:ws[x.next]? with
  |none=>
   have L:tQ ws x=none:=by unfold tQ;rw[if_pos h0,ho];rfl
   rw[L];refine⟨V,aA,X,g,⟨h.n3,h.view,?_,h.rd,h.bad,h.cO,h.mF,h.put,h.lt,h.val⟩,λ j _=>rfl,.inl ⟨rfl,h0,List.getElem?_eq_none_iff.1 ho⟩⟩;have:=(h.inv.mono tC).mono tC;rw[show 2*(n+1)=2*n+1+1 by omega];exact this
  |some op=>
   have L:tQ ws x=some ⟨op,[],[],x.next+1,x.gone⟩:=by unfold tQ;rw[if_pos h0,ho];rfl
   rw[L];have jg:=hp.ops ws (List.mem_of_getElem? hw) op (List.mem_of_getElem? ho);have xq:op.kind≠0:=by rcases jg.1 with h|h<;>omega
   have bm:=(List.getElem?_eq_some_iff.1 ho).1;obtain⟨eK,e1,e2,e3⟩:=UD jg x.gone;have vH:cH ⟨op,[],[],x.next+1,x.gone⟩=i8 53 54 op x.gone:=by
    unfold cH;simp only[xq,if_false]
    rfl
   obtain⟨k1,_,k3⟩:=afi 53 54 op x.gone;have G5:cH x=xC x.gone:=by unfold cH;rw[if_pos h0]
   have K6:hJ (i8 53 54 op x.gone)=0:=by unfold hJ;rw[k3];rfl
   have cF:=acr (V:=V) op x.gone;refine Oo hp h hn rV T hw jg rfl bm ⟨by simp,by simpa using ho⟩ ?_ ?_ ?_ ?_ ?_ ?_ ?_ ?_ ?_
   ·rw[vH,e1];exact e3
   ·rw[vH];exact k1
   ·rw[vH];exact acG op x.gone jg.1
   ·rw[vH,Cg k3];intro v b e he;cases he
   ·rw[vH,e1];rw[G5] at xz;exact RL h.inv xz e2
   ·rw[vH,K6];unfold lV;rw[if_pos h0];show x.next=x.next+1-1+0;omega
   ·rw[Cq (.inl (by omega)),Cq (.inr (by rw[vH];exact Cg k3))]
   ·rw[vH];unfold uI;rw[if_pos h0];have:ig (i8 53 54 op x.gone).pc<=1:=by
     unfold i8;split
     ·exact Nat.le_refl _
     ·exact Nat.zero_le _
    show _+x.next<=0+(x.next+1);omega
   ·rw[vH];unfold q8;rw[if_pos h0];show _+1+51*(ws.length-(x.next+1))<=0+51*(ws.length-x.next);omega
 ·have L:tQ ws x=some x:=by unfold tQ;rw[if_neg h0]
  rw[L];show∃bt d8 dO bF,FN W n t V g al ws x (lH ct t al x) bt d8 dO bF;obtain⟨jg,gp,Ej⟩:=vO.op.resolve_left h0
  replace Ej:=Ej ws hw
  obtain⟨fJ,Es⟩:=vO.sh h0;have YY:lV x=x.next-1+hJ (cH x):=by unfold lV;rw[if_neg h0]
  by_cases hf:∃o,(cH x).pc=.fin o
  ·obtain⟨o,cT⟩:=hf;have BN:=T2 (al:=al) jg;have BH:x.log≠[]:=λ U=>by
    obtain⟨eK,e1,_,e3⟩:=UD jg x.gone;unfold cH at cT;rw[if_neg h0,U,show oo mC 3 (i8 53 54 x.op x.gone) []=i8 53 54 x.op x.gone from rfl,e1] at cT;simp only at cT;rw[cT] at e3;exact e3
   have he:sK mC ct al (cH x)=(eZ,{o with gone:=(cH x).s.gone},true):=by unfold sK;rw[cT]
   have yY:o.err=0:=vO.err h0 o.val o.is o.err (by rw[cT];rfl);have jD:¬x.steps.length=0:=by
    have A:=vO.len;have F:x.log.length≠0:=λ h=>BH (List.length_eq_zero_iff.1 h)
    omega
   obtain⟨c,KZ,c1,c2,c3⟩:∃c:eO,lH ct t al x={t with ar:=t.ar.set al {x with op:=lE,gone:=(cH x).s.gone},calls:=t.calls++[c]}/\c.al=(al:Int)/\c.val=o.val/\c.is=o.is:=by unfold lH;simp only[BN,he,if_true];unfold p4;simp only;rw[if_neg (by omega),if_neg (by rintro(h|h);exact h yY;exact jD h)];exact⟨_,rfl,rfl,rfl,rfl⟩
   rw[KZ];have KR:(x.op.kind=6/\al=0)\/(x.op.kind=7/\1<=al):=by
    by_cases aaI:al=0
    ·subst aaI;exact .inl ⟨(hp.Ud ws hw _ _ Ej).1,rfl⟩
    ·exact .inr ⟨hp.TM al ws (by omega) hw _ (List.mem_of_getElem? Ej),by omega⟩
   obtain⟨r,s,hv⟩:=h.val;obtain⟨v1,v2⟩:=afN hv T KR gp cT c1 c2 c3 (cH x).s.gone;generalize hy:({x with op:=lE,gone:=(cH x).s.gone}:bZ)=y at v1 v2⊢;have zr:y.op.kind=0:=by rw[<-hy];rfl
   have Hu:y.next=x.next:=by rw[<-hy]
   have aaQ:cH y=xC (cH x).s.gone:=by rw[<-hy];rfl
   have aav:=Ca (y:=y) uI T;have aaw:=Ca (y:=y) bZ.next T;have aax:=Ca (y:=y) lV T;have zd:uI y=0:=by unfold uI;rw[if_pos zr]
   have DW:=h.mF;have zb:=h.put;refine⟨V,aA,X,g,⟨by simp[h.n3],h.view,?_,λ w z hz=>?_,h.bad,h.cO,?_,?_,h.lt,⟨r,s,v1⟩⟩,λ j hj=>List.getElem?_set_ne (by omega),.inr ⟨y,wn T,?_⟩⟩
   ·simp only;rw[TA,aaQ,show 2*(n+1)=2*n+1+1 by omega];generalize cH x=q at xz cT;obtain⟨pc,ahS⟩:=q;simp only at cT;subst cT;exact(RL h.inv xz (.inr (.inr ⟨_,rfl⟩))).mono tC
   ·simp only at hz;rcases xY T hz with⟨rfl,rfl⟩|⟨_,hz⟩
    ·exact⟨.inl zr,λ NT qY=>by rw[Hu];exact vO.nx NT qY,by rw[<-hy];exact vO.len,λ h=>absurd zr h,λ h=>absurd zr h⟩
    ·exact h.rd w z hz
   ·simp only;omega
   ·simp only;omega
   ·unfold q8;rw[if_pos zr,if_neg h0,Hu];omega
  ·refine Oo hp h hn rV T hw jg vO.len (vO.nx ws hw) ⟨gp,Ej⟩ (abx (h.inv.loc al _ xz).pc λ o h=>hf ⟨o,h⟩) fJ Es (vO.err h0) ?_ YY rfl (by unfold uI;rw[if_neg h0];omega) (by unfold q8;rw[if_neg h0];omega);rw[aeS xz];exact h.inv.mono tC
section
variable{W:List (List bl)}(hp:yl W)
include hp
theorem PG.go{n:Nat}{t:cP}{V:Vw}{aA X:List Int}{g:ge}(h:PG W n t V aA X g)(hn:n<=40000){al:Nat}(hw:al<3):∃(x:bZ)(ws:List bl)(bt:Vw)(d8 dO:List Int)(bF:ge),t.ar[al]?=some x/\W[al]?=some ws/\FN W n t V g al ws x (lI ct W t al) bt d8 dO bF:=by have T:t.ar[al]?=some (t.ar[al]'(by have:=h.n3;omega)):=List.getElem?_eq_getElem _;have jj:W[al]?=some (W[al]'(by have:=hp.w3;omega)):=List.getElem?_eq_getElem _;obtain⟨bt,d8,dO,bF,A⟩:=h.UV hp hn hw T jj;exact⟨_,_,bt,d8,dO,bF,T,jj,A⟩
theorem PG.turns:∀(ws:List Nat)(n:Nat)(t:cP)(V:Vw)(aA X:List Int)(g:ge),PG W n t V aA X g->n+ws.length<=40000->(∀w∈ws,w<3)->∃bt d8 dO bF,PG W (n+ws.length) (qm ct W t ws) bt d8 dO bF
 |[],n,t,V,aA,X,g,h,_,_=>⟨V,aA,X,g,h⟩
 |w::ws,n,t,V,aA,X,g,h,hn,hw=>by
  simp only[List.length_cons] at hn;obtain⟨_,_,V1,F1,X1,g1,_,_,A⟩:=h.go hp (by omega) (hw w (by simp));obtain⟨V2,F2,X2,g2,F⟩:=PG.turns ws (n+1) _ V1 F1 X1 g1 A.pg (by omega) (λ aM aaH=>hw aM (by simp[aaH]));exact⟨V2,F2,X2,g2,by rw[List.length_cons,show n+(ws.length+1)=n+1+ws.length by omega];exact F⟩
omit hp in
theorem PG.RZ{n:Nat}{t:cP}{V:Vw}{aA X:List Int}{g:ge}(h:PG W n t V aA X g):∀k,PG W (n+k) t V aA X g
 |0=>h
 |k+1=>by
  have A:=PG.RZ h k;refine⟨A.n3,A.view,?_,A.rd,A.bad,A.cO,A.mF,A.put,A.lt,A.val⟩;have:=(A.inv.mono tC).mono tC;rw[show 2*(n+(k+1))=2*(n+k)+1+1 by omega];exact this
omit hp in
theorem afB{t:cP}{al:Nat}{x:bZ}{ws:List bl}(T:t.ar[al]?=some x)(hw:W[al]?=some ws)(h0:x.op.kind=0)(U:ws.length<=x.next):lI ct W t al=t:=by
 rw[UX ct W t al T hw];have L:tQ ws x=none:=by unfold tQ;rw[if_pos h0,List.getElem?_eq_none_iff.2 U];rfl
 rw[L]
omit hp in
theorem Ou{t:cP}{al:Nat}{x:bZ}{ws:List bl}(T:t.ar[al]?=some x)(hw:W[al]?=some ws)(h0:x.op.kind=0)(U:ws.length<=x.next):∀k,jY ct W al k t=t
 |0=>rfl
 |k+1=>by
  rw[jY];split
  ·rfl
  ·rw[afB T hw h0 U];exact Ou T hw h0 U k
omit hp in
theorem Pf{t:cP}{al:Nat}{x:bZ}{ws:List bl}(T:t.ar[al]?=some x)(hw:W[al]?=some ws)(h0:x.op.kind=0)(U:ws.length<=x.next):p3 t W al=true:=by unfold p3;simp only[T,hw,h0,decide_true,Bool.true_and,decide_eq_true_eq];exact U
theorem PG.alone{al:Nat}(rV:al<3){ws:List bl}(hw:W[al]?=some ws):∀(k n:Nat)(t:cP)(V:Vw)(aA X:List Int)(g:ge)(x:bZ),PG W n t V aA X g->n+k<=40000->t.ar[al]?=some x->q8 V ws x+160*(4-g.ret)<=k->
 ∃bt d8 dO bF,PG W (n+k) (jY ct W al k t) bt d8 dO bF/\p3 (jY ct W al k t) W al=true/\∀j,j≠al->(jY ct W al k t).ar[j]?=t.ar[j]?:=by
 intro k;induction k with
 |zero=>
  intro n t V aA X g x h hn T K2;have K3:q8 V ws x=0:=by omega
  unfold q8 at K3
  by_cases h0:x.op.kind=0
  ·rw[if_pos h0] at K3;exact⟨V,aA,X,g,h,Pf T hw h0 (by omega),λ j _=>rfl⟩
  ·rw[if_neg h0] at K3;omega
 |succ k ih=>
  intro n t V aA X g x h hn T K2
  by_cases p7:x.op.kind=0/\ws.length<=x.next
  ·rw[Ou T hw p7.1 p7.2];exact⟨V,aA,X,g,h.RZ _,Pf T hw p7.1 p7.2,λ j _=>rfl⟩
  ·rw[jY,if_neg (by rw[h.bad];simp)];obtain⟨V1,F1,X1,g1,A⟩:=h.UV hp (by omega) rV T hw;rcases A.less with⟨_,h0,iE⟩|⟨ru,eA,bm⟩
   ·exact absurd ⟨h0,iE⟩ p7
   ·obtain⟨V2,F2,X2,g2,k1,k2,k3⟩:=ih (n+1) _ V1 F1 X1 g1 ru A.pg (by omega) eA (by omega);exact⟨V2,F2,X2,g2,by rw[show n+(k+1)=n+1+k by omega];exact k1,k2,λ j hj=>(k3 j hj).trans (A.Mh j hj)⟩
theorem adc{n:Nat}{t:cP}{V:Vw}{aA X:List Int}{g:ge}(h:PG W n t V aA X g){al:Nat}{x:bZ}{ws:List bl}(T:t.ar[al]?=some x)(hw:W[al]?=some ws):q8 V ws x+160*(4-g.ret)<=1500:=by
 have A:=hp.len ws (List.mem_of_getElem? hw);unfold q8
 by_cases h0:x.op.kind=0
 ·rw[if_pos h0];omega
 ·rw[if_neg h0];have F:=acq (by omega) (by omega) h.inv (MA T) ((h.rd al x T).sh h0).1;omega
omit hp in
theorem Xj{t iJ:cP}{j:Nat}(h:iJ.ar[j]?=t.ar[j]?):p3 iJ W j=p3 t W j:=by unfold p3;rw[h]
theorem PG.rest:∀(k al n:Nat)(t:cP)(V:Vw)(aA X:List Int)(g:ge),PG W n t V aA X g->n+k*1500<=40000->al+k=3->(∀j,j<al->p3 t W j=true)->
 ∃fU bt d8 dO bF,PG W fU (ql ct W al k t) bt d8 dO bF/\∀j,j<3->p3 (ql ct W al k t) W j=true
 |0,al,n,t,V,aA,X,g,h,_,J,D=>⟨n,V,aA,X,g,h,λ j hj=>D j (by omega)⟩
 |k+1,al,n,t,V,aA,X,g,h,hn,J,D=>by
  have rV:al<3:=by omega
  have T:t.ar[al]?=some (t.ar[al]'(by have:=h.n3;omega)):=List.getElem?_eq_getElem _;have jj:W[al]?=some (W[al]'(by have:=hp.w3;omega)):=List.getElem?_eq_getElem _;obtain⟨V1,F1,X1,g1,k1,k2,k3⟩:=PG.alone hp rV jj 1500 n t V aA X g _ h (by omega) T (adc hp h T jj);have e:({jY ct W al 1500 t with bad:=(jY ct W al 1500 t).bad||!p3 (jY ct W al 1500 t) W al}:cP)=jY ct W al 1500 t:=by have Z:=k1.bad;rw[k2];generalize jY ct W al 1500 t=t1 at Z;cases t1;simp only at Z;simp[Z]
  have er:ql ct W al (k+1) t=ql ct W (al+1) k (jY ct W al 1500 t):=by show ql ct W (al+1) k ({jY ct W al 1500 t with bad:=(jY ct W al 1500 t).bad||!p3 (jY ct W al 1500 t) W al}:cP)=_;rw[e]
  rw[er];exact PG.rest k (al+1) (n+1500) (jY ct W al 1500 t) V1 F1 X1 g1 k1 (by omega) (by omega) (λ j hj=>by
   by_cases QP:j=al
   ·subst QP;exact k2
   ·rw[Xj (k3 j QP)];exact D j (by omega))
end
theorem UH:∀{l:List Nat},(∀y∈l,y=0)->l.sum=0
 |[],_=>rfl
 |y::l,h=>by rw[List.sum_cons,h y (by simp),UH λ z hz=>h z (by simp[hz])]
theorem NN:∀(k:Nat)(a:Int),(kF a k).length=k
 |0,_=>rfl
 |k+1,a=>by rw[kF,List.length_cons,NN k]
theorem WA:qj ct 3=⟨tO,0,List.replicate 3 mn,[],0,false,false⟩:=rfl
theorem adb{W:List (List bl)}:PG W 0 (qj ct 3) u0 (kF 5 26) [3] g0:=by
 obtain⟨v1,v2,v3,v4⟩:=WW;have Kg:∀c,u0.W.ob c=dp tO c:=λ c=>rfl
 rw[WA];generalize tO=m at v1 v2 v3 v4 Kg;have Ld:∀(w:Nat)(x:bZ),(List.replicate 3 mn)[w]?=some x->x=mn:=λ w x T=>by
  rw[List.getElem?_replicate] at T;split at T
  ·cases T;rfl
  ·cases T
 have xy:tw (List.replicate 3 mn)=List.replicate 3 (xC []):=by
  unfold tw;rw[List.map_replicate]
  rfl
 have d6:∀(w:Nat)(q:Q Sk),(List.replicate 3 (xC []))[w]?=some q->q=xC []:=λ w q hq=>by
  rw[List.getElem?_replicate] at hq;split at hq
  ·cases hq;rfl
  ·cases hq
 have l5:∀n,sd jH (List.replicate 3 (xC [])) n=0:=λ n=>by
  unfold sd;rw[List.map_replicate];exact UH λ y hy=>by rw[List.mem_replicate] at hy;rw[hy.2];rfl
 have hD:∀n,¬Dq jH (List.replicate 3 (xC [])) n:=λ n⟨j,q,hq,hn⟩=>by
  rw[d6 j q hq] at hn;cases hn
 refine⟨by simp,v1,?_,λ w x T=>?_,rfl,rfl,?_,Nat.zero_le _,v2,⟨0,0,Nat.le_refl _,λ x T=>?_,rfl,λ w w1 w2=>?_,λ v=>?_⟩⟩
 ·simp only;rw[xy];refine⟨by simp,rfl,⟨by decide,by decide⟩,⟨by decide,by decide⟩,U7 26 5 (by omega) (by omega),λ n=>?_,λ n n0 n1=>?_,⟨?_,Nat.zero_le _,⟨0,3,rfl,by simp,?_⟩,⟨rfl,trivial⟩,⟨0,5,rfl,by omega,rfl⟩,λ v hv=>(by cases hv),λ n hn=>absurd hn (hD n),λ n hn=>by rw[List.mem_singleton] at hn;omega⟩,λ w q hq=>?_⟩
  ·rw[l5,NM];have:[(3:Int)].count n=if n=3 then 1 else 0:=by
    by_cases h:n=3
    ·subst h;simp
    ·rw[if_neg h,List.count_eq_zero];simp[h]
   rw[this]
   by_cases h:n=3
   ·rw[if_pos h,if_neg (by omega)];exact⟨by omega,λ _=>by omega⟩
   ·rw[if_neg h]
    by_cases F:5<=n/\n<5+((26:Nat):Int)
    ·rw[if_pos F];exact⟨by omega,λ _=>by omega⟩
    ·rw[if_neg F];exact⟨by omega,λ h=>by omega⟩
  ·show(if n<=2 then(1:Int) else 0)<=1;split<;>omega
  ·rw[Kg,v3];rfl
  ·rw[Kg,v4];rfl
  ·rw[d6 w q hq];have e0:∀i:Int,(⟨0,[],0,0,0⟩:af).e i=0:=λ i=>by
    unfold af.e;split
    ·rfl
    ·split<;>rfl
   refine⟨λ i _ _=>?_,λ i=>?_,⟨rfl,rfl,rfl⟩⟩
   ·show(0:Int)=_;exact(e0 i).symm
   ·show 0<=(⟨0,[],0,0,0⟩:af).e i/\(⟨0,[],0,0,0⟩:af).e i<=1;rw[e0];omega
 ·rw[Ld w x T];exact⟨.inl rfl,λ _ _=>Nat.zero_le _,rfl,λ h=>absurd rfl h,λ h=>absurd rfl h⟩
 ·rw[NN];exact Nat.le_refl _
 ·rw[Ld 0 x T];rfl
 ·have:lX ⟨m,0,List.replicate 3 mn,[],0,false,false⟩ w=[]:=by
   unfold lX;show[]++Cp (List.replicate 3 mn)[w]?=[];rcases hz:(List.replicate 3 mn)[w]? with _|x
   ·rfl
   ·rw[Ld w x hz];rfl
  rw[this];exact⟨List.Pairwise.nil,λ v hv=>by cases hv⟩
 ·rw[if_neg (by omega)]
  rfl
structure Vi(ak:Nat)(t:cP):Prop where
 bad:t.bad=false
 cO:t.cO=false
 lt:tG t.m
 afL:∃r:Nat,r<=ak/\nJ ct t.m 0=kF r (ak-r)/\(∀w:Nat,1<=w->w<=2->(told t w).Pairwise (·<·)/\∀v∈told t w,0<=v/\v<(r:Int))/\∀v:Int,(told t 1).count v+(told t 2).count v=if 0<=v/\v<(r:Int) then 1 else 0
theorem ado{W:List (List bl)}(hp:yl W){ws:List bl}(jj:W[0]?=some ws){turns:List Int}(ht:turns.length<=300):Vi ws.length (uE ct W turns):=by
 obtain⟨V1,F1,X1,g1,A⟩:=PG.turns hp (turns.map λ x=>(x%(3:Int)).toNat) 0 _ _ _ _ _ adb (by rw[List.length_map];omega) (λ w hw=>by
  obtain⟨x,_,rfl⟩:=List.mem_map.1 hw;have:=Int.emod_nonneg x (show(3:Int)≠0 by omega);have:=Int.emod_lt_of_pos x (show(0:Int)<3 by omega);omega)
 rw[List.length_map] at A;obtain⟨n2,V2,F2,X2,g2,F,O⟩:=PG.rest hp 3 0 _ _ V1 F1 X1 g1 A (by omega) (by omega) (λ j hj=>by omega);have e:uE ct W turns=ql ct W 0 3 (qm ct W (qj ct 3) (turns.map λ x=>(x%(3:Int)).toNat)):=by
  unfold uE;rw[hp.w3]
  rfl
 rw[e];generalize ql ct W 0 3 (qm ct W (qj ct 3) (turns.map λ x=>(x%(3:Int)).toNat))=t at F O;have G5:∀(w:Nat)(x:bZ),t.ar[w]?=some x->x.op.kind=0/\∀us,W[w]?=some us->us.length<=x.next:=λ w x T=>by
  have rV:=(List.getElem?_eq_some_iff.1 T).1;have hn:=F.n3;have D:=O w (by omega);unfold p3 at D;rw[T,List.getElem?_eq_getElem (show w<W.length by have:=hp.w3;omega)] at D;simp only[Bool.and_eq_true,decide_eq_true_eq] at D;exact⟨D.1,λ us Hq=>by rw[List.getElem?_eq_getElem (show w<W.length by have:=hp.w3;omega)] at Hq;cases Hq;exact D.2⟩
 obtain⟨r,s,hv⟩:=F.val;have EA:t.ar[0]?=some (t.ar[0]'(by have:=F.n3;omega)):=List.getElem?_eq_getElem _;have hs:s=ws.length:=by have h4:=hv.xV _ EA;obtain⟨h5,h6⟩:=G5 0 _ EA;have h7:=h6 ws jj;have h8:=(F.rd 0 _ EA).nx ws jj;unfold lV at h4;rw[if_pos h5] at h4;omega
 have y1:∀w,lX t w=told t w:=λ w=>by
  unfold lX;rcases hz:t.ar[w]? with _|x
  ·exact List.append_nil _
  ·have:=(G5 w x hz).1;show _++jn x=_;rw[Cq (.inl (by omega)),List.append_nil]
 refine⟨F.bad,F.cO,F.lt,r,by have:=hv.le;omega,?_,λ w w1 w2=>by rw[<-y1];exact hv.up w w1 w2,λ v=>by rw[<-y1,<-y1];exact hv.once v⟩;rw[aey LD Ii Jr (by omega) F.view F.inv,<-hs];exact hv.cont
end Go.Proofs.YtcnefjfboagbmaaGreat.Sg
