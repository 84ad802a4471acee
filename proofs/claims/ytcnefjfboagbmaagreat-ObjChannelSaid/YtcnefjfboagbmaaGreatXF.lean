/- What a map has, in any memory: its walk. -/
import Derived.Test.YtcnefjfboagbmaaGreatXE
import Derived.Test.YtcnefjfboagbmaaGreatWC
import Derived.Test.YtcnefjfboagbmaaGreatPA
import Derived.Test.YtcnefjfboagbmaaGreatWE
import Derived.Test.YtcnefjfboagbmaaGreatXA
import Derived.Test.YtcnefjfboagbmaaGreatXC
namespace Go.Proofs.YtcnefjfboagbmaaGreat
open Go.Proofs.Tryz
open Go.RowKit
set_option maxRecDepth 100000
section
variable{P:Program}{ap:Nat->Option TI}{Γ:bN}{M:St}
theorem FB(nm j g el sz:Nat){n:Nat}{ps:List Pl}{cs aS:List K}(Z:kv M.b nm=some cs)(hj:cs[j]?=some (.p (.sl true n ps)))(hs:cs.set j (.aW g n ps)=aS)(hg:kv M.g g=none)(U:ps.length=n*sz):bY Γ M ⟨M.s,(nm,aS)::M.b,(g,⟨el,sz,n⟩)::M.g⟩:=by
 subst hs;intro a e L;have fH:e.gi g=none:=by rw[L.gs];exact hg
 have qV:∀k,e.gr k≠some g:=λ k J=>by obtain⟨au,_,h,_⟩:=L.env.gr k g J;rw[fH] at h;cases h
 have I:Ends e {e with gi:=λ h=>if h=g then some ⟨el,sz,n⟩ else e.gi h}:=
  ⟨λ _ _ _ A F=>⟨A,F⟩,λ _ _ h=>h,λ bF au h=>⟨au,by show(if bF=g then _ else e.gi bF)=_;rw[if_neg (λ ab=>by rw[ab,fH] at h;cases h)];exact h,rfl,rfl,Nat.le_refl _⟩,λ _ _ _ cur A _ O=>⟨A,cur,O,rfl⟩⟩
 refine⟨{e with gi:=λ h=>if h=g then some ⟨el,sz,n⟩ else e.gi h},rfl,L.size,L.df,λ u d hu=>(L.bU u d hu).next I,λ b cs ud=>?_,λ u hu=>?_,λ h=>?_,L.env.kept,L.env.cl,L.env.bx,L.env.inj,λ k bF J=>?_,L.env.kb⟩
 ·simp only[da] at ud;split at ud
  ·rename_i l6;subst l6;cases ud;obtain⟨k,vs,qE,A,F,O⟩:=L.boxes _ _ Z;refine⟨k,vs,qE,A,F,by rw[List.length_set];exact O.1,λ i v d hv D=>?_⟩;rw[List.getElem?_set] at D;split at D
   ·rename_i kq;subst kq;split at D
    ·cases D;have h4:=O.2 _ v _ hv hj;cases h4 with
     |p A=>have F:=(A.next I).low;obtain⟨am,bS,rfl,O,h4,h5,h6,h7⟩:=rf A;exact .aW F ⟨⟨el,sz,n⟩,am,bS,by simp,rfl,Nat.le_refl _,U,.inl (h6 rfl)⟩
    ·cases D
   ·exact(O.2 i v d hv D).next I
  ·exact(L.boxes b cs ud).ends I rfl
 ·simp only[da] at hu;split at hu
  ·cases hu
  ·exact L.eE u hu
 ·show(if h=g then _ else e.gi h)=_;simp only[da]
  by_cases e1:h=g
  ·subst e1;simp
  ·rw[if_neg e1,if_neg (λ ab=>e1 ab.symm)];exact L.gs h
 ·obtain⟨au,cur,A,F⟩:=L.env.gr k bF J;exact⟨au,cur,by show(if bF=g then _ else e.gi bF)=_;rw[if_neg (λ ab=>qV k (by rw[<-ab];exact J))];exact A,F⟩
end
theorem Wy{d7:Type}{P:Program}{Γ:bN}{Q:Exit->St->Prop}{c:Code}{M:St}(x:Exit)(bb:d7->St)(ok:d7->Prop)(h:aP P Γ c (λ ex cb=>ex=x/\∃i,ok i/\bY Γ cb (bb i)) M)(k:∀cb i,ok i->bY Γ cb (bb i)->Q x cb):aP P Γ c Q M:=
 wM h λ ex cb hh=>by
  obtain⟨rfl,i,hi,hg⟩:=hh;exact k cb i hi hg
abbrev zy(S:bL):List Int:=S.map (·.1)
abbrev AJ(S:bL):List Int:=S.map (·.2)
abbrev O9(S:bL):K:=.agg [E 1,bX (zy S),bX (AJ S)]
theorem ND{S:bL}{i:Nat}{y:Int×Int}(h:S[i]?=some y):S.take (i+1)=S.take i++[y]:=by rw[List.take_add_one,h];rfl
theorem acB(B au:Nat->Bool)(x:K)(l:List K):K.ok.eR B au (x::l)=(x.ok B au&&K.ok.eR B au l):=rfl
theorem fy.drop{cs:List K}(h:fy cs):∀n,fy (cs.drop n):=by
 intro n B au;have A:=h B au;clear h;induction n generalizing cs with
 |zero=>exact A
 |succ n ih=>
  cases cs with
  |nil=>exact A
  |cons x cs=>rw[acB,Bool.and_eq_true] at A;exact ih A.2
theorem ac0(S:bL):(g6 S).map K.p=S.flatMap λ x=>[E x.1,E x.2]:=by
 induction S with
 |nil=>rfl
 |cons x S ih=>
  show E x.1::E x.2::(g6 S).map K.p=_;rw[ih]
  rfl
theorem acZ(S:bL):(g6 S).length=S.length*2:=by
 induction S with
 |nil=>rfl
 |cons x S ih=>show(g6 S).length+2=_;rw[ih,List.length_cons];omega
theorem acY(S:bL)(x:Int×Int):g6 S++[pI x.1,pI x.2]=g6 (S++[x]):=by
 induction S with
 |nil=>rfl
 |cons y S ih=>
  show pI y.1::pI y.2::(g6 S++[pI x.1,pI x.2])=_;rw[ih]
  rfl
def N7(ap:bL)(d:K)(bx:bJ):Prop:=(ap=[]/\d=.p (.sl true 0 [])/\bx=[])\/∃c cs,d=.arr 20 0 ap.length c/\bx=[(20,cs)]/\cs.length=c*2/\c<=maxLen/\ap.length<=c/\1<=ap.length/\cs.take (ap.length*2)=(g6 ap).map K.p/\fy cs
theorem ac3(aO:bL)(r:Int×Int):qn (aO++[r])=qn aO++(if r.1%2=1 then[(Ly r.1,r.2)] else[]):=by
 unfold qn;rw[List.filter_append,List.map_append]
 congr 1
 rw[List.filter_cons]
 by_cases h:r.1%2=1
 ·rw[if_pos (decide_eq_true h),if_pos h];rfl
 ·rw[if_neg (by simpa using h),if_neg h];rfl
abbrev wO(l:ah)(m:List Int):bJ:=[(3,[E 1,.p (.sl true 0 []),.p (.sl true 0 [])]),(2,[E 0,.p (.sl true 0 []),.p (.sl true 0 [])]),(1,[bX m]),(0,cG l)]
set_option maxHeartbeats 16000000 in
theorem W3(l:ah)(hL:cr l)(hM:kJ l)(m:List Int)(mi bk D:Int)(aO:List (Int×Int))(Z:iS l mi 0=bk)(xg:0<=bk)(pk:bk<m.length)(hh:aN l (ae (bE m bk)).idx 0=D)(hR:nJ l m D=aO)(Yq:aO.length<=2000)(S:bL)(P9:S=Ft (qn aO)):
 bc prog 37 [dP l,jw m,E mi] (O9 S):=by
 have Bn:=De l hL hM mi 0;rw[Z] at Bn;have P6:=Fl l hL m D;rw[hR] at P6;have T:m[bk.toNat]?=some (bE m bk):=by unfold bE;rw[if_neg (by omega)];exact ys xg pk
 have Bv:=kD l hL (ae (bE m bk)).idx 0 (by have:=kU (bE m bk);omega) (by omega);rw[hh] at Bv;refine sP func37 ntmps37 λ w cl=>?_
 refine gA Bn ?_;rw[show decide (bk<0)=false by rw[decide_eq_false_iff_not];omega];refine go ?_;rw[show decide (bk>=m.length)=false by rw[decide_eq_false_iff_not];omega];refine go ?_;refine gD [] ?_;refine ri [pI (bE m bk)] (jE T) ?_;refine gQ (kV (bE m bk)) ?_;refine cQ Bv ?_;refine gQ P6 ?_;refine go ?_;refine Wy (d7:=K×bJ) (.exit 0) (λ p=>⟨[(9,p.1),(7,.ptr 3 0),(6,.ptr 2 0)],p.2++wO l m,[]⟩) (λ p=>N7 (qn aO) p.1 p.2) ?_ ?_
 ·refine cn (λ p:Nat×K×bJ=>p.1<=aO.length/\N7 (qn (aO.take p.1)) p.2.1 p.2.2) (λ p=>⟨[(41,E p.1),(40,E aO.length),(39,eh aO),(9,p.2.1),(7,.ptr 3 0),(6,.ptr 2 0)],p.2.2++wO l m,[]⟩) (λ p=>aO.length-p.1) (0,.p (.sl true 0 []),[]) ⟨Nat.zero_le _,.inl ⟨rfl,rfl,rfl⟩⟩ (zX) ?_;rintro⟨i,d,bx⟩ ⟨hi,xf⟩;simp only at hi xf;refine(show aP _ _ _ _ ⟨[(41,E i),(40,E aO.length),(39,eh aO),(9,d),(7,.ptr 3 0),(6,.ptr 2 0)],bx++wO l m,[]⟩ from ?_);refine go ?_;refine dk (λ A=>?_) (λ A=>?_)<;>try rw[A]
  ·have aU:=of_decide_eq_true A;obtain⟨r,hr⟩:=nh (l:=aO) (i:=i) (by omega) aU;have qd:aO[i]?=some r:=by simpa using hr
   have hx:=ac3 (aO.take i) r;rw[<-ND qd] at hx;have iE:(qn (aO.take i)).length<=2000:=by unfold qn;rw[List.length_map];refine Nat.le_trans (List.length_filter_le _ _) ?_;rw[List.length_take];omega
   rcases xf with⟨hT,rfl,rfl⟩|⟨c,cs,rfl,rfl,k1,k2,k3,k0,k4,k5⟩
   ·rw[hT,List.nil_append] at hx;refine(show aP _ _ _ _ ⟨_,wO l m,[]⟩ from ?_);refine go ?_;refine ai [pI r.1,pI r.2] (Dy hr) ?_;refine go ?_;refine bh (gY aD rfl rfl rfl rfl rfl (by omega) (by omega)) rfl rfl rfl ?_;refine go ?_;rw[Ow]
    by_cases F:r.1%2=1
    ·rw[show decide (r.1%2=1)=true from decide_eq_true F];rw[if_pos F] at hx;refine go ?_;refine gW 8 [] ?_;refine cV (gY aD rfl rfl rfl rfl rfl (by omega) (by omega)) rfl rfl ?_;refine gQ (RR r.1) ?_;refine cV (gY aD rfl rfl rfl rfl rfl (by omega) (by omega)) rfl rfl ?_;refine br ?_;refine I9 (sz:=2) aD 20 rfl rfl rfl rfl rfl rfl rfl rfl rfl rfl rfl rfl rfl rfl (by omega) rfl (by unfold maxLen;omega) (by show 1*16<=_;omega) (λ aS cg k1 k2 k3 k4 k5=>?_);refine go ?_;refine⟨(i+1,.arr 20 0 1 cg,[(20,aS)]),⟨by simp only;omega,.inr ⟨cg,aS,by rw[hx];rfl,rfl,k1,k2,by rw[hx];exact k3,by rw[hx];exact Nat.le_refl _,by rw[hx];exact k4,k5⟩⟩,by simp only;omega,?_⟩;exact e7 (by(repeat(first|exact trivial|refine⟨⟨rfl,rfl⟩,?_⟩))) (by(repeat(first|exact trivial|refine⟨⟨rfl,rfl⟩,?_⟩|refine⟨⟨rfl,k5 _ _⟩,?_⟩))) (by(repeat(first|exact trivial|refine⟨rfl,?_⟩))) (by(repeat(first|exact trivial|refine⟨rfl,?_⟩)))
    ·rw[show decide (r.1%2=1)=false from decide_eq_false F];rw[if_neg F] at hx;refine go ?_;exact⟨(i+1,.p (.sl true 0 []),[]),⟨by simp only;omega,.inl ⟨hx,rfl,rfl⟩⟩,by simp only;omega,zX⟩
   ·generalize agM:qn (aO.take i)=ap at*;refine(show aP _ _ _ _ ⟨_,(20,cs)::wO l m,[]⟩ from ?_);refine go ?_;refine ai [pI r.1,pI r.2] (Dy hr) ?_;refine go ?_;refine bh (gY aD rfl rfl rfl rfl rfl (by omega) (by omega)) rfl rfl rfl ?_;refine go ?_;rw[Ow]
    by_cases F:r.1%2=1
    ·rw[show decide (r.1%2=1)=true from decide_eq_true F];rw[if_pos F] at hx;refine go ?_;refine gW 8 [] ?_;refine cV (gY aD rfl rfl rfl rfl rfl (by omega) (by omega)) rfl rfl ?_;refine gQ (RR r.1) ?_;refine cV (gY aD rfl rfl rfl rfl rfl (by omega) (by omega)) rfl rfl ?_;refine br ?_;refine Ja (sz:=2) aD (g6 ap) rfl rfl rfl rfl rfl rfl rfl rfl rfl rfl rfl rfl rfl rfl (Gf rfl (yw rfl rfl (yw rfl rfl (Gd rfl rfl)))) k1 k3 (acZ ap) k4 k2 (by omega) rfl (by unfold maxLen;omega) (by show(_+1)*16<=_;omega) (λ aS cg q1 q2 q3 q4 q5=>?_);refine go ?_;refine⟨(i+1,.arr 20 0 (ap.length+1) cg,[(20,aS)]),⟨by simp only;omega,.inr ⟨cg,aS,by rw[hx,List.length_append];rfl,rfl,q1,q2,by rw[hx,List.length_append];exact q3,by rw[hx,List.length_append];exact Nat.le_add_left _ _,by rw[hx,List.length_append,<-acY];exact q4,q5⟩⟩,by simp only;omega,?_⟩;exact e7 (by(repeat(first|exact trivial|refine⟨⟨rfl,rfl⟩,?_⟩))) (by(repeat(first|exact trivial|refine⟨⟨rfl,rfl⟩,?_⟩|refine⟨⟨rfl,q5 _ _⟩,?_⟩))) (by(repeat(first|exact trivial|refine⟨rfl,?_⟩))) (by(repeat(first|exact trivial|refine⟨rfl,?_⟩)))
    ·rw[show decide (r.1%2=1)=false from decide_eq_false F];rw[if_neg F,List.append_nil] at hx;refine go ?_;exact⟨(i+1,.arr 20 0 ap.length c,[(20,cs)]),⟨by simp only;omega,.inr ⟨c,cs,by rw[hx],rfl,k1,k2,by rw[hx];exact k3,by rw[hx];exact k0,by rw[hx];exact k4,k5⟩⟩,by simp only;omega,e7 (by(repeat(first|exact trivial|refine⟨⟨rfl,rfl⟩,?_⟩))) (by(repeat(first|exact trivial|refine⟨⟨rfl,rfl⟩,?_⟩|refine⟨⟨rfl,k5 _ _⟩,?_⟩))) (by(repeat(first|exact trivial|refine⟨rfl,?_⟩))) (by(repeat(first|exact trivial|refine⟨rfl,?_⟩)))⟩
  ·have aU:i=aO.length:=by have:=of_decide_eq_false A;omega
   subst aU;rw[List.take_length] at xf;refine go ?_;refine⟨rfl,(d,bx),xf,?_⟩;rcases xf with⟨hT,rfl,rfl⟩|⟨c,cs,rfl,rfl,k1,k2,k3,k0,k4,k5⟩
   ·exact zX
   ·exact e7 (by(repeat(first|exact trivial|refine⟨⟨rfl,rfl⟩,?_⟩))) (by(repeat(first|exact trivial|refine⟨⟨rfl,rfl⟩,?_⟩|refine⟨⟨rfl,k5 _ _⟩,?_⟩))) (by(repeat(first|exact trivial|refine⟨rfl,?_⟩))) (by(repeat(first|exact trivial|refine⟨rfl,?_⟩)))
 rintro cb ⟨d,bx⟩ xf fm;refine zR (zM (ey fm ?_));clear fm;simp only at xf;have agK:(qn aO).length<=2000:=by unfold qn;rw[List.length_map];exact Nat.le_trans (List.length_filter_le _ _) Yq
 generalize qn aO=ap at*;have Yr:(zy S).length=S.length:=List.length_map _;have Ys:(AJ S).length=S.length:=List.length_map _;rcases xf with⟨rfl,rfl,rfl⟩|⟨c,cs,rfl,rfl,k1,k2,k3,k0,k4,k5⟩
 ·obtain rfl:S=[]:=P9;refine(show aP _ _ _ _ ⟨_,wO l m,[]⟩ from ?_);refine go ?_;refine il (ae8) rfl (λ a w=>call84 a w) rfl rfl (by(repeat(first|exact trivial|refine⟨⟨rfl,rfl⟩,?_⟩))) (by(repeat(first|exact trivial|refine⟨.inr rfl,?_⟩|refine⟨.inl rfl,?_⟩))) rfl rfl rfl rfl ?_ ?_
  ·rintro d Y ⟨rfl,rfl⟩;exact trivial
  rintro d Y ⟨rfl,rfl⟩;refine go ?_;refine cn (λ _:Unit=>True) (λ _=>⟨[(63,E 0),(62,E 0),(61,.p (.sl true 0 [])),(7,.ptr 3 0),(6,.ptr 2 0)],wO l m,[]⟩) (λ _=>0) () trivial (zX) ?_;intro _ _;refine go ?_;rw[show decide ((0:Int)<0)=false from rfl];refine gf ?_
  rfl
 ·have cR:cs=bM ap (cs.drop (ap.length*2)):=by
   rw[bM,<-ac0,<-k4,List.take_append_drop]
  have Rj:fy (cs.drop (ap.length*2)):=k5.drop _;have Ez:=ae9 ap (cs.drop (ap.length*2)) Rj ap.length c rfl (by omega);rw[<-cR] at Ez;generalize cs.drop (ap.length*2)=rest at*;refine(show aP _ _ _ _ ⟨_,(20,cs)::wO l m,[]⟩ from ?_);refine go ?_;refine il Ez rfl (λ a w=>call84 a w) rfl rfl ⟨⟨rfl,k5 _ _⟩,trivial⟩ (by(repeat(first|exact trivial|refine⟨.inr rfl,?_⟩|refine⟨.inl rfl,?_⟩))) rfl rfl rfl rfl ?_ ?_
  ·rintro d Y ⟨rfl,S,_,rfl⟩;exact⟨.inl rfl,trivial⟩
  rintro d Y ⟨rfl,oC,P7,rfl⟩;obtain rfl:oC=S:=(afe P7).trans P9.symm;have bH:∀{S:bL}(B au:Nat->Bool),K.ok.eR B au (bM S rest)=true:=λ B au=>wl Rj B au
  have DG:=P7.len;refine nT (FB 3 1 0 3 1 rfl rfl rfl rfl rfl) ?_;refine nT (FB 3 2 1 3 1 rfl rfl rfl rfl rfl) ?_;refine go ?_;refine cn (λ j:Nat=>j<=ap.length) (λ j=>⟨[(63,E j),(62,E ap.length),(61,.arr 20 0 ap.length c),(7,.ptr 3 0),(6,.ptr 2 0)],[(20,bM oC rest),(3,[E 1,.aW 0 j (cy (zy (oC.take j))),.aW 1 j (cy (AJ (oC.take j)))]),(2,[E 0,.p (.sl true 0 []),.p (.sl true 0 [])]),(1,[bX m]),(0,cG l)],[(0,⟨3,1,j⟩),(1,⟨3,1,j⟩)]⟩) (λ j=>ap.length-j) 0 (Nat.zero_le _) (e7 (by(repeat(first|exact trivial|refine⟨⟨rfl,rfl⟩,?_⟩))) (by(repeat(first|exact trivial|refine⟨⟨rfl,rfl⟩,?_⟩|refine⟨⟨rfl,bH _ _⟩,?_⟩))) (by(repeat(first|exact trivial|refine⟨rfl,?_⟩))) (by(repeat(first|exact trivial|refine⟨rfl,?_⟩)))) ?_;intro j hj;refine(show aP _ _ _ _ ⟨[(63,E j),(62,E ap.length),(61,.arr 20 0 ap.length c),(7,.ptr 3 0),(6,.ptr 2 0)],[(20,bM oC rest),(3,[E 1,.aW 0 j (cy (zy (oC.take j))),.aW 1 j (cy (AJ (oC.take j)))]),(2,[E 0,.p (.sl true 0 []),.p (.sl true 0 [])]),(1,[bX m]),(0,cG l)],[(0,⟨3,1,j⟩),(1,⟨3,1,j⟩)]⟩ from ?_);refine go ?_;refine dk (λ A=>?_) (λ A=>?_)<;>try rw[A]
  ·have aU:=of_decide_eq_true A;obtain⟨y,hy⟩:∃y,oC[j]?=some y:=⟨oC[j]'(by omega),List.getElem?_eq_getElem _⟩;obtain⟨r1,jh⟩:=pL hy rest;have tf:=sm oC rest;have gV:(oC.take j).length=j:=by rw[List.length_take];omega
   have nq:cy (zy (oC.take (j+1)))=cy (zy (oC.take j))++[pI y.1]:=by rw[ND hy];simp[zy,cy]
   have aaG:cy (AJ (oC.take (j+1)))=cy (AJ (oC.take j))++[pI y.2]:=by rw[ND hy];simp[AJ,cy]
   refine go ?_;refine aj (j*2) 2 ?_;refine bh (mQ aD [E y.1,E y.2] r1 rfl rfl rfl rfl rfl (by show j*2<=(bM oC rest).length;omega) jh rfl) rfl rfl rfl ?_;refine go ?_;refine bh (gY aD rfl rfl rfl rfl rfl (by omega) (by omega)) rfl rfl rfl ?_;refine go ?_;refine oE (n:=j) (m:=1) (qs:=[pI y.1]) aD rfl rfl rfl rfl rfl rfl rfl rfl rfl rfl rfl rfl rfl (by unfold maxLen;omega) (by show(_+_)*8<=_;omega) ?_;refine go ?_;refine bh (gY aD rfl rfl rfl rfl rfl (by omega) (by omega)) rfl rfl rfl ?_;refine go ?_;refine oE (n:=j) (m:=1) (qs:=[pI y.2]) aD rfl rfl rfl rfl rfl rfl rfl rfl rfl rfl rfl rfl rfl (by unfold maxLen;omega) (by show(_+_)*8<=_;omega) ?_;refine go ?_;refine⟨j+1,by omega,by omega,?_⟩;rw[nq,aaG];exact e7 (by(repeat(first|exact trivial|refine⟨⟨rfl,rfl⟩,?_⟩))) (by(repeat(first|exact trivial|refine⟨⟨rfl,rfl⟩,?_⟩|refine⟨⟨rfl,bH _ _⟩,?_⟩))) (by(repeat(first|exact trivial|refine⟨rfl,?_⟩))) (by(repeat(first|exact trivial|refine⟨rfl,?_⟩)))
  ·have aU:j=ap.length:=by have:=of_decide_eq_false A;omega
   subst aU;rw[List.take_of_length_le (by omega)];refine go ?_;refine Pz rfl ?_;show K.agg [_,.p (.sl _ ap.length _),.p (.sl _ ap.length _)]=K.agg [_,.p (.sl _ _ _),.p (.sl _ _ _)];rw[Yr,Ys,DG]
theorem abI(l:ah)(hL:cr l)(hM:kJ l)(hn:l.nodes<=1000)(m:List Int)(mi:Int):bc prog 37 [dP l,jw m,E mi] (O9 (Ac l m mi)):=by
 by_cases A:iS l mi 0<0\/(m.length:Int)<=iS l mi 0
 ·have I:Ac l m mi=[]:=by unfold Ac;rw[if_pos A]
  rw[I];have Bn:=De l hL hM mi 0;refine sP func37 ntmps37 λ w cl=>?_
  refine gA Bn ?_;generalize iS l mi 0=bk at*
  by_cases F:bk<0
  ·rw[show decide (bk<0)=true from decide_eq_true F];refine gf ?_
   rfl
  ·rw[show decide (bk<0)=false from decide_eq_false F];refine go ?_;rw[show decide (bk>=m.length)=true by rw[decide_eq_true_eq];omega];refine gf ?_
   rfl
 ·have I:Ac l m mi=Ft (qn (nJ l m (aN l (ae (bE m (iS l mi 0))).idx 0))):=by unfold Ac;rw[if_neg A]
  have KU:=r7 l m (aN l (ae (bE m (iS l mi 0))).idx 0);have h0:=hL.nodes.1;exact W3 l hL hM m mi _ _ _ rfl (by omega) (by omega) rfl rfl (by unfold nJ;rw[List.length_map];exact Nat.le_trans (List.length_filter_le _ _) (by omega)) _ I
theorem S8(a b:List Int):cy (a++b)=cy a++cy b:=by simp[cy]
end Go.Proofs.YtcnefjfboagbmaaGreat
namespace Go.Proofs.YtcnefjfboagbmaaGreat.Em
open Go.Proofs.Tryz
open Go.RowKit
set_option maxRecDepth 100000
theorem qz(xs:List Int)(i:Int):bc prog 87 [jw xs,E i] (E (bE xs i)):=by
 generalize I:bE xs i=aQ;unfold bE at I;refine sP func87 ntmps87 λ w cl=>?_
 refine go ?_;generalize A:decide (i<0)=cc;cases cc
 ·have aU:=of_decide_eq_false A;refine go ?_;generalize F:decide ((xs.length:Int)<=i)=cc;cases cc
  ·have bB:=of_decide_eq_false F;rw[if_neg (by omega)] at I;have hg:=ys (xs:=xs) (i:=i) (by omega) (by omega);refine go ?_;refine ai [pI (dp xs i)] (jE hg) ?_;refine gf ?_;rw[<-I]
  ·rw[if_pos (.inr (of_decide_eq_true F))] at I;refine gf ?_;rw[<-I]
 ·rw[if_pos (.inl (of_decide_eq_true A))] at I;refine gf ?_;rw[<-I]
set_option maxHeartbeats 4000000 in
theorem xG(l:ah)(hL:cr l)(m:List Int)(s:Int)(hm:∀x∈m,x<9223372036854775808):bc prog 47 [dP l,jw m,E s] (bX (fF l m s)):=by
 generalize I:fF l m s=aQ;unfold fF at I;have hN:=hL.nodes;obtain⟨ml,gp⟩:=hN;have io:∀i,bE m i<9223372036854775808:=by
  intro i;unfold bE dp;split
  ·omega
  ·rename_i h;have bm:i.toNat<m.length:=by omega
   have:m.getD i.toNat 0=m[i.toNat]:=by simp[bm]
   rw[this];exact hm _ (List.getElem_mem bm)
 refine sP func47 ntmps47 λ w cl=>?_
 refine go ?_;refine cA (UR l hL s) ?_;refine im ?_;refine nI ?_;refine qA ?_;refine qA ?_;refine wN ?_;refine im ?_;refine nI ?_;refine Jg rfl ?_;generalize A:decide (mc l s<0)=cc;cases cc
 ·rw[if_neg (of_decide_eq_false A)] at I;refine Dk ?_;refine FT ?_;refine nI ?_;refine qA ?_;refine wN ?_;refine im ?_;refine nI ?_;refine ey (lu 8 0 3 1 rfl rfl rfl) ?_;refine Jh rfl rfl rfl rfl rfl rfl rfl rfl λ r=>?_
  refine r6 (pD λ aM bv cw hi=>?_);refine gA (qz m (mc l s)) ?_;refine cA (kV (bE m (mc l s))) ?_;refine go ?_;refine nF ?_;refine r6 (Cf ?_);generalize hn:(ae (bE m (mc l s))).idx=n0 at I;have Ei:n0<9223372036854775808:=by rw[<-hn];have:=(kU (bE m (mc l s))).2;omega
  refine LZ (λ p:Nat×List Int×Int=>p.1+p.2.1.length=l.nodes.toNat+1/\p.2.1.Nodup/\(∀x∈p.2.1,1<=x/\x<=l.nodes)/\p.2.2<9223372036854775808/\k8 (λ n=>bE m (aN l n 0)) l.nodes p.1 p.2.1 p.2.2=aQ) (λ p=>⟨[(9,.p (.raw (.map (some r)))),(10,E p.2.2),(8,.aW 0 p.2.1.length (cy p.2.1)),(3,.ptr 0 0),(4,.ptr 1 0)],[(1,[bX m]),(0,cG l)],[(0,⟨3,1,p.2.1.length⟩)]⟩) (λ p=>p.2.1) (λ p=>p.1) (l.nodes.toNat+1,[],n0) ⟨by simp,List.nodup_nil,by simp,Ei,I⟩ rfl (λ aM bv cw=>zX) ?_;rintro⟨k,acc,n⟩ ⟨J,hnd,dF,iX,I⟩;simp only at J hnd dF iX I;have cD:=v5 l.nodes.toNat acc hnd (λ x T=>by have:=dF x T;omega);obtain⟨k,rfl⟩:∃j,k=j+1:=⟨k-1,by omega⟩;rw[k8] at I;refine(show qv _ _ _ _ _ acc ⟨[(9,.p (.raw (.map (some r)))),(10,E n),(8,.aW 0 acc.length (cy acc)),(3,.ptr 0 0),(4,.ptr 1 0)],[(1,[bX m]),(0,cG l)],[(0,⟨3,1,acc.length⟩)]⟩ from ?_);refine r6 (pD λ aM bv cw hi=>?_);refine gA (kD l hL n 0 (by omega) (by omega)) ?_;have rT:=L4 hL (n:=n) (i:=0) (by omega);generalize F:decide (aN l n 0>=0)=cc;cases cc
  ·have bB:=of_decide_eq_false F;rw[if_neg (λ hh=>bB (rT.2 ⟨hh.1,hh.2.1⟩))] at I;refine go ?_;refine rZ (rZ (Cb (nF (pD λ aM bv cw hi=>?_))));refine gf ?_;rw[<-I]
  ·have bB:=rT.1 (of_decide_eq_true F);refine go ?_;refine Jc aD hi rfl underlying125 underlying3 rfl rfl rfl rfl rfl rfl rfl ?_;refine go ?_;generalize O:decide (n∈acc)=cc;cases cc
   ·have dt:=of_decide_eq_false O;rw[if_pos ⟨bB.1,bB.2,dt⟩] at I;refine go ?_;refine nF ?_;refine Cf (r6 (L0 ?_));refine B8 aD rfl rfl rfl rfl ?_;refine B8 aD rfl rfl rfl rfl ?_;refine LW rfl rfl underlying125 underlying3 rfl rfl rfl rfl dt ?_;refine LV (nF (pD λ aM bv cw hi=>?_));refine go ?_;refine pA rfl ?_;rw[oW,show acc.length+1=(acc++[n]).length by simp];refine go ?_;refine dQ [] ?_;refine gQ (kD l hL n 0 (by omega) (by omega)) ?_;refine cQ (qz m (aN l n 0)) ?_;refine qg ?_;refine LX (nF ?_);exact⟨(k,acc++[n],bE m (aN l n 0)),⟨by simp;omega,by
     rw[List.nodup_append];exact⟨hnd,by simp,λ a ha b Z=>by simp at Z;subst Z;exact λ e=>dt (e▸ha)⟩,λ x T=>by
     simp only[List.mem_append,List.mem_singleton] at T;rcases T with T|rfl
     ·exact dF x T
     ·exact bB,io _,I⟩,by simp only;omega,rfl,λ aM bv cw=>zX⟩
   ·rw[if_neg (λ hh=>hh.2.2 (of_decide_eq_true O))] at I;refine go ?_;refine rZ (rZ (Cb (nF (pD λ aM bv cw hi=>?_))));refine gf ?_;rw[<-I]
 ·rw[if_pos (of_decide_eq_true A)] at I;refine gf ?_;rw[<-I]
  rfl
theorem r7(l:ah)(m:List Int)(s:Int):(fF l m s).length<=l.nodes.toNat+1:=by
 unfold fF;split
 ·simp
 ·have:=Dj (nx:=λ n=>bE m (aN l n 0)) (N:=l.nodes) (l.nodes.toNat+1) [] (ae (bE m (mc l s))).idx
  simpa using this
theorem EX(l:ah)(m:List Int)(s:Int):∀x∈fF l m s,1<=x/\x<=l.nodes:=by
 unfold fF;split
 ·simp
 ·exact F8 _ _ _ (by simp)
set_option maxHeartbeats 4000000 in
theorem Fl(l:ah)(hL:cr l)(m:List Int)(s:Int)(hm:∀x∈m,x<9223372036854775808):bc prog 38 [dP l,jw m,E s] (bX (nJ l m s)):=by
 have vl:=EX l m s;have KU:=r7 l m s;have hC:=xG l hL m s hm;unfold nJ;obtain⟨ml,gp⟩:=hL.nodes;generalize fF l m s=ns at*;refine sP func38 ntmps38 λ w cl=>?_
 refine gA hC ?_;refine ey (lu 7 0 3 1 rfl rfl rfl) ?_;refine cn (λ i:Nat=>i<=ns.length) (λ i=>⟨[(15,E i),(14,E ns.length),(13,bX ns),(7,.aW 0 i (cy ((ns.take i).map λ n=>bE m (aN l n 1)))),(3,.ptr 0 0),(4,.ptr 1 0)],[(1,[bX m]),(0,cG l)],[(0,⟨3,1,i⟩)]⟩) (λ i=>ns.length-i) 0 (by omega) (zX) ?_;intro i hi;refine go ?_;refine dk (λ A=>?_) (λ A=>?_)<;>try rw[A]
 ·have aU:=of_decide_eq_true A;obtain⟨n,hn⟩:=nh (l:=ns) (i:=i) (by omega) aU;have eo:=vl n (by simp only[Int.toNat_natCast] at hn;exact List.mem_of_getElem? hn);refine go ?_;refine ai [pI n] (jE hn) ?_;refine go ?_;refine dQ [] ?_;refine gQ (kD l hL n 1 (by omega) (by omega)) ?_;refine cQ (qz m (aN l n 1)) ?_;refine br ?_;refine tx aD rfl rfl rfl rfl rfl rfl rfl rfl rfl rfl rfl rfl rfl (by unfold maxLen;omega) (by show(_+_)*8<=_;omega) ?_;have ht:ns.take (i+1)=ns.take i++[n]:=by
   rw[List.take_add_one];simp only[Int.toNat_natCast] at hn;rw[hn];rfl
  rw[oW,show(ns.take i).map (λ n=>bE m (aN l n 1))++[bE m (aN l n 1)]=(ns.take (i+1)).map (λ n=>bE m (aN l n 1)) by rw[ht];simp];refine qg ?_;exact⟨i+1,by omega,by omega,zX⟩
 ·have aU:=of_decide_eq_false A;refine gf ?_;rw[List.take_of_length_le (by omega)];simp only[bX,List.length_map];rw[show ns.length=i by omega]
end Go.Proofs.YtcnefjfboagbmaaGreat.Em
namespace Go.Proofs.YtcnefjfboagbmaaGreat
open Go.Proofs.Tryz
open Go.RowKit
set_option maxRecDepth 100000
structure OL(l:ah):Prop where
 ok:cr l
 m:kJ l
 b:1<=l.buckets
 n:0<=l.nodes/\l.nodes<=1000
 maps:0<=l.maps/\l.maps<=8
 dl:0<=l.dl/\l.dl<=8
 bo:0<=l.bo/\l.bo<=8
abbrev JC(c:AN):K:=.agg [E c.1,bX c.2.1,bX c.2.2]
def N4(m:List Int):Prop:=∀x∈m,x<9223372036854775808
theorem HX(l:ah)(hO:OL l)(m:List Int)(hm:N4 m)(kind i:Int):bc prog 14 [dP l,jw m,E kind,E i] (JC (uB l m kind i)):=by
 have A:=abI l hO.ok hO.m hO.n.2 m i;have F:=Em.Fl l hO.ok m i hm;have O:=Sg.Fl l hO.ok m i hm;generalize I:uB l m kind i=aQ;unfold uB at I;refine sP func14 ntmps14 λ w cl=>?_
 refine go ?_
 by_cases k1:kind=1
 ·rw[if_pos k1] at I;rw[decide_eq_true k1];refine gA A ?_;refine ez ?_;rw[<-I]
 ·rw[if_neg k1] at I;rw[decide_eq_false k1];refine go ?_
  by_cases k2:kind=2
  ·rw[if_pos k2] at I;rw[decide_eq_true k2];refine gA F ?_;refine ez ?_;rw[<-I,k2]
   rfl
  ·rw[if_neg k2] at I;rw[decide_eq_false k2];refine go ?_
   by_cases k3:kind=3
   ·rw[if_pos k3] at I;rw[decide_eq_true k3];refine gA O ?_;refine ez ?_;rw[<-I,k3]
    rfl
   ·rw[if_neg k3] at I;rw[decide_eq_false k3];refine gf ?_;rw[<-I]
    rfl
theorem Jx(a b:AN)(A:a.2.1.length<=1000000000)(F:a.2.2.length<=1000000000):bc prog 13 [JC a,JC b] (dB (decide (a=b))):=by
 obtain⟨a1,a2,a3⟩:=a;obtain⟨b1,b2,b3⟩:=b;simp only at A F;have i1:=RJ a2 b2 A;have i2:=RJ a3 b3 F;have I:decide ((a1,a2,a3)=(b1,b2,b3))=(decide (a1=b1)&&(decide (a2=b2)&&decide (a3=b3))):=by rw[Bool.eq_iff_iff];simp only[decide_eq_true_eq,Bool.and_eq_true,Prod.mk.injEq]
 rw[I];refine sP func13 ntmps13 λ w cl=>?_
 refine go ?_;generalize k1:decide (a1=b1)=cc;cases cc
 ·refine gf ?_
  rfl
 ·refine gA i1 ?_;generalize k2:decide (a2=b2)=cc;cases cc
  ·refine gf ?_
   rfl
  ·refine gA i2 ?_;refine ez ?_
   rfl
def fk(l:ah)(m:List Int)(k:Nat):List Int:=(List.range k).flatMap λ(o:Nat)=>Ah l m o
def hE(l:ah)(m:List Int)(k:Nat):List Int:=(List.range k).flatMap λ(o:Nat)=>Em.fF l m o
def mu(l:ah)(m:List Int)(k:Nat):List Int:=(List.range k).flatMap λ(o:Nat)=>Sg.fF l m o
theorem ace(l:ah)(m:List Int)(k:Nat):fk l m (k+1)=fk l m k++Ah l m k:=by simp[fk,List.range_succ]
theorem acn(l:ah)(m:List Int)(k:Nat):hE l m (k+1)=hE l m k++Em.fF l m k:=by simp[hE,List.range_succ]
theorem abW(l:ah)(m:List Int)(k:Nat):mu l m (k+1)=mu l m k++Sg.fF l m k:=by simp[mu,List.range_succ]
theorem acE(l:ah)(m:List Int):Ci l m=fk l m l.maps.toNat++hE l m l.dl.toNat++mu l m l.bo.toNat:=rfl
theorem Gw{f:Nat->List Int}{N:Nat}(h:∀o,(f o).length<=N):∀k,((List.range k).flatMap f).length<=k*N
 |0=>by simp
 |k+1=>by
  have A:=Gw h k;have F:=h k;rw[List.range_succ,List.flatMap_append,List.length_append,Nat.add_mul];simp only[List.flatMap_cons,List.flatMap_nil,List.append_nil];omega
theorem abS(l:ah)(m:List Int)(o:Int):(Ah l m o).length<=l.nodes.toNat+2:=by
 unfold Ah;split
 ·simp
 ·have:=r7 l m (aN l (ae (bE m (iS l o 0))).idx 0);rw[List.length_cons];omega
theorem SN:(ae 0).idx=0:=by decide
theorem Wo{d7:Type}{P:Program}{Γ:bN}{Q:Exit->St->Prop}{x y:Code}{M:St}(bb:d7->St)(ok:d7->Prop)(A:aP P Γ x (λ ex cb=>ex=.normal/\∃i,ok i/\bY Γ cb (bb i)) M)(F:∀i,ok i->aP P Γ y Q (bb i)):aP P Γ x (su (aP P Γ y Q) Q) M:=
 wM A λ ex cb h=>by
  obtain⟨rfl,i,hi,hg⟩:=h;exact ey hg (F i hi)
set_option maxHeartbeats 16000000 in
theorem acF(l:ah)(hO:OL l)(m:List Int)(hm:N4 m):bc prog 17 [dP l,jw m] (bX (Ci l m)):=by
 generalize I:Ci l m=aQ;rw[acE] at I;have hL:=hO.ok;have hM:=hO.m;obtain⟨n0,n1⟩:=hO.n;obtain⟨p0,p1⟩:=hO.maps;obtain⟨q0,q1⟩:=hO.dl;obtain⟨r0,r1⟩:=hO.bo;have b1:∀k,(fk l m k).length<=k*1002:=Gw λ o=>Nat.le_trans (abS l m o) (by omega)
 have b2:∀k,(hE l m k).length<=k*1002:=Gw λ o=>Nat.le_trans (Em.r7 l m o) (by omega)
 have b3:∀k,(mu l m k).length<=k*1002:=Gw λ o=>Nat.le_trans (Sg.r7 l m o) (by omega)
 refine sP func17 ntmps17 λ w cl=>?_
 refine go ?_;refine ey (lu 5 0 3 1 rfl rfl rfl) ?_;refine cn (λ i:Nat=>i<=l.maps.toNat) (λ i=>⟨[(14,E i),(13,E l.maps),(5,.aW 0 (fk l m i).length (cy (fk l m i))),(2,.ptr 0 0),(3,.ptr 1 0)],[(1,[bX m]),(0,cG l)],[(0,⟨3,1,(fk l m i).length⟩)]⟩) (λ i=>l.maps.toNat-i) 0 (by omega) (zX) ?_;intro i hi;refine(show aP _ _ _ _ ⟨[(14,E i),(13,E l.maps),(5,.aW 0 (fk l m i).length (cy (fk l m i))),(2,.ptr 0 0),(3,.ptr 1 0)],[(1,[bX m]),(0,cG l)],[(0,⟨3,1,(fk l m i).length⟩)]⟩ from ?_);have Z:=b1 i;refine go ?_
 by_cases A:i<l.maps.toNat
 ·rw[show decide ((i:Int)<l.maps)=true by rw[decide_eq_true_eq];omega];have hX:∃X,X=Ah l m i:=⟨_,rfl⟩;obtain⟨X,hX⟩:=hX;have cF:∀(Γ:bN)(M:St),bY Γ M ⟨[(14,E ((i:Int)+1)),(13,E l.maps),(5,.aW 0 ((fk l m i)++X).length (cy ((fk l m i)++X))),(2,.ptr 0 0),(3,.ptr 1 0)],[(1,[bX m]),(0,cG l)],[(0,⟨3,1,((fk l m i)++X).length⟩)]⟩->∃j:Nat,j<=l.maps.toNat/\l.maps.toNat-j<l.maps.toNat-i/\bY Γ M ⟨[(14,E j),(13,E l.maps),(5,.aW 0 (fk l m j).length (cy (fk l m j))),(2,.ptr 0 0),(3,.ptr 1 0)],[(1,[bX m]),(0,cG l)],[(0,⟨3,1,(fk l m j).length⟩)]⟩:=λ _ _ hg=>⟨i+1,by omega,by omega,by rw[show((i+1:Nat):Int)=(i:Int)+1 by omega,ace,<-hX];exact hg⟩
  unfold Ah at hX;generalize fk l m i=IM at*;have Bn:=De l hL hM i 0;generalize iS l i 0=bk at*;refine go ?_;refine cA Bn ?_;refine im ?_;refine zM ?_;refine Wo (d7:=Unit) (λ _=>⟨[(7,E (ae (bE m bk)).idx),(6,E i),(14,E i),(13,E l.maps),(5,.aW 0 IM.length (cy IM)),(2,.ptr 0 0),(3,.ptr 1 0)],[(1,[bX m]),(0,cG l)],[(0,⟨3,1,IM.length⟩)]⟩) (λ _=>True) ?_ ?_
  ·clear cF;refine go ?_
   by_cases k1:bk>=0
   ·rw[decide_eq_true k1];refine go ?_
    by_cases k2:bk<m.length
    ·rw[decide_eq_true k2];have T:m[bk.toNat]?=some (bE m bk):=by
      unfold bE;rw[if_neg (by omega)];exact ys k1 k2
     refine go ?_;refine ai [pI (bE m bk)] (jE T) ?_;refine gA (kV (bE m bk)) ?_;exact⟨rfl,(),trivial,zX⟩
    ·rw[decide_eq_false k2];have h0:bE m bk=0:=by unfold bE;rw[if_pos (by omega)]
     rw[h0,SN];refine go ?_;exact⟨rfl,(),trivial,zX⟩
   ·rw[decide_eq_false k1];have h0:bE m bk=0:=by unfold bE;rw[if_pos (by omega)]
    rw[h0,SN];refine go ?_;exact⟨rfl,(),trivial,zX⟩
  intro _ _;have p7:=kU (bE m bk);generalize(ae (bE m bk)).idx=ri at*
  by_cases F:ri=0
  ·rw[if_pos F] at hX;subst hX;rw[List.append_nil] at cF;refine go ?_;rw[decide_eq_true F];refine go ?_;exact cF _ _ zX
  ·rw[if_neg F] at hX;have Bv:=kD l hL ri 0 (by omega) (by omega);generalize aN l ri 0=D at*;have sQ:=xG l hL m D;have GK:=r7 l m D;generalize fF l m D=NS at*;subst hX;refine go ?_;rw[decide_eq_false F];refine go ?_;refine oE (m:=1) aD rfl rfl rfl rfl rfl rfl rfl rfl rfl rfl rfl rfl rfl (by unfold maxLen;omega) (by show(_+_)*8<=_;omega) ?_;refine go ?_;refine dQ [] ?_;refine gQ Bv ?_;refine cQ sQ ?_;refine br ?_;refine tx (m:=NS.length) aD rfl rfl rfl rfl rfl rfl rfl rfl rfl rfl rfl rfl (by rw[v8];show _=_*1;omega) (by unfold maxLen;omega) (by show(_+_)*8<=_;omega) ?_;refine qg ?_;refine cF _ _ ?_;rw[show(IM++ri::NS).length=IM.length+1+NS.length by simp;omega,show cy (IM++ri::NS)=cy IM++[pI ri]++cy NS by simp[cy]];exact zX
 ·have aU:i=l.maps.toNat:=by omega
  subst aU;rw[show decide (((l.maps.toNat:Nat):Int)<l.maps)=false by rw[decide_eq_false_iff_not];omega];clear hi A;refine go ?_;refine cn (λ i:Nat=>i<=l.dl.toNat) (λ i=>⟨[(54,E i),(53,E l.dl),(5,.aW 0 (fk l m l.maps.toNat++hE l m i).length (cy (fk l m l.maps.toNat++hE l m i))),(2,.ptr 0 0),(3,.ptr 1 0)],[(1,[bX m]),(0,cG l)],[(0,⟨3,1,(fk l m l.maps.toNat++hE l m i).length⟩)]⟩) (λ i=>l.dl.toNat-i) 0 (by omega) (by simp only[hE,List.range_zero,List.flatMap_nil,List.append_nil];exact zX) ?_;intro i hi;refine(show aP _ _ _ _ ⟨[(54,E i),(53,E l.dl),(5,.aW 0 (fk l m l.maps.toNat++hE l m i).length (cy (fk l m l.maps.toNat++hE l m i))),(2,.ptr 0 0),(3,.ptr 1 0)],[(1,[bX m]),(0,cG l)],[(0,⟨3,1,(fk l m l.maps.toNat++hE l m i).length⟩)]⟩ from ?_);have GN:=b2 i;refine go ?_
  by_cases A:i<l.dl.toNat
  ·rw[show decide ((i:Int)<l.dl)=true by rw[decide_eq_true_eq];omega];have sQ:=Em.xG l hL m i hm;have GK:=Em.r7 l m i;have hX:∃X,X=Em.fF l m i:=⟨_,rfl⟩;obtain⟨X,hX⟩:=hX;rw[<-hX] at sQ GK;have cF:∀(Γ:bN)(M:St),bY Γ M ⟨[(54,E ((i:Int)+1)),(53,E l.dl),(5,.aW 0 ((fk l m l.maps.toNat++hE l m i)++X).length (cy ((fk l m l.maps.toNat++hE l m i)++X))),(2,.ptr 0 0),(3,.ptr 1 0)],[(1,[bX m]),(0,cG l)],[(0,⟨3,1,((fk l m l.maps.toNat++hE l m i)++X).length⟩)]⟩->∃j:Nat,j<=l.dl.toNat/\l.dl.toNat-j<l.dl.toNat-i/\bY Γ M ⟨[(54,E j),(53,E l.dl),(5,.aW 0 (fk l m l.maps.toNat++hE l m j).length (cy (fk l m l.maps.toNat++hE l m j))),(2,.ptr 0 0),(3,.ptr 1 0)],[(1,[bX m]),(0,cG l)],[(0,⟨3,1,(fk l m l.maps.toNat++hE l m j).length⟩)]⟩:=λ _ _ hg=>⟨i+1,by omega,by omega,by rw[show((i+1:Nat):Int)=(i:Int)+1 by omega,acn,<-hX,<-List.append_assoc];exact hg⟩
   clear hX;have cD:(fk l m l.maps.toNat++hE l m i).length<=20000:=by rw[List.length_append];omega
   generalize fk l m l.maps.toNat++hE l m i=IM at*;refine gA sQ ?_;refine oE (m:=X.length) aD rfl rfl rfl rfl rfl rfl rfl rfl rfl rfl rfl rfl (by rw[v8];show _=_*1;omega) (by unfold maxLen;omega) (by show(_+_)*8<=_;omega) ?_;refine go ?_;refine cF _ _ ?_;rw[List.length_append,S8];exact zX
  ·have aU:i=l.dl.toNat:=by omega
   subst aU;rw[show decide (((l.dl.toNat:Nat):Int)<l.dl)=false by rw[decide_eq_false_iff_not];omega];clear hi A;refine go ?_;refine cn (λ i:Nat=>i<=l.bo.toNat) (λ i=>⟨[(67,E i),(66,E l.bo),(5,.aW 0 (fk l m l.maps.toNat++hE l m l.dl.toNat++mu l m i).length (cy (fk l m l.maps.toNat++hE l m l.dl.toNat++mu l m i))),(2,.ptr 0 0),(3,.ptr 1 0)],[(1,[bX m]),(0,cG l)],[(0,⟨3,1,(fk l m l.maps.toNat++hE l m l.dl.toNat++mu l m i).length⟩)]⟩) (λ i=>l.bo.toNat-i) 0 (by omega) (by simp only[mu,List.range_zero,List.flatMap_nil,List.append_nil];exact zX) ?_;intro i hi;refine(show aP _ _ _ _ ⟨[(67,E i),(66,E l.bo),(5,.aW 0 (fk l m l.maps.toNat++hE l m l.dl.toNat++mu l m i).length (cy (fk l m l.maps.toNat++hE l m l.dl.toNat++mu l m i))),(2,.ptr 0 0),(3,.ptr 1 0)],[(1,[bX m]),(0,cG l)],[(0,⟨3,1,(fk l m l.maps.toNat++hE l m l.dl.toNat++mu l m i).length⟩)]⟩ from ?_);have GO:=b3 i;refine go ?_
   by_cases A:i<l.bo.toNat
   ·rw[show decide ((i:Int)<l.bo)=true by rw[decide_eq_true_eq];omega];have sQ:=Sg.xG l hL m i hm;have GK:=Sg.r7 l m i;have hX:∃X,X=Sg.fF l m i:=⟨_,rfl⟩;obtain⟨X,hX⟩:=hX;rw[<-hX] at sQ GK;have cF:∀(Γ:bN)(M:St),bY Γ M ⟨[(67,E ((i:Int)+1)),(66,E l.bo),(5,.aW 0 ((fk l m l.maps.toNat++hE l m l.dl.toNat++mu l m i)++X).length (cy ((fk l m l.maps.toNat++hE l m l.dl.toNat++mu l m i)++X))),(2,.ptr 0 0),(3,.ptr 1 0)],[(1,[bX m]),(0,cG l)],[(0,⟨3,1,((fk l m l.maps.toNat++hE l m l.dl.toNat++mu l m i)++X).length⟩)]⟩->∃j:Nat,j<=l.bo.toNat/\l.bo.toNat-j<l.bo.toNat-i/\bY Γ M ⟨[(67,E j),(66,E l.bo),(5,.aW 0 (fk l m l.maps.toNat++hE l m l.dl.toNat++mu l m j).length (cy (fk l m l.maps.toNat++hE l m l.dl.toNat++mu l m j))),(2,.ptr 0 0),(3,.ptr 1 0)],[(1,[bX m]),(0,cG l)],[(0,⟨3,1,(fk l m l.maps.toNat++hE l m l.dl.toNat++mu l m j).length⟩)]⟩:=λ _ _ hg=>⟨i+1,by omega,by omega,by rw[show((i+1:Nat):Int)=(i:Int)+1 by omega,abW,<-hX,<-List.append_assoc];exact hg⟩
    clear hX;have cD:(fk l m l.maps.toNat++hE l m l.dl.toNat++mu l m i).length<=40000:=by simp only[List.length_append];omega
    generalize fk l m l.maps.toNat++hE l m l.dl.toNat++mu l m i=IM at*;refine gA sQ ?_;refine oE (m:=X.length) aD rfl rfl rfl rfl rfl rfl rfl rfl rfl rfl rfl rfl (by rw[v8];show _=_*1;omega) (by unfold maxLen;omega) (by show(_+_)*8<=_;omega) ?_;refine go ?_;refine cF _ _ ?_;rw[List.length_append,S8];exact zX
   ·have aU:i=l.bo.toNat:=by omega
    subst aU;rw[show decide (((l.bo.toNat:Nat):Int)<l.bo)=false by rw[decide_eq_false_iff_not];omega];rw[I];refine gf ?_
    rfl
end Go.Proofs.YtcnefjfboagbmaaGreat
