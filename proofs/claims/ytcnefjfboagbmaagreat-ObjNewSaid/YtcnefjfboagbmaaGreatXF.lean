/- What a map has, in any memory: its walk. -/
import Derived.Test.YtcnefjfboagbmaaGreatXE
import Derived.Test.YtcnefjfboagbmaaGreatWC
import Derived.Test.YtcnefjfboagbmaaGreatPA
import Derived.Test.YtcnefjfboagbmaaGreatWE
import Derived.Test.YtcnefjfboagbmaaGreatXA
import Derived.Test.YtcnefjfboagbmaaGreatXC
namespace Go.Proofs.YtcnefjfboagbmaaGreat
open Go.Proofs.Tryz
open Go.RowKit
set_option maxRecDepth 100000
section
variable{P:Program}{ah:Nat->Option TI}{Γ:bE}{I:St}
theorem PL(nm j g el sz:Nat){n:Nat}{ps:List Pl}{cs aO:List F}(R:Y I.b nm=some cs)(hj:cs[j]?=some (.p (.sl true n ps)))(hs:cs.set j (.aU g n ps)=aO)(hg:Y I.g g=none)(M:ps.length=n*sz):bF Γ I ⟨I.s,(nm,aO)::I.b,(g,⟨el,sz,n⟩)::I.g⟩:=by
 subst hs;intro a e L;have fh:e.gi g=none:=by rw[L.gs];exact hg
 have pd:∀k,e.gr k≠some g:=λ k J=>by obtain⟨ak,_,h,_⟩:=L.env.gr k g J;rw[fh] at h;cases h
 have A:Ends e {e with gi:=λ h=>if h=g then some ⟨el,sz,n⟩ else e.gi h}:=
  ⟨λ _ _ _ u D=>⟨u,D⟩,λ _ _ h=>h,λ d9 ak h=>⟨ak,by show(if d9=g then _ else e.gi d9)=_;rw[if_neg (λ V=>by rw[V,fh] at h;cases h)];exact h,rfl,rfl,Nat.le_refl _⟩,λ _ _ _ cur u _ K=>⟨u,cur,K,rfl⟩⟩
 refine⟨{e with gi:=λ h=>if h=g then some ⟨el,sz,n⟩ else e.gi h},rfl,L.size,L.df,λ aa d hu=>(L.bm aa d hu).next A,λ b cs pP=>?_,λ aa hu=>?_,λ h=>?_,L.env.kept,L.env.cl,L.env.bx,L.env.inj,λ k d9 J=>?_,L.env.kb⟩
 ·simp only[cL] at pP;split at pP
  ·rename_i kG;subst kG;cases pP;obtain⟨k,vs,oT,u,D,K⟩:=L.boxes _ _ R;refine⟨k,vs,oT,u,D,by rw[List.length_set];exact K.1,λ i v d hv G=>?_⟩;rw[List.getElem?_set] at G;split at G
   ·rename_i jr;subst jr;split at G
    ·cases G;have h4:=K.2 _ v _ hv hj;cases h4 with
     |p u=>have D:=(u.next A).low;obtain⟨ar,bP,rfl,K,h4,h5,h6,h7⟩:=pu u;exact .aU D ⟨⟨el,sz,n⟩,ar,bP,by simp,rfl,Nat.le_refl _,M,.inl (h6 rfl)⟩
    ·cases G
   ·exact(K.2 i v d hv G).next A
  ·exact(L.boxes b cs pP).ends A rfl
 ·simp only[cL] at hu;split at hu
  ·cases hu
  ·exact L.dX aa hu
 ·show(if h=g then _ else e.gi h)=_;simp only[cL]
  by_cases e1:h=g
  ·subst e1;simp
  ·rw[if_neg e1,if_neg (λ V=>e1 V.symm)];exact L.gs h
 ·obtain⟨ak,cur,u,D⟩:=L.env.gr k d9 J;exact⟨ak,cur,by show(if d9=g then _ else e.gi d9)=_;rw[if_neg (λ V=>pd k (by rw[<-V];exact J))];exact u,D⟩
end
theorem Q7{dE:Type}{P:Program}{Γ:bE}{Q:Exit->St->Prop}{c:Code}{I:St}(x:Exit)(bn:dE->St)(ok:dE->Prop)(h:aJ P Γ c (λ ex bS=>ex=x/\∃i,ok i/\bF Γ bS (bn i)) I)(k:∀bS i,ok i->bF Γ bS (bn i)->Q x bS):aJ P Γ c Q I:=
 tS h λ ex bS hh=>by
  obtain⟨rfl,i,Z,hg⟩:=hh;exact k bS i Z hg
abbrev fW(S:bv):List Int:=S.map (·.1)
abbrev hi(S:bv):List Int:=S.map (·.2)
abbrev Gx(S:bv):F:=.agg [z 1,aV (fW S),aV (hi S)]
theorem JL{S:bv}{i:Nat}{y:Int×Int}(h:S[i]?=some y):S.take (i+1)=S.take i++[y]:=by rw[List.take_add_one,h];rfl
theorem WH(B ak:Nat->Bool)(x:F)(l:List F):F.ok.ec B ak (x::l)=(x.ok B ak&&F.ok.ec B ak l):=rfl
theorem eN.drop{cs:List F}(h:eN cs):∀n,eN (cs.drop n):=by
 intro n B ak;have u:=h B ak;clear h;induction n generalizing cs with
 |zero=>exact u
 |succ n ih=>
  cases cs with
  |nil=>exact u
  |cons x cs=>rw[WH,Bool.and_eq_true] at u;exact ih u.2
theorem W0(S:bv):(fp S).map F.p=S.flatMap λ x=>[z x.1,z x.2]:=by
 induction S with
 |nil=>rfl
 |cons x S ih=>
  show z x.1::z x.2::(fp S).map F.p=_;rw[ih]
  rfl
theorem WZ(S:bv):(fp S).length=S.length*2:=by
 induction S with
 |nil=>rfl
 |cons x S ih=>show(fp S).length+2=_;rw[ih,List.length_cons];omega
theorem WY(S:bv)(x:Int×Int):fp S++[pI x.1,pI x.2]=fp (S++[x]):=by
 induction S with
 |nil=>rfl
 |cons y S ih=>
  show pI y.1::pI y.2::(fp S++[pI x.1,pI x.2])=_;rw[ih]
  rfl
def J1(ah:bv)(d:F)(bx:bH):Prop:=(ah=[]/\d=.p (.sl true 0 [])/\bx=[])\/∃c cs,d=.arr 20 0 ah.length c/\bx=[(20,cs)]/\cs.length=c*2/\c<=maxLen/\ah.length<=c/\1<=ah.length/\cs.take (ah.length*2)=(fp ah).map F.p/\eN cs
theorem Og(aE:bv)(r:Int×Int):il (aE++[r])=il aE++(if r.1%2=1 then[(uF r.1,r.2)] else[]):=by
 unfold il;rw[List.filter_append,List.map_append]
 congr 1
 rw[List.filter_cons]
 by_cases h:r.1%2=1
 ·rw[if_pos (decide_eq_true h),if_pos h];rfl
 ·rw[if_neg (by simpa using h),if_neg h];rfl
abbrev tU(l:ab)(m:List Int):bH:=[(3,[z 1,.p (.sl true 0 []),.p (.sl true 0 [])]),(2,[z 0,.p (.sl true 0 []),.p (.sl true 0 [])]),(1,[aV m]),(0,bs l)]
set_option maxHeartbeats 16000000 in
theorem Rv(l:ab)(hL:bQ l)(hM:iY l)(m:List Int)(mi bk G:Int)(aE:List (Int×Int))(R:fA l mi 0=bk)(uk:0<=bk)(nI:bk<m.length)(hh:am l (az (aG m bk)).idx 0=G)(hR:hc l m G=aE)(Lt:aE.length<=2000)(S:bv)(Lw:S=kw (il aE)):
 aW prog 37 [cF l,fg m,z mi] (Gx S):=by
 have qB:=AK l hL hM mi 0;rw[R] at qB;have DB:=CA l hL m G;rw[hR] at DB;have T:m[bk.toNat]?=some (aG m bk):=by unfold aG;rw[if_neg (by omega)];exact tW uk nI
 have rJ:=jD l hL (az (aG m bk)).idx 0 (by have:=j8 (aG m bk);omega) (by omega);rw[hh] at rJ;refine sP func37 ntmps37 λ w cl=>?_
 refine gA qB ?_;rw[show decide (bk<0)=false by rw[decide_eq_false_iff_not];omega];refine go ?_;rw[show decide (bk>=m.length)=false by rw[decide_eq_false_iff_not];omega];refine go ?_;refine gD [] ?_;refine ri [pI (aG m bk)] (gK T) ?_;refine gQ (jS (aG m bk)) ?_;refine cQ rJ ?_;refine gQ DB ?_;refine go ?_;refine Q7 (dE:=F×bH) (.exit 0) (λ p=>⟨[(9,p.1),(7,.ptr 3 0),(6,.ptr 2 0)],p.2++tU l m,[]⟩) (λ p=>J1 (il aE) p.1 p.2) ?_ ?_
 ·refine bL (λ p:Nat×F×bH=>p.1<=aE.length/\J1 (il (aE.take p.1)) p.2.1 p.2.2) (λ p=>⟨[(41,z p.1),(40,z aE.length),(39,cT aE),(9,p.2.1),(7,.ptr 3 0),(6,.ptr 2 0)],p.2.2++tU l m,[]⟩) (λ p=>aE.length-p.1) (0,.p (.sl true 0 []),[]) ⟨Nat.zero_le _,.inl ⟨rfl,rfl,rfl⟩⟩ (zX) ?_;rintro⟨i,d,bx⟩ ⟨Z,uj⟩;simp only at Z uj;refine(show aJ _ _ _ _ ⟨[(41,z i),(40,z aE.length),(39,cT aE),(9,d),(7,.ptr 3 0),(6,.ptr 2 0)],bx++tU l m,[]⟩ from ?_);refine go ?_;refine cz (λ u=>?_) (λ u=>?_)<;>try rw[u]
  ·have aN:=of_decide_eq_true u;obtain⟨r,hr⟩:=j3 (l:=aE) (i:=i) (by omega) aN;have oD:aE[i]?=some r:=by simpa using hr
   have eZ:=Og (aE.take i) r;rw[<-JL oD] at eZ;have gY:(il (aE.take i)).length<=2000:=by unfold il;rw[List.length_map];refine Nat.le_trans (List.length_filter_le _ _) ?_;rw[List.length_take];omega
   rcases uj with⟨hT,rfl,rfl⟩|⟨c,cs,rfl,rfl,k1,k2,k3,k0,k4,k5⟩
   ·rw[hT,List.nil_append] at eZ;refine(show aJ _ _ _ _ ⟨_,tU l m,[]⟩ from ?_);refine go ?_;refine ai [pI r.1,pI r.2] (uh hr) ?_;refine go ?_;refine bf (gh aw rfl rfl rfl rfl rfl (by omega) (by omega)) rfl rfl rfl ?_;refine go ?_;rw[Ke]
    by_cases D:r.1%2=1
    ·rw[show decide (r.1%2=1)=true from decide_eq_true D];rw[if_pos D] at eZ;refine go ?_;refine gW 8 [] ?_;refine cD (gh aw rfl rfl rfl rfl rfl (by omega) (by omega)) rfl rfl ?_;refine gQ (MY r.1) ?_;refine cD (gh aw rfl rfl rfl rfl rfl (by omega) (by omega)) rfl rfl ?_;refine ba ?_;refine F4 (sz:=2) aw 20 rfl rfl rfl rfl rfl rfl rfl rfl rfl rfl rfl rfl rfl rfl (by omega) rfl (by unfold maxLen;omega) (by show 1*16<=_;omega) (λ aO bU k1 k2 k3 k4 k5=>?_);refine go ?_;refine⟨(i+1,.arr 20 0 1 bU,[(20,aO)]),⟨by simp only;omega,.inr ⟨bU,aO,by rw[eZ];rfl,rfl,k1,k2,by rw[eZ];exact k3,by rw[eZ];exact Nat.le_refl _,by rw[eZ];exact k4,k5⟩⟩,by simp only;omega,?_⟩;exact dO (by(repeat(first|exact trivial|refine⟨⟨rfl,rfl⟩,?_⟩))) (by(repeat(first|exact trivial|refine⟨⟨rfl,rfl⟩,?_⟩|refine⟨⟨rfl,k5 _ _⟩,?_⟩))) (by(repeat(first|exact trivial|refine⟨rfl,?_⟩))) (by(repeat(first|exact trivial|refine⟨rfl,?_⟩)))
    ·rw[show decide (r.1%2=1)=false from decide_eq_false D];rw[if_neg D] at eZ;refine go ?_;exact⟨(i+1,.p (.sl true 0 []),[]),⟨by simp only;omega,.inl ⟨eZ,rfl,rfl⟩⟩,by simp only;omega,zX⟩
   ·generalize ZO:il (aE.take i)=ah at*;refine(show aJ _ _ _ _ ⟨_,(20,cs)::tU l m,[]⟩ from ?_);refine go ?_;refine ai [pI r.1,pI r.2] (uh hr) ?_;refine go ?_;refine bf (gh aw rfl rfl rfl rfl rfl (by omega) (by omega)) rfl rfl rfl ?_;refine go ?_;rw[Ke]
    by_cases D:r.1%2=1
    ·rw[show decide (r.1%2=1)=true from decide_eq_true D];rw[if_pos D] at eZ;refine go ?_;refine gW 8 [] ?_;refine cD (gh aw rfl rfl rfl rfl rfl (by omega) (by omega)) rfl rfl ?_;refine gQ (MY r.1) ?_;refine cD (gh aw rfl rfl rfl rfl rfl (by omega) (by omega)) rfl rfl ?_;refine ba ?_;refine F5 (sz:=2) aw (fp ah) rfl rfl rfl rfl rfl rfl rfl rfl rfl rfl rfl rfl rfl rfl (Dh rfl (vL rfl rfl (vL rfl rfl (Df rfl rfl)))) k1 k3 (WZ ah) k4 k2 (by omega) rfl (by unfold maxLen;omega) (by show(_+1)*16<=_;omega) (λ aO bU q1 q2 q3 q4 q5=>?_);refine go ?_;refine⟨(i+1,.arr 20 0 (ah.length+1) bU,[(20,aO)]),⟨by simp only;omega,.inr ⟨bU,aO,by rw[eZ,List.length_append];rfl,rfl,q1,q2,by rw[eZ,List.length_append];exact q3,by rw[eZ,List.length_append];exact Nat.le_add_left _ _,by rw[eZ,List.length_append,<-WY];exact q4,q5⟩⟩,by simp only;omega,?_⟩;exact dO (by(repeat(first|exact trivial|refine⟨⟨rfl,rfl⟩,?_⟩))) (by(repeat(first|exact trivial|refine⟨⟨rfl,rfl⟩,?_⟩|refine⟨⟨rfl,q5 _ _⟩,?_⟩))) (by(repeat(first|exact trivial|refine⟨rfl,?_⟩))) (by(repeat(first|exact trivial|refine⟨rfl,?_⟩)))
    ·rw[show decide (r.1%2=1)=false from decide_eq_false D];rw[if_neg D,List.append_nil] at eZ;refine go ?_;exact⟨(i+1,.arr 20 0 ah.length c,[(20,cs)]),⟨by simp only;omega,.inr ⟨c,cs,by rw[eZ],rfl,k1,k2,by rw[eZ];exact k3,by rw[eZ];exact k0,by rw[eZ];exact k4,k5⟩⟩,by simp only;omega,dO (by(repeat(first|exact trivial|refine⟨⟨rfl,rfl⟩,?_⟩))) (by(repeat(first|exact trivial|refine⟨⟨rfl,rfl⟩,?_⟩|refine⟨⟨rfl,k5 _ _⟩,?_⟩))) (by(repeat(first|exact trivial|refine⟨rfl,?_⟩))) (by(repeat(first|exact trivial|refine⟨rfl,?_⟩)))⟩
  ·have aN:i=aE.length:=by have:=of_decide_eq_false u;omega
   subst aN;rw[List.take_length] at uj;refine go ?_;refine⟨rfl,(d,bx),uj,?_⟩;rcases uj with⟨hT,rfl,rfl⟩|⟨c,cs,rfl,rfl,k1,k2,k3,k0,k4,k5⟩
   ·exact zX
   ·exact dO (by(repeat(first|exact trivial|refine⟨⟨rfl,rfl⟩,?_⟩))) (by(repeat(first|exact trivial|refine⟨⟨rfl,rfl⟩,?_⟩|refine⟨⟨rfl,k5 _ _⟩,?_⟩))) (by(repeat(first|exact trivial|refine⟨rfl,?_⟩))) (by(repeat(first|exact trivial|refine⟨rfl,?_⟩)))
 rintro bS ⟨d,bx⟩ uj eA;refine zR (zM (da eA ?_));clear eA;simp only at uj;have ZM:(il aE).length<=2000:=by unfold il;rw[List.length_map];exact Nat.le_trans (List.length_filter_le _ _) Lt
 generalize il aE=ah at*;have SK:(fW S).length=S.length:=List.length_map _;have SL:(hi S).length=S.length:=List.length_map _;rcases uj with⟨rfl,rfl,rfl⟩|⟨c,cs,rfl,rfl,k1,k2,k3,k0,k4,k5⟩
 ·obtain rfl:S=[]:=Lw;refine(show aJ _ _ _ _ ⟨_,tU l m,[]⟩ from ?_);refine go ?_;refine gk (YF) rfl (λ a w=>call84 a w) rfl rfl (by(repeat(first|exact trivial|refine⟨⟨rfl,rfl⟩,?_⟩))) (by(repeat(first|exact trivial|refine⟨.inr rfl,?_⟩|refine⟨.inl rfl,?_⟩))) rfl rfl rfl rfl ?_ ?_
  ·rintro d O ⟨rfl,rfl⟩;exact trivial
  rintro d O ⟨rfl,rfl⟩;refine go ?_;refine bL (λ _:Unit=>True) (λ _=>⟨[(63,z 0),(62,z 0),(61,.p (.sl true 0 [])),(7,.ptr 3 0),(6,.ptr 2 0)],tU l m,[]⟩) (λ _=>0) () trivial (zX) ?_;intro _ _;refine go ?_;rw[show decide ((0:Int)<0)=false from rfl];refine gf ?_
  rfl
 ·have cr:cs=bK ah (cs.drop (ah.length*2)):=by
   rw[bK,<-W0,<-k4,List.take_append_drop]
  have MB:eN (cs.drop (ah.length*2)):=k5.drop _;have BQ:=YH ah (cs.drop (ah.length*2)) MB ah.length c rfl (by omega);rw[<-cr] at BQ;generalize cs.drop (ah.length*2)=rest at*;refine(show aJ _ _ _ _ ⟨_,(20,cs)::tU l m,[]⟩ from ?_);refine go ?_;refine gk BQ rfl (λ a w=>call84 a w) rfl rfl ⟨⟨rfl,k5 _ _⟩,trivial⟩ (by(repeat(first|exact trivial|refine⟨.inr rfl,?_⟩|refine⟨.inl rfl,?_⟩))) rfl rfl rfl rfl ?_ ?_
  ·rintro d O ⟨rfl,S,_,rfl⟩;exact⟨.inl rfl,trivial⟩
  rintro d O ⟨rfl,m3,Lu,rfl⟩;obtain rfl:m3=S:=(YM Lu).trans Lw.symm;have bG:∀{S:bv}(B ak:Nat->Bool),F.ok.ec B ak (bK S rest)=true:=λ B ak=>tJ MB B ak
  have Bc:=Lu.len;refine oh (PL 3 1 0 3 1 rfl rfl rfl rfl rfl) ?_;refine oh (PL 3 2 1 3 1 rfl rfl rfl rfl rfl) ?_;refine go ?_;refine bL (λ j:Nat=>j<=ah.length) (λ j=>⟨[(63,z j),(62,z ah.length),(61,.arr 20 0 ah.length c),(7,.ptr 3 0),(6,.ptr 2 0)],[(20,bK m3 rest),(3,[z 1,.aU 0 j (aZ (fW (m3.take j))),.aU 1 j (aZ (hi (m3.take j)))]),(2,[z 0,.p (.sl true 0 []),.p (.sl true 0 [])]),(1,[aV m]),(0,bs l)],[(0,⟨3,1,j⟩),(1,⟨3,1,j⟩)]⟩) (λ j=>ah.length-j) 0 (Nat.zero_le _) (dO (by(repeat(first|exact trivial|refine⟨⟨rfl,rfl⟩,?_⟩))) (by(repeat(first|exact trivial|refine⟨⟨rfl,rfl⟩,?_⟩|refine⟨⟨rfl,bG _ _⟩,?_⟩))) (by(repeat(first|exact trivial|refine⟨rfl,?_⟩))) (by(repeat(first|exact trivial|refine⟨rfl,?_⟩)))) ?_;intro j hj;refine(show aJ _ _ _ _ ⟨[(63,z j),(62,z ah.length),(61,.arr 20 0 ah.length c),(7,.ptr 3 0),(6,.ptr 2 0)],[(20,bK m3 rest),(3,[z 1,.aU 0 j (aZ (fW (m3.take j))),.aU 1 j (aZ (hi (m3.take j)))]),(2,[z 0,.p (.sl true 0 []),.p (.sl true 0 [])]),(1,[aV m]),(0,bs l)],[(0,⟨3,1,j⟩),(1,⟨3,1,j⟩)]⟩ from ?_);refine go ?_;refine cz (λ u=>?_) (λ u=>?_)<;>try rw[u]
  ·have aN:=of_decide_eq_true u;obtain⟨y,hy⟩:∃y,m3[j]?=some y:=⟨m3[j]'(by omega),List.getElem?_eq_getElem _⟩;obtain⟨r1,iC⟩:=n6 hy rest;have pg:=qh m3 rest;have gq:(m3.take j).length=j:=by rw[List.length_take];omega
   have lZ:aZ (fW (m3.take (j+1)))=aZ (fW (m3.take j))++[pI y.1]:=by rw[JL hy];simp[fW,aZ]
   have US:aZ (hi (m3.take (j+1)))=aZ (hi (m3.take j))++[pI y.2]:=by rw[JL hy];simp[hi,aZ]
   refine go ?_;refine aj (j*2) 2 ?_;refine bf (lF aw [z y.1,z y.2] r1 rfl rfl rfl rfl rfl (by show j*2<=(bK m3 rest).length;omega) iC rfl) rfl rfl rfl ?_;refine go ?_;refine bf (gh aw rfl rfl rfl rfl rfl (by omega) (by omega)) rfl rfl rfl ?_;refine go ?_;refine ln (n:=j) (m:=1) (qs:=[pI y.1]) aw rfl rfl rfl rfl rfl rfl rfl rfl rfl rfl rfl rfl rfl (by unfold maxLen;omega) (by show(_+_)*8<=_;omega) ?_;refine go ?_;refine bf (gh aw rfl rfl rfl rfl rfl (by omega) (by omega)) rfl rfl rfl ?_;refine go ?_;refine ln (n:=j) (m:=1) (qs:=[pI y.2]) aw rfl rfl rfl rfl rfl rfl rfl rfl rfl rfl rfl rfl rfl (by unfold maxLen;omega) (by show(_+_)*8<=_;omega) ?_;refine go ?_;refine⟨j+1,by omega,by omega,?_⟩;rw[lZ,US];exact dO (by(repeat(first|exact trivial|refine⟨⟨rfl,rfl⟩,?_⟩))) (by(repeat(first|exact trivial|refine⟨⟨rfl,rfl⟩,?_⟩|refine⟨⟨rfl,bG _ _⟩,?_⟩))) (by(repeat(first|exact trivial|refine⟨rfl,?_⟩))) (by(repeat(first|exact trivial|refine⟨rfl,?_⟩)))
  ·have aN:j=ah.length:=by have:=of_decide_eq_false u;omega
   subst aN;rw[List.take_of_length_le (by omega)];refine go ?_;refine K5 rfl ?_;show F.agg [_,.p (.sl _ ah.length _),.p (.sl _ ah.length _)]=F.agg [_,.p (.sl _ _ _),.p (.sl _ _ _)];rw[SK,SL,Bc]
theorem VW(l:ab)(hL:bQ l)(hM:iY l)(hn:l.nodes<=1000)(m:List Int)(mi:Int):aW prog 37 [cF l,fg m,z mi] (Gx (oH l m mi)):=by
 by_cases u:fA l mi 0<0\/(m.length:Int)<=fA l mi 0
 ·have A:oH l m mi=[]:=by unfold oH;rw[if_pos u]
  rw[A];have qB:=AK l hL hM mi 0;refine sP func37 ntmps37 λ w cl=>?_
  refine gA qB ?_;generalize fA l mi 0=bk at*
  by_cases D:bk<0
  ·rw[show decide (bk<0)=true from decide_eq_true D];refine gf ?_
   rfl
  ·rw[show decide (bk<0)=false from decide_eq_false D];refine go ?_;rw[show decide (bk>=m.length)=true by rw[decide_eq_true_eq];omega];refine gf ?_
   rfl
 ·have A:oH l m mi=kw (il (hc l m (am l (az (aG m (fA l mi 0))).idx 0))):=by unfold oH;rw[if_neg u]
  have wq:=jc l m (am l (az (aG m (fA l mi 0))).idx 0);have h0:=hL.nodes.1;exact Rv l hL hM m mi _ _ _ rfl (by omega) (by omega) rfl rfl (by unfold hc;rw[List.length_map];exact Nat.le_trans (List.length_filter_le _ _) (by omega)) _ A
def pf(k:Int):Nat->Int
 |0=>0
 |i+1=>2*pf k i+k/2^i%2
theorem Un(k:Int):pf k 16=ny k:=by simp only[pf,ny,List.range,List.range.loop,List.map_cons,List.map_nil,List.sum_cons,List.sum_nil];simp;omega
theorem Mx(k:Int)(h0:0<=k):∀i:Nat,i<=16->0<=pf k i/\pf k i<2^i
 |0,_=>by simp[pf]
 |i+1,Z=>by
  have:=Mx k h0 i (by omega);have e:(2:Int)^(i+1)=2*2^i:=by rw[Int.pow_succ];omega
  rw[pf,e];omega
theorem Xf{i:Nat}(h:i<=16):(1:Int)<=2^i/\(2:Int)^i<=65536:=by
 have u:(2:Int)^i<=2^16:=by
  have:=Nat.pow_le_pow_right (show 0<2 by omega) h
  exact_mod_cast this
 have D:0<(2:Int)^i:=Int.pow_pos (by omega);exact⟨by omega,by simpa using u⟩
theorem X4(k:Int)(J:0<=k/\k<65536):aW prog 113 [z k] (z (ny k)):=by
 have hm:=xr k 65536 (by omega) (by omega);rw[show k%65536=k by omega] at hm;refine sP func113 ntmps113 λ w cl=>?_
 refine gA hm ?_;refine bL (λ i:Nat=>i<=16) (λ i=>⟨[(4,z i),(3,z (pf k i)),(0,z (k/2^i))],[],[]⟩) (λ i=>16-i) 0 (by omega) (by rw[show k/2^0=k by simp];exact zX) ?_;intro i Z;obtain⟨a1,a2⟩:=Mx k J.1 i Z;obtain⟨p1,p2⟩:=Xf Z;have b1:0<=k/2^i:=Int.ediv_nonneg J.1 (by omega);have b2:k/2^i<=k:=Int.ediv_le_self _ J.1;have rR:i=16->pf k i=ny k:=λ h=>by rw[h];exact Un k
 have b8:i<16->∀{Γ:bE}{I:St},bF Γ I ⟨[(4,z ((i:Int)+1)),(3,z (2*pf k i+k/2^i%2)),(0,z (k/2^i/2))],[],[]⟩->∃j:Nat,j<=16/\16-j<16-i/\bF Γ I ⟨[(4,z j),(3,z (pf k j)),(0,z (k/2^j))],[],[]⟩:=λ h _ _ hg=>⟨i+1,by omega,by omega,by
  rw[show((i+1:Nat):Int)=(i:Int)+1 by omega,show k/2^(i+1)=k/2^i/2 by rw[Int.pow_succ,<-Int.ediv_ediv_of_nonneg (by omega)],pf];exact hg⟩
 generalize pf k i=hv at*;generalize k/2^i=v at*;have gY:hv<65536:=by omega
 refine(show aJ _ _ _ _ ⟨[(4,z i),(3,z hv),(0,z v)],[],[]⟩ from ?_);refine go ?_;refine cz (λ u=>?_) (λ u=>?_)<;>try rw[u]
 ·have aN:i<16:=by have:=of_decide_eq_true u;omega
  refine A7 ?_;simp(disch:=omega) only[d6];refine bf (Co rfl rfl rfl (by omega) (by omega) (by omega)) rfl rfl rfl ?_;refine go ?_;exact b8 aN zX
 ·have aN:i=16:=by have:=of_decide_eq_false u;omega
  refine gf ?_;rw[rR aN]
theorem XY(n:Int):aW prog 90 [z n] (z (uF n)):=by
 have hm:=xr n 131072 (by omega) (by omega);have h0:=Int.emod_nonneg n (show(131072:Int)≠0 by omega);have u:=Int.emod_lt_of_pos n (show(0:Int)<131072 by omega);have hr:=X4 (n%131072/2) (by omega);unfold uF;generalize n%131072=v at*;refine sP func90 ntmps90 λ w cl=>?_
 refine gA hm ?_;refine bf (Co rfl rfl rfl (by omega) (by omega) (by omega)) rfl rfl rfl ?_;refine gA hr ?_;refine dt ?_
 rfl
theorem OQ(n:Int):aW prog 97 [z n] (z (az n).idx):=by
 refine sP func97 ntmps97 λ w cl=>?_
 refine gA (uX n) ?_;refine dt ?_
 rfl
theorem X1(n:Int):aW prog 112 [z n] (dB (az n).mark):=by
 refine sP func112 ntmps112 λ w cl=>?_
 refine gA (uX n) ?_;refine dt ?_
 rfl
set_option maxHeartbeats 4000000 in
theorem uW(l:ab)(hL:bQ l)(m:List Int)(h:Int):aW prog 52 [cF l,fg m,z h] (aV (cW l m h)):=by
 generalize A:cW l m h=aK;unfold cW at A;obtain⟨iP,fk⟩:=hL.nodes;refine sP func52 ntmps52 λ w cl=>?_
 refine gA (m4 m h) ?_;refine cA (OQ (aG m h)) ?_;refine go ?_;generalize(az (aG m h)).idx=n0 at A;refine da (gO 7 0 3 1 rfl rfl rfl) ?_;refine bL (λ p:Nat×List Int×Int=>p.1+p.2.1.length=l.nodes.toNat+1/\fL (λ n=>(az (aG m (am l n 0))).idx) l.nodes p.1 p.2.1 p.2.2=aK) (λ p=>⟨[(8,z p.2.2),(7,.aU 0 p.2.1.length (aZ p.2.1)),(3,.ptr 0 0),(4,.ptr 1 0)],[(1,[aV m]),(0,bs l)],[(0,⟨3,1,p.2.1.length⟩)]⟩) (λ p=>p.1) (l.nodes.toNat+1,[],n0) ⟨by simp,A⟩ (zX) ?_;rintro⟨k,acc,n⟩ ⟨J,A⟩;simp only at J A;refine(show aJ _ _ _ _ ⟨[(8,z n),(7,.aU 0 acc.length (aZ acc)),(3,.ptr 0 0),(4,.ptr 1 0)],[(1,[aV m]),(0,bs l)],[(0,⟨3,1,acc.length⟩)]⟩ from ?_);refine go ?_;refine cz (λ D=>?_) (λ D=>?_)<;>try rw[D]
 ·have bd:=of_decide_eq_true D;obtain⟨k,rfl⟩:∃j,k=j+1:=⟨k-1,by omega⟩;rw[fL] at A;refine gA (yU acc n (by omega)) ?_;generalize K:decide (n<1)=cc;cases cc
  ·have cK:=of_decide_eq_false K;refine go ?_;generalize h4:decide (n>l.nodes)=cc;cases cc
   ·have jM:=of_decide_eq_false h4;refine go ?_;generalize h5:decide (n∈acc)=cc;cases cc
    ·rw[if_pos ⟨by omega,by omega,of_decide_eq_false h5⟩] at A;refine go ?_;refine pA rfl ?_;rw[ku,show acc.length+1=(acc++[n]).length by simp];refine go ?_;refine dQ [] ?_;refine gQ (ll l hL n 0 (by omega)) ?_;refine cQ (m4 m (am l n 0)) ?_;refine gQ (OQ (aG m (am l n 0))) ?_;refine go ?_;exact⟨(k,acc++[n],(az (aG m (am l n 0))).idx),⟨by simp;omega,A⟩,by simp only;omega,zX⟩
    ·rw[if_neg (λ hh=>hh.2.2 (of_decide_eq_true h5))] at A;refine gf ?_;rw[<-A]
   ·have jM:=of_decide_eq_true h4;rw[if_neg (λ hh=>by omega)] at A;refine gf ?_;rw[<-A]
  ·have cK:=of_decide_eq_true K;rw[if_neg (λ hh=>by omega)] at A;refine gf ?_;rw[<-A]
 ·have bd:=of_decide_eq_false D;obtain rfl:k=0:=by omega
  rw[fL] at A;refine gf ?_;rw[<-A]
theorem Yh(l:ab)(m:List Int)(ns:List Int)(n:Int):((ns++[n]).filter λ n=>!(az (aG m (am l n 0))).mark).map (λ n=>(aG m (am l n 1),aG m (am l n 2)))=(ns.filter λ n=>!(az (aG m (am l n 0))).mark).map (λ n=>(aG m (am l n 1),aG m (am l n 2)))++(if(az (aG m (am l n 0))).mark then[] else[(aG m (am l n 1),aG m (am l n 2))]):=by
 rw[List.filter_append,List.map_append]
 congr 1
 cases l6:(az (aG m (am l n 0))).mark<;>simp[l6]
set_option maxHeartbeats 8000000 in
theorem Ct(l:ab)(hL:bQ l)(m:List Int)(h:Int):aW prog 89 [cF l,fg m,z h] (cT (hc l m h)):=by
 have wq:=jc l m h;have hC:=uW l hL m h;unfold hc;obtain⟨iP,fk⟩:=hL.nodes;generalize cW l m h=ns at*;have gY:∀i:Nat,((((ns.take i).filter λ n=>!(az (aG m (am l n 0))).mark).map λ n=>(aG m (am l n 1),aG m (am l n 2)))).length<=ns.length:=λ i=>by
  rw[List.length_map];exact Nat.le_trans (List.length_filter_le _ _) (by rw[List.length_take];omega)
 refine sP func89 ntmps89 λ w cl=>?_
 refine gA hC ?_;refine da (gO 8 0 110 2 rfl rfl rfl) ?_;refine bL (λ i:Nat=>i<=ns.length) (λ i=>⟨[(9,z i),(7,aV ns),(8,.aU 0 (((ns.take i).filter λ n=>!(az (aG m (am l n 0))).mark).map λ n=>(aG m (am l n 1),aG m (am l n 2))).length (fp (((ns.take i).filter λ n=>!(az (aG m (am l n 0))).mark).map λ n=>(aG m (am l n 1),aG m (am l n 2))))),(3,.ptr 0 0),(4,.ptr 1 0)],[(1,[aV m]),(0,bs l)],[(0,⟨110,2,(((ns.take i).filter λ n=>!(az (aG m (am l n 0))).mark).map λ n=>(aG m (am l n 1),aG m (am l n 2))).length⟩)]⟩) (λ i=>ns.length-i) 0 (by omega) (zX) ?_;intro i Z;have TV:=gY i;have eZ:i<ns.length->∀n,ns[i]?=some n->(((ns.take (i+1)).filter λ n=>!(az (aG m (am l n 0))).mark).map λ n=>(aG m (am l n 1),aG m (am l n 2)))=(((ns.take i).filter λ n=>!(az (aG m (am l n 0))).mark).map λ n=>(aG m (am l n 1),aG m (am l n 2)))++(if(az (aG m (am l n 0))).mark then[] else[(aG m (am l n 1),aG m (am l n 2))]):=λ _ n hn=>by
  rw[List.take_add_one,hn];exact Yh l m (ns.take i) n
 have rR:i=ns.length->ns.take i=ns:=λ h=>by rw[h,List.take_length]
 refine(show aJ _ _ _ _ ⟨[(9,z i),(7,aV ns),(8,.aU 0 (((ns.take i).filter λ n=>!(az (aG m (am l n 0))).mark).map λ n=>(aG m (am l n 1),aG m (am l n 2))).length (fp (((ns.take i).filter λ n=>!(az (aG m (am l n 0))).mark).map λ n=>(aG m (am l n 1),aG m (am l n 2))))),(3,.ptr 0 0),(4,.ptr 1 0)],[(1,[aV m]),(0,bs l)],[(0,⟨110,2,(((ns.take i).filter λ n=>!(az (aG m (am l n 0))).mark).map λ n=>(aG m (am l n 1),aG m (am l n 2))).length⟩)]⟩ from ?_);refine go ?_;refine cz (λ u=>?_) (λ u=>?_)<;>try rw[u]
 ·have aN:=of_decide_eq_true u;obtain⟨n,hn⟩:=j3 (l:=ns) (i:=i) (by omega) aN;have hs:=eZ (by omega) n (by simpa using hn);generalize(((ns.take i).filter λ n=>!(az (aG m (am l n 0))).mark).map λ n=>(aG m (am l n 1),aG m (am l n 2)))=ah at*;have b8:∀{Γ:bE}{I:St},bF Γ I ⟨[(9,z ((i:Int)+1)),(7,aV ns),(8,.aU 0 (ah++(if(az (aG m (am l n 0))).mark then[] else[(aG m (am l n 1),aG m (am l n 2))])).length (fp (ah++(if(az (aG m (am l n 0))).mark then[] else[(aG m (am l n 1),aG m (am l n 2))])))),(3,.ptr 0 0),(4,.ptr 1 0)],[(1,[aV m]),(0,bs l)],[(0,⟨110,2,(ah++(if(az (aG m (am l n 0))).mark then[] else[(aG m (am l n 1),aG m (am l n 2))])).length⟩)]⟩->∃j:Nat,j<=ns.length/\ns.length-j<ns.length-i/\bF Γ I ⟨[(9,z j),(7,aV ns),(8,.aU 0 (((ns.take j).filter λ n=>!(az (aG m (am l n 0))).mark).map λ n=>(aG m (am l n 1),aG m (am l n 2))).length (fp (((ns.take j).filter λ n=>!(az (aG m (am l n 0))).mark).map λ n=>(aG m (am l n 1),aG m (am l n 2))))),(3,.ptr 0 0),(4,.ptr 1 0)],[(1,[aV m]),(0,bs l)],[(0,⟨110,2,(((ns.take j).filter λ n=>!(az (aG m (am l n 0))).mark).map λ n=>(aG m (am l n 1),aG m (am l n 2))).length⟩)]⟩:=λ hg=>⟨i+1,by omega,by omega,by rw[hs,show((i+1:Nat):Int)=(i:Int)+1 by omega];exact hg⟩
  clear hs eZ rR gY;refine go ?_;refine gD [] ?_;refine ri [pI n] (gK hn) ?_;refine gQ (ll l hL n 0 (by omega)) ?_;refine cQ (m4 m (am l n 0)) ?_;refine gQ (X1 (aG m (am l n 0))) ?_;refine go ?_;generalize(az (aG m (am l n 0))).mark=mk at*;cases mk
  ·refine go ?_;refine gD [] ?_;refine ri [pI n] (gK hn) ?_;refine gQ (ll l hL n 1 (by omega)) ?_;refine cQ (m4 m (am l n 1)) ?_;refine ba ?_;refine ri [pI n] (gK hn) ?_;refine gQ (ll l hL n 2 (by omega)) ?_;refine cQ (m4 m (am l n 2)) ?_;refine ba ?_;refine nv (m:=1) aw rfl rfl rfl rfl rfl rfl rfl rfl rfl rfl rfl rfl rfl (by unfold maxLen;omega) (by show(_+_)*16<=_;omega) ?_;rw[show fp ah++[pI (aG m (am l n 1)),pI (aG m (am l n 2))]=fp (ah++[(aG m (am l n 1),aG m (am l n 2))]) from(xf ah (aG m (am l n 1),aG m (am l n 2))).symm,show ah.length+1=(ah++[(aG m (am l n 1),aG m (am l n 2))]).length by simp];refine qg ?_;exact b8 zX
  ·refine go ?_;rw[show(if true=true then([]:List (Int×Int)) else[(aG m (am l n 1),aG m (am l n 2))])=[] from rfl,List.append_nil] at b8;exact b8 zX
 ·have aN:=of_decide_eq_false u;refine gf ?_;rw[rR (by omega)]
theorem Y0(a:Int):decide (a.tmod 2=0)=!decide (a%2=1):=by
 have h:a.tmod 2=0↔a%2=0:=by rw[<-Int.dvd_iff_tmod_eq_zero,Int.dvd_iff_emod_eq_zero]
 have h0:=Int.emod_nonneg a (show(2:Int)≠0 by omega);have u:=Int.emod_lt_of_pos a (show(0:Int)<2 by omega)
 by_cases L:a%2=1
 ·rw[decide_eq_false (by rw[h];omega),decide_eq_true L];rfl
 ·rw[decide_eq_true (by rw[h];omega),decide_eq_false L];rfl
theorem Vd{P Q:bv}{x:Int×Int}(h:∀y∈P,y.1<=x.1)(hq:∀y,Q.head?=some y->x.1<y.1):r9 (P++Q) x=P++x::Q:=by
 have bN:∀y∈P,decide (y.1<=x.1)=true:=λ y hy=>decide_eq_true (h y hy)
 unfold r9;rw[List.takeWhile_append_of_pos bN,List.dropWhile_append_of_pos bN];cases Q with
 |nil=>simp
 |cons a Q=>have:=hq a rfl;simp[show¬a.1<=x.1 by omega]
theorem YG(S:bv)(x:Int×Int):kw (S++[x])=r9 (kw S) x:=by simp[kw]
theorem Ph(S:bv):(kw S).length=S.length:=(Jt S).len
theorem ON(l:ab)(hL:bQ l)(hM:iY l)(R:1<=l.buckets)(m:Int):aW prog 51 [cF l,z m,z 0] (z (fA l m 0)):=by
 by_cases h0:0<=m/\m<=l.maps-1
 ·exact OO l hL hM m 0 h0 (by omega)
 ·have A:fA l m 0=-1:=by
   unfold fA iq;rw[if_neg (by omega),if_pos (by omega)]
  have L:(decide (0<=m)&&decide (m<=l.maps-1))=false:=by rw[Bool.eq_false_iff];simp only[ne_eq,Bool.and_eq_true,decide_eq_true_eq];omega
  obtain⟨b1,b2⟩:=hM.m;obtain⟨c1,c2⟩:=hM.b;rw[A];refine sP func51 ntmps51 λ w cl=>?_
  refine go ?_;refine gD [] ?_;refine cQ (n4 m 0 (l.maps-1)) ?_;rw[L];refine gQ (q9 _ false) ?_;refine gf ?_
  rfl
abbrev rq(l:ab)(m:List Int)(ah:bv):bH:=[(3,[z 1,aV (fW ah),aV (hi ah)]),(2,[z 0,.p (.sl true 0 []),.p (.sl true 0 [])]),(1,[aV m]),(0,bs l)]
theorem Vj(ar B:bv):fW (ar++B)=fW ar++fW B:=by simp[fW]
theorem Y7(ar B:bv):hi (ar++B)=hi ar++hi B:=by simp[hi]
theorem xg(a b:List Int):aZ (a++b)=aZ a++aZ b:=by simp[aZ]
theorem Oa(a b:List Int):∀(i:Nat) q,(aZ a)[i]?=some q->(aZ (a++b))[(0:Int).toNat*1+i]?=some q:=by intro i q h;rw[show(0:Int).toNat*1+i=i by simp,xg,List.getElem?_append_left (List.getElem?_eq_some_iff.1 h).1];exact h
theorem Ob(a b:List Int)(p:Nat)(hp:p=a.length):∀(i:Nat) q,(aZ b)[i]?=some q->(aZ (a++b))[(p:Int).toNat*1+i]?=some q:=by intro i q h;subst hp;rw[Int.toNat_natCast,Nat.mul_one,xg,List.getElem?_append_right (by rw[kL];omega),kL,show a.length+i-a.length=i by omega];exact h
set_option maxHeartbeats 16000000 in
theorem XX(l:ab)(hL:bQ l)(hM:iY l)(nI:1<=l.buckets)(hn:l.nodes<=1000)(m:List Int)(mi:Int):aW prog 40 [cF l,fg m,z mi] (Gx (oH l m mi)):=by
 have qB:=ON l hL hM nI mi;generalize A:oH l m mi=aK;unfold oH at A;generalize fA l mi 0=bk at*
 by_cases u:bk<0\/(m.length:Int)<=bk
 ·rw[if_pos u] at A;subst A;refine sP func40 ntmps40 λ w cl=>?_
  refine gA qB ?_
  by_cases D:bk<0
  ·rw[show decide (bk<0)=true from decide_eq_true D];refine gf ?_
   rfl
  ·rw[show decide (bk<0)=false from decide_eq_false D];refine go ?_;rw[show decide (bk>=m.length)=true by rw[decide_eq_true_eq];omega];refine gf ?_
   rfl
 ·rw[if_neg u] at A;have D:¬bk<0:=λ h=>u (.inl h)
  have K:bk<m.length:=by omega
  have T:m[bk.toNat]?=some (aG m bk):=by unfold aG;rw[if_neg (by omega)];exact tW (by omega) K
  have rJ:=ll l hL (az (aG m bk)).idx 0 (by omega);have DB:=Ct l hL m (am l (az (aG m bk)).idx 0);have wq:=jc l m (am l (az (aG m bk)).idx 0);have h0:=hL.nodes.1;have Lt:(hc l m (am l (az (aG m bk)).idx 0)).length<=2000:=by unfold hc;rw[List.length_map];exact Nat.le_trans (List.length_filter_le _ _) (by omega)
  generalize am l (az (aG m bk)).idx 0=G at*;generalize hc l m G=aE at*;subst A;refine sP func40 ntmps40 λ w cl=>?_
  refine gA qB ?_;rw[show decide (bk<0)=false from decide_eq_false D];refine go ?_;rw[show decide (bk>=m.length)=false by rw[decide_eq_false_iff_not];omega];refine go ?_;refine ai [pI (aG m bk)] (gK T) ?_;refine gA (uX (aG m bk)) ?_;refine dQ [] ?_;refine gQ rJ ?_;refine cQ DB ?_;refine qg ?_;refine bL (λ i:Nat=>i<=aE.length) (λ i=>⟨[(11,z i),(10,cT aE),(7,.ptr 3 0),(6,.ptr 2 0)],rq l m (kw (il (aE.take i))),[]⟩) (λ i=>aE.length-i) 0 (by omega) ((nV 3 rfl rfl).trans zX) ?_;intro i Z;have iS:(kw (il (aE.take i))).length<=2000:=by rw[Ph];unfold il;rw[List.length_map];exact Nat.le_trans (List.length_filter_le _ _) (by rw[List.length_take];omega)
  have nO:∀r,aE[i]?=some r->kw (il (aE.take (i+1)))=if r.1%2=1 then r9 (kw (il (aE.take i))) (uF r.1,r.2) else kw (il (aE.take i)):=λ r hr=>by
   rw[List.take_add_one,hr];show kw (il (aE.take i++[r]))=_;rw[Og]
   by_cases h:r.1%2=1
   ·rw[if_pos h,if_pos h,YG]
   ·rw[if_neg h,if_neg h,List.append_nil]
  have rR:i=aE.length->kw (il (aE.take i))=kw (il aE):=λ h=>by rw[h,List.take_length]
  refine(show aJ _ _ _ _ ⟨[(11,z i),(10,cT aE),(7,.ptr 3 0),(6,.ptr 2 0)],rq l m (kw (il (aE.take i))),[]⟩ from ?_);have b8:∀(r:Int×Int),aE[i]?=some r->∀(Γ:bE)(I:St),bF Γ I ⟨[(11,z ((i:Int)+1)),(10,cT aE),(7,.ptr 3 0),(6,.ptr 2 0)],rq l m (if r.1%2=1 then r9 (kw (il (aE.take i))) (uF r.1,r.2) else kw (il (aE.take i))),[]⟩->∃j:Nat,j<=aE.length/\aE.length-j<aE.length-i/\bF Γ I ⟨[(11,z j),(10,cT aE),(7,.ptr 3 0),(6,.ptr 2 0)],rq l m (kw (il (aE.take j))),[]⟩:=λ r hr _ _ hg=>by
   have bh:=(List.getElem?_eq_some_iff.1 hr).1;exact⟨i+1,by omega,by omega,by rw[nO r hr,show((i+1:Nat):Int)=(i:Int)+1 by omega];exact hg⟩
  clear nO;generalize kw (il (aE.take i))=ah at*;refine go ?_;refine cz (λ h4=>?_) (λ h4=>?_)<;>try rw[h4]
  ·have jM:=of_decide_eq_true h4;obtain⟨r,hr⟩:=j3 (l:=aE) (i:=i) (by omega) jM;have b8:=b8 r (by simpa using hr);refine go ?_;refine ai [pI r.1,pI r.2] (uh hr) ?_;refine go ?_;refine bf (yV aw rfl rfl rfl rfl rfl (by omega) (by omega) rfl) rfl rfl rfl ?_;refine go ?_;refine bf (OT rfl rfl rfl (by omega)) rfl rfl rfl ?_;refine go ?_;rw[Y0]
   by_cases h5:r.1%2=1
   ·rw[decide_eq_true h5];rw[if_pos h5] at b8;refine go ?_;refine ai [pI r.1,pI r.2] (uh hr) ?_;refine go ?_;refine bf (yV aw rfl rfl rfl rfl rfl (by omega) (by omega) rfl) rfl rfl rfl ?_;refine gA (XY r.1) ?_;generalize uF r.1=kk at*;refine AG (dE:=bv×bv) (.exit 2) (λ p=>⟨[(13,z p.1.length),(12,z kk),(11,z i),(10,cT aE),(7,.ptr 3 0),(6,.ptr 2 0)],rq l m ah,[]⟩) (λ p=>ah=p.1++p.2/\(∀y∈p.1,y.1<=kk)/\∀y,p.2.head?=some y->kk<y.1) ?_ ?_
    ·refine bL (λ p:bv×bv=>ah=p.1++p.2/\∀y∈p.1,y.1<=kk) (λ p=>⟨[(13,z p.1.length),(12,z kk),(11,z i),(10,cT aE),(7,.ptr 3 0),(6,.ptr 2 0)],rq l m ah,[]⟩) (λ p=>p.2.length) ([],ah) ⟨rfl,λ y hy=>by cases hy⟩ (zX) ?_;rintro⟨P,Q⟩ ⟨hT,hP⟩;simp only at hT hP;refine(show aJ _ _ _ _ ⟨[(13,z P.length),(12,z kk),(11,z i),(10,cT aE),(7,.ptr 3 0),(6,.ptr 2 0)],rq l m ah,[]⟩ from ?_);have DC:ah.length=P.length+Q.length:=by rw[hT];simp
     have mM:(fW ah).length=ah.length:=List.length_map _;rcases Q with _|⟨y,Q⟩
     ·refine go ?_;rw[show decide ((P.length:Int)<((fW ah).length:Nat))=false by rw[decide_eq_false_iff_not];simp at DC;omega];refine go ?_;exact⟨rfl,(P,[]),⟨hT,hP,λ y hy=>by cases hy⟩,zX⟩
     ·have hy:(fW ah)[(P.length:Int).toNat]?=some y.1:=by rw[hT];simp[fW]
      simp only[List.length_cons] at DC;refine go ?_;rw[show decide ((P.length:Int)<((fW ah).length:Nat))=true by rw[decide_eq_true_eq];omega];refine go ?_;refine ai [pI y.1] (gK hy) ?_;refine go ?_
      by_cases h6:y.1<=kk
      ·rw[decide_eq_true h6];refine go ?_;refine⟨(P++[y],Q),⟨by simp only;rw[hT];simp,λ aT hz=>?_⟩,by simp only[List.length_cons];omega,?_⟩
       ·rcases List.mem_append.1 hz with hz|hz
        ·exact hP aT hz
        ·have:aT=y:=by simpa using hz
         subst this;exact h6
       ·show bF _ _ ⟨[(13,z (P++[y]).length),(12,z kk),(11,z i),(10,cT aE),(7,.ptr 3 0),(6,.ptr 2 0)],rq l m ah,[]⟩;rw[show((P++[y]).length:Int)=(P.length:Int)+1 by simp];exact zX
      ·rw[decide_eq_false h6];refine go ?_;exact⟨rfl,(P,y::Q),⟨hT,hP,λ aT hz=>by simp at hz;subst hz;omega⟩,zX⟩
    rintro bS ⟨P,Q⟩ ⟨hT,hP,hQ⟩ eA;simp only at hT hP hQ;refine zR (zM (da eA ?_));clear eA;refine(show aJ _ _ _ _ ⟨[(13,z P.length),(12,z kk),(11,z i),(10,cT aE),(7,.ptr 3 0),(6,.ptr 2 0)],rq l m ah,[]⟩ from ?_);subst hT;rw[Vd (x:=(kk,r.2)) hP hQ] at b8;rw[List.length_append] at iS;have nL:(fW P).length=P.length:=List.length_map _;have kV:(fW Q).length=Q.length:=List.length_map _;have wN:(hi P).length=P.length:=List.length_map _;have UO:(hi Q).length=Q.length:=List.length_map _;have HI:(fW (P++Q)).length=P.length+Q.length:=by rw[fW,List.length_map,List.length_append]
    have aau:(hi (P++Q)).length=P.length+Q.length:=by rw[hi,List.length_map,List.length_append]
    have LK:aV (fW (P++(kk,r.2)::Q))=.p (.sl false (P.length+1+Q.length) ((aZ (fW P)++[pI kk])++aZ (fW Q))):=by
     show F.p (.sl false _ _)=_
     congr 2
     ·simp[fW];omega
     ·simp[fW,aZ]
    have LM:aV (hi (P++(kk,r.2)::Q))=.p (.sl false (P.length+1+Q.length) ((aZ (hi P)++[pI r.2])++aZ (hi Q))):=by
     show F.p (.sl false _ _)=_
     congr 2
     ·simp[hi];omega
     ·simp[hi,aZ]
    have bJ:=Oa (fW P) (fW Q);have bg:=Ob (fW P) (fW Q) P.length nL.symm;have MI:=Oa (hi P) (hi Q);have Ef:=Ob (hi P) (hi Q) P.length wN.symm;rw[<-Vj] at bJ bg;rw[<-Y7] at MI Ef;have D6:(aZ (fW P)).length=P.length*1:=by rw[kL,nL];omega
    have Uq:(aZ (fW Q)).length=Q.length*1:=by rw[kL,kV];omega
    have Ur:(aZ (hi P)).length=P.length*1:=by rw[kL,wN];omega
    have Us:(aZ (hi Q)).length=Q.length*1:=by rw[kL,UO];omega
    unfold rq at b8;rw[LK,LM] at b8;clear LK LM;refine(show aJ _ _ _ _ ⟨[(13,z P.length),(12,z kk),(11,z i),(10,cT aE),(7,.ptr 3 0),(6,.ptr 2 0)],[(3,[z 1,aV (fW (P++Q)),aV (hi (P++Q))]),(2,[z 0,.p (.sl true 0 []),.p (.sl true 0 [])]),(1,[aV m]),(0,bs l)],[]⟩ from ?_);generalize aZ (fW P)=KP at*;generalize aZ (fW Q)=KQ at*;generalize aZ (hi P)=VP at*;generalize aZ (hi Q)=VQ at*;generalize fW (P++Q)=KT at*;generalize hi (P++Q)=VT at*;refine go ?_;refine gD [3] ?_;refine zv aw rfl rfl rfl (by kernel_rfl) ?_;refine ba ?_;refine cD (Ai aw (P.length) (KP) rfl rfl rfl rfl rfl rfl rfl (by omega) (by omega) (by omega) (by first|omega|(simp;omega)|simp) (by first|(simp;done)|(simp;omega)) (bJ)) rfl rfl ?_;refine ba ?_;refine E3 (iD:=0) (m:=P.length) (ps:=[]) (qs:=KP) aw 0 rfl rfl rfl rfl rfl rfl rfl rfl rfl rfl rfl rfl rfl D6 (by unfold maxLen;omega) (by show(_+_)*8<=_;omega) ?_;refine ba ?_;refine nv (m:=1) (qs:=[pI kk]) aw rfl rfl rfl rfl rfl rfl rfl rfl rfl rfl rfl rfl rfl (by unfold maxLen;omega) (by show(_+_)*8<=_;omega) ?_;refine ba ?_;refine zv aw rfl rfl rfl (by kernel_rfl) ?_;refine ba ?_;refine cD (Ai aw (Q.length) (KQ) rfl rfl rfl rfl rfl rfl rfl (by omega) (by omega) (by omega) (by first|omega|(simp;omega)|simp) (by first|(simp;done)|(simp;omega)) (bg)) rfl rfl ?_;refine ba ?_;refine nv (m:=Q.length) (qs:=KQ) aw rfl rfl rfl rfl rfl rfl rfl rfl rfl rfl rfl rfl Uq (by unfold maxLen;omega) (by show(_+_)*8<=_;omega) ?_
    refine qg ?_;refine da (nV 3 rfl rfl) ?_;refine da (bS:=⟨[(13,z P.length),(12,z kk),(11,z i),(10,cT aE),(7,.ptr 3 0),(6,.ptr 2 0)],[(3,[z 1,.p (.sl false (P.length+1+Q.length) ((KP++[pI kk])++KQ)),aV VT]),(2,[z 0,.p (.sl true 0 []),.p (.sl true 0 [])]),(1,[aV m]),(0,bs l)],[]⟩) (by rw[show P.length+1+Q.length=0+P.length+1+Q.length by omega];exact zX) ?_;refine gD [3] ?_;refine zv aw rfl rfl rfl (by kernel_rfl) ?_;refine ba ?_;refine cD (Ai aw (P.length) (VP) rfl rfl rfl rfl rfl rfl rfl (by omega) (by omega) (by omega) (by first|omega|(simp;omega)|simp) (by first|(simp;done)|(simp;omega)) (MI)) rfl rfl ?_;refine ba ?_;refine E3 (iD:=0) (m:=P.length) (ps:=[]) (qs:=VP) aw 0 rfl rfl rfl rfl rfl rfl rfl rfl rfl rfl rfl rfl rfl Ur (by unfold maxLen;omega) (by show(_+_)*8<=_;omega) ?_;refine ba ?_;refine ri [pI r.1,pI r.2] (uh hr) ?_;refine ba ?_;refine cD (yV aw rfl rfl rfl rfl rfl (by omega) (by omega) rfl) rfl rfl ?_;refine ba ?_;refine nv (m:=1) (qs:=[pI r.2]) aw rfl rfl rfl rfl rfl rfl rfl rfl rfl rfl rfl rfl rfl (by unfold maxLen;omega) (by show(_+_)*8<=_;omega) ?_;refine ba ?_;refine zv aw rfl rfl rfl (by kernel_rfl) ?_;refine ba ?_;refine cD (Ai aw (Q.length) (VQ) rfl rfl rfl rfl rfl rfl rfl (by omega) (by omega) (by omega) (by first|omega|(simp;omega)|simp) (by first|(simp;done)|(simp;omega)) (Ef)) rfl rfl ?_;refine ba ?_
    refine nv (m:=Q.length) (qs:=VQ) aw rfl rfl rfl rfl rfl rfl rfl rfl rfl rfl rfl rfl Us (by unfold maxLen;omega) (by show(_+_)*8<=_;omega) ?_;refine qg ?_;refine b8 _ _ ((nV 3 rfl rfl).trans ?_);rw[show P.length+1+Q.length=0+P.length+1+Q.length by omega];exact zX
   ·rw[decide_eq_false h5];rw[if_neg h5] at b8;refine go ?_;exact b8 _ _ zX
  ·have jM:=of_decide_eq_false h4;have:=rR (by omega);refine gf ?_;rw[this]
end Go.Proofs.YtcnefjfboagbmaaGreat
namespace Go.Proofs.YtcnefjfboagbmaaGreat.Em
open Go.Proofs.Tryz
open Go.RowKit
set_option maxRecDepth 100000
theorem oP(xs:List Int)(i:Int):aW prog 87 [fg xs,z i] (z (aG xs i)):=by
 generalize A:aG xs i=aK;unfold aG at A;refine sP func87 ntmps87 λ w cl=>?_
 refine go ?_;generalize u:decide (i<0)=cc;cases cc
 ·have aN:=of_decide_eq_false u;refine go ?_;generalize D:decide ((xs.length:Int)<=i)=cc;cases cc
  ·have bd:=of_decide_eq_false D;rw[if_neg (by omega)] at A;have hg:=tW (xs:=xs) (i:=i) (by omega) (by omega);refine go ?_;refine ai [pI (fe xs i)] (gK hg) ?_;refine gf ?_;rw[<-A]
  ·rw[if_pos (.inr (of_decide_eq_true D))] at A;refine gf ?_;rw[<-A]
 ·rw[if_pos (.inl (of_decide_eq_true u))] at A;refine gf ?_;rw[<-A]
set_option maxHeartbeats 4000000 in
theorem uJ(l:ab)(hL:bQ l)(m:List Int)(s:Int)(hm:∀x∈m,x<9223372036854775808):aW prog 47 [cF l,fg m,z s] (aV (cW l m s)):=by
 generalize A:cW l m s=aK;unfold cW at A;have hN:=hL.nodes;obtain⟨iP,fk⟩:=hN;have mJ:∀i,aG m i<9223372036854775808:=by
  intro i;unfold aG fe;split
  ·omega
  ·rename_i h;have bh:i.toNat<m.length:=by omega
   have:m.getD i.toNat 0=m[i.toNat]:=by simp[bh]
   rw[this];exact hm _ (List.getElem_mem bh)
 refine sP func47 ntmps47 λ w cl=>?_
 refine go ?_;refine cA (PM l hL s) ?_;refine gG ?_;refine mg ?_;refine oQ ?_;refine oQ ?_;refine tT ?_;refine gG ?_;refine mg ?_;refine Gd rfl ?_;generalize u:decide (hd l s<0)=cc;cases cc
 ·rw[if_neg (of_decide_eq_false u)] at A;refine AP ?_;refine C5 ?_;refine mg ?_;refine oQ ?_;refine tT ?_;refine gG ?_;refine mg ?_;refine da (gO 8 0 3 1 rfl rfl rfl) ?_;refine Ge rfl rfl rfl rfl rfl rfl rfl rfl λ r=>?_
  refine p9 (nW λ aH bz bZ Z=>?_);refine gA (oP m (hd l s)) ?_;refine cA (jS (aG m (hd l s))) ?_;refine go ?_;refine mc ?_;refine p9 (zi ?_);generalize hn:(az (aG m (hd l s))).idx=n0 at A;have BF:n0<9223372036854775808:=by rw[<-hn];have:=(j8 (aG m (hd l s))).2;omega
  refine ID (λ p:Nat×List Int×Int=>p.1+p.2.1.length=l.nodes.toNat+1/\p.2.1.Nodup/\(∀x∈p.2.1,1<=x/\x<=l.nodes)/\p.2.2<9223372036854775808/\fL (λ n=>aG m (am l n 0)) l.nodes p.1 p.2.1 p.2.2=aK) (λ p=>⟨[(9,.p (.raw (.map (some r)))),(10,z p.2.2),(8,.aU 0 p.2.1.length (aZ p.2.1)),(3,.ptr 0 0),(4,.ptr 1 0)],[(1,[aV m]),(0,bs l)],[(0,⟨3,1,p.2.1.length⟩)]⟩) (λ p=>p.2.1) (λ p=>p.1) (l.nodes.toNat+1,[],n0) ⟨by simp,List.nodup_nil,by simp,BF,A⟩ rfl (λ aH bz bZ=>zX) ?_;rintro⟨k,acc,n⟩ ⟨J,hnd,dc,ic,A⟩;simp only at J hnd dc ic A;have cg:=zj l.nodes.toNat acc hnd (λ x T=>by have:=dc x T;omega);obtain⟨k,rfl⟩:∃j,k=j+1:=⟨k-1,by omega⟩;rw[fL] at A;refine(show oO _ _ _ _ _ acc ⟨[(9,.p (.raw (.map (some r)))),(10,z n),(8,.aU 0 acc.length (aZ acc)),(3,.ptr 0 0),(4,.ptr 1 0)],[(1,[aV m]),(0,bs l)],[(0,⟨3,1,acc.length⟩)]⟩ from ?_);refine p9 (nW λ aH bz bZ Z=>?_);refine gA (jD l hL n 0 (by omega) (by omega)) ?_;have pZ:=IK hL (n:=n) (i:=0) (by omega);generalize D:decide (am l n 0>=0)=cc;cases cc
  ·have bd:=of_decide_eq_false D;rw[if_neg (λ hh=>bd (pZ.2 ⟨hh.1,hh.2.1⟩))] at A;refine go ?_;refine p7 (p7 (zf (mc (nW λ aH bz bZ Z=>?_))));refine gf ?_;rw[<-A]
  ·have bd:=pZ.1 (of_decide_eq_true D);refine go ?_;refine F6 aw Z rfl underlying125 underlying3 rfl rfl rfl rfl rfl rfl rfl ?_;refine go ?_;generalize K:decide (n∈acc)=cc;cases cc
   ·have cK:=of_decide_eq_false K;rw[if_pos ⟨bd.1,bd.2,cK⟩] at A;refine go ?_;refine mc ?_;refine zi (p9 (IE ?_));refine zb aw rfl rfl rfl rfl ?_;refine zb aw rfl rfl rfl rfl ?_;refine Iy rfl rfl underlying125 underlying3 rfl rfl rfl rfl cK ?_;refine Ix (mc (nW λ aH bz bZ Z=>?_));refine go ?_;refine pA rfl ?_;rw[ku,show acc.length+1=(acc++[n]).length by simp];refine go ?_;refine dQ [] ?_;refine gQ (jD l hL n 0 (by omega) (by omega)) ?_;refine cQ (oP m (am l n 0)) ?_;refine qg ?_;refine Iz (mc ?_);exact⟨(k,acc++[n],aG m (am l n 0)),⟨by simp;omega,by
     rw[List.nodup_append];exact⟨hnd,by simp,λ a ha b R=>by simp at R;subst R;exact λ e=>cK (e▸ha)⟩,λ x T=>by
     simp only[List.mem_append,List.mem_singleton] at T;rcases T with T|rfl
     ·exact dc x T
     ·exact bd,mJ _,A⟩,by simp only;omega,rfl,λ aH bz bZ=>zX⟩
   ·rw[if_neg (λ hh=>hh.2.2 (of_decide_eq_true K))] at A;refine go ?_;refine p7 (p7 (zf (mc (nW λ aH bz bZ Z=>?_))));refine gf ?_;rw[<-A]
 ·rw[if_pos (of_decide_eq_true u)] at A;refine gf ?_;rw[<-A]
  rfl
theorem jc(l:ab)(m:List Int)(s:Int):(cW l m s).length<=l.nodes.toNat+1:=by
 unfold cW;split
 ·simp
 ·have:=AO (nx:=λ n=>aG m (am l n 0)) (N:=l.nodes) (l.nodes.toNat+1) [] (az (aG m (hd l s))).idx
  simpa using this
theorem Cf(l:ab)(m:List Int)(s:Int):∀x∈cW l m s,1<=x/\x<=l.nodes:=by
 unfold cW;split
 ·simp
 ·exact Dc _ _ _ (by simp)
set_option maxHeartbeats 4000000 in
theorem CA(l:ab)(hL:bQ l)(m:List Int)(s:Int)(hm:∀x∈m,x<9223372036854775808):aW prog 38 [cF l,fg m,z s] (aV (hc l m s)):=by
 have wa:=Cf l m s;have wq:=jc l m s;have hC:=uJ l hL m s hm;unfold hc;obtain⟨iP,fk⟩:=hL.nodes;generalize cW l m s=ns at*;refine sP func38 ntmps38 λ w cl=>?_
 refine gA hC ?_;refine da (gO 7 0 3 1 rfl rfl rfl) ?_;refine bL (λ i:Nat=>i<=ns.length) (λ i=>⟨[(15,z i),(14,z ns.length),(13,aV ns),(7,.aU 0 i (aZ ((ns.take i).map λ n=>aG m (am l n 1)))),(3,.ptr 0 0),(4,.ptr 1 0)],[(1,[aV m]),(0,bs l)],[(0,⟨3,1,i⟩)]⟩) (λ i=>ns.length-i) 0 (by omega) (zX) ?_;intro i Z;refine go ?_;refine cz (λ u=>?_) (λ u=>?_)<;>try rw[u]
 ·have aN:=of_decide_eq_true u;obtain⟨n,hn⟩:=j3 (l:=ns) (i:=i) (by omega) aN;have fy:=wa n (by simp only[Int.toNat_natCast] at hn;exact List.mem_of_getElem? hn);refine go ?_;refine ai [pI n] (gK hn) ?_;refine go ?_;refine dQ [] ?_;refine gQ (jD l hL n 1 (by omega) (by omega)) ?_;refine cQ (oP m (am l n 1)) ?_;refine ba ?_;refine nv aw rfl rfl rfl rfl rfl rfl rfl rfl rfl rfl rfl rfl rfl (by unfold maxLen;omega) (by show(_+_)*8<=_;omega) ?_;have ht:ns.take (i+1)=ns.take i++[n]:=by
   rw[List.take_add_one];simp only[Int.toNat_natCast] at hn;rw[hn];rfl
  rw[ku,show(ns.take i).map (λ n=>aG m (am l n 1))++[aG m (am l n 1)]=(ns.take (i+1)).map (λ n=>aG m (am l n 1)) by rw[ht];simp];refine qg ?_;exact⟨i+1,by omega,by omega,zX⟩
 ·have aN:=of_decide_eq_false u;refine gf ?_;rw[List.take_of_length_le (by omega)];simp only[aV,List.length_map];rw[show ns.length=i by omega]
theorem X7(l:ab)(hL:bQ l)(s:Int):aW prog 99 [cF l,z s] (z (hd l s)):=by
 obtain⟨a1,a2⟩:=hL.stack;obtain⟨b1,b2⟩:=hL.bo;obtain⟨c1,c2⟩:=hL.bm;have A:hd l s=if(decide (0<=s)&&decide (s<=l.bo-1)) then IntKind.i64.wrap (l.stack+IntKind.i64.wrap ((l.bm+1)*s)) else-1:=by
  unfold hd iq;split
  ·rw[if_neg];simp only[Bool.and_eq_true,decide_eq_true_eq];omega
  ·rename_i hn;have kW:0<=s*(1+l.bm):=Int.mul_nonneg (by omega) (by omega);have lD:s*(1+l.bm)<=1000000*9:=Int.mul_le_mul (by omega) (by omega) (by omega) (by omega);rw[if_pos (by simp only[Bool.and_eq_true,decide_eq_true_eq];omega),Int.mul_comm,Int.add_comm 1 l.bm] at*;rw[d6 (n:=(l.bm+1)*s) (by omega) (by omega),d6 (by omega) (by omega)];omega
 rw[A];refine sP func99 ntmps99 λ w cl=>?_
 refine go ?_;refine dQ [] ?_;refine gQ (n4 s 0 (l.bo-1)) ?_;refine cQ (q9 _ (decide (0<=s)&&decide (s<=l.bo-1))) ?_;refine ba ?_;refine gf ?_
 rfl
set_option maxHeartbeats 4000000 in
theorem uW(l:ab)(hL:bQ l)(m:List Int)(s:Int):aW prog 54 [cF l,fg m,z s] (aV (cW l m s)):=by
 generalize A:cW l m s=aK;unfold cW at A;obtain⟨iP,fk⟩:=hL.nodes;refine sP func54 ntmps54 λ w cl=>?_
 refine gA (X7 l hL s) ?_;generalize u:decide (hd l s<0)=cc;cases cc
 ·rw[if_neg (of_decide_eq_false u)] at A;refine gA (m4 m (hd l s)) ?_;refine cA (uX (aG m (hd l s))) ?_;refine go ?_;generalize(az (aG m (hd l s))).idx=n0 at A;refine da (gO 8 0 3 1 rfl rfl rfl) ?_;refine bL (λ p:Nat×List Int×Int=>p.1+p.2.1.length=l.nodes.toNat+1/\fL (λ n=>aG m (am l n 0)) l.nodes p.1 p.2.1 p.2.2=aK) (λ p=>⟨[(10,z p.2.2),(8,.aU 0 p.2.1.length (aZ p.2.1)),(3,.ptr 0 0),(4,.ptr 1 0)],[(1,[aV m]),(0,bs l)],[(0,⟨3,1,p.2.1.length⟩)]⟩) (λ p=>p.1) (l.nodes.toNat+1,[],n0) ⟨by simp,A⟩ (zX) ?_;rintro⟨k,acc,n⟩ ⟨J,A⟩;simp only at J A;refine(show aJ _ _ _ _ ⟨[(10,z n),(8,.aU 0 acc.length (aZ acc)),(3,.ptr 0 0),(4,.ptr 1 0)],[(1,[aV m]),(0,bs l)],[(0,⟨3,1,acc.length⟩)]⟩ from ?_);refine go ?_;refine cz (λ D=>?_) (λ D=>?_)<;>try rw[D]
  ·have bd:=of_decide_eq_true D;obtain⟨k,rfl⟩:∃j,k=j+1:=⟨k-1,by omega⟩;rw[fL] at A;refine gA (yU acc n (by omega)) ?_;generalize K:decide (n<1)=cc;cases cc
   ·have cK:=of_decide_eq_false K;refine go ?_;generalize h4:decide (n>l.nodes)=cc;cases cc
    ·have jM:=of_decide_eq_false h4;refine go ?_;generalize h5:decide (n∈acc)=cc;cases cc
     ·rw[if_pos ⟨by omega,by omega,of_decide_eq_false h5⟩] at A;refine go ?_;refine pA rfl ?_;rw[ku,show acc.length+1=(acc++[n]).length by simp];refine go ?_;refine dQ [] ?_;refine gQ (ll l hL n 0 (by omega)) ?_;refine cQ (m4 m (am l n 0)) ?_;refine qg ?_;exact⟨(k,acc++[n],aG m (am l n 0)),⟨by simp;omega,A⟩,by simp only;omega,zX⟩
     ·rw[if_neg (λ hh=>hh.2.2 (of_decide_eq_true h5))] at A;refine gf ?_;rw[<-A]
    ·have jM:=of_decide_eq_true h4;rw[if_neg (λ hh=>by omega)] at A;refine gf ?_;rw[<-A]
   ·have cK:=of_decide_eq_true K;rw[if_neg (λ hh=>by omega)] at A;refine gf ?_;rw[<-A]
  ·have bd:=of_decide_eq_false D;obtain rfl:k=0:=by omega
   rw[fL] at A;refine gf ?_;rw[<-A]
 ·rw[if_pos (of_decide_eq_true u)] at A;refine gf ?_;rw[<-A]
  rfl
set_option maxHeartbeats 4000000 in
theorem Ct(l:ab)(hL:bQ l)(m:List Int)(s:Int):aW prog 41 [cF l,fg m,z s] (aV (hc l m s)):=by
 have wq:=jc l m s;have hC:=uW l hL m s;unfold hc;obtain⟨iP,fk⟩:=hL.nodes;generalize cW l m s=ns at*;refine sP func41 ntmps41 λ w cl=>?_
 refine gA hC ?_;refine da (gO 8 0 3 1 rfl rfl rfl) ?_;refine bL (λ i:Nat=>i<=ns.length) (λ i=>⟨[(9,z i),(7,aV ns),(8,.aU 0 i (aZ ((ns.take i).map λ n=>aG m (am l n 1)))),(3,.ptr 0 0),(4,.ptr 1 0)],[(1,[aV m]),(0,bs l)],[(0,⟨3,1,i⟩)]⟩) (λ i=>ns.length-i) 0 (by omega) (zX) ?_;intro i Z;refine go ?_;refine cz (λ u=>?_) (λ u=>?_)<;>try rw[u]
 ·have aN:=of_decide_eq_true u;obtain⟨n,hn⟩:=j3 (l:=ns) (i:=i) (by omega) aN;refine go ?_;refine gD [] ?_;refine ri [pI n] (gK hn) ?_;refine gQ (ll l hL n 1 (by omega)) ?_;refine cQ (m4 m (am l n 1)) ?_;refine ba ?_;refine nv aw rfl rfl rfl rfl rfl rfl rfl rfl rfl rfl rfl rfl rfl (by unfold maxLen;omega) (by show(_+_)*8<=_;omega) ?_;have ht:ns.take (i+1)=ns.take i++[n]:=by
   rw[List.take_add_one];simp only[Int.toNat_natCast] at hn;rw[hn];rfl
  rw[ku,show(ns.take i).map (λ n=>aG m (am l n 1))++[aG m (am l n 1)]=(ns.take (i+1)).map (λ n=>aG m (am l n 1)) by rw[ht];simp];refine qg ?_;exact⟨i+1,by omega,by omega,zX⟩
 ·have aN:=of_decide_eq_false u;refine gf ?_;rw[List.take_of_length_le (by omega)];simp only[aV,List.length_map];rw[show ns.length=i by omega]
end Go.Proofs.YtcnefjfboagbmaaGreat.Em
namespace Go.Proofs.YtcnefjfboagbmaaGreat
open Go.Proofs.Tryz
open Go.RowKit
set_option maxRecDepth 100000
structure OL(l:ab):Prop where
 ok:bQ l
 m:iY l
 b:1<=l.buckets
 n:0<=l.nodes/\l.nodes<=1000
 maps:0<=l.maps/\l.maps<=8
 bo:0<=l.bo/\l.bo<=8
 aL:0<=l.aL/\l.aL<=8
abbrev Di(c:xI):F:=.agg [z c.1,aV c.2.1,aV c.2.2]
def xL(m:List Int):Prop:=∀x∈m,x<9223372036854775808
theorem Cg(l:ab)(hO:OL l)(m:List Int)(hm:xL m)(kind i:Int):aW prog 14 [cF l,fg m,z kind,z i] (Di (lh l m kind i)):=by
 have u:=VW l hO.ok hO.m hO.n.2 m i;have D:=Em.CA l hO.ok m i hm;have K:=Sg.CA l hO.ok m i hm;generalize A:lh l m kind i=aK;unfold lh at A;refine sP func14 ntmps14 λ w cl=>?_
 refine go ?_
 by_cases k1:kind=1
 ·rw[if_pos k1] at A;rw[decide_eq_true k1];refine gA u ?_;refine dt ?_;rw[<-A]
 ·rw[if_neg k1] at A;rw[decide_eq_false k1];refine go ?_
  by_cases k2:kind=2
  ·rw[if_pos k2] at A;rw[decide_eq_true k2];refine gA D ?_;refine dt ?_;rw[<-A,k2]
   rfl
  ·rw[if_neg k2] at A;rw[decide_eq_false k2];refine go ?_
   by_cases k3:kind=3
   ·rw[if_pos k3] at A;rw[decide_eq_true k3];refine gA K ?_;refine dt ?_;rw[<-A,k3]
    rfl
   ·rw[if_neg k3] at A;rw[decide_eq_false k3];refine gf ?_;rw[<-A]
    rfl
theorem X2(l:ab)(hO:OL l)(m:List Int)(hm:xL m)(kind i:Int):aW prog 15 [cF l,fg m,z kind,z i] (Di (lh l m kind i)):=by
 have u:=XX l hO.ok hO.m hO.b hO.n.2 m i;have D:=Em.Ct l hO.ok m i;have K:=Sg.Ct l hO.ok m i hm;generalize A:lh l m kind i=aK;unfold lh at A;refine sP func15 ntmps15 λ w cl=>?_
 refine go ?_
 by_cases k1:kind=1
 ·rw[if_pos k1] at A;rw[decide_eq_true k1];refine gA u ?_;refine dt ?_;rw[<-A]
 ·rw[if_neg k1] at A;rw[decide_eq_false k1];refine go ?_
  by_cases k2:kind=2
  ·rw[if_pos k2] at A;rw[decide_eq_true k2];refine gA D ?_;refine dt ?_;rw[<-A]
   rfl
  ·rw[if_neg k2] at A;rw[decide_eq_false k2];refine go ?_
   by_cases k3:kind=3
   ·rw[if_pos k3] at A;rw[decide_eq_true k3];refine gA K ?_;refine dt ?_;rw[<-A]
    rfl
   ·rw[if_neg k3] at A;rw[decide_eq_false k3];refine gf ?_;rw[<-A]
    rfl
theorem AT(a b:xI)(u:a.2.1.length<=1000000000)(D:a.2.2.length<=1000000000):aW prog 13 [Di a,Di b] (dB (decide (a=b))):=by
 obtain⟨a1,a2,a3⟩:=a;obtain⟨b1,b2,b3⟩:=b;simp only at u D;have i1:=H9 a2 b2 u;have i2:=H9 a3 b3 D;have A:decide ((a1,a2,a3)=(b1,b2,b3))=(decide (a1=b1)&&(decide (a2=b2)&&decide (a3=b3))):=by rw[Bool.eq_iff_iff];simp only[decide_eq_true_eq,Bool.and_eq_true,Prod.mk.injEq]
 rw[A];refine sP func13 ntmps13 λ w cl=>?_
 refine go ?_;generalize k1:decide (a1=b1)=cc;cases cc
 ·refine gf ?_
  rfl
 ·refine gA i1 ?_;generalize k2:decide (a2=b2)=cc;cases cc
  ·refine gf ?_
   rfl
  ·refine gA i2 ?_;refine dt ?_
   rfl
def b5(l:ab)(m:List Int)(k:Nat):List Int:=(List.range k).flatMap λ(o:Nat)=>p6 l m o
def cX(l:ab)(m:List Int)(k:Nat):List Int:=(List.range k).flatMap λ(o:Nat)=>Em.cW l m o
def fO(l:ab)(m:List Int)(k:Nat):List Int:=(List.range k).flatMap λ(o:Nat)=>Sg.cW l m o
theorem NJ(l:ab)(m:List Int)(k:Nat):b5 l m (k+1)=b5 l m k++p6 l m k:=by simp[b5,List.range_succ]
theorem NP(l:ab)(m:List Int)(k:Nat):cX l m (k+1)=cX l m k++Em.cW l m k:=by simp[cX,List.range_succ]
theorem NH(l:ab)(m:List Int)(k:Nat):fO l m (k+1)=fO l m k++Sg.cW l m k:=by simp[fO,List.range_succ]
theorem IS(l:ab)(m:List Int):mR l m=b5 l m l.maps.toNat++cX l m l.bo.toNat++fO l m l.aL.toNat:=rfl
theorem rE{f:Nat->List Int}{N:Nat}(h:∀o,(f o).length<=N):∀k,((List.range k).flatMap f).length<=k*N
 |0=>by simp
 |k+1=>by
  have u:=rE h k;have D:=h k;rw[List.range_succ,List.flatMap_append,List.length_append,Nat.add_mul];simp only[List.flatMap_cons,List.flatMap_nil,List.append_nil];omega
theorem IC(l:ab)(m:List Int)(o:Int):(p6 l m o).length<=l.nodes.toNat+2:=by
 unfold p6;split
 ·simp
 ·have:=jc l m (am l (az (aG m (fA l o 0))).idx 0);rw[List.length_cons];omega
theorem NW:(az 0).idx=0:=by decide
theorem QY{dE:Type}{P:Program}{Γ:bE}{Q:Exit->St->Prop}{x y:Code}{I:St}(bn:dE->St)(ok:dE->Prop)(u:aJ P Γ x (λ ex bS=>ex=.normal/\∃i,ok i/\bF Γ bS (bn i)) I)(D:∀i,ok i->aJ P Γ y Q (bn i)):aJ P Γ x (ql (aJ P Γ y Q) Q) I:=
 tS u λ ex bS h=>by
  obtain⟨rfl,i,Z,hg⟩:=h;exact da hg (D i Z)
set_option maxHeartbeats 16000000 in
theorem X3(l:ab)(hO:OL l)(m:List Int)(_:xL m):aW prog 18 [cF l,fg m] (aV (mR l m)):=by
 generalize A:mR l m=aK;rw[IS] at A;have hL:=hO.ok;have hM:=hO.m;obtain⟨n0,n1⟩:=hO.n;obtain⟨p0,p1⟩:=hO.maps;obtain⟨q0,q1⟩:=hO.bo;obtain⟨r0,r1⟩:=hO.aL;have b1:∀k,(b5 l m k).length<=k*1002:=rE λ o=>Nat.le_trans (IC l m o) (by omega)
 have b2:∀k,(cX l m k).length<=k*1002:=rE λ o=>Nat.le_trans (Em.jc l m o) (by omega)
 have b3:∀k,(fO l m k).length<=k*1002:=rE λ o=>Nat.le_trans (Sg.jc l m o) (by omega)
 refine sP func18 ntmps18 λ w cl=>?_
 refine go ?_;refine da (gO 5 0 3 1 rfl rfl rfl) ?_;refine bL (λ i:Nat=>i<=l.maps.toNat) (λ i=>⟨[(6,z i),(5,.aU 0 (b5 l m i).length (aZ (b5 l m i))),(2,.ptr 0 0),(3,.ptr 1 0)],[(1,[aV m]),(0,bs l)],[(0,⟨3,1,(b5 l m i).length⟩)]⟩) (λ i=>l.maps.toNat-i) 0 (by omega) (zX) ?_;intro i Z;refine(show aJ _ _ _ _ ⟨[(6,z i),(5,.aU 0 (b5 l m i).length (aZ (b5 l m i))),(2,.ptr 0 0),(3,.ptr 1 0)],[(1,[aV m]),(0,bs l)],[(0,⟨3,1,(b5 l m i).length⟩)]⟩ from ?_);have R:=b1 i;refine go ?_
 by_cases u:i<l.maps.toNat
 ·rw[show decide ((i:Int)<l.maps)=true by rw[decide_eq_true_eq];omega];have hX:∃ae,ae=p6 l m i:=⟨_,rfl⟩;obtain⟨ae,hX⟩:=hX;have b8:∀(Γ:bE)(I:St),bF Γ I ⟨[(6,z ((i:Int)+1)),(5,.aU 0 ((b5 l m i)++ae).length (aZ ((b5 l m i)++ae))),(2,.ptr 0 0),(3,.ptr 1 0)],[(1,[aV m]),(0,bs l)],[(0,⟨3,1,((b5 l m i)++ae).length⟩)]⟩->∃j:Nat,j<=l.maps.toNat/\l.maps.toNat-j<l.maps.toNat-i/\bF Γ I ⟨[(6,z j),(5,.aU 0 (b5 l m j).length (aZ (b5 l m j))),(2,.ptr 0 0),(3,.ptr 1 0)],[(1,[aV m]),(0,bs l)],[(0,⟨3,1,(b5 l m j).length⟩)]⟩:=λ _ _ hg=>⟨i+1,by omega,by omega,by rw[show((i+1:Nat):Int)=(i:Int)+1 by omega,NJ,<-hX];exact hg⟩
  unfold p6 at hX;generalize b5 l m i=IM at*;have qB:=ON l hL hM hO.b i;generalize fA l i 0=bk at*;refine go ?_;refine dW 7 [] ?_;refine gQ qB ?_;refine cQ (m4 m bk) ?_;refine gQ (uX (aG m bk)) ?_;refine go ?_;have rU:=j8 (aG m bk);generalize az (aG m bk)=r at*;obtain⟨ri,rm,aaH⟩:=r;simp only at hX rU
  by_cases D:ri=0
  ·rw[if_pos D] at hX;subst hX;rw[List.append_nil] at b8;refine(show CK (!decide (ri=0)) _ _ from ?_);rw[decide_eq_true D];refine go ?_;exact b8 _ _ zX
  ·rw[if_neg D] at hX;refine(show CK (!decide (ri=0)) _ _ from ?_);rw[decide_eq_false D];have rJ:=ll l hL ri 0 (by omega);generalize am l ri 0=G at*;have lw:=uW l hL m G;have sL:=jc l m G;generalize cW l m G=NS at*;subst hX;refine go ?_;refine gD [] ?_;refine nv (m:=1) aw rfl rfl rfl rfl rfl rfl rfl rfl rfl rfl rfl rfl rfl (by unfold maxLen;omega) (by show(_+_)*8<=_;omega) ?_;refine gQ rJ ?_;refine cQ lw ?_;refine ba ?_;refine nv (m:=NS.length) aw rfl rfl rfl rfl rfl rfl rfl rfl rfl rfl rfl rfl (by rw[kL];show _=_*1;omega) (by unfold maxLen;omega) (by show(_+_)*8<=_;omega) ?_;refine qg ?_;refine b8 _ _ ?_;rw[show(IM++ri::NS).length=IM.length+1+NS.length by simp;omega,show aZ (IM++ri::NS)=aZ IM++[pI ri]++aZ NS by simp[aZ]];exact zX
 ·have aN:i=l.maps.toNat:=by omega
  subst aN;rw[show decide (((l.maps.toNat:Nat):Int)<l.maps)=false by rw[decide_eq_false_iff_not];omega];clear Z u;refine go ?_;refine bL (λ i:Nat=>i<=l.bo.toNat) (λ i=>⟨[(8,z i),(5,.aU 0 (b5 l m l.maps.toNat++cX l m i).length (aZ (b5 l m l.maps.toNat++cX l m i))),(2,.ptr 0 0),(3,.ptr 1 0)],[(1,[aV m]),(0,bs l)],[(0,⟨3,1,(b5 l m l.maps.toNat++cX l m i).length⟩)]⟩) (λ i=>l.bo.toNat-i) 0 (by omega) (by simp only[cX,List.range_zero,List.flatMap_nil,List.append_nil];exact zX) ?_;intro i Z;refine(show aJ _ _ _ _ ⟨[(8,z i),(5,.aU 0 (b5 l m l.maps.toNat++cX l m i).length (aZ (b5 l m l.maps.toNat++cX l m i))),(2,.ptr 0 0),(3,.ptr 1 0)],[(1,[aV m]),(0,bs l)],[(0,⟨3,1,(b5 l m l.maps.toNat++cX l m i).length⟩)]⟩ from ?_);have Hb:=b2 i;refine go ?_
  by_cases u:i<l.bo.toNat
  ·rw[show decide ((i:Int)<l.bo)=true by rw[decide_eq_true_eq];omega];have lw:=Em.uW l hL m i;have sL:=Em.jc l m i;have hX:∃ae,ae=Em.cW l m i:=⟨_,rfl⟩;obtain⟨ae,hX⟩:=hX;rw[<-hX] at lw sL;have b8:∀(Γ:bE)(I:St),bF Γ I ⟨[(8,z ((i:Int)+1)),(5,.aU 0 ((b5 l m l.maps.toNat++cX l m i)++ae).length (aZ ((b5 l m l.maps.toNat++cX l m i)++ae))),(2,.ptr 0 0),(3,.ptr 1 0)],[(1,[aV m]),(0,bs l)],[(0,⟨3,1,((b5 l m l.maps.toNat++cX l m i)++ae).length⟩)]⟩->∃j:Nat,j<=l.bo.toNat/\l.bo.toNat-j<l.bo.toNat-i/\bF Γ I ⟨[(8,z j),(5,.aU 0 (b5 l m l.maps.toNat++cX l m j).length (aZ (b5 l m l.maps.toNat++cX l m j))),(2,.ptr 0 0),(3,.ptr 1 0)],[(1,[aV m]),(0,bs l)],[(0,⟨3,1,(b5 l m l.maps.toNat++cX l m j).length⟩)]⟩:=λ _ _ hg=>⟨i+1,by omega,by omega,by rw[show((i+1:Nat):Int)=(i:Int)+1 by omega,NP,<-hX,<-List.append_assoc];exact hg⟩
   clear hX;have cg:(b5 l m l.maps.toNat++cX l m i).length<=20000:=by rw[List.length_append];omega
   generalize b5 l m l.maps.toNat++cX l m i=IM at*;refine gA lw ?_;refine ln (m:=ae.length) aw rfl rfl rfl rfl rfl rfl rfl rfl rfl rfl rfl rfl (by rw[kL];show _=_*1;omega) (by unfold maxLen;omega) (by show(_+_)*8<=_;omega) ?_;refine go ?_;refine b8 _ _ ?_;rw[List.length_append,xg];exact zX
  ·have aN:i=l.bo.toNat:=by omega
   subst aN;rw[show decide (((l.bo.toNat:Nat):Int)<l.bo)=false by rw[decide_eq_false_iff_not];omega];clear Z u;refine go ?_;refine bL (λ i:Nat=>i<=l.aL.toNat) (λ i=>⟨[(9,z i),(5,.aU 0 (b5 l m l.maps.toNat++cX l m l.bo.toNat++fO l m i).length (aZ (b5 l m l.maps.toNat++cX l m l.bo.toNat++fO l m i))),(2,.ptr 0 0),(3,.ptr 1 0)],[(1,[aV m]),(0,bs l)],[(0,⟨3,1,(b5 l m l.maps.toNat++cX l m l.bo.toNat++fO l m i).length⟩)]⟩) (λ i=>l.aL.toNat-i) 0 (by omega) (by simp only[fO,List.range_zero,List.flatMap_nil,List.append_nil];exact zX) ?_;intro i Z;refine(show aJ _ _ _ _ ⟨[(9,z i),(5,.aU 0 (b5 l m l.maps.toNat++cX l m l.bo.toNat++fO l m i).length (aZ (b5 l m l.maps.toNat++cX l m l.bo.toNat++fO l m i))),(2,.ptr 0 0),(3,.ptr 1 0)],[(1,[aV m]),(0,bs l)],[(0,⟨3,1,(b5 l m l.maps.toNat++cX l m l.bo.toNat++fO l m i).length⟩)]⟩ from ?_);have Hd:=b3 i;refine go ?_
   by_cases u:i<l.aL.toNat
   ·rw[show decide ((i:Int)<l.aL)=true by rw[decide_eq_true_eq];omega];have lw:=Sg.uW l hL m i;have sL:=Sg.jc l m i;have hX:∃ae,ae=Sg.cW l m i:=⟨_,rfl⟩;obtain⟨ae,hX⟩:=hX;rw[<-hX] at lw sL;have b8:∀(Γ:bE)(I:St),bF Γ I ⟨[(9,z ((i:Int)+1)),(5,.aU 0 ((b5 l m l.maps.toNat++cX l m l.bo.toNat++fO l m i)++ae).length (aZ ((b5 l m l.maps.toNat++cX l m l.bo.toNat++fO l m i)++ae))),(2,.ptr 0 0),(3,.ptr 1 0)],[(1,[aV m]),(0,bs l)],[(0,⟨3,1,((b5 l m l.maps.toNat++cX l m l.bo.toNat++fO l m i)++ae).length⟩)]⟩->∃j:Nat,j<=l.aL.toNat/\l.aL.toNat-j<l.aL.toNat-i/\bF Γ I ⟨[(9,z j),(5,.aU 0 (b5 l m l.maps.toNat++cX l m l.bo.toNat++fO l m j).length (aZ (b5 l m l.maps.toNat++cX l m l.bo.toNat++fO l m j))),(2,.ptr 0 0),(3,.ptr 1 0)],[(1,[aV m]),(0,bs l)],[(0,⟨3,1,(b5 l m l.maps.toNat++cX l m l.bo.toNat++fO l m j).length⟩)]⟩:=λ _ _ hg=>⟨i+1,by omega,by omega,by rw[show((i+1:Nat):Int)=(i:Int)+1 by omega,NH,<-hX,<-List.append_assoc];exact hg⟩
    clear hX;have cg:(b5 l m l.maps.toNat++cX l m l.bo.toNat++fO l m i).length<=40000:=by simp only[List.length_append];omega
    generalize b5 l m l.maps.toNat++cX l m l.bo.toNat++fO l m i=IM at*;refine gA lw ?_;refine ln (m:=ae.length) aw rfl rfl rfl rfl rfl rfl rfl rfl rfl rfl rfl rfl (by rw[kL];show _=_*1;omega) (by unfold maxLen;omega) (by show(_+_)*8<=_;omega) ?_;refine go ?_;refine b8 _ _ ?_;rw[List.length_append,xg];exact zX
   ·have aN:i=l.aL.toNat:=by omega
    subst aN;rw[show decide (((l.aL.toNat:Nat):Int)<l.aL)=false by rw[decide_eq_false_iff_not];omega];rw[A];refine gf ?_
    rfl
set_option maxHeartbeats 16000000 in
theorem IT(l:ab)(hO:OL l)(m:List Int)(hm:xL m):aW prog 17 [cF l,fg m] (aV (mR l m)):=by
 generalize A:mR l m=aK;rw[IS] at A;have hL:=hO.ok;have hM:=hO.m;obtain⟨n0,n1⟩:=hO.n;obtain⟨p0,p1⟩:=hO.maps;obtain⟨q0,q1⟩:=hO.bo;obtain⟨r0,r1⟩:=hO.aL;have b1:∀k,(b5 l m k).length<=k*1002:=rE λ o=>Nat.le_trans (IC l m o) (by omega)
 have b2:∀k,(cX l m k).length<=k*1002:=rE λ o=>Nat.le_trans (Em.jc l m o) (by omega)
 have b3:∀k,(fO l m k).length<=k*1002:=rE λ o=>Nat.le_trans (Sg.jc l m o) (by omega)
 refine sP func17 ntmps17 λ w cl=>?_
 refine go ?_;refine da (gO 5 0 3 1 rfl rfl rfl) ?_;refine bL (λ i:Nat=>i<=l.maps.toNat) (λ i=>⟨[(14,z i),(13,z l.maps),(5,.aU 0 (b5 l m i).length (aZ (b5 l m i))),(2,.ptr 0 0),(3,.ptr 1 0)],[(1,[aV m]),(0,bs l)],[(0,⟨3,1,(b5 l m i).length⟩)]⟩) (λ i=>l.maps.toNat-i) 0 (by omega) (zX) ?_;intro i Z;refine(show aJ _ _ _ _ ⟨[(14,z i),(13,z l.maps),(5,.aU 0 (b5 l m i).length (aZ (b5 l m i))),(2,.ptr 0 0),(3,.ptr 1 0)],[(1,[aV m]),(0,bs l)],[(0,⟨3,1,(b5 l m i).length⟩)]⟩ from ?_);have R:=b1 i;refine go ?_
 by_cases u:i<l.maps.toNat
 ·rw[show decide ((i:Int)<l.maps)=true by rw[decide_eq_true_eq];omega];have hX:∃ae,ae=p6 l m i:=⟨_,rfl⟩;obtain⟨ae,hX⟩:=hX;have b8:∀(Γ:bE)(I:St),bF Γ I ⟨[(14,z ((i:Int)+1)),(13,z l.maps),(5,.aU 0 ((b5 l m i)++ae).length (aZ ((b5 l m i)++ae))),(2,.ptr 0 0),(3,.ptr 1 0)],[(1,[aV m]),(0,bs l)],[(0,⟨3,1,((b5 l m i)++ae).length⟩)]⟩->∃j:Nat,j<=l.maps.toNat/\l.maps.toNat-j<l.maps.toNat-i/\bF Γ I ⟨[(14,z j),(13,z l.maps),(5,.aU 0 (b5 l m j).length (aZ (b5 l m j))),(2,.ptr 0 0),(3,.ptr 1 0)],[(1,[aV m]),(0,bs l)],[(0,⟨3,1,(b5 l m j).length⟩)]⟩:=λ _ _ hg=>⟨i+1,by omega,by omega,by rw[show((i+1:Nat):Int)=(i:Int)+1 by omega,NJ,<-hX];exact hg⟩
  unfold p6 at hX;generalize b5 l m i=IM at*;have qB:=AK l hL hM i 0;generalize fA l i 0=bk at*;refine go ?_;refine cA qB ?_;refine gG ?_;refine zM ?_;refine QY (dE:=Unit) (λ _=>⟨[(7,z (az (aG m bk)).idx),(6,z i),(14,z i),(13,z l.maps),(5,.aU 0 IM.length (aZ IM)),(2,.ptr 0 0),(3,.ptr 1 0)],[(1,[aV m]),(0,bs l)],[(0,⟨3,1,IM.length⟩)]⟩) (λ _=>True) ?_ ?_
  ·clear b8;refine go ?_
   by_cases k1:bk>=0
   ·rw[decide_eq_true k1];refine go ?_
    by_cases k2:bk<m.length
    ·rw[decide_eq_true k2];have T:m[bk.toNat]?=some (aG m bk):=by
      unfold aG;rw[if_neg (by omega)];exact tW k1 k2
     refine go ?_;refine ai [pI (aG m bk)] (gK T) ?_;refine gA (jS (aG m bk)) ?_;exact⟨rfl,(),trivial,zX⟩
    ·rw[decide_eq_false k2];have h0:aG m bk=0:=by unfold aG;rw[if_pos (by omega)]
     rw[h0,NW];refine go ?_;exact⟨rfl,(),trivial,zX⟩
   ·rw[decide_eq_false k1];have h0:aG m bk=0:=by unfold aG;rw[if_pos (by omega)]
    rw[h0,NW];refine go ?_;exact⟨rfl,(),trivial,zX⟩
  intro _ _;have rU:=j8 (aG m bk);generalize(az (aG m bk)).idx=ri at*
  by_cases D:ri=0
  ·rw[if_pos D] at hX;subst hX;rw[List.append_nil] at b8;refine go ?_;rw[decide_eq_true D];refine go ?_;exact b8 _ _ zX
  ·rw[if_neg D] at hX;have rJ:=jD l hL ri 0 (by omega) (by omega);generalize am l ri 0=G at*;have lw:=uJ l hL m G;have sL:=jc l m G;generalize cW l m G=NS at*;subst hX;refine go ?_;rw[decide_eq_false D];refine go ?_;refine ln (m:=1) aw rfl rfl rfl rfl rfl rfl rfl rfl rfl rfl rfl rfl rfl (by unfold maxLen;omega) (by show(_+_)*8<=_;omega) ?_;refine go ?_;refine dQ [] ?_;refine gQ rJ ?_;refine cQ lw ?_;refine ba ?_;refine nv (m:=NS.length) aw rfl rfl rfl rfl rfl rfl rfl rfl rfl rfl rfl rfl (by rw[kL];show _=_*1;omega) (by unfold maxLen;omega) (by show(_+_)*8<=_;omega) ?_;refine qg ?_;refine b8 _ _ ?_;rw[show(IM++ri::NS).length=IM.length+1+NS.length by simp;omega,show aZ (IM++ri::NS)=aZ IM++[pI ri]++aZ NS by simp[aZ]];exact zX
 ·have aN:i=l.maps.toNat:=by omega
  subst aN;rw[show decide (((l.maps.toNat:Nat):Int)<l.maps)=false by rw[decide_eq_false_iff_not];omega];clear Z u;refine go ?_;refine bL (λ i:Nat=>i<=l.bo.toNat) (λ i=>⟨[(54,z i),(53,z l.bo),(5,.aU 0 (b5 l m l.maps.toNat++cX l m i).length (aZ (b5 l m l.maps.toNat++cX l m i))),(2,.ptr 0 0),(3,.ptr 1 0)],[(1,[aV m]),(0,bs l)],[(0,⟨3,1,(b5 l m l.maps.toNat++cX l m i).length⟩)]⟩) (λ i=>l.bo.toNat-i) 0 (by omega) (by simp only[cX,List.range_zero,List.flatMap_nil,List.append_nil];exact zX) ?_;intro i Z;refine(show aJ _ _ _ _ ⟨[(54,z i),(53,z l.bo),(5,.aU 0 (b5 l m l.maps.toNat++cX l m i).length (aZ (b5 l m l.maps.toNat++cX l m i))),(2,.ptr 0 0),(3,.ptr 1 0)],[(1,[aV m]),(0,bs l)],[(0,⟨3,1,(b5 l m l.maps.toNat++cX l m i).length⟩)]⟩ from ?_);have Hb:=b2 i;refine go ?_
  by_cases u:i<l.bo.toNat
  ·rw[show decide ((i:Int)<l.bo)=true by rw[decide_eq_true_eq];omega];have lw:=Em.uJ l hL m i hm;have sL:=Em.jc l m i;have hX:∃ae,ae=Em.cW l m i:=⟨_,rfl⟩;obtain⟨ae,hX⟩:=hX;rw[<-hX] at lw sL;have b8:∀(Γ:bE)(I:St),bF Γ I ⟨[(54,z ((i:Int)+1)),(53,z l.bo),(5,.aU 0 ((b5 l m l.maps.toNat++cX l m i)++ae).length (aZ ((b5 l m l.maps.toNat++cX l m i)++ae))),(2,.ptr 0 0),(3,.ptr 1 0)],[(1,[aV m]),(0,bs l)],[(0,⟨3,1,((b5 l m l.maps.toNat++cX l m i)++ae).length⟩)]⟩->∃j:Nat,j<=l.bo.toNat/\l.bo.toNat-j<l.bo.toNat-i/\bF Γ I ⟨[(54,z j),(53,z l.bo),(5,.aU 0 (b5 l m l.maps.toNat++cX l m j).length (aZ (b5 l m l.maps.toNat++cX l m j))),(2,.ptr 0 0),(3,.ptr 1 0)],[(1,[aV m]),(0,bs l)],[(0,⟨3,1,(b5 l m l.maps.toNat++cX l m j).length⟩)]⟩:=λ _ _ hg=>⟨i+1,by omega,by omega,by rw[show((i+1:Nat):Int)=(i:Int)+1 by omega,NP,<-hX,<-List.append_assoc];exact hg⟩
   clear hX;have cg:(b5 l m l.maps.toNat++cX l m i).length<=20000:=by rw[List.length_append];omega
   generalize b5 l m l.maps.toNat++cX l m i=IM at*;refine gA lw ?_;refine ln (m:=ae.length) aw rfl rfl rfl rfl rfl rfl rfl rfl rfl rfl rfl rfl (by rw[kL];show _=_*1;omega) (by unfold maxLen;omega) (by show(_+_)*8<=_;omega) ?_;refine go ?_;refine b8 _ _ ?_;rw[List.length_append,xg];exact zX
  ·have aN:i=l.bo.toNat:=by omega
   subst aN;rw[show decide (((l.bo.toNat:Nat):Int)<l.bo)=false by rw[decide_eq_false_iff_not];omega];clear Z u;refine go ?_;refine bL (λ i:Nat=>i<=l.aL.toNat) (λ i=>⟨[(67,z i),(66,z l.aL),(5,.aU 0 (b5 l m l.maps.toNat++cX l m l.bo.toNat++fO l m i).length (aZ (b5 l m l.maps.toNat++cX l m l.bo.toNat++fO l m i))),(2,.ptr 0 0),(3,.ptr 1 0)],[(1,[aV m]),(0,bs l)],[(0,⟨3,1,(b5 l m l.maps.toNat++cX l m l.bo.toNat++fO l m i).length⟩)]⟩) (λ i=>l.aL.toNat-i) 0 (by omega) (by simp only[fO,List.range_zero,List.flatMap_nil,List.append_nil];exact zX) ?_;intro i Z;refine(show aJ _ _ _ _ ⟨[(67,z i),(66,z l.aL),(5,.aU 0 (b5 l m l.maps.toNat++cX l m l.bo.toNat++fO l m i).length (aZ (b5 l m l.maps.toNat++cX l m l.bo.toNat++fO l m i))),(2,.ptr 0 0),(3,.ptr 1 0)],[(1,[aV m]),(0,bs l)],[(0,⟨3,1,(b5 l m l.maps.toNat++cX l m l.bo.toNat++fO l m i).length⟩)]⟩ from ?_);have Hd:=b3 i;refine go ?_
   by_cases u:i<l.aL.toNat
   ·rw[show decide ((i:Int)<l.aL)=true by rw[decide_eq_true_eq];omega];have lw:=Sg.uJ l hL m i hm;have sL:=Sg.jc l m i;have hX:∃ae,ae=Sg.cW l m i:=⟨_,rfl⟩;obtain⟨ae,hX⟩:=hX;rw[<-hX] at lw sL;have b8:∀(Γ:bE)(I:St),bF Γ I ⟨[(67,z ((i:Int)+1)),(66,z l.aL),(5,.aU 0 ((b5 l m l.maps.toNat++cX l m l.bo.toNat++fO l m i)++ae).length (aZ ((b5 l m l.maps.toNat++cX l m l.bo.toNat++fO l m i)++ae))),(2,.ptr 0 0),(3,.ptr 1 0)],[(1,[aV m]),(0,bs l)],[(0,⟨3,1,((b5 l m l.maps.toNat++cX l m l.bo.toNat++fO l m i)++ae).length⟩)]⟩->∃j:Nat,j<=l.aL.toNat/\l.aL.toNat-j<l.aL.toNat-i/\bF Γ I ⟨[(67,z j),(66,z l.aL),(5,.aU 0 (b5 l m l.maps.toNat++cX l m l.bo.toNat++fO l m j).length (aZ (b5 l m l.maps.toNat++cX l m l.bo.toNat++fO l m j))),(2,.ptr 0 0),(3,.ptr 1 0)],[(1,[aV m]),(0,bs l)],[(0,⟨3,1,(b5 l m l.maps.toNat++cX l m l.bo.toNat++fO l m j).length⟩)]⟩:=λ _ _ hg=>⟨i+1,by omega,by omega,by rw[show((i+1:Nat):Int)=(i:Int)+1 by omega,NH,<-hX,<-List.append_assoc];exact hg⟩
    clear hX;have cg:(b5 l m l.maps.toNat++cX l m l.bo.toNat++fO l m i).length<=40000:=by simp only[List.length_append];omega
    generalize b5 l m l.maps.toNat++cX l m l.bo.toNat++fO l m i=IM at*;refine gA lw ?_;refine ln (m:=ae.length) aw rfl rfl rfl rfl rfl rfl rfl rfl rfl rfl rfl rfl (by rw[kL];show _=_*1;omega) (by unfold maxLen;omega) (by show(_+_)*8<=_;omega) ?_;refine go ?_;refine b8 _ _ ?_;rw[List.length_append,xg];exact zX
   ·have aN:i=l.aL.toNat:=by omega
    subst aN;rw[show decide (((l.aL.toNat:Nat):Int)<l.aL)=false by rw[decide_eq_false_iff_not];omega];rw[A];refine gf ?_
    rfl
end Go.Proofs.YtcnefjfboagbmaaGreat
