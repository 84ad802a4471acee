/- What a map has, in any memory: its walk. -/
import Derived.Test.YtcnefjfboagbmaaGreatXE
import Derived.Test.YtcnefjfboagbmaaGreatWC
import Derived.Test.YtcnefjfboagbmaaGreatPA
import Derived.Test.YtcnefjfboagbmaaGreatWE
import Derived.Test.YtcnefjfboagbmaaGreatXA
import Derived.Test.YtcnefjfboagbmaaGreatXC
namespace Go.Proofs.YtcnefjfboagbmaaGreat
open Go.Proofs.Tryz
open Go.RowKit
set_option maxRecDepth 100000
section
variable{P:Program}{ae:Nat->Option TI}{Γ:bI}{J:St}
theorem y3(nm j g el sz:Nat){n:Nat}{ps:List Pl}{cs aO:List G}(T:kv J.b nm=some cs)(hj:cs[j]?=some (.p (.sl true n ps)))(hs:cs.set j (.aW g n ps)=aO)(hg:kv J.g g=none)(R:ps.length=n*sz):bN Γ J ⟨J.s,(nm,aO)::J.b,(g,⟨el,sz,n⟩)::J.g⟩:=by
 subst hs;intro a e L;have fC:e.gi g=none:=by rw[L.gs];exact hg
 have qx:∀k,e.gr k≠some g:=λ k I=>by obtain⟨au,_,h,_⟩:=L.env.gr k g I;rw[fC] at h;cases h
 have E:Ends e {e with gi:=λ h=>if h=g then some ⟨el,sz,n⟩ else e.gi h}:=
  ⟨λ _ _ _ h1 A=>⟨h1,A⟩,λ _ _ h=>h,λ dS au h=>⟨au,by show(if dS=g then _ else e.gi dS)=_;rw[if_neg (λ Y=>by rw[Y,fC] at h;cases h)];exact h,rfl,rfl,Nat.le_refl _⟩,λ _ _ _ cur h1 _ K=>⟨h1,cur,K,rfl⟩⟩
 refine⟨{e with gi:=λ h=>if h=g then some ⟨el,sz,n⟩ else e.gi h},rfl,L.size,L.df,λ af d hu=>(L.bP af d hu).next E,λ b cs qZ=>?_,λ af hu=>?_,λ h=>?_,L.env.kept,L.env.cl,L.env.bx,L.env.inj,λ k dS I=>?_,L.env.kb⟩
 ·simp only[cM] at qZ;split at qZ
  ·rename_i lE;subst lE;cases qZ;obtain⟨k,vs,ql,h1,A,K⟩:=L.boxes _ _ T;refine⟨k,vs,ql,h1,A,by rw[List.length_set];exact K.1,λ i v d hv F=>?_⟩;rw[List.getElem?_set] at F;split at F
   ·rename_i jT;subst jT;split at F
    ·cases F;have h4:=K.2 _ v _ hv hj;cases h4 with
     |p h1=>have A:=(h1.next E).low;obtain⟨ab,bK,rfl,K,h4,h5,h6,h7⟩:=qH h1;exact .aW A ⟨⟨el,sz,n⟩,ab,bK,by simp,rfl,Nat.le_refl _,R,.inl (h6 rfl)⟩
    ·cases F
   ·exact(K.2 i v d hv F).next E
  ·exact(L.boxes b cs qZ).ends E rfl
 ·simp only[cM] at hu;split at hu
  ·cases hu
  ·exact L.ei af hu
 ·show(if h=g then _ else e.gi h)=_;simp only[cM]
  by_cases e1:h=g
  ·subst e1;simp
  ·rw[if_neg e1,if_neg (λ Y=>e1 Y.symm)];exact L.gs h
 ·obtain⟨au,cur,h1,A⟩:=L.env.gr k dS I;exact⟨au,cur,by show(if dS=g then _ else e.gi dS)=_;rw[if_neg (λ Y=>qx k (by rw[<-Y];exact I))];exact h1,A⟩
end
theorem Nq{dM:Type}{P:Program}{Γ:bI}{Q:Exit->St->Prop}{c:Code}{J:St}(x:Exit)(bc:dM->St)(ok:dM->Prop)(h:aK P Γ c (λ ex bU=>ex=x/\∃i,ok i/\bN Γ bU (bc i)) J)(k:∀bU i,ok i->bN Γ bU (bc i)->Q x bU):aK P Γ c Q J:=
 vK h λ ex bU hh=>by
  obtain⟨rfl,i,X,hg⟩:=hh;exact k bU i X hg
abbrev eR(S:aZ):List Int:=S.map (·.1)
abbrev eV(S:aZ):List Int:=S.map (·.2)
abbrev rS(S:aZ):G:=.agg [u 1,bq (eR S),bq (eV S)]
abbrev Vz(r:aZ×Int×Bool):G:=.bg [rS r.1,u r.2.1,dB r.2.2]
theorem EA{S:aZ}{i:Nat}{y:Int×Int}(h:S[i]?=some y):S.take (i+1)=S.take i++[y]:=by rw[List.take_add_one,h];rfl
theorem aa9(B au:Nat->Bool)(x:G)(l:List G):G.ok.eA B au (x::l)=(x.ok B au&&G.ok.eA B au l):=rfl
theorem fu.drop{cs:List G}(h:fu cs):∀n,fu (cs.drop n):=by
 intro n B au;have h1:=h B au;clear h;induction n generalizing cs with
 |zero=>exact h1
 |succ n ih=>
  cases cs with
  |nil=>exact h1
  |cons x cs=>rw[aa9,Bool.and_eq_true] at h1;exact ih h1.2
theorem abz(S:aZ):(gL S).map G.p=S.flatMap λ x=>[u x.1,u x.2]:=by
 induction S with
 |nil=>rfl
 |cons x S ih=>
  show u x.1::u x.2::(gL S).map G.p=_;rw[ih]
  rfl
theorem aby(S:aZ):(gL S).length=S.length*2:=by
 induction S with
 |nil=>rfl
 |cons x S ih=>show(gL S).length+2=_;rw[ih,List.length_cons];omega
theorem abx(S:aZ)(x:Int×Int):gL S++[pI x.1,pI x.2]=gL (S++[x]):=by
 induction S with
 |nil=>rfl
 |cons y S ih=>
  show pI y.1::pI y.2::(gL S++[pI x.1,pI x.2])=_;rw[ih]
  rfl
def MK(ae:aZ)(d:G)(bx:bE):Prop:=(ae=[]/\d=.p (.sl true 0 [])/\bx=[])\/∃c cs,d=.arr 20 0 ae.length c/\bx=[(20,cs)]/\cs.length=c*2/\c<=maxLen/\ae.length<=c/\1<=ae.length/\cs.take (ae.length*2)=(gL ae).map G.p/\fu cs
theorem abC(al:aZ)(r:Int×Int):ox (al++[r])=ox al++(if r.1%2=1 then[(yB r.1,r.2)] else[]):=by
 unfold ox;rw[List.filter_append,List.map_append]
 congr 1
 rw[List.filter_cons]
 by_cases h:r.1%2=1
 ·rw[if_pos (decide_eq_true h),if_pos h];rfl
 ·rw[if_neg (by simpa using h),if_neg h];rfl
abbrev vM(l:ag)(m:List Int):bE:=[(3,[u 1,.p (.sl true 0 []),.p (.sl true 0 [])]),(2,[u 0,.p (.sl true 0 []),.p (.sl true 0 [])]),(1,[bq m]),(0,cn l)]
set_option maxHeartbeats 16000000 in
theorem Vq(l:ag)(Z:ca l)(hM:kh l)(m:List Int)(mi bk F:Int)(al:List (Int×Int))(T:hL l mi 0=bk)(qX:0<=bk)(qq:bk<m.length)(hh:aE l (ay (bv m bk)).idx 0=F)(hR:nh l m F=al)(Xh:al.length<=2000)(S:aZ)(OV:S=xd (ox al)):
 aX prog 37 [dD l,jl m,u mi] (rS S):=by
 have An:=Ci l Z hM mi 0;rw[T] at An;have OT:=En l Z m F;rw[hR] at OT;have O:m[bk.toNat]?=some (bv m bk):=by unfold bv;rw[if_neg (by omega)];exact xv qX qq
 have Au:=j7 l Z (ay (bv m bk)).idx 0 (by have:=lj (bv m bk);omega) (by omega);rw[hh] at Au;refine sP func37 ntmps37 λ w cl=>?_
 refine gA An ?_;rw[show decide (bk<0)=false by rw[decide_eq_false_iff_not];omega];refine go ?_;rw[show decide (bk>=m.length)=false by rw[decide_eq_false_iff_not];omega];refine go ?_;refine gD [] ?_;refine ri [pI (bv m bk)] (gk O) ?_;refine gQ (kB (bv m bk)) ?_;refine cQ Au ?_;refine gQ OT ?_;refine go ?_;refine Nq (dM:=G×bE) (.exit 0) (λ p=>⟨[(9,p.1),(7,.ptr 3 0),(6,.ptr 2 0)],p.2++vM l m,[]⟩) (λ p=>MK (ox al) p.1 p.2) ?_ ?_
 ·refine bW (λ p:Nat×G×bE=>p.1<=al.length/\MK (ox (al.take p.1)) p.2.1 p.2.2) (λ p=>⟨[(41,u p.1),(40,u al.length),(39,d7 al),(9,p.2.1),(7,.ptr 3 0),(6,.ptr 2 0)],p.2.2++vM l m,[]⟩) (λ p=>al.length-p.1) (0,.p (.sl true 0 []),[]) ⟨Nat.zero_le _,.inl ⟨rfl,rfl,rfl⟩⟩ (zX) ?_;rintro⟨i,d,bx⟩ ⟨X,wf⟩;simp only at X wf;refine(show aK _ _ _ _ ⟨[(41,u i),(40,u al.length),(39,d7 al),(9,d),(7,.ptr 3 0),(6,.ptr 2 0)],bx++vM l m,[]⟩ from ?_);refine go ?_;refine cN (λ h1=>?_) (λ h1=>?_)<;>try rw[h1]
  ·have aP:=of_decide_eq_true h1;obtain⟨r,hr⟩:=l8 (l:=al) (i:=i) (by omega) aP;have pJ:al[i]?=some r:=by simpa using hr
   have gX:=abC (al.take i) r;rw[<-EA pJ] at gX;have ir:(ox (al.take i)).length<=2000:=by unfold ox;rw[List.length_map];refine Nat.le_trans (List.length_filter_le _ _) ?_;rw[List.length_take];omega
   rcases wf with⟨hT,rfl,rfl⟩|⟨c,cs,rfl,rfl,k1,k2,k3,k0,k4,k5⟩
   ·rw[hT,List.nil_append] at gX;refine(show aK _ _ _ _ ⟨_,vM l m,[]⟩ from ?_);refine go ?_;refine ai [pI r.1,pI r.2] (CD hr) ?_;refine go ?_;refine bn (gK aB rfl rfl rfl rfl rfl (by omega) (by omega)) rfl rfl rfl ?_;refine go ?_;rw[M7]
    by_cases A:r.1%2=1
    ·rw[show decide (r.1%2=1)=true from decide_eq_true A];rw[if_pos A] at gX;refine go ?_;refine gW 8 [] ?_;refine cV (gK aB rfl rfl rfl rfl rfl (by omega) (by omega)) rfl rfl ?_;refine gQ (QO r.1) ?_;refine cV (gK aB rfl rfl rfl rfl rfl (by omega) (by omega)) rfl rfl ?_;refine bh ?_;refine If (sz:=2) aB 20 rfl rfl rfl rfl rfl rfl rfl rfl rfl rfl rfl rfl rfl rfl (by omega) rfl (by unfold maxLen;omega) (by show 1*16<=_;omega) (λ aO bw k1 k2 k3 k4 k5=>?_);refine go ?_;refine⟨(i+1,.arr 20 0 1 bw,[(20,aO)]),⟨by simp only;omega,.inr ⟨bw,aO,by rw[gX];rfl,rfl,k1,k2,by rw[gX];exact k3,by rw[gX];exact Nat.le_refl _,by rw[gX];exact k4,k5⟩⟩,by simp only;omega,?_⟩;exact eO (by(repeat(first|exact trivial|refine⟨⟨rfl,rfl⟩,?_⟩))) (by(repeat(first|exact trivial|refine⟨⟨rfl,rfl⟩,?_⟩|refine⟨⟨rfl,k5 _ _⟩,?_⟩))) (by(repeat(first|exact trivial|refine⟨rfl,?_⟩))) (by(repeat(first|exact trivial|refine⟨rfl,?_⟩)))
    ·rw[show decide (r.1%2=1)=false from decide_eq_false A];rw[if_neg A] at gX;refine go ?_;exact⟨(i+1,.p (.sl true 0 []),[]),⟨by simp only;omega,.inl ⟨gX,rfl,rfl⟩⟩,by simp only;omega,zX⟩
   ·generalize afa:ox (al.take i)=ae at*;refine(show aK _ _ _ _ ⟨_,(20,cs)::vM l m,[]⟩ from ?_);refine go ?_;refine ai [pI r.1,pI r.2] (CD hr) ?_;refine go ?_;refine bn (gK aB rfl rfl rfl rfl rfl (by omega) (by omega)) rfl rfl rfl ?_;refine go ?_;rw[M7]
    by_cases A:r.1%2=1
    ·rw[show decide (r.1%2=1)=true from decide_eq_true A];rw[if_pos A] at gX;refine go ?_;refine gW 8 [] ?_;refine cV (gK aB rfl rfl rfl rfl rfl (by omega) (by omega)) rfl rfl ?_;refine gQ (QO r.1) ?_;refine cV (gK aB rfl rfl rfl rfl rfl (by omega) (by omega)) rfl rfl ?_;refine bh ?_;refine Ig (sz:=2) aB (gL ae) rfl rfl rfl rfl rfl rfl rfl rfl rfl rfl rfl rfl rfl rfl (E7 rfl (xB rfl rfl (xB rfl rfl (E5 rfl rfl)))) k1 k3 (aby ae) k4 k2 (by omega) rfl (by unfold maxLen;omega) (by show(_+1)*16<=_;omega) (λ aO bw q1 q2 q3 q4 q5=>?_);refine go ?_;refine⟨(i+1,.arr 20 0 (ae.length+1) bw,[(20,aO)]),⟨by simp only;omega,.inr ⟨bw,aO,by rw[gX,List.length_append];rfl,rfl,q1,q2,by rw[gX,List.length_append];exact q3,by rw[gX,List.length_append];exact Nat.le_add_left _ _,by rw[gX,List.length_append,<-abx];exact q4,q5⟩⟩,by simp only;omega,?_⟩;exact eO (by(repeat(first|exact trivial|refine⟨⟨rfl,rfl⟩,?_⟩))) (by(repeat(first|exact trivial|refine⟨⟨rfl,rfl⟩,?_⟩|refine⟨⟨rfl,q5 _ _⟩,?_⟩))) (by(repeat(first|exact trivial|refine⟨rfl,?_⟩))) (by(repeat(first|exact trivial|refine⟨rfl,?_⟩)))
    ·rw[show decide (r.1%2=1)=false from decide_eq_false A];rw[if_neg A,List.append_nil] at gX;refine go ?_;exact⟨(i+1,.arr 20 0 ae.length c,[(20,cs)]),⟨by simp only;omega,.inr ⟨c,cs,by rw[gX],rfl,k1,k2,by rw[gX];exact k3,by rw[gX];exact k0,by rw[gX];exact k4,k5⟩⟩,by simp only;omega,eO (by(repeat(first|exact trivial|refine⟨⟨rfl,rfl⟩,?_⟩))) (by(repeat(first|exact trivial|refine⟨⟨rfl,rfl⟩,?_⟩|refine⟨⟨rfl,k5 _ _⟩,?_⟩))) (by(repeat(first|exact trivial|refine⟨rfl,?_⟩))) (by(repeat(first|exact trivial|refine⟨rfl,?_⟩)))⟩
  ·have aP:i=al.length:=by have:=of_decide_eq_false h1;omega
   subst aP;rw[List.take_length] at wf;refine go ?_;refine⟨rfl,(d,bx),wf,?_⟩;rcases wf with⟨hT,rfl,rfl⟩|⟨c,cs,rfl,rfl,k1,k2,k3,k0,k4,k5⟩
   ·exact zX
   ·exact eO (by(repeat(first|exact trivial|refine⟨⟨rfl,rfl⟩,?_⟩))) (by(repeat(first|exact trivial|refine⟨⟨rfl,rfl⟩,?_⟩|refine⟨⟨rfl,k5 _ _⟩,?_⟩))) (by(repeat(first|exact trivial|refine⟨rfl,?_⟩))) (by(repeat(first|exact trivial|refine⟨rfl,?_⟩)))
 rintro bU ⟨d,bx⟩ wf eQ;refine zR (zM (dO eQ ?_));clear eQ;simp only at wf;have FA:(ox al).length<=2000:=by unfold ox;rw[List.length_map];exact Nat.le_trans (List.length_filter_le _ _) Xh
 generalize ox al=ae at*;have Xi:(eR S).length=S.length:=List.length_map _;have Xj:(eV S).length=S.length:=List.length_map _;rcases wf with⟨rfl,rfl,rfl⟩|⟨c,cs,rfl,rfl,k1,k2,k3,k0,k4,k5⟩
 ·obtain rfl:S=[]:=OV;refine(show aK _ _ _ _ ⟨_,vM l m,[]⟩ from ?_);refine go ?_;refine hJ (adt) rfl (λ a w=>call84 a w) rfl rfl (by(repeat(first|exact trivial|refine⟨⟨rfl,rfl⟩,?_⟩))) (by(repeat(first|exact trivial|refine⟨.inr rfl,?_⟩|refine⟨.inl rfl,?_⟩))) rfl rfl rfl rfl ?_ ?_
  ·rintro d U ⟨rfl,rfl⟩;exact trivial
  rintro d U ⟨rfl,rfl⟩;refine go ?_;refine bW (λ _:Unit=>True) (λ _=>⟨[(63,u 0),(62,u 0),(61,.p (.sl true 0 [])),(7,.ptr 3 0),(6,.ptr 2 0)],vM l m,[]⟩) (λ _=>0) () trivial (zX) ?_;intro _ _;refine go ?_;rw[show decide ((0:Int)<0)=false from rfl];refine gf ?_
  rfl
 ·have cH:cs=bH ae (cs.drop (ae.length*2)):=by
   rw[bH,<-abz,<-k4,List.take_append_drop]
  have Qf:fu (cs.drop (ae.length*2)):=k5.drop _;have Dz:=adv ae (cs.drop (ae.length*2)) Qf ae.length c rfl (by omega);rw[<-cH] at Dz;generalize cs.drop (ae.length*2)=rest at*;refine(show aK _ _ _ _ ⟨_,(20,cs)::vM l m,[]⟩ from ?_);refine go ?_;refine hJ Dz rfl (λ a w=>call84 a w) rfl rfl ⟨⟨rfl,k5 _ _⟩,trivial⟩ (by(repeat(first|exact trivial|refine⟨.inr rfl,?_⟩|refine⟨.inl rfl,?_⟩))) rfl rfl rfl rfl ?_ ?_
  ·rintro d U ⟨rfl,S,_,rfl⟩;exact⟨.inl rfl,trivial⟩
  rintro d U ⟨rfl,iY,FB,rfl⟩;obtain rfl:iY=S:=(adC FB).trans OV.symm;have bF:∀{S:aZ}(B au:Nat->Bool),G.ok.eA B au (bH S rest)=true:=λ B au=>vm Qf B au
  have CM:=FB.len;refine oL (y3 3 1 0 3 1 rfl rfl rfl rfl rfl) ?_;refine oL (y3 3 2 1 3 1 rfl rfl rfl rfl rfl) ?_;refine go ?_;refine bW (λ j:Nat=>j<=ae.length) (λ j=>⟨[(63,u j),(62,u ae.length),(61,.arr 20 0 ae.length c),(7,.ptr 3 0),(6,.ptr 2 0)],[(20,bH iY rest),(3,[u 1,.aW 0 j (bb (eR (iY.take j))),.aW 1 j (bb (eV (iY.take j)))]),(2,[u 0,.p (.sl true 0 []),.p (.sl true 0 [])]),(1,[bq m]),(0,cn l)],[(0,⟨3,1,j⟩),(1,⟨3,1,j⟩)]⟩) (λ j=>ae.length-j) 0 (Nat.zero_le _) (eO (by(repeat(first|exact trivial|refine⟨⟨rfl,rfl⟩,?_⟩))) (by(repeat(first|exact trivial|refine⟨⟨rfl,rfl⟩,?_⟩|refine⟨⟨rfl,bF _ _⟩,?_⟩))) (by(repeat(first|exact trivial|refine⟨rfl,?_⟩))) (by(repeat(first|exact trivial|refine⟨rfl,?_⟩)))) ?_;intro j hj;refine(show aK _ _ _ _ ⟨[(63,u j),(62,u ae.length),(61,.arr 20 0 ae.length c),(7,.ptr 3 0),(6,.ptr 2 0)],[(20,bH iY rest),(3,[u 1,.aW 0 j (bb (eR (iY.take j))),.aW 1 j (bb (eV (iY.take j)))]),(2,[u 0,.p (.sl true 0 []),.p (.sl true 0 [])]),(1,[bq m]),(0,cn l)],[(0,⟨3,1,j⟩),(1,⟨3,1,j⟩)]⟩ from ?_);refine go ?_;refine cN (λ h1=>?_) (λ h1=>?_)<;>try rw[h1]
  ·have aP:=of_decide_eq_true h1;obtain⟨y,hy⟩:∃y,iY[j]?=some y:=⟨iY[j]'(by omega),List.getElem?_eq_getElem _⟩;obtain⟨r1,jc⟩:=pf hy rest;have sr:=rC iY rest;have gz:(iY.take j).length=j:=by rw[List.length_take];omega
   have mT:bb (eR (iY.take (j+1)))=bb (eR (iY.take j))++[pI y.1]:=by rw[EA hy];simp[eR,bb]
   have Zq:bb (eV (iY.take (j+1)))=bb (eV (iY.take j))++[pI y.2]:=by rw[EA hy];simp[eV,bb]
   refine go ?_;refine aj (j*2) 2 ?_;refine bn (mq aB [u y.1,u y.2] r1 rfl rfl rfl rfl rfl (by show j*2<=(bH iY rest).length;omega) jc rfl) rfl rfl rfl ?_;refine go ?_;refine bn (gK aB rfl rfl rfl rfl rfl (by omega) (by omega)) rfl rfl rfl ?_;refine go ?_;refine hE (n:=j) (m:=1) (qs:=[pI y.1]) aB rfl rfl rfl rfl rfl rfl rfl rfl rfl rfl rfl rfl rfl (by unfold maxLen;omega) (by show(_+_)*8<=_;omega) ?_;refine go ?_;refine bn (gK aB rfl rfl rfl rfl rfl (by omega) (by omega)) rfl rfl rfl ?_;refine go ?_;refine hE (n:=j) (m:=1) (qs:=[pI y.2]) aB rfl rfl rfl rfl rfl rfl rfl rfl rfl rfl rfl rfl rfl (by unfold maxLen;omega) (by show(_+_)*8<=_;omega) ?_;refine go ?_;refine⟨j+1,by omega,by omega,?_⟩;rw[mT,Zq];exact eO (by(repeat(first|exact trivial|refine⟨⟨rfl,rfl⟩,?_⟩))) (by(repeat(first|exact trivial|refine⟨⟨rfl,rfl⟩,?_⟩|refine⟨⟨rfl,bF _ _⟩,?_⟩))) (by(repeat(first|exact trivial|refine⟨rfl,?_⟩))) (by(repeat(first|exact trivial|refine⟨rfl,?_⟩)))
  ·have aP:j=ae.length:=by have:=of_decide_eq_false h1;omega
   subst aP;rw[List.take_of_length_le (by omega)];refine go ?_;refine rY rfl ?_;show G.agg [_,.p (.sl _ ae.length _),.p (.sl _ ae.length _)]=G.agg [_,.p (.sl _ _ _),.p (.sl _ _ _)];rw[Xi,Xj,CM]
theorem aau(l:ag)(Z:ca l)(hM:kh l)(hn:l.nodes<=1000)(m:List Int)(mi:Int):aX prog 37 [dD l,jl m,u mi] (rS (uZ l m mi)):=by
 by_cases h1:hL l mi 0<0\/(m.length:Int)<=hL l mi 0
 ·have E:uZ l m mi=[]:=by unfold uZ;rw[if_pos h1]
  rw[E];have An:=Ci l Z hM mi 0;refine sP func37 ntmps37 λ w cl=>?_
  refine gA An ?_;generalize hL l mi 0=bk at*
  by_cases A:bk<0
  ·rw[show decide (bk<0)=true from decide_eq_true A];refine gf ?_
   rfl
  ·rw[show decide (bk<0)=false from decide_eq_false A];refine go ?_;rw[show decide (bk>=m.length)=true by rw[decide_eq_true_eq];omega];refine gf ?_
   rfl
 ·have E:uZ l m mi=xd (ox (nh l m (aE l (ay (bv m (hL l mi 0))).idx 0))):=by unfold uZ;rw[if_neg h1]
  have n3:=rm l m (aE l (ay (bv m (hL l mi 0))).idx 0);have h0:=Z.nodes.1;exact Vq l Z hM m mi _ _ _ rfl (by omega) (by omega) rfl rfl (by unfold nh;rw[List.length_map];exact Nat.le_trans (List.length_filter_le _ _) (by omega)) _ E
theorem RN(a b:List Int):bb (a++b)=bb a++bb b:=by simp[bb]
end Go.Proofs.YtcnefjfboagbmaaGreat
namespace Go.Proofs.YtcnefjfboagbmaaGreat.Em
open Go.Proofs.Tryz
open Go.RowKit
set_option maxRecDepth 100000
theorem p9(xs:List Int)(i:Int):aX prog 87 [jl xs,u i] (u (bv xs i)):=by
 generalize E:bv xs i=aJ;unfold bv at E;refine sP func87 ntmps87 λ w cl=>?_
 refine go ?_;generalize h1:decide (i<0)=cc;cases cc
 ·have aP:=of_decide_eq_false h1;refine go ?_;generalize A:decide ((xs.length:Int)<=i)=cc;cases cc
  ·have bs:=of_decide_eq_false A;rw[if_neg (by omega)] at E;have hg:=xv (xs:=xs) (i:=i) (by omega) (by omega);refine go ?_;refine ai [pI (ef xs i)] (gk hg) ?_;refine gf ?_;rw[<-E]
  ·rw[if_pos (.inr (of_decide_eq_true A))] at E;refine gf ?_;rw[<-E]
 ·rw[if_pos (.inl (of_decide_eq_true h1))] at E;refine gf ?_;rw[<-E]
set_option maxHeartbeats 4000000 in
theorem wI(l:ag)(Z:ca l)(m:List Int)(s:Int)(hm:∀x∈m,x<9223372036854775808):aX prog 47 [dD l,jl m,u s] (bq (fp l m s)):=by
 generalize E:fp l m s=aJ;unfold fp at E;have hN:=Z.nodes;obtain⟨lR,ib⟩:=hN;have hi:∀i,bv m i<9223372036854775808:=by
  intro i;unfold bv ef;split
  ·omega
  ·rename_i h;have ba:i.toNat<m.length:=by omega
   have:m.getD i.toNat 0=m[i.toNat]:=by simp[ba]
   rw[this];exact hm _ (List.getElem_mem ba)
 refine sP func47 ntmps47 λ w cl=>?_
 refine go ?_;refine cA (Th l Z s) ?_;refine hZ ?_;refine nf ?_;refine qa ?_;refine qa ?_;refine vL ?_;refine hZ ?_;refine nf ?_;refine Ip rfl ?_;generalize h1:decide (jK l s<0)=cc;cases cc
 ·rw[if_neg (of_decide_eq_false h1)] at E;refine Co ?_;refine ES ?_;refine nf ?_;refine qa ?_;refine vL ?_;refine hZ ?_;refine nf ?_;refine dO (kF 8 0 3 1 rfl rfl rfl) ?_;refine Iq rfl rfl rfl rfl rfl rfl rfl rfl λ r=>?_
  refine rl (o8 λ aI bz cb X=>?_);refine gA (p9 m (jK l s)) ?_;refine cA (kB (bv m (jK l s))) ?_;refine go ?_;refine m7 ?_;refine rl (Bd ?_);generalize hn:(ay (bv m (jK l s))).idx=n0 at E;have Dk:n0<9223372036854775808:=by rw[<-hn];have:=(lj (bv m (jK l s))).2;omega
  refine K3 (λ p:Nat×List Int×Int=>p.1+p.2.1.length=l.nodes.toNat+1/\p.2.1.Nodup/\(∀x∈p.2.1,1<=x/\x<=l.nodes)/\p.2.2<9223372036854775808/\ko (λ n=>bv m (aE l n 0)) l.nodes p.1 p.2.1 p.2.2=aJ) (λ p=>⟨[(9,.p (.raw (.map (some r)))),(10,u p.2.2),(8,.aW 0 p.2.1.length (bb p.2.1)),(3,.ptr 0 0),(4,.ptr 1 0)],[(1,[bq m]),(0,cn l)],[(0,⟨3,1,p.2.1.length⟩)]⟩) (λ p=>p.2.1) (λ p=>p.1) (l.nodes.toNat+1,[],n0) ⟨by simp,List.nodup_nil,by simp,Dk,E⟩ rfl (λ aI bz cb=>zX) ?_;rintro⟨k,acc,n⟩ ⟨I,hnd,cT,iu,E⟩;simp only at I hnd cT iu E;have ci:=wJ l.nodes.toNat acc hnd (λ x O=>by have:=cT x O;omega);obtain⟨k,rfl⟩:∃j,k=j+1:=⟨k-1,by omega⟩;rw[ko] at E;refine(show p4 _ _ _ _ _ acc ⟨[(9,.p (.raw (.map (some r)))),(10,u n),(8,.aW 0 acc.length (bb acc)),(3,.ptr 0 0),(4,.ptr 1 0)],[(1,[bq m]),(0,cn l)],[(0,⟨3,1,acc.length⟩)]⟩ from ?_);refine rl (o8 λ aI bz cb X=>?_);refine gA (j7 l Z n 0 (by omega) (by omega)) ?_;have rf:=La Z (n:=n) (i:=0) (by omega);generalize A:decide (aE l n 0>=0)=cc;cases cc
  ·have bs:=of_decide_eq_false A;rw[if_neg (λ hh=>bs (rf.2 ⟨hh.1,hh.2.1⟩))] at E;refine go ?_;refine rk (rk (Ba (m7 (o8 λ aI bz cb X=>?_))));refine gf ?_;rw[<-E]
  ·have bs:=rf.1 (of_decide_eq_true A);refine go ?_;refine Ii aB X rfl underlying125 underlying3 rfl rfl rfl rfl rfl rfl rfl ?_;refine go ?_;generalize K:decide (n∈acc)=cc;cases cc
   ·have dc:=of_decide_eq_false K;rw[if_pos ⟨bs.1,bs.2,dc⟩] at E;refine go ?_;refine m7 ?_;refine Bd (rl (K4 ?_));refine A8 aB rfl rfl rfl rfl ?_;refine A8 aB rfl rfl rfl rfl ?_;refine K0 rfl rfl underlying125 underlying3 rfl rfl rfl rfl dc ?_;refine KZ (m7 (o8 λ aI bz cb X=>?_));refine go ?_;refine pA rfl ?_;rw[ow,show acc.length+1=(acc++[n]).length by simp];refine go ?_;refine dQ [] ?_;refine gQ (j7 l Z n 0 (by omega) (by omega)) ?_;refine cQ (p9 m (aE l n 0)) ?_;refine qg ?_;refine K2 (m7 ?_);exact⟨(k,acc++[n],bv m (aE l n 0)),⟨by simp;omega,by
     rw[List.nodup_append];exact⟨hnd,by simp,λ a ha b T=>by simp at T;subst T;exact λ e=>dc (e▸ha)⟩,λ x O=>by
     simp only[List.mem_append,List.mem_singleton] at O;rcases O with O|rfl
     ·exact cT x O
     ·exact bs,hi _,E⟩,by simp only;omega,rfl,λ aI bz cb=>zX⟩
   ·rw[if_neg (λ hh=>hh.2.2 (of_decide_eq_true K))] at E;refine go ?_;refine rk (rk (Ba (m7 (o8 λ aI bz cb X=>?_))));refine gf ?_;rw[<-E]
 ·rw[if_pos (of_decide_eq_true h1)] at E;refine gf ?_;rw[<-E]
  rfl
theorem rm(l:ag)(m:List Int)(s:Int):(fp l m s).length<=l.nodes.toNat+1:=by
 unfold fp;split
 ·simp
 ·have:=Cn (nx:=λ n=>bv m (aE l n 0)) (N:=l.nodes) (l.nodes.toNat+1) [] (ay (bv m (jK l s))).idx
  simpa using this
theorem D4(l:ag)(m:List Int)(s:Int):∀x∈fp l m s,1<=x/\x<=l.nodes:=by
 unfold fp;split
 ·simp
 ·exact E0 _ _ _ (by simp)
set_option maxHeartbeats 4000000 in
theorem En(l:ag)(Z:ca l)(m:List Int)(s:Int)(hm:∀x∈m,x<9223372036854775808):aX prog 38 [dD l,jl m,u s] (bq (nh l m s)):=by
 have xU:=D4 l m s;have n3:=rm l m s;have hC:=wI l Z m s hm;unfold nh;obtain⟨lR,ib⟩:=Z.nodes;generalize fp l m s=ns at*;refine sP func38 ntmps38 λ w cl=>?_
 refine gA hC ?_;refine dO (kF 7 0 3 1 rfl rfl rfl) ?_;refine bW (λ i:Nat=>i<=ns.length) (λ i=>⟨[(15,u i),(14,u ns.length),(13,bq ns),(7,.aW 0 i (bb ((ns.take i).map λ n=>bv m (aE l n 1)))),(3,.ptr 0 0),(4,.ptr 1 0)],[(1,[bq m]),(0,cn l)],[(0,⟨3,1,i⟩)]⟩) (λ i=>ns.length-i) 0 (by omega) (zX) ?_;intro i X;refine go ?_;refine cN (λ h1=>?_) (λ h1=>?_)<;>try rw[h1]
 ·have aP:=of_decide_eq_true h1;obtain⟨n,hn⟩:=l8 (l:=ns) (i:=i) (by omega) aP;have fK:=xU n (by simp only[Int.toNat_natCast] at hn;exact List.mem_of_getElem? hn);refine go ?_;refine ai [pI n] (gk hn) ?_;refine go ?_;refine dQ [] ?_;refine gQ (j7 l Z n 1 (by omega) (by omega)) ?_;refine cQ (p9 m (aE l n 1)) ?_;refine bh ?_;refine vg aB rfl rfl rfl rfl rfl rfl rfl rfl rfl rfl rfl rfl rfl (by unfold maxLen;omega) (by show(_+_)*8<=_;omega) ?_;have ht:ns.take (i+1)=ns.take i++[n]:=by
   rw[List.take_add_one];simp only[Int.toNat_natCast] at hn;rw[hn];rfl
  rw[ow,show(ns.take i).map (λ n=>bv m (aE l n 1))++[bv m (aE l n 1)]=(ns.take (i+1)).map (λ n=>bv m (aE l n 1)) by rw[ht];simp];refine qg ?_;exact⟨i+1,by omega,by omega,zX⟩
 ·have aP:=of_decide_eq_false h1;refine gf ?_;rw[List.take_of_length_le (by omega)];simp only[bq,List.length_map];rw[show ns.length=i by omega]
end Go.Proofs.YtcnefjfboagbmaaGreat.Em
namespace Go.Proofs.YtcnefjfboagbmaaGreat
open Go.Proofs.Tryz
open Go.RowKit
set_option maxRecDepth 100000
structure OL(l:ag):Prop where
 ok:ca l
 m:kh l
 b:1<=l.buckets
 n:0<=l.nodes/\l.nodes<=1000
 maps:0<=l.maps/\l.maps<=8
 cZ:0<=l.cZ/\l.cZ<=8
 bo:0<=l.bo/\l.bo<=8
abbrev xD(c:jM):G:=.agg [u c.1,bq c.2.1,bq c.2.2]
def MG(m:List Int):Prop:=∀x∈m,x<9223372036854775808
theorem GV(l:ag)(hO:OL l)(m:List Int)(hm:MG m)(kind i:Int):aX prog 14 [dD l,jl m,u kind,u i] (xD (pQ l m kind i)):=by
 have h1:=aau l hO.ok hO.m hO.n.2 m i;have A:=Em.En l hO.ok m i hm;have K:=Sg.En l hO.ok m i hm;generalize E:pQ l m kind i=aJ;unfold pQ at E;refine sP func14 ntmps14 λ w cl=>?_
 refine go ?_
 by_cases k1:kind=1
 ·rw[if_pos k1] at E;rw[decide_eq_true k1];refine gA h1 ?_;refine d8 ?_;rw[<-E]
 ·rw[if_neg k1] at E;rw[decide_eq_false k1];refine go ?_
  by_cases k2:kind=2
  ·rw[if_pos k2] at E;rw[decide_eq_true k2];refine gA A ?_;refine d8 ?_;rw[<-E,k2]
   rfl
  ·rw[if_neg k2] at E;rw[decide_eq_false k2];refine go ?_
   by_cases k3:kind=3
   ·rw[if_pos k3] at E;rw[decide_eq_true k3];refine gA K ?_;refine d8 ?_;rw[<-E,k3]
    rfl
   ·rw[if_neg k3] at E;rw[decide_eq_false k3];refine gf ?_;rw[<-E]
    rfl
theorem E4(a b:jM)(h1:a.2.1.length<=1000000000)(A:a.2.2.length<=1000000000):aX prog 13 [xD a,xD b] (dB (decide (a=b))):=by
 obtain⟨a1,a2,a3⟩:=a;obtain⟨b1,b2,b3⟩:=b;simp only at h1 A;have i1:=QJ a2 b2 h1;have i2:=QJ a3 b3 A;have E:decide ((a1,a2,a3)=(b1,b2,b3))=(decide (a1=b1)&&(decide (a2=b2)&&decide (a3=b3))):=by rw[Bool.eq_iff_iff];simp only[decide_eq_true_eq,Bool.and_eq_true,Prod.mk.injEq]
 rw[E];refine sP func13 ntmps13 λ w cl=>?_
 refine go ?_;generalize k1:decide (a1=b1)=cc;cases cc
 ·refine gf ?_
  rfl
 ·refine gA i1 ?_;generalize k2:decide (a2=b2)=cc;cases cc
  ·refine gf ?_
   rfl
  ·refine gA i2 ?_;refine d8 ?_
   rfl
def e9(l:ag)(m:List Int)(k:Nat):List Int:=(List.range k).flatMap λ(o:Nat)=>yL l m o
def hb(l:ag)(m:List Int)(k:Nat):List Int:=(List.range k).flatMap λ(o:Nat)=>Em.fp l m o
def lY(l:ag)(m:List Int)(k:Nat):List Int:=(List.range k).flatMap λ(o:Nat)=>Sg.fp l m o
theorem aaY(l:ag)(m:List Int)(k:Nat):e9 l m (k+1)=e9 l m k++yL l m k:=by simp[e9,List.range_succ]
theorem aa3(l:ag)(m:List Int)(k:Nat):hb l m (k+1)=hb l m k++Em.fp l m k:=by simp[hb,List.range_succ]
theorem aaG(l:ag)(m:List Int)(k:Nat):lY l m (k+1)=lY l m k++Sg.fp l m k:=by simp[lY,List.range_succ]
theorem abe(l:ag)(m:List Int):Bg l m=e9 l m l.maps.toNat++hb l m l.cZ.toNat++lY l m l.bo.toNat:=rfl
theorem Fm{f:Nat->List Int}{N:Nat}(h:∀o,(f o).length<=N):∀k,((List.range k).flatMap f).length<=k*N
 |0=>by simp
 |k+1=>by
  have h1:=Fm h k;have A:=h k;rw[List.range_succ,List.flatMap_append,List.length_append,Nat.add_mul];simp only[List.flatMap_cons,List.flatMap_nil,List.append_nil];omega
theorem aaD(l:ag)(m:List Int)(o:Int):(yL l m o).length<=l.nodes.toNat+2:=by
 unfold yL;split
 ·simp
 ·have:=rm l m (aE l (ay (bv m (hL l o 0))).idx 0);rw[List.length_cons];omega
theorem Ry:(ay 0).idx=0:=by decide
theorem UM{dM:Type}{P:Program}{Γ:bI}{Q:Exit->St->Prop}{x y:Code}{J:St}(bc:dM->St)(ok:dM->Prop)(h1:aK P Γ x (λ ex bU=>ex=.normal/\∃i,ok i/\bN Γ bU (bc i)) J)(A:∀i,ok i->aK P Γ y Q (bc i)):aK P Γ x (rG (aK P Γ y Q) Q) J:=
 vK h1 λ ex bU h=>by
  obtain⟨rfl,i,X,hg⟩:=h;exact dO hg (A i X)
set_option maxHeartbeats 16000000 in
theorem abf(l:ag)(hO:OL l)(m:List Int)(hm:MG m):aX prog 17 [dD l,jl m] (bq (Bg l m)):=by
 generalize E:Bg l m=aJ;rw[abe] at E;have Z:=hO.ok;have hM:=hO.m;obtain⟨n0,n1⟩:=hO.n;obtain⟨p0,p1⟩:=hO.maps;obtain⟨q0,q1⟩:=hO.cZ;obtain⟨r0,r1⟩:=hO.bo;have b1:∀k,(e9 l m k).length<=k*1002:=Fm λ o=>Nat.le_trans (aaD l m o) (by omega)
 have b2:∀k,(hb l m k).length<=k*1002:=Fm λ o=>Nat.le_trans (Em.rm l m o) (by omega)
 have b3:∀k,(lY l m k).length<=k*1002:=Fm λ o=>Nat.le_trans (Sg.rm l m o) (by omega)
 refine sP func17 ntmps17 λ w cl=>?_
 refine go ?_;refine dO (kF 5 0 3 1 rfl rfl rfl) ?_;refine bW (λ i:Nat=>i<=l.maps.toNat) (λ i=>⟨[(14,u i),(13,u l.maps),(5,.aW 0 (e9 l m i).length (bb (e9 l m i))),(2,.ptr 0 0),(3,.ptr 1 0)],[(1,[bq m]),(0,cn l)],[(0,⟨3,1,(e9 l m i).length⟩)]⟩) (λ i=>l.maps.toNat-i) 0 (by omega) (zX) ?_;intro i X;refine(show aK _ _ _ _ ⟨[(14,u i),(13,u l.maps),(5,.aW 0 (e9 l m i).length (bb (e9 l m i))),(2,.ptr 0 0),(3,.ptr 1 0)],[(1,[bq m]),(0,cn l)],[(0,⟨3,1,(e9 l m i).length⟩)]⟩ from ?_);have T:=b1 i;refine go ?_
 by_cases h1:i<l.maps.toNat
 ·rw[show decide ((i:Int)<l.maps)=true by rw[decide_eq_true_eq];omega];have hX:∃aa,aa=yL l m i:=⟨_,rfl⟩;obtain⟨aa,hX⟩:=hX;have dg:∀(Γ:bI)(J:St),bN Γ J ⟨[(14,u ((i:Int)+1)),(13,u l.maps),(5,.aW 0 ((e9 l m i)++aa).length (bb ((e9 l m i)++aa))),(2,.ptr 0 0),(3,.ptr 1 0)],[(1,[bq m]),(0,cn l)],[(0,⟨3,1,((e9 l m i)++aa).length⟩)]⟩->∃j:Nat,j<=l.maps.toNat/\l.maps.toNat-j<l.maps.toNat-i/\bN Γ J ⟨[(14,u j),(13,u l.maps),(5,.aW 0 (e9 l m j).length (bb (e9 l m j))),(2,.ptr 0 0),(3,.ptr 1 0)],[(1,[bq m]),(0,cn l)],[(0,⟨3,1,(e9 l m j).length⟩)]⟩:=λ _ _ hg=>⟨i+1,by omega,by omega,by rw[show((i+1:Nat):Int)=(i:Int)+1 by omega,aaY,<-hX];exact hg⟩
  unfold yL at hX;generalize e9 l m i=IM at*;have An:=Ci l Z hM i 0;generalize hL l i 0=bk at*;refine go ?_;refine cA An ?_;refine hZ ?_;refine zM ?_;refine UM (dM:=Unit) (λ _=>⟨[(7,u (ay (bv m bk)).idx),(6,u i),(14,u i),(13,u l.maps),(5,.aW 0 IM.length (bb IM)),(2,.ptr 0 0),(3,.ptr 1 0)],[(1,[bq m]),(0,cn l)],[(0,⟨3,1,IM.length⟩)]⟩) (λ _=>True) ?_ ?_
  ·clear dg;refine go ?_
   by_cases k1:bk>=0
   ·rw[decide_eq_true k1];refine go ?_
    by_cases k2:bk<m.length
    ·rw[decide_eq_true k2];have O:m[bk.toNat]?=some (bv m bk):=by
      unfold bv;rw[if_neg (by omega)];exact xv k1 k2
     refine go ?_;refine ai [pI (bv m bk)] (gk O) ?_;refine gA (kB (bv m bk)) ?_;exact⟨rfl,(),trivial,zX⟩
    ·rw[decide_eq_false k2];have h0:bv m bk=0:=by unfold bv;rw[if_pos (by omega)]
     rw[h0,Ry];refine go ?_;exact⟨rfl,(),trivial,zX⟩
   ·rw[decide_eq_false k1];have h0:bv m bk=0:=by unfold bv;rw[if_pos (by omega)]
    rw[h0,Ry];refine go ?_;exact⟨rfl,(),trivial,zX⟩
  intro _ _;have wu:=lj (bv m bk);generalize(ay (bv m bk)).idx=ri at*
  by_cases A:ri=0
  ·rw[if_pos A] at hX;subst hX;rw[List.append_nil] at dg;refine go ?_;rw[decide_eq_true A];refine go ?_;exact dg _ _ zX
  ·rw[if_neg A] at hX;have Au:=j7 l Z ri 0 (by omega) (by omega);generalize aE l ri 0=F at*;have r6:=wI l Z m F;have Fz:=rm l m F;generalize fp l m F=NS at*;subst hX;refine go ?_;rw[decide_eq_false A];refine go ?_;refine hE (m:=1) aB rfl rfl rfl rfl rfl rfl rfl rfl rfl rfl rfl rfl rfl (by unfold maxLen;omega) (by show(_+_)*8<=_;omega) ?_;refine go ?_;refine dQ [] ?_;refine gQ Au ?_;refine cQ r6 ?_;refine bh ?_;refine vg (m:=NS.length) aB rfl rfl rfl rfl rfl rfl rfl rfl rfl rfl rfl rfl (by rw[sF];show _=_*1;omega) (by unfold maxLen;omega) (by show(_+_)*8<=_;omega) ?_;refine qg ?_;refine dg _ _ ?_;rw[show(IM++ri::NS).length=IM.length+1+NS.length by simp;omega,show bb (IM++ri::NS)=bb IM++[pI ri]++bb NS by simp[bb]];exact zX
 ·have aP:i=l.maps.toNat:=by omega
  subst aP;rw[show decide (((l.maps.toNat:Nat):Int)<l.maps)=false by rw[decide_eq_false_iff_not];omega];clear X h1;refine go ?_;refine bW (λ i:Nat=>i<=l.cZ.toNat) (λ i=>⟨[(54,u i),(53,u l.cZ),(5,.aW 0 (e9 l m l.maps.toNat++hb l m i).length (bb (e9 l m l.maps.toNat++hb l m i))),(2,.ptr 0 0),(3,.ptr 1 0)],[(1,[bq m]),(0,cn l)],[(0,⟨3,1,(e9 l m l.maps.toNat++hb l m i).length⟩)]⟩) (λ i=>l.cZ.toNat-i) 0 (by omega) (by simp only[hb,List.range_zero,List.flatMap_nil,List.append_nil];exact zX) ?_;intro i X;refine(show aK _ _ _ _ ⟨[(54,u i),(53,u l.cZ),(5,.aW 0 (e9 l m l.maps.toNat++hb l m i).length (bb (e9 l m l.maps.toNat++hb l m i))),(2,.ptr 0 0),(3,.ptr 1 0)],[(1,[bq m]),(0,cn l)],[(0,⟨3,1,(e9 l m l.maps.toNat++hb l m i).length⟩)]⟩ from ?_);have O0:=b2 i;refine go ?_
  by_cases h1:i<l.cZ.toNat
  ·rw[show decide ((i:Int)<l.cZ)=true by rw[decide_eq_true_eq];omega];have r6:=Em.wI l Z m i hm;have Fz:=Em.rm l m i;have hX:∃aa,aa=Em.fp l m i:=⟨_,rfl⟩;obtain⟨aa,hX⟩:=hX;rw[<-hX] at r6 Fz;have dg:∀(Γ:bI)(J:St),bN Γ J ⟨[(54,u ((i:Int)+1)),(53,u l.cZ),(5,.aW 0 ((e9 l m l.maps.toNat++hb l m i)++aa).length (bb ((e9 l m l.maps.toNat++hb l m i)++aa))),(2,.ptr 0 0),(3,.ptr 1 0)],[(1,[bq m]),(0,cn l)],[(0,⟨3,1,((e9 l m l.maps.toNat++hb l m i)++aa).length⟩)]⟩->∃j:Nat,j<=l.cZ.toNat/\l.cZ.toNat-j<l.cZ.toNat-i/\bN Γ J ⟨[(54,u j),(53,u l.cZ),(5,.aW 0 (e9 l m l.maps.toNat++hb l m j).length (bb (e9 l m l.maps.toNat++hb l m j))),(2,.ptr 0 0),(3,.ptr 1 0)],[(1,[bq m]),(0,cn l)],[(0,⟨3,1,(e9 l m l.maps.toNat++hb l m j).length⟩)]⟩:=λ _ _ hg=>⟨i+1,by omega,by omega,by rw[show((i+1:Nat):Int)=(i:Int)+1 by omega,aa3,<-hX,<-List.append_assoc];exact hg⟩
   clear hX;have ci:(e9 l m l.maps.toNat++hb l m i).length<=20000:=by rw[List.length_append];omega
   generalize e9 l m l.maps.toNat++hb l m i=IM at*;refine gA r6 ?_;refine hE (m:=aa.length) aB rfl rfl rfl rfl rfl rfl rfl rfl rfl rfl rfl rfl (by rw[sF];show _=_*1;omega) (by unfold maxLen;omega) (by show(_+_)*8<=_;omega) ?_;refine go ?_;refine dg _ _ ?_;rw[List.length_append,RN];exact zX
  ·have aP:i=l.cZ.toNat:=by omega
   subst aP;rw[show decide (((l.cZ.toNat:Nat):Int)<l.cZ)=false by rw[decide_eq_false_iff_not];omega];clear X h1;refine go ?_;refine bW (λ i:Nat=>i<=l.bo.toNat) (λ i=>⟨[(67,u i),(66,u l.bo),(5,.aW 0 (e9 l m l.maps.toNat++hb l m l.cZ.toNat++lY l m i).length (bb (e9 l m l.maps.toNat++hb l m l.cZ.toNat++lY l m i))),(2,.ptr 0 0),(3,.ptr 1 0)],[(1,[bq m]),(0,cn l)],[(0,⟨3,1,(e9 l m l.maps.toNat++hb l m l.cZ.toNat++lY l m i).length⟩)]⟩) (λ i=>l.bo.toNat-i) 0 (by omega) (by simp only[lY,List.range_zero,List.flatMap_nil,List.append_nil];exact zX) ?_;intro i X;refine(show aK _ _ _ _ ⟨[(67,u i),(66,u l.bo),(5,.aW 0 (e9 l m l.maps.toNat++hb l m l.cZ.toNat++lY l m i).length (bb (e9 l m l.maps.toNat++hb l m l.cZ.toNat++lY l m i))),(2,.ptr 0 0),(3,.ptr 1 0)],[(1,[bq m]),(0,cn l)],[(0,⟨3,1,(e9 l m l.maps.toNat++hb l m l.cZ.toNat++lY l m i).length⟩)]⟩ from ?_);have O1:=b3 i;refine go ?_
   by_cases h1:i<l.bo.toNat
   ·rw[show decide ((i:Int)<l.bo)=true by rw[decide_eq_true_eq];omega];have r6:=Sg.wI l Z m i hm;have Fz:=Sg.rm l m i;have hX:∃aa,aa=Sg.fp l m i:=⟨_,rfl⟩;obtain⟨aa,hX⟩:=hX;rw[<-hX] at r6 Fz;have dg:∀(Γ:bI)(J:St),bN Γ J ⟨[(67,u ((i:Int)+1)),(66,u l.bo),(5,.aW 0 ((e9 l m l.maps.toNat++hb l m l.cZ.toNat++lY l m i)++aa).length (bb ((e9 l m l.maps.toNat++hb l m l.cZ.toNat++lY l m i)++aa))),(2,.ptr 0 0),(3,.ptr 1 0)],[(1,[bq m]),(0,cn l)],[(0,⟨3,1,((e9 l m l.maps.toNat++hb l m l.cZ.toNat++lY l m i)++aa).length⟩)]⟩->∃j:Nat,j<=l.bo.toNat/\l.bo.toNat-j<l.bo.toNat-i/\bN Γ J ⟨[(67,u j),(66,u l.bo),(5,.aW 0 (e9 l m l.maps.toNat++hb l m l.cZ.toNat++lY l m j).length (bb (e9 l m l.maps.toNat++hb l m l.cZ.toNat++lY l m j))),(2,.ptr 0 0),(3,.ptr 1 0)],[(1,[bq m]),(0,cn l)],[(0,⟨3,1,(e9 l m l.maps.toNat++hb l m l.cZ.toNat++lY l m j).length⟩)]⟩:=λ _ _ hg=>⟨i+1,by omega,by omega,by rw[show((i+1:Nat):Int)=(i:Int)+1 by omega,aaG,<-hX,<-List.append_assoc];exact hg⟩
    clear hX;have ci:(e9 l m l.maps.toNat++hb l m l.cZ.toNat++lY l m i).length<=40000:=by simp only[List.length_append];omega
    generalize e9 l m l.maps.toNat++hb l m l.cZ.toNat++lY l m i=IM at*;refine gA r6 ?_;refine hE (m:=aa.length) aB rfl rfl rfl rfl rfl rfl rfl rfl rfl rfl rfl rfl (by rw[sF];show _=_*1;omega) (by unfold maxLen;omega) (by show(_+_)*8<=_;omega) ?_;refine go ?_;refine dg _ _ ?_;rw[List.length_append,RN];exact zX
   ·have aP:i=l.bo.toNat:=by omega
    subst aP;rw[show decide (((l.bo.toNat:Nat):Int)<l.bo)=false by rw[decide_eq_false_iff_not];omega];rw[E];refine gf ?_
    rfl
end Go.Proofs.YtcnefjfboagbmaaGreat
