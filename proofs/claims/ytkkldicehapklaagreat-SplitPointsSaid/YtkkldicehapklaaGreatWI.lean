/- A short row of pairs is sorted by their first numbers: its walk. -/
import Derived.Test.YtkkldicehapklaaGreatWE
import Derived.Test.YtkkldicehapklaaGreatPU
import Derived.Test.YtkkldicehapklaaGreatWF
import Derived.Test.YtkkldicehapklaaGreatWC
import Derived.Test.YtkkldicehapklaaGreatWG
namespace Go.Proofs.YtkkldicehapklaaGreat
open Go.Proofs.Tryz
open Go.RowKit
set_option maxRecDepth 100000
theorem aaF{fg:Type}{P:Program}{Γ:bX}{Q:Exit->St->Prop}{c:Code}{L:St}(x:Exit)(bu:fg->St)(ok:fg->Prop)(h:a8 P Γ c (λ ex bQ=>ex=x/\∃i,ok i/\eI Γ bQ (bu i)) L)(k:∀bQ i,ok i->eI Γ bQ (bu i)->Q x bQ):a8 P Γ c Q L:=
 zu h λ ex bQ hh=>by
  obtain⟨rfl,i,hi,hg⟩:=hh;exact k bQ i hi hg
section
variable{P:Program}{aq:Nat->Option TI}{n:Nat}{B B0:List (Nat×List I)}{aB:St->Prop}{aC:List Nat}{aR:List (Nat×Nat)}{ix:Nat}{o:Oper}{l0 l:List Oper}{s:List (Nat×I)}{b:List (Nat×List I)}{g:List (Nat×Gr)}{t nm:Nat}{d:I}
theorem Xs(hq:dM P o (kv s) (kv B0) d none)(hg:gd l0 o (kv s)=some true)(K:o.dst=some t)(he:Cx l0 o=true)(h:co P n l0 B B0 aB (ix+1) aC aR l ⟨(t,d)::s,b,g⟩):co P n l0 B B0 aB ix aC aR (o::l) ⟨s,b,g⟩:=
 .inl ⟨d,none,hg,.inr ⟨he,hq⟩,λ p G=>(by cases G),by rw[K];exact h⟩
theorem YD{cs aZ ds:List I}{of:Nat}(h:of+ds.length<=cs.length)(bV:stored cs of ds=aZ):uI cs of (.agg ds) some=some aZ:=by
 subst bV;have h1:∀(k:List I->Option (List I)),mD of cs k=k (cs.take of):=λ k=>by
  have:=QJ (cs.take of) (cs.drop of) k;rw[List.take_append_drop,List.length_take,Nat.min_eq_left (by omega)] at this;exact this
 unfold uI;rw[xS,h1,EE of cs _ (by omega),EE _ _ _ (by rw[List.length_drop];show ds.length<=_;omega),sr,sr,List.drop_drop];unfold stored;rw[List.append_assoc]
 rfl
end
def tv(S:cr):Prop:=S.Pairwise λ x y=>x.1<=y.1
abbrev gT(S:cr)(rest:List I):List I:=S.flatMap (λ x=>[M x.1,M x.2])++rest
theorem P5(S:cr)(rest:List I):(gT S rest).length=S.length*2+rest.length:=by
 induction S with
 |nil=>simp[gT]
 |cons y S ih=>show(gT S rest).length+2=_;rw[ih,List.length_cons];omega
theorem P4{S:cr}{i:Nat}{x:Int×Int}(h:S[i]?=some x)(rest:List I):∃r,(gT S rest).drop (i*2)=[M x.1,M x.2]++r:=by
 induction S generalizing i with
 |nil=>simp at h
 |cons y S ih=>
  cases i with
  |zero=>simp at h;subst h;exact⟨_,rfl⟩
  |succ i=>
   obtain⟨r,hr⟩:=ih (i:=i) (by simpa using h);refine⟨r,?_⟩;rw[<-hr,show(i+1)*2=i*2+2 by omega]
   rfl
theorem XW{S:cr}{i:Nat}(x:Int×Int)(h:i<S.length)(rest:List I):stored (gT S rest) (i*2) [M x.1,M x.2]=gT (S.set i x) rest:=by
 induction S generalizing i with
 |nil=>simp at h
 |cons y S ih=>
  cases i with
  |zero=>rfl
  |succ i=>
   have:=ih (i:=i) (by simpa using h);rw[List.set_cons_succ];show _=M y.1::M y.2::gT (S.set i x) rest;rw[<-this,show(i+1)*2=i*2+2 by omega]
   rfl
theorem Km{S:cr}{rest:List I}(h:gu rest):gu (gT S rest):=by
 intro B aa;induction S with
 |nil=>exact h B aa
 |cons y S ih=>exact ih
theorem akh(A B:cr)(x y:Int×Int):((A++y::x::B).set (A.length+1) y).set A.length x=A++x::y::B:=by
 rw[List.set_append_right _ _ (by omega),show A.length+1-A.length=1 by omega,List.set_append_right _ _ (by omega),Nat.sub_self]
 rfl
theorem aky{A B:cr}{x:Int×Int}(h:tv (A++B))(ha:∀y∈A,y.1<=x.1)(hb:∀y∈B,x.1<=y.1):tv (A++x::B):=by
 have h1:=List.pairwise_append.1 h;refine List.pairwise_append.2 ⟨h1.1,List.pairwise_cons.2 ⟨hb,h1.2.1⟩,λ y hy z hz=>?_⟩;rcases List.mem_cons.1 hz with rfl|hz
 ·exact ha y hy
 ·exact h1.2.2 y hy z hz
theorem akx{A:cr}{y:Int×Int}{v:Int}(h:tv (A++[y]))(hy:y.1<=v):∀z∈A++[y],z.1<=v:=by
 intro z hz;rcases List.mem_append.1 hz with hz|hz
 ·have:=(List.pairwise_append.1 h).2.2 z hz y (by simp);omega
 ·have:z=y:=by simpa using hz
  subst this;exact hy
theorem Y4:∀{S aq:cr},tv S->uT aq->S.Perm aq->S=aq
 |[],aq,_,_,G=>(List.nil_perm.1 G).symm
 |x::S,[],_,_,G=>absurd (List.perm_nil.1 G) (by simp)
 |x::S,y::aq,hS,hT,G=>by
  have h1:=List.pairwise_cons.1 hS;have u:=List.pairwise_cons.1 hT;have e:x=y:=by
   rcases List.mem_cons.1 (G.mem_iff.1 (show x∈x::S by simp)) with e|hx
   ·exact e
   ·rcases List.mem_cons.1 (G.mem_iff.2 (show y∈y::aq by simp)) with e|hy
    ·exact e.symm
    ·have:=h1.1 y hy;have:=u.1 x hx;omega
  subst e;rw[Y4 h1.2 u.2 G.cons_inv]
theorem Vq(x:Int):bH prog 67 [M x] (dB false):=by
 refine sP func67 ntmps67 λ w cl=>?_
 refine gf ?_;simp
abbrev u6:I:=.fn (.func 31) [] []
abbrev Cp(x y:Int):Int:=if x<y then-1 else if y<x then 1 else 0
theorem abk(x y:Int):bH prog 32 [M x,M y] (M (Cp x y)):=by
 unfold Cp;refine sP func32 ntmps32 λ w cl=>?_
 refine gA (Vq x) ?_;refine cA (Vq y) ?_;refine go ?_
 by_cases h1:x<y
 ·rw[show decide (x<y)=true from decide_eq_true h1,if_pos h1];refine gf ?_
  rfl
 ·rw[show decide (x<y)=false from decide_eq_false h1,if_neg h1];refine go ?_
  by_cases u:y<x
  ·rw[show decide (x>y)=true from decide_eq_true u,if_pos u];refine gf ?_
   rfl
  ·rw[show decide (x>y)=false from decide_eq_false u,if_neg u];refine gf ?_
   rfl
theorem abh(x y:Int×Int):bH prog 31 [.agg [M x.1,M x.2],.agg [M y.1,M y.2]] (M (Cp x.1 y.1)):=by
 refine sP func31 ntmps31 λ w cl=>?_
 refine go ?_;refine cy (lD aX rfl rfl rfl rfl rfl (by omega) (by omega)) rfl rfl rfl ?_;refine go ?_;refine cy (lD aX rfl rfl rfl rfl rfl (by omega) (by omega)) rfl rfl rfl ?_;refine gA (abk x.1 y.1) ?_;refine hp ?_
 rfl
theorem abi(x y:Int):decide (Cp x y<0)=decide (x<y):=by
 unfold Cp;split
 ·rename_i h;rw[show decide (x<y)=true from decide_eq_true h];rfl
 ·rename_i h;rw[show decide (x<y)=false from decide_eq_false h];split<;>rfl
abbrev vT(n c:Nat):I:=.arr 20 0 n c
set_option maxHeartbeats 8000000 in
theorem af8(S0:cr)(rest:List I)(G:gu rest)(n c:Nat)(hn:S0.length=n)(F:n<=1000):gt prog 89 [20] [vT n c,M 0,M n,u6] [(20,gT S0 rest)] (λ d bs=>d=.ca []/\∃S,S.Perm S0/\tv S/\bs=[(20,gT S rest)]):=by
 have cV:∀{S:cr}(B aa:Nat->Bool),I.ok.fy B aa (gT S rest)=true:=λ B aa=>Km G B aa
 refine sI func89 ntmps89 λ w cl own kf=>?_
 refine go ?_;refine d7 (λ p:Nat×cr=>1<=p.1/\(p.1<=n\/(n=0/\p.1=1))/\p.2.Perm S0/\tv (p.2.take p.1)) (λ p=>⟨[(8,M p.1),(3,u6),(2,M n),(1,M 0),(0,vT n c)],[(20,gT p.2 rest)],[]⟩) (λ p=>n-p.1) (1,S0) ⟨Nat.le_refl _,?_,.refl _,?_⟩ (kX (by(repeat(first|exact trivial|refine⟨⟨rfl,rfl⟩,?_⟩))) (by(repeat(first|exact trivial|refine⟨⟨rfl,rfl⟩,?_⟩|refine⟨⟨rfl,cV _ _⟩,?_⟩))) (by(repeat(first|exact trivial|refine⟨rfl,?_⟩))) (by(repeat(first|exact trivial|refine⟨rfl,?_⟩)))) ?_
 ·show 1<=n\/_;rcases Nat.eq_zero_or_pos n with h|h
  ·exact .inr ⟨h,rfl⟩
  ·exact .inl h
 ·show tv (S0.take 1);cases S0 with
  |nil=>exact List.Pairwise.nil
  |cons x S=>exact List.pairwise_singleton _ _
 rintro⟨i,S⟩ ⟨IE,hi,hS,hU⟩;simp only at IE hi hS hU;refine(show a8 _ _ _ _ ⟨[(8,M i),(3,u6),(2,M n),(1,M 0),(0,vT n c)],[(20,gT S rest)],[]⟩ from ?_);refine go ?_;refine gY (λ h1=>?_) (λ h1=>?_)<;>try rw[h1]
 ·have bB:=of_decide_eq_true h1;obtain⟨x,hx⟩:∃x,S[i]?=some x:=⟨S[i]'(by have:=hS.length_eq;omega),List.getElem?_eq_getElem _⟩;have EX:S=S.take i++x::S.drop (i+1):=by
   obtain⟨q1,q2⟩:=List.getElem?_eq_some_iff.1 hx;rw[<-q2,<-List.drop_eq_getElem_cons q1,List.take_append_drop]
  have iG:(S.take i).length=i:=by rw[List.length_take];have:=hS.length_eq;omega
  generalize S.take i=A0 at*;generalize S.drop (i+1)=C0 at*;subst EX;subst iG;have EY:=hS.length_eq;simp only[List.length_append,List.length_cons] at EY;refine go ?_;refine aaF (fg:=cr) (.exit 2) (λ S=>⟨[(8,M A0.length),(3,u6),(2,M n),(1,M 0),(0,vT n c)],[(20,gT S rest)],[]⟩) (λ S=>S.Perm S0/\tv (S.take (A0.length+1))) ?_ ?_
  ·refine d7 (λ p:cr×cr=>A0=p.1++p.2/\∀y∈p.2,x.1<y.1) (λ p=>⟨[(9,M p.1.length),(8,M A0.length),(3,u6),(2,M n),(1,M 0),(0,vT n c)],[(20,gT (p.1++x::(p.2++C0)) rest)],[]⟩) (λ p=>p.1.length) (A0,[]) ⟨(List.append_nil _).symm,λ y hy=>by cases hy⟩ (kX (by(repeat(first|exact trivial|refine⟨⟨rfl,rfl⟩,?_⟩))) (by(repeat(first|exact trivial|refine⟨⟨rfl,rfl⟩,?_⟩|refine⟨⟨rfl,cV _ _⟩,?_⟩))) (by(repeat(first|exact trivial|refine⟨rfl,?_⟩))) (by(repeat(first|exact trivial|refine⟨rfl,?_⟩)))) ?_;rintro⟨A,B⟩ ⟨hA,hB⟩;simp only at hA hB;refine(show a8 _ _ _ _ ⟨[(9,M A.length),(8,M A0.length),(3,u6),(2,M n),(1,M 0),(0,vT n c)],[(20,gT (A++x::(B++C0)) rest)],[]⟩ from ?_);have CN:(∀y∈A,y.1<=x.1)->(A++x::(B++C0)).Perm S0/\tv ((A++x::(B++C0)).take (A0.length+1)):=λ fD=>by
    subst hA;refine⟨List.Perm.trans ?_ hS,?_⟩
    ·rw[List.append_assoc];exact List.Perm.append_left A (List.perm_middle.symm)
    ·rw[show A++x::(B++C0)=(A++x::B)++C0 by simp,List.take_append_of_le_length (by simp;omega),List.take_of_length_le (by simp;omega)];exact aky hU fD λ y hy=>by have:=hB y hy;omega
   rcases List.eq_nil_or_concat A with rfl|⟨dC,y,rfl⟩
   ·refine go ?_;refine gD [] ?_;refine go ?_;exact⟨rfl,_,CN (λ y hy=>by cases hy),kX (by(repeat(first|exact trivial|refine⟨⟨rfl,rfl⟩,?_⟩))) (by(repeat(first|exact trivial|refine⟨⟨rfl,rfl⟩,?_⟩|refine⟨⟨rfl,cV _ _⟩,?_⟩))) (by(repeat(first|exact trivial|refine⟨rfl,?_⟩))) (by(repeat(first|exact trivial|refine⟨rfl,?_⟩)))⟩
   ·simp only[List.concat_eq_append] at*;have eV:(dC++[y]).length=dC.length+1:=by simp
    have NZ:dC.length+1<=A0.length:=by rw[hA];simp
    have di:((dC++[y])++x::(B++C0))[dC.length+1]?=some x:=by rw[List.getElem?_append_right (by simp)];simp
    have gM:((dC++[y])++x::(B++C0))[dC.length]?=some y:=by simp
    obtain⟨r1,lZ⟩:=P4 di rest;obtain⟨r2,I5⟩:=P4 gM rest;have rM:=P5 ((dC++[y])++x::(B++C0)) rest;have dw:((dC++[y])++x::(B++C0)).length=n:=by rw[hA] at EY;simp at EY⊢;omega
    have U4:(((dC++[y])++x::(B++C0)).set (dC.length+1) y).set dC.length x=dC++x::y::(B++C0):=by rw[show(dC++[y])++x::(B++C0)=dC++y::x::(B++C0) by simp];exact akh dC (B++C0) x y
    have afu:=XW (S:=(dC++[y])++x::(B++C0)) (i:=dC.length+1) y (by omega) rest;have U5:=XW (S:=((dC++[y])++x::(B++C0)).set (dC.length+1) y) (i:=dC.length) x (by rw[List.length_set];omega) rest;rw[U4] at U5;clear U4;have afp:=P5 (((dC++[y])++x::(B++C0)).set (dC.length+1) y) rest;rw[List.length_set] at afp;have TX:=abh x y;have aY:=abi x.1 y.1;generalize Cp x.1 y.1=alq at TX aY;generalize Ip:(dC++[y])++x::(B++C0)=S1 at*;generalize adv:gT S1 rest=R1 at*;generalize qw:gT (S1.set (dC.length+1) y) rest=R2 at*;rw[eV];refine go ?_;refine gD [] ?_;rw[show decide ((0:Int)<((dC.length+1:Nat):Int))=true by rw[decide_eq_true_eq];omega];refine bJ ?_;refine fL (Gc (p:=(dC.length+1)*2) aX rfl rfl rfl rfl rfl (by omega) (by omega) (by show(dC.length+1)*2=((dC.length+1:Nat):Int).toNat*2;omega)) rfl rfl ?_;refine fL (BC aX [M x.1,M x.2] r1 rfl rfl rfl rfl rfl (by show(dC.length+1)*2<=R1.length;omega) lZ rfl) rfl rfl ?_;refine bJ ?_;refine rj (dC.length*2) 2 ?_;refine fL (BC aX [M y.1,M y.2] r2 rfl rfl rfl rfl rfl (by show dC.length*2<=R1.length;omega) I5 rfl) rfl rfl ?_;refine bJ ?_;refine fL (RN TX rfl (λ a w=>call31 a w) rfl rfl) rfl rfl ?_;refine qg ?_;rw[aY]
    by_cases u:x.1<y.1
    ·rw[show decide (x.1<y.1)=true from decide_eq_true u];refine go ?_;refine gD [20] ?_;refine rj (dC.length*2) 2 ?_;refine Xs (BC aX [M y.1,M y.2] r2 rfl rfl rfl rfl rfl (by show dC.length*2<=R1.length;omega) I5 rfl) rfl rfl (by kernel_rfl) ?_;refine bJ ?_;refine fL (Gc (p:=(dC.length+1)*2) aX rfl rfl rfl rfl rfl (by omega) (by omega) (by show(dC.length+1)*2=((dC.length+1:Nat):Int).toNat*2;omega)) rfl rfl ?_;refine Xs (BC aX [M x.1,M x.2] r1 rfl rfl rfl rfl rfl (by show(dC.length+1)*2<=R1.length;omega) lZ rfl) rfl rfl (by kernel_rfl) ?_;refine fL (Gc (p:=(dC.length+1)*2) aX rfl rfl rfl rfl rfl (by omega) (by omega) (by show(dC.length+1)*2=((dC.length+1:Nat):Int).toNat*2;omega)) rfl rfl ?_;refine Kd (aZ:=R2) aX rfl rfl rfl rfl rfl rfl rfl rfl (YD (by show(dC.length+1)*2+2<=R1.length;omega) afu) rfl rfl (.inl rfl) ?_;refine rj (dC.length*2) 2 ?_;refine Kd (aZ:=gT (dC++x::y::(B++C0)) rest) aX rfl rfl rfl rfl rfl rfl rfl rfl (YD (by show dC.length*2+2<=R2.length;omega) U5) rfl rfl (.inr (by kernel_rfl)) ?_;refine qg ?_;refine⟨(dC,y::B),⟨by simp only;rw[hA];simp,λ z hz=>?_⟩,by simp only;omega,?_⟩
     ·rcases List.mem_cons.1 hz with rfl|hz
      ·exact u
      ·exact hB z hz
     ·show eI _ _ ⟨[(9,M dC.length),(8,M A0.length),(3,u6),(2,M n),(1,M 0),(0,vT n c)],[(20,gT (dC++x::(y::B++C0)) rest)],[]⟩;rw[show(dC.length:Int)=((dC.length+1:Nat):Int)-1 by omega];exact kX (by(repeat(first|exact trivial|refine⟨⟨rfl,rfl⟩,?_⟩))) (by(repeat(first|exact trivial|refine⟨⟨rfl,rfl⟩,?_⟩|refine⟨⟨rfl,cV _ _⟩,?_⟩))) (by(repeat(first|exact trivial|refine⟨rfl,?_⟩))) (by(repeat(first|exact trivial|refine⟨rfl,?_⟩)))
    ·rw[show decide (x.1<y.1)=false from decide_eq_false u];refine go ?_;rw[<-adv];exact⟨rfl,_,CN (by rw[hA] at hU;exact akx (List.pairwise_append.1 hU).1 (by omega)),kX (by(repeat(first|exact trivial|refine⟨⟨rfl,rfl⟩,?_⟩))) (by(repeat(first|exact trivial|refine⟨⟨rfl,rfl⟩,?_⟩|refine⟨⟨rfl,cV _ _⟩,?_⟩))) (by(repeat(first|exact trivial|refine⟨rfl,?_⟩))) (by(repeat(first|exact trivial|refine⟨rfl,?_⟩)))⟩
  rintro bQ S ⟨EZ,adA⟩ ip;refine zR (zP (zM (iP ip ?_)));clear ip;refine go ?_;exact⟨(A0.length+1,S),⟨by simp only;omega,by simp only;omega,EZ,adA⟩,by simp only;omega,kX (by(repeat(first|exact trivial|refine⟨⟨rfl,rfl⟩,?_⟩))) (by(repeat(first|exact trivial|refine⟨⟨rfl,rfl⟩,?_⟩|refine⟨⟨rfl,cV _ _⟩,?_⟩))) (by(repeat(first|exact trivial|refine⟨rfl,?_⟩))) (by(repeat(first|exact trivial|refine⟨rfl,?_⟩)))⟩
 ·have bB:=of_decide_eq_false h1;refine go ?_;refine pH (d:=.ca []) [(20,gT S rest)] ?_ rfl ⟨⟨rfl,cV _ _⟩,trivial⟩ ⟨rfl,trivial⟩ ⟨rfl,S,hS,?_,rfl⟩
  ·rfl
  ·rw[List.take_of_length_le (by have:=hS.length_eq;omega)] at hU;exact hU
set_option maxHeartbeats 4000000 in
theorem aj9(S0:cr)(rest:List I)(G:gu rest)(n c:Nat)(hn:S0.length=n)(F:n<=19):gt prog 66 [20] [vT n c,M n,u6] [(20,gT S0 rest)] (λ d bs=>d=.ca []/\∃S,S.Perm S0/\tv S/\bs=[(20,gT S rest)]):=by
 have cV:∀{S:cr}(B aa:Nat->Bool),I.ok.fy B aa (gT S rest)=true:=λ B aa=>Km G B aa
 have hI:=af8 S0 rest G n c hn (by omega);refine sI func66 ntmps66 λ w cl own kf=>?_
 refine go ?_;refine d7 (λ _:Unit=>True) (λ _=>⟨[(8,M 20),(7,M 0),(6,M 20),(0,vT n c),(1,M n),(2,u6)],[(20,gT S0 rest)],[]⟩) (λ _=>0) () trivial (kX (by(repeat(first|exact trivial|refine⟨⟨rfl,rfl⟩,?_⟩))) (by(repeat(first|exact trivial|refine⟨⟨rfl,rfl⟩,?_⟩|refine⟨⟨rfl,cV _ _⟩,?_⟩))) (by(repeat(first|exact trivial|refine⟨rfl,?_⟩))) (by(repeat(first|exact trivial|refine⟨rfl,?_⟩)))) ?_;intro _ _;refine go ?_;rw[show decide ((20:Int)<=n)=false by rw[decide_eq_false_iff_not];omega];refine go ?_;refine nf hI rfl (λ a w=>call89 a w) rfl rfl ⟨⟨rfl,cV _ _⟩,trivial⟩ (by(repeat(first|exact trivial|refine⟨.inr rfl,?_⟩|refine⟨.inl rfl,?_⟩))) rfl rfl rfl rfl ?_ ?_
 ·rintro d bs ⟨rfl,S,_,_,rfl⟩;exact⟨.inl rfl,trivial⟩
 rintro d bs ⟨rfl,S,hS,hU,rfl⟩;refine go ?_;refine d7 (λ _:Unit=>True) (λ _=>⟨[(6,M 20),(1,M n)],[(20,gT S rest)],[]⟩) (λ _=>0) () trivial (kX (by(repeat(first|exact trivial|refine⟨⟨rfl,rfl⟩,?_⟩))) (by(repeat(first|exact trivial|refine⟨⟨rfl,rfl⟩,?_⟩|refine⟨⟨rfl,cV _ _⟩,?_⟩))) (by(repeat(first|exact trivial|refine⟨rfl,?_⟩))) (by(repeat(first|exact trivial|refine⟨rfl,?_⟩)))) ?_;intro _ _;refine go ?_;rw[show decide ((20:Int)<n)=false by rw[decide_eq_false_iff_not];omega];refine go ?_;refine pH (d:=.ca []) [(20,gT S rest)] ?_ rfl ⟨⟨rfl,cV _ _⟩,trivial⟩ ⟨rfl,trivial⟩ ⟨rfl,S,hS,hU,rfl⟩
 rfl
theorem aj1(S0:cr)(rest:List I)(G:gu rest)(n c:Nat)(hn:S0.length=n)(F:n<=19):gt prog 30 [20] [vT n c,u6] [(20,gT S0 rest)] (λ d bs=>d=.ca []/\∃S,S.Perm S0/\tv S/\bs=[(20,gT S rest)]):=by
 have cV:∀{S:cr}(B aa:Nat->Bool),I.ok.fy B aa (gT S rest)=true:=λ B aa=>Km G B aa
 have hI:=aj9 S0 rest G n c hn F;refine sI func30 ntmps30 λ w cl own kf=>?_
 refine go ?_;refine nf hI rfl (λ a w=>call66 a w) rfl rfl ⟨⟨rfl,cV _ _⟩,trivial⟩ (by(repeat(first|exact trivial|refine⟨.inr rfl,?_⟩|refine⟨.inl rfl,?_⟩))) rfl rfl rfl rfl ?_ ?_
 ·rintro d bs ⟨rfl,S,_,_,rfl⟩;exact⟨.inl rfl,trivial⟩
 rintro d bs ⟨rfl,S,hS,hU,rfl⟩;refine go ?_;refine pH (d:=.ca []) [(20,gT S rest)] ?_ rfl ⟨⟨rfl,cV _ _⟩,trivial⟩ ⟨rfl,trivial⟩ ⟨rfl,S,hS,hU,rfl⟩
 rfl
theorem ah8(B aa:Nat->Bool)(x:I)(l:List I):I.ok.fy B aa (x::l)=(x.ok B aa&&I.ok.fy B aa l):=rfl
theorem gu.drop{cs:List I}(h:gu cs):∀n,gu (cs.drop n):=by
 intro n B aa;have h1:=h B aa;clear h;induction n generalizing cs with
 |zero=>exact h1
 |succ n ih=>
  cases cs with
  |nil=>exact h1
  |cons x cs=>rw[ah8,Bool.and_eq_true] at h1;exact ih h1.2
theorem aiv(S:cr):(jo S).map I.p=S.flatMap λ x=>[M x.1,M x.2]:=by
 induction S with
 |nil=>rfl
 |cons x S ih=>
  show M x.1::M x.2::(jo S).map I.p=_;rw[ih]
  rfl
theorem aiu(S:cr):(jo S).length=S.length*2:=by
 induction S with
 |nil=>rfl
 |cons x S ih=>show(jo S).length+2=_;rw[ih,List.length_cons];omega
theorem ait(S:cr)(x:Int×Int):jo S++[pI x.1,pI x.2]=jo (S++[x]):=by
 induction S with
 |nil=>rfl
 |cons y S ih=>
  show pI y.1::pI y.2::(jo S++[pI x.1,pI x.2])=_;rw[ih]
  rfl
def Q5(aq:cr)(d:I)(bx:cn):Prop:=(aq=[]/\d=.p (.sl true 0 [])/\bx=[])\/∃c cs,d=.arr 20 0 aq.length c/\bx=[(20,cs)]/\cs.length=c*2/\c<=maxLen/\aq.length<=c/\1<=aq.length/\cs.take (aq.length*2)=(jo aq).map I.p/\gu cs
theorem aiy(ap:cr)(r:Int×Int):qP (ap++[r])=qP ap++(if r.1%2=1 then[(xg r.1,r.2)] else[]):=by
 unfold qP;rw[List.filter_append,List.map_append]
 congr 1
 rw[List.filter_cons]
 by_cases h:r.1%2=1
 ·rw[if_pos (decide_eq_true h),if_pos h];rfl
 ·rw[if_neg (by simpa using h),if_neg h];rfl
abbrev xQ(l:aI)(m:List Int):cn:=[(3,[M 1,.p (.sl true 0 []),.p (.sl true 0 [])]),(2,[M 0,.p (.sl true 0 []),.p (.sl true 0 [])]),(1,[ci m]),(0,iK l)]
set_option maxHeartbeats 16000000 in
theorem abn(l:aI)(hL:eT l)(hM:lN l)(m:List Int)(bk K:Int)(ap:List (Int×Int))(hb:il l 0 0=bk)(jD:0<=bk)(oY:bk<m.length)(hh:bf l (av (db m bk)).idx 0=K)(hR:uE l m K=ap)(adx:ap.length<=2000)(adu:(qP ap).length<=19)(S:cr)(hS:uT S)(EZ:S.Perm (qP ap)):
 bH prog 16 [iZ l,mG m,M 0] (pF S):=by
 have ER:=HN l hL hM 0 0;rw[hb] at ER;have EW:=XX l hL m K;rw[hR] at EW;have hx:m[bk.toNat]?=some (db m bk):=by unfold db;rw[if_neg (by omega)];exact Es jD oY
 have EV:=rW l hL (av (db m bk)).idx 0 (by have:=jb (db m bk);omega) (by omega);rw[hh] at EV;refine sP func16 ntmps16 λ w cl=>?_
 refine gA ER ?_;rw[show decide (bk<0)=false by rw[decide_eq_false_iff_not];omega];refine go ?_;rw[show decide (bk>=m.length)=false by rw[decide_eq_false_iff_not];omega];refine go ?_;refine gD [] ?_;refine ri [pI (db m bk)] (jy hx) ?_;refine gQ (rY (db m bk)) ?_;refine cQ EV ?_;refine gQ EW ?_;refine go ?_;refine LF (fg:=I×cn) (.exit 0) (λ p=>⟨[(9,p.1),(7,.ptr 3 0),(6,.ptr 2 0)],p.2++xQ l m,[]⟩) (λ p=>Q5 (qP ap) p.1 p.2) ?_ ?_
 ·refine d7 (λ p:Nat×I×cn=>p.1<=ap.length/\Q5 (qP (ap.take p.1)) p.2.1 p.2.2) (λ p=>⟨[(41,M p.1),(40,M ap.length),(39,im ap),(9,p.2.1),(7,.ptr 3 0),(6,.ptr 2 0)],p.2.2++xQ l m,[]⟩) (λ p=>ap.length-p.1) (0,.p (.sl true 0 []),[]) ⟨Nat.zero_le _,.inl ⟨rfl,rfl,rfl⟩⟩ (zX) ?_;rintro⟨i,d,bx⟩ ⟨hi,ye⟩;simp only at hi ye;refine(show a8 _ _ _ _ ⟨[(41,M i),(40,M ap.length),(39,im ap),(9,d),(7,.ptr 3 0),(6,.ptr 2 0)],bx++xQ l m,[]⟩ from ?_);refine go ?_;refine gY (λ h1=>?_) (λ h1=>?_)<;>try rw[h1]
  ·have bB:=of_decide_eq_true h1;obtain⟨r,hr⟩:=sy (l:=ap) (i:=i) (by omega) bB;have vp:ap[i]?=some r:=by simpa using hr
   have jx:=aiy (ap.take i) r;rw[<-Hh vp] at jx;have fD:(qP (ap.take i)).length<=2000:=by unfold qP;rw[List.length_map];refine Nat.le_trans (List.length_filter_le _ _) ?_;rw[List.length_take];omega
   rcases ye with⟨hT,rfl,rfl⟩|⟨c,cs,rfl,rfl,k1,k2,k3,k0,k4,k5⟩
   ·rw[hT,List.nil_append] at jx;refine(show a8 _ _ _ _ ⟨_,xQ l m,[]⟩ from ?_);refine go ?_;refine ai [pI r.1,pI r.2] (Il hr) ?_;refine go ?_;refine cy (lD aX rfl rfl rfl rfl rfl (by omega) (by omega)) rfl rfl rfl ?_;refine go ?_;rw[Lu]
    by_cases u:r.1%2=1
    ·rw[show decide (r.1%2=1)=true from decide_eq_true u];rw[if_pos u] at jx;refine go ?_;refine gW 8 [] ?_;refine fL (lD aX rfl rfl rfl rfl rfl (by omega) (by omega)) rfl rfl ?_;refine gQ (Vs r.1) ?_;refine fL (lD aX rfl rfl rfl rfl rfl (by omega) (by omega)) rfl rfl ?_;refine bJ ?_;refine Lj (sz:=2) aX 20 rfl rfl rfl rfl rfl rfl rfl rfl rfl rfl rfl rfl rfl rfl (by omega) rfl (by unfold maxLen;omega) (by show 1*16<=_;omega) (λ aZ aT k1 k2 k3 k4 k5=>?_);refine go ?_;refine⟨(i+1,.arr 20 0 1 aT,[(20,aZ)]),⟨by simp only;omega,.inr ⟨aT,aZ,by rw[jx];rfl,rfl,k1,k2,by rw[jx];exact k3,by rw[jx];exact Nat.le_refl _,by rw[jx];exact k4,k5⟩⟩,by simp only;omega,?_⟩;exact kX (by(repeat(first|exact trivial|refine⟨⟨rfl,rfl⟩,?_⟩))) (by(repeat(first|exact trivial|refine⟨⟨rfl,rfl⟩,?_⟩|refine⟨⟨rfl,k5 _ _⟩,?_⟩))) (by(repeat(first|exact trivial|refine⟨rfl,?_⟩))) (by(repeat(first|exact trivial|refine⟨rfl,?_⟩)))
    ·rw[show decide (r.1%2=1)=false from decide_eq_false u];rw[if_neg u] at jx;refine go ?_;exact⟨(i+1,.p (.sl true 0 []),[]),⟨by simp only;omega,.inl ⟨jx,rfl,rfl⟩⟩,by simp only;omega,zX⟩
   ·generalize alH:qP (ap.take i)=aq at*;refine(show a8 _ _ _ _ ⟨_,(20,cs)::xQ l m,[]⟩ from ?_);refine go ?_;refine ai [pI r.1,pI r.2] (Il hr) ?_;refine go ?_;refine cy (lD aX rfl rfl rfl rfl rfl (by omega) (by omega)) rfl rfl rfl ?_;refine go ?_;rw[Lu]
    by_cases u:r.1%2=1
    ·rw[show decide (r.1%2=1)=true from decide_eq_true u];rw[if_pos u] at jx;refine go ?_;refine gW 8 [] ?_;refine fL (lD aX rfl rfl rfl rfl rfl (by omega) (by omega)) rfl rfl ?_;refine gQ (Vs r.1) ?_;refine fL (lD aX rfl rfl rfl rfl rfl (by omega) (by omega)) rfl rfl ?_;refine bJ ?_;refine Ll (sz:=2) aX (jo aq) rfl rfl rfl rfl rfl rfl rfl rfl rfl rfl rfl rfl rfl rfl (HY rfl (Aa rfl rfl (Aa rfl rfl (HW rfl rfl)))) k1 k3 (aiu aq) k4 k2 (by omega) rfl (by unfold maxLen;omega) (by show(_+1)*16<=_;omega) (λ aZ aT q1 q2 q3 q4 q5=>?_);refine go ?_;refine⟨(i+1,.arr 20 0 (aq.length+1) aT,[(20,aZ)]),⟨by simp only;omega,.inr ⟨aT,aZ,by rw[jx,List.length_append];rfl,rfl,q1,q2,by rw[jx,List.length_append];exact q3,by rw[jx,List.length_append];exact Nat.le_add_left _ _,by rw[jx,List.length_append,<-ait];exact q4,q5⟩⟩,by simp only;omega,?_⟩;exact kX (by(repeat(first|exact trivial|refine⟨⟨rfl,rfl⟩,?_⟩))) (by(repeat(first|exact trivial|refine⟨⟨rfl,rfl⟩,?_⟩|refine⟨⟨rfl,q5 _ _⟩,?_⟩))) (by(repeat(first|exact trivial|refine⟨rfl,?_⟩))) (by(repeat(first|exact trivial|refine⟨rfl,?_⟩)))
    ·rw[show decide (r.1%2=1)=false from decide_eq_false u];rw[if_neg u,List.append_nil] at jx;refine go ?_;exact⟨(i+1,.arr 20 0 aq.length c,[(20,cs)]),⟨by simp only;omega,.inr ⟨c,cs,by rw[jx],rfl,k1,k2,by rw[jx];exact k3,by rw[jx];exact k0,by rw[jx];exact k4,k5⟩⟩,by simp only;omega,kX (by(repeat(first|exact trivial|refine⟨⟨rfl,rfl⟩,?_⟩))) (by(repeat(first|exact trivial|refine⟨⟨rfl,rfl⟩,?_⟩|refine⟨⟨rfl,k5 _ _⟩,?_⟩))) (by(repeat(first|exact trivial|refine⟨rfl,?_⟩))) (by(repeat(first|exact trivial|refine⟨rfl,?_⟩)))⟩
  ·have bB:i=ap.length:=by have:=of_decide_eq_false h1;omega
   subst bB;rw[List.take_length] at ye;refine go ?_;refine⟨rfl,(d,bx),ye,?_⟩;rcases ye with⟨hT,rfl,rfl⟩|⟨c,cs,rfl,rfl,k1,k2,k3,k0,k4,k5⟩
   ·exact zX
   ·exact kX (by(repeat(first|exact trivial|refine⟨⟨rfl,rfl⟩,?_⟩))) (by(repeat(first|exact trivial|refine⟨⟨rfl,rfl⟩,?_⟩|refine⟨⟨rfl,k5 _ _⟩,?_⟩))) (by(repeat(first|exact trivial|refine⟨rfl,?_⟩))) (by(repeat(first|exact trivial|refine⟨rfl,?_⟩)))
 rintro bQ ⟨d,bx⟩ ye ip;refine zR (zM (iP ip ?_));clear ip;simp only at ye;generalize qP ap=aq at*;have adz:(dp S).length=S.length:=List.length_map _;have adB:(dv S).length=S.length:=List.length_map _;rcases ye with⟨rfl,rfl,rfl⟩|⟨c,cs,rfl,rfl,k1,k2,k3,k0,k4,k5⟩
 ·obtain rfl:S=[]:=List.perm_nil.1 EZ;refine(show a8 _ _ _ _ ⟨_,xQ l m,[]⟩ from ?_);refine go ?_;refine nf (Yn) rfl (λ a w=>call30 a w) rfl rfl (by(repeat(first|exact trivial|refine⟨⟨rfl,rfl⟩,?_⟩))) (by(repeat(first|exact trivial|refine⟨.inr rfl,?_⟩|refine⟨.inl rfl,?_⟩))) rfl rfl rfl rfl ?_ ?_
  ·rintro d bs ⟨rfl,rfl⟩;exact trivial
  rintro d bs ⟨rfl,rfl⟩;refine go ?_;refine d7 (λ _:Unit=>True) (λ _=>⟨[(63,M 0),(62,M 0),(61,.p (.sl true 0 [])),(7,.ptr 3 0),(6,.ptr 2 0)],xQ l m,[]⟩) (λ _=>0) () trivial (zX) ?_;intro _ _;refine go ?_;rw[show decide ((0:Int)<0)=false from rfl];refine gf ?_
  rfl
 ·have bV:cs=gT aq (cs.drop (aq.length*2)):=by
   rw[gT,<-aiv,<-k4,List.take_append_drop]
  have UW:gu (cs.drop (aq.length*2)):=k5.drop _;have yy:=aj1 aq (cs.drop (aq.length*2)) UW aq.length c rfl adu;rw[<-bV] at yy;generalize cs.drop (aq.length*2)=rest at*;refine(show a8 _ _ _ _ ⟨_,(20,cs)::xQ l m,[]⟩ from ?_);refine go ?_;refine nf yy rfl (λ a w=>call30 a w) rfl rfl ⟨⟨rfl,k5 _ _⟩,trivial⟩ (by(repeat(first|exact trivial|refine⟨.inr rfl,?_⟩|refine⟨.inl rfl,?_⟩))) rfl rfl rfl rfl ?_ ?_
  ·rintro d bs ⟨rfl,S,_,_,rfl⟩;exact⟨.inl rfl,trivial⟩
  rintro d bs ⟨rfl,oQ,EX,adC,rfl⟩;obtain rfl:oQ=S:=Y4 adC hS (EX.trans EZ.symm);have cV:∀{S:cr}(B aa:Nat->Bool),I.ok.fy B aa (gT S rest)=true:=λ B aa=>Km UW B aa
  have EY:=EZ.length_eq;refine qo (DY 3 1 0 3 1 rfl rfl rfl rfl rfl) ?_;refine qo (DY 3 2 1 3 1 rfl rfl rfl rfl rfl) ?_;refine go ?_;refine d7 (λ j:Nat=>j<=aq.length) (λ j=>⟨[(63,M j),(62,M aq.length),(61,.arr 20 0 aq.length c),(7,.ptr 3 0),(6,.ptr 2 0)],[(20,gT oQ rest),(3,[M 1,.bP 0 j (bW (dp (oQ.take j))),.bP 1 j (bW (dv (oQ.take j)))]),(2,[M 0,.p (.sl true 0 []),.p (.sl true 0 [])]),(1,[ci m]),(0,iK l)],[(0,⟨3,1,j⟩),(1,⟨3,1,j⟩)]⟩) (λ j=>aq.length-j) 0 (Nat.zero_le _) (kX (by(repeat(first|exact trivial|refine⟨⟨rfl,rfl⟩,?_⟩))) (by(repeat(first|exact trivial|refine⟨⟨rfl,rfl⟩,?_⟩|refine⟨⟨rfl,cV _ _⟩,?_⟩))) (by(repeat(first|exact trivial|refine⟨rfl,?_⟩))) (by(repeat(first|exact trivial|refine⟨rfl,?_⟩)))) ?_;intro j hj;refine(show a8 _ _ _ _ ⟨[(63,M j),(62,M aq.length),(61,.arr 20 0 aq.length c),(7,.ptr 3 0),(6,.ptr 2 0)],[(20,gT oQ rest),(3,[M 1,.bP 0 j (bW (dp (oQ.take j))),.bP 1 j (bW (dv (oQ.take j)))]),(2,[M 0,.p (.sl true 0 []),.p (.sl true 0 [])]),(1,[ci m]),(0,iK l)],[(0,⟨3,1,j⟩),(1,⟨3,1,j⟩)]⟩ from ?_);refine go ?_;refine gY (λ h1=>?_) (λ h1=>?_)<;>try rw[h1]
  ·have bB:=of_decide_eq_true h1;obtain⟨y,hy⟩:∃y,oQ[j]?=some y:=⟨oQ[j]'(by omega),List.getElem?_eq_getElem _⟩;obtain⟨r1,lZ⟩:=P4 hy rest;have rM:=P5 oQ rest;have iG:(oQ.take j).length=j:=by rw[List.length_take];omega
   have nE:bW (dp (oQ.take (j+1)))=bW (dp (oQ.take j))++[pI y.1]:=by rw[Hh hy];simp[dp,bW]
   have afE:bW (dv (oQ.take (j+1)))=bW (dv (oQ.take j))++[pI y.2]:=by rw[Hh hy];simp[dv,bW]
   refine go ?_;refine aj (j*2) 2 ?_;refine cy (BC aX [M y.1,M y.2] r1 rfl rfl rfl rfl rfl (by show j*2<=(gT oQ rest).length;omega) lZ rfl) rfl rfl rfl ?_;refine go ?_;refine cy (lD aX rfl rfl rfl rfl rfl (by omega) (by omega)) rfl rfl rfl ?_;refine go ?_;refine mg (n:=j) (m:=1) (qs:=[pI y.1]) aX rfl rfl rfl rfl rfl rfl rfl rfl rfl rfl rfl rfl rfl (by unfold maxLen;omega) (by show(_+_)*8<=_;omega) ?_;refine go ?_;refine cy (lD aX rfl rfl rfl rfl rfl (by omega) (by omega)) rfl rfl rfl ?_;refine go ?_;refine mg (n:=j) (m:=1) (qs:=[pI y.2]) aX rfl rfl rfl rfl rfl rfl rfl rfl rfl rfl rfl rfl rfl (by unfold maxLen;omega) (by show(_+_)*8<=_;omega) ?_;refine go ?_;refine⟨j+1,by omega,by omega,?_⟩;rw[nE,afE];exact kX (by(repeat(first|exact trivial|refine⟨⟨rfl,rfl⟩,?_⟩))) (by(repeat(first|exact trivial|refine⟨⟨rfl,rfl⟩,?_⟩|refine⟨⟨rfl,cV _ _⟩,?_⟩))) (by(repeat(first|exact trivial|refine⟨rfl,?_⟩))) (by(repeat(first|exact trivial|refine⟨rfl,?_⟩)))
  ·have bB:j=aq.length:=by have:=of_decide_eq_false h1;omega
   subst bB;rw[List.take_of_length_le (by omega)];refine go ?_;refine Av rfl ?_;show I.agg [_,.p (.sl _ aq.length _),.p (.sl _ aq.length _)]=I.agg [_,.p (.sl _ _ _),.p (.sl _ _ _)];rw[adz,adB,EY]
theorem ajM(S aq:cr)(T:S.length<=1000000):bH prog 15 [pF S,pF aq] (dB (decide (dp S=dp aq)&&decide (dv S=dv aq))):=by
 have h1:=Vp (dp S) (dp aq) (by rw[List.length_map];omega);have u:=Vp (dv S) (dv aq) (by rw[List.length_map];omega);generalize decide (dp S=dp aq)=p at*;generalize decide (dv S=dv aq)=q at*;refine sP func15 ntmps15 λ w cl=>?_
 refine gA h1 ?_;refine cA u ?_;refine go ?_;cases p<;>cases q
 ·refine gf ?_
  rfl
 ·refine gf ?_
  rfl
 ·refine gf ?_
  rfl
 ·refine gf ?_
  rfl
theorem wb{l:List cw}{i:Int}{x:cw}(h:l[i.toNat]?=some x):∀(m:Nat) q,[pI x.au,pI x.op.kind,pI x.op.obj,pI x.op.a,pI x.op.b,pI x.val,pB x.is,pI x.first,pI x.last,pI x.aD][m]?=some q->(iM l)[i.toNat*10+m]?=some q:=EM (f:=GR) (k:=10) (λ _=>rfl) h
abbrev ni(l:List Bool):List I:=l.map dB
theorem aaV(l:List Bool):gu (ni l):=by
 intro B aa;induction l with
 |nil=>rfl
 |cons x l ih=>exact ih
theorem aaX(n:Nat):List.replicate n (qr (.bool false))=ni (List.replicate n false):=by simp[ni];exact .inr rfl
theorem aaU{l:List Bool}{i:Nat}(h:i<l.length):(ni l)[i]?=some (dB (l.getD i true)):=by simp[ni,List.getD_eq_getElem?_getD,h]
theorem aaW(l:List Bool)(i:Nat)(v:Bool):(ni l).set i (dB v)=ni (l.set i v):=by simp[ni]
set_option maxHeartbeats 16000000 in
theorem aa0(l:List cw)(d5:Nat->Nat)(C:Nat->cr)(hB:KT l d5 C)(Z:l.length<=1000)(hC:∀n,n<=l.length->(C n).length<=100000):bH prog 14 [pF (C 0),rh l] (.ca [pF (C l.length),dB true]):=by
 have cV:∀{xs:List Bool}(B:Nat->Bool)(aa:Nat->Bool),I.ok.fy B aa (ni xs)=true:=λ B aa=>aaV _ B aa
 refine sP func14 ntmps14 λ w cl=>?_
 refine go ?_;refine Ce (V6 aX 40 (c:=l.length) rfl rfl rfl rfl rfl rfl rfl rfl rfl (by show _*1<=_;omega) (by unfold maxLen;omega)) rfl rfl rfl rfl ?_;rw[show List.replicate l.length (qr (Value.bool false))=ni (List.replicate l.length false) from aaX _];refine go ?_;refine d7 (λ n:Nat=>n<=l.length) (λ n=>⟨[(7,M n),(6,.arr 40 0 l.length l.length),(5,dB false),(4,.ptr 1 0),(2,.ptr 0 0),(1,rh l)],[(40,ni (qt l.length d5 n)),(1,[M 0,.p (.sl true 0 []),.p (.sl true 0 [])]),(0,[M 1,ci (dp (C n)),ci (dv (C n))])],[]⟩) (λ n=>l.length-n) 0 (Nat.zero_le _) (kX (by(repeat(first|exact trivial|refine⟨⟨rfl,rfl⟩,?_⟩))) (by(repeat(first|exact trivial|refine⟨⟨rfl,rfl⟩,?_⟩|refine⟨⟨rfl,cV _ _⟩,?_⟩))) (by(repeat(first|exact trivial|refine⟨rfl,?_⟩))) (by(repeat(first|exact trivial|refine⟨rfl,?_⟩)))) ?_;intro n hn;have tW:=Md l.length d5 n;have alE:=hC n hn;have Nu:=hB.aaR n;have aY:=hB.lt n;have iC:=hB.at_ n;have ND:qt l.length d5 (n+1)=(qt l.length d5 n).set (d5 n) true:=rfl;generalize qt l.length d5 n=dn at*;refine(show a8 _ _ _ _ ⟨[(7,M n),(6,.arr 40 0 l.length l.length),(5,dB false),(4,.ptr 1 0),(2,.ptr 0 0),(1,rh l)],[(40,ni dn),(1,[M 0,.p (.sl true 0 []),.p (.sl true 0 [])]),(0,[M 1,ci (dp (C n)),ci (dv (C n))])],[]⟩ from ?_);refine go ?_;refine gY (λ h1=>?_) (λ h1=>?_)<;>try rw[h1]
 ·have bB:=of_decide_eq_true h1;have sM:n<l.length:=by omega
  have Nu:=Nu sM;have aY:=aY sM;refine go ?_;refine LF (fg:=Unit) (.exit 2) (λ _=>⟨[(8,M (j8 l dn l.length)),(7,M n),(6,.arr 40 0 l.length l.length),(5,dB false),(4,.ptr 1 0),(2,.ptr 0 0),(1,rh l)],[(40,ni dn),(1,[M 0,.p (.sl true 0 []),.p (.sl true 0 [])]),(0,[M 1,ci (dp (C n)),ci (dv (C n))])],[]⟩) (λ _=>True) ?_ ?_
  ·refine d7 (λ i:Nat=>i<=l.length) (λ i=>⟨[(9,M i),(8,M (j8 l dn i)),(7,M n),(6,.arr 40 0 l.length l.length),(5,dB false),(4,.ptr 1 0),(2,.ptr 0 0),(1,rh l)],[(40,ni dn),(1,[M 0,.p (.sl true 0 []),.p (.sl true 0 [])]),(0,[M 1,ci (dp (C n)),ci (dv (C n))])],[]⟩) (λ i=>l.length-i) 0 (Nat.zero_le _) (kX (by(repeat(first|exact trivial|refine⟨⟨rfl,rfl⟩,?_⟩))) (by(repeat(first|exact trivial|refine⟨⟨rfl,rfl⟩,?_⟩|refine⟨⟨rfl,cV _ _⟩,?_⟩))) (by(repeat(first|exact trivial|refine⟨rfl,?_⟩))) (by(repeat(first|exact trivial|refine⟨rfl,?_⟩)))) ?_;intro i hi;have hr:=RF l dn i;have qy:j8 l dn (i+1)=if dn.getD i true=false/\(j8 l dn i<0\/(l.getD i uV).aD<(l.getD (j8 l dn i).toNat uV).aD) then(i:Int) else j8 l dn i:=rfl
   refine(show a8 _ _ _ _ ⟨[(9,M i),(8,M (j8 l dn i)),(7,M n),(6,.arr 40 0 l.length l.length),(5,dB false),(4,.ptr 1 0),(2,.ptr 0 0),(1,rh l)],[(40,ni dn),(1,[M 0,.p (.sl true 0 []),.p (.sl true 0 [])]),(0,[M 1,ci (dp (C n)),ci (dv (C n))])],[]⟩ from ?_);generalize Fg:j8 l dn i=b at*;refine go ?_;refine gY (λ u=>?_) (λ u=>?_)<;>try rw[u]
   ·have cj:=of_decide_eq_true u;have dY:i<l.length:=by omega
    have AM:(ni dn).length=l.length:=by rw[List.length_map];exact tW
    have hg:(ni dn)[i]?=some (dB (dn.getD i true)):=aaU (by omega);obtain⟨x,hx⟩:∃x,l[i]?=some x:=⟨l[i],List.getElem?_eq_getElem dY⟩;have pc:l[(i:Int).toNat]?=some x:=by simpa using hx
    have afJ:l.getD i uV=x:=by rw[List.getD_eq_getElem?_getD,hx];rfl
    rw[afJ] at qy;generalize dn.getD i true=abQ at hg qy;refine go ?_;cases abQ
    ·by_cases hb:b<0
     ·rw[if_pos ⟨rfl,.inl hb⟩] at qy;refine gD [] ?_;refine rj i 1 ?_;refine fL (lG aX rfl rfl rfl rfl rfl hg) rfl rfl ?_;refine bJ ?_;rw[show decide (b<0)=true from decide_eq_true hb];refine qg ?_;refine⟨i+1,by omega,by omega,?_⟩;rw[qy];exact kX (by(repeat(first|exact trivial|refine⟨⟨rfl,rfl⟩,?_⟩))) (by(repeat(first|exact trivial|refine⟨⟨rfl,rfl⟩,?_⟩|refine⟨⟨rfl,cV _ _⟩,?_⟩))) (by(repeat(first|exact trivial|refine⟨rfl,?_⟩))) (by(repeat(first|exact trivial|refine⟨rfl,?_⟩)))
     ·obtain⟨y,hy⟩:∃y,l[b.toNat]?=some y:=⟨l[b.toNat]'(by omega),List.getElem?_eq_getElem _⟩;have afM:l.getD b.toNat uV=y:=by rw[List.getD_eq_getElem?_getD,hy];rfl
      rw[afM] at qy;refine gD [] ?_;refine rj i 1 ?_;refine fL (lG aX rfl rfl rfl rfl rfl hg) rfl rfl ?_;refine bJ ?_;rw[show decide (b<0)=false from decide_eq_false hb];refine bJ ?_;refine ri [pI x.au,pI x.op.kind,pI x.op.obj,pI x.op.a,pI x.op.b,pI x.val,pB x.is,pI x.first,pI x.last,pI x.aD] (wb pc) ?_;refine bJ ?_;refine ri [pI y.au,pI y.op.kind,pI y.op.obj,pI y.op.a,pI y.op.b,pI y.val,pB y.is,pI y.first,pI y.last,pI y.aD] (wb hy) ?_;refine qg ?_
      by_cases F:x.aD<y.aD
      ·rw[show decide (x.aD<y.aD)=true from decide_eq_true F];rw[if_pos ⟨rfl,.inr F⟩] at qy;refine go ?_;refine⟨i+1,by omega,by omega,?_⟩;rw[qy];exact kX (by(repeat(first|exact trivial|refine⟨⟨rfl,rfl⟩,?_⟩))) (by(repeat(first|exact trivial|refine⟨⟨rfl,rfl⟩,?_⟩|refine⟨⟨rfl,cV _ _⟩,?_⟩))) (by(repeat(first|exact trivial|refine⟨rfl,?_⟩))) (by(repeat(first|exact trivial|refine⟨rfl,?_⟩)))
      ·rw[show decide (x.aD<y.aD)=false from decide_eq_false F];rw[if_neg (λ h=>h.2.elim hb F)] at qy;refine go ?_;refine⟨i+1,by omega,by omega,?_⟩;rw[qy];exact kX (by(repeat(first|exact trivial|refine⟨⟨rfl,rfl⟩,?_⟩))) (by(repeat(first|exact trivial|refine⟨⟨rfl,rfl⟩,?_⟩|refine⟨⟨rfl,cV _ _⟩,?_⟩))) (by(repeat(first|exact trivial|refine⟨rfl,?_⟩))) (by(repeat(first|exact trivial|refine⟨rfl,?_⟩)))
    ·rw[if_neg (λ h=>by cases h.1)] at qy;refine gD [] ?_;refine rj i 1 ?_;refine fL (lG aX rfl rfl rfl rfl rfl hg) rfl rfl ?_;refine qg ?_;refine⟨i+1,by omega,by omega,?_⟩;rw[qy];exact kX (by(repeat(first|exact trivial|refine⟨⟨rfl,rfl⟩,?_⟩))) (by(repeat(first|exact trivial|refine⟨⟨rfl,rfl⟩,?_⟩|refine⟨⟨rfl,cV _ _⟩,?_⟩))) (by(repeat(first|exact trivial|refine⟨rfl,?_⟩))) (by(repeat(first|exact trivial|refine⟨rfl,?_⟩)))
   ·have cj:i=l.length:=by have:=of_decide_eq_false u;omega
    subst cj;rw[<-Fg];refine go ?_;exact⟨rfl,(),trivial,kX (by(repeat(first|exact trivial|refine⟨⟨rfl,rfl⟩,?_⟩))) (by(repeat(first|exact trivial|refine⟨⟨rfl,rfl⟩,?_⟩|refine⟨⟨rfl,cV _ _⟩,?_⟩))) (by(repeat(first|exact trivial|refine⟨rfl,?_⟩))) (by(repeat(first|exact trivial|refine⟨rfl,?_⟩)))⟩
  rintro bQ _ _ ip;refine zR (zM (iP ip ?_));clear ip;rw[Nu];obtain⟨x,hx⟩:∃x,l[d5 n]?=some x:=⟨l[d5 n],List.getElem?_eq_getElem aY⟩;have pc:l[((d5 n:Nat):Int).toNat]?=some x:=by simpa using hx
  obtain⟨a1,a2,a3,a4⟩:=iC x sM hx;have ny:=Sk (C n) x.op (by omega) a1;rw[a4] at ny;refine go ?_;refine aj (d5 n) 1 ?_;refine sq aX rfl rfl rfl rfl rfl rfl rfl rfl rfl (by show d5 n<(ni dn).length;rw[List.length_map];omega) ?_;rw[aaW,<-ND];refine go ?_;refine gD [] ?_;refine ri [pI x.au,pI x.op.kind,pI x.op.obj,pI x.op.a,pI x.op.b,pI x.val,pB x.is,pI x.first,pI x.last,pI x.aD] (wb pc) ?_;refine gQ ny ?_;refine go ?_;refine gD [] ?_;refine ri [pI x.au,pI x.op.kind,pI x.op.obj,pI x.op.a,pI x.op.b,pI x.val,pB x.is,pI x.first,pI x.last,pI x.aD] (wb pc) ?_;refine bJ ?_;refine ri [pI x.au,pI x.op.kind,pI x.op.obj,pI x.op.a,pI x.op.b,pI x.val,pB x.is,pI x.first,pI x.last,pI x.aD] (wb pc) ?_;refine bJ ?_;rw[show decide (x.aD<x.first)=false by rw[decide_eq_false_iff_not];omega];refine bJ ?_;refine ri [pI x.au,pI x.op.kind,pI x.op.obj,pI x.op.a,pI x.op.b,pI x.val,pB x.is,pI x.first,pI x.last,pI x.aD] (wb pc) ?_;refine bJ ?_;refine ri [pI x.au,pI x.op.kind,pI x.op.obj,pI x.op.a,pI x.op.b,pI x.val,pB x.is,pI x.first,pI x.last,pI x.aD] (wb pc) ?_;refine bJ ?_;rw[show decide (x.aD>x.last)=false by rw[decide_eq_false_iff_not];omega];refine bJ ?_;refine ri [pI x.au,pI x.op.kind,pI x.op.obj,pI x.op.a,pI x.op.b,pI x.val,pB x.is,pI x.first,pI x.last,pI x.aD] (wb pc) ?_;refine bJ ?_;rw[show decide (x.val=x.val)=true from decide_eq_true rfl];refine bJ ?_;refine ri [pI x.au,pI x.op.kind,pI x.op.obj,pI x.op.a,pI x.op.b,pI x.val,pB x.is,pI x.first,pI x.last,pI x.aD] (wb pc) ?_;refine qg ?_
  refine(show CK (!(x.is==x.is)) _ _ from ?_);rw[show(x.is==x.is)=true from beq_self_eq_true _];refine go ?_;exact⟨n+1,by omega,by omega,kX (by(repeat(first|exact trivial|refine⟨⟨rfl,rfl⟩,?_⟩))) (by(repeat(first|exact trivial|refine⟨⟨rfl,rfl⟩,?_⟩|refine⟨⟨rfl,cV _ _⟩,?_⟩))) (by(repeat(first|exact trivial|refine⟨rfl,?_⟩))) (by(repeat(first|exact trivial|refine⟨rfl,?_⟩)))⟩
 ·have bB:n=l.length:=by have:=of_decide_eq_false h1;omega
  subst bB;refine gf ?_
  rfl
set_option maxHeartbeats 16000000 in
theorem points_w(want:List (List a9))(turns:List Int)(k:Int)(hk:0<=k/\k<=255)(F3:∀x∈turns,0<=x/\x<256)(F0:want.length<=3->(want.map List.length).sum<=9223372036854775807)(t7:∀w∈want,∀o∈w,o.b<9223372036854775808):bH prog 5 [wj want turns,dK .u8 k] (dB true):=by
 have hF:=SU want turns 12 300 F0 (by omega) (by omega);refine sP func5 ntmps5 λ w cl=>?_
 refine gA Yj ?_;refine cA hF ?_;refine go ?_;cases NM:Aq want turns 12 300
 ·refine gf ?_
  rfl
 ·obtain⟨G,ht,Ol⟩:=SV NM (Nat.le_refl 12) (RI k) t7;have h1:=G.w1;have J:=G.w3;have nt:=Tq.iX G;simp only at h1 J nt;have Om:=QQ want.length k (by omega) hk;have hL:eT (bR want.length (16+gx k) (gx k)):=Jp (by omega) (by omega) (by omega);have hM:lN (bR want.length (16+gx k) (gx k)):=Jo (by omega);have hP:=PC (nn:=16+gx k) (sl:=gx k) (by omega) (by omega) want turns h1 J ht F3 (λ w hw=>by have:=Ol w hw;omega);obtain⟨e1,e2,e3,e4,e5,_,_,d5,C,fQ,c0,cl,c2,c3,c4⟩:=Tq.Xd G ht;have o0:=Tq.Dn G (Int.le_refl 0) (by show(0:Int)<gx k;omega);have TT:0<=Tq.aQ ⟨want,gx k⟩ 0/\Tq.aQ ⟨want,gx k⟩ 0<(Tq.aO ⟨want,gx k⟩).size.toNat:=by
   have dk:=Ad.zx (Tq.Gm G) (a:=.ob (Tq.aQ ⟨want,gx k⟩ 0)) (Ad.sf (Tq.HK G (Int.le_refl 0) (by show(0:Int)<gx k;omega)));have dk:0<=Tq.aQ ⟨want,gx k⟩ 0/\Tq.aQ ⟨want,gx k⟩ 0<(Tq.aO ⟨want,gx k⟩).size:=dk;omega
  rw[o0] at e5;generalize Tq.aQ ⟨want,gx k⟩ 0=aaG at o0 e5 TT;rw[show Tq.aO ⟨want,gx k⟩=bR want.length (16+gx k) (gx k) from rfl] at*;generalize bR want.length (16+gx k) (gx k)=l at*;generalize vo l want turns=t at*;obtain⟨m,step,ar,calls,full,cD,bad⟩:=t;simp only at e1 e2 e3 e4 e5 fQ cl c2 c3 c4;subst e2;subst e3;have TF:=aa0 calls d5 C fQ (by omega) (λ n hn=>by have:=cl n hn;omega);rw[c0] at TF;have aeu:(av 1).idx=1:=by decide
  have alK:=cl calls.length (Nat.le_refl _);have M4:=abn l hL hM m aaG (bf l 1 0) _ o0 TT.1 (by omega) (by rw[e5,aeu]) rfl (by omega) (by rw[<-c3.length_eq];omega) (C calls.length) c2 c3;have ady:=ajM (C calls.length) (C calls.length) (by omega);generalize C calls.length=af at*;have fZ:(dp af).length=af.length:=List.length_map _;refine gA Om ?_;refine cI hP ?_;rintro d bs ⟨rfl,rfl⟩;refine go ?_;cases cD
  all_goals
   refine dQ [] ?_;refine gQ Wh ?_;refine cQ TF ?_;refine qg ?_;refine dQ [] ?_;refine gQ M4 ?_;refine cQ ady ?_;rw[show decide (dp af=dp af)=true from decide_eq_true rfl,show decide (dv af=dv af)=true from decide_eq_true rfl];refine bJ ?_;refine gf ?_
   rfl
end Go.Proofs.YtkkldicehapklaaGreat
