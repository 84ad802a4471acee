/- What a map has: its walk, where it has nothing. -/
import Derived.Test.YtcnefjfboagbmaaGreatWE
import Derived.Test.YtcnefjfboagbmaaGreatWB
import Derived.Test.YtcnefjfboagbmaaGreatPA
import Derived.Test.YtcnefjfboagbmaaGreatWA
namespace Go.Proofs.YtcnefjfboagbmaaGreat
open Go.Proofs.Tryz
open Go.RowKit
set_option maxRecDepth 100000
theorem M7(a:Int):IntKind.i64.wrap (((BitVec.ofInt 64 a&&&BitVec.ofInt 64 1).toNat:Nat):Int)=a%2:=M8 a 1 (by omega)
abbrev Fp:G:=.fn (.func 85) [] []
theorem ZN:eo prog 137 [] [.p (.sl true 0 []),u 0,u 0,Fp] [] (λ d U=>d=.bg []/\U=[]):=by
 refine sI func137 ntmps137 λ w cl own kf=>?_
 refine go ?_;refine bW (λ _:Unit=>True) (λ _=>⟨[(8,u 1),(2,u 0)],[],[]⟩) (λ _=>0) () trivial (zX) ?_;intro _ _;refine go ?_;rw[show decide ((1:Int)<0)=false from rfl];refine go ?_;refine jR (d:=.bg []) [] ?_ rfl trivial trivial ⟨rfl,rfl⟩
 rfl
theorem adE:eo prog 110 [] [.p (.sl true 0 []),u 0,Fp] [] (λ d U=>d=.bg []/\U=[]):=by
 refine sI func110 ntmps110 λ w cl own kf=>?_
 refine go ?_;refine bW (λ _:Unit=>True) (λ _=>⟨[(8,u 20),(7,u 0),(6,u 20),(0,.p (.sl true 0 [])),(1,u 0),(2,Fp)],[],[]⟩) (λ _=>0) () trivial (zX) ?_;intro _ _;refine go ?_;rw[show decide ((20:Int)<=0)=false from rfl];refine go ?_;refine hJ (ZN) rfl (λ a w=>call137 a w) rfl rfl (by(repeat(first|exact trivial|refine⟨⟨rfl,rfl⟩,?_⟩))) (by(repeat(first|exact trivial|refine⟨.inr rfl,?_⟩|refine⟨.inl rfl,?_⟩))) rfl rfl rfl rfl ?_ ?_
 ·rintro d U ⟨rfl,rfl⟩;exact trivial
 rintro d U ⟨rfl,rfl⟩;refine go ?_;refine bW (λ _:Unit=>True) (λ _=>⟨[(6,u 20),(1,u 0)],[],[]⟩) (λ _=>0) () trivial (zX) ?_;intro _ _;refine go ?_;rw[show decide ((20:Int)<0)=false from rfl];refine go ?_;refine jR (d:=.bg []) [] ?_ rfl trivial trivial ⟨rfl,rfl⟩
 rfl
theorem adt:eo prog 84 [] [.p (.sl true 0 []),Fp] [] (λ d U=>d=.bg []/\U=[]):=by
 refine sI func84 ntmps84 λ w cl own kf=>?_
 refine go ?_;refine hJ (adE) rfl (λ a w=>call110 a w) rfl rfl (by(repeat(first|exact trivial|refine⟨⟨rfl,rfl⟩,?_⟩))) (by(repeat(first|exact trivial|refine⟨.inr rfl,?_⟩|refine⟨.inl rfl,?_⟩))) rfl rfl rfl rfl ?_ ?_
 ·rintro d U ⟨rfl,rfl⟩;exact trivial
 rintro d U ⟨rfl,rfl⟩;refine go ?_;refine jR (d:=.bg []) [] ?_ rfl trivial trivial ⟨rfl,rfl⟩
 rfl
theorem UV{dM:Type}{P:Program}{Γ:bI}{Q:Exit->St->Prop}{c:Code}{J:St}(x:Exit)(bc:dM->St)(ok:dM->Prop)(h:aK P Γ c (λ ex bU=>ex=x/\∃i,ok i/\bN Γ bU (bc i)) J)(k:∀bU i,ok i->bN Γ bU (bc i)->Q x bU):aK P Γ c Q J:=
 vK h λ ex bU hh=>by
  obtain⟨rfl,i,X,hg⟩:=hh;exact k bU i X hg
section
variable{P:Program}{ae:Nat->Option TI}{n:Nat}{B B0:List (Nat×List G)}{aL:St->Prop}{aH:List Nat}{aC:List (Nat×Nat)}{ix:Nat}{o:Oper}{l0 l:List Oper}{s:List (Nat×G)}{b:List (Nat×List G)}{g:List (Nat×Gr)}{t nm:Nat}{d:G}
theorem wW(hq:dH P o (kv s) (kv B0) d none)(hg:gd l0 o (kv s)=some true)(F:o.dst=some t)(he:zy l0 o=true)(h:cq P n l0 B B0 aL (ix+1) aH aC l ⟨(t,d)::s,b,g⟩):cq P n l0 B B0 aL ix aH aC (o::l) ⟨s,b,g⟩:=
 .inl ⟨d,none,hg,.inr ⟨he,hq⟩,λ p hp=>(by cases hp),by rw[F];exact h⟩
theorem xf{cs aO ds:List G}{of:Nat}(h:of+ds.length<=cs.length)(cH:stored cs of ds=aO):sM cs of (.agg ds) some=some aO:=by
 subst cH;have h1:∀(k:List G->Option (List G)),l5 of cs k=k (cs.take of):=λ k=>by
  have:=Mr (cs.take of) (cs.drop of) k;rw[List.take_append_drop,List.length_take,Nat.min_eq_left (by omega)] at this;exact this
 unfold sM;rw[vQ,h1,Cu of cs _ (by omega),Cu _ _ _ (by rw[List.length_drop];show ds.length<=_;omega),qO,qO,List.drop_drop];unfold stored;rw[List.append_assoc]
 rfl
end
abbrev bH(S:aZ)(rest:List G):List G:=S.flatMap (λ x=>[u x.1,u x.2])++rest
theorem rC(S:aZ)(rest:List G):(bH S rest).length=S.length*2+rest.length:=by
 induction S with
 |nil=>simp[bH]
 |cons y S ih=>show(bH S rest).length+2=_;rw[ih,List.length_cons];omega
theorem pf{S:aZ}{i:Nat}{x:Int×Int}(h:S[i]?=some x)(rest:List G):∃r,(bH S rest).drop (i*2)=[u x.1,u x.2]++r:=by
 induction S generalizing i with
 |nil=>simp at h
 |cons y S ih=>
  cases i with
  |zero=>simp at h;subst h;exact⟨_,rfl⟩
  |succ i=>
   obtain⟨r,hr⟩:=ih (i:=i) (by simpa using h);refine⟨r,?_⟩;rw[<-hr,show(i+1)*2=i*2+2 by omega]
   rfl
theorem w4{S:aZ}{i:Nat}(x:Int×Int)(h:i<S.length)(rest:List G):stored (bH S rest) (i*2) [u x.1,u x.2]=bH (S.set i x) rest:=by
 induction S generalizing i with
 |nil=>simp at h
 |cons y S ih=>
  cases i with
  |zero=>rfl
  |succ i=>
   have:=ih (i:=i) (by simpa using h);rw[List.set_cons_succ];show _=u y.1::u y.2::bH (S.set i x) rest;rw[<-this,show(i+1)*2=i*2+2 by omega]
   rfl
theorem vm{S:aZ}{rest:List G}(h:fu rest):fu (bH S rest):=by
 intro B au;induction S with
 |nil=>exact h B au
 |cons y S ih=>exact ih
theorem QK(x:Int):aX prog 111 [u x] (dB false):=by
 refine sP func111 ntmps111 λ w cl=>?_
 refine gf ?_;simp
abbrev eJ:G:=.fn (.func 85) [] []
abbrev sY(x y:Int):Int:=if x<y then-1 else if y<x then 1 else 0
theorem Vo(x y:Int):aX prog 86 [u x,u y] (u (sY x y)):=by
 unfold sY;refine sP func86 ntmps86 λ w cl=>?_
 refine gA (QK x) ?_;refine cA (QK y) ?_;refine go ?_
 by_cases h1:x<y
 ·rw[show decide (x<y)=true from decide_eq_true h1,if_pos h1];refine gf ?_
  rfl
 ·rw[show decide (x<y)=false from decide_eq_false h1,if_neg h1];refine go ?_
  by_cases A:y<x
  ·rw[show decide (x>y)=true from decide_eq_true A,if_pos A];refine gf ?_
   rfl
  ·rw[show decide (x>y)=false from decide_eq_false A,if_neg A];refine gf ?_
   rfl
theorem E2(x y:Int×Int):aX prog 85 [.agg [u x.1,u x.2],.agg [u y.1,u y.2]] (u (sY x.1 y.1)):=by
 refine sP func85 ntmps85 λ w cl=>?_
 refine go ?_;refine bn (gK aB rfl rfl rfl rfl rfl (by omega) (by omega)) rfl rfl rfl ?_;refine go ?_;refine bn (gK aB rfl rfl rfl rfl rfl (by omega) (by omega)) rfl rfl rfl ?_;refine gA (Vo x.1 y.1) ?_;refine d8 ?_
 rfl
theorem ND(x y:Int):decide (sY x y<0)=decide (x<y):=by
 unfold sY;split
 ·rename_i h;rw[show decide (x<y)=true from decide_eq_true h];rfl
 ·rename_i h;rw[show decide (x<y)=false from decide_eq_false h];split<;>rfl
abbrev dL(n c:Nat):G:=.arr 20 0 n c
theorem w7{ar:Type}(P Q:List ar)(x y:ar){n:Nat}(h:n=P.length):(P++x::Q).set n y=P++y::Q:=by subst h;rw[List.set_append_right _ _ (Nat.le_refl _),Nat.sub_self];rfl
theorem tn{ar:Type}(P Q:List ar)(x:ar){n:Nat}(h:n=P.length):(P++x::Q)[n]?=some x:=by subst h;simp
set_option maxHeartbeats 8000000 in
theorem Mm(aa ab ap B fj:aZ)(rest:List G)(hp:fu rest)(n c:Nat)(a b k:Int)(hn:(aa++ab++ap++B++fj).length=n)(ib:n<=100000)(r8:ab.length=B.length)(ha:a=aa.length)(T:b=(aa++ab++ap).length)(I:k=ab.length):eo prog 200 [20] [dL n c,u a,u b,u k,eJ] [(20,bH (aa++ab++ap++B++fj) rest)] (λ d U=>d=.bg []/\U=[(20,bH (aa++B++ap++ab++fj) rest)]):=by
 have bF:∀{S:aZ}(B au:Nat->Bool),G.ok.eA B au (bH S rest)=true:=λ B au=>vm hp B au
 refine sI func200 ntmps200 λ w cl own kf=>?_
 refine go ?_;refine bW (λ p:aZ×aZ×aZ×aZ=>ab=p.1++p.2.1/\B=p.2.2.1++p.2.2.2/\p.1.length=p.2.2.1.length) (λ p=>⟨[(10,u p.1.length),(3,u k),(2,u b),(1,u a),(0,dL n c)],[(20,bH (aa++(p.2.2.1++p.2.1)++ap++(p.1++p.2.2.2)++fj) rest)],[]⟩) (λ p=>p.2.1.length) ([],ab,[],B) ⟨rfl,rfl,rfl⟩ (eO (by(repeat(first|exact trivial|refine⟨⟨rfl,rfl⟩,?_⟩))) (by(repeat(first|exact trivial|refine⟨⟨rfl,rfl⟩,?_⟩|refine⟨⟨rfl,bF _ _⟩,?_⟩))) (by(repeat(first|exact trivial|refine⟨rfl,?_⟩))) (by(repeat(first|exact trivial|refine⟨rfl,?_⟩)))) ?_;rintro⟨A1,A2,B1,B2⟩ ⟨hA,hB,R⟩;simp only at hA hB R;have J0:ab.length=A1.length+A2.length:=by rw[hA];simp
 have J1:B.length=B1.length+B2.length:=by rw[hB];simp
 simp only[List.length_append] at hn T;refine(show aK _ _ _ _ ⟨[(10,u A1.length),(3,u k),(2,u b),(1,u a),(0,dL n c)],[(20,bH (aa++(B1++A2)++ap++(A1++B2)++fj) rest)],[]⟩ from ?_);rcases A2 with _|⟨x,A2⟩
 ·have Jg:B2=[]:=List.length_eq_zero_iff.1 (by simp at J0;omega);subst Jg;simp only[List.append_nil,List.length_nil] at hA hB J0 J1;rw[show aa++(B1++[])++ap++(A1++[])++fj=aa++B++ap++ab++fj by rw[hA,hB];simp];refine go ?_;rw[show decide ((A1.length:Int)<k)=false by rw[decide_eq_false_iff_not];omega];refine go ?_;refine jR (d:=.bg []) [(20,bH (aa++B++ap++ab++fj) rest)] ?_ rfl ⟨⟨rfl,bF _ _⟩,trivial⟩ ⟨rfl,trivial⟩ ⟨rfl,rfl⟩
  rfl
 ·simp only[List.length_cons] at J0;rcases B2 with _|⟨y,B2⟩
  ·simp only[List.length_nil] at J1;omega
  simp only[List.length_cons] at J1;refine go ?_;rw[show decide ((A1.length:Int)<k)=true by rw[decide_eq_true_eq];omega];have e1:aa++(B1++x::A2)++ap++(A1++y::B2)++fj=(aa++B1)++x::(A2++ap++(A1++y::B2)++fj):=by simp
  have e2:(aa++B1)++x::(A2++ap++(A1++y::B2)++fj)=(aa++B1++x::(A2++ap++A1))++y::(B2++fj):=by simp
  have e3:(aa++B1)++y::(A2++ap++(A1++y::B2)++fj)=(aa++B1++y::(A2++ap++A1))++y::(B2++fj):=by simp
  have e4:(aa++B1++y::(A2++ap++A1))++x::(B2++fj)=aa++((B1++[y])++A2)++ap++((A1++[x])++B2)++fj:=by simp
  have bO:(aa++(B1++x::A2)++ap++(A1++y::B2)++fj)[aa.length+A1.length]?=some x:=by rw[e1];exact tn _ _ _ (by simp;omega)
  have dj:(aa++(B1++x::A2)++ap++(A1++y::B2)++fj)[aa.length+ab.length+ap.length+A1.length]?=some y:=by rw[e1,e2];exact tn _ _ _ (by simp;omega)
  have yr:((aa++(B1++x::A2)++ap++(A1++y::B2)++fj).set (aa.length+A1.length) y).set (aa.length+ab.length+ap.length+A1.length) x=aa++((B1++[y])++A2)++ap++((A1++[x])++B2)++fj:=by rw[e1,w7 _ _ _ _ (by simp;omega),e3,w7 _ _ _ _ (by simp;omega),e4]
  have nF:(aa++(B1++x::A2)++ap++(A1++y::B2)++fj).length=n:=by simp;omega
  clear e1 e2 e3 e4;obtain⟨r1,jc⟩:=pf bO rest;obtain⟨r2,mY⟩:=pf dj rest;have sr:=rC (aa++(B1++x::A2)++ap++(A1++y::B2)++fj) rest;have tE:=(List.getElem?_eq_some_iff.1 bO).1;have tF:=(List.getElem?_eq_some_iff.1 dj).1;have ys:=w4 (S:=aa++(B1++x::A2)++ap++(A1++y::B2)++fj) (i:=aa.length+A1.length) y tE rest;have sx:=w4 (S:=(aa++(B1++x::A2)++ap++(A1++y::B2)++fj).set (aa.length+A1.length) y) (i:=aa.length+ab.length+ap.length+A1.length) x (by rw[List.length_set];exact tF) rest;rw[yr] at sx;have yn:=rC ((aa++(B1++x::A2)++ap++(A1++y::B2)++fj).set (aa.length+A1.length) y) rest;rw[List.length_set] at yn;generalize qn:aa++(B1++x::A2)++ap++(A1++y::B2)++fj=S1 at*;generalize ts:bH S1 rest=R1 at*;generalize Jr:bH (S1.set (aa.length+A1.length) y) rest=R2 at*;refine go ?_;refine gD [20] ?_;refine cV (jy (p:=(aa.length+ab.length+ap.length+A1.length)*2) aB rfl rfl rfl rfl rfl (by omega) (by omega) (by show(aa.length+ab.length+ap.length+A1.length)*2=(b+A1.length).toNat*2;omega)) rfl rfl ?_;refine wW (mq aB [u y.1,u y.2] r2 rfl rfl rfl rfl rfl (by show(aa.length+ab.length+ap.length+A1.length)*2<=R1.length;omega) mY rfl) rfl rfl (by kernel_rfl) ?_;refine bh ?_;refine cV (jy (p:=(aa.length+A1.length)*2) aB rfl rfl rfl rfl rfl (by omega) (by omega) (by show(aa.length+A1.length)*2=(a+A1.length).toNat*2;omega)) rfl rfl ?_;refine wW (mq aB [u x.1,u x.2] r1 rfl rfl rfl rfl rfl (by show(aa.length+A1.length)*2<=R1.length;omega) jc rfl) rfl rfl (by kernel_rfl) ?_
  refine cV (jy (p:=(aa.length+A1.length)*2) aB rfl rfl rfl rfl rfl (by omega) (by omega) (by show(aa.length+A1.length)*2=(a+A1.length).toNat*2;omega)) rfl rfl ?_;refine tW (aO:=R2) aB rfl rfl rfl rfl rfl rfl rfl rfl (xf (by show(aa.length+A1.length)*2+2<=R1.length;omega) ys) rfl rfl (.inl rfl) ?_;refine cV (jy (p:=(aa.length+ab.length+ap.length+A1.length)*2) aB rfl rfl rfl rfl rfl (by omega) (by omega) (by show(aa.length+ab.length+ap.length+A1.length)*2=(b+A1.length).toNat*2;omega)) rfl rfl ?_;refine tW (aO:=bH (aa++((B1++[y])++A2)++ap++((A1++[x])++B2)++fj) rest) aB rfl rfl rfl rfl rfl rfl rfl rfl (xf (by show(aa.length+ab.length+ap.length+A1.length)*2+2<=R2.length;omega) sx) rfl rfl (.inr (by kernel_rfl)) ?_;refine qg ?_;refine⟨(A1++[x],A2,B1++[y],B2),⟨by simp only;rw[hA];simp,by simp only;rw[hB];simp,by simp only[List.length_append,R];rfl⟩,by simp only[List.length_cons];omega,?_⟩;show bN _ _ ⟨[(10,u (A1++[x]).length),(3,u k),(2,u b),(1,u a),(0,dL n c)],[(20,bH (aa++((B1++[y])++A2)++ap++((A1++[x])++B2)++fj) rest)],[]⟩;rw[show((A1++[x]).length:Int)=(A1.length:Int)+1 by simp];exact eO (by(repeat(first|exact trivial|refine⟨⟨rfl,rfl⟩,?_⟩))) (by(repeat(first|exact trivial|refine⟨⟨rfl,rfl⟩,?_⟩|refine⟨⟨rfl,bF _ _⟩,?_⟩))) (by(repeat(first|exact trivial|refine⟨rfl,?_⟩))) (by(repeat(first|exact trivial|refine⟨rfl,?_⟩)))
set_option maxHeartbeats 8000000 in
theorem ac0(aa ab B fj:aZ)(rest:List G)(hp:fu rest)(n c:Nat)(a m b:Int)(hn:(aa++ab++B++fj).length=n)(ib:n<=100000)(hA0:0<ab.length)(WY:0<B.length)(ha:a=aa.length)(hm:m=a+ab.length)(T:b=m+B.length):eo prog 183 [20] [dL n c,u a,u m,u b,eJ] [(20,bH (aa++ab++B++fj) rest)] (λ d U=>d=.bg []/\U=[(20,bH (aa++B++ab++fj) rest)]):=by
 have bF:∀{S:aZ}(B au:Nat->Bool),G.ok.eA B au (bH S rest)=true:=λ B au=>vm hp B au
 generalize hF:aa++B++ab++fj=am;simp only[List.length_append] at hn;refine sI func183 ntmps183 λ w cl own kf=>?_
 refine go ?_;refine bW (λ p:aZ×aZ×aZ×aZ=>p.1++p.2.2.1++p.2.1++p.2.2.2=am/\0<p.2.1.length/\0<p.2.2.1.length/\m=p.1.length+p.2.1.length/\p.1.length+p.2.1.length+p.2.2.1.length+p.2.2.2.length=n) (λ p=>⟨[(10,u p.2.1.length),(11,u p.2.2.1.length),(4,eJ),(2,u m),(0,dL n c)],[(20,bH (p.1++p.2.1++p.2.2.1++p.2.2.2) rest)],[]⟩) (λ p=>p.2.1.length+p.2.2.1.length) (aa,ab,B,fj) ⟨hF,hA0,WY,by simp only;omega,by simp only;omega⟩ (by rw[show m-a=(ab.length:Int) by omega,show b-m=(B.length:Int) by omega];exact eO (by(repeat(first|exact trivial|refine⟨⟨rfl,rfl⟩,?_⟩))) (by(repeat(first|exact trivial|refine⟨⟨rfl,rfl⟩,?_⟩|refine⟨⟨rfl,bF _ _⟩,?_⟩))) (by(repeat(first|exact trivial|refine⟨rfl,?_⟩))) (by(repeat(first|exact trivial|refine⟨rfl,?_⟩)))) ?_;rintro⟨P,C,aH,Q⟩ ⟨E,hC,hD,rc,lh⟩;simp only at E hC hD rc lh;refine(show aK _ _ _ _ ⟨[(10,u C.length),(11,u aH.length),(4,eJ),(2,u m),(0,dL n c)],[(20,bH (P++C++aH++Q) rest)],[]⟩ from ?_);refine go ?_
 by_cases h1:C.length=aH.length
 ·rw[show decide ((C.length:Int)=aH.length)=true by rw[decide_eq_true_eq];omega];have hs:=Mm P C [] aH Q rest hp n c (m-C.length) m C.length (by simp;omega) ib h1 (by omega) (by simp;omega) rfl;rw[show P++C++[]++aH++Q=P++C++aH++Q by simp,show P++aH++[]++C++Q=am by rw[<-E];simp] at hs;refine go ?_;refine hJ hs rfl (λ a w=>call200 a w) rfl rfl ⟨⟨rfl,bF _ _⟩,trivial⟩ (by(repeat(first|exact trivial|refine⟨.inr rfl,?_⟩|refine⟨.inl rfl,?_⟩))) rfl rfl rfl rfl ?_ ?_
  ·rintro d U ⟨rfl,rfl⟩;exact⟨.inl rfl,trivial⟩
  rintro d U ⟨rfl,rfl⟩;refine go ?_;refine jR (d:=.bg []) [(20,bH am rest)] ?_ rfl ⟨⟨rfl,bF _ _⟩,trivial⟩ ⟨rfl,trivial⟩ ⟨rfl,rfl⟩
  rfl
 ·rw[show decide ((C.length:Int)=aH.length)=false by rw[decide_eq_false_iff_not];omega];refine go ?_
  by_cases A:aH.length<C.length
  ·rw[show decide ((C.length:Int)>aH.length)=true by rw[decide_eq_true_eq];omega];have L:=List.take_append_drop aH.length C;have dT:(C.take aH.length).length=aH.length:=by rw[List.length_take];omega
   have q6:(C.drop aH.length).length=C.length-aH.length:=List.length_drop ..;generalize C.take aH.length=C1 at*;generalize C.drop aH.length=C2 at*;have hs:=Mm P C1 C2 aH Q rest hp n c (m-C.length) m aH.length (by simp;omega) ib (by omega) (by omega) (by simp;omega) (by omega);rw[show P++C1++C2++aH++Q=P++C++aH++Q by rw[<-L];simp] at hs;refine go ?_;refine hJ hs rfl (λ a w=>call200 a w) rfl rfl ⟨⟨rfl,bF _ _⟩,trivial⟩ (by(repeat(first|exact trivial|refine⟨.inr rfl,?_⟩|refine⟨.inl rfl,?_⟩))) rfl rfl rfl rfl ?_ ?_
   ·rintro d U ⟨rfl,rfl⟩;exact⟨.inl rfl,trivial⟩
   rintro d U ⟨rfl,rfl⟩;refine go ?_;refine⟨(P++aH,C2,C1,Q),⟨by simp only;rw[<-E,<-L];simp,by simp only;omega,by simp only;omega,by simp only[List.length_append];omega,by simp only[List.length_append];omega⟩,by simp only;omega,?_⟩;show bN _ _ ⟨[(10,u C2.length),(11,u C1.length),(4,eJ),(2,u m),(0,dL n c)],[(20,bH (P++aH++C2++C1++Q) rest)],[]⟩;rw[show((C2.length:Nat):Int)=(C.length:Int)-aH.length by omega,dT];exact eO (by(repeat(first|exact trivial|refine⟨⟨rfl,rfl⟩,?_⟩))) (by(repeat(first|exact trivial|refine⟨⟨rfl,rfl⟩,?_⟩|refine⟨⟨rfl,bF _ _⟩,?_⟩))) (by(repeat(first|exact trivial|refine⟨rfl,?_⟩))) (by(repeat(first|exact trivial|refine⟨rfl,?_⟩)))
  ·rw[show decide ((C.length:Int)>aH.length)=false by rw[decide_eq_false_iff_not];omega];have L:=List.take_append_drop (aH.length-C.length) aH;have dT:(aH.take (aH.length-C.length)).length=aH.length-C.length:=by rw[List.length_take];omega
   have q6:(aH.drop (aH.length-C.length)).length=C.length:=by rw[List.length_drop];omega
   generalize aH.take (aH.length-C.length)=D1 at*;generalize aH.drop (aH.length-C.length)=D2 at*;have hs:=Mm P C D1 D2 Q rest hp n c (m-C.length) (m+aH.length-C.length) C.length (by simp;omega) ib (by omega) (by omega) (by simp;omega) (by omega);rw[show P++C++D1++D2++Q=P++C++aH++Q by rw[<-L];simp] at hs;refine go ?_;refine hJ hs rfl (λ a w=>call200 a w) rfl rfl ⟨⟨rfl,bF _ _⟩,trivial⟩ (by(repeat(first|exact trivial|refine⟨.inr rfl,?_⟩|refine⟨.inl rfl,?_⟩))) rfl rfl rfl rfl ?_ ?_
   ·rintro d U ⟨rfl,rfl⟩;exact⟨.inl rfl,trivial⟩
   rintro d U ⟨rfl,rfl⟩;refine go ?_;refine⟨(P,D2,D1,C++Q),⟨by simp only;rw[<-E,<-L];simp,by simp only;omega,by simp only;omega,by simp only;omega,by simp only[List.length_append];omega⟩,by simp only;omega,?_⟩;show bN _ _ ⟨[(10,u D2.length),(11,u D1.length),(4,eJ),(2,u m),(0,dL n c)],[(20,bH (P++D2++D1++(C++Q)) rest)],[]⟩;rw[show((D1.length:Nat):Int)=(aH.length:Int)-C.length by omega,q6,show P++D2++D1++(C++Q)=P++D2++D1++C++Q by simp];exact eO (by(repeat(first|exact trivial|refine⟨⟨rfl,rfl⟩,?_⟩))) (by(repeat(first|exact trivial|refine⟨⟨rfl,rfl⟩,?_⟩|refine⟨⟨rfl,bF _ _⟩,?_⟩))) (by(repeat(first|exact trivial|refine⟨rfl,?_⟩))) (by(repeat(first|exact trivial|refine⟨rfl,?_⟩)))
set_option maxHeartbeats 16000000 in
theorem QI(aa av ap:aZ)(rest:List G)(hp:fu rest)(n c:Nat)(a b:Int)(hn:(aa++av++ap).length=n)(ib:n<=100000)(ha:a=aa.length)(T:b=a+av.length):eo prog 137 [20] [dL n c,u a,u b,eJ] [(20,bH (aa++av++ap) rest)] (λ d U=>d=.bg []/\∃dN,jj av dN/\U=[(20,bH (aa++dN++ap) rest)]):=by
 have bF:∀{S:aZ}(B au:Nat->Bool),G.ok.eA B au (bH S rest)=true:=λ B au=>vm hp B au
 simp only[List.length_append] at hn;refine sI func137 ntmps137 λ w cl own kf=>?_
 refine go ?_;rcases av with _|⟨x0,M0⟩
 ·refine bW (λ _:Unit=>True) (λ _=>⟨[(8,u (a+1)),(2,u b)],[(20,bH (aa++[]++ap) rest)],[]⟩) (λ _=>0) () trivial (eO (by(repeat(first|exact trivial|refine⟨⟨rfl,rfl⟩,?_⟩))) (by(repeat(first|exact trivial|refine⟨⟨rfl,rfl⟩,?_⟩|refine⟨⟨rfl,bF _ _⟩,?_⟩))) (by(repeat(first|exact trivial|refine⟨rfl,?_⟩))) (by(repeat(first|exact trivial|refine⟨rfl,?_⟩)))) ?_;intro _ _;refine go ?_;rw[show decide (a+1<b)=false by rw[decide_eq_false_iff_not];simp at T;omega];refine go ?_;refine jR (d:=.bg []) [(20,bH (aa++[]++ap) rest)] ?_ rfl ⟨⟨rfl,bF _ _⟩,trivial⟩ ⟨rfl,trivial⟩ ⟨rfl,[],⟨rfl,.nil,.refl _⟩,rfl⟩
  rfl
 refine bW (λ p:aZ×aZ=>1<=p.1.length/\p.1.length+p.2.length=M0.length+1/\dZ p.1/\gq (x0::M0) (p.1++p.2)) (λ p=>⟨[(8,u (a+p.1.length)),(3,eJ),(2,u b),(1,u a),(0,dL n c)],[(20,bH (aa++p.1++p.2++ap) rest)],[]⟩) (λ p=>p.2.length) ([x0],M0) ⟨Nat.le_refl _,by simp;omega,dZ.one _,.refl _⟩ (by rw[show aa++[x0]++M0++ap=aa++(x0::M0)++ap by simp];exact eO (by(repeat(first|exact trivial|refine⟨⟨rfl,rfl⟩,?_⟩))) (by(repeat(first|exact trivial|refine⟨⟨rfl,rfl⟩,?_⟩|refine⟨⟨rfl,bF _ _⟩,?_⟩))) (by(repeat(first|exact trivial|refine⟨rfl,?_⟩))) (by(repeat(first|exact trivial|refine⟨rfl,?_⟩)))) ?_;rintro⟨S,M2⟩ ⟨qn,CM,hU,hF⟩;simp only at qn CM hU hF;simp only[List.length_cons] at hn T;refine(show aK _ _ _ _ ⟨[(8,u (a+S.length)),(3,eJ),(2,u b),(1,u a),(0,dL n c)],[(20,bH (aa++S++M2++ap) rest)],[]⟩ from ?_);rcases M2 with _|⟨x,M2⟩
 ·simp only[List.append_nil,List.length_nil] at hF CM;rw[show aa++S++[]++ap=aa++S++ap by simp];refine go ?_;rw[show decide (a+(S.length:Int)<b)=false by rw[decide_eq_false_iff_not];omega];refine go ?_;refine jR (d:=.bg []) [(20,bH (aa++S++ap) rest)] ?_ rfl ⟨⟨rfl,bF _ _⟩,trivial⟩ ⟨rfl,trivial⟩ ⟨rfl,S,⟨by rw[List.length_cons];omega,hU,hF⟩,rfl⟩
  rfl
 ·simp only[List.length_cons] at CM;refine go ?_;rw[show decide (a+(S.length:Int)<b)=true by rw[decide_eq_true_eq];omega];refine go ?_;refine UV (dM:=aZ) (.exit 2) (λ ae=>⟨[(8,u (a+S.length)),(3,eJ),(2,u b),(1,u a),(0,dL n c)],[(20,bH (aa++ae++M2++ap) rest)],[]⟩) (λ ae=>jj (S++[x]) ae) ?_ ?_
  ·refine bW (λ p:aZ×aZ=>S=p.1++p.2/\∀y∈p.2,x.1<y.1) (λ p=>⟨[(9,u (a+p.1.length)),(8,u (a+S.length)),(3,eJ),(2,u b),(1,u a),(0,dL n c)],[(20,bH (aa++(p.1++x::p.2)++M2++ap) rest)],[]⟩) (λ p=>p.1.length) (S,[]) ⟨(List.append_nil _).symm,λ y hy=>by cases hy⟩ (by rw[show aa++(S++x::[])++M2++ap=aa++S++x::M2++ap by simp];exact eO (by(repeat(first|exact trivial|refine⟨⟨rfl,rfl⟩,?_⟩))) (by(repeat(first|exact trivial|refine⟨⟨rfl,rfl⟩,?_⟩|refine⟨⟨rfl,bF _ _⟩,?_⟩))) (by(repeat(first|exact trivial|refine⟨rfl,?_⟩))) (by(repeat(first|exact trivial|refine⟨rfl,?_⟩)))) ?_;rintro⟨ab,B⟩ ⟨hA,hB⟩;simp only at hA hB;refine(show aK _ _ _ _ ⟨[(9,u (a+ab.length)),(8,u (a+S.length)),(3,eJ),(2,u b),(1,u a),(0,dL n c)],[(20,bH (aa++(ab++x::B)++M2++ap) rest)],[]⟩ from ?_);have wj:(∀y∈ab,y.1<=x.1)->jj (S++[x]) (ab++x::B):=λ ir=>by
    rw[hA];exact L6 (by rw[<-hA];exact hU) ir hB
   have ae9:S.length=ab.length+B.length:=by rw[hA];simp
   rcases List.eq_nil_or_concat ab with rfl|⟨da,y,rfl⟩
   ·have F:=wj (λ y hy=>by cases hy);refine go ?_;refine gD [] ?_;rw[show decide (a+((([]:aZ).length:Nat):Int)>a)=false by rw[decide_eq_false_iff_not];simp];refine qg ?_;exact⟨rfl,_,F,eO (by(repeat(first|exact trivial|refine⟨⟨rfl,rfl⟩,?_⟩))) (by(repeat(first|exact trivial|refine⟨⟨rfl,rfl⟩,?_⟩|refine⟨⟨rfl,bF _ _⟩,?_⟩))) (by(repeat(first|exact trivial|refine⟨rfl,?_⟩))) (by(repeat(first|exact trivial|refine⟨rfl,?_⟩)))⟩
   ·simp only[List.concat_eq_append] at*;have dJ:(da++[y]).length=da.length+1:=by simp
    have e1:aa++((da++[y])++x::B)++M2++ap=(aa++da++[y])++x::(B++M2++ap):=by simp
    have e2:aa++((da++[y])++x::B)++M2++ap=(aa++da)++y::(x::(B++M2++ap)):=by simp
    have e3:(aa++da++[y])++y::(B++M2++ap)=(aa++da)++y::(y::(B++M2++ap)):=by simp
    have bO:(aa++((da++[y])++x::B)++M2++ap)[aa.length+da.length+1]?=some x:=by rw[e1];exact tn _ _ _ (by simp;omega)
    have dj:(aa++((da++[y])++x::B)++M2++ap)[aa.length+da.length]?=some y:=by rw[e2];exact tn _ _ _ (by simp)
    have yr:((aa++((da++[y])++x::B)++M2++ap).set (aa.length+da.length+1) y).set (aa.length+da.length) x=aa++(da++x::(y::B))++M2++ap:=by rw[e1,w7 _ _ _ _ (by simp;omega),e3,w7 _ _ _ _ (by simp)];simp
    have nF:(aa++((da++[y])++x::B)++M2++ap).length=n:=by simp;omega
    have cT:¬x.1<y.1->jj (S++[x]) ((da++[y])++x::B):=λ ba=>wj λ z hz=>by
     rcases List.mem_append.1 hz with hz|hz
     ·have K:dZ (da++[y]):=by rw[hA] at hU;exact hU.left
      have:=K.le z hz y (by simp);omega
     ·have:z=y:=by simpa using hz
      subst this;omega
    clear e1 e2 e3 wj;have r9:=E2 x y;have ba:=ND x.1 y.1;generalize sY x.1 y.1=cv at r9 ba;obtain⟨r1,jc⟩:=pf bO rest;obtain⟨r2,mY⟩:=pf dj rest;have sr:=rC (aa++((da++[y])++x::B)++M2++ap) rest;have tE:=(List.getElem?_eq_some_iff.1 bO).1;have tF:=(List.getElem?_eq_some_iff.1 dj).1;have ys:=w4 (S:=aa++((da++[y])++x::B)++M2++ap) (i:=aa.length+da.length+1) y tE rest;have sx:=w4 (S:=(aa++((da++[y])++x::B)++M2++ap).set (aa.length+da.length+1) y) (i:=aa.length+da.length) x (by rw[List.length_set];exact tF) rest;rw[yr] at sx;have yn:=rC ((aa++((da++[y])++x::B)++M2++ap).set (aa.length+da.length+1) y) rest;rw[List.length_set] at yn;generalize qn:aa++((da++[y])++x::B)++M2++ap=S1 at*;generalize ts:bH S1 rest=R1 at*;generalize Jr:bH (S1.set (aa.length+da.length+1) y) rest=R2 at*;rw[dJ];refine go ?_;refine gD [] ?_;rw[show decide (a+((da.length+1:Nat):Int)>a)=true by rw[decide_eq_true_eq];omega];refine bh ?_;refine cV (jy (p:=(aa.length+da.length+1)*2) aB rfl rfl rfl rfl rfl (by omega) (by omega) (by show(aa.length+da.length+1)*2=(a+((da.length+1:Nat):Int)).toNat*2;omega)) rfl rfl ?_;refine cV (mq aB [u x.1,u x.2] r1 rfl rfl rfl rfl rfl (by show(aa.length+da.length+1)*2<=R1.length;omega) jc rfl) rfl rfl ?_;refine bh ?_;refine cV (jy (p:=(aa.length+da.length)*2) aB rfl rfl rfl rfl rfl (by omega) (by omega) (by show(aa.length+da.length)*2=(a+((da.length+1:Nat):Int)-1).toNat*2;omega)) rfl rfl ?_
    refine cV (mq aB [u y.1,u y.2] r2 rfl rfl rfl rfl rfl (by show(aa.length+da.length)*2<=R1.length;omega) mY rfl) rfl rfl ?_;refine bh ?_;refine cV (vN r9 rfl (λ a w=>call85 a w) rfl rfl) rfl rfl ?_;refine qg ?_;rw[ba]
    by_cases A:x.1<y.1
    ·rw[show decide (x.1<y.1)=true from decide_eq_true A];refine go ?_;refine gD [20] ?_;refine cV (jy (p:=(aa.length+da.length)*2) aB rfl rfl rfl rfl rfl (by omega) (by omega) (by show(aa.length+da.length)*2=(a+((da.length+1:Nat):Int)-1).toNat*2;omega)) rfl rfl ?_;refine wW (mq aB [u y.1,u y.2] r2 rfl rfl rfl rfl rfl (by show(aa.length+da.length)*2<=R1.length;omega) mY rfl) rfl rfl (by kernel_rfl) ?_;refine bh ?_;refine cV (jy (p:=(aa.length+da.length+1)*2) aB rfl rfl rfl rfl rfl (by omega) (by omega) (by show(aa.length+da.length+1)*2=(a+((da.length+1:Nat):Int)).toNat*2;omega)) rfl rfl ?_;refine wW (mq aB [u x.1,u x.2] r1 rfl rfl rfl rfl rfl (by show(aa.length+da.length+1)*2<=R1.length;omega) jc rfl) rfl rfl (by kernel_rfl) ?_;refine cV (jy (p:=(aa.length+da.length+1)*2) aB rfl rfl rfl rfl rfl (by omega) (by omega) (by show(aa.length+da.length+1)*2=(a+((da.length+1:Nat):Int)).toNat*2;omega)) rfl rfl ?_;refine tW (aO:=R2) aB rfl rfl rfl rfl rfl rfl rfl rfl (xf (by show(aa.length+da.length+1)*2+2<=R1.length;omega) ys) rfl rfl (.inl rfl) ?_;refine cV (jy (p:=(aa.length+da.length)*2) aB rfl rfl rfl rfl rfl (by omega) (by omega) (by show(aa.length+da.length)*2=(a+((da.length+1:Nat):Int)-1).toNat*2;omega)) rfl rfl ?_;refine tW (aO:=bH (aa++(da++x::(y::B))++M2++ap) rest) aB rfl rfl rfl rfl rfl rfl rfl rfl (xf (by show(aa.length+da.length)*2+2<=R2.length;omega) sx) rfl rfl (.inr (by kernel_rfl)) ?_;refine qg ?_
     refine⟨(da,y::B),⟨by simp only;rw[hA];simp,λ z hz=>?_⟩,by simp only;omega,?_⟩
     ·rcases List.mem_cons.1 hz with rfl|hz
      ·exact A
      ·exact hB z hz
     ·show bN _ _ ⟨[(9,u (a+da.length)),(8,u (a+S.length)),(3,eJ),(2,u b),(1,u a),(0,dL n c)],[(20,bH (aa++(da++x::(y::B))++M2++ap) rest)],[]⟩;rw[show a+(da.length:Int)=a+((da.length+1:Nat):Int)-1 by omega];exact eO (by(repeat(first|exact trivial|refine⟨⟨rfl,rfl⟩,?_⟩))) (by(repeat(first|exact trivial|refine⟨⟨rfl,rfl⟩,?_⟩|refine⟨⟨rfl,bF _ _⟩,?_⟩))) (by(repeat(first|exact trivial|refine⟨rfl,?_⟩))) (by(repeat(first|exact trivial|refine⟨rfl,?_⟩)))
    ·rw[show decide (x.1<y.1)=false from decide_eq_false A];refine go ?_;rw[<-ts,<-qn];exact⟨rfl,_,cT A,eO (by(repeat(first|exact trivial|refine⟨⟨rfl,rfl⟩,?_⟩))) (by(repeat(first|exact trivial|refine⟨⟨rfl,rfl⟩,?_⟩|refine⟨⟨rfl,bF _ _⟩,?_⟩))) (by(repeat(first|exact trivial|refine⟨rfl,?_⟩))) (by(repeat(first|exact trivial|refine⟨rfl,?_⟩)))⟩
  intro bU ae hT eQ;refine zR (zP (zM (dO eQ ?_)));clear eQ;refine go ?_;have OW:=hT.len;simp only[List.length_append,List.length_cons,List.length_nil] at OW;refine⟨(ae,M2),⟨by simp only;omega,by simp only;omega,hT.up,?_⟩,by simp only[List.length_cons];omega,?_⟩
  ·have K:=hT.px.app (gq.refl M2);rw[List.append_assoc] at K;exact hF.trans K
  ·show bN _ _ ⟨[(8,u (a+ae.length)),(3,eJ),(2,u b),(1,u a),(0,dL n c)],[(20,bH (aa++ae++M2++ap) rest)],[]⟩;rw[show a+(ae.length:Int)=a+(S.length:Int)+1 by omega];exact eO (by(repeat(first|exact trivial|refine⟨⟨rfl,rfl⟩,?_⟩))) (by(repeat(first|exact trivial|refine⟨⟨rfl,rfl⟩,?_⟩|refine⟨⟨rfl,bF _ _⟩,?_⟩))) (by(repeat(first|exact trivial|refine⟨rfl,?_⟩))) (by(repeat(first|exact trivial|refine⟨rfl,?_⟩)))
theorem HL{n:Int}(h0:0<=n)(h1:n<18446744073709551616):IntKind.u64.wrap n=((n.toNat:Nat):Int):=by
 have:=TE (n:=n.toNat) (by omega)
 rwa [show((n.toNat:Nat):Int)=n by omega] at this⊢
theorem Hv{P:Program}{S:Nat->Option G}{B:Nat->Option (List G)}{o:Oper}{ty af:TypeId}{x:Operand}{m:Nat}(ho:o.op=.binOp .shr ty x (.const (.int .u64 1)) af)(O:ev S x=some (dU m)):dH P o S B (dU (m/2)) none:=by
 refine jh λ ac e hs=>?_
 have bO:=cR (hs.1 x (by rw[ho];simp[Op.operands]) _ O);have ff:ac.eval (.const (.int .u64 1))=.int .u64 1:=rfl;refine⟨_,?_,.p (.raw _)⟩;obtain⟨dst,op,type,pos,after,guard⟩:=o;simp only at ho;subst ho;have T:(binOp .shr ty (.int .u64 (m:Int)) (.int .u64 (1:Int))).run P e.w=.ok (.int .u64 ((m/2:Nat):Int)) e.w:=by
  show(Op.shift .shr .u64 (m:Int) .u64 (1:Int)).run P e.w=_;rw[shift_shr_any _ _ _ _ (by omega)];show Result.ok (Value.int .u64 ((m:Int)/2^min ((1:Int).toNat) 64)) e.w=_
  congr 2
 simp[execOp,bO,ff,eqGuard,T]
theorem Fs{P av Q:aZ}{k n:Nat}{y:Int×Int}(h:av[k]?=some y)(hn:n=P.length+k):(P++av++Q)[n]?=some y:=by subst hn;have I:=(List.getElem?_eq_some_iff.1 h).1;rw[List.append_assoc,List.getElem?_append_right (by omega),List.getElem?_append_left (by omega),show P.length+k-P.length=k by omega];exact h
theorem HE{av:aZ}(hU:dZ av){k:Nat}{y:Int×Int}(hy:av[k]?=some y):∀z∈av.take (k+1),z.1<=y.1:=by
 intro z hz;obtain⟨i,X⟩:=List.getElem?_of_mem hz;rw[List.getElem?_take] at X;split at X
 ·exact hU.at X hy (by omega)
 ·cases X
theorem E9{av:aZ}(hU:dZ av){k:Nat}{y:Int×Int}(hy:av[k]?=some y):∀z∈av.drop k,y.1<=z.1:=by intro z hz;obtain⟨i,X⟩:=List.getElem?_of_mem hz;rw[List.getElem?_drop] at X;exact hU.at hy X (by omega)
theorem IE(x y:Int×Int):decide (sY x.1 y.1<0)=decide (x.1<y.1):=ND x.1 y.1
set_option maxHeartbeats 16000000 in
theorem adP(aa M2 ap:aZ)(x:Int×Int)(rest:List G)(hp:fu rest)(n c:Nat)(a m b:Int)(hn:(aa++[x]++M2++ap).length=n)(ib:n<=100000)(hU:dZ M2)(h0:0<M2.length)(ha:a=aa.length)(hm:m=a+1)(T:b=m+M2.length):eo prog 138 [20] [dL n c,u a,u m,u b,eJ] [(20,bH (aa++[x]++M2++ap) rest)] (λ d U=>d=.bg []/\∃dN,jj ([x]++M2) dN/\U=[(20,bH (aa++dN++ap) rest)]):=by
 have bF:∀{S:aZ}(B au:Nat->Bool),G.ok.eA B au (bH S rest)=true:=λ B au=>vm hp B au
 have nF:=hn;simp only[List.length_append,List.length_cons,List.length_nil] at hn;refine sI func138 ntmps138 λ w cl own kf=>?_
 refine go ?_;rw[show decide (m-a=1)=true by rw[decide_eq_true_eq];omega];refine go ?_;refine bW (λ p:Nat×Nat=>p.1<=p.2/\p.2<=M2.length/\(∀y∈M2.take p.1,y.1<x.1)/\(∀y∈M2.drop p.2,x.1<=y.1)) (λ p=>⟨[(10,u (m+p.1)),(11,u (m+p.2)),(4,eJ),(2,u m),(1,u a),(0,dL n c)],[(20,bH (aa++[x]++M2++ap) rest)],[]⟩) (λ p=>p.2-p.1) (0,M2.length) ⟨Nat.zero_le _,Nat.le_refl _,λ y hy=>by simp at hy,λ y hy=>by simp at hy⟩ (by rw[show m+((0:Nat):Int)=m by omega,<-T];exact eO (by(repeat(first|exact trivial|refine⟨⟨rfl,rfl⟩,?_⟩))) (by(repeat(first|exact trivial|refine⟨⟨rfl,rfl⟩,?_⟩|refine⟨⟨rfl,bF _ _⟩,?_⟩))) (by(repeat(first|exact trivial|refine⟨rfl,?_⟩))) (by(repeat(first|exact trivial|refine⟨rfl,?_⟩)))) ?_;rintro⟨i,j⟩ ⟨jT,hj,gU,kw⟩;simp only at jT hj gU kw;refine(show aK _ _ _ _ ⟨[(10,u (m+i)),(11,u (m+j)),(4,eJ),(2,u m),(1,u a),(0,dL n c)],[(20,bH (aa++[x]++M2++ap) rest)],[]⟩ from ?_);refine go ?_
 by_cases h1:i<j
 ·rw[show decide (m+(i:Int)<m+j)=true by rw[decide_eq_true_eq];omega];have hw:IntKind.i64.wrap (((m+(i:Int)+(m+j)).toNat/2:Nat):Int)=m+((i+j)/2:Nat):=by rw[eI (by omega) (by omega)];omega
  refine go ?_;rw[HL (by omega) (by omega)];refine bn (Hv rfl rfl) rfl rfl rfl ?_;refine go ?_;rw[hw];clear hw;have PG:i<=(i+j)/2/\(i+j)/2<j:=by omega
  generalize(i+j)/2=h at*;obtain⟨y,hy⟩:∃y,M2[h]?=some y:=⟨M2[h]'(by omega),List.getElem?_eq_getElem _⟩;have bO:(aa++[x]++M2++ap)[aa.length+1+h]?=some y:=Fs (P:=aa++[x]) hy (by simp);have dj:(aa++[x]++M2++ap)[aa.length]?=some x:=by rw[show aa++[x]++M2++ap=aa++x::(M2++ap) by simp];exact tn _ _ _ rfl
  have Kp:y.1<x.1->(∀z∈M2.take (h+1),z.1<x.1):=λ ba z hz=>by have:=HE hU hy z hz;omega
  have Kq:¬y.1<x.1->(∀z∈M2.drop h,x.1<=z.1):=λ ba z hz=>by have:=E9 hU hy z hz;omega
  obtain⟨r1,jc⟩:=pf bO rest;obtain⟨r2,mY⟩:=pf dj rest;have sr:=rC (aa++[x]++M2++ap) rest;have tE:=(List.getElem?_eq_some_iff.1 bO).1;have tF:=(List.getElem?_eq_some_iff.1 dj).1;have r9:=E2 y x;have ba:=IE y x;generalize sY y.1 x.1=cv at r9 ba;generalize qn:aa++[x]++M2++ap=S1 at*;generalize ts:bH S1 rest=R1 at*;have wD:∀(B au:Nat->Bool),G.ok.eA B au R1=true:=λ B au=>by rw[<-ts];exact bF B au
  refine gD [] ?_;refine cV (jy (p:=(aa.length+1+h)*2) aB rfl rfl rfl rfl rfl (by omega) (by omega) (by show(aa.length+1+h)*2=(m+h).toNat*2;omega)) rfl rfl ?_;refine cV (mq aB [u y.1,u y.2] r1 rfl rfl rfl rfl rfl (by show(aa.length+1+h)*2<=R1.length;omega) jc rfl) rfl rfl ?_;refine bh ?_;refine cV (jy (p:=(aa.length)*2) aB rfl rfl rfl rfl rfl (by omega) (by omega) (by show(aa.length)*2=(a).toNat*2;omega)) rfl rfl ?_;refine cV (mq aB [u x.1,u x.2] r2 rfl rfl rfl rfl rfl (by show(aa.length)*2<=R1.length;omega) mY rfl) rfl rfl ?_;refine bh ?_;refine cV (vN r9 rfl (λ a w=>call85 a w) rfl rfl) rfl rfl ?_;refine qg ?_;rw[ba]
  by_cases A:y.1<x.1
  ·rw[show decide (y.1<x.1)=true from decide_eq_true A];refine go ?_;refine⟨(h+1,j),⟨by simp only;omega,by simp only;omega,Kp A,kw⟩,by simp only;omega,?_⟩;show bN _ _ ⟨[(10,u (m+((h+1:Nat):Int))),(11,u (m+j)),(4,eJ),(2,u m),(1,u a),(0,dL n c)],[(20,R1)],[]⟩;rw[show m+((h+1:Nat):Int)=m+(h:Int)+1 by omega];exact eO (by(repeat(first|exact trivial|refine⟨⟨rfl,rfl⟩,?_⟩))) (by(repeat(first|exact trivial|refine⟨⟨rfl,rfl⟩,?_⟩|refine⟨⟨rfl,wD _ _⟩,?_⟩))) (by(repeat(first|exact trivial|refine⟨rfl,?_⟩))) (by(repeat(first|exact trivial|refine⟨rfl,?_⟩)))
  ·rw[show decide (y.1<x.1)=false from decide_eq_false A];refine go ?_;refine⟨(i,h),⟨by simp only;omega,by simp only;omega,gU,Kq A⟩,by simp only;omega,?_⟩;show bN _ _ ⟨[(10,u (m+i)),(11,u (m+h)),(4,eJ),(2,u m),(1,u a),(0,dL n c)],[(20,R1)],[]⟩;exact eO (by(repeat(first|exact trivial|refine⟨⟨rfl,rfl⟩,?_⟩))) (by(repeat(first|exact trivial|refine⟨⟨rfl,rfl⟩,?_⟩|refine⟨⟨rfl,wD _ _⟩,?_⟩))) (by(repeat(first|exact trivial|refine⟨rfl,?_⟩))) (by(repeat(first|exact trivial|refine⟨rfl,?_⟩)))
 ·have iB:j=i:=by omega
  subst iB;rw[show decide (m+(j:Int)<m+j)=false by rw[decide_eq_false_iff_not];omega];have hM:=List.take_append_drop j M2;have Qd:(M2.take j).length=j:=by rw[List.length_take];omega
  have tz:(M2.drop j).length=M2.length-j:=List.length_drop ..;generalize M2.take j=P at*;generalize M2.drop j=Q at*;subst hM;have kR:=adB hU gU kw;simp only[List.length_append] at hn tz;refine go ?_;refine bW (λ p:aZ×aZ=>P=p.1++p.2) (λ p=>⟨[(13,u (a+p.1.length)),(10,u (m+j)),(0,dL n c)],[(20,bH (aa++(p.1++x::p.2)++(Q++ap)) rest)],[]⟩) (λ p=>p.2.length) ([],P) rfl (by rw[show a+((([]:aZ).length:Nat):Int)=a by simp,show aa++([]++x::P)++(Q++ap)=aa++[x]++(P++Q)++ap by simp];exact eO (by(repeat(first|exact trivial|refine⟨⟨rfl,rfl⟩,?_⟩))) (by(repeat(first|exact trivial|refine⟨⟨rfl,rfl⟩,?_⟩|refine⟨⟨rfl,bF _ _⟩,?_⟩))) (by(repeat(first|exact trivial|refine⟨rfl,?_⟩))) (by(repeat(first|exact trivial|refine⟨rfl,?_⟩)))) ?_;rintro⟨ab,B⟩ rZ;simp only at rZ;have Fw:ab.length+B.length=j:=by rw[<-Qd,rZ];simp
  refine(show aK _ _ _ _ ⟨[(13,u (a+ab.length)),(10,u (m+j)),(0,dL n c)],[(20,bH (aa++(ab++x::B)++(Q++ap)) rest)],[]⟩ from ?_);rcases B with _|⟨z,B⟩
  ·refine go ?_;rw[show decide (a+(ab.length:Int)<m+(j:Int)-1)=false by rw[decide_eq_false_iff_not];simp at Fw;omega];rw[show aa++(ab++x::[])++(Q++ap)=aa++(P++x::Q)++ap by rw[rZ];simp];refine go ?_;refine im (d:=.bg []) [(20,bH (aa++(P++x::Q)++ap) rest)] ?_ rfl ⟨⟨rfl,bF _ _⟩,trivial⟩ ⟨rfl,trivial⟩ ⟨rfl,P++x::Q,by simpa using kR,rfl⟩
   rfl
  ·simp only[List.length_cons] at Fw;refine go ?_;rw[show decide (a+(ab.length:Int)<m+(j:Int)-1)=true by rw[decide_eq_true_eq];omega];have e1:aa++(ab++x::z::B)++(Q++ap)=(aa++ab)++x::(z::B++(Q++ap)):=by simp
   have e2:aa++(ab++x::z::B)++(Q++ap)=(aa++ab++[x])++z::(B++(Q++ap)):=by simp
   have e3:(aa++ab)++z::(z::B++(Q++ap))=(aa++ab++[z])++z::(B++(Q++ap)):=by simp
   have bO:(aa++(ab++x::z::B)++(Q++ap))[aa.length+ab.length]?=some x:=by rw[e1];exact tn _ _ _ (by simp)
   have dj:(aa++(ab++x::z::B)++(Q++ap))[aa.length+ab.length+1]?=some z:=by rw[e2];exact tn _ _ _ (by simp;omega)
   have yr:((aa++(ab++x::z::B)++(Q++ap)).set (aa.length+ab.length) z).set (aa.length+ab.length+1) x=aa++((ab++[z])++x::B)++(Q++ap):=by rw[e1,w7 _ _ _ _ (by simp),e3,w7 _ _ _ _ (by simp;omega)];simp
   have nF:(aa++(ab++x::z::B)++(Q++ap)).length=n:=by simp;omega
   clear e1 e2 e3;obtain⟨r1,jc⟩:=pf bO rest;obtain⟨r2,mY⟩:=pf dj rest;have sr:=rC (aa++(ab++x::z::B)++(Q++ap)) rest;have tE:=(List.getElem?_eq_some_iff.1 bO).1;have tF:=(List.getElem?_eq_some_iff.1 dj).1;have ys:=w4 (S:=aa++(ab++x::z::B)++(Q++ap)) (i:=aa.length+ab.length) z tE rest;have sx:=w4 (S:=(aa++(ab++x::z::B)++(Q++ap)).set (aa.length+ab.length) z) (i:=aa.length+ab.length+1) x (by rw[List.length_set];exact tF) rest;rw[yr] at sx;have yn:=rC ((aa++(ab++x::z::B)++(Q++ap)).set (aa.length+ab.length) z) rest;rw[List.length_set] at yn;generalize qn:aa++(ab++x::z::B)++(Q++ap)=S1 at*;generalize ts:bH S1 rest=R1 at*;generalize Jr:bH (S1.set (aa.length+ab.length) z) rest=R2 at*;refine go ?_;refine gD [20] ?_;refine cV (jy (p:=(aa.length+ab.length+1)*2) aB rfl rfl rfl rfl rfl (by omega) (by omega) (by show(aa.length+ab.length+1)*2=(a+ab.length+1).toNat*2;omega)) rfl rfl ?_;refine wW (mq aB [u z.1,u z.2] r2 rfl rfl rfl rfl rfl (by show(aa.length+ab.length+1)*2<=R1.length;omega) mY rfl) rfl rfl (by kernel_rfl) ?_;refine bh ?_;refine cV (jy (p:=(aa.length+ab.length)*2) aB rfl rfl rfl rfl rfl (by omega) (by omega) (by show(aa.length+ab.length)*2=(a+ab.length).toNat*2;omega)) rfl rfl ?_;refine wW (mq aB [u x.1,u x.2] r1 rfl rfl rfl rfl rfl (by show(aa.length+ab.length)*2<=R1.length;omega) jc rfl) rfl rfl (by kernel_rfl) ?_;refine cV (jy (p:=(aa.length+ab.length)*2) aB rfl rfl rfl rfl rfl (by omega) (by omega) (by show(aa.length+ab.length)*2=(a+ab.length).toNat*2;omega)) rfl rfl ?_
   refine tW (aO:=R2) aB rfl rfl rfl rfl rfl rfl rfl rfl (xf (by show(aa.length+ab.length)*2+2<=R1.length;omega) ys) rfl rfl (.inl rfl) ?_;refine cV (jy (p:=(aa.length+ab.length+1)*2) aB rfl rfl rfl rfl rfl (by omega) (by omega) (by show(aa.length+ab.length+1)*2=(a+ab.length+1).toNat*2;omega)) rfl rfl ?_;refine tW (aO:=bH (aa++((ab++[z])++x::B)++(Q++ap)) rest) aB rfl rfl rfl rfl rfl rfl rfl rfl (xf (by show(aa.length+ab.length+1)*2+2<=R2.length;omega) sx) rfl rfl (.inr (by kernel_rfl)) ?_;refine qg ?_;refine⟨(ab++[z],B),by simp only;rw[rZ];simp,by simp only[List.length_cons];omega,?_⟩;show bN _ _ ⟨[(13,u (a+(ab++[z]).length)),(10,u (m+j)),(0,dL n c)],[(20,bH (aa++((ab++[z])++x::B)++(Q++ap)) rest)],[]⟩;rw[show a+((ab++[z]).length:Int)=a+(ab.length:Int)+1 by simp;omega];exact eO (by(repeat(first|exact trivial|refine⟨⟨rfl,rfl⟩,?_⟩))) (by(repeat(first|exact trivial|refine⟨⟨rfl,rfl⟩,?_⟩|refine⟨⟨rfl,bF _ _⟩,?_⟩))) (by(repeat(first|exact trivial|refine⟨rfl,?_⟩))) (by(repeat(first|exact trivial|refine⟨rfl,?_⟩)))
set_option maxHeartbeats 16000000 in
theorem adQ(aa M1 ap:aZ)(x:Int×Int)(rest:List G)(hp:fu rest)(n c:Nat)(a m b:Int)(hn:(aa++M1++[x]++ap).length=n)(ib:n<=100000)(hU:dZ M1)(h0:1<M1.length)(ha:a=aa.length)(hm:m=a+M1.length)(T:b=m+1):eo prog 138 [20] [dL n c,u a,u m,u b,eJ] [(20,bH (aa++M1++[x]++ap) rest)] (λ d U=>d=.bg []/\∃dN,jj (M1++[x]) dN/\U=[(20,bH (aa++dN++ap) rest)]):=by
 have bF:∀{S:aZ}(B au:Nat->Bool),G.ok.eA B au (bH S rest)=true:=λ B au=>vm hp B au
 have nF:=hn;simp only[List.length_append,List.length_cons,List.length_nil] at hn;refine sI func138 ntmps138 λ w cl own kf=>?_
 refine go ?_;rw[show decide (m-a=1)=false by rw[decide_eq_false_iff_not];omega];refine go ?_;rw[show decide (b-m=1)=true by rw[decide_eq_true_eq];omega];refine go ?_;refine bW (λ p:Nat×Nat=>p.1<=p.2/\p.2<=M1.length/\(∀y∈M1.take p.1,y.1<=x.1)/\(∀y∈M1.drop p.2,x.1<y.1)) (λ p=>⟨[(14,u (a+p.1)),(15,u (a+p.2)),(4,eJ),(2,u m),(1,u a),(0,dL n c)],[(20,bH (aa++M1++[x]++ap) rest)],[]⟩) (λ p=>p.2-p.1) (0,M1.length) ⟨Nat.zero_le _,Nat.le_refl _,λ y hy=>by simp at hy,λ y hy=>by simp at hy⟩ (by rw[show a+((0:Nat):Int)=a by omega,<-hm];exact eO (by(repeat(first|exact trivial|refine⟨⟨rfl,rfl⟩,?_⟩))) (by(repeat(first|exact trivial|refine⟨⟨rfl,rfl⟩,?_⟩|refine⟨⟨rfl,bF _ _⟩,?_⟩))) (by(repeat(first|exact trivial|refine⟨rfl,?_⟩))) (by(repeat(first|exact trivial|refine⟨rfl,?_⟩)))) ?_;rintro⟨i,j⟩ ⟨jT,hj,gU,kw⟩;simp only at jT hj gU kw;refine(show aK _ _ _ _ ⟨[(14,u (a+i)),(15,u (a+j)),(4,eJ),(2,u m),(1,u a),(0,dL n c)],[(20,bH (aa++M1++[x]++ap) rest)],[]⟩ from ?_);refine go ?_
 by_cases h1:i<j
 ·rw[show decide (a+(i:Int)<a+j)=true by rw[decide_eq_true_eq];omega];have hw:IntKind.i64.wrap (((a+(i:Int)+(a+j)).toNat/2:Nat):Int)=a+((i+j)/2:Nat):=by rw[eI (by omega) (by omega)];omega
  refine go ?_;rw[HL (by omega) (by omega)];refine bn (Hv rfl rfl) rfl rfl rfl ?_;refine go ?_;rw[hw];clear hw;have PG:i<=(i+j)/2/\(i+j)/2<j:=by omega
  generalize(i+j)/2=h at*;obtain⟨y,hy⟩:∃y,M1[h]?=some y:=⟨M1[h]'(by omega),List.getElem?_eq_getElem _⟩;have dj:(aa++M1++[x]++ap)[aa.length+h]?=some y:=by rw[show aa++M1++[x]++ap=aa++M1++([x]++ap) by simp];exact Fs hy rfl
  have bO:(aa++M1++[x]++ap)[aa.length+M1.length]?=some x:=by rw[show aa++M1++[x]++ap=(aa++M1)++x::ap by simp];exact tn _ _ _ (by simp)
  have Kp:¬x.1<y.1->(∀z∈M1.take (h+1),z.1<=x.1):=λ ba z hz=>by have:=HE hU hy z hz;omega
  have Kq:x.1<y.1->(∀z∈M1.drop h,x.1<z.1):=λ ba z hz=>by have:=E9 hU hy z hz;omega
  obtain⟨r1,jc⟩:=pf bO rest;obtain⟨r2,mY⟩:=pf dj rest;have sr:=rC (aa++M1++[x]++ap) rest;have tE:=(List.getElem?_eq_some_iff.1 bO).1;have tF:=(List.getElem?_eq_some_iff.1 dj).1;have r9:=E2 x y;have ba:=IE x y;generalize sY x.1 y.1=cv at r9 ba;generalize qn:aa++M1++[x]++ap=S1 at*;generalize ts:bH S1 rest=R1 at*;have wD:∀(B au:Nat->Bool),G.ok.eA B au R1=true:=λ B au=>by rw[<-ts];exact bF B au
  refine gD [] ?_;refine cV (jy (p:=(aa.length+M1.length)*2) aB rfl rfl rfl rfl rfl (by omega) (by omega) (by show(aa.length+M1.length)*2=(m).toNat*2;omega)) rfl rfl ?_;refine cV (mq aB [u x.1,u x.2] r1 rfl rfl rfl rfl rfl (by show(aa.length+M1.length)*2<=R1.length;omega) jc rfl) rfl rfl ?_;refine bh ?_;refine cV (jy (p:=(aa.length+h)*2) aB rfl rfl rfl rfl rfl (by omega) (by omega) (by show(aa.length+h)*2=(a+h).toNat*2;omega)) rfl rfl ?_;refine cV (mq aB [u y.1,u y.2] r2 rfl rfl rfl rfl rfl (by show(aa.length+h)*2<=R1.length;omega) mY rfl) rfl rfl ?_;refine bh ?_;refine cV (vN r9 rfl (λ a w=>call85 a w) rfl rfl) rfl rfl ?_;refine qg ?_;rw[ba]
  by_cases A:x.1<y.1
  ·rw[show decide (x.1<y.1)=true from decide_eq_true A];refine go ?_;refine⟨(i,h),⟨by simp only;omega,by simp only;omega,gU,Kq A⟩,by simp only;omega,?_⟩;show bN _ _ ⟨[(14,u (a+i)),(15,u (a+h)),(4,eJ),(2,u m),(1,u a),(0,dL n c)],[(20,R1)],[]⟩;exact eO (by(repeat(first|exact trivial|refine⟨⟨rfl,rfl⟩,?_⟩))) (by(repeat(first|exact trivial|refine⟨⟨rfl,rfl⟩,?_⟩|refine⟨⟨rfl,wD _ _⟩,?_⟩))) (by(repeat(first|exact trivial|refine⟨rfl,?_⟩))) (by(repeat(first|exact trivial|refine⟨rfl,?_⟩)))
  ·rw[show decide (x.1<y.1)=false from decide_eq_false A];refine go ?_;refine⟨(h+1,j),⟨by simp only;omega,by simp only;omega,Kp A,kw⟩,by simp only;omega,?_⟩;show bN _ _ ⟨[(14,u (a+((h+1:Nat):Int))),(15,u (a+j)),(4,eJ),(2,u m),(1,u a),(0,dL n c)],[(20,R1)],[]⟩;rw[show a+((h+1:Nat):Int)=a+(h:Int)+1 by omega];exact eO (by(repeat(first|exact trivial|refine⟨⟨rfl,rfl⟩,?_⟩))) (by(repeat(first|exact trivial|refine⟨⟨rfl,rfl⟩,?_⟩|refine⟨⟨rfl,wD _ _⟩,?_⟩))) (by(repeat(first|exact trivial|refine⟨rfl,?_⟩))) (by(repeat(first|exact trivial|refine⟨rfl,?_⟩)))
 ·have iB:j=i:=by omega
  subst iB;rw[show decide (a+(j:Int)<a+j)=false by rw[decide_eq_false_iff_not];omega];have hM:=List.take_append_drop j M1;have Qd:(M1.take j).length=j:=by rw[List.length_take];omega
  have tz:(M1.drop j).length=M1.length-j:=List.length_drop ..;generalize M1.take j=P at*;generalize M1.drop j=Q at*;subst hM;have kR:=L6 hU gU kw;simp only[List.length_append] at hn tz hm h0;refine go ?_;refine bW (λ p:aZ×aZ=>Q=p.1++p.2) (λ p=>⟨[(17,u (a+j+p.1.length)),(14,u (a+j)),(0,dL n c)],[(20,bH (aa++P++(p.1++x::p.2)++ap) rest)],[]⟩) (λ p=>p.1.length) (Q,[]) (List.append_nil _).symm (by rw[show a+(j:Int)+(Q.length:Int)=m by omega,show aa++P++(Q++x::[])++ap=aa++(P++Q)++[x]++ap by simp];exact eO (by(repeat(first|exact trivial|refine⟨⟨rfl,rfl⟩,?_⟩))) (by(repeat(first|exact trivial|refine⟨⟨rfl,rfl⟩,?_⟩|refine⟨⟨rfl,bF _ _⟩,?_⟩))) (by(repeat(first|exact trivial|refine⟨rfl,?_⟩))) (by(repeat(first|exact trivial|refine⟨rfl,?_⟩)))) ?_;rintro⟨ab,B⟩ rZ;simp only at rZ;have Fw:ab.length+B.length=Q.length:=by rw[rZ];simp
  refine(show aK _ _ _ _ ⟨[(17,u (a+j+ab.length)),(14,u (a+j)),(0,dL n c)],[(20,bH (aa++P++(ab++x::B)++ap) rest)],[]⟩ from ?_);rcases List.eq_nil_or_concat ab with rfl|⟨ab,z,rfl⟩
  ·refine go ?_;rw[show decide (a+(j:Int)+((([]:aZ).length:Nat):Int)>a+(j:Int))=false by rw[decide_eq_false_iff_not];simp];rw[show aa++P++([]++x::B)++ap=aa++(P++x::Q)++ap by rw[rZ];simp];refine go ?_;refine im (d:=.bg []) [(20,bH (aa++(P++x::Q)++ap) rest)] ?_ rfl ⟨⟨rfl,bF _ _⟩,trivial⟩ ⟨rfl,trivial⟩ ⟨rfl,P++x::Q,kR,rfl⟩
   rfl
  ·simp only[List.concat_eq_append] at*;have dJ:(ab++[z]).length=ab.length+1:=by simp
   rw[dJ] at Fw;rw[dJ];refine go ?_;rw[show decide (a+(j:Int)+((ab.length+1:Nat):Int)>a+(j:Int))=true by rw[decide_eq_true_eq];omega];have e1:aa++P++((ab++[z])++x::B)++ap=(aa++P++ab++[z])++x::(B++ap):=by simp
   have e2:aa++P++((ab++[z])++x::B)++ap=(aa++P++ab)++z::(x::(B++ap)):=by simp
   have e3:(aa++P++ab++[z])++z::(B++ap)=(aa++P++ab)++z::(z::(B++ap)):=by simp
   have bO:(aa++P++((ab++[z])++x::B)++ap)[aa.length+j+ab.length+1]?=some x:=by rw[e1];exact tn _ _ _ (by simp;omega)
   have dj:(aa++P++((ab++[z])++x::B)++ap)[aa.length+j+ab.length]?=some z:=by rw[e2];exact tn _ _ _ (by simp;omega)
   have yr:((aa++P++((ab++[z])++x::B)++ap).set (aa.length+j+ab.length+1) z).set (aa.length+j+ab.length) x=aa++P++(ab++x::(z::B))++ap:=by rw[e1,w7 _ _ _ _ (by simp;omega),e3,w7 _ _ _ _ (by simp;omega)];simp
   have nF:(aa++P++((ab++[z])++x::B)++ap).length=n:=by simp;omega
   clear e1 e2 e3;obtain⟨r1,jc⟩:=pf bO rest;obtain⟨r2,mY⟩:=pf dj rest;have sr:=rC (aa++P++((ab++[z])++x::B)++ap) rest;have tE:=(List.getElem?_eq_some_iff.1 bO).1;have tF:=(List.getElem?_eq_some_iff.1 dj).1;have ys:=w4 (S:=aa++P++((ab++[z])++x::B)++ap) (i:=aa.length+j+ab.length+1) z tE rest;have sx:=w4 (S:=(aa++P++((ab++[z])++x::B)++ap).set (aa.length+j+ab.length+1) z) (i:=aa.length+j+ab.length) x (by rw[List.length_set];exact tF) rest;rw[yr] at sx;have yn:=rC ((aa++P++((ab++[z])++x::B)++ap).set (aa.length+j+ab.length+1) z) rest;rw[List.length_set] at yn;generalize qn:aa++P++((ab++[z])++x::B)++ap=S1 at*;generalize ts:bH S1 rest=R1 at*;generalize Jr:bH (S1.set (aa.length+j+ab.length+1) z) rest=R2 at*;refine go ?_;refine gD [20] ?_;refine cV (jy (p:=(aa.length+j+ab.length)*2) aB rfl rfl rfl rfl rfl (by omega) (by omega) (by show(aa.length+j+ab.length)*2=(a+j+((ab.length+1:Nat):Int)-1).toNat*2;omega)) rfl rfl ?_;refine wW (mq aB [u z.1,u z.2] r2 rfl rfl rfl rfl rfl (by show(aa.length+j+ab.length)*2<=R1.length;omega) mY rfl) rfl rfl (by kernel_rfl) ?_;refine bh ?_;refine cV (jy (p:=(aa.length+j+ab.length+1)*2) aB rfl rfl rfl rfl rfl (by omega) (by omega) (by show(aa.length+j+ab.length+1)*2=(a+j+((ab.length+1:Nat):Int)).toNat*2;omega)) rfl rfl ?_;refine wW (mq aB [u x.1,u x.2] r1 rfl rfl rfl rfl rfl (by show(aa.length+j+ab.length+1)*2<=R1.length;omega) jc rfl) rfl rfl (by kernel_rfl) ?_
   refine cV (jy (p:=(aa.length+j+ab.length+1)*2) aB rfl rfl rfl rfl rfl (by omega) (by omega) (by show(aa.length+j+ab.length+1)*2=(a+j+((ab.length+1:Nat):Int)).toNat*2;omega)) rfl rfl ?_;refine tW (aO:=R2) aB rfl rfl rfl rfl rfl rfl rfl rfl (xf (by show(aa.length+j+ab.length+1)*2+2<=R1.length;omega) ys) rfl rfl (.inl rfl) ?_;refine cV (jy (p:=(aa.length+j+ab.length)*2) aB rfl rfl rfl rfl rfl (by omega) (by omega) (by show(aa.length+j+ab.length)*2=(a+j+((ab.length+1:Nat):Int)-1).toNat*2;omega)) rfl rfl ?_;refine tW (aO:=bH (aa++P++(ab++x::(z::B))++ap) rest) aB rfl rfl rfl rfl rfl rfl rfl rfl (xf (by show(aa.length+j+ab.length)*2+2<=R2.length;omega) sx) rfl rfl (.inr (by kernel_rfl)) ?_;refine qg ?_;refine⟨(ab,z::B),by simp only;rw[rZ];simp,by simp only;omega,?_⟩;show bN _ _ ⟨[(17,u (a+j+ab.length)),(14,u (a+j)),(0,dL n c)],[(20,bH (aa++P++(ab++x::(z::B))++ap) rest)],[]⟩;rw[show a+(j:Int)+(ab.length:Int)=a+(j:Int)+((ab.length+1:Nat):Int)-1 by omega];exact eO (by(repeat(first|exact trivial|refine⟨⟨rfl,rfl⟩,?_⟩))) (by(repeat(first|exact trivial|refine⟨⟨rfl,rfl⟩,?_⟩|refine⟨⟨rfl,bF _ _⟩,?_⟩))) (by(repeat(first|exact trivial|refine⟨rfl,?_⟩))) (by(repeat(first|exact trivial|refine⟨rfl,?_⟩)))
structure BN(M1 M2:aZ)(s lo X af v:Nat):Prop where
 a:lo<=af
 b:af<=v
 c:v<=X
 l:af=lo\/∃x y,M1[af-1]?=some x/\M2[s-af]?=some y/\x.1<=y.1
 r:v=X\/∃x y,M1[v]?=some x/\M2[s-1-v]?=some y/\y.1<x.1
structure MC(na nb s lo X:Nat):Prop where
 a:lo<=X
 b:X<=na
 c:X<=s
 d:s<=lo+nb
 e:lo=0\/s=lo+nb
 f:X=na\/X=s
theorem Vy{M1 M2 aC al:aZ}{s lo X af:Nat}(h1:dZ M1)(A:dZ M2)(E:MC M1.length M2.length s lo X)(h:BN M1 M2 s lo X af af)(Z:jj (M1.take af++M2.take (s-af)) aC)(hR:jj (M1.drop af++M2.drop (s-af)) al):jj (M1++M2) (aC++al):=by
 have R:=h.a;have hr:=h.c;have e1:=E.b;have e2:=E.c;have e3:=E.d;have key:=adA (A1:=M1.take af) (A2:=M1.drop af) (B1:=M2.take (s-af)) (B2:=M2.drop (s-af)) (aC:=aC) (al:=al) (by rw[List.take_append_drop];exact h1) (by rw[List.take_append_drop];exact A) ?_ ?_ Z hR
 ·rw[List.take_append_drop,List.take_append_drop] at key;exact key
 ·intro x O y hy;rcases h.l with e|⟨x0,aep,k1,k2,k3⟩
  ·rcases E.e with Y|Y
   ·rw[e,Y] at O;simp at O
   ·rw[List.drop_of_length_le (by omega)] at hy;cases hy
  ·have hu:af≠0:=by
    intro e0;subst e0;simp at O
   have a1:=HE h1 k1 x (by rw[show af-1+1=af by omega];exact O);have a2:=E9 A k2 y hy;omega
 ·intro y hy x O;rcases h.r with e|⟨x0,aep,k1,k2,k3⟩
  ·rcases E.f with Y|Y
   ·rw[List.drop_of_length_le (by omega)] at O;cases O
   ·rw[show s-af=0 by omega] at hy;simp at hy
  ·rcases Nat.lt_or_ge af s with Zl|Zl
   ·have a1:=HE A k2 y (by rw[show s-1-af+1=s-af by omega];exact hy);have a2:=E9 h1 k1 x O;omega
   ·rw[show s-af=0 by omega] at hy;simp at hy
set_option maxHeartbeats 32000000 in
theorem Mn(rest:List G)(hp:fu rest)(n c:Nat)(ib:n<=100000):∀(N:Nat)(aa M1 M2 ap:aZ)(a m b:Int),M1.length+M2.length<=N->(aa++M1++M2++ap).length=n->dZ M1->dZ M2->0<M1.length->0<M2.length->a=aa.length->m=a+M1.length->b=m+M2.length->eo prog 138 [20] [dL n c,u a,u m,u b,eJ] [(20,bH (aa++M1++M2++ap) rest)] (λ d U=>d=.bg []/\∃dN,jj (M1++M2) dN/\U=[(20,bH (aa++dN++ap) rest)])
 |0,aa,M1,M2,ap,a,m,b,hN,hn,tu,xQ,WS,Oz,ha,hm,T=>by omega
 |N+1,aa,M1,M2,ap,a,m,b,hN,hn,tu,xQ,WS,Oz,ha,hm,T=>by
  have bF:∀{S:aZ}(B au:Nat->Bool),G.ok.eA B au (bH S rest)=true:=λ B au=>vm hp B au
  by_cases q1:M1.length=1
  ·match M1,q1 with
   |[x],_=>exact adP aa M2 ap x rest hp n c a m b hn ib xQ Oz ha (by simpa using hm) T
  by_cases q2:M2.length=1
  ·match M2,q2 with
   |[x],_=>exact adQ aa M1 ap x rest hp n c a m b hn ib tu (by omega) ha hm (by simpa using T)
  have IH:=Mn rest hp n c ib N;have nF:=hn;simp only[List.length_append] at hn;obtain⟨s,hs⟩:∃s,s=(M1.length+M2.length)/2:=⟨_,rfl⟩;refine sI func138 ntmps138 λ w cl own kf=>?_
  refine go ?_;rw[show decide (m-a=1)=false by rw[decide_eq_false_iff_not];omega];refine go ?_;rw[show decide (b-m=1)=false by rw[decide_eq_false_iff_not];omega];refine zU (zD (zM ?_));have hw:IntKind.i64.wrap (((a+b).toNat/2:Nat):Int)=a+s:=by rw[eI (by omega) (by omega)];omega
  refine zA (zB ?_);refine hZ ?_;rw[HL (by omega) (by omega)];refine bn (Hv rfl rfl) rfl rfl rfl ?_;refine hZ ?_;rw[hw];clear hw;refine zM (zA (zB ?_));refine hZ ?_;refine zM (zA (zB ?_));refine hZ ?_;refine zM ?_;refine Cd (dM:=Nat×Nat) (λ p=>⟨[(20,u (a+p.1)),(21,u (a+p.2)),(19,u (a+s+m)),(18,u (a+s)),(4,eJ),(3,u b),(2,u m),(1,u a),(0,dL n c)],[(20,bH (aa++M1++M2++ap) rest)],[]⟩) (λ p=>MC M1.length M2.length s p.1 p.2) ?_ ?_
  ·refine go ?_
   by_cases hg:s<M1.length
   ·rw[show decide (m>a+(s:Int))=true by rw[decide_eq_true_eq];omega];refine go ?_;refine⟨rfl,(s-M2.length,s),⟨by simp only;omega,by simp only;omega,by simp only;omega,by simp only;omega,.inr (by simp only;omega),.inr rfl⟩,?_⟩;simp only;rw[show a+((s-M2.length:Nat):Int)=a+(s:Int)+m-b by omega];exact eO (by(repeat(first|exact trivial|refine⟨⟨rfl,rfl⟩,?_⟩))) (by(repeat(first|exact trivial|refine⟨⟨rfl,rfl⟩,?_⟩|refine⟨⟨rfl,bF _ _⟩,?_⟩))) (by(repeat(first|exact trivial|refine⟨rfl,?_⟩))) (by(repeat(first|exact trivial|refine⟨rfl,?_⟩)))
   ·rw[show decide (m>a+(s:Int))=false by rw[decide_eq_false_iff_not];omega];refine go ?_;refine⟨rfl,(0,M1.length),⟨by simp only;omega,by simp only;omega,by simp only;omega,by simp only;omega,.inl rfl,.inl rfl⟩,?_⟩;simp only;rw[show a+((0:Nat):Int)=a by omega,<-hm];exact eO (by(repeat(first|exact trivial|refine⟨⟨rfl,rfl⟩,?_⟩))) (by(repeat(first|exact trivial|refine⟨⟨rfl,rfl⟩,?_⟩|refine⟨⟨rfl,bF _ _⟩,?_⟩))) (by(repeat(first|exact trivial|refine⟨rfl,?_⟩))) (by(repeat(first|exact trivial|refine⟨rfl,?_⟩)))
  rintro⟨lo,X⟩ E;simp only at E;refine(show aK _ _ _ _ ⟨[(20,u (a+lo)),(21,u (a+X)),(19,u (a+s+m)),(18,u (a+s)),(4,eJ),(3,u b),(2,u m),(1,u a),(0,dL n c)],[(20,bH (aa++M1++M2++ap) rest)],[]⟩ from ?_);have g1:=E.b;have g2:=E.c;have g3:=E.d;have g4:=E.a;refine zA (zB ?_);refine hZ ?_;refine zM ?_;refine Cd (dM:=Nat) (λ af=>⟨[(20,u (a+af)),(19,u (a+s+m)),(18,u (a+s)),(4,eJ),(3,u b),(2,u m),(1,u a),(0,dL n c)],[(20,bH (aa++M1++M2++ap) rest)],[]⟩) (λ af=>BN M1 M2 s lo X af af) ?_ ?_
  ·refine go ?_;refine bW (λ p:Nat×Nat=>BN M1 M2 s lo X p.1 p.2) (λ p=>⟨[(20,u (a+p.1)),(21,u (a+p.2)),(22,u (a+s+m-1)),(19,u (a+s+m)),(18,u (a+s)),(4,eJ),(3,u b),(2,u m),(1,u a),(0,dL n c)],[(20,bH (aa++M1++M2++ap) rest)],[]⟩) (λ p=>p.2-p.1) (lo,X) ⟨Nat.le_refl _,E.a,Nat.le_refl _,.inl rfl,.inl rfl⟩ (eO (by(repeat(first|exact trivial|refine⟨⟨rfl,rfl⟩,?_⟩))) (by(repeat(first|exact trivial|refine⟨⟨rfl,rfl⟩,?_⟩|refine⟨⟨rfl,bF _ _⟩,?_⟩))) (by(repeat(first|exact trivial|refine⟨rfl,?_⟩))) (by(repeat(first|exact trivial|refine⟨rfl,?_⟩)))) ?_;rintro⟨af,v⟩ hC;simp only at hC;refine(show aK _ _ _ _ ⟨[(20,u (a+af)),(21,u (a+v)),(22,u (a+s+m-1)),(19,u (a+s+m)),(18,u (a+s)),(4,eJ),(3,u b),(2,u m),(1,u a),(0,dL n c)],[(20,bH (aa++M1++M2++ap) rest)],[]⟩ from ?_);have g5:=hC.a;have g6:=hC.b;have g7:=hC.c;refine go ?_
   by_cases h1:af<v
   ·rw[show decide (a+(af:Int)<a+v)=true by rw[decide_eq_true_eq];omega];have hw:IntKind.i64.wrap (((a+(af:Int)+(a+v)).toNat/2:Nat):Int)=a+((af+v)/2:Nat):=by rw[eI (by omega) (by omega)];omega
    refine go ?_;rw[HL (by omega) (by omega)];refine bn (Hv rfl rfl) rfl rfl rfl ?_;refine go ?_;rw[hw];clear hw;have PG:af<=(af+v)/2/\(af+v)/2<v:=by omega
    generalize(af+v)/2=h at*;obtain⟨x,O⟩:∃x,M1[h]?=some x:=⟨M1[h]'(by omega),List.getElem?_eq_getElem _⟩;obtain⟨y,hy⟩:∃y,M2[s-1-h]?=some y:=⟨M2[s-1-h]'(by omega),List.getElem?_eq_getElem _⟩;have bO:(aa++M1++M2++ap)[aa.length+M1.length+(s-1-h)]?=some y:=Fs (P:=aa++M1) hy (by simp);have dj:(aa++M1++M2++ap)[aa.length+h]?=some x:=by rw[show aa++M1++M2++ap=aa++M1++(M2++ap) by simp];exact Fs O rfl
    have Zd:¬y.1<x.1->BN M1 M2 s lo X (h+1) v:=λ ba=>⟨by omega,by omega,g7,.inr ⟨x,y,by rw[show h+1-1=h by omega];exact O,by rw[show s-(h+1)=s-1-h by omega];exact hy,by omega⟩,hC.r⟩
    have Ze:y.1<x.1->BN M1 M2 s lo X af h:=λ ba=>⟨g5,by omega,by omega,hC.l,.inr ⟨x,y,O,hy,ba⟩⟩
    obtain⟨r1,jc⟩:=pf bO rest;obtain⟨r2,mY⟩:=pf dj rest;have sr:=rC (aa++M1++M2++ap) rest;have tE:=(List.getElem?_eq_some_iff.1 bO).1;have tF:=(List.getElem?_eq_some_iff.1 dj).1;have r9:=E2 y x;have ba:=IE y x;generalize sY y.1 x.1=cv at r9 ba;generalize qn:aa++M1++M2++ap=S1 at*;generalize ts:bH S1 rest=R1 at*;have wD:∀(B au:Nat->Bool),G.ok.eA B au R1=true:=λ B au=>by rw[<-ts];exact bF B au
    refine gD [] ?_;refine cV (jy (p:=(aa.length+M1.length+(s-1-h))*2) aB rfl rfl rfl rfl rfl (by omega) (by omega) (by show(aa.length+M1.length+(s-1-h))*2=(a+s+m-1-(a+h)).toNat*2;omega)) rfl rfl ?_;refine cV (mq aB [u y.1,u y.2] r1 rfl rfl rfl rfl rfl (by show(aa.length+M1.length+(s-1-h))*2<=R1.length;omega) jc rfl) rfl rfl ?_;refine bh ?_;refine cV (jy (p:=(aa.length+h)*2) aB rfl rfl rfl rfl rfl (by omega) (by omega) (by show(aa.length+h)*2=(a+h).toNat*2;omega)) rfl rfl ?_;refine cV (mq aB [u x.1,u x.2] r2 rfl rfl rfl rfl rfl (by show(aa.length+h)*2<=R1.length;omega) mY rfl) rfl rfl ?_;refine bh ?_;refine cV (vN r9 rfl (λ a w=>call85 a w) rfl rfl) rfl rfl ?_;refine qg ?_;rw[ba]
    by_cases A:y.1<x.1
    ·rw[show decide (y.1<x.1)=true from decide_eq_true A];refine go ?_;refine⟨(af,h),Ze A,by simp only;omega,?_⟩;show bN _ _ ⟨[(20,u (a+af)),(21,u (a+h)),(22,u (a+s+m-1)),(19,u (a+s+m)),(18,u (a+s)),(4,eJ),(3,u b),(2,u m),(1,u a),(0,dL n c)],[(20,R1)],[]⟩;exact eO (by(repeat(first|exact trivial|refine⟨⟨rfl,rfl⟩,?_⟩))) (by(repeat(first|exact trivial|refine⟨⟨rfl,rfl⟩,?_⟩|refine⟨⟨rfl,wD _ _⟩,?_⟩))) (by(repeat(first|exact trivial|refine⟨rfl,?_⟩))) (by(repeat(first|exact trivial|refine⟨rfl,?_⟩)))
    ·rw[show decide (y.1<x.1)=false from decide_eq_false A];refine go ?_;refine⟨(h+1,v),Zd A,by simp only;omega,?_⟩;show bN _ _ ⟨[(20,u (a+((h+1:Nat):Int))),(21,u (a+v)),(22,u (a+s+m-1)),(19,u (a+s+m)),(18,u (a+s)),(4,eJ),(3,u b),(2,u m),(1,u a),(0,dL n c)],[(20,R1)],[]⟩;rw[show a+((h+1:Nat):Int)=a+(h:Int)+1 by omega];exact eO (by(repeat(first|exact trivial|refine⟨⟨rfl,rfl⟩,?_⟩))) (by(repeat(first|exact trivial|refine⟨⟨rfl,rfl⟩,?_⟩|refine⟨⟨rfl,wD _ _⟩,?_⟩))) (by(repeat(first|exact trivial|refine⟨rfl,?_⟩))) (by(repeat(first|exact trivial|refine⟨rfl,?_⟩)))
   ·have Zn:v=af:=by omega
    subst Zn;rw[show decide (a+(v:Int)<a+v)=false by rw[decide_eq_false_iff_not];omega];refine go ?_;exact⟨rfl,v,hC,eO (by(repeat(first|exact trivial|refine⟨⟨rfl,rfl⟩,?_⟩))) (by(repeat(first|exact trivial|refine⟨⟨rfl,rfl⟩,?_⟩|refine⟨⟨rfl,bF _ _⟩,?_⟩))) (by(repeat(first|exact trivial|refine⟨rfl,?_⟩))) (by(repeat(first|exact trivial|refine⟨rfl,?_⟩)))⟩
  intro af hC;have g5:=hC.a;have g7:=hC.c;have kR:∀{aC al:aZ},jj (M1.take af++M2.take (s-af)) aC->jj (M1.drop af++M2.drop (s-af)) al->jj (M1++M2) (aC++al):=λ Z hR=>Vy tu xQ E hC Z hR
  have c1:=List.take_append_drop af M1;have c2:=List.take_append_drop (s-af) M2;have l1:(M1.take af).length=af:=by rw[List.length_take];omega
  have l2:(M2.take (s-af)).length=s-af:=by rw[List.length_take];omega
  have l3:(M1.drop af).length=M1.length-af:=List.length_drop ..;have afS:(M2.drop (s-af)).length=M2.length-(s-af):=List.length_drop ..;have u1:dZ (M1.take af):=by rw[<-c1] at tu;exact tu.left
  have u2:dZ (M1.drop af):=by rw[<-c1] at tu;exact tu.right
  have u3:dZ (M2.take (s-af)):=by rw[<-c2] at xQ;exact xQ.left
  have u4:dZ (M2.drop (s-af)):=by rw[<-c2] at xQ;exact xQ.right
  have su:aa++M1++M2++ap=aa++M1.take af++M1.drop af++M2.take (s-af)++M2.drop (s-af)++ap:=by rw[show aa++M1.take af++M1.drop af++M2.take (s-af)++M2.drop (s-af)++ap=aa++(M1.take af++M1.drop af)++(M2.take (s-af)++M2.drop (s-af))++ap by simp,c1,c2]
  rw[su];rw[su] at nF;clear su c1 c2 hC E;generalize M1.take af=A1 at*;generalize M1.drop af=A2 at*;generalize M2.take (s-af)=B1 at*;generalize M2.drop (s-af)=B2 at*;refine zA (zB ?_);refine hZ ?_;refine zM ?_;rw[show a+(s:Int)+m-(a+af)=m+s-af by omega];refine Cd (dM:=Unit) (λ _=>⟨[(24,u (m+s-af)),(20,u (a+af)),(18,u (a+s)),(4,eJ),(3,u b),(2,u m),(1,u a),(0,dL n c)],[(20,bH (aa++A1++B1++(A2++B2++ap)) rest)],[]⟩) (λ _=>True) ?_ ?_
  ·refine go ?_
   by_cases k1:af<M1.length
   ·rw[show decide (a+(af:Int)<m)=true by rw[decide_eq_true_eq];omega];refine go ?_
    by_cases k2:af<s
    ·rw[show decide (m<m+(s:Int)-af)=true by rw[decide_eq_true_eq];omega];have hr:=ac0 (aa++A1) A2 B1 (B2++ap) rest hp n c (a+af) m (m+s-af) (by rw[<-nF];simp) ib (by omega) (by omega) (by simp;omega) (by omega) (by omega);rw[show aa++A1++A2++B1++(B2++ap)=aa++A1++A2++B1++B2++ap by simp,show aa++A1++B1++A2++(B2++ap)=aa++A1++B1++(A2++B2++ap) by simp] at hr;refine go ?_;refine hJ hr rfl (λ a w=>call183 a w) rfl rfl ⟨⟨rfl,bF _ _⟩,trivial⟩ (by(repeat(first|exact trivial|refine⟨.inr rfl,?_⟩|refine⟨.inl rfl,?_⟩))) rfl rfl rfl rfl ?_ ?_
     ·rintro d U ⟨rfl,rfl⟩;exact⟨.inl rfl,trivial⟩
     rintro d U ⟨rfl,rfl⟩;refine go ?_;exact⟨rfl,(),trivial,eO (by(repeat(first|exact trivial|refine⟨⟨rfl,rfl⟩,?_⟩))) (by(repeat(first|exact trivial|refine⟨⟨rfl,rfl⟩,?_⟩|refine⟨⟨rfl,bF _ _⟩,?_⟩))) (by(repeat(first|exact trivial|refine⟨rfl,?_⟩))) (by(repeat(first|exact trivial|refine⟨rfl,?_⟩)))⟩
    ·have:B1=[]:=List.length_eq_zero_iff.1 (by omega);subst this;rw[show decide (m<m+(s:Int)-af)=false by rw[decide_eq_false_iff_not];omega];refine go ?_;refine⟨rfl,(),trivial,?_⟩;rw[show aa++A1++A2++[]++B2++ap=aa++A1++[]++(A2++B2++ap) by simp];exact eO (by(repeat(first|exact trivial|refine⟨⟨rfl,rfl⟩,?_⟩))) (by(repeat(first|exact trivial|refine⟨⟨rfl,rfl⟩,?_⟩|refine⟨⟨rfl,bF _ _⟩,?_⟩))) (by(repeat(first|exact trivial|refine⟨rfl,?_⟩))) (by(repeat(first|exact trivial|refine⟨rfl,?_⟩)))
   ·have:A2=[]:=List.length_eq_zero_iff.1 (by omega);subst this;rw[show decide (a+(af:Int)<m)=false by rw[decide_eq_false_iff_not];omega];refine go ?_;refine⟨rfl,(),trivial,?_⟩;rw[show aa++A1++[]++B1++B2++ap=aa++A1++B1++([]++B2++ap) by simp];exact eO (by(repeat(first|exact trivial|refine⟨⟨rfl,rfl⟩,?_⟩))) (by(repeat(first|exact trivial|refine⟨⟨rfl,rfl⟩,?_⟩|refine⟨⟨rfl,bF _ _⟩,?_⟩))) (by(repeat(first|exact trivial|refine⟨rfl,?_⟩))) (by(repeat(first|exact trivial|refine⟨rfl,?_⟩)))
  intro _ _;have afA:aa.length+A1.length+B1.length+(A2.length+B2.length+ap.length)=n:=by rw[<-nF];simp;omega
  refine Cd (dM:=aZ) (λ aC=>⟨[(24,u (m+s-af)),(20,u (a+af)),(18,u (a+s)),(4,eJ),(3,u b),(2,u m),(1,u a),(0,dL n c)],[(20,bH (aa++aC++A2++B2++ap) rest)],[]⟩) (λ aC=>jj (A1++B1) aC) ?_ ?_
  ·refine go ?_
   by_cases k1:0<af
   ·rw[show decide (a<a+(af:Int))=true by rw[decide_eq_true_eq];omega];refine go ?_
    by_cases k2:af<s
    ·rw[show decide (a+(af:Int)<a+s)=true by rw[decide_eq_true_eq];omega];have hr:=IH aa A1 B1 (A2++B2++ap) a (a+af) (a+s) (by omega) (by simp;omega) u1 u3 (by omega) (by omega) ha (by omega) (by omega);refine go ?_;refine hJ hr rfl (λ a w=>call138 a w) rfl rfl ⟨⟨rfl,bF _ _⟩,trivial⟩ (by(repeat(first|exact trivial|refine⟨.inr rfl,?_⟩|refine⟨.inl rfl,?_⟩))) rfl rfl rfl rfl ?_ ?_
     ·rintro d U ⟨rfl,aC,_,rfl⟩;exact⟨.inl rfl,trivial⟩
     rintro d U ⟨rfl,aC,Z,rfl⟩;refine go ?_;refine⟨rfl,aC,Z,?_⟩;rw[show aa++aC++A2++B2++ap=aa++aC++(A2++B2++ap) by simp];exact eO (by(repeat(first|exact trivial|refine⟨⟨rfl,rfl⟩,?_⟩))) (by(repeat(first|exact trivial|refine⟨⟨rfl,rfl⟩,?_⟩|refine⟨⟨rfl,bF _ _⟩,?_⟩))) (by(repeat(first|exact trivial|refine⟨rfl,?_⟩))) (by(repeat(first|exact trivial|refine⟨rfl,?_⟩)))
    ·have:B1=[]:=List.length_eq_zero_iff.1 (by omega);subst this;rw[show decide (a+(af:Int)<a+s)=false by rw[decide_eq_false_iff_not];omega];refine go ?_;refine⟨rfl,A1,SP u1,?_⟩;rw[show aa++A1++[]++(A2++B2++ap)=aa++A1++A2++B2++ap by simp];exact eO (by(repeat(first|exact trivial|refine⟨⟨rfl,rfl⟩,?_⟩))) (by(repeat(first|exact trivial|refine⟨⟨rfl,rfl⟩,?_⟩|refine⟨⟨rfl,bF _ _⟩,?_⟩))) (by(repeat(first|exact trivial|refine⟨rfl,?_⟩))) (by(repeat(first|exact trivial|refine⟨rfl,?_⟩)))
   ·have:A1=[]:=List.length_eq_zero_iff.1 (by omega);subst this;rw[show decide (a<a+(af:Int))=false by rw[decide_eq_false_iff_not];omega];refine go ?_;refine⟨rfl,B1,SO u3,?_⟩;rw[show aa++[]++B1++(A2++B2++ap)=aa++B1++A2++B2++ap by simp];exact eO (by(repeat(first|exact trivial|refine⟨⟨rfl,rfl⟩,?_⟩))) (by(repeat(first|exact trivial|refine⟨⟨rfl,rfl⟩,?_⟩|refine⟨⟨rfl,bF _ _⟩,?_⟩))) (by(repeat(first|exact trivial|refine⟨rfl,?_⟩))) (by(repeat(first|exact trivial|refine⟨rfl,?_⟩)))
  intro aC Z;have Xa:=Z.len;simp only[List.length_append] at Xa;refine go ?_
  by_cases k1:af<M1.length
  ·rw[show decide (a+(s:Int)<m+s-af)=true by rw[decide_eq_true_eq];omega];refine go ?_
   by_cases k2:s-af<M2.length
   ·rw[show decide (m+(s:Int)-af<b)=true by rw[decide_eq_true_eq];omega];have hr:=IH (aa++aC) A2 B2 ap (a+s) (m+s-af) b (by omega) (by simp;omega) u2 u4 (by omega) (by omega) (by simp;omega) (by omega) (by omega);refine go ?_;refine hJ hr rfl (λ a w=>call138 a w) rfl rfl ⟨⟨rfl,bF _ _⟩,trivial⟩ (by(repeat(first|exact trivial|refine⟨.inr rfl,?_⟩|refine⟨.inl rfl,?_⟩))) rfl rfl rfl rfl ?_ ?_
    ·rintro d U ⟨rfl,al,_,rfl⟩;exact⟨.inl rfl,trivial⟩
    rintro d U ⟨rfl,al,hR,rfl⟩;refine go ?_;refine jR (d:=.bg []) [(20,bH (aa++aC++al++ap) rest)] ?_ rfl ⟨⟨rfl,bF _ _⟩,trivial⟩ ⟨rfl,trivial⟩ ⟨rfl,aC++al,kR Z hR,by simp⟩
    rfl
   ·have:B2=[]:=List.length_eq_zero_iff.1 (by omega);subst this;rw[show decide (m+(s:Int)-af<b)=false by rw[decide_eq_false_iff_not];omega];refine go ?_;refine jR (d:=.bg []) [(20,bH (aa++aC++A2++[]++ap) rest)] ?_ rfl ⟨⟨rfl,bF _ _⟩,trivial⟩ ⟨rfl,trivial⟩ ⟨rfl,aC++A2,kR Z (SP u2),by simp⟩
    rfl
  ·have:A2=[]:=List.length_eq_zero_iff.1 (by omega);subst this;rw[show decide (a+(s:Int)<m+s-af)=false by rw[decide_eq_false_iff_not];omega];refine go ?_;refine jR (d:=.bg []) [(20,bH (aa++aC++[]++B2++ap) rest)] ?_ rfl ⟨⟨rfl,bF _ _⟩,trivial⟩ ⟨rfl,trivial⟩ ⟨rfl,aC++B2,kR Z (SO u4),by simp⟩
   rfl
set_option maxHeartbeats 32000000 in
theorem adF(S0:aZ)(rest:List G)(hp:fu rest)(n c:Nat)(hn:S0.length=n)(ib:n<=100000):eo prog 110 [20] [dL n c,u n,eJ] [(20,bH S0 rest)] (λ d U=>d=.bg []/\∃S,jj S0 S/\U=[(20,bH S rest)]):=by
 have bF:∀{S:aZ}(B au:Nat->Bool),G.ok.eA B au (bH S rest)=true:=λ B au=>vm hp B au
 refine sI func110 ntmps110 λ w cl own kf=>?_
 refine go ?_;refine bW (λ p:aZ×aZ=>oK 20 p.1/\gq S0 (p.1++p.2)/\p.1.length+p.2.length=n) (λ p=>⟨[(8,u ((p.1.length:Int)+20)),(7,u p.1.length),(6,u 20),(0,dL n c),(1,u n),(2,eJ)],[(20,bH (p.1++p.2) rest)],[]⟩) (λ p=>p.2.length) ([],S0) ⟨.nil,.refl _,by simp;omega⟩ (by show bN _ _ ⟨[(8,u 20),(7,u 0),(6,u 20),(0,dL n c),(1,u n),(2,eJ)],[(20,bH S0 rest)],[]⟩;exact eO (by(repeat(first|exact trivial|refine⟨⟨rfl,rfl⟩,?_⟩))) (by(repeat(first|exact trivial|refine⟨⟨rfl,rfl⟩,?_⟩|refine⟨⟨rfl,bF _ _⟩,?_⟩))) (by(repeat(first|exact trivial|refine⟨rfl,?_⟩))) (by(repeat(first|exact trivial|refine⟨rfl,?_⟩)))) ?_;rintro⟨aH,al⟩ ⟨hD,hF,R⟩;simp only at hD hF R;refine(show aK _ _ _ _ ⟨[(8,u ((aH.length:Int)+20)),(7,u aH.length),(6,u 20),(0,dL n c),(1,u n),(2,eJ)],[(20,bH (aH++al) rest)],[]⟩ from ?_);refine go ?_
 by_cases h1:20<=al.length
 ·rw[show decide ((aH.length:Int)+20<=n)=true by rw[decide_eq_true_eq];omega];have c1:=List.take_append_drop 20 al;have l1:(al.take 20).length=20:=by rw[List.length_take];omega
  have l2:(al.drop 20).length=al.length-20:=List.length_drop ..;generalize al.take 20=av at*;generalize al.drop 20=R2 at*;subst c1;have hI:=QI aH av R2 rest hp n c aH.length ((aH.length:Int)+20) (by simp;omega) ib rfl (by omega);rw[List.append_assoc] at hI;refine go ?_;refine hJ hI rfl (λ a w=>call137 a w) rfl rfl ⟨⟨rfl,bF _ _⟩,trivial⟩ (by(repeat(first|exact trivial|refine⟨.inr rfl,?_⟩|refine⟨.inl rfl,?_⟩))) rfl rfl rfl rfl ?_ ?_
  ·rintro d U ⟨rfl,dN,_,rfl⟩;exact⟨.inl rfl,trivial⟩
  rintro d U ⟨rfl,dN,hM,rfl⟩;have mV:=hM.len;refine go ?_;refine⟨(aH++dN,R2),⟨hD.snoc (by omega) hM.up,?_,by simp only[List.length_append];omega⟩,by simp only;omega,?_⟩
  ·have:=hF.trans ((gq.refl aH).app (hM.px.app (.refl R2)))
   simpa using this
  ·show bN _ _ ⟨[(8,u (((aH++dN).length:Int)+20)),(7,u (aH++dN).length),(6,u 20),(0,dL n c),(1,u n),(2,eJ)],[(20,bH (aH++dN++R2) rest)],[]⟩;rw[show(((aH++dN).length:Nat):Int)=(aH.length:Int)+20 by simp;omega];exact eO (by(repeat(first|exact trivial|refine⟨⟨rfl,rfl⟩,?_⟩))) (by(repeat(first|exact trivial|refine⟨⟨rfl,rfl⟩,?_⟩|refine⟨⟨rfl,bF _ _⟩,?_⟩))) (by(repeat(first|exact trivial|refine⟨rfl,?_⟩))) (by(repeat(first|exact trivial|refine⟨rfl,?_⟩)))
 ·rw[show decide ((aH.length:Int)+20<=n)=false by rw[decide_eq_false_iff_not];omega];have hI:=QI aH al [] rest hp n c aH.length n (by simp;omega) ib rfl (by omega);simp only[List.append_nil] at hI;refine go ?_;refine hJ hI rfl (λ a w=>call137 a w) rfl rfl ⟨⟨rfl,bF _ _⟩,trivial⟩ (by(repeat(first|exact trivial|refine⟨.inr rfl,?_⟩|refine⟨.inl rfl,?_⟩))) rfl rfl rfl rfl ?_ ?_
  ·rintro d U ⟨rfl,dN,_,rfl⟩;exact⟨.inl rfl,trivial⟩
  rintro d U ⟨rfl,dN,hM,rfl⟩;have mV:=hM.len;have As:gq S0 (aH++dN):=hF.trans ((gq.refl aH).app hM.px);have Jq:sT 20 aH dN:=⟨hD,hM.up,by omega⟩;have dJ:aH.length+dN.length=n:=by omega
  clear hF hM mV h1 hI hD R;refine go ?_;refine bW (λ p:Nat×aZ×aZ=>0<p.1/\sT p.1 p.2.1 p.2.2/\gq S0 (p.2.1++p.2.2)/\p.2.1.length+p.2.2.length=n) (λ p=>⟨[(6,u p.1),(0,dL n c),(1,u n),(2,eJ)],[(20,bH (p.2.1++p.2.2) rest)],[]⟩) (λ p=>n-p.1) (20,aH,dN) ⟨by simp only;omega,Jq,As,dJ⟩ (by show bN _ _ ⟨[(6,u 20),(0,dL n c),(1,u n),(2,eJ)],[(20,bH (aH++dN) rest)],[]⟩;exact eO (by(repeat(first|exact trivial|refine⟨⟨rfl,rfl⟩,?_⟩))) (by(repeat(first|exact trivial|refine⟨⟨rfl,rfl⟩,?_⟩|refine⟨⟨rfl,bF _ _⟩,?_⟩))) (by(repeat(first|exact trivial|refine⟨rfl,?_⟩))) (by(repeat(first|exact trivial|refine⟨rfl,?_⟩)))) ?_;clear As Jq dJ;rintro⟨k,aH,al⟩ ⟨I,hR,hF,R⟩;simp only at I hR hF R;refine(show aK _ _ _ _ ⟨[(6,u k),(0,dL n c),(1,u n),(2,eJ)],[(20,bH (aH++al) rest)],[]⟩ from ?_);refine go ?_
  by_cases h1:k<n
  ·rw[show decide ((k:Int)<n)=true by rw[decide_eq_true_eq];omega];refine go ?_;rw[show IntKind.i64.wrap (2*(k:Int))=2*(k:Int) from eI (by omega) (by omega)];refine bW (λ p:aZ×aZ×aZ=>oK (2*k) p.1/\sT k p.2.1 p.2.2/\gq S0 (p.1++(p.2.1++p.2.2))/\p.1.length+p.2.1.length+p.2.2.length=n) (λ p=>⟨[(8,u ((p.1.length:Int)+2*k)),(7,u p.1.length),(6,u k),(0,dL n c),(1,u n),(2,eJ)],[(20,bH (p.1++(p.2.1++p.2.2)) rest)],[]⟩) (λ p=>p.2.1.length) ([],aH,al) ⟨.nil,hR,hF,by simp;omega⟩ (by show bN _ _ ⟨[(8,u (((0:Nat):Int)+2*k)),(7,u 0),(6,u k),(0,dL n c),(1,u n),(2,eJ)],[(20,bH (aH++al) rest)],[]⟩;rw[show((0:Nat):Int)+2*(k:Int)=2*(k:Int) by omega];exact eO (by(repeat(first|exact trivial|refine⟨⟨rfl,rfl⟩,?_⟩))) (by(repeat(first|exact trivial|refine⟨⟨rfl,rfl⟩,?_⟩|refine⟨⟨rfl,bF _ _⟩,?_⟩))) (by(repeat(first|exact trivial|refine⟨rfl,?_⟩))) (by(repeat(first|exact trivial|refine⟨rfl,?_⟩)))) ?_;clear hR hF R;rintro⟨aJ,aH,al⟩ ⟨E,hR,hF,R⟩;simp only at E hR hF R;refine(show aK _ _ _ _ ⟨[(8,u ((aJ.length:Int)+2*k)),(7,u aJ.length),(6,u k),(0,dL n c),(1,u n),(2,eJ)],[(20,bH (aJ++(aH++al)) rest)],[]⟩ from ?_);refine go ?_
   by_cases A:2*k<=(aH++al).length
   ·have bs:=A;rw[List.length_append] at bs;rw[show decide ((aJ.length:Int)+2*k<=n)=true by rw[decide_eq_true_eq];omega];obtain⟨ab,B,D3,rfl,hA,hB,ad6,ad7,Xf⟩:=hR.two I A;simp only[List.length_append] at R;have hI:=Mn rest hp n c ib (ab.length+B.length) aJ ab B (D3++al) aJ.length ((aJ.length:Int)+k) ((aJ.length:Int)+2*k) (Nat.le_refl _) (by simp;omega) ad6 ad7 (by omega) (by omega) rfl (by omega) (by omega);rw[show aJ++ab++B++(D3++al)=aJ++(ab++(B++D3)++al) by simp] at hI;refine go ?_;refine hJ hI rfl (λ a w=>call138 a w) rfl rfl ⟨⟨rfl,bF _ _⟩,trivial⟩ (by(repeat(first|exact trivial|refine⟨.inr rfl,?_⟩|refine⟨.inl rfl,?_⟩))) rfl rfl rfl rfl ?_ ?_
    ·rintro d U ⟨rfl,dN,_,rfl⟩;exact⟨.inl rfl,trivial⟩
    rintro d U ⟨rfl,dN,hM,rfl⟩;have mV:=hM.len;simp only[List.length_append] at mV;refine go ?_;simp(disch:=omega) only[eI];refine⟨(aJ++dN,D3,al),⟨E.snoc (by omega) hM.up,Xf,?_,by simp only[List.length_append];omega⟩,by simp only[List.length_append];omega,?_⟩
    ·have:=hF.trans (((gq.refl aJ).app (hM.px.app (.refl (D3++al))))|>λ h=>by simpa using h)
     simpa using this
    ·show bN _ _ ⟨[(8,u (((aJ++dN).length:Int)+2*k)),(7,u (aJ++dN).length),(6,u k),(0,dL n c),(1,u n),(2,eJ)],[(20,bH (aJ++dN++(D3++al)) rest)],[]⟩;rw[show(((aJ++dN).length:Nat):Int)=(aJ.length:Int)+2*k by simp;omega];exact eO (by(repeat(first|exact trivial|refine⟨⟨rfl,rfl⟩,?_⟩))) (by(repeat(first|exact trivial|refine⟨⟨rfl,rfl⟩,?_⟩|refine⟨⟨rfl,bF _ _⟩,?_⟩))) (by(repeat(first|exact trivial|refine⟨rfl,?_⟩))) (by(repeat(first|exact trivial|refine⟨rfl,?_⟩)))
   ·have bs:=A;rw[List.length_append] at bs;rw[show decide ((aJ.length:Int)+2*k<=n)=false by rw[decide_eq_false_iff_not];omega];refine go ?_
    by_cases K:k<(aH++al).length
    ·obtain⟨ae5,ad8,Jq⟩:=hR.rest I K (by omega);have dc:=K;rw[List.length_append] at dc;rw[show decide ((aJ.length:Int)+k<n)=true by rw[decide_eq_true_eq];omega];have hI:=Mn rest hp n c ib (aH.length+al.length) aJ aH al [] aJ.length ((aJ.length:Int)+k) n (Nat.le_refl _) (by simp;omega) ad8 hR.up (by omega) (by omega) rfl (by omega) (by omega);simp only[List.append_nil] at hI;rw[show aJ++aH++al=aJ++(aH++al) by simp] at hI;refine go ?_;refine hJ hI rfl (λ a w=>call138 a w) rfl rfl ⟨⟨rfl,bF _ _⟩,trivial⟩ (by(repeat(first|exact trivial|refine⟨.inr rfl,?_⟩|refine⟨.inl rfl,?_⟩))) rfl rfl rfl rfl ?_ ?_
     ·rintro d U ⟨rfl,dN,_,rfl⟩;exact⟨.inl rfl,trivial⟩
     rintro d U ⟨rfl,dN,hM,rfl⟩;have mV:=hM.len;rw[List.length_append] at mV;refine go ?_;rw[show IntKind.i64.wrap ((k:Int)*2)=2*(k:Int) by rw[eI (by omega) (by omega)];omega];refine go ?_;refine⟨(2*k,aJ,dN),⟨by simp only;omega,⟨E,hM.up,by simp only;omega⟩,hF.trans ((gq.refl aJ).app hM.px),by simp only;omega⟩,by simp only;omega,?_⟩;show bN _ _ ⟨[(6,u ((2*k:Nat):Int)),(0,dL n c),(1,u n),(2,eJ)],[(20,bH (aJ++dN) rest)],[]⟩;rw[show((2*k:Nat):Int)=2*(k:Int) by omega];exact eO (by(repeat(first|exact trivial|refine⟨⟨rfl,rfl⟩,?_⟩))) (by(repeat(first|exact trivial|refine⟨⟨rfl,rfl⟩,?_⟩|refine⟨⟨rfl,bF _ _⟩,?_⟩))) (by(repeat(first|exact trivial|refine⟨rfl,?_⟩))) (by(repeat(first|exact trivial|refine⟨rfl,?_⟩)))
    ·have dc:=K;rw[List.length_append] at dc;rw[show decide ((aJ.length:Int)+k<n)=false by rw[decide_eq_false_iff_not];omega];have yl:=hR.one (by omega);refine go ?_;rw[show IntKind.i64.wrap ((k:Int)*2)=2*(k:Int) by rw[eI (by omega) (by omega)];omega];refine go ?_;refine⟨(2*k,aJ,aH++al),⟨by simp only;omega,⟨E,yl,by simp only[List.length_append];omega⟩,hF,by simp only[List.length_append];omega⟩,by simp only;omega,?_⟩;show bN _ _ ⟨[(6,u ((2*k:Nat):Int)),(0,dL n c),(1,u n),(2,eJ)],[(20,bH (aJ++(aH++al)) rest)],[]⟩;rw[show((2*k:Nat):Int)=2*(k:Int) by omega];exact eO (by(repeat(first|exact trivial|refine⟨⟨rfl,rfl⟩,?_⟩))) (by(repeat(first|exact trivial|refine⟨⟨rfl,rfl⟩,?_⟩|refine⟨⟨rfl,bF _ _⟩,?_⟩))) (by(repeat(first|exact trivial|refine⟨rfl,?_⟩))) (by(repeat(first|exact trivial|refine⟨rfl,?_⟩)))
  ·rw[show decide ((k:Int)<n)=false by rw[decide_eq_false_iff_not];omega];refine go ?_;refine jR (d:=.bg []) [(20,bH (aH++al) rest)] ?_ rfl ⟨⟨rfl,bF _ _⟩,trivial⟩ ⟨rfl,trivial⟩ ⟨rfl,aH++al,⟨by rw[List.length_append];omega,hR.one (by rw[List.length_append];omega),hF⟩,rfl⟩
   rfl
theorem adv(S0:aZ)(rest:List G)(hp:fu rest)(n c:Nat)(hn:S0.length=n)(L:n<=100000):eo prog 84 [20] [dL n c,eJ] [(20,bH S0 rest)] (λ d U=>d=.bg []/\∃S,jj S0 S/\U=[(20,bH S rest)]):=by
 have bF:∀{S:aZ}(B au:Nat->Bool),G.ok.eA B au (bH S rest)=true:=λ B au=>vm hp B au
 have hI:=adF S0 rest hp n c hn L;refine sI func84 ntmps84 λ w cl own kf=>?_
 refine go ?_;refine hJ hI rfl (λ a w=>call110 a w) rfl rfl ⟨⟨rfl,bF _ _⟩,trivial⟩ (by(repeat(first|exact trivial|refine⟨.inr rfl,?_⟩|refine⟨.inl rfl,?_⟩))) rfl rfl rfl rfl ?_ ?_
 ·rintro d U ⟨rfl,S,_,rfl⟩;exact⟨.inl rfl,trivial⟩
 rintro d U ⟨rfl,S,hS,rfl⟩;refine go ?_;refine jR (d:=.bg []) [(20,bH S rest)] ?_ rfl ⟨⟨rfl,bF _ _⟩,trivial⟩ ⟨rfl,trivial⟩ ⟨rfl,S,hS,rfl⟩
 rfl
end Go.Proofs.YtcnefjfboagbmaaGreat
