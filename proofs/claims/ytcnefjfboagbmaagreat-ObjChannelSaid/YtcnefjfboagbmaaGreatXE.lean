/- What a map has: its walk, where it has nothing. -/
import Derived.Test.YtcnefjfboagbmaaGreatWE
import Derived.Test.YtcnefjfboagbmaaGreatWB
import Derived.Test.YtcnefjfboagbmaaGreatPA
import Derived.Test.YtcnefjfboagbmaaGreatWA
namespace Go.Proofs.YtcnefjfboagbmaaGreat
open Go.Proofs.Tryz
open Go.RowKit
set_option maxRecDepth 100000
theorem Ow(a:Int):IntKind.i64.wrap (((BitVec.ofInt 64 a&&&BitVec.ofInt 64 1).toNat:Nat):Int)=a%2:=Ox a 1 (by omega)
abbrev Gx:K:=.fn (.func 85) [] []
theorem aa4:eI prog 137 [] [.p (.sl true 0 []),E 0,E 0,Gx] [] (λ d Y=>d=.bd []/\Y=[]):=by
 refine sI func137 ntmps137 λ w cl own kf=>?_
 refine go ?_;refine cn (λ _:Unit=>True) (λ _=>⟨[(8,E 1),(2,E 0)],[],[]⟩) (λ _=>0) () trivial (zX) ?_;intro _ _;refine go ?_;rw[show decide ((1:Int)<0)=false from rfl];refine go ?_;refine km (d:=.bd []) [] ?_ rfl trivial trivial ⟨rfl,rfl⟩
 rfl
theorem afg:eI prog 110 [] [.p (.sl true 0 []),E 0,Gx] [] (λ d Y=>d=.bd []/\Y=[]):=by
 refine sI func110 ntmps110 λ w cl own kf=>?_
 refine go ?_;refine cn (λ _:Unit=>True) (λ _=>⟨[(8,E 20),(7,E 0),(6,E 20),(0,.p (.sl true 0 [])),(1,E 0),(2,Gx)],[],[]⟩) (λ _=>0) () trivial (zX) ?_;intro _ _;refine go ?_;rw[show decide ((20:Int)<=0)=false from rfl];refine go ?_;refine il (aa4) rfl (λ a w=>call137 a w) rfl rfl (by(repeat(first|exact trivial|refine⟨⟨rfl,rfl⟩,?_⟩))) (by(repeat(first|exact trivial|refine⟨.inr rfl,?_⟩|refine⟨.inl rfl,?_⟩))) rfl rfl rfl rfl ?_ ?_
 ·rintro d Y ⟨rfl,rfl⟩;exact trivial
 rintro d Y ⟨rfl,rfl⟩;refine go ?_;refine cn (λ _:Unit=>True) (λ _=>⟨[(6,E 20),(1,E 0)],[],[]⟩) (λ _=>0) () trivial (zX) ?_;intro _ _;refine go ?_;rw[show decide ((20:Int)<0)=false from rfl];refine go ?_;refine km (d:=.bd []) [] ?_ rfl trivial trivial ⟨rfl,rfl⟩
 rfl
theorem ae8:eI prog 84 [] [.p (.sl true 0 []),Gx] [] (λ d Y=>d=.bd []/\Y=[]):=by
 refine sI func84 ntmps84 λ w cl own kf=>?_
 refine go ?_;refine il (afg) rfl (λ a w=>call110 a w) rfl rfl (by(repeat(first|exact trivial|refine⟨⟨rfl,rfl⟩,?_⟩))) (by(repeat(first|exact trivial|refine⟨.inr rfl,?_⟩|refine⟨.inl rfl,?_⟩))) rfl rfl rfl rfl ?_ ?_
 ·rintro d Y ⟨rfl,rfl⟩;exact trivial
 rintro d Y ⟨rfl,rfl⟩;refine go ?_;refine km (d:=.bd []) [] ?_ rfl trivial trivial ⟨rfl,rfl⟩
 rfl
theorem Wz{d7:Type}{P:Program}{Γ:bN}{Q:Exit->St->Prop}{c:Code}{M:St}(x:Exit)(bb:d7->St)(ok:d7->Prop)(h:aP P Γ c (λ ex cb=>ex=x/\∃i,ok i/\bY Γ cb (bb i)) M)(k:∀cb i,ok i->bY Γ cb (bb i)->Q x cb):aP P Γ c Q M:=
 wM h λ ex cb hh=>by
  obtain⟨rfl,i,hi,hg⟩:=hh;exact k cb i hi hg
section
variable{P:Program}{ap:Nat->Option TI}{n:Nat}{B B0:List (Nat×List K)}{aG:St->Prop}{ay:List Nat}{aE:List (Nat×Nat)}{ix:Nat}{o:Oper}{l0 l:List Oper}{s:List (Nat×K)}{b:List (Nat×List K)}{g:List (Nat×Gr)}{t nm:Nat}{d:K}
theorem xN(hq:dN P o (kv s) (kv B0) d none)(hg:gd l0 o (kv s)=some true)(D:o.dst=some t)(he:Bd l0 o=true)(h:cJ P n l0 B B0 aG (ix+1) ay aE l ⟨(t,d)::s,b,g⟩):cJ P n l0 B B0 aG ix ay aE (o::l) ⟨s,b,g⟩:=
 .inl ⟨d,none,hg,.inr ⟨he,hq⟩,λ p hp=>(by cases hp),by rw[D];exact h⟩
theorem x7{cs aS ds:List K}{of:Nat}(h:of+ds.length<=cs.length)(cR:stored cs of ds=aS):tD cs of (.agg ds) some=some aS:=by
 subst cR;have A:∀(k:List K->Option (List K)),mD of cs k=k (cs.take of):=λ k=>by
  have:=NB (cs.take of) (cs.drop of) k;rw[List.take_append_drop,List.length_take,Nat.min_eq_left (by omega)] at this;exact this
 unfold tD;rw[uZ,A,Do of cs _ (by omega),Do _ _ _ (by rw[List.length_drop];show ds.length<=_;omega),rC,rC,List.drop_drop];unfold stored;rw[List.append_assoc]
 rfl
end
abbrev bM(S:bL)(rest:List K):List K:=S.flatMap (λ x=>[E x.1,E x.2])++rest
theorem sm(S:bL)(rest:List K):(bM S rest).length=S.length*2+rest.length:=by
 induction S with
 |nil=>simp[bM]
 |cons y S ih=>show(bM S rest).length+2=_;rw[ih,List.length_cons];omega
theorem pL{S:bL}{i:Nat}{x:Int×Int}(h:S[i]?=some x)(rest:List K):∃r,(bM S rest).drop (i*2)=[E x.1,E x.2]++r:=by
 induction S generalizing i with
 |nil=>simp at h
 |cons y S ih=>
  cases i with
  |zero=>simp at h;subst h;exact⟨_,rfl⟩
  |succ i=>
   obtain⟨r,hr⟩:=ih (i:=i) (by simpa using h);refine⟨r,?_⟩;rw[<-hr,show(i+1)*2=i*2+2 by omega]
   rfl
theorem xT{S:bL}{i:Nat}(x:Int×Int)(h:i<S.length)(rest:List K):stored (bM S rest) (i*2) [E x.1,E x.2]=bM (S.set i x) rest:=by
 induction S generalizing i with
 |nil=>simp at h
 |cons y S ih=>
  cases i with
  |zero=>rfl
  |succ i=>
   have:=ih (i:=i) (by simpa using h);rw[List.set_cons_succ];show _=E y.1::E y.2::bM (S.set i x) rest;rw[<-this,show(i+1)*2=i*2+2 by omega]
   rfl
theorem wl{S:bL}{rest:List K}(h:fy rest):fy (bM S rest):=by
 intro B au;induction S with
 |nil=>exact h B au
 |cons y S ih=>exact ih
theorem RM(x:Int):bc prog 111 [E x] (dB false):=by
 refine sP func111 ntmps111 λ w cl=>?_
 refine gf ?_;simp
abbrev eV:K:=.fn (.func 85) [] []
abbrev tP(x y:Int):Int:=if x<y then-1 else if y<x then 1 else 0
theorem W2(x y:Int):bc prog 86 [E x,E y] (E (tP x y)):=by
 unfold tP;refine sP func86 ntmps86 λ w cl=>?_
 refine gA (RM x) ?_;refine cA (RM y) ?_;refine go ?_
 by_cases A:x<y
 ·rw[show decide (x<y)=true from decide_eq_true A,if_pos A];refine gf ?_
  rfl
 ·rw[show decide (x<y)=false from decide_eq_false A,if_neg A];refine go ?_
  by_cases F:y<x
  ·rw[show decide (x>y)=true from decide_eq_true F,if_pos F];refine gf ?_
   rfl
  ·rw[show decide (x>y)=false from decide_eq_false F,if_neg F];refine gf ?_
   rfl
theorem Gb(x y:Int×Int):bc prog 85 [.agg [E x.1,E x.2],.agg [E y.1,E y.2]] (E (tP x.1 y.1)):=by
 refine sP func85 ntmps85 λ w cl=>?_
 refine go ?_;refine bh (gY aD rfl rfl rfl rfl rfl (by omega) (by omega)) rfl rfl rfl ?_;refine go ?_;refine bh (gY aD rfl rfl rfl rfl rfl (by omega) (by omega)) rfl rfl rfl ?_;refine gA (W2 x.1 y.1) ?_;refine ez ?_
 rfl
theorem O3(x y:Int):decide (tP x y<0)=decide (x<y):=by
 unfold tP;split
 ·rename_i h;rw[show decide (x<y)=true from decide_eq_true h];rfl
 ·rename_i h;rw[show decide (x<y)=false from decide_eq_false h];split<;>rfl
abbrev dY(n c:Nat):K:=.arr 20 0 n c
theorem xZ{av:Type}(P Q:List av)(x y:av){n:Nat}(h:n=P.length):(P++x::Q).set n y=P++y::Q:=by subst h;rw[List.set_append_right _ _ (Nat.le_refl _),Nat.sub_self];rfl
theorem t7{av:Type}(P Q:List av)(x:av){n:Nat}(h:n=P.length):(P++x::Q)[n]?=some x:=by subst h;simp
set_option maxHeartbeats 8000000 in
theorem Nx(X am aH B ag:bL)(rest:List K)(hp:fy rest)(n c:Nat)(a b k:Int)(hn:(X++am++aH++B++ag).length=n)(gp:n<=100000)(yS:am.length=B.length)(ha:a=X.length)(Z:b=(X++am++aH).length)(J:k=am.length):eI prog 200 [20] [dY n c,E a,E b,E k,eV] [(20,bM (X++am++aH++B++ag) rest)] (λ d Y=>d=.bd []/\Y=[(20,bM (X++B++aH++am++ag) rest)]):=by
 have bH:∀{S:bL}(B au:Nat->Bool),K.ok.eR B au (bM S rest)=true:=λ B au=>wl hp B au
 refine sI func200 ntmps200 λ w cl own kf=>?_
 refine go ?_;refine cn (λ p:bL×bL×bL×bL=>am=p.1++p.2.1/\B=p.2.2.1++p.2.2.2/\p.1.length=p.2.2.1.length) (λ p=>⟨[(10,E p.1.length),(3,E k),(2,E b),(1,E a),(0,dY n c)],[(20,bM (X++(p.2.2.1++p.2.1)++aH++(p.1++p.2.2.2)++ag) rest)],[]⟩) (λ p=>p.2.1.length) ([],am,[],B) ⟨rfl,rfl,rfl⟩ (e7 (by(repeat(first|exact trivial|refine⟨⟨rfl,rfl⟩,?_⟩))) (by(repeat(first|exact trivial|refine⟨⟨rfl,rfl⟩,?_⟩|refine⟨⟨rfl,bH _ _⟩,?_⟩))) (by(repeat(first|exact trivial|refine⟨rfl,?_⟩))) (by(repeat(first|exact trivial|refine⟨rfl,?_⟩)))) ?_;rintro⟨A1,A2,B1,B2⟩ ⟨hA,hB,U⟩;simp only at hA hB U;have KS:am.length=A1.length+A2.length:=by rw[hA];simp
 have KT:B.length=B1.length+B2.length:=by rw[hB];simp
 simp only[List.length_append] at hn Z;refine(show aP _ _ _ _ ⟨[(10,E A1.length),(3,E k),(2,E b),(1,E a),(0,dY n c)],[(20,bM (X++(B1++A2)++aH++(A1++B2)++ag) rest)],[]⟩ from ?_);rcases A2 with _|⟨x,A2⟩
 ·have J6:B2=[]:=List.length_eq_zero_iff.1 (by simp at KS;omega);subst J6;simp only[List.append_nil,List.length_nil] at hA hB KS KT;rw[show X++(B1++[])++aH++(A1++[])++ag=X++B++aH++am++ag by rw[hA,hB];simp];refine go ?_;rw[show decide ((A1.length:Int)<k)=false by rw[decide_eq_false_iff_not];omega];refine go ?_;refine km (d:=.bd []) [(20,bM (X++B++aH++am++ag) rest)] ?_ rfl ⟨⟨rfl,bH _ _⟩,trivial⟩ ⟨rfl,trivial⟩ ⟨rfl,rfl⟩
  rfl
 ·simp only[List.length_cons] at KS;rcases B2 with _|⟨y,B2⟩
  ·simp only[List.length_nil] at KT;omega
  simp only[List.length_cons] at KT;refine go ?_;rw[show decide ((A1.length:Int)<k)=true by rw[decide_eq_true_eq];omega];have e1:X++(B1++x::A2)++aH++(A1++y::B2)++ag=(X++B1)++x::(A2++aH++(A1++y::B2)++ag):=by simp
  have e2:(X++B1)++x::(A2++aH++(A1++y::B2)++ag)=(X++B1++x::(A2++aH++A1))++y::(B2++ag):=by simp
  have e3:(X++B1)++y::(A2++aH++(A1++y::B2)++ag)=(X++B1++y::(A2++aH++A1))++y::(B2++ag):=by simp
  have e4:(X++B1++y::(A2++aH++A1))++x::(B2++ag)=X++((B1++[y])++A2)++aH++((A1++[x])++B2)++ag:=by simp
  have cj:(X++(B1++x::A2)++aH++(A1++y::B2)++ag)[X.length+A1.length]?=some x:=by rw[e1];exact t7 _ _ _ (by simp;omega)
  have du:(X++(B1++x::A2)++aH++(A1++y::B2)++ag)[X.length+am.length+aH.length+A1.length]?=some y:=by rw[e1,e2];exact t7 _ _ _ (by simp;omega)
  have zk:((X++(B1++x::A2)++aH++(A1++y::B2)++ag).set (X.length+A1.length) y).set (X.length+am.length+aH.length+A1.length) x=X++((B1++[y])++A2)++aH++((A1++[x])++B2)++ag:=by rw[e1,xZ _ _ _ _ (by simp;omega),e3,xZ _ _ _ _ (by simp;omega),e4]
  have n8:(X++(B1++x::A2)++aH++(A1++y::B2)++ag).length=n:=by simp;omega
  clear e1 e2 e3 e4;obtain⟨r1,jh⟩:=pL cj rest;obtain⟨r2,nB⟩:=pL du rest;have tf:=sm (X++(B1++x::A2)++aH++(A1++y::B2)++ag) rest;have uk:=(List.getElem?_eq_some_iff.1 cj).1;have ul:=(List.getElem?_eq_some_iff.1 du).1;have zl:=xT (S:=X++(B1++x::A2)++aH++(A1++y::B2)++ag) (i:=X.length+A1.length) y uk rest;have tl:=xT (S:=(X++(B1++x::A2)++aH++(A1++y::B2)++ag).set (X.length+A1.length) y) (i:=X.length+am.length+aH.length+A1.length) x (by rw[List.length_set];exact ul) rest;rw[zk] at tl;have ze:=sm ((X++(B1++x::A2)++aH++(A1++y::B2)++ag).set (X.length+A1.length) y) rest;rw[List.length_set] at ze;generalize qJ:X++(B1++x::A2)++aH++(A1++y::B2)++ag=S1 at*;generalize ua:bM S1 rest=R1 at*;generalize Kf:bM (S1.set (X.length+A1.length) y) rest=R2 at*;refine go ?_;refine gD [20] ?_;refine cV (iu (p:=(X.length+am.length+aH.length+A1.length)*2) aD rfl rfl rfl rfl rfl (by omega) (by omega) (by show(X.length+am.length+aH.length+A1.length)*2=(b+A1.length).toNat*2;omega)) rfl rfl ?_;refine xN (mQ aD [E y.1,E y.2] r2 rfl rfl rfl rfl rfl (by show(X.length+am.length+aH.length+A1.length)*2<=R1.length;omega) nB rfl) rfl rfl (by kernel_rfl) ?_;refine br ?_;refine cV (iu (p:=(X.length+A1.length)*2) aD rfl rfl rfl rfl rfl (by omega) (by omega) (by show(X.length+A1.length)*2=(a+A1.length).toNat*2;omega)) rfl rfl ?_;refine xN (mQ aD [E x.1,E x.2] r1 rfl rfl rfl rfl rfl (by show(X.length+A1.length)*2<=R1.length;omega) jh rfl) rfl rfl (by kernel_rfl) ?_
  refine cV (iu (p:=(X.length+A1.length)*2) aD rfl rfl rfl rfl rfl (by omega) (by omega) (by show(X.length+A1.length)*2=(a+A1.length).toNat*2;omega)) rfl rfl ?_;refine uJ (aS:=R2) aD rfl rfl rfl rfl rfl rfl rfl rfl (x7 (by show(X.length+A1.length)*2+2<=R1.length;omega) zl) rfl rfl (.inl rfl) ?_;refine cV (iu (p:=(X.length+am.length+aH.length+A1.length)*2) aD rfl rfl rfl rfl rfl (by omega) (by omega) (by show(X.length+am.length+aH.length+A1.length)*2=(b+A1.length).toNat*2;omega)) rfl rfl ?_;refine uJ (aS:=bM (X++((B1++[y])++A2)++aH++((A1++[x])++B2)++ag) rest) aD rfl rfl rfl rfl rfl rfl rfl rfl (x7 (by show(X.length+am.length+aH.length+A1.length)*2+2<=R2.length;omega) tl) rfl rfl (.inr (by kernel_rfl)) ?_;refine qg ?_;refine⟨(A1++[x],A2,B1++[y],B2),⟨by simp only;rw[hA];simp,by simp only;rw[hB];simp,by simp only[List.length_append,U];rfl⟩,by simp only[List.length_cons];omega,?_⟩;show bY _ _ ⟨[(10,E (A1++[x]).length),(3,E k),(2,E b),(1,E a),(0,dY n c)],[(20,bM (X++((B1++[y])++A2)++aH++((A1++[x])++B2)++ag) rest)],[]⟩;rw[show((A1++[x]).length:Int)=(A1.length:Int)+1 by simp];exact e7 (by(repeat(first|exact trivial|refine⟨⟨rfl,rfl⟩,?_⟩))) (by(repeat(first|exact trivial|refine⟨⟨rfl,rfl⟩,?_⟩|refine⟨⟨rfl,bH _ _⟩,?_⟩))) (by(repeat(first|exact trivial|refine⟨rfl,?_⟩))) (by(repeat(first|exact trivial|refine⟨rfl,?_⟩)))
set_option maxHeartbeats 8000000 in
theorem aew(X am B ag:bL)(rest:List K)(hp:fy rest)(n c:Nat)(a m b:Int)(hn:(X++am++B++ag).length=n)(gp:n<=100000)(hA0:0<am.length)(J5:0<B.length)(ha:a=X.length)(hm:m=a+am.length)(Z:b=m+B.length):eI prog 183 [20] [dY n c,E a,E m,E b,eV] [(20,bM (X++am++B++ag) rest)] (λ d Y=>d=.bd []/\Y=[(20,bM (X++B++am++ag) rest)]):=by
 have bH:∀{S:bL}(B au:Nat->Bool),K.ok.eR B au (bM S rest)=true:=λ B au=>wl hp B au
 generalize hF:X++B++am++ag=aA;simp only[List.length_append] at hn;refine sI func183 ntmps183 λ w cl own kf=>?_
 refine go ?_;refine cn (λ p:bL×bL×bL×bL=>p.1++p.2.2.1++p.2.1++p.2.2.2=aA/\0<p.2.1.length/\0<p.2.2.1.length/\m=p.1.length+p.2.1.length/\p.1.length+p.2.1.length+p.2.2.1.length+p.2.2.2.length=n) (λ p=>⟨[(10,E p.2.1.length),(11,E p.2.2.1.length),(4,eV),(2,E m),(0,dY n c)],[(20,bM (p.1++p.2.1++p.2.2.1++p.2.2.2) rest)],[]⟩) (λ p=>p.2.1.length+p.2.2.1.length) (X,am,B,ag) ⟨hF,hA0,J5,by simp only;omega,by simp only;omega⟩ (by rw[show m-a=(am.length:Int) by omega,show b-m=(B.length:Int) by omega];exact e7 (by(repeat(first|exact trivial|refine⟨⟨rfl,rfl⟩,?_⟩))) (by(repeat(first|exact trivial|refine⟨⟨rfl,rfl⟩,?_⟩|refine⟨⟨rfl,bH _ _⟩,?_⟩))) (by(repeat(first|exact trivial|refine⟨rfl,?_⟩))) (by(repeat(first|exact trivial|refine⟨rfl,?_⟩)))) ?_;rintro⟨P,C,ay,Q⟩ ⟨I,hC,hD,rS,lD⟩;simp only at I hC hD rS lD;refine(show aP _ _ _ _ ⟨[(10,E C.length),(11,E ay.length),(4,eV),(2,E m),(0,dY n c)],[(20,bM (P++C++ay++Q) rest)],[]⟩ from ?_);refine go ?_
 by_cases A:C.length=ay.length
 ·rw[show decide ((C.length:Int)=ay.length)=true by rw[decide_eq_true_eq];omega];have hs:=Nx P C [] ay Q rest hp n c (m-C.length) m C.length (by simp;omega) gp A (by omega) (by simp;omega) rfl;rw[show P++C++[]++ay++Q=P++C++ay++Q by simp,show P++ay++[]++C++Q=aA by rw[<-I];simp] at hs;refine go ?_;refine il hs rfl (λ a w=>call200 a w) rfl rfl ⟨⟨rfl,bH _ _⟩,trivial⟩ (by(repeat(first|exact trivial|refine⟨.inr rfl,?_⟩|refine⟨.inl rfl,?_⟩))) rfl rfl rfl rfl ?_ ?_
  ·rintro d Y ⟨rfl,rfl⟩;exact⟨.inl rfl,trivial⟩
  rintro d Y ⟨rfl,rfl⟩;refine go ?_;refine km (d:=.bd []) [(20,bM aA rest)] ?_ rfl ⟨⟨rfl,bH _ _⟩,trivial⟩ ⟨rfl,trivial⟩ ⟨rfl,rfl⟩
  rfl
 ·rw[show decide ((C.length:Int)=ay.length)=false by rw[decide_eq_false_iff_not];omega];refine go ?_
  by_cases F:ay.length<C.length
  ·rw[show decide ((C.length:Int)>ay.length)=true by rw[decide_eq_true_eq];omega];have L:=List.take_append_drop ay.length C;have ea:(C.take ay.length).length=ay.length:=by rw[List.length_take];omega
   have rM:(C.drop ay.length).length=C.length-ay.length:=List.length_drop ..;generalize C.take ay.length=C1 at*;generalize C.drop ay.length=C2 at*;have hs:=Nx P C1 C2 ay Q rest hp n c (m-C.length) m ay.length (by simp;omega) gp (by omega) (by omega) (by simp;omega) (by omega);rw[show P++C1++C2++ay++Q=P++C++ay++Q by rw[<-L];simp] at hs;refine go ?_;refine il hs rfl (λ a w=>call200 a w) rfl rfl ⟨⟨rfl,bH _ _⟩,trivial⟩ (by(repeat(first|exact trivial|refine⟨.inr rfl,?_⟩|refine⟨.inl rfl,?_⟩))) rfl rfl rfl rfl ?_ ?_
   ·rintro d Y ⟨rfl,rfl⟩;exact⟨.inl rfl,trivial⟩
   rintro d Y ⟨rfl,rfl⟩;refine go ?_;refine⟨(P++ay,C2,C1,Q),⟨by simp only;rw[<-I,<-L];simp,by simp only;omega,by simp only;omega,by simp only[List.length_append];omega,by simp only[List.length_append];omega⟩,by simp only;omega,?_⟩;show bY _ _ ⟨[(10,E C2.length),(11,E C1.length),(4,eV),(2,E m),(0,dY n c)],[(20,bM (P++ay++C2++C1++Q) rest)],[]⟩;rw[show((C2.length:Nat):Int)=(C.length:Int)-ay.length by omega,ea];exact e7 (by(repeat(first|exact trivial|refine⟨⟨rfl,rfl⟩,?_⟩))) (by(repeat(first|exact trivial|refine⟨⟨rfl,rfl⟩,?_⟩|refine⟨⟨rfl,bH _ _⟩,?_⟩))) (by(repeat(first|exact trivial|refine⟨rfl,?_⟩))) (by(repeat(first|exact trivial|refine⟨rfl,?_⟩)))
  ·rw[show decide ((C.length:Int)>ay.length)=false by rw[decide_eq_false_iff_not];omega];have L:=List.take_append_drop (ay.length-C.length) ay;have ea:(ay.take (ay.length-C.length)).length=ay.length-C.length:=by rw[List.length_take];omega
   have rM:(ay.drop (ay.length-C.length)).length=C.length:=by rw[List.length_drop];omega
   generalize ay.take (ay.length-C.length)=D1 at*;generalize ay.drop (ay.length-C.length)=D2 at*;have hs:=Nx P C D1 D2 Q rest hp n c (m-C.length) (m+ay.length-C.length) C.length (by simp;omega) gp (by omega) (by omega) (by simp;omega) (by omega);rw[show P++C++D1++D2++Q=P++C++ay++Q by rw[<-L];simp] at hs;refine go ?_;refine il hs rfl (λ a w=>call200 a w) rfl rfl ⟨⟨rfl,bH _ _⟩,trivial⟩ (by(repeat(first|exact trivial|refine⟨.inr rfl,?_⟩|refine⟨.inl rfl,?_⟩))) rfl rfl rfl rfl ?_ ?_
   ·rintro d Y ⟨rfl,rfl⟩;exact⟨.inl rfl,trivial⟩
   rintro d Y ⟨rfl,rfl⟩;refine go ?_;refine⟨(P,D2,D1,C++Q),⟨by simp only;rw[<-I,<-L];simp,by simp only;omega,by simp only;omega,by simp only;omega,by simp only[List.length_append];omega⟩,by simp only;omega,?_⟩;show bY _ _ ⟨[(10,E D2.length),(11,E D1.length),(4,eV),(2,E m),(0,dY n c)],[(20,bM (P++D2++D1++(C++Q)) rest)],[]⟩;rw[show((D1.length:Nat):Int)=(ay.length:Int)-C.length by omega,rM,show P++D2++D1++(C++Q)=P++D2++D1++C++Q by simp];exact e7 (by(repeat(first|exact trivial|refine⟨⟨rfl,rfl⟩,?_⟩))) (by(repeat(first|exact trivial|refine⟨⟨rfl,rfl⟩,?_⟩|refine⟨⟨rfl,bH _ _⟩,?_⟩))) (by(repeat(first|exact trivial|refine⟨rfl,?_⟩))) (by(repeat(first|exact trivial|refine⟨rfl,?_⟩)))
set_option maxHeartbeats 16000000 in
theorem RI(X ak aH:bL)(rest:List K)(hp:fy rest)(n c:Nat)(a b:Int)(hn:(X++ak++aH).length=n)(gp:n<=100000)(ha:a=X.length)(Z:b=a+ak.length):eI prog 137 [20] [dY n c,E a,E b,eV] [(20,bM (X++ak++aH) rest)] (λ d Y=>d=.bd []/\∃dZ,ju ak dZ/\Y=[(20,bM (X++dZ++aH) rest)]):=by
 have bH:∀{S:bL}(B au:Nat->Bool),K.ok.eR B au (bM S rest)=true:=λ B au=>wl hp B au
 simp only[List.length_append] at hn;refine sI func137 ntmps137 λ w cl own kf=>?_
 refine go ?_;rcases ak with _|⟨x0,M0⟩
 ·refine cn (λ _:Unit=>True) (λ _=>⟨[(8,E (a+1)),(2,E b)],[(20,bM (X++[]++aH) rest)],[]⟩) (λ _=>0) () trivial (e7 (by(repeat(first|exact trivial|refine⟨⟨rfl,rfl⟩,?_⟩))) (by(repeat(first|exact trivial|refine⟨⟨rfl,rfl⟩,?_⟩|refine⟨⟨rfl,bH _ _⟩,?_⟩))) (by(repeat(first|exact trivial|refine⟨rfl,?_⟩))) (by(repeat(first|exact trivial|refine⟨rfl,?_⟩)))) ?_;intro _ _;refine go ?_;rw[show decide (a+1<b)=false by rw[decide_eq_false_iff_not];simp at Z;omega];refine go ?_;refine km (d:=.bd []) [(20,bM (X++[]++aH) rest)] ?_ rfl ⟨⟨rfl,bH _ _⟩,trivial⟩ ⟨rfl,trivial⟩ ⟨rfl,[],⟨rfl,.nil,.refl _⟩,rfl⟩
  rfl
 refine cn (λ p:bL×bL=>1<=p.1.length/\p.1.length+p.2.length=M0.length+1/\ee p.1/\gz (x0::M0) (p.1++p.2)) (λ p=>⟨[(8,E (a+p.1.length)),(3,eV),(2,E b),(1,E a),(0,dY n c)],[(20,bM (X++p.1++p.2++aH) rest)],[]⟩) (λ p=>p.2.length) ([x0],M0) ⟨Nat.le_refl _,by simp;omega,ee.one _,.refl _⟩ (by rw[show X++[x0]++M0++aH=X++(x0::M0)++aH by simp];exact e7 (by(repeat(first|exact trivial|refine⟨⟨rfl,rfl⟩,?_⟩))) (by(repeat(first|exact trivial|refine⟨⟨rfl,rfl⟩,?_⟩|refine⟨⟨rfl,bH _ _⟩,?_⟩))) (by(repeat(first|exact trivial|refine⟨rfl,?_⟩))) (by(repeat(first|exact trivial|refine⟨rfl,?_⟩)))) ?_;rintro⟨S,M2⟩ ⟨qJ,DG,hU,hF⟩;simp only at qJ DG hU hF;simp only[List.length_cons] at hn Z;refine(show aP _ _ _ _ ⟨[(8,E (a+S.length)),(3,eV),(2,E b),(1,E a),(0,dY n c)],[(20,bM (X++S++M2++aH) rest)],[]⟩ from ?_);rcases M2 with _|⟨x,M2⟩
 ·simp only[List.append_nil,List.length_nil] at hF DG;rw[show X++S++[]++aH=X++S++aH by simp];refine go ?_;rw[show decide (a+(S.length:Int)<b)=false by rw[decide_eq_false_iff_not];omega];refine go ?_;refine km (d:=.bd []) [(20,bM (X++S++aH) rest)] ?_ rfl ⟨⟨rfl,bH _ _⟩,trivial⟩ ⟨rfl,trivial⟩ ⟨rfl,S,⟨by rw[List.length_cons];omega,hU,hF⟩,rfl⟩
  rfl
 ·simp only[List.length_cons] at DG;refine go ?_;rw[show decide (a+(S.length:Int)<b)=true by rw[decide_eq_true_eq];omega];refine go ?_;refine Wz (d7:=bL) (.exit 2) (λ ap=>⟨[(8,E (a+S.length)),(3,eV),(2,E b),(1,E a),(0,dY n c)],[(20,bM (X++ap++M2++aH) rest)],[]⟩) (λ ap=>ju (S++[x]) ap) ?_ ?_
  ·refine cn (λ p:bL×bL=>S=p.1++p.2/\∀y∈p.2,x.1<y.1) (λ p=>⟨[(9,E (a+p.1.length)),(8,E (a+S.length)),(3,eV),(2,E b),(1,E a),(0,dY n c)],[(20,bM (X++(p.1++x::p.2)++M2++aH) rest)],[]⟩) (λ p=>p.1.length) (S,[]) ⟨(List.append_nil _).symm,λ y hy=>by cases hy⟩ (by rw[show X++(S++x::[])++M2++aH=X++S++x::M2++aH by simp];exact e7 (by(repeat(first|exact trivial|refine⟨⟨rfl,rfl⟩,?_⟩))) (by(repeat(first|exact trivial|refine⟨⟨rfl,rfl⟩,?_⟩|refine⟨⟨rfl,bH _ _⟩,?_⟩))) (by(repeat(first|exact trivial|refine⟨rfl,?_⟩))) (by(repeat(first|exact trivial|refine⟨rfl,?_⟩)))) ?_;rintro⟨am,B⟩ ⟨hA,hB⟩;simp only at hA hB;refine(show aP _ _ _ _ ⟨[(9,E (a+am.length)),(8,E (a+S.length)),(3,eV),(2,E b),(1,E a),(0,dY n c)],[(20,bM (X++(am++x::B)++M2++aH) rest)],[]⟩ from ?_);have DX:(∀y∈am,y.1<=x.1)->ju (S++[x]) (am++x::B):=λ iE=>by
    rw[hA];exact Nf (by rw[<-hA];exact hU) iE hB
   have agL:S.length=am.length+B.length:=by rw[hA];simp
   rcases List.eq_nil_or_concat am with rfl|⟨dL,y,rfl⟩
   ·have D:=DX (λ y hy=>by cases hy);refine go ?_;refine gD [] ?_;rw[show decide (a+((([]:bL).length:Nat):Int)>a)=false by rw[decide_eq_false_iff_not];simp];refine qg ?_;exact⟨rfl,_,D,e7 (by(repeat(first|exact trivial|refine⟨⟨rfl,rfl⟩,?_⟩))) (by(repeat(first|exact trivial|refine⟨⟨rfl,rfl⟩,?_⟩|refine⟨⟨rfl,bH _ _⟩,?_⟩))) (by(repeat(first|exact trivial|refine⟨rfl,?_⟩))) (by(repeat(first|exact trivial|refine⟨rfl,?_⟩)))⟩
   ·simp only[List.concat_eq_append] at*;have dX:(dL++[y]).length=dL.length+1:=by simp
    have e1:X++((dL++[y])++x::B)++M2++aH=(X++dL++[y])++x::(B++M2++aH):=by simp
    have e2:X++((dL++[y])++x::B)++M2++aH=(X++dL)++y::(x::(B++M2++aH)):=by simp
    have e3:(X++dL++[y])++y::(B++M2++aH)=(X++dL)++y::(y::(B++M2++aH)):=by simp
    have cj:(X++((dL++[y])++x::B)++M2++aH)[X.length+dL.length+1]?=some x:=by rw[e1];exact t7 _ _ _ (by simp;omega)
    have du:(X++((dL++[y])++x::B)++M2++aH)[X.length+dL.length]?=some y:=by rw[e2];exact t7 _ _ _ (by simp)
    have zk:((X++((dL++[y])++x::B)++M2++aH).set (X.length+dL.length+1) y).set (X.length+dL.length) x=X++(dL++x::(y::B))++M2++aH:=by rw[e1,xZ _ _ _ _ (by simp;omega),e3,xZ _ _ _ _ (by simp)];simp
    have n8:(X++((dL++[y])++x::B)++M2++aH).length=n:=by simp;omega
    have dF:¬x.1<y.1->ju (S++[x]) ((dL++[y])++x::B):=λ bm=>DX λ z hz=>by
     rcases List.mem_append.1 hz with hz|hz
     ·have O:ee (dL++[y]):=by rw[hA] at hU;exact hU.left
      have:=O.le z hz y (by simp);omega
     ·have:z=y:=by simpa using hz
      subst this;omega
    clear e1 e2 e3 DX;have sS:=Gb x y;have bm:=O3 x.1 y.1;generalize tP x.1 y.1=cv at sS bm;obtain⟨r1,jh⟩:=pL cj rest;obtain⟨r2,nB⟩:=pL du rest;have tf:=sm (X++((dL++[y])++x::B)++M2++aH) rest;have uk:=(List.getElem?_eq_some_iff.1 cj).1;have ul:=(List.getElem?_eq_some_iff.1 du).1;have zl:=xT (S:=X++((dL++[y])++x::B)++M2++aH) (i:=X.length+dL.length+1) y uk rest;have tl:=xT (S:=(X++((dL++[y])++x::B)++M2++aH).set (X.length+dL.length+1) y) (i:=X.length+dL.length) x (by rw[List.length_set];exact ul) rest;rw[zk] at tl;have ze:=sm ((X++((dL++[y])++x::B)++M2++aH).set (X.length+dL.length+1) y) rest;rw[List.length_set] at ze;generalize qJ:X++((dL++[y])++x::B)++M2++aH=S1 at*;generalize ua:bM S1 rest=R1 at*;generalize Kf:bM (S1.set (X.length+dL.length+1) y) rest=R2 at*;rw[dX];refine go ?_;refine gD [] ?_;rw[show decide (a+((dL.length+1:Nat):Int)>a)=true by rw[decide_eq_true_eq];omega];refine br ?_;refine cV (iu (p:=(X.length+dL.length+1)*2) aD rfl rfl rfl rfl rfl (by omega) (by omega) (by show(X.length+dL.length+1)*2=(a+((dL.length+1:Nat):Int)).toNat*2;omega)) rfl rfl ?_;refine cV (mQ aD [E x.1,E x.2] r1 rfl rfl rfl rfl rfl (by show(X.length+dL.length+1)*2<=R1.length;omega) jh rfl) rfl rfl ?_;refine br ?_;refine cV (iu (p:=(X.length+dL.length)*2) aD rfl rfl rfl rfl rfl (by omega) (by omega) (by show(X.length+dL.length)*2=(a+((dL.length+1:Nat):Int)-1).toNat*2;omega)) rfl rfl ?_
    refine cV (mQ aD [E y.1,E y.2] r2 rfl rfl rfl rfl rfl (by show(X.length+dL.length)*2<=R1.length;omega) nB rfl) rfl rfl ?_;refine br ?_;refine cV (wP sS rfl (λ a w=>call85 a w) rfl rfl) rfl rfl ?_;refine qg ?_;rw[bm]
    by_cases F:x.1<y.1
    ·rw[show decide (x.1<y.1)=true from decide_eq_true F];refine go ?_;refine gD [20] ?_;refine cV (iu (p:=(X.length+dL.length)*2) aD rfl rfl rfl rfl rfl (by omega) (by omega) (by show(X.length+dL.length)*2=(a+((dL.length+1:Nat):Int)-1).toNat*2;omega)) rfl rfl ?_;refine xN (mQ aD [E y.1,E y.2] r2 rfl rfl rfl rfl rfl (by show(X.length+dL.length)*2<=R1.length;omega) nB rfl) rfl rfl (by kernel_rfl) ?_;refine br ?_;refine cV (iu (p:=(X.length+dL.length+1)*2) aD rfl rfl rfl rfl rfl (by omega) (by omega) (by show(X.length+dL.length+1)*2=(a+((dL.length+1:Nat):Int)).toNat*2;omega)) rfl rfl ?_;refine xN (mQ aD [E x.1,E x.2] r1 rfl rfl rfl rfl rfl (by show(X.length+dL.length+1)*2<=R1.length;omega) jh rfl) rfl rfl (by kernel_rfl) ?_;refine cV (iu (p:=(X.length+dL.length+1)*2) aD rfl rfl rfl rfl rfl (by omega) (by omega) (by show(X.length+dL.length+1)*2=(a+((dL.length+1:Nat):Int)).toNat*2;omega)) rfl rfl ?_;refine uJ (aS:=R2) aD rfl rfl rfl rfl rfl rfl rfl rfl (x7 (by show(X.length+dL.length+1)*2+2<=R1.length;omega) zl) rfl rfl (.inl rfl) ?_;refine cV (iu (p:=(X.length+dL.length)*2) aD rfl rfl rfl rfl rfl (by omega) (by omega) (by show(X.length+dL.length)*2=(a+((dL.length+1:Nat):Int)-1).toNat*2;omega)) rfl rfl ?_;refine uJ (aS:=bM (X++(dL++x::(y::B))++M2++aH) rest) aD rfl rfl rfl rfl rfl rfl rfl rfl (x7 (by show(X.length+dL.length)*2+2<=R2.length;omega) tl) rfl rfl (.inr (by kernel_rfl)) ?_;refine qg ?_;refine⟨(dL,y::B),⟨by simp only;rw[hA];simp,λ z hz=>?_⟩,by simp only;omega,?_⟩
     ·rcases List.mem_cons.1 hz with rfl|hz
      ·exact F
      ·exact hB z hz
     ·show bY _ _ ⟨[(9,E (a+dL.length)),(8,E (a+S.length)),(3,eV),(2,E b),(1,E a),(0,dY n c)],[(20,bM (X++(dL++x::(y::B))++M2++aH) rest)],[]⟩;rw[show a+(dL.length:Int)=a+((dL.length+1:Nat):Int)-1 by omega];exact e7 (by(repeat(first|exact trivial|refine⟨⟨rfl,rfl⟩,?_⟩))) (by(repeat(first|exact trivial|refine⟨⟨rfl,rfl⟩,?_⟩|refine⟨⟨rfl,bH _ _⟩,?_⟩))) (by(repeat(first|exact trivial|refine⟨rfl,?_⟩))) (by(repeat(first|exact trivial|refine⟨rfl,?_⟩)))
    ·rw[show decide (x.1<y.1)=false from decide_eq_false F];refine go ?_;rw[<-ua,<-qJ];exact⟨rfl,_,dF F,e7 (by(repeat(first|exact trivial|refine⟨⟨rfl,rfl⟩,?_⟩))) (by(repeat(first|exact trivial|refine⟨⟨rfl,rfl⟩,?_⟩|refine⟨⟨rfl,bH _ _⟩,?_⟩))) (by(repeat(first|exact trivial|refine⟨rfl,?_⟩))) (by(repeat(first|exact trivial|refine⟨rfl,?_⟩)))⟩
  intro cb ap hT fm;refine zR (zP (zM (ey fm ?_)));clear fm;refine go ?_;have Qa:=hT.len;simp only[List.length_append,List.length_cons,List.length_nil] at Qa;refine⟨(ap,M2),⟨by simp only;omega,by simp only;omega,hT.up,?_⟩,by simp only[List.length_cons];omega,?_⟩
  ·have O:=hT.qF.app (gz.refl M2);rw[List.append_assoc] at O;exact hF.trans O
  ·show bY _ _ ⟨[(8,E (a+ap.length)),(3,eV),(2,E b),(1,E a),(0,dY n c)],[(20,bM (X++ap++M2++aH) rest)],[]⟩;rw[show a+(ap.length:Int)=a+(S.length:Int)+1 by omega];exact e7 (by(repeat(first|exact trivial|refine⟨⟨rfl,rfl⟩,?_⟩))) (by(repeat(first|exact trivial|refine⟨⟨rfl,rfl⟩,?_⟩|refine⟨⟨rfl,bH _ _⟩,?_⟩))) (by(repeat(first|exact trivial|refine⟨rfl,?_⟩))) (by(repeat(first|exact trivial|refine⟨rfl,?_⟩)))
theorem IF{n:Int}(h0:0<=n)(A:n<18446744073709551616):IntKind.u64.wrap n=((n.toNat:Nat):Int):=by
 have:=Vf (n:=n.toNat) (by omega)
 rwa [show((n.toNat:Nat):Int)=n by omega] at this⊢
theorem In{P:Program}{S:Nat->Option K}{B:Nat->Option (List K)}{o:Oper}{ty u:TypeId}{x:Operand}{m:Nat}(ho:o.op=.binOp .shr ty x (.const (.int .u64 1)) u)(T:ev S x=some (dU m)):dN P o S B (dU (m/2)) none:=by
 refine jp λ ac e hs=>?_
 have cj:=dh (hs.1 x (by rw[ho];simp[Op.operands]) _ T);have fw:ac.eval (.const (.int .u64 1))=.int .u64 1:=rfl;refine⟨_,?_,.p (.raw _)⟩;obtain⟨dst,op,type,pos,after,guard⟩:=o;simp only at ho;subst ho;have Z:(binOp .shr ty (.int .u64 (m:Int)) (.int .u64 (1:Int))).run P e.w=.ok (.int .u64 ((m/2:Nat):Int)) e.w:=by
  show(Op.shift .shr .u64 (m:Int) .u64 (1:Int)).run P e.w=_;rw[shift_shr_any _ _ _ _ (by omega)];show Result.ok (Value.int .u64 ((m:Int)/2^min ((1:Int).toNat) 64)) e.w=_
  congr 2
 simp[execOp,cj,fw,eqGuard,Z]
theorem GC{P ak Q:bL}{k n:Nat}{y:Int×Int}(h:ak[k]?=some y)(hn:n=P.length+k):(P++ak++Q)[n]?=some y:=by subst hn;have J:=(List.getElem?_eq_some_iff.1 h).1;rw[List.append_assoc,List.getElem?_append_right (by omega),List.getElem?_append_left (by omega),show P.length+k-P.length=k by omega];exact h
theorem Ix{ak:bL}(hU:ee ak){k:Nat}{y:Int×Int}(hy:ak[k]?=some y):∀z∈ak.take (k+1),z.1<=y.1:=by
 intro z hz;obtain⟨i,hi⟩:=List.getElem?_of_mem hz;rw[List.getElem?_take] at hi;split at hi
 ·exact hU.at hi hy (by omega)
 ·cases hi
theorem Gl{ak:bL}(hU:ee ak){k:Nat}{y:Int×Int}(hy:ak[k]?=some y):∀z∈ak.drop k,y.1<=z.1:=by intro z hz;obtain⟨i,hi⟩:=List.getElem?_of_mem hz;rw[List.getElem?_drop] at hi;exact hU.at hy hi (by omega)
theorem Jv(x y:Int×Int):decide (tP x.1 y.1<0)=decide (x.1<y.1):=O3 x.1 y.1
set_option maxHeartbeats 16000000 in
theorem afm(X M2 aH:bL)(x:Int×Int)(rest:List K)(hp:fy rest)(n c:Nat)(a m b:Int)(hn:(X++[x]++M2++aH).length=n)(gp:n<=100000)(hU:ee M2)(h0:0<M2.length)(ha:a=X.length)(hm:m=a+1)(Z:b=m+M2.length):eI prog 138 [20] [dY n c,E a,E m,E b,eV] [(20,bM (X++[x]++M2++aH) rest)] (λ d Y=>d=.bd []/\∃dZ,ju ([x]++M2) dZ/\Y=[(20,bM (X++dZ++aH) rest)]):=by
 have bH:∀{S:bL}(B au:Nat->Bool),K.ok.eR B au (bM S rest)=true:=λ B au=>wl hp B au
 have n8:=hn;simp only[List.length_append,List.length_cons,List.length_nil] at hn;refine sI func138 ntmps138 λ w cl own kf=>?_
 refine go ?_;rw[show decide (m-a=1)=true by rw[decide_eq_true_eq];omega];refine go ?_;refine cn (λ p:Nat×Nat=>p.1<=p.2/\p.2<=M2.length/\(∀y∈M2.take p.1,y.1<x.1)/\(∀y∈M2.drop p.2,x.1<=y.1)) (λ p=>⟨[(10,E (m+p.1)),(11,E (m+p.2)),(4,eV),(2,E m),(1,E a),(0,dY n c)],[(20,bM (X++[x]++M2++aH) rest)],[]⟩) (λ p=>p.2-p.1) (0,M2.length) ⟨Nat.zero_le _,Nat.le_refl _,λ y hy=>by simp at hy,λ y hy=>by simp at hy⟩ (by rw[show m+((0:Nat):Int)=m by omega,<-Z];exact e7 (by(repeat(first|exact trivial|refine⟨⟨rfl,rfl⟩,?_⟩))) (by(repeat(first|exact trivial|refine⟨⟨rfl,rfl⟩,?_⟩|refine⟨⟨rfl,bH _ _⟩,?_⟩))) (by(repeat(first|exact trivial|refine⟨rfl,?_⟩))) (by(repeat(first|exact trivial|refine⟨rfl,?_⟩)))) ?_;rintro⟨i,j⟩ ⟨kq,hj,n6,qS⟩;simp only at kq hj n6 qS;refine(show aP _ _ _ _ ⟨[(10,E (m+i)),(11,E (m+j)),(4,eV),(2,E m),(1,E a),(0,dY n c)],[(20,bM (X++[x]++M2++aH) rest)],[]⟩ from ?_);refine go ?_
 by_cases A:i<j
 ·rw[show decide (m+(i:Int)<m+j)=true by rw[decide_eq_true_eq];omega];have hw:IntKind.i64.wrap (((m+(i:Int)+(m+j)).toNat/2:Nat):Int)=m+((i+j)/2:Nat):=by rw[eU (by omega) (by omega)];omega
  refine go ?_;rw[IF (by omega) (by omega)];refine bh (In rfl rfl) rfl rfl rfl ?_;refine go ?_;rw[hw];clear hw;have QJ:i<=(i+j)/2/\(i+j)/2<j:=by omega
  generalize(i+j)/2=h at*;obtain⟨y,hy⟩:∃y,M2[h]?=some y:=⟨M2[h]'(by omega),List.getElem?_eq_getElem _⟩;have cj:(X++[x]++M2++aH)[X.length+1+h]?=some y:=GC (P:=X++[x]) hy (by simp);have du:(X++[x]++M2++aH)[X.length]?=some x:=by rw[show X++[x]++M2++aH=X++x::(M2++aH) by simp];exact t7 _ _ _ rfl
  have Lf:y.1<x.1->(∀z∈M2.take (h+1),z.1<x.1):=λ bm z hz=>by have:=Ix hU hy z hz;omega
  have Lg:¬y.1<x.1->(∀z∈M2.drop h,x.1<=z.1):=λ bm z hz=>by have:=Gl hU hy z hz;omega
  obtain⟨r1,jh⟩:=pL cj rest;obtain⟨r2,nB⟩:=pL du rest;have tf:=sm (X++[x]++M2++aH) rest;have uk:=(List.getElem?_eq_some_iff.1 cj).1;have ul:=(List.getElem?_eq_some_iff.1 du).1;have sS:=Gb y x;have bm:=Jv y x;generalize tP y.1 x.1=cv at sS bm;generalize qJ:X++[x]++M2++aH=S1 at*;generalize ua:bM S1 rest=R1 at*;have xw:∀(B au:Nat->Bool),K.ok.eR B au R1=true:=λ B au=>by rw[<-ua];exact bH B au
  refine gD [] ?_;refine cV (iu (p:=(X.length+1+h)*2) aD rfl rfl rfl rfl rfl (by omega) (by omega) (by show(X.length+1+h)*2=(m+h).toNat*2;omega)) rfl rfl ?_;refine cV (mQ aD [E y.1,E y.2] r1 rfl rfl rfl rfl rfl (by show(X.length+1+h)*2<=R1.length;omega) jh rfl) rfl rfl ?_;refine br ?_;refine cV (iu (p:=(X.length)*2) aD rfl rfl rfl rfl rfl (by omega) (by omega) (by show(X.length)*2=(a).toNat*2;omega)) rfl rfl ?_;refine cV (mQ aD [E x.1,E x.2] r2 rfl rfl rfl rfl rfl (by show(X.length)*2<=R1.length;omega) nB rfl) rfl rfl ?_;refine br ?_;refine cV (wP sS rfl (λ a w=>call85 a w) rfl rfl) rfl rfl ?_;refine qg ?_;rw[bm]
  by_cases F:y.1<x.1
  ·rw[show decide (y.1<x.1)=true from decide_eq_true F];refine go ?_;refine⟨(h+1,j),⟨by simp only;omega,by simp only;omega,Lf F,qS⟩,by simp only;omega,?_⟩;show bY _ _ ⟨[(10,E (m+((h+1:Nat):Int))),(11,E (m+j)),(4,eV),(2,E m),(1,E a),(0,dY n c)],[(20,R1)],[]⟩;rw[show m+((h+1:Nat):Int)=m+(h:Int)+1 by omega];exact e7 (by(repeat(first|exact trivial|refine⟨⟨rfl,rfl⟩,?_⟩))) (by(repeat(first|exact trivial|refine⟨⟨rfl,rfl⟩,?_⟩|refine⟨⟨rfl,xw _ _⟩,?_⟩))) (by(repeat(first|exact trivial|refine⟨rfl,?_⟩))) (by(repeat(first|exact trivial|refine⟨rfl,?_⟩)))
  ·rw[show decide (y.1<x.1)=false from decide_eq_false F];refine go ?_;refine⟨(i,h),⟨by simp only;omega,by simp only;omega,n6,Lg F⟩,by simp only;omega,?_⟩;show bY _ _ ⟨[(10,E (m+i)),(11,E (m+h)),(4,eV),(2,E m),(1,E a),(0,dY n c)],[(20,R1)],[]⟩;exact e7 (by(repeat(first|exact trivial|refine⟨⟨rfl,rfl⟩,?_⟩))) (by(repeat(first|exact trivial|refine⟨⟨rfl,rfl⟩,?_⟩|refine⟨⟨rfl,xw _ _⟩,?_⟩))) (by(repeat(first|exact trivial|refine⟨rfl,?_⟩))) (by(repeat(first|exact trivial|refine⟨rfl,?_⟩)))
 ·have hd:j=i:=by omega
  subst hd;rw[show decide (m+(j:Int)<m+j)=false by rw[decide_eq_false_iff_not];omega];have hM:=List.take_append_drop j M2;have Rh:(M2.take j).length=j:=by rw[List.length_take];omega
  have ug:(M2.drop j).length=M2.length-j:=List.length_drop ..;generalize M2.take j=P at*;generalize M2.drop j=Q at*;subst hM;have lh:=afd hU n6 qS;simp only[List.length_append] at hn ug;refine go ?_;refine cn (λ p:bL×bL=>P=p.1++p.2) (λ p=>⟨[(13,E (a+p.1.length)),(10,E (m+j)),(0,dY n c)],[(20,bM (X++(p.1++x::p.2)++(Q++aH)) rest)],[]⟩) (λ p=>p.2.length) ([],P) rfl (by rw[show a+((([]:bL).length:Nat):Int)=a by simp,show X++([]++x::P)++(Q++aH)=X++[x]++(P++Q)++aH by simp];exact e7 (by(repeat(first|exact trivial|refine⟨⟨rfl,rfl⟩,?_⟩))) (by(repeat(first|exact trivial|refine⟨⟨rfl,rfl⟩,?_⟩|refine⟨⟨rfl,bH _ _⟩,?_⟩))) (by(repeat(first|exact trivial|refine⟨rfl,?_⟩))) (by(repeat(first|exact trivial|refine⟨rfl,?_⟩)))) ?_;rintro⟨am,B⟩ sO;simp only at sO;have GH:am.length+B.length=j:=by rw[<-Rh,sO];simp
  refine(show aP _ _ _ _ ⟨[(13,E (a+am.length)),(10,E (m+j)),(0,dY n c)],[(20,bM (X++(am++x::B)++(Q++aH)) rest)],[]⟩ from ?_);rcases B with _|⟨z,B⟩
  ·refine go ?_;rw[show decide (a+(am.length:Int)<m+(j:Int)-1)=false by rw[decide_eq_false_iff_not];simp at GH;omega];rw[show X++(am++x::[])++(Q++aH)=X++(P++x::Q)++aH by rw[sO];simp];refine go ?_;refine iB (d:=.bd []) [(20,bM (X++(P++x::Q)++aH) rest)] ?_ rfl ⟨⟨rfl,bH _ _⟩,trivial⟩ ⟨rfl,trivial⟩ ⟨rfl,P++x::Q,by simpa using lh,rfl⟩
   rfl
  ·simp only[List.length_cons] at GH;refine go ?_;rw[show decide (a+(am.length:Int)<m+(j:Int)-1)=true by rw[decide_eq_true_eq];omega];have e1:X++(am++x::z::B)++(Q++aH)=(X++am)++x::(z::B++(Q++aH)):=by simp
   have e2:X++(am++x::z::B)++(Q++aH)=(X++am++[x])++z::(B++(Q++aH)):=by simp
   have e3:(X++am)++z::(z::B++(Q++aH))=(X++am++[z])++z::(B++(Q++aH)):=by simp
   have cj:(X++(am++x::z::B)++(Q++aH))[X.length+am.length]?=some x:=by rw[e1];exact t7 _ _ _ (by simp)
   have du:(X++(am++x::z::B)++(Q++aH))[X.length+am.length+1]?=some z:=by rw[e2];exact t7 _ _ _ (by simp;omega)
   have zk:((X++(am++x::z::B)++(Q++aH)).set (X.length+am.length) z).set (X.length+am.length+1) x=X++((am++[z])++x::B)++(Q++aH):=by rw[e1,xZ _ _ _ _ (by simp),e3,xZ _ _ _ _ (by simp;omega)];simp
   have n8:(X++(am++x::z::B)++(Q++aH)).length=n:=by simp;omega
   clear e1 e2 e3;obtain⟨r1,jh⟩:=pL cj rest;obtain⟨r2,nB⟩:=pL du rest;have tf:=sm (X++(am++x::z::B)++(Q++aH)) rest;have uk:=(List.getElem?_eq_some_iff.1 cj).1;have ul:=(List.getElem?_eq_some_iff.1 du).1;have zl:=xT (S:=X++(am++x::z::B)++(Q++aH)) (i:=X.length+am.length) z uk rest;have tl:=xT (S:=(X++(am++x::z::B)++(Q++aH)).set (X.length+am.length) z) (i:=X.length+am.length+1) x (by rw[List.length_set];exact ul) rest;rw[zk] at tl;have ze:=sm ((X++(am++x::z::B)++(Q++aH)).set (X.length+am.length) z) rest;rw[List.length_set] at ze;generalize qJ:X++(am++x::z::B)++(Q++aH)=S1 at*;generalize ua:bM S1 rest=R1 at*;generalize Kf:bM (S1.set (X.length+am.length) z) rest=R2 at*;refine go ?_;refine gD [20] ?_;refine cV (iu (p:=(X.length+am.length+1)*2) aD rfl rfl rfl rfl rfl (by omega) (by omega) (by show(X.length+am.length+1)*2=(a+am.length+1).toNat*2;omega)) rfl rfl ?_;refine xN (mQ aD [E z.1,E z.2] r2 rfl rfl rfl rfl rfl (by show(X.length+am.length+1)*2<=R1.length;omega) nB rfl) rfl rfl (by kernel_rfl) ?_;refine br ?_;refine cV (iu (p:=(X.length+am.length)*2) aD rfl rfl rfl rfl rfl (by omega) (by omega) (by show(X.length+am.length)*2=(a+am.length).toNat*2;omega)) rfl rfl ?_;refine xN (mQ aD [E x.1,E x.2] r1 rfl rfl rfl rfl rfl (by show(X.length+am.length)*2<=R1.length;omega) jh rfl) rfl rfl (by kernel_rfl) ?_;refine cV (iu (p:=(X.length+am.length)*2) aD rfl rfl rfl rfl rfl (by omega) (by omega) (by show(X.length+am.length)*2=(a+am.length).toNat*2;omega)) rfl rfl ?_
   refine uJ (aS:=R2) aD rfl rfl rfl rfl rfl rfl rfl rfl (x7 (by show(X.length+am.length)*2+2<=R1.length;omega) zl) rfl rfl (.inl rfl) ?_;refine cV (iu (p:=(X.length+am.length+1)*2) aD rfl rfl rfl rfl rfl (by omega) (by omega) (by show(X.length+am.length+1)*2=(a+am.length+1).toNat*2;omega)) rfl rfl ?_;refine uJ (aS:=bM (X++((am++[z])++x::B)++(Q++aH)) rest) aD rfl rfl rfl rfl rfl rfl rfl rfl (x7 (by show(X.length+am.length+1)*2+2<=R2.length;omega) tl) rfl rfl (.inr (by kernel_rfl)) ?_;refine qg ?_;refine⟨(am++[z],B),by simp only;rw[sO];simp,by simp only[List.length_cons];omega,?_⟩;show bY _ _ ⟨[(13,E (a+(am++[z]).length)),(10,E (m+j)),(0,dY n c)],[(20,bM (X++((am++[z])++x::B)++(Q++aH)) rest)],[]⟩;rw[show a+((am++[z]).length:Int)=a+(am.length:Int)+1 by simp;omega];exact e7 (by(repeat(first|exact trivial|refine⟨⟨rfl,rfl⟩,?_⟩))) (by(repeat(first|exact trivial|refine⟨⟨rfl,rfl⟩,?_⟩|refine⟨⟨rfl,bH _ _⟩,?_⟩))) (by(repeat(first|exact trivial|refine⟨rfl,?_⟩))) (by(repeat(first|exact trivial|refine⟨rfl,?_⟩)))
set_option maxHeartbeats 16000000 in
theorem afn(X M1 aH:bL)(x:Int×Int)(rest:List K)(hp:fy rest)(n c:Nat)(a m b:Int)(hn:(X++M1++[x]++aH).length=n)(gp:n<=100000)(hU:ee M1)(h0:1<M1.length)(ha:a=X.length)(hm:m=a+M1.length)(Z:b=m+1):eI prog 138 [20] [dY n c,E a,E m,E b,eV] [(20,bM (X++M1++[x]++aH) rest)] (λ d Y=>d=.bd []/\∃dZ,ju (M1++[x]) dZ/\Y=[(20,bM (X++dZ++aH) rest)]):=by
 have bH:∀{S:bL}(B au:Nat->Bool),K.ok.eR B au (bM S rest)=true:=λ B au=>wl hp B au
 have n8:=hn;simp only[List.length_append,List.length_cons,List.length_nil] at hn;refine sI func138 ntmps138 λ w cl own kf=>?_
 refine go ?_;rw[show decide (m-a=1)=false by rw[decide_eq_false_iff_not];omega];refine go ?_;rw[show decide (b-m=1)=true by rw[decide_eq_true_eq];omega];refine go ?_;refine cn (λ p:Nat×Nat=>p.1<=p.2/\p.2<=M1.length/\(∀y∈M1.take p.1,y.1<=x.1)/\(∀y∈M1.drop p.2,x.1<y.1)) (λ p=>⟨[(14,E (a+p.1)),(15,E (a+p.2)),(4,eV),(2,E m),(1,E a),(0,dY n c)],[(20,bM (X++M1++[x]++aH) rest)],[]⟩) (λ p=>p.2-p.1) (0,M1.length) ⟨Nat.zero_le _,Nat.le_refl _,λ y hy=>by simp at hy,λ y hy=>by simp at hy⟩ (by rw[show a+((0:Nat):Int)=a by omega,<-hm];exact e7 (by(repeat(first|exact trivial|refine⟨⟨rfl,rfl⟩,?_⟩))) (by(repeat(first|exact trivial|refine⟨⟨rfl,rfl⟩,?_⟩|refine⟨⟨rfl,bH _ _⟩,?_⟩))) (by(repeat(first|exact trivial|refine⟨rfl,?_⟩))) (by(repeat(first|exact trivial|refine⟨rfl,?_⟩)))) ?_;rintro⟨i,j⟩ ⟨kq,hj,n6,qS⟩;simp only at kq hj n6 qS;refine(show aP _ _ _ _ ⟨[(14,E (a+i)),(15,E (a+j)),(4,eV),(2,E m),(1,E a),(0,dY n c)],[(20,bM (X++M1++[x]++aH) rest)],[]⟩ from ?_);refine go ?_
 by_cases A:i<j
 ·rw[show decide (a+(i:Int)<a+j)=true by rw[decide_eq_true_eq];omega];have hw:IntKind.i64.wrap (((a+(i:Int)+(a+j)).toNat/2:Nat):Int)=a+((i+j)/2:Nat):=by rw[eU (by omega) (by omega)];omega
  refine go ?_;rw[IF (by omega) (by omega)];refine bh (In rfl rfl) rfl rfl rfl ?_;refine go ?_;rw[hw];clear hw;have QJ:i<=(i+j)/2/\(i+j)/2<j:=by omega
  generalize(i+j)/2=h at*;obtain⟨y,hy⟩:∃y,M1[h]?=some y:=⟨M1[h]'(by omega),List.getElem?_eq_getElem _⟩;have du:(X++M1++[x]++aH)[X.length+h]?=some y:=by rw[show X++M1++[x]++aH=X++M1++([x]++aH) by simp];exact GC hy rfl
  have cj:(X++M1++[x]++aH)[X.length+M1.length]?=some x:=by rw[show X++M1++[x]++aH=(X++M1)++x::aH by simp];exact t7 _ _ _ (by simp)
  have Lf:¬x.1<y.1->(∀z∈M1.take (h+1),z.1<=x.1):=λ bm z hz=>by have:=Ix hU hy z hz;omega
  have Lg:x.1<y.1->(∀z∈M1.drop h,x.1<z.1):=λ bm z hz=>by have:=Gl hU hy z hz;omega
  obtain⟨r1,jh⟩:=pL cj rest;obtain⟨r2,nB⟩:=pL du rest;have tf:=sm (X++M1++[x]++aH) rest;have uk:=(List.getElem?_eq_some_iff.1 cj).1;have ul:=(List.getElem?_eq_some_iff.1 du).1;have sS:=Gb x y;have bm:=Jv x y;generalize tP x.1 y.1=cv at sS bm;generalize qJ:X++M1++[x]++aH=S1 at*;generalize ua:bM S1 rest=R1 at*;have xw:∀(B au:Nat->Bool),K.ok.eR B au R1=true:=λ B au=>by rw[<-ua];exact bH B au
  refine gD [] ?_;refine cV (iu (p:=(X.length+M1.length)*2) aD rfl rfl rfl rfl rfl (by omega) (by omega) (by show(X.length+M1.length)*2=(m).toNat*2;omega)) rfl rfl ?_;refine cV (mQ aD [E x.1,E x.2] r1 rfl rfl rfl rfl rfl (by show(X.length+M1.length)*2<=R1.length;omega) jh rfl) rfl rfl ?_;refine br ?_;refine cV (iu (p:=(X.length+h)*2) aD rfl rfl rfl rfl rfl (by omega) (by omega) (by show(X.length+h)*2=(a+h).toNat*2;omega)) rfl rfl ?_;refine cV (mQ aD [E y.1,E y.2] r2 rfl rfl rfl rfl rfl (by show(X.length+h)*2<=R1.length;omega) nB rfl) rfl rfl ?_;refine br ?_;refine cV (wP sS rfl (λ a w=>call85 a w) rfl rfl) rfl rfl ?_;refine qg ?_;rw[bm]
  by_cases F:x.1<y.1
  ·rw[show decide (x.1<y.1)=true from decide_eq_true F];refine go ?_;refine⟨(i,h),⟨by simp only;omega,by simp only;omega,n6,Lg F⟩,by simp only;omega,?_⟩;show bY _ _ ⟨[(14,E (a+i)),(15,E (a+h)),(4,eV),(2,E m),(1,E a),(0,dY n c)],[(20,R1)],[]⟩;exact e7 (by(repeat(first|exact trivial|refine⟨⟨rfl,rfl⟩,?_⟩))) (by(repeat(first|exact trivial|refine⟨⟨rfl,rfl⟩,?_⟩|refine⟨⟨rfl,xw _ _⟩,?_⟩))) (by(repeat(first|exact trivial|refine⟨rfl,?_⟩))) (by(repeat(first|exact trivial|refine⟨rfl,?_⟩)))
  ·rw[show decide (x.1<y.1)=false from decide_eq_false F];refine go ?_;refine⟨(h+1,j),⟨by simp only;omega,by simp only;omega,Lf F,qS⟩,by simp only;omega,?_⟩;show bY _ _ ⟨[(14,E (a+((h+1:Nat):Int))),(15,E (a+j)),(4,eV),(2,E m),(1,E a),(0,dY n c)],[(20,R1)],[]⟩;rw[show a+((h+1:Nat):Int)=a+(h:Int)+1 by omega];exact e7 (by(repeat(first|exact trivial|refine⟨⟨rfl,rfl⟩,?_⟩))) (by(repeat(first|exact trivial|refine⟨⟨rfl,rfl⟩,?_⟩|refine⟨⟨rfl,xw _ _⟩,?_⟩))) (by(repeat(first|exact trivial|refine⟨rfl,?_⟩))) (by(repeat(first|exact trivial|refine⟨rfl,?_⟩)))
 ·have hd:j=i:=by omega
  subst hd;rw[show decide (a+(j:Int)<a+j)=false by rw[decide_eq_false_iff_not];omega];have hM:=List.take_append_drop j M1;have Rh:(M1.take j).length=j:=by rw[List.length_take];omega
  have ug:(M1.drop j).length=M1.length-j:=List.length_drop ..;generalize M1.take j=P at*;generalize M1.drop j=Q at*;subst hM;have lh:=Nf hU n6 qS;simp only[List.length_append] at hn ug hm h0;refine go ?_;refine cn (λ p:bL×bL=>Q=p.1++p.2) (λ p=>⟨[(17,E (a+j+p.1.length)),(14,E (a+j)),(0,dY n c)],[(20,bM (X++P++(p.1++x::p.2)++aH) rest)],[]⟩) (λ p=>p.1.length) (Q,[]) (List.append_nil _).symm (by rw[show a+(j:Int)+(Q.length:Int)=m by omega,show X++P++(Q++x::[])++aH=X++(P++Q)++[x]++aH by simp];exact e7 (by(repeat(first|exact trivial|refine⟨⟨rfl,rfl⟩,?_⟩))) (by(repeat(first|exact trivial|refine⟨⟨rfl,rfl⟩,?_⟩|refine⟨⟨rfl,bH _ _⟩,?_⟩))) (by(repeat(first|exact trivial|refine⟨rfl,?_⟩))) (by(repeat(first|exact trivial|refine⟨rfl,?_⟩)))) ?_;rintro⟨am,B⟩ sO;simp only at sO;have GH:am.length+B.length=Q.length:=by rw[sO];simp
  refine(show aP _ _ _ _ ⟨[(17,E (a+j+am.length)),(14,E (a+j)),(0,dY n c)],[(20,bM (X++P++(am++x::B)++aH) rest)],[]⟩ from ?_);rcases List.eq_nil_or_concat am with rfl|⟨am,z,rfl⟩
  ·refine go ?_;rw[show decide (a+(j:Int)+((([]:bL).length:Nat):Int)>a+(j:Int))=false by rw[decide_eq_false_iff_not];simp];rw[show X++P++([]++x::B)++aH=X++(P++x::Q)++aH by rw[sO];simp];refine go ?_;refine iB (d:=.bd []) [(20,bM (X++(P++x::Q)++aH) rest)] ?_ rfl ⟨⟨rfl,bH _ _⟩,trivial⟩ ⟨rfl,trivial⟩ ⟨rfl,P++x::Q,lh,rfl⟩
   rfl
  ·simp only[List.concat_eq_append] at*;have dX:(am++[z]).length=am.length+1:=by simp
   rw[dX] at GH;rw[dX];refine go ?_;rw[show decide (a+(j:Int)+((am.length+1:Nat):Int)>a+(j:Int))=true by rw[decide_eq_true_eq];omega];have e1:X++P++((am++[z])++x::B)++aH=(X++P++am++[z])++x::(B++aH):=by simp
   have e2:X++P++((am++[z])++x::B)++aH=(X++P++am)++z::(x::(B++aH)):=by simp
   have e3:(X++P++am++[z])++z::(B++aH)=(X++P++am)++z::(z::(B++aH)):=by simp
   have cj:(X++P++((am++[z])++x::B)++aH)[X.length+j+am.length+1]?=some x:=by rw[e1];exact t7 _ _ _ (by simp;omega)
   have du:(X++P++((am++[z])++x::B)++aH)[X.length+j+am.length]?=some z:=by rw[e2];exact t7 _ _ _ (by simp;omega)
   have zk:((X++P++((am++[z])++x::B)++aH).set (X.length+j+am.length+1) z).set (X.length+j+am.length) x=X++P++(am++x::(z::B))++aH:=by rw[e1,xZ _ _ _ _ (by simp;omega),e3,xZ _ _ _ _ (by simp;omega)];simp
   have n8:(X++P++((am++[z])++x::B)++aH).length=n:=by simp;omega
   clear e1 e2 e3;obtain⟨r1,jh⟩:=pL cj rest;obtain⟨r2,nB⟩:=pL du rest;have tf:=sm (X++P++((am++[z])++x::B)++aH) rest;have uk:=(List.getElem?_eq_some_iff.1 cj).1;have ul:=(List.getElem?_eq_some_iff.1 du).1;have zl:=xT (S:=X++P++((am++[z])++x::B)++aH) (i:=X.length+j+am.length+1) z uk rest;have tl:=xT (S:=(X++P++((am++[z])++x::B)++aH).set (X.length+j+am.length+1) z) (i:=X.length+j+am.length) x (by rw[List.length_set];exact ul) rest;rw[zk] at tl;have ze:=sm ((X++P++((am++[z])++x::B)++aH).set (X.length+j+am.length+1) z) rest;rw[List.length_set] at ze;generalize qJ:X++P++((am++[z])++x::B)++aH=S1 at*;generalize ua:bM S1 rest=R1 at*;generalize Kf:bM (S1.set (X.length+j+am.length+1) z) rest=R2 at*;refine go ?_;refine gD [20] ?_;refine cV (iu (p:=(X.length+j+am.length)*2) aD rfl rfl rfl rfl rfl (by omega) (by omega) (by show(X.length+j+am.length)*2=(a+j+((am.length+1:Nat):Int)-1).toNat*2;omega)) rfl rfl ?_;refine xN (mQ aD [E z.1,E z.2] r2 rfl rfl rfl rfl rfl (by show(X.length+j+am.length)*2<=R1.length;omega) nB rfl) rfl rfl (by kernel_rfl) ?_;refine br ?_;refine cV (iu (p:=(X.length+j+am.length+1)*2) aD rfl rfl rfl rfl rfl (by omega) (by omega) (by show(X.length+j+am.length+1)*2=(a+j+((am.length+1:Nat):Int)).toNat*2;omega)) rfl rfl ?_;refine xN (mQ aD [E x.1,E x.2] r1 rfl rfl rfl rfl rfl (by show(X.length+j+am.length+1)*2<=R1.length;omega) jh rfl) rfl rfl (by kernel_rfl) ?_
   refine cV (iu (p:=(X.length+j+am.length+1)*2) aD rfl rfl rfl rfl rfl (by omega) (by omega) (by show(X.length+j+am.length+1)*2=(a+j+((am.length+1:Nat):Int)).toNat*2;omega)) rfl rfl ?_;refine uJ (aS:=R2) aD rfl rfl rfl rfl rfl rfl rfl rfl (x7 (by show(X.length+j+am.length+1)*2+2<=R1.length;omega) zl) rfl rfl (.inl rfl) ?_;refine cV (iu (p:=(X.length+j+am.length)*2) aD rfl rfl rfl rfl rfl (by omega) (by omega) (by show(X.length+j+am.length)*2=(a+j+((am.length+1:Nat):Int)-1).toNat*2;omega)) rfl rfl ?_;refine uJ (aS:=bM (X++P++(am++x::(z::B))++aH) rest) aD rfl rfl rfl rfl rfl rfl rfl rfl (x7 (by show(X.length+j+am.length)*2+2<=R2.length;omega) tl) rfl rfl (.inr (by kernel_rfl)) ?_;refine qg ?_;refine⟨(am,z::B),by simp only;rw[sO];simp,by simp only;omega,?_⟩;show bY _ _ ⟨[(17,E (a+j+am.length)),(14,E (a+j)),(0,dY n c)],[(20,bM (X++P++(am++x::(z::B))++aH) rest)],[]⟩;rw[show a+(j:Int)+(am.length:Int)=a+(j:Int)+((am.length+1:Nat):Int)-1 by omega];exact e7 (by(repeat(first|exact trivial|refine⟨⟨rfl,rfl⟩,?_⟩))) (by(repeat(first|exact trivial|refine⟨⟨rfl,rfl⟩,?_⟩|refine⟨⟨rfl,bH _ _⟩,?_⟩))) (by(repeat(first|exact trivial|refine⟨rfl,?_⟩))) (by(repeat(first|exact trivial|refine⟨rfl,?_⟩)))
structure CQ(M1 M2:bL)(s lo hi u v:Nat):Prop where
 a:lo<=u
 b:u<=v
 c:v<=hi
 l:u=lo\/∃x y,M1[u-1]?=some x/\M2[s-u]?=some y/\x.1<=y.1
 r:v=hi\/∃x y,M1[v]?=some x/\M2[s-1-v]?=some y/\y.1<x.1
structure NZ(na nb s lo hi:Nat):Prop where
 a:lo<=hi
 b:hi<=na
 c:hi<=s
 d:s<=lo+nb
 e:lo=0\/s=lo+nb
 f:hi=na\/hi=s
theorem W9{M1 M2 aE aO:bL}{s lo hi u:Nat}(A:ee M1)(F:ee M2)(I:NZ M1.length M2.length s lo hi)(h:CQ M1 M2 s lo hi u u)(hL:ju (M1.take u++M2.take (s-u)) aE)(hR:ju (M1.drop u++M2.drop (s-u)) aO):ju (M1++M2) (aE++aO):=by
 have U:=h.a;have hr:=h.c;have e1:=I.b;have e2:=I.c;have e3:=I.d;have key:=afc (A1:=M1.take u) (A2:=M1.drop u) (B1:=M2.take (s-u)) (B2:=M2.drop (s-u)) (aE:=aE) (aO:=aO) (by rw[List.take_append_drop];exact A) (by rw[List.take_append_drop];exact F) ?_ ?_ hL hR
 ·rw[List.take_append_drop,List.take_append_drop] at key;exact key
 ·intro x T y hy;rcases h.l with e|⟨x0,afY,k1,k2,k3⟩
  ·rcases I.e with ab|ab
   ·rw[e,ab] at T;simp at T
   ·rw[List.drop_of_length_le (by omega)] at hy;cases hy
  ·have hu:u≠0:=by
    intro e0;subst e0;simp at T
   have a1:=Ix A k1 x (by rw[show u-1+1=u by omega];exact T);have a2:=Gl F k2 y hy;omega
 ·intro y hy x T;rcases h.r with e|⟨x0,afY,k1,k2,k3⟩
  ·rcases I.f with ab|ab
   ·rw[List.drop_of_length_le (by omega)] at T;cases T
   ·rw[show s-u=0 by omega] at hy;simp at hy
  ·rcases Nat.lt_or_ge u s with Hq|Hq
   ·have a1:=Ix F k2 y (by rw[show s-1-u+1=s-u by omega];exact hy);have a2:=Gl A k1 x T;omega
   ·rw[show s-u=0 by omega] at hy;simp at hy
set_option maxHeartbeats 32000000 in
theorem Ny(rest:List K)(hp:fy rest)(n c:Nat)(gp:n<=100000):∀(N:Nat)(X M1 M2 aH:bL)(a m b:Int),M1.length+M2.length<=N->(X++M1++M2++aH).length=n->ee M1->ee M2->0<M1.length->0<M2.length->a=X.length->m=a+M1.length->b=m+M2.length->eI prog 138 [20] [dY n c,E a,E m,E b,eV] [(20,bM (X++M1++M2++aH) rest)] (λ d Y=>d=.bd []/\∃dZ,ju (M1++M2) dZ/\Y=[(20,bM (X++dZ++aH) rest)])
 |0,X,M1,M2,aH,a,m,b,hN,hn,ub,yM,Ya,PR,ha,hm,Z=>by omega
 |N+1,X,M1,M2,aH,a,m,b,hN,hn,ub,yM,Ya,PR,ha,hm,Z=>by
  have bH:∀{S:bL}(B au:Nat->Bool),K.ok.eR B au (bM S rest)=true:=λ B au=>wl hp B au
  by_cases q1:M1.length=1
  ·match M1,q1 with
   |[x],_=>exact afm X M2 aH x rest hp n c a m b hn gp yM PR ha (by simpa using hm) Z
  by_cases q2:M2.length=1
  ·match M2,q2 with
   |[x],_=>exact afn X M1 aH x rest hp n c a m b hn gp ub (by omega) ha hm (by simpa using Z)
  have IH:=Ny rest hp n c gp N;have n8:=hn;simp only[List.length_append] at hn;obtain⟨s,hs⟩:∃s,s=(M1.length+M2.length)/2:=⟨_,rfl⟩;refine sI func138 ntmps138 λ w cl own kf=>?_
  refine go ?_;rw[show decide (m-a=1)=false by rw[decide_eq_false_iff_not];omega];refine go ?_;rw[show decide (b-m=1)=false by rw[decide_eq_false_iff_not];omega];refine zU (zD (zM ?_));have hw:IntKind.i64.wrap (((a+b).toNat/2:Nat):Int)=a+s:=by rw[eU (by omega) (by omega)];omega
  refine zA (zB ?_);refine im ?_;rw[IF (by omega) (by omega)];refine bh (In rfl rfl) rfl rfl rfl ?_;refine im ?_;rw[hw];clear hw;refine zM (zA (zB ?_));refine im ?_;refine zM (zA (zB ?_));refine im ?_;refine zM ?_;refine Da (d7:=Nat×Nat) (λ p=>⟨[(20,E (a+p.1)),(21,E (a+p.2)),(19,E (a+s+m)),(18,E (a+s)),(4,eV),(3,E b),(2,E m),(1,E a),(0,dY n c)],[(20,bM (X++M1++M2++aH) rest)],[]⟩) (λ p=>NZ M1.length M2.length s p.1 p.2) ?_ ?_
  ·refine go ?_
   by_cases hg:s<M1.length
   ·rw[show decide (m>a+(s:Int))=true by rw[decide_eq_true_eq];omega];refine go ?_;refine⟨rfl,(s-M2.length,s),⟨by simp only;omega,by simp only;omega,by simp only;omega,by simp only;omega,.inr (by simp only;omega),.inr rfl⟩,?_⟩;simp only;rw[show a+((s-M2.length:Nat):Int)=a+(s:Int)+m-b by omega];exact e7 (by(repeat(first|exact trivial|refine⟨⟨rfl,rfl⟩,?_⟩))) (by(repeat(first|exact trivial|refine⟨⟨rfl,rfl⟩,?_⟩|refine⟨⟨rfl,bH _ _⟩,?_⟩))) (by(repeat(first|exact trivial|refine⟨rfl,?_⟩))) (by(repeat(first|exact trivial|refine⟨rfl,?_⟩)))
   ·rw[show decide (m>a+(s:Int))=false by rw[decide_eq_false_iff_not];omega];refine go ?_;refine⟨rfl,(0,M1.length),⟨by simp only;omega,by simp only;omega,by simp only;omega,by simp only;omega,.inl rfl,.inl rfl⟩,?_⟩;simp only;rw[show a+((0:Nat):Int)=a by omega,<-hm];exact e7 (by(repeat(first|exact trivial|refine⟨⟨rfl,rfl⟩,?_⟩))) (by(repeat(first|exact trivial|refine⟨⟨rfl,rfl⟩,?_⟩|refine⟨⟨rfl,bH _ _⟩,?_⟩))) (by(repeat(first|exact trivial|refine⟨rfl,?_⟩))) (by(repeat(first|exact trivial|refine⟨rfl,?_⟩)))
  rintro⟨lo,hi⟩ I;simp only at I;refine(show aP _ _ _ _ ⟨[(20,E (a+lo)),(21,E (a+hi)),(19,E (a+s+m)),(18,E (a+s)),(4,eV),(3,E b),(2,E m),(1,E a),(0,dY n c)],[(20,bM (X++M1++M2++aH) rest)],[]⟩ from ?_);have g1:=I.b;have g2:=I.c;have g3:=I.d;have g4:=I.a;refine zA (zB ?_);refine im ?_;refine zM ?_;refine Da (d7:=Nat) (λ u=>⟨[(20,E (a+u)),(19,E (a+s+m)),(18,E (a+s)),(4,eV),(3,E b),(2,E m),(1,E a),(0,dY n c)],[(20,bM (X++M1++M2++aH) rest)],[]⟩) (λ u=>CQ M1 M2 s lo hi u u) ?_ ?_
  ·refine go ?_;refine cn (λ p:Nat×Nat=>CQ M1 M2 s lo hi p.1 p.2) (λ p=>⟨[(20,E (a+p.1)),(21,E (a+p.2)),(22,E (a+s+m-1)),(19,E (a+s+m)),(18,E (a+s)),(4,eV),(3,E b),(2,E m),(1,E a),(0,dY n c)],[(20,bM (X++M1++M2++aH) rest)],[]⟩) (λ p=>p.2-p.1) (lo,hi) ⟨Nat.le_refl _,I.a,Nat.le_refl _,.inl rfl,.inl rfl⟩ (e7 (by(repeat(first|exact trivial|refine⟨⟨rfl,rfl⟩,?_⟩))) (by(repeat(first|exact trivial|refine⟨⟨rfl,rfl⟩,?_⟩|refine⟨⟨rfl,bH _ _⟩,?_⟩))) (by(repeat(first|exact trivial|refine⟨rfl,?_⟩))) (by(repeat(first|exact trivial|refine⟨rfl,?_⟩)))) ?_;rintro⟨u,v⟩ hC;simp only at hC;refine(show aP _ _ _ _ ⟨[(20,E (a+u)),(21,E (a+v)),(22,E (a+s+m-1)),(19,E (a+s+m)),(18,E (a+s)),(4,eV),(3,E b),(2,E m),(1,E a),(0,dY n c)],[(20,bM (X++M1++M2++aH) rest)],[]⟩ from ?_);have g5:=hC.a;have agx:=hC.b;have g7:=hC.c;refine go ?_
   by_cases A:u<v
   ·rw[show decide (a+(u:Int)<a+v)=true by rw[decide_eq_true_eq];omega];have hw:IntKind.i64.wrap (((a+(u:Int)+(a+v)).toNat/2:Nat):Int)=a+((u+v)/2:Nat):=by rw[eU (by omega) (by omega)];omega
    refine go ?_;rw[IF (by omega) (by omega)];refine bh (In rfl rfl) rfl rfl rfl ?_;refine go ?_;rw[hw];clear hw;have QJ:u<=(u+v)/2/\(u+v)/2<v:=by omega
    generalize(u+v)/2=h at*;obtain⟨x,T⟩:∃x,M1[h]?=some x:=⟨M1[h]'(by omega),List.getElem?_eq_getElem _⟩;obtain⟨y,hy⟩:∃y,M2[s-1-h]?=some y:=⟨M2[s-1-h]'(by omega),List.getElem?_eq_getElem _⟩;have cj:(X++M1++M2++aH)[X.length+M1.length+(s-1-h)]?=some y:=GC (P:=X++M1) hy (by simp);have du:(X++M1++M2++aH)[X.length+h]?=some x:=by rw[show X++M1++M2++aH=X++M1++(M2++aH) by simp];exact GC T rfl
    have aas:¬y.1<x.1->CQ M1 M2 s lo hi (h+1) v:=λ bm=>⟨by omega,by omega,g7,.inr ⟨x,y,by rw[show h+1-1=h by omega];exact T,by rw[show s-(h+1)=s-1-h by omega];exact hy,by omega⟩,hC.r⟩
    have aat:y.1<x.1->CQ M1 M2 s lo hi u h:=λ bm=>⟨g5,by omega,by omega,hC.l,.inr ⟨x,y,T,hy,bm⟩⟩
    obtain⟨r1,jh⟩:=pL cj rest;obtain⟨r2,nB⟩:=pL du rest;have tf:=sm (X++M1++M2++aH) rest;have uk:=(List.getElem?_eq_some_iff.1 cj).1;have ul:=(List.getElem?_eq_some_iff.1 du).1;have sS:=Gb y x;have bm:=Jv y x;generalize tP y.1 x.1=cv at sS bm;generalize qJ:X++M1++M2++aH=S1 at*;generalize ua:bM S1 rest=R1 at*;have xw:∀(B au:Nat->Bool),K.ok.eR B au R1=true:=λ B au=>by rw[<-ua];exact bH B au
    refine gD [] ?_;refine cV (iu (p:=(X.length+M1.length+(s-1-h))*2) aD rfl rfl rfl rfl rfl (by omega) (by omega) (by show(X.length+M1.length+(s-1-h))*2=(a+s+m-1-(a+h)).toNat*2;omega)) rfl rfl ?_;refine cV (mQ aD [E y.1,E y.2] r1 rfl rfl rfl rfl rfl (by show(X.length+M1.length+(s-1-h))*2<=R1.length;omega) jh rfl) rfl rfl ?_;refine br ?_;refine cV (iu (p:=(X.length+h)*2) aD rfl rfl rfl rfl rfl (by omega) (by omega) (by show(X.length+h)*2=(a+h).toNat*2;omega)) rfl rfl ?_;refine cV (mQ aD [E x.1,E x.2] r2 rfl rfl rfl rfl rfl (by show(X.length+h)*2<=R1.length;omega) nB rfl) rfl rfl ?_;refine br ?_;refine cV (wP sS rfl (λ a w=>call85 a w) rfl rfl) rfl rfl ?_;refine qg ?_;rw[bm]
    by_cases F:y.1<x.1
    ·rw[show decide (y.1<x.1)=true from decide_eq_true F];refine go ?_;refine⟨(u,h),aat F,by simp only;omega,?_⟩;show bY _ _ ⟨[(20,E (a+u)),(21,E (a+h)),(22,E (a+s+m-1)),(19,E (a+s+m)),(18,E (a+s)),(4,eV),(3,E b),(2,E m),(1,E a),(0,dY n c)],[(20,R1)],[]⟩;exact e7 (by(repeat(first|exact trivial|refine⟨⟨rfl,rfl⟩,?_⟩))) (by(repeat(first|exact trivial|refine⟨⟨rfl,rfl⟩,?_⟩|refine⟨⟨rfl,xw _ _⟩,?_⟩))) (by(repeat(first|exact trivial|refine⟨rfl,?_⟩))) (by(repeat(first|exact trivial|refine⟨rfl,?_⟩)))
    ·rw[show decide (y.1<x.1)=false from decide_eq_false F];refine go ?_;refine⟨(h+1,v),aas F,by simp only;omega,?_⟩;show bY _ _ ⟨[(20,E (a+((h+1:Nat):Int))),(21,E (a+v)),(22,E (a+s+m-1)),(19,E (a+s+m)),(18,E (a+s)),(4,eV),(3,E b),(2,E m),(1,E a),(0,dY n c)],[(20,R1)],[]⟩;rw[show a+((h+1:Nat):Int)=a+(h:Int)+1 by omega];exact e7 (by(repeat(first|exact trivial|refine⟨⟨rfl,rfl⟩,?_⟩))) (by(repeat(first|exact trivial|refine⟨⟨rfl,rfl⟩,?_⟩|refine⟨⟨rfl,xw _ _⟩,?_⟩))) (by(repeat(first|exact trivial|refine⟨rfl,?_⟩))) (by(repeat(first|exact trivial|refine⟨rfl,?_⟩)))
   ·have aaC:v=u:=by omega
    subst aaC;rw[show decide (a+(v:Int)<a+v)=false by rw[decide_eq_false_iff_not];omega];refine go ?_;exact⟨rfl,v,hC,e7 (by(repeat(first|exact trivial|refine⟨⟨rfl,rfl⟩,?_⟩))) (by(repeat(first|exact trivial|refine⟨⟨rfl,rfl⟩,?_⟩|refine⟨⟨rfl,bH _ _⟩,?_⟩))) (by(repeat(first|exact trivial|refine⟨rfl,?_⟩))) (by(repeat(first|exact trivial|refine⟨rfl,?_⟩)))⟩
  intro u hC;have g5:=hC.a;have g7:=hC.c;have lh:∀{aE aO:bL},ju (M1.take u++M2.take (s-u)) aE->ju (M1.drop u++M2.drop (s-u)) aO->ju (M1++M2) (aE++aO):=λ hL hR=>W9 ub yM I hC hL hR
  have c1:=List.take_append_drop u M1;have c2:=List.take_append_drop (s-u) M2;have l1:(M1.take u).length=u:=by rw[List.length_take];omega
  have l2:(M2.take (s-u)).length=s-u:=by rw[List.length_take];omega
  have l3:(M1.drop u).length=M1.length-u:=List.length_drop ..;have ahH:(M2.drop (s-u)).length=M2.length-(s-u):=List.length_drop ..;have u1:ee (M1.take u):=by rw[<-c1] at ub;exact ub.left
  have u2:ee (M1.drop u):=by rw[<-c1] at ub;exact ub.right
  have u3:ee (M2.take (s-u)):=by rw[<-c2] at yM;exact yM.left
  have u4:ee (M2.drop (s-u)):=by rw[<-c2] at yM;exact yM.right
  have rU:X++M1++M2++aH=X++M1.take u++M1.drop u++M2.take (s-u)++M2.drop (s-u)++aH:=by rw[show X++M1.take u++M1.drop u++M2.take (s-u)++M2.drop (s-u)++aH=X++(M1.take u++M1.drop u)++(M2.take (s-u)++M2.drop (s-u))++aH by simp,c1,c2]
  rw[rU];rw[rU] at n8;clear rU c1 c2 hC I;generalize M1.take u=A1 at*;generalize M1.drop u=A2 at*;generalize M2.take (s-u)=B1 at*;generalize M2.drop (s-u)=B2 at*;refine zA (zB ?_);refine im ?_;refine zM ?_;rw[show a+(s:Int)+m-(a+u)=m+s-u by omega];refine Da (d7:=Unit) (λ _=>⟨[(24,E (m+s-u)),(20,E (a+u)),(18,E (a+s)),(4,eV),(3,E b),(2,E m),(1,E a),(0,dY n c)],[(20,bM (X++A1++B1++(A2++B2++aH)) rest)],[]⟩) (λ _=>True) ?_ ?_
  ·refine go ?_
   by_cases k1:u<M1.length
   ·rw[show decide (a+(u:Int)<m)=true by rw[decide_eq_true_eq];omega];refine go ?_
    by_cases k2:u<s
    ·rw[show decide (m<m+(s:Int)-u)=true by rw[decide_eq_true_eq];omega];have hr:=aew (X++A1) A2 B1 (B2++aH) rest hp n c (a+u) m (m+s-u) (by rw[<-n8];simp) gp (by omega) (by omega) (by simp;omega) (by omega) (by omega);rw[show X++A1++A2++B1++(B2++aH)=X++A1++A2++B1++B2++aH by simp,show X++A1++B1++A2++(B2++aH)=X++A1++B1++(A2++B2++aH) by simp] at hr;refine go ?_;refine il hr rfl (λ a w=>call183 a w) rfl rfl ⟨⟨rfl,bH _ _⟩,trivial⟩ (by(repeat(first|exact trivial|refine⟨.inr rfl,?_⟩|refine⟨.inl rfl,?_⟩))) rfl rfl rfl rfl ?_ ?_
     ·rintro d Y ⟨rfl,rfl⟩;exact⟨.inl rfl,trivial⟩
     rintro d Y ⟨rfl,rfl⟩;refine go ?_;exact⟨rfl,(),trivial,e7 (by(repeat(first|exact trivial|refine⟨⟨rfl,rfl⟩,?_⟩))) (by(repeat(first|exact trivial|refine⟨⟨rfl,rfl⟩,?_⟩|refine⟨⟨rfl,bH _ _⟩,?_⟩))) (by(repeat(first|exact trivial|refine⟨rfl,?_⟩))) (by(repeat(first|exact trivial|refine⟨rfl,?_⟩)))⟩
    ·have:B1=[]:=List.length_eq_zero_iff.1 (by omega);subst this;rw[show decide (m<m+(s:Int)-u)=false by rw[decide_eq_false_iff_not];omega];refine go ?_;refine⟨rfl,(),trivial,?_⟩;rw[show X++A1++A2++[]++B2++aH=X++A1++[]++(A2++B2++aH) by simp];exact e7 (by(repeat(first|exact trivial|refine⟨⟨rfl,rfl⟩,?_⟩))) (by(repeat(first|exact trivial|refine⟨⟨rfl,rfl⟩,?_⟩|refine⟨⟨rfl,bH _ _⟩,?_⟩))) (by(repeat(first|exact trivial|refine⟨rfl,?_⟩))) (by(repeat(first|exact trivial|refine⟨rfl,?_⟩)))
   ·have:A2=[]:=List.length_eq_zero_iff.1 (by omega);subst this;rw[show decide (a+(u:Int)<m)=false by rw[decide_eq_false_iff_not];omega];refine go ?_;refine⟨rfl,(),trivial,?_⟩;rw[show X++A1++[]++B1++B2++aH=X++A1++B1++([]++B2++aH) by simp];exact e7 (by(repeat(first|exact trivial|refine⟨⟨rfl,rfl⟩,?_⟩))) (by(repeat(first|exact trivial|refine⟨⟨rfl,rfl⟩,?_⟩|refine⟨⟨rfl,bH _ _⟩,?_⟩))) (by(repeat(first|exact trivial|refine⟨rfl,?_⟩))) (by(repeat(first|exact trivial|refine⟨rfl,?_⟩)))
  intro _ _;have ahg:X.length+A1.length+B1.length+(A2.length+B2.length+aH.length)=n:=by rw[<-n8];simp;omega
  refine Da (d7:=bL) (λ aE=>⟨[(24,E (m+s-u)),(20,E (a+u)),(18,E (a+s)),(4,eV),(3,E b),(2,E m),(1,E a),(0,dY n c)],[(20,bM (X++aE++A2++B2++aH) rest)],[]⟩) (λ aE=>ju (A1++B1) aE) ?_ ?_
  ·refine go ?_
   by_cases k1:0<u
   ·rw[show decide (a<a+(u:Int))=true by rw[decide_eq_true_eq];omega];refine go ?_
    by_cases k2:u<s
    ·rw[show decide (a+(u:Int)<a+s)=true by rw[decide_eq_true_eq];omega];have hr:=IH X A1 B1 (A2++B2++aH) a (a+u) (a+s) (by omega) (by simp;omega) u1 u3 (by omega) (by omega) ha (by omega) (by omega);refine go ?_;refine il hr rfl (λ a w=>call138 a w) rfl rfl ⟨⟨rfl,bH _ _⟩,trivial⟩ (by(repeat(first|exact trivial|refine⟨.inr rfl,?_⟩|refine⟨.inl rfl,?_⟩))) rfl rfl rfl rfl ?_ ?_
     ·rintro d Y ⟨rfl,aE,_,rfl⟩;exact⟨.inl rfl,trivial⟩
     rintro d Y ⟨rfl,aE,hL,rfl⟩;refine go ?_;refine⟨rfl,aE,hL,?_⟩;rw[show X++aE++A2++B2++aH=X++aE++(A2++B2++aH) by simp];exact e7 (by(repeat(first|exact trivial|refine⟨⟨rfl,rfl⟩,?_⟩))) (by(repeat(first|exact trivial|refine⟨⟨rfl,rfl⟩,?_⟩|refine⟨⟨rfl,bH _ _⟩,?_⟩))) (by(repeat(first|exact trivial|refine⟨rfl,?_⟩))) (by(repeat(first|exact trivial|refine⟨rfl,?_⟩)))
    ·have:B1=[]:=List.length_eq_zero_iff.1 (by omega);subst this;rw[show decide (a+(u:Int)<a+s)=false by rw[decide_eq_false_iff_not];omega];refine go ?_;refine⟨rfl,A1,Up u1,?_⟩;rw[show X++A1++[]++(A2++B2++aH)=X++A1++A2++B2++aH by simp];exact e7 (by(repeat(first|exact trivial|refine⟨⟨rfl,rfl⟩,?_⟩))) (by(repeat(first|exact trivial|refine⟨⟨rfl,rfl⟩,?_⟩|refine⟨⟨rfl,bH _ _⟩,?_⟩))) (by(repeat(first|exact trivial|refine⟨rfl,?_⟩))) (by(repeat(first|exact trivial|refine⟨rfl,?_⟩)))
   ·have:A1=[]:=List.length_eq_zero_iff.1 (by omega);subst this;rw[show decide (a<a+(u:Int))=false by rw[decide_eq_false_iff_not];omega];refine go ?_;refine⟨rfl,B1,Uo u3,?_⟩;rw[show X++[]++B1++(A2++B2++aH)=X++B1++A2++B2++aH by simp];exact e7 (by(repeat(first|exact trivial|refine⟨⟨rfl,rfl⟩,?_⟩))) (by(repeat(first|exact trivial|refine⟨⟨rfl,rfl⟩,?_⟩|refine⟨⟨rfl,bH _ _⟩,?_⟩))) (by(repeat(first|exact trivial|refine⟨rfl,?_⟩))) (by(repeat(first|exact trivial|refine⟨rfl,?_⟩)))
  intro aE hL;have P5:=hL.len;simp only[List.length_append] at P5;refine go ?_
  by_cases k1:u<M1.length
  ·rw[show decide (a+(s:Int)<m+s-u)=true by rw[decide_eq_true_eq];omega];refine go ?_
   by_cases k2:s-u<M2.length
   ·rw[show decide (m+(s:Int)-u<b)=true by rw[decide_eq_true_eq];omega];have hr:=IH (X++aE) A2 B2 aH (a+s) (m+s-u) b (by omega) (by simp;omega) u2 u4 (by omega) (by omega) (by simp;omega) (by omega) (by omega);refine go ?_;refine il hr rfl (λ a w=>call138 a w) rfl rfl ⟨⟨rfl,bH _ _⟩,trivial⟩ (by(repeat(first|exact trivial|refine⟨.inr rfl,?_⟩|refine⟨.inl rfl,?_⟩))) rfl rfl rfl rfl ?_ ?_
    ·rintro d Y ⟨rfl,aO,_,rfl⟩;exact⟨.inl rfl,trivial⟩
    rintro d Y ⟨rfl,aO,hR,rfl⟩;refine go ?_;refine km (d:=.bd []) [(20,bM (X++aE++aO++aH) rest)] ?_ rfl ⟨⟨rfl,bH _ _⟩,trivial⟩ ⟨rfl,trivial⟩ ⟨rfl,aE++aO,lh hL hR,by simp⟩
    rfl
   ·have:B2=[]:=List.length_eq_zero_iff.1 (by omega);subst this;rw[show decide (m+(s:Int)-u<b)=false by rw[decide_eq_false_iff_not];omega];refine go ?_;refine km (d:=.bd []) [(20,bM (X++aE++A2++[]++aH) rest)] ?_ rfl ⟨⟨rfl,bH _ _⟩,trivial⟩ ⟨rfl,trivial⟩ ⟨rfl,aE++A2,lh hL (Up u2),by simp⟩
    rfl
  ·have:A2=[]:=List.length_eq_zero_iff.1 (by omega);subst this;rw[show decide (a+(s:Int)<m+s-u)=false by rw[decide_eq_false_iff_not];omega];refine go ?_;refine km (d:=.bd []) [(20,bM (X++aE++[]++B2++aH) rest)] ?_ rfl ⟨⟨rfl,bH _ _⟩,trivial⟩ ⟨rfl,trivial⟩ ⟨rfl,aE++B2,lh hL (Uo u4),by simp⟩
   rfl
set_option maxHeartbeats 32000000 in
theorem afh(S0:bL)(rest:List K)(hp:fy rest)(n c:Nat)(hn:S0.length=n)(gp:n<=100000):eI prog 110 [20] [dY n c,E n,eV] [(20,bM S0 rest)] (λ d Y=>d=.bd []/\∃S,ju S0 S/\Y=[(20,bM S rest)]):=by
 have bH:∀{S:bL}(B au:Nat->Bool),K.ok.eR B au (bM S rest)=true:=λ B au=>wl hp B au
 refine sI func110 ntmps110 λ w cl own kf=>?_
 refine go ?_;refine cn (λ p:bL×bL=>pb 20 p.1/\gz S0 (p.1++p.2)/\p.1.length+p.2.length=n) (λ p=>⟨[(8,E ((p.1.length:Int)+20)),(7,E p.1.length),(6,E 20),(0,dY n c),(1,E n),(2,eV)],[(20,bM (p.1++p.2) rest)],[]⟩) (λ p=>p.2.length) ([],S0) ⟨.nil,.refl _,by simp;omega⟩ (by show bY _ _ ⟨[(8,E 20),(7,E 0),(6,E 20),(0,dY n c),(1,E n),(2,eV)],[(20,bM S0 rest)],[]⟩;exact e7 (by(repeat(first|exact trivial|refine⟨⟨rfl,rfl⟩,?_⟩))) (by(repeat(first|exact trivial|refine⟨⟨rfl,rfl⟩,?_⟩|refine⟨⟨rfl,bH _ _⟩,?_⟩))) (by(repeat(first|exact trivial|refine⟨rfl,?_⟩))) (by(repeat(first|exact trivial|refine⟨rfl,?_⟩)))) ?_;rintro⟨ay,aO⟩ ⟨hD,hF,U⟩;simp only at hD hF U;refine(show aP _ _ _ _ ⟨[(8,E ((ay.length:Int)+20)),(7,E ay.length),(6,E 20),(0,dY n c),(1,E n),(2,eV)],[(20,bM (ay++aO) rest)],[]⟩ from ?_);refine go ?_
 by_cases A:20<=aO.length
 ·rw[show decide ((ay.length:Int)+20<=n)=true by rw[decide_eq_true_eq];omega];have c1:=List.take_append_drop 20 aO;have l1:(aO.take 20).length=20:=by rw[List.length_take];omega
  have l2:(aO.drop 20).length=aO.length-20:=List.length_drop ..;generalize aO.take 20=ak at*;generalize aO.drop 20=R2 at*;subst c1;have hI:=RI ay ak R2 rest hp n c ay.length ((ay.length:Int)+20) (by simp;omega) gp rfl (by omega);rw[List.append_assoc] at hI;refine go ?_;refine il hI rfl (λ a w=>call137 a w) rfl rfl ⟨⟨rfl,bH _ _⟩,trivial⟩ (by(repeat(first|exact trivial|refine⟨.inr rfl,?_⟩|refine⟨.inl rfl,?_⟩))) rfl rfl rfl rfl ?_ ?_
  ·rintro d Y ⟨rfl,dZ,_,rfl⟩;exact⟨.inl rfl,trivial⟩
  rintro d Y ⟨rfl,dZ,hM,rfl⟩;have nv:=hM.len;refine go ?_;refine⟨(ay++dZ,R2),⟨hD.snoc (by omega) hM.up,?_,by simp only[List.length_append];omega⟩,by simp only;omega,?_⟩
  ·have:=hF.trans ((gz.refl ay).app (hM.qF.app (.refl R2)))
   simpa using this
  ·show bY _ _ ⟨[(8,E (((ay++dZ).length:Int)+20)),(7,E (ay++dZ).length),(6,E 20),(0,dY n c),(1,E n),(2,eV)],[(20,bM (ay++dZ++R2) rest)],[]⟩;rw[show(((ay++dZ).length:Nat):Int)=(ay.length:Int)+20 by simp;omega];exact e7 (by(repeat(first|exact trivial|refine⟨⟨rfl,rfl⟩,?_⟩))) (by(repeat(first|exact trivial|refine⟨⟨rfl,rfl⟩,?_⟩|refine⟨⟨rfl,bH _ _⟩,?_⟩))) (by(repeat(first|exact trivial|refine⟨rfl,?_⟩))) (by(repeat(first|exact trivial|refine⟨rfl,?_⟩)))
 ·rw[show decide ((ay.length:Int)+20<=n)=false by rw[decide_eq_false_iff_not];omega];have hI:=RI ay aO [] rest hp n c ay.length n (by simp;omega) gp rfl (by omega);simp only[List.append_nil] at hI;refine go ?_;refine il hI rfl (λ a w=>call137 a w) rfl rfl ⟨⟨rfl,bH _ _⟩,trivial⟩ (by(repeat(first|exact trivial|refine⟨.inr rfl,?_⟩|refine⟨.inl rfl,?_⟩))) rfl rfl rfl rfl ?_ ?_
  ·rintro d Y ⟨rfl,dZ,_,rfl⟩;exact⟨.inl rfl,trivial⟩
  rintro d Y ⟨rfl,dZ,hM,rfl⟩;have nv:=hM.len;have Bs:gz S0 (ay++dZ):=hF.trans ((gz.refl ay).app hM.qF);have Ke:tL 20 ay dZ:=⟨hD,hM.up,by omega⟩;have dX:ay.length+dZ.length=n:=by omega
  clear hF hM nv A hI hD U;refine go ?_;refine cn (λ p:Nat×bL×bL=>0<p.1/\tL p.1 p.2.1 p.2.2/\gz S0 (p.2.1++p.2.2)/\p.2.1.length+p.2.2.length=n) (λ p=>⟨[(6,E p.1),(0,dY n c),(1,E n),(2,eV)],[(20,bM (p.2.1++p.2.2) rest)],[]⟩) (λ p=>n-p.1) (20,ay,dZ) ⟨by simp only;omega,Ke,Bs,dX⟩ (by show bY _ _ ⟨[(6,E 20),(0,dY n c),(1,E n),(2,eV)],[(20,bM (ay++dZ) rest)],[]⟩;exact e7 (by(repeat(first|exact trivial|refine⟨⟨rfl,rfl⟩,?_⟩))) (by(repeat(first|exact trivial|refine⟨⟨rfl,rfl⟩,?_⟩|refine⟨⟨rfl,bH _ _⟩,?_⟩))) (by(repeat(first|exact trivial|refine⟨rfl,?_⟩))) (by(repeat(first|exact trivial|refine⟨rfl,?_⟩)))) ?_;clear Bs Ke dX;rintro⟨k,ay,aO⟩ ⟨J,hR,hF,U⟩;simp only at J hR hF U;refine(show aP _ _ _ _ ⟨[(6,E k),(0,dY n c),(1,E n),(2,eV)],[(20,bM (ay++aO) rest)],[]⟩ from ?_);refine go ?_
  by_cases A:k<n
  ·rw[show decide ((k:Int)<n)=true by rw[decide_eq_true_eq];omega];refine go ?_;rw[show IntKind.i64.wrap (2*(k:Int))=2*(k:Int) from eU (by omega) (by omega)];refine cn (λ p:bL×bL×bL=>pb (2*k) p.1/\tL k p.2.1 p.2.2/\gz S0 (p.1++(p.2.1++p.2.2))/\p.1.length+p.2.1.length+p.2.2.length=n) (λ p=>⟨[(8,E ((p.1.length:Int)+2*k)),(7,E p.1.length),(6,E k),(0,dY n c),(1,E n),(2,eV)],[(20,bM (p.1++(p.2.1++p.2.2)) rest)],[]⟩) (λ p=>p.2.1.length) ([],ay,aO) ⟨.nil,hR,hF,by simp;omega⟩ (by show bY _ _ ⟨[(8,E (((0:Nat):Int)+2*k)),(7,E 0),(6,E k),(0,dY n c),(1,E n),(2,eV)],[(20,bM (ay++aO) rest)],[]⟩;rw[show((0:Nat):Int)+2*(k:Int)=2*(k:Int) by omega];exact e7 (by(repeat(first|exact trivial|refine⟨⟨rfl,rfl⟩,?_⟩))) (by(repeat(first|exact trivial|refine⟨⟨rfl,rfl⟩,?_⟩|refine⟨⟨rfl,bH _ _⟩,?_⟩))) (by(repeat(first|exact trivial|refine⟨rfl,?_⟩))) (by(repeat(first|exact trivial|refine⟨rfl,?_⟩)))) ?_;clear hR hF U;rintro⟨aQ,ay,aO⟩ ⟨I,hR,hF,U⟩;simp only at I hR hF U;refine(show aP _ _ _ _ ⟨[(8,E ((aQ.length:Int)+2*k)),(7,E aQ.length),(6,E k),(0,dY n c),(1,E n),(2,eV)],[(20,bM (aQ++(ay++aO)) rest)],[]⟩ from ?_);refine go ?_
   by_cases F:2*k<=(ay++aO).length
   ·have bB:=F;rw[List.length_append] at bB;rw[show decide ((aQ.length:Int)+2*k<=n)=true by rw[decide_eq_true_eq];omega];obtain⟨am,B,D3,rfl,hA,hB,afF,afG,Yo⟩:=hR.two J F;simp only[List.length_append] at U;have hI:=Ny rest hp n c gp (am.length+B.length) aQ am B (D3++aO) aQ.length ((aQ.length:Int)+k) ((aQ.length:Int)+2*k) (Nat.le_refl _) (by simp;omega) afF afG (by omega) (by omega) rfl (by omega) (by omega);rw[show aQ++am++B++(D3++aO)=aQ++(am++(B++D3)++aO) by simp] at hI;refine go ?_;refine il hI rfl (λ a w=>call138 a w) rfl rfl ⟨⟨rfl,bH _ _⟩,trivial⟩ (by(repeat(first|exact trivial|refine⟨.inr rfl,?_⟩|refine⟨.inl rfl,?_⟩))) rfl rfl rfl rfl ?_ ?_
    ·rintro d Y ⟨rfl,dZ,_,rfl⟩;exact⟨.inl rfl,trivial⟩
    rintro d Y ⟨rfl,dZ,hM,rfl⟩;have nv:=hM.len;simp only[List.length_append] at nv;refine go ?_;simp(disch:=omega) only[eU];refine⟨(aQ++dZ,D3,aO),⟨I.snoc (by omega) hM.up,Yo,?_,by simp only[List.length_append];omega⟩,by simp only[List.length_append];omega,?_⟩
    ·have:=hF.trans (((gz.refl aQ).app (hM.qF.app (.refl (D3++aO))))|>λ h=>by simpa using h)
     simpa using this
    ·show bY _ _ ⟨[(8,E (((aQ++dZ).length:Int)+2*k)),(7,E (aQ++dZ).length),(6,E k),(0,dY n c),(1,E n),(2,eV)],[(20,bM (aQ++dZ++(D3++aO)) rest)],[]⟩;rw[show(((aQ++dZ).length:Nat):Int)=(aQ.length:Int)+2*k by simp;omega];exact e7 (by(repeat(first|exact trivial|refine⟨⟨rfl,rfl⟩,?_⟩))) (by(repeat(first|exact trivial|refine⟨⟨rfl,rfl⟩,?_⟩|refine⟨⟨rfl,bH _ _⟩,?_⟩))) (by(repeat(first|exact trivial|refine⟨rfl,?_⟩))) (by(repeat(first|exact trivial|refine⟨rfl,?_⟩)))
   ·have bB:=F;rw[List.length_append] at bB;rw[show decide ((aQ.length:Int)+2*k<=n)=false by rw[decide_eq_false_iff_not];omega];refine go ?_
    by_cases O:k<(ay++aO).length
    ·obtain⟨agI,afH,Ke⟩:=hR.rest J O (by omega);have dt:=O;rw[List.length_append] at dt;rw[show decide ((aQ.length:Int)+k<n)=true by rw[decide_eq_true_eq];omega];have hI:=Ny rest hp n c gp (ay.length+aO.length) aQ ay aO [] aQ.length ((aQ.length:Int)+k) n (Nat.le_refl _) (by simp;omega) afH hR.up (by omega) (by omega) rfl (by omega) (by omega);simp only[List.append_nil] at hI;rw[show aQ++ay++aO=aQ++(ay++aO) by simp] at hI;refine go ?_;refine il hI rfl (λ a w=>call138 a w) rfl rfl ⟨⟨rfl,bH _ _⟩,trivial⟩ (by(repeat(first|exact trivial|refine⟨.inr rfl,?_⟩|refine⟨.inl rfl,?_⟩))) rfl rfl rfl rfl ?_ ?_
     ·rintro d Y ⟨rfl,dZ,_,rfl⟩;exact⟨.inl rfl,trivial⟩
     rintro d Y ⟨rfl,dZ,hM,rfl⟩;have nv:=hM.len;rw[List.length_append] at nv;refine go ?_;rw[show IntKind.i64.wrap ((k:Int)*2)=2*(k:Int) by rw[eU (by omega) (by omega)];omega];refine go ?_;refine⟨(2*k,aQ,dZ),⟨by simp only;omega,⟨I,hM.up,by simp only;omega⟩,hF.trans ((gz.refl aQ).app hM.qF),by simp only;omega⟩,by simp only;omega,?_⟩;show bY _ _ ⟨[(6,E ((2*k:Nat):Int)),(0,dY n c),(1,E n),(2,eV)],[(20,bM (aQ++dZ) rest)],[]⟩;rw[show((2*k:Nat):Int)=2*(k:Int) by omega];exact e7 (by(repeat(first|exact trivial|refine⟨⟨rfl,rfl⟩,?_⟩))) (by(repeat(first|exact trivial|refine⟨⟨rfl,rfl⟩,?_⟩|refine⟨⟨rfl,bH _ _⟩,?_⟩))) (by(repeat(first|exact trivial|refine⟨rfl,?_⟩))) (by(repeat(first|exact trivial|refine⟨rfl,?_⟩)))
    ·have dt:=O;rw[List.length_append] at dt;rw[show decide ((aQ.length:Int)+k<n)=false by rw[decide_eq_false_iff_not];omega];have n9:=hR.one (by omega);refine go ?_;rw[show IntKind.i64.wrap ((k:Int)*2)=2*(k:Int) by rw[eU (by omega) (by omega)];omega];refine go ?_;refine⟨(2*k,aQ,ay++aO),⟨by simp only;omega,⟨I,n9,by simp only[List.length_append];omega⟩,hF,by simp only[List.length_append];omega⟩,by simp only;omega,?_⟩;show bY _ _ ⟨[(6,E ((2*k:Nat):Int)),(0,dY n c),(1,E n),(2,eV)],[(20,bM (aQ++(ay++aO)) rest)],[]⟩;rw[show((2*k:Nat):Int)=2*(k:Int) by omega];exact e7 (by(repeat(first|exact trivial|refine⟨⟨rfl,rfl⟩,?_⟩))) (by(repeat(first|exact trivial|refine⟨⟨rfl,rfl⟩,?_⟩|refine⟨⟨rfl,bH _ _⟩,?_⟩))) (by(repeat(first|exact trivial|refine⟨rfl,?_⟩))) (by(repeat(first|exact trivial|refine⟨rfl,?_⟩)))
  ·rw[show decide ((k:Int)<n)=false by rw[decide_eq_false_iff_not];omega];refine go ?_;refine km (d:=.bd []) [(20,bM (ay++aO) rest)] ?_ rfl ⟨⟨rfl,bH _ _⟩,trivial⟩ ⟨rfl,trivial⟩ ⟨rfl,ay++aO,⟨by rw[List.length_append];omega,hR.one (by rw[List.length_append];omega),hF⟩,rfl⟩
   rfl
theorem ae9(S0:bL)(rest:List K)(hp:fy rest)(n c:Nat)(hn:S0.length=n)(L:n<=100000):eI prog 84 [20] [dY n c,eV] [(20,bM S0 rest)] (λ d Y=>d=.bd []/\∃S,ju S0 S/\Y=[(20,bM S rest)]):=by
 have bH:∀{S:bL}(B au:Nat->Bool),K.ok.eR B au (bM S rest)=true:=λ B au=>wl hp B au
 have hI:=afh S0 rest hp n c hn L;refine sI func84 ntmps84 λ w cl own kf=>?_
 refine go ?_;refine il hI rfl (λ a w=>call110 a w) rfl rfl ⟨⟨rfl,bH _ _⟩,trivial⟩ (by(repeat(first|exact trivial|refine⟨.inr rfl,?_⟩|refine⟨.inl rfl,?_⟩))) rfl rfl rfl rfl ?_ ?_
 ·rintro d Y ⟨rfl,S,_,rfl⟩;exact⟨.inl rfl,trivial⟩
 rintro d Y ⟨rfl,S,hS,rfl⟩;refine go ?_;refine km (d:=.bd []) [(20,bM S rest)] ?_ rfl ⟨⟨rfl,bH _ _⟩,trivial⟩ ⟨rfl,trivial⟩ ⟨rfl,S,hS,rfl⟩
 rfl
end Go.Proofs.YtcnefjfboagbmaaGreat
