/- What a map has: its walk, where it has nothing. -/
import Derived.Test.YtcnefjfboagbmaaGreatWE
import Derived.Test.YtcnefjfboagbmaaGreatWB
import Derived.Test.YtcnefjfboagbmaaGreatPA
import Derived.Test.YtcnefjfboagbmaaGreatWA
namespace Go.Proofs.YtcnefjfboagbmaaGreat
open Go.Proofs.Tryz
open Go.RowKit
set_option maxRecDepth 100000
theorem Ke(a:Int):IntKind.i64.wrap (((BitVec.ofInt 64 a&&&BitVec.ofInt 64 1).toNat:Nat):Int)=a%2:=Kf a 1 (by omega)
abbrev Dt:F:=.fn (.func 85) [] []
theorem Vc:d8 prog 137 [] [.p (.sl true 0 []),z 0,z 0,Dt] [] (λ d O=>d=.bc []/\O=[]):=by
 refine sI func137 ntmps137 λ w cl own kf=>?_
 refine go ?_;refine bL (λ _:Unit=>True) (λ _=>⟨[(8,z 1),(2,z 0)],[],[]⟩) (λ _=>0) () trivial (zX) ?_;intro _ _;refine go ?_;rw[show decide ((1:Int)<0)=false from rfl];refine go ?_;refine jn (d:=.bc []) [] ?_ rfl trivial trivial ⟨rfl,rfl⟩
 rfl
theorem YO:d8 prog 110 [] [.p (.sl true 0 []),z 0,Dt] [] (λ d O=>d=.bc []/\O=[]):=by
 refine sI func110 ntmps110 λ w cl own kf=>?_
 refine go ?_;refine bL (λ _:Unit=>True) (λ _=>⟨[(8,z 20),(7,z 0),(6,z 20),(0,.p (.sl true 0 [])),(1,z 0),(2,Dt)],[],[]⟩) (λ _=>0) () trivial (zX) ?_;intro _ _;refine go ?_;rw[show decide ((20:Int)<=0)=false from rfl];refine go ?_;refine gk (Vc) rfl (λ a w=>call137 a w) rfl rfl (by(repeat(first|exact trivial|refine⟨⟨rfl,rfl⟩,?_⟩))) (by(repeat(first|exact trivial|refine⟨.inr rfl,?_⟩|refine⟨.inl rfl,?_⟩))) rfl rfl rfl rfl ?_ ?_
 ·rintro d O ⟨rfl,rfl⟩;exact trivial
 rintro d O ⟨rfl,rfl⟩;refine go ?_;refine bL (λ _:Unit=>True) (λ _=>⟨[(6,z 20),(1,z 0)],[],[]⟩) (λ _=>0) () trivial (zX) ?_;intro _ _;refine go ?_;rw[show decide ((20:Int)<0)=false from rfl];refine go ?_;refine jn (d:=.bc []) [] ?_ rfl trivial trivial ⟨rfl,rfl⟩
 rfl
theorem YF:d8 prog 84 [] [.p (.sl true 0 []),Dt] [] (λ d O=>d=.bc []/\O=[]):=by
 refine sI func84 ntmps84 λ w cl own kf=>?_
 refine go ?_;refine gk (YO) rfl (λ a w=>call110 a w) rfl rfl (by(repeat(first|exact trivial|refine⟨⟨rfl,rfl⟩,?_⟩))) (by(repeat(first|exact trivial|refine⟨.inr rfl,?_⟩|refine⟨.inl rfl,?_⟩))) rfl rfl rfl rfl ?_ ?_
 ·rintro d O ⟨rfl,rfl⟩;exact trivial
 rintro d O ⟨rfl,rfl⟩;refine go ?_;refine jn (d:=.bc []) [] ?_ rfl trivial trivial ⟨rfl,rfl⟩
 rfl
theorem Q8{dE:Type}{P:Program}{Γ:bE}{Q:Exit->St->Prop}{c:Code}{I:St}(x:Exit)(bn:dE->St)(ok:dE->Prop)(h:aJ P Γ c (λ ex bS=>ex=x/\∃i,ok i/\bF Γ bS (bn i)) I)(k:∀bS i,ok i->bF Γ bS (bn i)->Q x bS):aJ P Γ c Q I:=
 tS h λ ex bS hh=>by
  obtain⟨rfl,i,Z,hg⟩:=hh;exact k bS i Z hg
section
variable{P:Program}{ah:Nat->Option TI}{n:Nat}{B B0:List (Nat×List F)}{bC:St->Prop}{aI:List Nat}{aP:List (Nat×Nat)}{ix:Nat}{o:Oper}{l0 l:List Oper}{s:List (Nat×F)}{b:List (Nat×List F)}{g:List (Nat×Gr)}{t nm:Nat}{d:F}
theorem uS(hq:dm P o (Y s) (Y B0) d none)(hg:gd l0 o (Y s)=some true)(G:o.dst=some t)(he:yk l0 o=true)(h:b9 P n l0 B B0 bC (ix+1) aI aP l ⟨(t,d)::s,b,g⟩):b9 P n l0 B B0 bC ix aI aP (o::l) ⟨s,b,g⟩:=
 .inl ⟨d,none,hg,.inr ⟨he,hq⟩,λ p hp=>(by cases hp),by rw[G];exact h⟩
theorem vc{cs aO ds:List F}{of:Nat}(h:of+ds.length<=cs.length)(cr:stored cs of ds=aO):rd cs of (.agg ds) some=some aO:=by
 subst cr;have u:∀(k:List F->Option (List F)),lm of cs k=k (cs.take of):=λ k=>by
  have:=JK (cs.take of) (cs.drop of) k;rw[List.take_append_drop,List.length_take,Nat.min_eq_left (by omega)] at this;exact this
 unfold rd;rw[tX,u,AV of cs _ (by omega),AV _ _ _ (by rw[List.length_drop];show ds.length<=_;omega),pG,pG,List.drop_drop];unfold stored;rw[List.append_assoc]
 rfl
end
abbrev bK(S:bv)(rest:List F):List F:=S.flatMap (λ x=>[z x.1,z x.2])++rest
theorem qh(S:bv)(rest:List F):(bK S rest).length=S.length*2+rest.length:=by
 induction S with
 |nil=>simp[bK]
 |cons y S ih=>show(bK S rest).length+2=_;rw[ih,List.length_cons];omega
theorem n6{S:bv}{i:Nat}{x:Int×Int}(h:S[i]?=some x)(rest:List F):∃r,(bK S rest).drop (i*2)=[z x.1,z x.2]++r:=by
 induction S generalizing i with
 |nil=>simp at h
 |cons y S ih=>
  cases i with
  |zero=>simp at h;subst h;exact⟨_,rfl⟩
  |succ i=>
   obtain⟨r,hr⟩:=ih (i:=i) (by simpa using h);refine⟨r,?_⟩;rw[<-hr,show(i+1)*2=i*2+2 by omega]
   rfl
theorem uZ{S:bv}{i:Nat}(x:Int×Int)(h:i<S.length)(rest:List F):stored (bK S rest) (i*2) [z x.1,z x.2]=bK (S.set i x) rest:=by
 induction S generalizing i with
 |nil=>simp at h
 |cons y S ih=>
  cases i with
  |zero=>rfl
  |succ i=>
   have:=ih (i:=i) (by simpa using h);rw[List.set_cons_succ];show _=z y.1::z y.2::bK (S.set i x) rest;rw[<-this,show(i+1)*2=i*2+2 by omega]
   rfl
theorem tJ{S:bv}{rest:List F}(h:eN rest):eN (bK S rest):=by
 intro B ak;induction S with
 |nil=>exact h B ak
 |cons y S ih=>exact ih
theorem MV(x:Int):aW prog 111 [z x] (dB false):=by
 refine sP func111 ntmps111 λ w cl=>?_
 refine gf ?_;simp
abbrev ei:F:=.fn (.func 85) [] []
abbrev rp(x y:Int):Int:=if x<y then-1 else if y<x then 1 else 0
theorem Rt(x y:Int):aW prog 86 [z x,z y] (z (rp x y)):=by
 unfold rp;refine sP func86 ntmps86 λ w cl=>?_
 refine gA (MV x) ?_;refine cA (MV y) ?_;refine go ?_
 by_cases u:x<y
 ·rw[show decide (x<y)=true from decide_eq_true u,if_pos u];refine gf ?_
  rfl
 ·rw[show decide (x<y)=false from decide_eq_false u,if_neg u];refine go ?_
  by_cases D:y<x
  ·rw[show decide (x>y)=true from decide_eq_true D,if_pos D];refine gf ?_
   rfl
  ·rw[show decide (x>y)=false from decide_eq_false D,if_neg D];refine gf ?_
   rfl
theorem Dd(x y:Int×Int):aW prog 85 [.agg [z x.1,z x.2],.agg [z y.1,z y.2]] (z (rp x.1 y.1)):=by
 refine sP func85 ntmps85 λ w cl=>?_
 refine go ?_;refine bf (gh aw rfl rfl rfl rfl rfl (by omega) (by omega)) rfl rfl rfl ?_;refine go ?_;refine bf (gh aw rfl rfl rfl rfl rfl (by omega) (by omega)) rfl rfl rfl ?_;refine gA (Rt x.1 y.1) ?_;refine dt ?_
 rfl
theorem Kz(x y:Int):decide (rp x y<0)=decide (x<y):=by
 unfold rp;split
 ·rename_i h;rw[show decide (x<y)=true from decide_eq_true h];rfl
 ·rename_i h;rw[show decide (x<y)=false from decide_eq_false h];split<;>rfl
abbrev dD(n c:Nat):F:=.arr 20 0 n c
theorem u6{aq:Type}(P Q:List aq)(x y:aq){n:Nat}(h:n=P.length):(P++x::Q).set n y=P++y::Q:=by subst h;rw[List.set_append_right _ _ (Nat.le_refl _),Nat.sub_self];rfl
theorem rG{aq:Type}(P Q:List aq)(x:aq){n:Nat}(h:n=P.length):(P++x::Q)[n]?=some x:=by subst h;simp
set_option maxHeartbeats 8000000 in
theorem JG(ae ar aF B gj:bv)(rest:List F)(hp:eN rest)(n c:Nat)(a b k:Int)(hn:(ae++ar++aF++B++gj).length=n)(fk:n<=100000)(v9:ar.length=B.length)(ha:a=ae.length)(R:b=(ae++ar++aF).length)(J:k=ar.length):d8 prog 200 [20] [dD n c,z a,z b,z k,ei] [(20,bK (ae++ar++aF++B++gj) rest)] (λ d O=>d=.bc []/\O=[(20,bK (ae++B++aF++ar++gj) rest)]):=by
 have bG:∀{S:bv}(B ak:Nat->Bool),F.ok.ec B ak (bK S rest)=true:=λ B ak=>tJ hp B ak
 refine sI func200 ntmps200 λ w cl own kf=>?_
 refine go ?_;refine bL (λ p:bv×bv×bv×bv=>ar=p.1++p.2.1/\B=p.2.2.1++p.2.2.2/\p.1.length=p.2.2.1.length) (λ p=>⟨[(10,z p.1.length),(3,z k),(2,z b),(1,z a),(0,dD n c)],[(20,bK (ae++(p.2.2.1++p.2.1)++aF++(p.1++p.2.2.2)++gj) rest)],[]⟩) (λ p=>p.2.1.length) ([],ar,[],B) ⟨rfl,rfl,rfl⟩ (dO (by(repeat(first|exact trivial|refine⟨⟨rfl,rfl⟩,?_⟩))) (by(repeat(first|exact trivial|refine⟨⟨rfl,rfl⟩,?_⟩|refine⟨⟨rfl,bG _ _⟩,?_⟩))) (by(repeat(first|exact trivial|refine⟨rfl,?_⟩))) (by(repeat(first|exact trivial|refine⟨rfl,?_⟩)))) ?_;rintro⟨A1,A2,B1,B2⟩ ⟨hA,hB,M⟩;simp only at hA hB M;have HL:ar.length=A1.length+A2.length:=by rw[hA];simp
 have HM:B.length=B1.length+B2.length:=by rw[hB];simp
 simp only[List.length_append] at hn R;refine(show aJ _ _ _ _ ⟨[(10,z A1.length),(3,z k),(2,z b),(1,z a),(0,dD n c)],[(20,bK (ae++(B1++A2)++aF++(A1++B2)++gj) rest)],[]⟩ from ?_);rcases A2 with _|⟨x,A2⟩
 ·have GZ:B2=[]:=List.length_eq_zero_iff.1 (by simp at HL;omega);subst GZ;simp only[List.append_nil,List.length_nil] at hA hB HL HM;rw[show ae++(B1++[])++aF++(A1++[])++gj=ae++B++aF++ar++gj by rw[hA,hB];simp];refine go ?_;rw[show decide ((A1.length:Int)<k)=false by rw[decide_eq_false_iff_not];omega];refine go ?_;refine jn (d:=.bc []) [(20,bK (ae++B++aF++ar++gj) rest)] ?_ rfl ⟨⟨rfl,bG _ _⟩,trivial⟩ ⟨rfl,trivial⟩ ⟨rfl,rfl⟩
  rfl
 ·simp only[List.length_cons] at HL;rcases B2 with _|⟨y,B2⟩
  ·simp only[List.length_nil] at HM;omega
  simp only[List.length_cons] at HM;refine go ?_;rw[show decide ((A1.length:Int)<k)=true by rw[decide_eq_true_eq];omega];have e1:ae++(B1++x::A2)++aF++(A1++y::B2)++gj=(ae++B1)++x::(A2++aF++(A1++y::B2)++gj):=by simp
  have e2:(ae++B1)++x::(A2++aF++(A1++y::B2)++gj)=(ae++B1++x::(A2++aF++A1))++y::(B2++gj):=by simp
  have e3:(ae++B1)++y::(A2++aF++(A1++y::B2)++gj)=(ae++B1++y::(A2++aF++A1))++y::(B2++gj):=by simp
  have e4:(ae++B1++y::(A2++aF++A1))++x::(B2++gj)=ae++((B1++[y])++A2)++aF++((A1++[x])++B2)++gj:=by simp
  have bV:(ae++(B1++x::A2)++aF++(A1++y::B2)++gj)[ae.length+A1.length]?=some x:=by rw[e1];exact rG _ _ _ (by simp;omega)
  have cZ:(ae++(B1++x::A2)++aF++(A1++y::B2)++gj)[ae.length+ar.length+aF.length+A1.length]?=some y:=by rw[e1,e2];exact rG _ _ _ (by simp;omega)
  have wG:((ae++(B1++x::A2)++aF++(A1++y::B2)++gj).set (ae.length+A1.length) y).set (ae.length+ar.length+aF.length+A1.length) x=ae++((B1++[y])++A2)++aF++((A1++[x])++B2)++gj:=by rw[e1,u6 _ _ _ _ (by simp;omega),e3,u6 _ _ _ _ (by simp;omega),e4]
  have mN:(ae++(B1++x::A2)++aF++(A1++y::B2)++gj).length=n:=by simp;omega
  clear e1 e2 e3 e4;obtain⟨r1,iC⟩:=n6 bV rest;obtain⟨r2,l8⟩:=n6 cZ rest;have pg:=qh (ae++(B1++x::A2)++aF++(A1++y::B2)++gj) rest;have pV:=(List.getElem?_eq_some_iff.1 bV).1;have pW:=(List.getElem?_eq_some_iff.1 cZ).1;have wH:=uZ (S:=ae++(B1++x::A2)++aF++(A1++y::B2)++gj) (i:=ae.length+A1.length) y pV rest;have qU:=uZ (S:=(ae++(B1++x::A2)++aF++(A1++y::B2)++gj).set (ae.length+A1.length) y) (i:=ae.length+ar.length+aF.length+A1.length) x (by rw[List.length_set];exact pW) rest;rw[wG] at qU;have wD:=qh ((ae++(B1++x::A2)++aF++(A1++y::B2)++gj).set (ae.length+A1.length) y) rest;rw[List.length_set] at wD;generalize oY:ae++(B1++x::A2)++aF++(A1++y::B2)++gj=S1 at*;generalize rK:bK S1 rest=R1 at*;generalize Ha:bK (S1.set (ae.length+A1.length) y) rest=R2 at*;refine go ?_;refine gD [20] ?_;refine cD (ja (p:=(ae.length+ar.length+aF.length+A1.length)*2) aw rfl rfl rfl rfl rfl (by omega) (by omega) (by show(ae.length+ar.length+aF.length+A1.length)*2=(b+A1.length).toNat*2;omega)) rfl rfl ?_;refine uS (lF aw [z y.1,z y.2] r2 rfl rfl rfl rfl rfl (by show(ae.length+ar.length+aF.length+A1.length)*2<=R1.length;omega) l8 rfl) rfl rfl (by kernel_rfl) ?_;refine ba ?_;refine cD (ja (p:=(ae.length+A1.length)*2) aw rfl rfl rfl rfl rfl (by omega) (by omega) (by show(ae.length+A1.length)*2=(a+A1.length).toNat*2;omega)) rfl rfl ?_;refine uS (lF aw [z x.1,z x.2] r1 rfl rfl rfl rfl rfl (by show(ae.length+A1.length)*2<=R1.length;omega) iC rfl) rfl rfl (by kernel_rfl) ?_
  refine cD (ja (p:=(ae.length+A1.length)*2) aw rfl rfl rfl rfl rfl (by omega) (by omega) (by show(ae.length+A1.length)*2=(a+A1.length).toNat*2;omega)) rfl rfl ?_;refine sf (aO:=R2) aw rfl rfl rfl rfl rfl rfl rfl rfl (vc (by show(ae.length+A1.length)*2+2<=R1.length;omega) wH) rfl rfl (.inl rfl) ?_;refine cD (ja (p:=(ae.length+ar.length+aF.length+A1.length)*2) aw rfl rfl rfl rfl rfl (by omega) (by omega) (by show(ae.length+ar.length+aF.length+A1.length)*2=(b+A1.length).toNat*2;omega)) rfl rfl ?_;refine sf (aO:=bK (ae++((B1++[y])++A2)++aF++((A1++[x])++B2)++gj) rest) aw rfl rfl rfl rfl rfl rfl rfl rfl (vc (by show(ae.length+ar.length+aF.length+A1.length)*2+2<=R2.length;omega) qU) rfl rfl (.inr (by kernel_rfl)) ?_;refine qg ?_;refine⟨(A1++[x],A2,B1++[y],B2),⟨by simp only;rw[hA];simp,by simp only;rw[hB];simp,by simp only[List.length_append,M];rfl⟩,by simp only[List.length_cons];omega,?_⟩;show bF _ _ ⟨[(10,z (A1++[x]).length),(3,z k),(2,z b),(1,z a),(0,dD n c)],[(20,bK (ae++((B1++[y])++A2)++aF++((A1++[x])++B2)++gj) rest)],[]⟩;rw[show((A1++[x]).length:Int)=(A1.length:Int)+1 by simp];exact dO (by(repeat(first|exact trivial|refine⟨⟨rfl,rfl⟩,?_⟩))) (by(repeat(first|exact trivial|refine⟨⟨rfl,rfl⟩,?_⟩|refine⟨⟨rfl,bG _ _⟩,?_⟩))) (by(repeat(first|exact trivial|refine⟨rfl,?_⟩))) (by(repeat(first|exact trivial|refine⟨rfl,?_⟩)))
set_option maxHeartbeats 8000000 in
theorem Yg(ae ar B gj:bv)(rest:List F)(hp:eN rest)(n c:Nat)(a m b:Int)(hn:(ae++ar++B++gj).length=n)(fk:n<=100000)(hA0:0<ar.length)(Sv:0<B.length)(ha:a=ae.length)(hm:m=a+ar.length)(R:b=m+B.length):d8 prog 183 [20] [dD n c,z a,z m,z b,ei] [(20,bK (ae++ar++B++gj) rest)] (λ d O=>d=.bc []/\O=[(20,bK (ae++B++ar++gj) rest)]):=by
 have bG:∀{S:bv}(B ak:Nat->Bool),F.ok.ec B ak (bK S rest)=true:=λ B ak=>tJ hp B ak
 generalize hF:ae++B++ar++gj=bq;simp only[List.length_append] at hn;refine sI func183 ntmps183 λ w cl own kf=>?_
 refine go ?_;refine bL (λ p:bv×bv×bv×bv=>p.1++p.2.2.1++p.2.1++p.2.2.2=bq/\0<p.2.1.length/\0<p.2.2.1.length/\m=p.1.length+p.2.1.length/\p.1.length+p.2.1.length+p.2.2.1.length+p.2.2.2.length=n) (λ p=>⟨[(10,z p.2.1.length),(11,z p.2.2.1.length),(4,ei),(2,z m),(0,dD n c)],[(20,bK (p.1++p.2.1++p.2.2.1++p.2.2.2) rest)],[]⟩) (λ p=>p.2.1.length+p.2.2.1.length) (ae,ar,B,gj) ⟨hF,hA0,Sv,by simp only;omega,by simp only;omega⟩ (by rw[show m-a=(ar.length:Int) by omega,show b-m=(B.length:Int) by omega];exact dO (by(repeat(first|exact trivial|refine⟨⟨rfl,rfl⟩,?_⟩))) (by(repeat(first|exact trivial|refine⟨⟨rfl,rfl⟩,?_⟩|refine⟨⟨rfl,bG _ _⟩,?_⟩))) (by(repeat(first|exact trivial|refine⟨rfl,?_⟩))) (by(repeat(first|exact trivial|refine⟨rfl,?_⟩)))) ?_;rintro⟨P,C,aI,Q⟩ ⟨A,hC,hD,l5,jt⟩;simp only at A hC hD l5 jt;refine(show aJ _ _ _ _ ⟨[(10,z C.length),(11,z aI.length),(4,ei),(2,z m),(0,dD n c)],[(20,bK (P++C++aI++Q) rest)],[]⟩ from ?_);refine go ?_
 by_cases u:C.length=aI.length
 ·rw[show decide ((C.length:Int)=aI.length)=true by rw[decide_eq_true_eq];omega];have hs:=JG P C [] aI Q rest hp n c (m-C.length) m C.length (by simp;omega) fk u (by omega) (by simp;omega) rfl;rw[show P++C++[]++aI++Q=P++C++aI++Q by simp,show P++aI++[]++C++Q=bq by rw[<-A];simp] at hs;refine go ?_;refine gk hs rfl (λ a w=>call200 a w) rfl rfl ⟨⟨rfl,bG _ _⟩,trivial⟩ (by(repeat(first|exact trivial|refine⟨.inr rfl,?_⟩|refine⟨.inl rfl,?_⟩))) rfl rfl rfl rfl ?_ ?_
  ·rintro d O ⟨rfl,rfl⟩;exact⟨.inl rfl,trivial⟩
  rintro d O ⟨rfl,rfl⟩;refine go ?_;refine jn (d:=.bc []) [(20,bK bq rest)] ?_ rfl ⟨⟨rfl,bG _ _⟩,trivial⟩ ⟨rfl,trivial⟩ ⟨rfl,rfl⟩
  rfl
 ·rw[show decide ((C.length:Int)=aI.length)=false by rw[decide_eq_false_iff_not];omega];refine go ?_
  by_cases D:aI.length<C.length
  ·rw[show decide ((C.length:Int)>aI.length)=true by rw[decide_eq_true_eq];omega];have L:=List.take_append_drop aI.length C;have de:(C.take aI.length).length=aI.length:=by rw[List.length_take];omega
   have pQ:(C.drop aI.length).length=C.length-aI.length:=List.length_drop ..;generalize C.take aI.length=C1 at*;generalize C.drop aI.length=C2 at*;have hs:=JG P C1 C2 aI Q rest hp n c (m-C.length) m aI.length (by simp;omega) fk (by omega) (by omega) (by simp;omega) (by omega);rw[show P++C1++C2++aI++Q=P++C++aI++Q by rw[<-L];simp] at hs;refine go ?_;refine gk hs rfl (λ a w=>call200 a w) rfl rfl ⟨⟨rfl,bG _ _⟩,trivial⟩ (by(repeat(first|exact trivial|refine⟨.inr rfl,?_⟩|refine⟨.inl rfl,?_⟩))) rfl rfl rfl rfl ?_ ?_
   ·rintro d O ⟨rfl,rfl⟩;exact⟨.inl rfl,trivial⟩
   rintro d O ⟨rfl,rfl⟩;refine go ?_;refine⟨(P++aI,C2,C1,Q),⟨by simp only;rw[<-A,<-L];simp,by simp only;omega,by simp only;omega,by simp only[List.length_append];omega,by simp only[List.length_append];omega⟩,by simp only;omega,?_⟩;show bF _ _ ⟨[(10,z C2.length),(11,z C1.length),(4,ei),(2,z m),(0,dD n c)],[(20,bK (P++aI++C2++C1++Q) rest)],[]⟩;rw[show((C2.length:Nat):Int)=(C.length:Int)-aI.length by omega,de];exact dO (by(repeat(first|exact trivial|refine⟨⟨rfl,rfl⟩,?_⟩))) (by(repeat(first|exact trivial|refine⟨⟨rfl,rfl⟩,?_⟩|refine⟨⟨rfl,bG _ _⟩,?_⟩))) (by(repeat(first|exact trivial|refine⟨rfl,?_⟩))) (by(repeat(first|exact trivial|refine⟨rfl,?_⟩)))
  ·rw[show decide ((C.length:Int)>aI.length)=false by rw[decide_eq_false_iff_not];omega];have L:=List.take_append_drop (aI.length-C.length) aI;have de:(aI.take (aI.length-C.length)).length=aI.length-C.length:=by rw[List.length_take];omega
   have pQ:(aI.drop (aI.length-C.length)).length=C.length:=by rw[List.length_drop];omega
   generalize aI.take (aI.length-C.length)=D1 at*;generalize aI.drop (aI.length-C.length)=D2 at*;have hs:=JG P C D1 D2 Q rest hp n c (m-C.length) (m+aI.length-C.length) C.length (by simp;omega) fk (by omega) (by omega) (by simp;omega) (by omega);rw[show P++C++D1++D2++Q=P++C++aI++Q by rw[<-L];simp] at hs;refine go ?_;refine gk hs rfl (λ a w=>call200 a w) rfl rfl ⟨⟨rfl,bG _ _⟩,trivial⟩ (by(repeat(first|exact trivial|refine⟨.inr rfl,?_⟩|refine⟨.inl rfl,?_⟩))) rfl rfl rfl rfl ?_ ?_
   ·rintro d O ⟨rfl,rfl⟩;exact⟨.inl rfl,trivial⟩
   rintro d O ⟨rfl,rfl⟩;refine go ?_;refine⟨(P,D2,D1,C++Q),⟨by simp only;rw[<-A,<-L];simp,by simp only;omega,by simp only;omega,by simp only;omega,by simp only[List.length_append];omega⟩,by simp only;omega,?_⟩;show bF _ _ ⟨[(10,z D2.length),(11,z D1.length),(4,ei),(2,z m),(0,dD n c)],[(20,bK (P++D2++D1++(C++Q)) rest)],[]⟩;rw[show((D1.length:Nat):Int)=(aI.length:Int)-C.length by omega,pQ,show P++D2++D1++(C++Q)=P++D2++D1++C++Q by simp];exact dO (by(repeat(first|exact trivial|refine⟨⟨rfl,rfl⟩,?_⟩))) (by(repeat(first|exact trivial|refine⟨⟨rfl,rfl⟩,?_⟩|refine⟨⟨rfl,bG _ _⟩,?_⟩))) (by(repeat(first|exact trivial|refine⟨rfl,?_⟩))) (by(repeat(first|exact trivial|refine⟨rfl,?_⟩)))
set_option maxHeartbeats 16000000 in
theorem MT(ae av aF:bv)(rest:List F)(hp:eN rest)(n c:Nat)(a b:Int)(hn:(ae++av++aF).length=n)(fk:n<=100000)(ha:a=ae.length)(R:b=a+av.length):d8 prog 137 [20] [dD n c,z a,z b,ei] [(20,bK (ae++av++aF) rest)] (λ d O=>d=.bc []/\∃dF,iI av dF/\O=[(20,bK (ae++dF++aF) rest)]):=by
 have bG:∀{S:bv}(B ak:Nat->Bool),F.ok.ec B ak (bK S rest)=true:=λ B ak=>tJ hp B ak
 simp only[List.length_append] at hn;refine sI func137 ntmps137 λ w cl own kf=>?_
 refine go ?_;rcases av with _|⟨x0,M0⟩
 ·refine bL (λ _:Unit=>True) (λ _=>⟨[(8,z (a+1)),(2,z b)],[(20,bK (ae++[]++aF) rest)],[]⟩) (λ _=>0) () trivial (dO (by(repeat(first|exact trivial|refine⟨⟨rfl,rfl⟩,?_⟩))) (by(repeat(first|exact trivial|refine⟨⟨rfl,rfl⟩,?_⟩|refine⟨⟨rfl,bG _ _⟩,?_⟩))) (by(repeat(first|exact trivial|refine⟨rfl,?_⟩))) (by(repeat(first|exact trivial|refine⟨rfl,?_⟩)))) ?_;intro _ _;refine go ?_;rw[show decide (a+1<b)=false by rw[decide_eq_false_iff_not];simp at R;omega];refine go ?_;refine jn (d:=.bc []) [(20,bK (ae++[]++aF) rest)] ?_ rfl ⟨⟨rfl,bG _ _⟩,trivial⟩ ⟨rfl,trivial⟩ ⟨rfl,[],⟨rfl,.nil,.refl _⟩,rfl⟩
  rfl
 refine bL (λ p:bv×bv=>1<=p.1.length/\p.1.length+p.2.length=M0.length+1/\dN p.1/\fR (x0::M0) (p.1++p.2)) (λ p=>⟨[(8,z (a+p.1.length)),(3,ei),(2,z b),(1,z a),(0,dD n c)],[(20,bK (ae++p.1++p.2++aF) rest)],[]⟩) (λ p=>p.2.length) ([x0],M0) ⟨Nat.le_refl _,by simp;omega,dN.one _,.refl _⟩ (by rw[show ae++[x0]++M0++aF=ae++(x0::M0)++aF by simp];exact dO (by(repeat(first|exact trivial|refine⟨⟨rfl,rfl⟩,?_⟩))) (by(repeat(first|exact trivial|refine⟨⟨rfl,rfl⟩,?_⟩|refine⟨⟨rfl,bG _ _⟩,?_⟩))) (by(repeat(first|exact trivial|refine⟨rfl,?_⟩))) (by(repeat(first|exact trivial|refine⟨rfl,?_⟩)))) ?_;rintro⟨S,M2⟩ ⟨oY,Bc,hU,hF⟩;simp only at oY Bc hU hF;simp only[List.length_cons] at hn R;refine(show aJ _ _ _ _ ⟨[(8,z (a+S.length)),(3,ei),(2,z b),(1,z a),(0,dD n c)],[(20,bK (ae++S++M2++aF) rest)],[]⟩ from ?_);rcases M2 with _|⟨x,M2⟩
 ·simp only[List.append_nil,List.length_nil] at hF Bc;rw[show ae++S++[]++aF=ae++S++aF by simp];refine go ?_;rw[show decide (a+(S.length:Int)<b)=false by rw[decide_eq_false_iff_not];omega];refine go ?_;refine jn (d:=.bc []) [(20,bK (ae++S++aF) rest)] ?_ rfl ⟨⟨rfl,bG _ _⟩,trivial⟩ ⟨rfl,trivial⟩ ⟨rfl,S,⟨by rw[List.length_cons];omega,hU,hF⟩,rfl⟩
  rfl
 ·simp only[List.length_cons] at Bc;refine go ?_;rw[show decide (a+(S.length:Int)<b)=true by rw[decide_eq_true_eq];omega];refine go ?_;refine Q8 (dE:=bv) (.exit 2) (λ ah=>⟨[(8,z (a+S.length)),(3,ei),(2,z b),(1,z a),(0,dD n c)],[(20,bK (ae++ah++M2++aF) rest)],[]⟩) (λ ah=>iI (S++[x]) ah) ?_ ?_
  ·refine bL (λ p:bv×bv=>S=p.1++p.2/\∀y∈p.2,x.1<y.1) (λ p=>⟨[(9,z (a+p.1.length)),(8,z (a+S.length)),(3,ei),(2,z b),(1,z a),(0,dD n c)],[(20,bK (ae++(p.1++x::p.2)++M2++aF) rest)],[]⟩) (λ p=>p.1.length) (S,[]) ⟨(List.append_nil _).symm,λ y hy=>by cases hy⟩ (by rw[show ae++(S++x::[])++M2++aF=ae++S++x::M2++aF by simp];exact dO (by(repeat(first|exact trivial|refine⟨⟨rfl,rfl⟩,?_⟩))) (by(repeat(first|exact trivial|refine⟨⟨rfl,rfl⟩,?_⟩|refine⟨⟨rfl,bG _ _⟩,?_⟩))) (by(repeat(first|exact trivial|refine⟨rfl,?_⟩))) (by(repeat(first|exact trivial|refine⟨rfl,?_⟩)))) ?_;rintro⟨ar,B⟩ ⟨hA,hB⟩;simp only at hA hB;refine(show aJ _ _ _ _ ⟨[(9,z (a+ar.length)),(8,z (a+S.length)),(3,ei),(2,z b),(1,z a),(0,dD n c)],[(20,bK (ae++(ar++x::B)++M2++aF) rest)],[]⟩ from ?_);have Bn:(∀y∈ar,y.1<=x.1)->iI (S++[x]) (ar++x::B):=λ gY=>by
    rw[hA];exact Ju (by rw[<-hA];exact hU) gY hB
   have ZN:S.length=ar.length+B.length:=by rw[hA];simp
   rcases List.eq_nil_or_concat ar with rfl|⟨dl,y,rfl⟩
   ·have G:=Bn (λ y hy=>by cases hy);refine go ?_;refine gD [] ?_;rw[show decide (a+((([]:bv).length:Nat):Int)>a)=false by rw[decide_eq_false_iff_not];simp];refine qg ?_;exact⟨rfl,_,G,dO (by(repeat(first|exact trivial|refine⟨⟨rfl,rfl⟩,?_⟩))) (by(repeat(first|exact trivial|refine⟨⟨rfl,rfl⟩,?_⟩|refine⟨⟨rfl,bG _ _⟩,?_⟩))) (by(repeat(first|exact trivial|refine⟨rfl,?_⟩))) (by(repeat(first|exact trivial|refine⟨rfl,?_⟩)))⟩
   ·simp only[List.concat_eq_append] at*;have dz:(dl++[y]).length=dl.length+1:=by simp
    have e1:ae++((dl++[y])++x::B)++M2++aF=(ae++dl++[y])++x::(B++M2++aF):=by simp
    have e2:ae++((dl++[y])++x::B)++M2++aF=(ae++dl)++y::(x::(B++M2++aF)):=by simp
    have e3:(ae++dl++[y])++y::(B++M2++aF)=(ae++dl)++y::(y::(B++M2++aF)):=by simp
    have bV:(ae++((dl++[y])++x::B)++M2++aF)[ae.length+dl.length+1]?=some x:=by rw[e1];exact rG _ _ _ (by simp;omega)
    have cZ:(ae++((dl++[y])++x::B)++M2++aF)[ae.length+dl.length]?=some y:=by rw[e2];exact rG _ _ _ (by simp)
    have wG:((ae++((dl++[y])++x::B)++M2++aF).set (ae.length+dl.length+1) y).set (ae.length+dl.length) x=ae++(dl++x::(y::B))++M2++aF:=by rw[e1,u6 _ _ _ _ (by simp;omega),e3,u6 _ _ _ _ (by simp)];simp
    have mN:(ae++((dl++[y])++x::B)++M2++aF).length=n:=by simp;omega
    have dc:¬x.1<y.1->iI (S++[x]) ((dl++[y])++x::B):=λ bh=>Bn λ aT hz=>by
     rcases List.mem_append.1 hz with hz|hz
     ·have K:dN (dl++[y]):=by rw[hA] at hU;exact hU.left
      have:=K.le aT hz y (by simp);omega
     ·have:aT=y:=by simpa using hz
      subst this;omega
    clear e1 e2 e3 Bn;have qD:=Dd x y;have bh:=Kz x.1 y.1;generalize rp x.1 y.1=cv at qD bh;obtain⟨r1,iC⟩:=n6 bV rest;obtain⟨r2,l8⟩:=n6 cZ rest;have pg:=qh (ae++((dl++[y])++x::B)++M2++aF) rest;have pV:=(List.getElem?_eq_some_iff.1 bV).1;have pW:=(List.getElem?_eq_some_iff.1 cZ).1;have wH:=uZ (S:=ae++((dl++[y])++x::B)++M2++aF) (i:=ae.length+dl.length+1) y pV rest;have qU:=uZ (S:=(ae++((dl++[y])++x::B)++M2++aF).set (ae.length+dl.length+1) y) (i:=ae.length+dl.length) x (by rw[List.length_set];exact pW) rest;rw[wG] at qU;have wD:=qh ((ae++((dl++[y])++x::B)++M2++aF).set (ae.length+dl.length+1) y) rest;rw[List.length_set] at wD;generalize oY:ae++((dl++[y])++x::B)++M2++aF=S1 at*;generalize rK:bK S1 rest=R1 at*;generalize Ha:bK (S1.set (ae.length+dl.length+1) y) rest=R2 at*;rw[dz];refine go ?_;refine gD [] ?_;rw[show decide (a+((dl.length+1:Nat):Int)>a)=true by rw[decide_eq_true_eq];omega];refine ba ?_;refine cD (ja (p:=(ae.length+dl.length+1)*2) aw rfl rfl rfl rfl rfl (by omega) (by omega) (by show(ae.length+dl.length+1)*2=(a+((dl.length+1:Nat):Int)).toNat*2;omega)) rfl rfl ?_;refine cD (lF aw [z x.1,z x.2] r1 rfl rfl rfl rfl rfl (by show(ae.length+dl.length+1)*2<=R1.length;omega) iC rfl) rfl rfl ?_;refine ba ?_;refine cD (ja (p:=(ae.length+dl.length)*2) aw rfl rfl rfl rfl rfl (by omega) (by omega) (by show(ae.length+dl.length)*2=(a+((dl.length+1:Nat):Int)-1).toNat*2;omega)) rfl rfl ?_
    refine cD (lF aw [z y.1,z y.2] r2 rfl rfl rfl rfl rfl (by show(ae.length+dl.length)*2<=R1.length;omega) l8 rfl) rfl rfl ?_;refine ba ?_;refine cD (tV qD rfl (λ a w=>call85 a w) rfl rfl) rfl rfl ?_;refine qg ?_;rw[bh]
    by_cases D:x.1<y.1
    ·rw[show decide (x.1<y.1)=true from decide_eq_true D];refine go ?_;refine gD [20] ?_;refine cD (ja (p:=(ae.length+dl.length)*2) aw rfl rfl rfl rfl rfl (by omega) (by omega) (by show(ae.length+dl.length)*2=(a+((dl.length+1:Nat):Int)-1).toNat*2;omega)) rfl rfl ?_;refine uS (lF aw [z y.1,z y.2] r2 rfl rfl rfl rfl rfl (by show(ae.length+dl.length)*2<=R1.length;omega) l8 rfl) rfl rfl (by kernel_rfl) ?_;refine ba ?_;refine cD (ja (p:=(ae.length+dl.length+1)*2) aw rfl rfl rfl rfl rfl (by omega) (by omega) (by show(ae.length+dl.length+1)*2=(a+((dl.length+1:Nat):Int)).toNat*2;omega)) rfl rfl ?_;refine uS (lF aw [z x.1,z x.2] r1 rfl rfl rfl rfl rfl (by show(ae.length+dl.length+1)*2<=R1.length;omega) iC rfl) rfl rfl (by kernel_rfl) ?_;refine cD (ja (p:=(ae.length+dl.length+1)*2) aw rfl rfl rfl rfl rfl (by omega) (by omega) (by show(ae.length+dl.length+1)*2=(a+((dl.length+1:Nat):Int)).toNat*2;omega)) rfl rfl ?_;refine sf (aO:=R2) aw rfl rfl rfl rfl rfl rfl rfl rfl (vc (by show(ae.length+dl.length+1)*2+2<=R1.length;omega) wH) rfl rfl (.inl rfl) ?_;refine cD (ja (p:=(ae.length+dl.length)*2) aw rfl rfl rfl rfl rfl (by omega) (by omega) (by show(ae.length+dl.length)*2=(a+((dl.length+1:Nat):Int)-1).toNat*2;omega)) rfl rfl ?_;refine sf (aO:=bK (ae++(dl++x::(y::B))++M2++aF) rest) aw rfl rfl rfl rfl rfl rfl rfl rfl (vc (by show(ae.length+dl.length)*2+2<=R2.length;omega) qU) rfl rfl (.inr (by kernel_rfl)) ?_;refine qg ?_
     refine⟨(dl,y::B),⟨by simp only;rw[hA];simp,λ aT hz=>?_⟩,by simp only;omega,?_⟩
     ·rcases List.mem_cons.1 hz with rfl|hz
      ·exact D
      ·exact hB aT hz
     ·show bF _ _ ⟨[(9,z (a+dl.length)),(8,z (a+S.length)),(3,ei),(2,z b),(1,z a),(0,dD n c)],[(20,bK (ae++(dl++x::(y::B))++M2++aF) rest)],[]⟩;rw[show a+(dl.length:Int)=a+((dl.length+1:Nat):Int)-1 by omega];exact dO (by(repeat(first|exact trivial|refine⟨⟨rfl,rfl⟩,?_⟩))) (by(repeat(first|exact trivial|refine⟨⟨rfl,rfl⟩,?_⟩|refine⟨⟨rfl,bG _ _⟩,?_⟩))) (by(repeat(first|exact trivial|refine⟨rfl,?_⟩))) (by(repeat(first|exact trivial|refine⟨rfl,?_⟩)))
    ·rw[show decide (x.1<y.1)=false from decide_eq_false D];refine go ?_;rw[<-rK,<-oY];exact⟨rfl,_,dc D,dO (by(repeat(first|exact trivial|refine⟨⟨rfl,rfl⟩,?_⟩))) (by(repeat(first|exact trivial|refine⟨⟨rfl,rfl⟩,?_⟩|refine⟨⟨rfl,bG _ _⟩,?_⟩))) (by(repeat(first|exact trivial|refine⟨rfl,?_⟩))) (by(repeat(first|exact trivial|refine⟨rfl,?_⟩)))⟩
  intro bS ah hT eA;refine zR (zP (zM (da eA ?_)));clear eA;refine go ?_;have DC:=hT.len;simp only[List.length_append,List.length_cons,List.length_nil] at DC;refine⟨(ah,M2),⟨by simp only;omega,by simp only;omega,hT.up,?_⟩,by simp only[List.length_cons];omega,?_⟩
  ·have K:=hT.oU.app (fR.refl M2);rw[List.append_assoc] at K;exact hF.trans K
  ·show bF _ _ ⟨[(8,z (a+ah.length)),(3,ei),(2,z b),(1,z a),(0,dD n c)],[(20,bK (ae++ah++M2++aF) rest)],[]⟩;rw[show a+(ah.length:Int)=a+(S.length:Int)+1 by omega];exact dO (by(repeat(first|exact trivial|refine⟨⟨rfl,rfl⟩,?_⟩))) (by(repeat(first|exact trivial|refine⟨⟨rfl,rfl⟩,?_⟩|refine⟨⟨rfl,bG _ _⟩,?_⟩))) (by(repeat(first|exact trivial|refine⟨rfl,?_⟩))) (by(repeat(first|exact trivial|refine⟨rfl,?_⟩)))
theorem Fw{n:Int}(h0:0<=n)(u:n<18446744073709551616):IntKind.u64.wrap n=((n.toNat:Nat):Int):=by
 have:=P4 (n:=n.toNat) (by omega)
 rwa [show((n.toNat:Nat):Int)=n by omega] at this⊢
theorem Fg{P:Program}{S:Nat->Option F}{B:Nat->Option (List F)}{o:Oper}{ty aa:TypeId}{x:Operand}{m:Nat}(X:o.op=.binOp .shr ty x (.const (.int .u64 1)) aa)(T:ev S x=some (dU m)):dm P o S B (dU (m/2)) none:=by
 refine hZ λ ac e hs=>?_
 have bV:=cE (hs.1 x (by rw[X];simp[Op.operands]) _ T);have eR:ac.eval (.const (.int .u64 1))=.int .u64 1:=rfl;refine⟨_,?_,.p (.raw _)⟩;obtain⟨dst,op,type,pos,after,guard⟩:=o;simp only at X;subst X;have R:(binOp .shr ty (.int .u64 (m:Int)) (.int .u64 (1:Int))).run P e.w=.ok (.int .u64 ((m/2:Nat):Int)) e.w:=by
  show(Op.shift .shr .u64 (m:Int) .u64 (1:Int)).run P e.w=_;rw[shift_shr_any _ _ _ _ (by omega)];show Result.ok (Value.int .u64 ((m:Int)/2^min ((1:Int).toNat) 64)) e.w=_
  congr 2
 simp[execOp,bV,eR,eqGuard,R]
theorem Dw{P av Q:bv}{k n:Nat}{y:Int×Int}(h:av[k]?=some y)(hn:n=P.length+k):(P++av++Q)[n]?=some y:=by subst hn;have J:=(List.getElem?_eq_some_iff.1 h).1;rw[List.append_assoc,List.getElem?_append_right (by omega),List.getElem?_append_left (by omega),show P.length+k-P.length=k by omega];exact h
theorem Fr{av:bv}(hU:dN av){k:Nat}{y:Int×Int}(hy:av[k]?=some y):∀aT∈av.take (k+1),aT.1<=y.1:=by
 intro aT hz;obtain⟨i,Z⟩:=List.getElem?_of_mem hz;rw[List.getElem?_take] at Z;split at Z
 ·exact hU.at Z hy (by omega)
 ·cases Z
theorem Dl{av:bv}(hU:dN av){k:Nat}{y:Int×Int}(hy:av[k]?=some y):∀aT∈av.drop k,y.1<=aT.1:=by intro aT hz;obtain⟨i,Z⟩:=List.getElem?_of_mem hz;rw[List.getElem?_drop] at Z;exact hU.at hy Z (by omega)
theorem Gq(x y:Int×Int):decide (rp x.1 y.1<0)=decide (x.1<y.1):=Kz x.1 y.1
set_option maxHeartbeats 16000000 in
theorem YT(ae M2 aF:bv)(x:Int×Int)(rest:List F)(hp:eN rest)(n c:Nat)(a m b:Int)(hn:(ae++[x]++M2++aF).length=n)(fk:n<=100000)(hU:dN M2)(h0:0<M2.length)(ha:a=ae.length)(hm:m=a+1)(R:b=m+M2.length):d8 prog 138 [20] [dD n c,z a,z m,z b,ei] [(20,bK (ae++[x]++M2++aF) rest)] (λ d O=>d=.bc []/\∃dF,iI ([x]++M2) dF/\O=[(20,bK (ae++dF++aF) rest)]):=by
 have bG:∀{S:bv}(B ak:Nat->Bool),F.ok.ec B ak (bK S rest)=true:=λ B ak=>tJ hp B ak
 have mN:=hn;simp only[List.length_append,List.length_cons,List.length_nil] at hn;refine sI func138 ntmps138 λ w cl own kf=>?_
 refine go ?_;rw[show decide (m-a=1)=true by rw[decide_eq_true_eq];omega];refine go ?_;refine bL (λ p:Nat×Nat=>p.1<=p.2/\p.2<=M2.length/\(∀y∈M2.take p.1,y.1<x.1)/\(∀y∈M2.drop p.2,x.1<=y.1)) (λ p=>⟨[(10,z (m+p.1)),(11,z (m+p.2)),(4,ei),(2,z m),(1,z a),(0,dD n c)],[(20,bK (ae++[x]++M2++aF) rest)],[]⟩) (λ p=>p.2-p.1) (0,M2.length) ⟨Nat.zero_le _,Nat.le_refl _,λ y hy=>by simp at hy,λ y hy=>by simp at hy⟩ (by rw[show m+((0:Nat):Int)=m by omega,<-R];exact dO (by(repeat(first|exact trivial|refine⟨⟨rfl,rfl⟩,?_⟩))) (by(repeat(first|exact trivial|refine⟨⟨rfl,rfl⟩,?_⟩|refine⟨⟨rfl,bG _ _⟩,?_⟩))) (by(repeat(first|exact trivial|refine⟨rfl,?_⟩))) (by(repeat(first|exact trivial|refine⟨rfl,?_⟩)))) ?_;rintro⟨i,j⟩ ⟨jr,hj,nN,pa⟩;simp only at jr hj nN pa;refine(show aJ _ _ _ _ ⟨[(10,z (m+i)),(11,z (m+j)),(4,ei),(2,z m),(1,z a),(0,dD n c)],[(20,bK (ae++[x]++M2++aF) rest)],[]⟩ from ?_);refine go ?_
 by_cases u:i<j
 ·rw[show decide (m+(i:Int)<m+j)=true by rw[decide_eq_true_eq];omega];have hw:IntKind.i64.wrap (((m+(i:Int)+(m+j)).toNat/2:Nat):Int)=m+((i+j)/2:Nat):=by rw[d6 (by omega) (by omega)];omega
  refine go ?_;rw[Fw (by omega) (by omega)];refine bf (Fg rfl rfl) rfl rfl rfl ?_;refine go ?_;rw[hw];clear hw;have L9:i<=(i+j)/2/\(i+j)/2<j:=by omega
  generalize(i+j)/2=h at*;obtain⟨y,hy⟩:∃y,M2[h]?=some y:=⟨M2[h]'(by omega),List.getElem?_eq_getElem _⟩;have bV:(ae++[x]++M2++aF)[ae.length+1+h]?=some y:=Dw (P:=ae++[x]) hy (by simp);have cZ:(ae++[x]++M2++aF)[ae.length]?=some x:=by rw[show ae++[x]++M2++aF=ae++x::(M2++aF) by simp];exact rG _ _ _ rfl
  have H2:y.1<x.1->(∀aT∈M2.take (h+1),aT.1<x.1):=λ bh aT hz=>by have:=Fr hU hy aT hz;omega
  have H3:¬y.1<x.1->(∀aT∈M2.drop h,x.1<=aT.1):=λ bh aT hz=>by have:=Dl hU hy aT hz;omega
  obtain⟨r1,iC⟩:=n6 bV rest;obtain⟨r2,l8⟩:=n6 cZ rest;have pg:=qh (ae++[x]++M2++aF) rest;have pV:=(List.getElem?_eq_some_iff.1 bV).1;have pW:=(List.getElem?_eq_some_iff.1 cZ).1;have qD:=Dd y x;have bh:=Gq y x;generalize rp y.1 x.1=cv at qD bh;generalize oY:ae++[x]++M2++aF=S1 at*;generalize rK:bK S1 rest=R1 at*;have ux:∀(B ak:Nat->Bool),F.ok.ec B ak R1=true:=λ B ak=>by rw[<-rK];exact bG B ak
  refine gD [] ?_;refine cD (ja (p:=(ae.length+1+h)*2) aw rfl rfl rfl rfl rfl (by omega) (by omega) (by show(ae.length+1+h)*2=(m+h).toNat*2;omega)) rfl rfl ?_;refine cD (lF aw [z y.1,z y.2] r1 rfl rfl rfl rfl rfl (by show(ae.length+1+h)*2<=R1.length;omega) iC rfl) rfl rfl ?_;refine ba ?_;refine cD (ja (p:=(ae.length)*2) aw rfl rfl rfl rfl rfl (by omega) (by omega) (by show(ae.length)*2=(a).toNat*2;omega)) rfl rfl ?_;refine cD (lF aw [z x.1,z x.2] r2 rfl rfl rfl rfl rfl (by show(ae.length)*2<=R1.length;omega) l8 rfl) rfl rfl ?_;refine ba ?_;refine cD (tV qD rfl (λ a w=>call85 a w) rfl rfl) rfl rfl ?_;refine qg ?_;rw[bh]
  by_cases D:y.1<x.1
  ·rw[show decide (y.1<x.1)=true from decide_eq_true D];refine go ?_;refine⟨(h+1,j),⟨by simp only;omega,by simp only;omega,H2 D,pa⟩,by simp only;omega,?_⟩;show bF _ _ ⟨[(10,z (m+((h+1:Nat):Int))),(11,z (m+j)),(4,ei),(2,z m),(1,z a),(0,dD n c)],[(20,R1)],[]⟩;rw[show m+((h+1:Nat):Int)=m+(h:Int)+1 by omega];exact dO (by(repeat(first|exact trivial|refine⟨⟨rfl,rfl⟩,?_⟩))) (by(repeat(first|exact trivial|refine⟨⟨rfl,rfl⟩,?_⟩|refine⟨⟨rfl,ux _ _⟩,?_⟩))) (by(repeat(first|exact trivial|refine⟨rfl,?_⟩))) (by(repeat(first|exact trivial|refine⟨rfl,?_⟩)))
  ·rw[show decide (y.1<x.1)=false from decide_eq_false D];refine go ?_;refine⟨(i,h),⟨by simp only;omega,by simp only;omega,nN,H3 D⟩,by simp only;omega,?_⟩;show bF _ _ ⟨[(10,z (m+i)),(11,z (m+h)),(4,ei),(2,z m),(1,z a),(0,dD n c)],[(20,R1)],[]⟩;exact dO (by(repeat(first|exact trivial|refine⟨⟨rfl,rfl⟩,?_⟩))) (by(repeat(first|exact trivial|refine⟨⟨rfl,rfl⟩,?_⟩|refine⟨⟨rfl,ux _ _⟩,?_⟩))) (by(repeat(first|exact trivial|refine⟨rfl,?_⟩))) (by(repeat(first|exact trivial|refine⟨rfl,?_⟩)))
 ·have jO:j=i:=by omega
  subst jO;rw[show decide (m+(j:Int)<m+j)=false by rw[decide_eq_false_iff_not];omega];have hM:=List.take_append_drop j M2;have D6:(M2.take j).length=j:=by rw[List.length_take];omega
  have rQ:(M2.drop j).length=M2.length-j:=List.length_drop ..;generalize M2.take j=P at*;generalize M2.drop j=Q at*;subst hM;have j5:=YL hU nN pa;simp only[List.length_append] at hn rQ;refine go ?_;refine bL (λ p:bv×bv=>P=p.1++p.2) (λ p=>⟨[(13,z (a+p.1.length)),(10,z (m+j)),(0,dD n c)],[(20,bK (ae++(p.1++x::p.2)++(Q++aF)) rest)],[]⟩) (λ p=>p.2.length) ([],P) rfl (by rw[show a+((([]:bv).length:Nat):Int)=a by simp,show ae++([]++x::P)++(Q++aF)=ae++[x]++(P++Q)++aF by simp];exact dO (by(repeat(first|exact trivial|refine⟨⟨rfl,rfl⟩,?_⟩))) (by(repeat(first|exact trivial|refine⟨⟨rfl,rfl⟩,?_⟩|refine⟨⟨rfl,bG _ _⟩,?_⟩))) (by(repeat(first|exact trivial|refine⟨rfl,?_⟩))) (by(repeat(first|exact trivial|refine⟨rfl,?_⟩)))) ?_;rintro⟨ar,B⟩ qA;simp only at qA;have Dy:ar.length+B.length=j:=by rw[<-D6,qA];simp
  refine(show aJ _ _ _ _ ⟨[(13,z (a+ar.length)),(10,z (m+j)),(0,dD n c)],[(20,bK (ae++(ar++x::B)++(Q++aF)) rest)],[]⟩ from ?_);rcases B with _|⟨aT,B⟩
  ·refine go ?_;rw[show decide (a+(ar.length:Int)<m+(j:Int)-1)=false by rw[decide_eq_false_iff_not];simp at Dy;omega];rw[show ae++(ar++x::[])++(Q++aF)=ae++(P++x::Q)++aF by rw[qA];simp];refine go ?_;refine gU (d:=.bc []) [(20,bK (ae++(P++x::Q)++aF) rest)] ?_ rfl ⟨⟨rfl,bG _ _⟩,trivial⟩ ⟨rfl,trivial⟩ ⟨rfl,P++x::Q,by simpa using j5,rfl⟩
   rfl
  ·simp only[List.length_cons] at Dy;refine go ?_;rw[show decide (a+(ar.length:Int)<m+(j:Int)-1)=true by rw[decide_eq_true_eq];omega];have e1:ae++(ar++x::aT::B)++(Q++aF)=(ae++ar)++x::(aT::B++(Q++aF)):=by simp
   have e2:ae++(ar++x::aT::B)++(Q++aF)=(ae++ar++[x])++aT::(B++(Q++aF)):=by simp
   have e3:(ae++ar)++aT::(aT::B++(Q++aF))=(ae++ar++[aT])++aT::(B++(Q++aF)):=by simp
   have bV:(ae++(ar++x::aT::B)++(Q++aF))[ae.length+ar.length]?=some x:=by rw[e1];exact rG _ _ _ (by simp)
   have cZ:(ae++(ar++x::aT::B)++(Q++aF))[ae.length+ar.length+1]?=some aT:=by rw[e2];exact rG _ _ _ (by simp;omega)
   have wG:((ae++(ar++x::aT::B)++(Q++aF)).set (ae.length+ar.length) aT).set (ae.length+ar.length+1) x=ae++((ar++[aT])++x::B)++(Q++aF):=by rw[e1,u6 _ _ _ _ (by simp),e3,u6 _ _ _ _ (by simp;omega)];simp
   have mN:(ae++(ar++x::aT::B)++(Q++aF)).length=n:=by simp;omega
   clear e1 e2 e3;obtain⟨r1,iC⟩:=n6 bV rest;obtain⟨r2,l8⟩:=n6 cZ rest;have pg:=qh (ae++(ar++x::aT::B)++(Q++aF)) rest;have pV:=(List.getElem?_eq_some_iff.1 bV).1;have pW:=(List.getElem?_eq_some_iff.1 cZ).1;have wH:=uZ (S:=ae++(ar++x::aT::B)++(Q++aF)) (i:=ae.length+ar.length) aT pV rest;have qU:=uZ (S:=(ae++(ar++x::aT::B)++(Q++aF)).set (ae.length+ar.length) aT) (i:=ae.length+ar.length+1) x (by rw[List.length_set];exact pW) rest;rw[wG] at qU;have wD:=qh ((ae++(ar++x::aT::B)++(Q++aF)).set (ae.length+ar.length) aT) rest;rw[List.length_set] at wD;generalize oY:ae++(ar++x::aT::B)++(Q++aF)=S1 at*;generalize rK:bK S1 rest=R1 at*;generalize Ha:bK (S1.set (ae.length+ar.length) aT) rest=R2 at*;refine go ?_;refine gD [20] ?_;refine cD (ja (p:=(ae.length+ar.length+1)*2) aw rfl rfl rfl rfl rfl (by omega) (by omega) (by show(ae.length+ar.length+1)*2=(a+ar.length+1).toNat*2;omega)) rfl rfl ?_;refine uS (lF aw [z aT.1,z aT.2] r2 rfl rfl rfl rfl rfl (by show(ae.length+ar.length+1)*2<=R1.length;omega) l8 rfl) rfl rfl (by kernel_rfl) ?_;refine ba ?_;refine cD (ja (p:=(ae.length+ar.length)*2) aw rfl rfl rfl rfl rfl (by omega) (by omega) (by show(ae.length+ar.length)*2=(a+ar.length).toNat*2;omega)) rfl rfl ?_;refine uS (lF aw [z x.1,z x.2] r1 rfl rfl rfl rfl rfl (by show(ae.length+ar.length)*2<=R1.length;omega) iC rfl) rfl rfl (by kernel_rfl) ?_
   refine cD (ja (p:=(ae.length+ar.length)*2) aw rfl rfl rfl rfl rfl (by omega) (by omega) (by show(ae.length+ar.length)*2=(a+ar.length).toNat*2;omega)) rfl rfl ?_;refine sf (aO:=R2) aw rfl rfl rfl rfl rfl rfl rfl rfl (vc (by show(ae.length+ar.length)*2+2<=R1.length;omega) wH) rfl rfl (.inl rfl) ?_;refine cD (ja (p:=(ae.length+ar.length+1)*2) aw rfl rfl rfl rfl rfl (by omega) (by omega) (by show(ae.length+ar.length+1)*2=(a+ar.length+1).toNat*2;omega)) rfl rfl ?_;refine sf (aO:=bK (ae++((ar++[aT])++x::B)++(Q++aF)) rest) aw rfl rfl rfl rfl rfl rfl rfl rfl (vc (by show(ae.length+ar.length+1)*2+2<=R2.length;omega) qU) rfl rfl (.inr (by kernel_rfl)) ?_;refine qg ?_;refine⟨(ar++[aT],B),by simp only;rw[qA];simp,by simp only[List.length_cons];omega,?_⟩;show bF _ _ ⟨[(13,z (a+(ar++[aT]).length)),(10,z (m+j)),(0,dD n c)],[(20,bK (ae++((ar++[aT])++x::B)++(Q++aF)) rest)],[]⟩;rw[show a+((ar++[aT]).length:Int)=a+(ar.length:Int)+1 by simp;omega];exact dO (by(repeat(first|exact trivial|refine⟨⟨rfl,rfl⟩,?_⟩))) (by(repeat(first|exact trivial|refine⟨⟨rfl,rfl⟩,?_⟩|refine⟨⟨rfl,bG _ _⟩,?_⟩))) (by(repeat(first|exact trivial|refine⟨rfl,?_⟩))) (by(repeat(first|exact trivial|refine⟨rfl,?_⟩)))
set_option maxHeartbeats 16000000 in
theorem YU(ae M1 aF:bv)(x:Int×Int)(rest:List F)(hp:eN rest)(n c:Nat)(a m b:Int)(hn:(ae++M1++[x]++aF).length=n)(fk:n<=100000)(hU:dN M1)(h0:1<M1.length)(ha:a=ae.length)(hm:m=a+M1.length)(R:b=m+1):d8 prog 138 [20] [dD n c,z a,z m,z b,ei] [(20,bK (ae++M1++[x]++aF) rest)] (λ d O=>d=.bc []/\∃dF,iI (M1++[x]) dF/\O=[(20,bK (ae++dF++aF) rest)]):=by
 have bG:∀{S:bv}(B ak:Nat->Bool),F.ok.ec B ak (bK S rest)=true:=λ B ak=>tJ hp B ak
 have mN:=hn;simp only[List.length_append,List.length_cons,List.length_nil] at hn;refine sI func138 ntmps138 λ w cl own kf=>?_
 refine go ?_;rw[show decide (m-a=1)=false by rw[decide_eq_false_iff_not];omega];refine go ?_;rw[show decide (b-m=1)=true by rw[decide_eq_true_eq];omega];refine go ?_;refine bL (λ p:Nat×Nat=>p.1<=p.2/\p.2<=M1.length/\(∀y∈M1.take p.1,y.1<=x.1)/\(∀y∈M1.drop p.2,x.1<y.1)) (λ p=>⟨[(14,z (a+p.1)),(15,z (a+p.2)),(4,ei),(2,z m),(1,z a),(0,dD n c)],[(20,bK (ae++M1++[x]++aF) rest)],[]⟩) (λ p=>p.2-p.1) (0,M1.length) ⟨Nat.zero_le _,Nat.le_refl _,λ y hy=>by simp at hy,λ y hy=>by simp at hy⟩ (by rw[show a+((0:Nat):Int)=a by omega,<-hm];exact dO (by(repeat(first|exact trivial|refine⟨⟨rfl,rfl⟩,?_⟩))) (by(repeat(first|exact trivial|refine⟨⟨rfl,rfl⟩,?_⟩|refine⟨⟨rfl,bG _ _⟩,?_⟩))) (by(repeat(first|exact trivial|refine⟨rfl,?_⟩))) (by(repeat(first|exact trivial|refine⟨rfl,?_⟩)))) ?_;rintro⟨i,j⟩ ⟨jr,hj,nN,pa⟩;simp only at jr hj nN pa;refine(show aJ _ _ _ _ ⟨[(14,z (a+i)),(15,z (a+j)),(4,ei),(2,z m),(1,z a),(0,dD n c)],[(20,bK (ae++M1++[x]++aF) rest)],[]⟩ from ?_);refine go ?_
 by_cases u:i<j
 ·rw[show decide (a+(i:Int)<a+j)=true by rw[decide_eq_true_eq];omega];have hw:IntKind.i64.wrap (((a+(i:Int)+(a+j)).toNat/2:Nat):Int)=a+((i+j)/2:Nat):=by rw[d6 (by omega) (by omega)];omega
  refine go ?_;rw[Fw (by omega) (by omega)];refine bf (Fg rfl rfl) rfl rfl rfl ?_;refine go ?_;rw[hw];clear hw;have L9:i<=(i+j)/2/\(i+j)/2<j:=by omega
  generalize(i+j)/2=h at*;obtain⟨y,hy⟩:∃y,M1[h]?=some y:=⟨M1[h]'(by omega),List.getElem?_eq_getElem _⟩;have cZ:(ae++M1++[x]++aF)[ae.length+h]?=some y:=by rw[show ae++M1++[x]++aF=ae++M1++([x]++aF) by simp];exact Dw hy rfl
  have bV:(ae++M1++[x]++aF)[ae.length+M1.length]?=some x:=by rw[show ae++M1++[x]++aF=(ae++M1)++x::aF by simp];exact rG _ _ _ (by simp)
  have H2:¬x.1<y.1->(∀aT∈M1.take (h+1),aT.1<=x.1):=λ bh aT hz=>by have:=Fr hU hy aT hz;omega
  have H3:x.1<y.1->(∀aT∈M1.drop h,x.1<aT.1):=λ bh aT hz=>by have:=Dl hU hy aT hz;omega
  obtain⟨r1,iC⟩:=n6 bV rest;obtain⟨r2,l8⟩:=n6 cZ rest;have pg:=qh (ae++M1++[x]++aF) rest;have pV:=(List.getElem?_eq_some_iff.1 bV).1;have pW:=(List.getElem?_eq_some_iff.1 cZ).1;have qD:=Dd x y;have bh:=Gq x y;generalize rp x.1 y.1=cv at qD bh;generalize oY:ae++M1++[x]++aF=S1 at*;generalize rK:bK S1 rest=R1 at*;have ux:∀(B ak:Nat->Bool),F.ok.ec B ak R1=true:=λ B ak=>by rw[<-rK];exact bG B ak
  refine gD [] ?_;refine cD (ja (p:=(ae.length+M1.length)*2) aw rfl rfl rfl rfl rfl (by omega) (by omega) (by show(ae.length+M1.length)*2=(m).toNat*2;omega)) rfl rfl ?_;refine cD (lF aw [z x.1,z x.2] r1 rfl rfl rfl rfl rfl (by show(ae.length+M1.length)*2<=R1.length;omega) iC rfl) rfl rfl ?_;refine ba ?_;refine cD (ja (p:=(ae.length+h)*2) aw rfl rfl rfl rfl rfl (by omega) (by omega) (by show(ae.length+h)*2=(a+h).toNat*2;omega)) rfl rfl ?_;refine cD (lF aw [z y.1,z y.2] r2 rfl rfl rfl rfl rfl (by show(ae.length+h)*2<=R1.length;omega) l8 rfl) rfl rfl ?_;refine ba ?_;refine cD (tV qD rfl (λ a w=>call85 a w) rfl rfl) rfl rfl ?_;refine qg ?_;rw[bh]
  by_cases D:x.1<y.1
  ·rw[show decide (x.1<y.1)=true from decide_eq_true D];refine go ?_;refine⟨(i,h),⟨by simp only;omega,by simp only;omega,nN,H3 D⟩,by simp only;omega,?_⟩;show bF _ _ ⟨[(14,z (a+i)),(15,z (a+h)),(4,ei),(2,z m),(1,z a),(0,dD n c)],[(20,R1)],[]⟩;exact dO (by(repeat(first|exact trivial|refine⟨⟨rfl,rfl⟩,?_⟩))) (by(repeat(first|exact trivial|refine⟨⟨rfl,rfl⟩,?_⟩|refine⟨⟨rfl,ux _ _⟩,?_⟩))) (by(repeat(first|exact trivial|refine⟨rfl,?_⟩))) (by(repeat(first|exact trivial|refine⟨rfl,?_⟩)))
  ·rw[show decide (x.1<y.1)=false from decide_eq_false D];refine go ?_;refine⟨(h+1,j),⟨by simp only;omega,by simp only;omega,H2 D,pa⟩,by simp only;omega,?_⟩;show bF _ _ ⟨[(14,z (a+((h+1:Nat):Int))),(15,z (a+j)),(4,ei),(2,z m),(1,z a),(0,dD n c)],[(20,R1)],[]⟩;rw[show a+((h+1:Nat):Int)=a+(h:Int)+1 by omega];exact dO (by(repeat(first|exact trivial|refine⟨⟨rfl,rfl⟩,?_⟩))) (by(repeat(first|exact trivial|refine⟨⟨rfl,rfl⟩,?_⟩|refine⟨⟨rfl,ux _ _⟩,?_⟩))) (by(repeat(first|exact trivial|refine⟨rfl,?_⟩))) (by(repeat(first|exact trivial|refine⟨rfl,?_⟩)))
 ·have jO:j=i:=by omega
  subst jO;rw[show decide (a+(j:Int)<a+j)=false by rw[decide_eq_false_iff_not];omega];have hM:=List.take_append_drop j M1;have D6:(M1.take j).length=j:=by rw[List.length_take];omega
  have rQ:(M1.drop j).length=M1.length-j:=List.length_drop ..;generalize M1.take j=P at*;generalize M1.drop j=Q at*;subst hM;have j5:=Ju hU nN pa;simp only[List.length_append] at hn rQ hm h0;refine go ?_;refine bL (λ p:bv×bv=>Q=p.1++p.2) (λ p=>⟨[(17,z (a+j+p.1.length)),(14,z (a+j)),(0,dD n c)],[(20,bK (ae++P++(p.1++x::p.2)++aF) rest)],[]⟩) (λ p=>p.1.length) (Q,[]) (List.append_nil _).symm (by rw[show a+(j:Int)+(Q.length:Int)=m by omega,show ae++P++(Q++x::[])++aF=ae++(P++Q)++[x]++aF by simp];exact dO (by(repeat(first|exact trivial|refine⟨⟨rfl,rfl⟩,?_⟩))) (by(repeat(first|exact trivial|refine⟨⟨rfl,rfl⟩,?_⟩|refine⟨⟨rfl,bG _ _⟩,?_⟩))) (by(repeat(first|exact trivial|refine⟨rfl,?_⟩))) (by(repeat(first|exact trivial|refine⟨rfl,?_⟩)))) ?_;rintro⟨ar,B⟩ qA;simp only at qA;have Dy:ar.length+B.length=Q.length:=by rw[qA];simp
  refine(show aJ _ _ _ _ ⟨[(17,z (a+j+ar.length)),(14,z (a+j)),(0,dD n c)],[(20,bK (ae++P++(ar++x::B)++aF) rest)],[]⟩ from ?_);rcases List.eq_nil_or_concat ar with rfl|⟨ar,aT,rfl⟩
  ·refine go ?_;rw[show decide (a+(j:Int)+((([]:bv).length:Nat):Int)>a+(j:Int))=false by rw[decide_eq_false_iff_not];simp];rw[show ae++P++([]++x::B)++aF=ae++(P++x::Q)++aF by rw[qA];simp];refine go ?_;refine gU (d:=.bc []) [(20,bK (ae++(P++x::Q)++aF) rest)] ?_ rfl ⟨⟨rfl,bG _ _⟩,trivial⟩ ⟨rfl,trivial⟩ ⟨rfl,P++x::Q,j5,rfl⟩
   rfl
  ·simp only[List.concat_eq_append] at*;have dz:(ar++[aT]).length=ar.length+1:=by simp
   rw[dz] at Dy;rw[dz];refine go ?_;rw[show decide (a+(j:Int)+((ar.length+1:Nat):Int)>a+(j:Int))=true by rw[decide_eq_true_eq];omega];have e1:ae++P++((ar++[aT])++x::B)++aF=(ae++P++ar++[aT])++x::(B++aF):=by simp
   have e2:ae++P++((ar++[aT])++x::B)++aF=(ae++P++ar)++aT::(x::(B++aF)):=by simp
   have e3:(ae++P++ar++[aT])++aT::(B++aF)=(ae++P++ar)++aT::(aT::(B++aF)):=by simp
   have bV:(ae++P++((ar++[aT])++x::B)++aF)[ae.length+j+ar.length+1]?=some x:=by rw[e1];exact rG _ _ _ (by simp;omega)
   have cZ:(ae++P++((ar++[aT])++x::B)++aF)[ae.length+j+ar.length]?=some aT:=by rw[e2];exact rG _ _ _ (by simp;omega)
   have wG:((ae++P++((ar++[aT])++x::B)++aF).set (ae.length+j+ar.length+1) aT).set (ae.length+j+ar.length) x=ae++P++(ar++x::(aT::B))++aF:=by rw[e1,u6 _ _ _ _ (by simp;omega),e3,u6 _ _ _ _ (by simp;omega)];simp
   have mN:(ae++P++((ar++[aT])++x::B)++aF).length=n:=by simp;omega
   clear e1 e2 e3;obtain⟨r1,iC⟩:=n6 bV rest;obtain⟨r2,l8⟩:=n6 cZ rest;have pg:=qh (ae++P++((ar++[aT])++x::B)++aF) rest;have pV:=(List.getElem?_eq_some_iff.1 bV).1;have pW:=(List.getElem?_eq_some_iff.1 cZ).1;have wH:=uZ (S:=ae++P++((ar++[aT])++x::B)++aF) (i:=ae.length+j+ar.length+1) aT pV rest;have qU:=uZ (S:=(ae++P++((ar++[aT])++x::B)++aF).set (ae.length+j+ar.length+1) aT) (i:=ae.length+j+ar.length) x (by rw[List.length_set];exact pW) rest;rw[wG] at qU;have wD:=qh ((ae++P++((ar++[aT])++x::B)++aF).set (ae.length+j+ar.length+1) aT) rest;rw[List.length_set] at wD;generalize oY:ae++P++((ar++[aT])++x::B)++aF=S1 at*;generalize rK:bK S1 rest=R1 at*;generalize Ha:bK (S1.set (ae.length+j+ar.length+1) aT) rest=R2 at*;refine go ?_;refine gD [20] ?_;refine cD (ja (p:=(ae.length+j+ar.length)*2) aw rfl rfl rfl rfl rfl (by omega) (by omega) (by show(ae.length+j+ar.length)*2=(a+j+((ar.length+1:Nat):Int)-1).toNat*2;omega)) rfl rfl ?_;refine uS (lF aw [z aT.1,z aT.2] r2 rfl rfl rfl rfl rfl (by show(ae.length+j+ar.length)*2<=R1.length;omega) l8 rfl) rfl rfl (by kernel_rfl) ?_;refine ba ?_;refine cD (ja (p:=(ae.length+j+ar.length+1)*2) aw rfl rfl rfl rfl rfl (by omega) (by omega) (by show(ae.length+j+ar.length+1)*2=(a+j+((ar.length+1:Nat):Int)).toNat*2;omega)) rfl rfl ?_;refine uS (lF aw [z x.1,z x.2] r1 rfl rfl rfl rfl rfl (by show(ae.length+j+ar.length+1)*2<=R1.length;omega) iC rfl) rfl rfl (by kernel_rfl) ?_
   refine cD (ja (p:=(ae.length+j+ar.length+1)*2) aw rfl rfl rfl rfl rfl (by omega) (by omega) (by show(ae.length+j+ar.length+1)*2=(a+j+((ar.length+1:Nat):Int)).toNat*2;omega)) rfl rfl ?_;refine sf (aO:=R2) aw rfl rfl rfl rfl rfl rfl rfl rfl (vc (by show(ae.length+j+ar.length+1)*2+2<=R1.length;omega) wH) rfl rfl (.inl rfl) ?_;refine cD (ja (p:=(ae.length+j+ar.length)*2) aw rfl rfl rfl rfl rfl (by omega) (by omega) (by show(ae.length+j+ar.length)*2=(a+j+((ar.length+1:Nat):Int)-1).toNat*2;omega)) rfl rfl ?_;refine sf (aO:=bK (ae++P++(ar++x::(aT::B))++aF) rest) aw rfl rfl rfl rfl rfl rfl rfl rfl (vc (by show(ae.length+j+ar.length)*2+2<=R2.length;omega) qU) rfl rfl (.inr (by kernel_rfl)) ?_;refine qg ?_;refine⟨(ar,aT::B),by simp only;rw[qA];simp,by simp only;omega,?_⟩;show bF _ _ ⟨[(17,z (a+j+ar.length)),(14,z (a+j)),(0,dD n c)],[(20,bK (ae++P++(ar++x::(aT::B))++aF) rest)],[]⟩;rw[show a+(j:Int)+(ar.length:Int)=a+(j:Int)+((ar.length+1:Nat):Int)-1 by omega];exact dO (by(repeat(first|exact trivial|refine⟨⟨rfl,rfl⟩,?_⟩))) (by(repeat(first|exact trivial|refine⟨⟨rfl,rfl⟩,?_⟩|refine⟨⟨rfl,bG _ _⟩,?_⟩))) (by(repeat(first|exact trivial|refine⟨rfl,?_⟩))) (by(repeat(first|exact trivial|refine⟨rfl,?_⟩)))
structure Aq(M1 M2:bv)(s lo Z aa v:Nat):Prop where
 a:lo<=aa
 b:aa<=v
 c:v<=Z
 l:aa=lo\/∃x y,M1[aa-1]?=some x/\M2[s-aa]?=some y/\x.1<=y.1
 r:v=Z\/∃x y,M1[v]?=some x/\M2[s-1-v]?=some y/\y.1<x.1
structure JV(na nb s lo Z:Nat):Prop where
 a:lo<=Z
 b:Z<=na
 c:Z<=s
 d:s<=lo+nb
 e:lo=0\/s=lo+nb
 f:Z=na\/Z=s
theorem RC{M1 M2 aP aE:bv}{s lo Z aa:Nat}(u:dN M1)(D:dN M2)(A:JV M1.length M2.length s lo Z)(h:Aq M1 M2 s lo Z aa aa)(hL:iI (M1.take aa++M2.take (s-aa)) aP)(hR:iI (M1.drop aa++M2.drop (s-aa)) aE):iI (M1++M2) (aP++aE):=by
 have M:=h.a;have hr:=h.c;have e1:=A.b;have e2:=A.c;have e3:=A.d;have key:=YK (A1:=M1.take aa) (A2:=M1.drop aa) (B1:=M2.take (s-aa)) (B2:=M2.drop (s-aa)) (aP:=aP) (aE:=aE) (by rw[List.take_append_drop];exact u) (by rw[List.take_append_drop];exact D) ?_ ?_ hL hR
 ·rw[List.take_append_drop,List.take_append_drop] at key;exact key
 ·intro x T y hy;rcases h.l with e|⟨x0,y0,k1,k2,k3⟩
  ·rcases A.e with V|V
   ·rw[e,V] at T;simp at T
   ·rw[List.drop_of_length_le (by omega)] at hy;cases hy
  ·have hu:aa≠0:=by
    intro e0;subst e0;simp at T
   have a1:=Fr u k1 x (by rw[show aa-1+1=aa by omega];exact T);have a2:=Dl D k2 y hy;omega
 ·intro y hy x T;rcases h.r with e|⟨x0,y0,k1,k2,k3⟩
  ·rcases A.f with V|V
   ·rw[List.drop_of_length_le (by omega)] at T;cases T
   ·rw[show s-aa=0 by omega] at hy;simp at hy
  ·rcases Nat.lt_or_ge aa s with UL|UL
   ·have a1:=Fr D k2 y (by rw[show s-1-aa+1=s-aa by omega];exact hy);have a2:=Dl u k1 x T;omega
   ·rw[show s-aa=0 by omega] at hy;simp at hy
set_option maxHeartbeats 32000000 in
theorem JH(rest:List F)(hp:eN rest)(n c:Nat)(fk:n<=100000):∀(N:Nat)(ae M1 M2 aF:bv)(a m b:Int),M1.length+M2.length<=N->(ae++M1++M2++aF).length=n->dN M1->dN M2->0<M1.length->0<M2.length->a=ae.length->m=a+M1.length->b=m+M2.length->d8 prog 138 [20] [dD n c,z a,z m,z b,ei] [(20,bK (ae++M1++M2++aF) rest)] (λ d O=>d=.bc []/\∃dF,iI (M1++M2) dF/\O=[(20,bK (ae++dF++aF) rest)])
 |0,ae,M1,M2,aF,a,m,b,hN,hn,rL,v6,So,Li,ha,hm,R=>by omega
 |N+1,ae,M1,M2,aF,a,m,b,hN,hn,rL,v6,So,Li,ha,hm,R=>by
  have bG:∀{S:bv}(B ak:Nat->Bool),F.ok.ec B ak (bK S rest)=true:=λ B ak=>tJ hp B ak
  by_cases q1:M1.length=1
  ·match M1,q1 with
   |[x],_=>exact YT ae M2 aF x rest hp n c a m b hn fk v6 Li ha (by simpa using hm) R
  by_cases q2:M2.length=1
  ·match M2,q2 with
   |[x],_=>exact YU ae M1 aF x rest hp n c a m b hn fk rL (by omega) ha hm (by simpa using R)
  have IH:=JH rest hp n c fk N;have mN:=hn;simp only[List.length_append] at hn;obtain⟨s,hs⟩:∃s,s=(M1.length+M2.length)/2:=⟨_,rfl⟩;refine sI func138 ntmps138 λ w cl own kf=>?_
  refine go ?_;rw[show decide (m-a=1)=false by rw[decide_eq_false_iff_not];omega];refine go ?_;rw[show decide (b-m=1)=false by rw[decide_eq_false_iff_not];omega];refine zU (zD (zM ?_));have hw:IntKind.i64.wrap (((a+b).toNat/2:Nat):Int)=a+s:=by rw[d6 (by omega) (by omega)];omega
  refine zA (zB ?_);refine gG ?_;rw[Fw (by omega) (by omega)];refine bf (Fg rfl rfl) rfl rfl rfl ?_;refine gG ?_;rw[hw];clear hw;refine zM (zA (zB ?_));refine gG ?_;refine zM (zA (zB ?_));refine gG ?_;refine zM ?_;refine AF (dE:=Nat×Nat) (λ p=>⟨[(20,z (a+p.1)),(21,z (a+p.2)),(19,z (a+s+m)),(18,z (a+s)),(4,ei),(3,z b),(2,z m),(1,z a),(0,dD n c)],[(20,bK (ae++M1++M2++aF) rest)],[]⟩) (λ p=>JV M1.length M2.length s p.1 p.2) ?_ ?_
  ·refine go ?_
   by_cases hg:s<M1.length
   ·rw[show decide (m>a+(s:Int))=true by rw[decide_eq_true_eq];omega];refine go ?_;refine⟨rfl,(s-M2.length,s),⟨by simp only;omega,by simp only;omega,by simp only;omega,by simp only;omega,.inr (by simp only;omega),.inr rfl⟩,?_⟩;simp only;rw[show a+((s-M2.length:Nat):Int)=a+(s:Int)+m-b by omega];exact dO (by(repeat(first|exact trivial|refine⟨⟨rfl,rfl⟩,?_⟩))) (by(repeat(first|exact trivial|refine⟨⟨rfl,rfl⟩,?_⟩|refine⟨⟨rfl,bG _ _⟩,?_⟩))) (by(repeat(first|exact trivial|refine⟨rfl,?_⟩))) (by(repeat(first|exact trivial|refine⟨rfl,?_⟩)))
   ·rw[show decide (m>a+(s:Int))=false by rw[decide_eq_false_iff_not];omega];refine go ?_;refine⟨rfl,(0,M1.length),⟨by simp only;omega,by simp only;omega,by simp only;omega,by simp only;omega,.inl rfl,.inl rfl⟩,?_⟩;simp only;rw[show a+((0:Nat):Int)=a by omega,<-hm];exact dO (by(repeat(first|exact trivial|refine⟨⟨rfl,rfl⟩,?_⟩))) (by(repeat(first|exact trivial|refine⟨⟨rfl,rfl⟩,?_⟩|refine⟨⟨rfl,bG _ _⟩,?_⟩))) (by(repeat(first|exact trivial|refine⟨rfl,?_⟩))) (by(repeat(first|exact trivial|refine⟨rfl,?_⟩)))
  rintro⟨lo,Z⟩ A;simp only at A;refine(show aJ _ _ _ _ ⟨[(20,z (a+lo)),(21,z (a+Z)),(19,z (a+s+m)),(18,z (a+s)),(4,ei),(3,z b),(2,z m),(1,z a),(0,dD n c)],[(20,bK (ae++M1++M2++aF) rest)],[]⟩ from ?_);have g1:=A.b;have g2:=A.c;have g3:=A.d;have g4:=A.a;refine zA (zB ?_);refine gG ?_;refine zM ?_;refine AF (dE:=Nat) (λ aa=>⟨[(20,z (a+aa)),(19,z (a+s+m)),(18,z (a+s)),(4,ei),(3,z b),(2,z m),(1,z a),(0,dD n c)],[(20,bK (ae++M1++M2++aF) rest)],[]⟩) (λ aa=>Aq M1 M2 s lo Z aa aa) ?_ ?_
  ·refine go ?_;refine bL (λ p:Nat×Nat=>Aq M1 M2 s lo Z p.1 p.2) (λ p=>⟨[(20,z (a+p.1)),(21,z (a+p.2)),(22,z (a+s+m-1)),(19,z (a+s+m)),(18,z (a+s)),(4,ei),(3,z b),(2,z m),(1,z a),(0,dD n c)],[(20,bK (ae++M1++M2++aF) rest)],[]⟩) (λ p=>p.2-p.1) (lo,Z) ⟨Nat.le_refl _,A.a,Nat.le_refl _,.inl rfl,.inl rfl⟩ (dO (by(repeat(first|exact trivial|refine⟨⟨rfl,rfl⟩,?_⟩))) (by(repeat(first|exact trivial|refine⟨⟨rfl,rfl⟩,?_⟩|refine⟨⟨rfl,bG _ _⟩,?_⟩))) (by(repeat(first|exact trivial|refine⟨rfl,?_⟩))) (by(repeat(first|exact trivial|refine⟨rfl,?_⟩)))) ?_;rintro⟨aa,v⟩ hC;simp only at hC;refine(show aJ _ _ _ _ ⟨[(20,z (a+aa)),(21,z (a+v)),(22,z (a+s+m-1)),(19,z (a+s+m)),(18,z (a+s)),(4,ei),(3,z b),(2,z m),(1,z a),(0,dD n c)],[(20,bK (ae++M1++M2++aF) rest)],[]⟩ from ?_);have g5:=hC.a;have g6:=hC.b;have g7:=hC.c;refine go ?_
   by_cases u:aa<v
   ·rw[show decide (a+(aa:Int)<a+v)=true by rw[decide_eq_true_eq];omega];have hw:IntKind.i64.wrap (((a+(aa:Int)+(a+v)).toNat/2:Nat):Int)=a+((aa+v)/2:Nat):=by rw[d6 (by omega) (by omega)];omega
    refine go ?_;rw[Fw (by omega) (by omega)];refine bf (Fg rfl rfl) rfl rfl rfl ?_;refine go ?_;rw[hw];clear hw;have L9:aa<=(aa+v)/2/\(aa+v)/2<v:=by omega
    generalize(aa+v)/2=h at*;obtain⟨x,T⟩:∃x,M1[h]?=some x:=⟨M1[h]'(by omega),List.getElem?_eq_getElem _⟩;obtain⟨y,hy⟩:∃y,M2[s-1-h]?=some y:=⟨M2[s-1-h]'(by omega),List.getElem?_eq_getElem _⟩;have bV:(ae++M1++M2++aF)[ae.length+M1.length+(s-1-h)]?=some y:=Dw (P:=ae++M1) hy (by simp);have cZ:(ae++M1++M2++aF)[ae.length+h]?=some x:=by rw[show ae++M1++M2++aF=ae++M1++(M2++aF) by simp];exact Dw T rfl
    have UG:¬y.1<x.1->Aq M1 M2 s lo Z (h+1) v:=λ bh=>⟨by omega,by omega,g7,.inr ⟨x,y,by rw[show h+1-1=h by omega];exact T,by rw[show s-(h+1)=s-1-h by omega];exact hy,by omega⟩,hC.r⟩
    have UH:y.1<x.1->Aq M1 M2 s lo Z aa h:=λ bh=>⟨g5,by omega,by omega,hC.l,.inr ⟨x,y,T,hy,bh⟩⟩
    obtain⟨r1,iC⟩:=n6 bV rest;obtain⟨r2,l8⟩:=n6 cZ rest;have pg:=qh (ae++M1++M2++aF) rest;have pV:=(List.getElem?_eq_some_iff.1 bV).1;have pW:=(List.getElem?_eq_some_iff.1 cZ).1;have qD:=Dd y x;have bh:=Gq y x;generalize rp y.1 x.1=cv at qD bh;generalize oY:ae++M1++M2++aF=S1 at*;generalize rK:bK S1 rest=R1 at*;have ux:∀(B ak:Nat->Bool),F.ok.ec B ak R1=true:=λ B ak=>by rw[<-rK];exact bG B ak
    refine gD [] ?_;refine cD (ja (p:=(ae.length+M1.length+(s-1-h))*2) aw rfl rfl rfl rfl rfl (by omega) (by omega) (by show(ae.length+M1.length+(s-1-h))*2=(a+s+m-1-(a+h)).toNat*2;omega)) rfl rfl ?_;refine cD (lF aw [z y.1,z y.2] r1 rfl rfl rfl rfl rfl (by show(ae.length+M1.length+(s-1-h))*2<=R1.length;omega) iC rfl) rfl rfl ?_;refine ba ?_;refine cD (ja (p:=(ae.length+h)*2) aw rfl rfl rfl rfl rfl (by omega) (by omega) (by show(ae.length+h)*2=(a+h).toNat*2;omega)) rfl rfl ?_;refine cD (lF aw [z x.1,z x.2] r2 rfl rfl rfl rfl rfl (by show(ae.length+h)*2<=R1.length;omega) l8 rfl) rfl rfl ?_;refine ba ?_;refine cD (tV qD rfl (λ a w=>call85 a w) rfl rfl) rfl rfl ?_;refine qg ?_;rw[bh]
    by_cases D:y.1<x.1
    ·rw[show decide (y.1<x.1)=true from decide_eq_true D];refine go ?_;refine⟨(aa,h),UH D,by simp only;omega,?_⟩;show bF _ _ ⟨[(20,z (a+aa)),(21,z (a+h)),(22,z (a+s+m-1)),(19,z (a+s+m)),(18,z (a+s)),(4,ei),(3,z b),(2,z m),(1,z a),(0,dD n c)],[(20,R1)],[]⟩;exact dO (by(repeat(first|exact trivial|refine⟨⟨rfl,rfl⟩,?_⟩))) (by(repeat(first|exact trivial|refine⟨⟨rfl,rfl⟩,?_⟩|refine⟨⟨rfl,ux _ _⟩,?_⟩))) (by(repeat(first|exact trivial|refine⟨rfl,?_⟩))) (by(repeat(first|exact trivial|refine⟨rfl,?_⟩)))
    ·rw[show decide (y.1<x.1)=false from decide_eq_false D];refine go ?_;refine⟨(h+1,v),UG D,by simp only;omega,?_⟩;show bF _ _ ⟨[(20,z (a+((h+1:Nat):Int))),(21,z (a+v)),(22,z (a+s+m-1)),(19,z (a+s+m)),(18,z (a+s)),(4,ei),(3,z b),(2,z m),(1,z a),(0,dD n c)],[(20,R1)],[]⟩;rw[show a+((h+1:Nat):Int)=a+(h:Int)+1 by omega];exact dO (by(repeat(first|exact trivial|refine⟨⟨rfl,rfl⟩,?_⟩))) (by(repeat(first|exact trivial|refine⟨⟨rfl,rfl⟩,?_⟩|refine⟨⟨rfl,ux _ _⟩,?_⟩))) (by(repeat(first|exact trivial|refine⟨rfl,?_⟩))) (by(repeat(first|exact trivial|refine⟨rfl,?_⟩)))
   ·have UN:v=aa:=by omega
    subst UN;rw[show decide (a+(v:Int)<a+v)=false by rw[decide_eq_false_iff_not];omega];refine go ?_;exact⟨rfl,v,hC,dO (by(repeat(first|exact trivial|refine⟨⟨rfl,rfl⟩,?_⟩))) (by(repeat(first|exact trivial|refine⟨⟨rfl,rfl⟩,?_⟩|refine⟨⟨rfl,bG _ _⟩,?_⟩))) (by(repeat(first|exact trivial|refine⟨rfl,?_⟩))) (by(repeat(first|exact trivial|refine⟨rfl,?_⟩)))⟩
  intro aa hC;have g5:=hC.a;have g7:=hC.c;have j5:∀{aP aE:bv},iI (M1.take aa++M2.take (s-aa)) aP->iI (M1.drop aa++M2.drop (s-aa)) aE->iI (M1++M2) (aP++aE):=λ hL hR=>RC rL v6 A hC hL hR
  have c1:=List.take_append_drop aa M1;have c2:=List.take_append_drop (s-aa) M2;have l1:(M1.take aa).length=aa:=by rw[List.length_take];omega
  have l2:(M2.take (s-aa)).length=s-aa:=by rw[List.length_take];omega
  have l3:(M1.drop aa).length=M1.length-aa:=List.length_drop ..;have aay:(M2.drop (s-aa)).length=M2.length-(s-aa):=List.length_drop ..;have u1:dN (M1.take aa):=by rw[<-c1] at rL;exact rL.left
  have u2:dN (M1.drop aa):=by rw[<-c1] at rL;exact rL.right
  have u3:dN (M2.take (s-aa)):=by rw[<-c2] at v6;exact v6.left
  have u4:dN (M2.drop (s-aa)):=by rw[<-c2] at v6;exact v6.right
  have s9:ae++M1++M2++aF=ae++M1.take aa++M1.drop aa++M2.take (s-aa)++M2.drop (s-aa)++aF:=by rw[show ae++M1.take aa++M1.drop aa++M2.take (s-aa)++M2.drop (s-aa)++aF=ae++(M1.take aa++M1.drop aa)++(M2.take (s-aa)++M2.drop (s-aa))++aF by simp,c1,c2]
  rw[s9];rw[s9] at mN;clear s9 c1 c2 hC A;generalize M1.take aa=A1 at*;generalize M1.drop aa=A2 at*;generalize M2.take (s-aa)=B1 at*;generalize M2.drop (s-aa)=B2 at*;refine zA (zB ?_);refine gG ?_;refine zM ?_;rw[show a+(s:Int)+m-(a+aa)=m+s-aa by omega];refine AF (dE:=Unit) (λ _=>⟨[(24,z (m+s-aa)),(20,z (a+aa)),(18,z (a+s)),(4,ei),(3,z b),(2,z m),(1,z a),(0,dD n c)],[(20,bK (ae++A1++B1++(A2++B2++aF)) rest)],[]⟩) (λ _=>True) ?_ ?_
  ·refine go ?_
   by_cases k1:aa<M1.length
   ·rw[show decide (a+(aa:Int)<m)=true by rw[decide_eq_true_eq];omega];refine go ?_
    by_cases k2:aa<s
    ·rw[show decide (m<m+(s:Int)-aa)=true by rw[decide_eq_true_eq];omega];have hr:=Yg (ae++A1) A2 B1 (B2++aF) rest hp n c (a+aa) m (m+s-aa) (by rw[<-mN];simp) fk (by omega) (by omega) (by simp;omega) (by omega) (by omega);rw[show ae++A1++A2++B1++(B2++aF)=ae++A1++A2++B1++B2++aF by simp,show ae++A1++B1++A2++(B2++aF)=ae++A1++B1++(A2++B2++aF) by simp] at hr;refine go ?_;refine gk hr rfl (λ a w=>call183 a w) rfl rfl ⟨⟨rfl,bG _ _⟩,trivial⟩ (by(repeat(first|exact trivial|refine⟨.inr rfl,?_⟩|refine⟨.inl rfl,?_⟩))) rfl rfl rfl rfl ?_ ?_
     ·rintro d O ⟨rfl,rfl⟩;exact⟨.inl rfl,trivial⟩
     rintro d O ⟨rfl,rfl⟩;refine go ?_;exact⟨rfl,(),trivial,dO (by(repeat(first|exact trivial|refine⟨⟨rfl,rfl⟩,?_⟩))) (by(repeat(first|exact trivial|refine⟨⟨rfl,rfl⟩,?_⟩|refine⟨⟨rfl,bG _ _⟩,?_⟩))) (by(repeat(first|exact trivial|refine⟨rfl,?_⟩))) (by(repeat(first|exact trivial|refine⟨rfl,?_⟩)))⟩
    ·have:B1=[]:=List.length_eq_zero_iff.1 (by omega);subst this;rw[show decide (m<m+(s:Int)-aa)=false by rw[decide_eq_false_iff_not];omega];refine go ?_;refine⟨rfl,(),trivial,?_⟩;rw[show ae++A1++A2++[]++B2++aF=ae++A1++[]++(A2++B2++aF) by simp];exact dO (by(repeat(first|exact trivial|refine⟨⟨rfl,rfl⟩,?_⟩))) (by(repeat(first|exact trivial|refine⟨⟨rfl,rfl⟩,?_⟩|refine⟨⟨rfl,bG _ _⟩,?_⟩))) (by(repeat(first|exact trivial|refine⟨rfl,?_⟩))) (by(repeat(first|exact trivial|refine⟨rfl,?_⟩)))
   ·have:A2=[]:=List.length_eq_zero_iff.1 (by omega);subst this;rw[show decide (a+(aa:Int)<m)=false by rw[decide_eq_false_iff_not];omega];refine go ?_;refine⟨rfl,(),trivial,?_⟩;rw[show ae++A1++[]++B1++B2++aF=ae++A1++B1++([]++B2++aF) by simp];exact dO (by(repeat(first|exact trivial|refine⟨⟨rfl,rfl⟩,?_⟩))) (by(repeat(first|exact trivial|refine⟨⟨rfl,rfl⟩,?_⟩|refine⟨⟨rfl,bG _ _⟩,?_⟩))) (by(repeat(first|exact trivial|refine⟨rfl,?_⟩))) (by(repeat(first|exact trivial|refine⟨rfl,?_⟩)))
  intro _ _;have aae:ae.length+A1.length+B1.length+(A2.length+B2.length+aF.length)=n:=by rw[<-mN];simp;omega
  refine AF (dE:=bv) (λ aP=>⟨[(24,z (m+s-aa)),(20,z (a+aa)),(18,z (a+s)),(4,ei),(3,z b),(2,z m),(1,z a),(0,dD n c)],[(20,bK (ae++aP++A2++B2++aF) rest)],[]⟩) (λ aP=>iI (A1++B1) aP) ?_ ?_
  ·refine go ?_
   by_cases k1:0<aa
   ·rw[show decide (a<a+(aa:Int))=true by rw[decide_eq_true_eq];omega];refine go ?_
    by_cases k2:aa<s
    ·rw[show decide (a+(aa:Int)<a+s)=true by rw[decide_eq_true_eq];omega];have hr:=IH ae A1 B1 (A2++B2++aF) a (a+aa) (a+s) (by omega) (by simp;omega) u1 u3 (by omega) (by omega) ha (by omega) (by omega);refine go ?_;refine gk hr rfl (λ a w=>call138 a w) rfl rfl ⟨⟨rfl,bG _ _⟩,trivial⟩ (by(repeat(first|exact trivial|refine⟨.inr rfl,?_⟩|refine⟨.inl rfl,?_⟩))) rfl rfl rfl rfl ?_ ?_
     ·rintro d O ⟨rfl,aP,_,rfl⟩;exact⟨.inl rfl,trivial⟩
     rintro d O ⟨rfl,aP,hL,rfl⟩;refine go ?_;refine⟨rfl,aP,hL,?_⟩;rw[show ae++aP++A2++B2++aF=ae++aP++(A2++B2++aF) by simp];exact dO (by(repeat(first|exact trivial|refine⟨⟨rfl,rfl⟩,?_⟩))) (by(repeat(first|exact trivial|refine⟨⟨rfl,rfl⟩,?_⟩|refine⟨⟨rfl,bG _ _⟩,?_⟩))) (by(repeat(first|exact trivial|refine⟨rfl,?_⟩))) (by(repeat(first|exact trivial|refine⟨rfl,?_⟩)))
    ·have:B1=[]:=List.length_eq_zero_iff.1 (by omega);subst this;rw[show decide (a+(aa:Int)<a+s)=false by rw[decide_eq_false_iff_not];omega];refine go ?_;refine⟨rfl,A1,Pk u1,?_⟩;rw[show ae++A1++[]++(A2++B2++aF)=ae++A1++A2++B2++aF by simp];exact dO (by(repeat(first|exact trivial|refine⟨⟨rfl,rfl⟩,?_⟩))) (by(repeat(first|exact trivial|refine⟨⟨rfl,rfl⟩,?_⟩|refine⟨⟨rfl,bG _ _⟩,?_⟩))) (by(repeat(first|exact trivial|refine⟨rfl,?_⟩))) (by(repeat(first|exact trivial|refine⟨rfl,?_⟩)))
   ·have:A1=[]:=List.length_eq_zero_iff.1 (by omega);subst this;rw[show decide (a<a+(aa:Int))=false by rw[decide_eq_false_iff_not];omega];refine go ?_;refine⟨rfl,B1,Pj u3,?_⟩;rw[show ae++[]++B1++(A2++B2++aF)=ae++B1++A2++B2++aF by simp];exact dO (by(repeat(first|exact trivial|refine⟨⟨rfl,rfl⟩,?_⟩))) (by(repeat(first|exact trivial|refine⟨⟨rfl,rfl⟩,?_⟩|refine⟨⟨rfl,bG _ _⟩,?_⟩))) (by(repeat(first|exact trivial|refine⟨rfl,?_⟩))) (by(repeat(first|exact trivial|refine⟨rfl,?_⟩)))
  intro aP hL;have SE:=hL.len;simp only[List.length_append] at SE;refine go ?_
  by_cases k1:aa<M1.length
  ·rw[show decide (a+(s:Int)<m+s-aa)=true by rw[decide_eq_true_eq];omega];refine go ?_
   by_cases k2:s-aa<M2.length
   ·rw[show decide (m+(s:Int)-aa<b)=true by rw[decide_eq_true_eq];omega];have hr:=IH (ae++aP) A2 B2 aF (a+s) (m+s-aa) b (by omega) (by simp;omega) u2 u4 (by omega) (by omega) (by simp;omega) (by omega) (by omega);refine go ?_;refine gk hr rfl (λ a w=>call138 a w) rfl rfl ⟨⟨rfl,bG _ _⟩,trivial⟩ (by(repeat(first|exact trivial|refine⟨.inr rfl,?_⟩|refine⟨.inl rfl,?_⟩))) rfl rfl rfl rfl ?_ ?_
    ·rintro d O ⟨rfl,aE,_,rfl⟩;exact⟨.inl rfl,trivial⟩
    rintro d O ⟨rfl,aE,hR,rfl⟩;refine go ?_;refine jn (d:=.bc []) [(20,bK (ae++aP++aE++aF) rest)] ?_ rfl ⟨⟨rfl,bG _ _⟩,trivial⟩ ⟨rfl,trivial⟩ ⟨rfl,aP++aE,j5 hL hR,by simp⟩
    rfl
   ·have:B2=[]:=List.length_eq_zero_iff.1 (by omega);subst this;rw[show decide (m+(s:Int)-aa<b)=false by rw[decide_eq_false_iff_not];omega];refine go ?_;refine jn (d:=.bc []) [(20,bK (ae++aP++A2++[]++aF) rest)] ?_ rfl ⟨⟨rfl,bG _ _⟩,trivial⟩ ⟨rfl,trivial⟩ ⟨rfl,aP++A2,j5 hL (Pk u2),by simp⟩
    rfl
  ·have:A2=[]:=List.length_eq_zero_iff.1 (by omega);subst this;rw[show decide (a+(s:Int)<m+s-aa)=false by rw[decide_eq_false_iff_not];omega];refine go ?_;refine jn (d:=.bc []) [(20,bK (ae++aP++[]++B2++aF) rest)] ?_ rfl ⟨⟨rfl,bG _ _⟩,trivial⟩ ⟨rfl,trivial⟩ ⟨rfl,aP++B2,j5 hL (Pj u4),by simp⟩
   rfl
set_option maxHeartbeats 32000000 in
theorem YP(S0:bv)(rest:List F)(hp:eN rest)(n c:Nat)(hn:S0.length=n)(fk:n<=100000):d8 prog 110 [20] [dD n c,z n,ei] [(20,bK S0 rest)] (λ d O=>d=.bc []/\∃S,iI S0 S/\O=[(20,bK S rest)]):=by
 have bG:∀{S:bv}(B ak:Nat->Bool),F.ok.ec B ak (bK S rest)=true:=λ B ak=>tJ hp B ak
 refine sI func110 ntmps110 λ w cl own kf=>?_
 refine go ?_;refine bL (λ p:bv×bv=>nE 20 p.1/\fR S0 (p.1++p.2)/\p.1.length+p.2.length=n) (λ p=>⟨[(8,z ((p.1.length:Int)+20)),(7,z p.1.length),(6,z 20),(0,dD n c),(1,z n),(2,ei)],[(20,bK (p.1++p.2) rest)],[]⟩) (λ p=>p.2.length) ([],S0) ⟨.nil,.refl _,by simp;omega⟩ (by show bF _ _ ⟨[(8,z 20),(7,z 0),(6,z 20),(0,dD n c),(1,z n),(2,ei)],[(20,bK S0 rest)],[]⟩;exact dO (by(repeat(first|exact trivial|refine⟨⟨rfl,rfl⟩,?_⟩))) (by(repeat(first|exact trivial|refine⟨⟨rfl,rfl⟩,?_⟩|refine⟨⟨rfl,bG _ _⟩,?_⟩))) (by(repeat(first|exact trivial|refine⟨rfl,?_⟩))) (by(repeat(first|exact trivial|refine⟨rfl,?_⟩)))) ?_;rintro⟨aI,aE⟩ ⟨hD,hF,M⟩;simp only at hD hF M;refine(show aJ _ _ _ _ ⟨[(8,z ((aI.length:Int)+20)),(7,z aI.length),(6,z 20),(0,dD n c),(1,z n),(2,ei)],[(20,bK (aI++aE) rest)],[]⟩ from ?_);refine go ?_
 by_cases u:20<=aE.length
 ·rw[show decide ((aI.length:Int)+20<=n)=true by rw[decide_eq_true_eq];omega];have c1:=List.take_append_drop 20 aE;have l1:(aE.take 20).length=20:=by rw[List.length_take];omega
  have l2:(aE.drop 20).length=aE.length-20:=List.length_drop ..;generalize aE.take 20=av at*;generalize aE.drop 20=R2 at*;subst c1;have hI:=MT aI av R2 rest hp n c aI.length ((aI.length:Int)+20) (by simp;omega) fk rfl (by omega);rw[List.append_assoc] at hI;refine go ?_;refine gk hI rfl (λ a w=>call137 a w) rfl rfl ⟨⟨rfl,bG _ _⟩,trivial⟩ (by(repeat(first|exact trivial|refine⟨.inr rfl,?_⟩|refine⟨.inl rfl,?_⟩))) rfl rfl rfl rfl ?_ ?_
  ·rintro d O ⟨rfl,dF,_,rfl⟩;exact⟨.inl rfl,trivial⟩
  rintro d O ⟨rfl,dF,hM,rfl⟩;have kX:=hM.len;refine go ?_;refine⟨(aI++dF,R2),⟨hD.snoc (by omega) hM.up,?_,by simp only[List.length_append];omega⟩,by simp only;omega,?_⟩
  ·have:=hF.trans ((fR.refl aI).app (hM.oU.app (.refl R2)))
   simpa using this
  ·show bF _ _ ⟨[(8,z (((aI++dF).length:Int)+20)),(7,z (aI++dF).length),(6,z 20),(0,dD n c),(1,z n),(2,ei)],[(20,bK (aI++dF++R2) rest)],[]⟩;rw[show(((aI++dF).length:Nat):Int)=(aI.length:Int)+20 by simp;omega];exact dO (by(repeat(first|exact trivial|refine⟨⟨rfl,rfl⟩,?_⟩))) (by(repeat(first|exact trivial|refine⟨⟨rfl,rfl⟩,?_⟩|refine⟨⟨rfl,bG _ _⟩,?_⟩))) (by(repeat(first|exact trivial|refine⟨rfl,?_⟩))) (by(repeat(first|exact trivial|refine⟨rfl,?_⟩)))
 ·rw[show decide ((aI.length:Int)+20<=n)=false by rw[decide_eq_false_iff_not];omega];have hI:=MT aI aE [] rest hp n c aI.length n (by simp;omega) fk rfl (by omega);simp only[List.append_nil] at hI;refine go ?_;refine gk hI rfl (λ a w=>call137 a w) rfl rfl ⟨⟨rfl,bG _ _⟩,trivial⟩ (by(repeat(first|exact trivial|refine⟨.inr rfl,?_⟩|refine⟨.inl rfl,?_⟩))) rfl rfl rfl rfl ?_ ?_
  ·rintro d O ⟨rfl,dF,_,rfl⟩;exact⟨.inl rfl,trivial⟩
  rintro d O ⟨rfl,dF,hM,rfl⟩;have kX:=hM.len;have yA:fR S0 (aI++dF):=hF.trans ((fR.refl aI).app hM.oU);have G9:rl 20 aI dF:=⟨hD,hM.up,by omega⟩;have dz:aI.length+dF.length=n:=by omega
  clear hF hM kX u hI hD M;refine go ?_;refine bL (λ p:Nat×bv×bv=>0<p.1/\rl p.1 p.2.1 p.2.2/\fR S0 (p.2.1++p.2.2)/\p.2.1.length+p.2.2.length=n) (λ p=>⟨[(6,z p.1),(0,dD n c),(1,z n),(2,ei)],[(20,bK (p.2.1++p.2.2) rest)],[]⟩) (λ p=>n-p.1) (20,aI,dF) ⟨by simp only;omega,G9,yA,dz⟩ (by show bF _ _ ⟨[(6,z 20),(0,dD n c),(1,z n),(2,ei)],[(20,bK (aI++dF) rest)],[]⟩;exact dO (by(repeat(first|exact trivial|refine⟨⟨rfl,rfl⟩,?_⟩))) (by(repeat(first|exact trivial|refine⟨⟨rfl,rfl⟩,?_⟩|refine⟨⟨rfl,bG _ _⟩,?_⟩))) (by(repeat(first|exact trivial|refine⟨rfl,?_⟩))) (by(repeat(first|exact trivial|refine⟨rfl,?_⟩)))) ?_;clear yA G9 dz;rintro⟨k,aI,aE⟩ ⟨J,hR,hF,M⟩;simp only at J hR hF M;refine(show aJ _ _ _ _ ⟨[(6,z k),(0,dD n c),(1,z n),(2,ei)],[(20,bK (aI++aE) rest)],[]⟩ from ?_);refine go ?_
  by_cases u:k<n
  ·rw[show decide ((k:Int)<n)=true by rw[decide_eq_true_eq];omega];refine go ?_;rw[show IntKind.i64.wrap (2*(k:Int))=2*(k:Int) from d6 (by omega) (by omega)];refine bL (λ p:bv×bv×bv=>nE (2*k) p.1/\rl k p.2.1 p.2.2/\fR S0 (p.1++(p.2.1++p.2.2))/\p.1.length+p.2.1.length+p.2.2.length=n) (λ p=>⟨[(8,z ((p.1.length:Int)+2*k)),(7,z p.1.length),(6,z k),(0,dD n c),(1,z n),(2,ei)],[(20,bK (p.1++(p.2.1++p.2.2)) rest)],[]⟩) (λ p=>p.2.1.length) ([],aI,aE) ⟨.nil,hR,hF,by simp;omega⟩ (by show bF _ _ ⟨[(8,z (((0:Nat):Int)+2*k)),(7,z 0),(6,z k),(0,dD n c),(1,z n),(2,ei)],[(20,bK (aI++aE) rest)],[]⟩;rw[show((0:Nat):Int)+2*(k:Int)=2*(k:Int) by omega];exact dO (by(repeat(first|exact trivial|refine⟨⟨rfl,rfl⟩,?_⟩))) (by(repeat(first|exact trivial|refine⟨⟨rfl,rfl⟩,?_⟩|refine⟨⟨rfl,bG _ _⟩,?_⟩))) (by(repeat(first|exact trivial|refine⟨rfl,?_⟩))) (by(repeat(first|exact trivial|refine⟨rfl,?_⟩)))) ?_;clear hR hF M;rintro⟨aK,aI,aE⟩ ⟨A,hR,hF,M⟩;simp only at A hR hF M;refine(show aJ _ _ _ _ ⟨[(8,z ((aK.length:Int)+2*k)),(7,z aK.length),(6,z k),(0,dD n c),(1,z n),(2,ei)],[(20,bK (aK++(aI++aE)) rest)],[]⟩ from ?_);refine go ?_
   by_cases D:2*k<=(aI++aE).length
   ·have bd:=D;rw[List.length_append] at bd;rw[show decide ((aK.length:Int)+2*k<=n)=true by rw[decide_eq_true_eq];omega];obtain⟨ar,B,D3,rfl,hA,hB,uA,uB,SH⟩:=hR.two J D;simp only[List.length_append] at M;have hI:=JH rest hp n c fk (ar.length+B.length) aK ar B (D3++aE) aK.length ((aK.length:Int)+k) ((aK.length:Int)+2*k) (Nat.le_refl _) (by simp;omega) uA uB (by omega) (by omega) rfl (by omega) (by omega);rw[show aK++ar++B++(D3++aE)=aK++(ar++(B++D3)++aE) by simp] at hI;refine go ?_;refine gk hI rfl (λ a w=>call138 a w) rfl rfl ⟨⟨rfl,bG _ _⟩,trivial⟩ (by(repeat(first|exact trivial|refine⟨.inr rfl,?_⟩|refine⟨.inl rfl,?_⟩))) rfl rfl rfl rfl ?_ ?_
    ·rintro d O ⟨rfl,dF,_,rfl⟩;exact⟨.inl rfl,trivial⟩
    rintro d O ⟨rfl,dF,hM,rfl⟩;have kX:=hM.len;simp only[List.length_append] at kX;refine go ?_;simp(disch:=omega) only[d6];refine⟨(aK++dF,D3,aE),⟨A.snoc (by omega) hM.up,SH,?_,by simp only[List.length_append];omega⟩,by simp only[List.length_append];omega,?_⟩
    ·have:=hF.trans (((fR.refl aK).app (hM.oU.app (.refl (D3++aE))))|>λ h=>by simpa using h)
     simpa using this
    ·show bF _ _ ⟨[(8,z (((aK++dF).length:Int)+2*k)),(7,z (aK++dF).length),(6,z k),(0,dD n c),(1,z n),(2,ei)],[(20,bK (aK++dF++(D3++aE)) rest)],[]⟩;rw[show(((aK++dF).length:Nat):Int)=(aK.length:Int)+2*k by simp;omega];exact dO (by(repeat(first|exact trivial|refine⟨⟨rfl,rfl⟩,?_⟩))) (by(repeat(first|exact trivial|refine⟨⟨rfl,rfl⟩,?_⟩|refine⟨⟨rfl,bG _ _⟩,?_⟩))) (by(repeat(first|exact trivial|refine⟨rfl,?_⟩))) (by(repeat(first|exact trivial|refine⟨rfl,?_⟩)))
   ·have bd:=D;rw[List.length_append] at bd;rw[show decide ((aK.length:Int)+2*k<=n)=false by rw[decide_eq_false_iff_not];omega];refine go ?_
    by_cases K:k<(aI++aE).length
    ·obtain⟨ZK,uD,G9⟩:=hR.rest J K (by omega);have cK:=K;rw[List.length_append] at cK;rw[show decide ((aK.length:Int)+k<n)=true by rw[decide_eq_true_eq];omega];have hI:=JH rest hp n c fk (aI.length+aE.length) aK aI aE [] aK.length ((aK.length:Int)+k) n (Nat.le_refl _) (by simp;omega) uD hR.up (by omega) (by omega) rfl (by omega) (by omega);simp only[List.append_nil] at hI;rw[show aK++aI++aE=aK++(aI++aE) by simp] at hI;refine go ?_;refine gk hI rfl (λ a w=>call138 a w) rfl rfl ⟨⟨rfl,bG _ _⟩,trivial⟩ (by(repeat(first|exact trivial|refine⟨.inr rfl,?_⟩|refine⟨.inl rfl,?_⟩))) rfl rfl rfl rfl ?_ ?_
     ·rintro d O ⟨rfl,dF,_,rfl⟩;exact⟨.inl rfl,trivial⟩
     rintro d O ⟨rfl,dF,hM,rfl⟩;have kX:=hM.len;rw[List.length_append] at kX;refine go ?_;rw[show IntKind.i64.wrap ((k:Int)*2)=2*(k:Int) by rw[d6 (by omega) (by omega)];omega];refine go ?_;refine⟨(2*k,aK,dF),⟨by simp only;omega,⟨A,hM.up,by simp only;omega⟩,hF.trans ((fR.refl aK).app hM.oU),by simp only;omega⟩,by simp only;omega,?_⟩;show bF _ _ ⟨[(6,z ((2*k:Nat):Int)),(0,dD n c),(1,z n),(2,ei)],[(20,bK (aK++dF) rest)],[]⟩;rw[show((2*k:Nat):Int)=2*(k:Int) by omega];exact dO (by(repeat(first|exact trivial|refine⟨⟨rfl,rfl⟩,?_⟩))) (by(repeat(first|exact trivial|refine⟨⟨rfl,rfl⟩,?_⟩|refine⟨⟨rfl,bG _ _⟩,?_⟩))) (by(repeat(first|exact trivial|refine⟨rfl,?_⟩))) (by(repeat(first|exact trivial|refine⟨rfl,?_⟩)))
    ·have cK:=K;rw[List.length_append] at cK;rw[show decide ((aK.length:Int)+k<n)=false by rw[decide_eq_false_iff_not];omega];have wy:=hR.one (by omega);refine go ?_;rw[show IntKind.i64.wrap ((k:Int)*2)=2*(k:Int) by rw[d6 (by omega) (by omega)];omega];refine go ?_;refine⟨(2*k,aK,aI++aE),⟨by simp only;omega,⟨A,wy,by simp only[List.length_append];omega⟩,hF,by simp only[List.length_append];omega⟩,by simp only;omega,?_⟩;show bF _ _ ⟨[(6,z ((2*k:Nat):Int)),(0,dD n c),(1,z n),(2,ei)],[(20,bK (aK++(aI++aE)) rest)],[]⟩;rw[show((2*k:Nat):Int)=2*(k:Int) by omega];exact dO (by(repeat(first|exact trivial|refine⟨⟨rfl,rfl⟩,?_⟩))) (by(repeat(first|exact trivial|refine⟨⟨rfl,rfl⟩,?_⟩|refine⟨⟨rfl,bG _ _⟩,?_⟩))) (by(repeat(first|exact trivial|refine⟨rfl,?_⟩))) (by(repeat(first|exact trivial|refine⟨rfl,?_⟩)))
  ·rw[show decide ((k:Int)<n)=false by rw[decide_eq_false_iff_not];omega];refine go ?_;refine jn (d:=.bc []) [(20,bK (aI++aE) rest)] ?_ rfl ⟨⟨rfl,bG _ _⟩,trivial⟩ ⟨rfl,trivial⟩ ⟨rfl,aI++aE,⟨by rw[List.length_append];omega,hR.one (by rw[List.length_append];omega),hF⟩,rfl⟩
   rfl
theorem YH(S0:bv)(rest:List F)(hp:eN rest)(n c:Nat)(hn:S0.length=n)(L:n<=100000):d8 prog 84 [20] [dD n c,ei] [(20,bK S0 rest)] (λ d O=>d=.bc []/\∃S,iI S0 S/\O=[(20,bK S rest)]):=by
 have bG:∀{S:bv}(B ak:Nat->Bool),F.ok.ec B ak (bK S rest)=true:=λ B ak=>tJ hp B ak
 have hI:=YP S0 rest hp n c hn L;refine sI func84 ntmps84 λ w cl own kf=>?_
 refine go ?_;refine gk hI rfl (λ a w=>call110 a w) rfl rfl ⟨⟨rfl,bG _ _⟩,trivial⟩ (by(repeat(first|exact trivial|refine⟨.inr rfl,?_⟩|refine⟨.inl rfl,?_⟩))) rfl rfl rfl rfl ?_ ?_
 ·rintro d O ⟨rfl,S,_,rfl⟩;exact⟨.inl rfl,trivial⟩
 rintro d O ⟨rfl,S,hS,rfl⟩;refine go ?_;refine jn (d:=.bc []) [(20,bK S rest)] ?_ rfl ⟨⟨rfl,bG _ _⟩,trivial⟩ ⟨rfl,trivial⟩ ⟨rfl,S,hS,rfl⟩
 rfl
end Go.Proofs.YtcnefjfboagbmaaGreat
