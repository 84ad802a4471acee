/- What operations do to contents, by the document: their walk. -/
import Derived.Test.YtcnefjfboagbmaaGreatXF
import Derived.Test.YtcnefjfboagbmaaGreatYB
import Derived.Test.YtcnefjfboagbmaaGreatXG
namespace Go.Proofs.YtcnefjfboagbmaaGreat
open Go.Proofs.Tryz
open Go.RowKit
set_option maxRecDepth 100000
theorem aaJ(k:Int):aX prog 22 [u k] (xD (GQ k)):=by
 refine sP func22 ntmps22 λ w cl=>?_
 refine gf ?_
 rfl
theorem GW(k:Int):aX prog 56 [u k] (u (iE k)):=by
 have I:k=1\/k=2\/k=3\/k=4\/k=5\/k=6\/k=7\/(k≠1/\k≠2/\k≠3/\k≠4/\k≠5/\k≠6/\k≠7):=by omega
 rcases I with rfl|rfl|rfl|rfl|rfl|rfl|rfl|⟨k1,k2,k3,k4,k5,k6,k7⟩
 ·refine sP func56 ntmps56 λ w cl=>?_
  refine go ?_;rw[show decide ((1:Int)=1)=true from rfl];refine gf ?_
  rfl
 ·refine sP func56 ntmps56 λ w cl=>?_
  refine go ?_;rw[show decide ((2:Int)=1)=false from rfl];refine go ?_;rw[show decide ((2:Int)=2)=true from rfl];refine gf ?_
  rfl
 ·refine sP func56 ntmps56 λ w cl=>?_
  refine go ?_;rw[show decide ((3:Int)=1)=false from rfl];refine go ?_;rw[show decide ((3:Int)=2)=false from rfl];refine go ?_;rw[show decide ((3:Int)=3)=true from rfl];refine gf ?_
  rfl
 ·refine sP func56 ntmps56 λ w cl=>?_
  refine go ?_;rw[show decide ((4:Int)=1)=false from rfl];refine go ?_;rw[show decide ((4:Int)=2)=false from rfl];refine go ?_;rw[show decide ((4:Int)=3)=false from rfl];refine go ?_;rw[show decide ((4:Int)=4)=true from rfl];refine gf ?_
  rfl
 ·refine sP func56 ntmps56 λ w cl=>?_
  refine go ?_;rw[show decide ((5:Int)=1)=false from rfl];refine go ?_;rw[show decide ((5:Int)=2)=false from rfl];refine go ?_;rw[show decide ((5:Int)=3)=false from rfl];refine go ?_;rw[show decide ((5:Int)=4)=false from rfl];refine go ?_;rw[show decide ((5:Int)=5)=true from rfl];refine gf ?_
  rfl
 ·refine sP func56 ntmps56 λ w cl=>?_
  refine go ?_;rw[show decide ((6:Int)=1)=false from rfl];refine go ?_;rw[show decide ((6:Int)=2)=false from rfl];refine go ?_;rw[show decide ((6:Int)=3)=false from rfl];refine go ?_;rw[show decide ((6:Int)=4)=false from rfl];refine go ?_;rw[show decide ((6:Int)=5)=false from rfl];refine go ?_;rw[show decide ((6:Int)=6)=true from rfl];refine gf ?_
  rfl
 ·refine sP func56 ntmps56 λ w cl=>?_
  refine go ?_;rw[show decide ((7:Int)=1)=false from rfl];refine go ?_;rw[show decide ((7:Int)=2)=false from rfl];refine go ?_;rw[show decide ((7:Int)=3)=false from rfl];refine go ?_;rw[show decide ((7:Int)=4)=false from rfl];refine go ?_;rw[show decide ((7:Int)=5)=false from rfl];refine go ?_;rw[show decide ((7:Int)=6)=false from rfl];refine go ?_;rw[show decide ((7:Int)=7)=true from rfl];refine gf ?_
  rfl
 ·have e:iE k=0:=by unfold iE;rw[if_neg (by omega),if_neg (by omega),if_neg (by omega)]
  rw[e];refine sP func56 ntmps56 λ w cl=>?_
  refine go ?_;rw[show decide (k=1)=false from decide_eq_false k1];refine go ?_;rw[show decide (k=2)=false from decide_eq_false k2];refine go ?_;rw[show decide (k=3)=false from decide_eq_false k3];refine go ?_;rw[show decide (k=4)=false from decide_eq_false k4];refine go ?_;rw[show decide (k=5)=false from decide_eq_false k5];refine go ?_;rw[show decide (k=6)=false from decide_eq_false k6];refine go ?_;rw[show decide (k=7)=false from decide_eq_false k7];refine gf ?_
  rfl
theorem yC{S:aZ}{i:Nat}{y:Int×Int}(h:S[i]?=some y):(eR S)[(i:Int).toNat]?=some y.1:=by simp[h]
theorem BG{S:aZ}{i:Nat}{y:Int×Int}(h:S[i]?=some y):(eV S)[(i:Int).toNat]?=some y.2:=by simp[h]
theorem Wu{S:aZ}{a:Int}(h:∀(i:Nat)(y:Int×Int),S[i]?=some y->y.1≠a):iN S a=S.length:=by unfold iN;rw[List.findIdx_eq_length];intro y hy;obtain⟨i,X⟩:=List.mem_iff_getElem?.1 hy;exact decide_eq_false (h i y X)
theorem Wv{S:aZ}{a:Int}{i:Nat}{y:Int×Int}(X:S[i]?=some y)(hy:y.1=a)(h:∀(j:Nat)(z:Int×Int),j<i->S[j]?=some z->z.1≠a):iN S a=i:=by obtain⟨ba,e⟩:=List.getElem?_eq_some_iff.1 X;unfold iN;rw[List.findIdx_eq ba];refine⟨by rw[e];exact decide_eq_true hy,λ j hj=>decide_eq_false (h j _ hj (List.getElem?_eq_getElem (by omega)))⟩
theorem UH(S:aZ)(a:Int)(R:S.length<=1000000):aX prog 59 [rS S,u a] (u (if iN S a<S.length then(iN S a:Int) else-1)):=by
 generalize hR:(if iN S a<S.length then(iN S a:Int) else-1)=al;have mj:(eR S).length=S.length:=List.length_map _;refine sP func59 ntmps59 λ w cl=>?_
 refine go ?_;refine bW (λ i:Nat=>i<=S.length/\∀(j:Nat)(z:Int×Int),j<i->S[j]?=some z->z.1≠a) (λ i=>⟨[(5,u i),(2,.ptr 0 0),(1,u a)],[(0,[u 1,bq (eR S),bq (eV S)])],[]⟩) (λ i=>S.length-i) 0 ⟨Nat.zero_le _,λ j z hj=>by omega⟩ (zX) ?_;rintro i ⟨X,gV⟩;refine(show aK _ _ _ _ ⟨[(5,u i),(2,.ptr 0 0),(1,u a)],[(0,[u 1,bq (eR S),bq (eV S)])],[]⟩ from ?_);refine go ?_;refine cN (λ h1=>?_) (λ h1=>?_)<;>try rw[h1]
 ·have aP:=of_decide_eq_true h1;obtain⟨y,hy⟩:∃y,S[i]?=some y:=⟨S[i]'(by omega),List.getElem?_eq_getElem _⟩;refine go ?_;refine ai [pI y.1] (gk (yC hy)) ?_;refine go ?_
  by_cases A:y.1=a
  ·rw[show decide (y.1=a)=true from decide_eq_true A];refine go ?_;refine rY rfl ?_;rw[<-hR,Wv hy A gV,if_pos (by omega)]
  ·rw[show decide (y.1=a)=false from decide_eq_false A];refine go ?_;refine⟨i+1,⟨by omega,λ j z hj hz=>?_⟩,by omega,zX⟩;rcases Nat.lt_or_ge j i with K|K
   ·exact gV j z K hz
   ·have:j=i:=by omega
    subst this;rw[hy] at hz;cases hz;exact A
 ·have aP:=of_decide_eq_false h1;refine go ?_;refine rY rfl ?_;rw[<-hR,Wu (λ j z hz=>gV j z (by have:=(List.getElem?_eq_some_iff.1 hz).1;omega) hz),if_neg (Nat.lt_irrefl _)]
def yE(dn:Bool)(aH:aZ)(x:Int×Int):aZ:=if dn then aH else nG aH x
theorem VP{S:aZ}{i:Nat}{y:Int×Int}(h:S[i]?=some y):S.drop i=y::S.drop (i+1):=by obtain⟨h1,A⟩:=List.getElem?_eq_some_iff.1 h;rw[List.drop_eq_getElem_cons h1,A]
theorem Z0{y x:Int×Int}{aH:aZ}(h:x.1<y.1):yE false (y::aH) x=x::y::aH:=by show nG (y::aH) x=_;rw[nG,if_pos h]
theorem ZZ{y x:Int×Int}{aH:aZ}(h:¬x.1<y.1):yE false (y::aH) x=y::yE false aH x:=by
 show nG (y::aH) x=_;rw[nG,if_neg h]
 rfl
theorem GC{x:Int×Int}{aH:aZ}:yE true aH x=aH:=rfl
abbrev BH(S:aZ)(k v:Int)(i:Nat)(ae:aZ)(dn:Bool):St:=⟨[(9,u i),(8,dB dn),(7,.ptr 2 0),(6,.ptr 1 0),(3,.ptr 0 0),(2,u v),(1,u k)],[(2,[u 1,.aW 0 ae.length (bb (eR ae)),.aW 1 ae.length (bb (eV ae))]),(1,[u 0,.p (.sl true 0 []),.p (.sl true 0 [])]),(0,[u 1,bq (eR S),bq (eV S)])],[(0,⟨3,1,ae.length⟩),(1,⟨3,1,ae.length⟩)]⟩
set_option maxHeartbeats 4000000 in
theorem aeh(S:aZ)(k v:Int)(R:S.length<=1000000):aX prog 60 [rS S,u k,u v] (rS (nG S (k,v))):=by
 have mj:(eR S).length=S.length:=List.length_map _;have DB:(eV S).length=S.length:=List.length_map _;refine sP func60 ntmps60 λ w cl=>?_
 refine go ?_;refine dO (y3 2 1 0 3 1 rfl rfl rfl rfl rfl) ?_;refine dO (y3 2 2 1 3 1 rfl rfl rfl rfl rfl) ?_;refine Nq (dM:=aZ×Bool) (.exit 0) (λ p=>BH S k v S.length p.1 p.2) (λ p=>p.1.length<=S.length+p.2.toNat/\nG S (k,v)=p.1++yE p.2 [] (k,v)) ?_ ?_
 ·refine bW (λ p:Nat×aZ×Bool=>p.1<=S.length/\p.2.1.length<=p.1+p.2.2.toNat/\nG S (k,v)=p.2.1++yE p.2.2 (S.drop p.1) (k,v)) (λ p=>BH S k v p.1 p.2.1 p.2.2) (λ p=>S.length-p.1) (0,[],false) ⟨Nat.zero_le _,Nat.zero_le _,rfl⟩ (zX) ?_;rintro⟨i,ae,dn⟩ ⟨X,hT,hI⟩;simp only at X hT hI;have XJ:=Bool.toNat_le dn;refine(show aK _ _ _ _ (BH S k v i ae dn) from ?_);unfold BH;refine go ?_;refine cN (λ h1=>?_) (λ h1=>?_)<;>try rw[h1]
  ·have aP:=of_decide_eq_true h1;obtain⟨y,hy⟩:∃y,S[i]?=some y:=⟨S[i]'(by omega),List.getElem?_eq_getElem _⟩;rw[VP hy] at hI;have FC:(eR ae).length=ae.length:=List.length_map _;have FE:(eV ae).length=ae.length:=List.length_map _;refine go ?_;refine ai [pI y.1] (gk (yC hy)) ?_;refine go ?_
   by_cases A:dn=false/\k<y.1
   ·obtain⟨rfl,A⟩:=A;rw[Z0 A] at hI;rw[show decide (y.1>k)=true from decide_eq_true A];refine go ?_;refine hE (n:=ae.length) (m:=1) (qs:=[pI k]) aB rfl rfl rfl rfl rfl rfl rfl rfl rfl rfl rfl rfl rfl (by unfold maxLen;omega) (by show(_+_)*8<=_;omega) ?_;refine go ?_;refine hE (n:=ae.length) (m:=1) (qs:=[pI v]) aB rfl rfl rfl rfl rfl rfl rfl rfl rfl rfl rfl rfl rfl (by unfold maxLen;omega) (by show(_+_)*8<=_;omega) ?_;refine go ?_;refine gW 8 [] ?_;refine ri [pI y.1] (gk (yC hy)) ?_;refine bh ?_;refine hE (n:=ae.length+1) (m:=1) (qs:=[pI y.1]) aB rfl rfl rfl rfl rfl rfl rfl rfl rfl rfl rfl rfl rfl (by unfold maxLen;omega) (by show(_+_)*8<=_;omega) ?_;refine go ?_;refine gW 8 [] ?_;refine ri [pI y.2] (gk (BG hy)) ?_;refine bh ?_;refine hE (n:=ae.length+1) (m:=1) (qs:=[pI y.2]) aB rfl rfl rfl rfl rfl rfl rfl rfl rfl rfl rfl rfl rfl (by unfold maxLen;omega) (by show(_+_)*8<=_;omega) ?_;refine go ?_;refine⟨(i+1,ae++[(k,v),y],true),⟨by simp only;omega,by simp at hT⊢;omega,by rw[hI,GC];simp⟩,by simp only;omega,?_⟩;show bN _ _ ⟨[(9,_),(8,_),(7,.ptr 2 0),(6,.ptr 1 0),(3,.ptr 0 0),(2,u v),(1,u k)],[(2,[u 1,.aW 0 (ae++[(k,v),y]).length (bb (eR (ae++[(k,v),y]))),.aW 1 (ae++[(k,v),y]).length (bb (eV (ae++[(k,v),y])))]),(1,[u 0,.p (.sl true 0 []),.p (.sl true 0 [])]),(0,[u 1,bq (eR S),bq (eV S)])],[(0,⟨3,1,(ae++[(k,v),y]).length⟩),(1,⟨3,1,(ae++[(k,v),y]).length⟩)]⟩
    rw[show(ae++[(k,v),y]).length=ae.length+1+1 by simp,show bb (eR (ae++[(k,v),y]))=bb (eR ae)++[pI k]++[pI y.1] by simp[eR,bb],show bb (eV (ae++[(k,v),y]))=bb (eV ae)++[pI v]++[pI y.2] by simp[eV,bb]];exact zX
   ·have Jj:nG S (k,v)=(ae++[y])++yE dn (S.drop (i+1)) (k,v):=by
     rw[hI];cases dn with
     |false=>rw[ZZ (λ h=>A ⟨rfl,h⟩)];simp
     |true=>rw[GC,GC];simp
    have cE:(decide (y.1>k)&&!dn)=false:=by
     cases dn with
     |false=>rw[Bool.not_false,Bool.and_true,decide_eq_false_iff_not];exact λ h=>A ⟨rfl,h⟩
     |true=>simp
    generalize decide (y.1>k)=cc at cE⊢;cases cc<;>cases dn
    ·refine go ?_;refine gW 8 [] ?_;refine ri [pI y.1] (gk (yC hy)) ?_;refine bh ?_;refine hE (n:=ae.length) (m:=1) (qs:=[pI y.1]) aB rfl rfl rfl rfl rfl rfl rfl rfl rfl rfl rfl rfl rfl (by unfold maxLen;omega) (by show(_+_)*8<=_;omega) ?_;refine go ?_;refine gW 8 [] ?_;refine ri [pI y.2] (gk (BG hy)) ?_;refine bh ?_;refine hE (n:=ae.length) (m:=1) (qs:=[pI y.2]) aB rfl rfl rfl rfl rfl rfl rfl rfl rfl rfl rfl rfl rfl (by unfold maxLen;omega) (by show(_+_)*8<=_;omega) ?_;refine go ?_;refine⟨(i+1,ae++[y],false),⟨by simp only;omega,by simp at hT⊢;omega,Jj⟩,by simp only;omega,?_⟩;show bN _ _ ⟨[(9,_),(8,_),(7,.ptr 2 0),(6,.ptr 1 0),(3,.ptr 0 0),(2,u v),(1,u k)],[(2,[u 1,.aW 0 (ae++[y]).length (bb (eR (ae++[y]))),.aW 1 (ae++[y]).length (bb (eV (ae++[y])))]),(1,[u 0,.p (.sl true 0 []),.p (.sl true 0 [])]),(0,[u 1,bq (eR S),bq (eV S)])],[(0,⟨3,1,(ae++[y]).length⟩),(1,⟨3,1,(ae++[y]).length⟩)]⟩;rw[show(ae++[y]).length=ae.length+1 by simp,show bb (eR (ae++[y]))=bb (eR ae)++[pI y.1] by simp[eR,bb],show bb (eV (ae++[y]))=bb (eV ae)++[pI y.2] by simp[eV,bb]];exact zX
    ·refine go ?_;refine gW 8 [] ?_;refine ri [pI y.1] (gk (yC hy)) ?_;refine bh ?_;refine hE (n:=ae.length) (m:=1) (qs:=[pI y.1]) aB rfl rfl rfl rfl rfl rfl rfl rfl rfl rfl rfl rfl rfl (by unfold maxLen;omega) (by show(_+_)*8<=_;omega) ?_;refine go ?_;refine gW 8 [] ?_;refine ri [pI y.2] (gk (BG hy)) ?_;refine bh ?_;refine hE (n:=ae.length) (m:=1) (qs:=[pI y.2]) aB rfl rfl rfl rfl rfl rfl rfl rfl rfl rfl rfl rfl rfl (by unfold maxLen;omega) (by show(_+_)*8<=_;omega) ?_;refine go ?_;refine⟨(i+1,ae++[y],true),⟨by simp only;omega,by simp at hT⊢;omega,Jj⟩,by simp only;omega,?_⟩;show bN _ _ ⟨[(9,_),(8,_),(7,.ptr 2 0),(6,.ptr 1 0),(3,.ptr 0 0),(2,u v),(1,u k)],[(2,[u 1,.aW 0 (ae++[y]).length (bb (eR (ae++[y]))),.aW 1 (ae++[y]).length (bb (eV (ae++[y])))]),(1,[u 0,.p (.sl true 0 []),.p (.sl true 0 [])]),(0,[u 1,bq (eR S),bq (eV S)])],[(0,⟨3,1,(ae++[y]).length⟩),(1,⟨3,1,(ae++[y]).length⟩)]⟩;rw[show(ae++[y]).length=ae.length+1 by simp,show bb (eR (ae++[y]))=bb (eR ae)++[pI y.1] by simp[eR,bb],show bb (eV (ae++[y]))=bb (eV ae)++[pI y.2] by simp[eV,bb]];exact zX
    ·exact absurd cE (by decide)
    ·refine go ?_;refine gW 8 [] ?_;refine ri [pI y.1] (gk (yC hy)) ?_;refine bh ?_;refine hE (n:=ae.length) (m:=1) (qs:=[pI y.1]) aB rfl rfl rfl rfl rfl rfl rfl rfl rfl rfl rfl rfl rfl (by unfold maxLen;omega) (by show(_+_)*8<=_;omega) ?_;refine go ?_;refine gW 8 [] ?_;refine ri [pI y.2] (gk (BG hy)) ?_;refine bh ?_;refine hE (n:=ae.length) (m:=1) (qs:=[pI y.2]) aB rfl rfl rfl rfl rfl rfl rfl rfl rfl rfl rfl rfl rfl (by unfold maxLen;omega) (by show(_+_)*8<=_;omega) ?_;refine go ?_;refine⟨(i+1,ae++[y],true),⟨by simp only;omega,by simp at hT⊢;omega,Jj⟩,by simp only;omega,?_⟩;show bN _ _ ⟨[(9,_),(8,_),(7,.ptr 2 0),(6,.ptr 1 0),(3,.ptr 0 0),(2,u v),(1,u k)],[(2,[u 1,.aW 0 (ae++[y]).length (bb (eR (ae++[y]))),.aW 1 (ae++[y]).length (bb (eV (ae++[y])))]),(1,[u 0,.p (.sl true 0 []),.p (.sl true 0 [])]),(0,[u 1,bq (eR S),bq (eV S)])],[(0,⟨3,1,(ae++[y]).length⟩),(1,⟨3,1,(ae++[y]).length⟩)]⟩;rw[show(ae++[y]).length=ae.length+1 by simp,show bb (eR (ae++[y]))=bb (eR ae)++[pI y.1] by simp[eR,bb],show bb (eV (ae++[y]))=bb (eV ae)++[pI y.2] by simp[eV,bb]];exact zX
  ·have aP:i=S.length:=by have:=of_decide_eq_false h1;omega
   subst aP;rw[List.drop_length] at hI;refine go ?_;exact⟨rfl,(ae,dn),⟨hT,hI⟩,zX⟩
 rintro bU ⟨ae,dn⟩ ⟨hT,hI⟩ eQ;refine zR (zM (dO eQ ?_));clear eQ;simp only at hT hI;have XJ:=Bool.toNat_le dn;refine(show aK _ _ _ _ (BH S k v S.length ae dn) from ?_);unfold BH;refine go ?_;have FC:(eR ae).length=ae.length:=List.length_map _;have FE:(eV ae).length=ae.length:=List.length_map _;cases dn with
 |true=>rw[GC,List.append_nil] at hI;refine go ?_;refine rY rfl ?_;rw[hI];show G.agg [_,.p (.sl _ ae.length _),.p (.sl _ ae.length _)]=G.agg [_,.p (.sl _ _ _),.p (.sl _ _ _)];rw[FC,FE]
 |false=>have W6:nG S (k,v)=ae++[(k,v)]:=hI;refine go ?_;refine hE (n:=ae.length) (m:=1) (qs:=[pI k]) aB rfl rfl rfl rfl rfl rfl rfl rfl rfl rfl rfl rfl rfl (by unfold maxLen;omega) (by show(_+_)*8<=_;omega) ?_;refine go ?_;refine hE (n:=ae.length) (m:=1) (qs:=[pI v]) aB rfl rfl rfl rfl rfl rfl rfl rfl rfl rfl rfl rfl rfl (by unfold maxLen;omega) (by show(_+_)*8<=_;omega) ?_;refine go ?_;refine rY rfl ?_;rw[W6];show G.agg [_,.p (.sl _ (ae.length+1) _),.p (.sl _ (ae.length+1) _)]=G.agg [_,.p (.sl _ _ _),.p (.sl _ _ _)];simp[eR,eV,bb]
theorem Wa{S:aZ}{i k:Nat}{y:Int×Int}(hy:S[i]?=some y)(I:i=k):(S.take (i+1)).eraseIdx k=(S.take i).eraseIdx k:=by
 have R:(S.take i).length=i:=by rw[List.length_take];have:=(List.getElem?_eq_some_iff.1 hy).1;omega
 rw[show(S.take i).eraseIdx k=S.take i from List.eraseIdx_of_length_le (by omega),EA hy,List.eraseIdx_append_of_length_le (by omega),show k-(S.take i).length=0 by omega];simp
theorem V9{S:aZ}{i k:Nat}{y:Int×Int}(hy:S[i]?=some y)(I:i≠k):(S.take (i+1)).eraseIdx k=(S.take i).eraseIdx k++[y]:=by
 have R:(S.take i).length=i:=by rw[List.length_take];have:=(List.getElem?_eq_some_iff.1 hy).1;omega
 rw[EA hy];rcases Nat.lt_or_ge k i with h|h
 ·rw[List.eraseIdx_append_of_lt_length (by omega)]
 ·rw[List.eraseIdx_append_of_length_le (by omega),List.eraseIdx_of_length_le (show(S.take i).length<=k by omega),List.eraseIdx_of_length_le (by simp;omega)]
abbrev Lc(S:aZ)(k:Nat)(i:Nat)(ae:aZ):St:=⟨[(6,u i),(5,.ptr 2 0),(4,.ptr 1 0),(2,.ptr 0 0),(1,u k)],[(2,[u 1,.aW 0 ae.length (bb (eR ae)),.aW 1 ae.length (bb (eV ae))]),(1,[u 0,.p (.sl true 0 []),.p (.sl true 0 [])]),(0,[u 1,bq (eR S),bq (eV S)])],[(0,⟨3,1,ae.length⟩),(1,⟨3,1,ae.length⟩)]⟩
set_option maxHeartbeats 4000000 in
theorem aei(S:aZ)(k:Nat)(R:S.length<=1000000):aX prog 61 [rS S,u k] (rS (S.eraseIdx k)):=by
 have mj:(eR S).length=S.length:=List.length_map _;have DB:(eV S).length=S.length:=List.length_map _;refine sP func61 ntmps61 λ w cl=>?_
 refine go ?_;refine dO (y3 2 1 0 3 1 rfl rfl rfl rfl rfl) ?_;refine dO (y3 2 2 1 3 1 rfl rfl rfl rfl rfl) ?_;refine bW (λ p:Nat×aZ=>p.1<=S.length/\p.2=(S.take p.1).eraseIdx k) (λ p=>Lc S k p.1 p.2) (λ p=>S.length-p.1) (0,[]) ⟨Nat.zero_le _,rfl⟩ (zX) ?_;rintro⟨i,ae⟩ ⟨X,hT⟩;simp only at X hT;have OW:ae.length<=i:=by rw[hT];refine Nat.le_trans (List.length_eraseIdx_le _ _) ?_;rw[List.length_take];omega
 refine(show aK _ _ _ _ (Lc S k i ae) from ?_);unfold Lc;have FC:(eR ae).length=ae.length:=List.length_map _;have FE:(eV ae).length=ae.length:=List.length_map _;refine go ?_;refine cN (λ h1=>?_) (λ h1=>?_)<;>try rw[h1]
 ·have aP:=of_decide_eq_true h1;obtain⟨y,hy⟩:∃y,S[i]?=some y:=⟨S[i]'(by omega),List.getElem?_eq_getElem _⟩;refine go ?_
  by_cases A:i=k
  ·rw[show decide ((i:Int)=k)=true by rw[decide_eq_true_eq];omega];refine go ?_;exact⟨(i+1,ae),⟨by simp only;omega,by simp only;rw[hT,Wa hy A]⟩,by simp only;omega,zX⟩
  ·rw[show decide ((i:Int)=k)=false by rw[decide_eq_false_iff_not];omega];refine go ?_;rw[show decide ((1:Int)=1)=true from rfl];refine go ?_;refine gW 8 [] ?_;refine ri [pI y.1] (gk (yC hy)) ?_;refine bh ?_;refine hE (n:=ae.length) (m:=1) (qs:=[pI y.1]) aB rfl rfl rfl rfl rfl rfl rfl rfl rfl rfl rfl rfl rfl (by unfold maxLen;omega) (by show(_+_)*8<=_;omega) ?_;refine go ?_;refine gW 8 [] ?_;refine ri [pI y.2] (gk (BG hy)) ?_;refine bh ?_;refine hE (n:=ae.length) (m:=1) (qs:=[pI y.2]) aB rfl rfl rfl rfl rfl rfl rfl rfl rfl rfl rfl rfl rfl (by unfold maxLen;omega) (by show(_+_)*8<=_;omega) ?_;refine go ?_;refine⟨(i+1,ae++[y]),⟨by simp only;omega,by simp only;rw[hT,V9 hy A]⟩,by simp only;omega,?_⟩;show bN _ _ ⟨[(6,_),(5,.ptr 2 0),(4,.ptr 1 0),(2,.ptr 0 0),(1,u k)],[(2,[u 1,.aW 0 (ae++[y]).length (bb (eR (ae++[y]))),.aW 1 (ae++[y]).length (bb (eV (ae++[y])))]),(1,[u 0,.p (.sl true 0 []),.p (.sl true 0 [])]),(0,[u 1,bq (eR S),bq (eV S)])],[(0,⟨3,1,(ae++[y]).length⟩),(1,⟨3,1,(ae++[y]).length⟩)]⟩;rw[show(ae++[y]).length=ae.length+1 by simp,show bb (eR (ae++[y]))=bb (eR ae)++[pI y.1] by simp[eR,bb],show bb (eV (ae++[y]))=bb (eV ae)++[pI y.2] by simp[eV,bb]];exact zX
 ·have aP:=of_decide_eq_false h1;rw[List.take_of_length_le (by omega)] at hT;refine go ?_;refine rY rfl ?_;rw[<-hT];show G.agg [_,.p (.sl _ ae.length _),.p (.sl _ ae.length _)]=G.agg [_,.p (.sl _ _ _),.p (.sl _ _ _)];rw[FC,FE]
set_option maxHeartbeats 4000000 in
theorem VI(S:aZ)(o:bt)(R:S.length<=1000000)(ho:o.kind=1\/o.kind=2\/o.kind=3):aX prog 24 [rS S,zv o] (Vz (nU S o)):=by
 have hi:=UH S o.a R;have gy:aX prog 56 [u o.kind] (u 1):=by have:=GW o.kind;rwa [show iE o.kind=1 by unfold iE;rw[if_pos (by omega)]] at this
 have hw:=aeh S o.a o.b R;have Qq:=aei S (iN S o.a) R;have DB:(eV S).length=S.length:=List.length_map _;have nD:iN S o.a<S.length->∃y,S[iN S o.a]?=some y/\S.getD (iN S o.a) (0,0)=y:=λ h=>⟨S[iN S o.a],List.getElem?_eq_getElem h,by simp[List.getD_eq_getElem?_getD,h]⟩
 obtain⟨kd,ob,a,b⟩:=o;simp only at ho hi hw Qq nD gy;unfold nU;simp only;generalize iN S a=n at*;generalize hr:(if n<S.length then(n:Int) else-1)=r at hi;refine sP func24 ntmps24 λ w cl=>?_
 refine gA gy ?_;rw[show decide ((1:Int)=0)=false from rfl];refine go ?_;rw[show decide ((1:Int)=1)=true from rfl];refine go ?_;rw[show decide ((1:Int)=1)=true from rfl];refine gA hi ?_
 by_cases hn:n<S.length
 ·rw[if_pos hn] at hr;subst hr;obtain⟨y,hy,Zz⟩:=nD hn;rw[show decide ((n:Int)>=0)=true by rw[decide_eq_true_eq];omega];rcases ho with rfl|rfl|rfl
  ·rw[if_pos rfl,if_pos hn,Zz];refine go ?_;rw[show decide ((1:Int)=1)=true from rfl];refine go ?_;refine gD [2] ?_;refine ri [pI y.2] (gk (BG hy)) ?_;refine bh ?_;refine gf ?_
   rfl
  ·rw[if_neg (by omega),if_pos rfl,if_pos hn];refine go ?_;rw[show decide ((2:Int)=1)=false from rfl];refine go ?_;rw[show decide ((2:Int)=2)=true from rfl];refine gf ?_
   rfl
  ·rw[if_neg (by omega),if_neg (by omega),if_pos rfl,if_pos hn];refine go ?_;rw[show decide ((3:Int)=1)=false from rfl];refine go ?_;rw[show decide ((3:Int)=2)=false from rfl];refine go ?_;rw[show decide ((3:Int)=3)=true from rfl];refine gA Qq ?_;refine d8 ?_
   rfl
 ·rw[if_neg hn] at hr;subst hr;rw[show decide ((-1:Int)>=0)=false from rfl];rcases ho with rfl|rfl|rfl
  ·rw[if_pos rfl,if_neg hn];refine go ?_;rw[show decide ((1:Int)=1)=true from rfl];refine gf ?_
   rfl
  ·rw[if_neg (by omega),if_pos rfl,if_neg hn];refine go ?_;rw[show decide ((2:Int)=1)=false from rfl];refine go ?_;rw[show decide ((2:Int)=2)=true from rfl];refine gA hw ?_;refine d8 ?_
   rfl
  ·rw[if_neg (by omega),if_neg (by omega),if_pos rfl,if_neg hn];refine go ?_;rw[show decide ((3:Int)=1)=false from rfl];refine go ?_;rw[show decide ((3:Int)=2)=false from rfl];refine go ?_;rw[show decide ((3:Int)=3)=true from rfl];refine gf ?_
   rfl
abbrev IL(k:Int)(c:List Int):G:=.agg [u k,bq [],bq c]
theorem adS{vs:List Int}{j:Nat}{x:Int}(h:vs[j]?=some x):bb (vs.take j)++[pI x]=bb (vs.take (j+1)):=by rw[List.take_add_one,h];simp[bb]
theorem Tz(kd:Int)(I:kd=2\/kd=3)(v:Int)(vs:List Int)(R:vs.length<=1000000):aX prog 61 [IL kd (v::vs),u 0] (IL kd vs):=by
 have DB:(((v::vs).length:Nat):Int)=vs.length+1:=by simp
 refine sP func61 ntmps61 λ w cl=>?_
 refine go ?_;refine dO (y3 2 2 0 3 1 rfl rfl rfl rfl rfl) ?_;refine bW (λ i:Nat=>i<=vs.length+1) (λ i=>⟨[(6,u i),(5,.ptr 2 0),(4,.ptr 1 0),(2,.ptr 0 0),(1,u 0)],[(2,[u kd,.p (.sl true 0 []),.aW 0 (i-1) (bb (vs.take (i-1)))]),(1,[u 0,.p (.sl true 0 []),.p (.sl true 0 [])]),(0,[u kd,bq [],bq (v::vs)])],[(0,⟨3,1,i-1⟩)]⟩) (λ i=>vs.length+1-i) 0 (Nat.zero_le _) (zX) ?_;intro i X;refine go ?_;refine cN (λ h1=>?_) (λ h1=>?_)<;>try rw[h1]
 ·have aP:=of_decide_eq_true h1;rcases Nat.eq_zero_or_pos i with rfl|h0
  ·refine go ?_;rw[show decide (((0:Nat):Int)=0)=true from rfl];refine go ?_;exact⟨1,by omega,by omega,zX⟩
  ·obtain⟨j,rfl⟩:∃j,i=j+1:=⟨i-1,by omega⟩;obtain⟨x,O⟩:∃x,vs[j]?=some x:=⟨vs[j]'(by omega),List.getElem?_eq_getElem _⟩;have fD:(v::vs)[((j+1:Nat):Int).toNat]?=some x:=by simpa using O
   have n9:(vs.take j).length=j:=by rw[List.length_take];omega
   refine go ?_;rw[show decide (((j+1:Nat):Int)=0)=false by rw[decide_eq_false_iff_not];omega];refine go ?_;rw[show decide (kd=1)=false by rw[decide_eq_false_iff_not];omega];refine go ?_;refine gW 8 [] ?_;refine ri [pI x] (gk fD) ?_;refine bh ?_;refine hE (m:=1) (qs:=[pI x]) aB rfl rfl rfl rfl rfl rfl rfl rfl rfl rfl rfl rfl rfl (by unfold maxLen;omega) (by show(_+_)*8<=_;omega) ?_;refine go ?_;refine⟨j+1+1,by omega,by omega,?_⟩;rw[show j+1+1-1=j+1-1+1 by omega,<-adS (j:=j+1-1) (by simpa using O)];exact zX
 ·have aP:=of_decide_eq_false h1;have kx:i=vs.length+1:=by omega
  subst kx;refine go ?_;refine rY rfl ?_;rw[show vs.length+1-1=vs.length by omega,List.take_length]
  rfl
abbrev NJ(r:jM×Int×Bool):G:=.bg [xD r.1,u r.2.1,dB r.2.2]
set_option maxHeartbeats 4000000 in
theorem NO(kd:Int)(c:List Int)(o:bt)(R:c.length<=1000000)(ho:iE o.kind=kd)(I:kd=2\/kd=3):aX prog 24 [IL kd c,zv o] (NJ (kM (kd,[],c) o)):=by
 have gy:=GW o.kind;rw[ho] at gy;have PN:(o.kind=4/\kd=2)\/(o.kind=5/\kd=2)\/(o.kind=6/\kd=3)\/(o.kind=7/\kd=3):=by unfold iE at ho;split at ho<;>(try split at ho)<;>(try split at ho)<;>omega
 obtain⟨kn,ob,a,b⟩:=o;simp only at PN gy;rcases PN with⟨rfl,rfl⟩|⟨rfl,rfl⟩|⟨rfl,rfl⟩|⟨rfl,rfl⟩
 ·rw[show kM (2,[],c) ⟨4,ob,a,b⟩=((2,[],a::c),0,true) from rfl];refine sP func24 ntmps24 λ w cl=>?_
  refine gA gy ?_;rw[show decide ((2:Int)=0)=false from rfl];refine go ?_;rw[show decide ((2:Int)=2)=true from rfl];refine go ?_;rw[show decide ((2:Int)=1)=false from rfl];refine go ?_;rw[show decide ((4:Int)=4)=true from rfl];refine go ?_;refine gW 8 [] ?_;refine Hh (cU:=1) (m:=c.length) (ps:=[pI a]) (qs:=bb c) aB 0 rfl rfl rfl rfl rfl rfl rfl rfl rfl rfl rfl rfl rfl (by rw[sF];exact(Nat.mul_one _).symm) (by unfold maxLen;omega) (by show(_+_)*8<=_;omega) ?_;refine qg ?_;refine rY rfl ?_;simp[bb,bq,Nat.add_comm]
 ·cases c with
  |nil=>
   rw[show kM (2,[],[]) ⟨5,ob,a,b⟩=((2,[],[]),0,false) from rfl];refine sP func24 ntmps24 λ w cl=>?_
   refine gA gy ?_;rw[show decide ((2:Int)=0)=false from rfl];refine go ?_;rw[show decide ((2:Int)=2)=true from rfl];refine go ?_;rw[show decide ((2:Int)=1)=false from rfl];refine go ?_;rw[show decide ((5:Int)=4)=false from rfl];refine go ?_;rw[show decide ((5:Int)=6)=false from rfl];refine go ?_;rw[show decide ((([]:List Int).length:Int)=0)=true from rfl];refine gf ?_
   rfl
  |cons v vs=>
   simp only[List.length_cons] at R;rw[show kM (2,[],v::vs) ⟨5,ob,a,b⟩=((2,[],vs),v,true) from rfl];refine sP func24 ntmps24 λ w cl=>?_
   refine gA gy ?_;rw[show decide ((2:Int)=0)=false from rfl];refine go ?_;rw[show decide ((2:Int)=2)=true from rfl];refine go ?_;rw[show decide ((2:Int)=1)=false from rfl];refine go ?_;rw[show decide ((5:Int)=4)=false from rfl];refine go ?_;rw[show decide ((5:Int)=6)=false from rfl];refine go ?_;rw[show decide (((v::vs).length:Int)=0)=false by rw[decide_eq_false_iff_not,List.length_cons];omega];refine go ?_;refine dW 7 [2] ?_;refine gQ (Tz 2 (by omega) v vs (by omega)) ?_;refine ri [pI v] (gk rfl) ?_;refine bh ?_;refine gf ?_
   rfl
 ·rw[show kM (3,[],c) ⟨6,ob,a,b⟩=((3,[],c++[a]),0,true) from rfl];refine sP func24 ntmps24 λ w cl=>?_
  refine gA gy ?_;rw[show decide ((3:Int)=0)=false from rfl];refine go ?_;rw[show decide ((3:Int)=3)=true from rfl];refine go ?_;rw[show decide ((3:Int)=1)=false from rfl];refine go ?_;rw[show decide ((6:Int)=4)=false from rfl];refine go ?_;rw[show decide ((6:Int)=6)=true from rfl];refine go ?_;refine gW 10 [] ?_;refine Hh (cU:=0) (m:=c.length) (ps:=[]) (qs:=bb c) aB 0 rfl rfl rfl rfl rfl rfl rfl rfl rfl rfl rfl rfl rfl (by rw[sF];exact(Nat.mul_one _).symm) (by unfold maxLen;omega) (by show(_+_)*8<=_;omega) ?_;refine bh ?_;refine vg (m:=1) (qs:=[pI a]) aB rfl rfl rfl rfl rfl rfl rfl rfl rfl rfl rfl rfl rfl (by unfold maxLen;omega) (by show(_+_)*8<=_;omega) ?_;refine qg ?_;refine rY rfl ?_;simp[bb,bq]
 ·cases c with
  |nil=>
   rw[show kM (3,[],[]) ⟨7,ob,a,b⟩=((3,[],[]),0,false) from rfl];refine sP func24 ntmps24 λ w cl=>?_
   refine gA gy ?_;rw[show decide ((3:Int)=0)=false from rfl];refine go ?_;rw[show decide ((3:Int)=3)=true from rfl];refine go ?_;rw[show decide ((3:Int)=1)=false from rfl];refine go ?_;rw[show decide ((7:Int)=4)=false from rfl];refine go ?_;rw[show decide ((7:Int)=6)=false from rfl];refine go ?_;rw[show decide ((([]:List Int).length:Int)=0)=true from rfl];refine gf ?_
   rfl
  |cons v vs=>
   simp only[List.length_cons] at R;rw[show kM (3,[],v::vs) ⟨7,ob,a,b⟩=((3,[],vs),v,true) from rfl];refine sP func24 ntmps24 λ w cl=>?_
   refine gA gy ?_;rw[show decide ((3:Int)=0)=false from rfl];refine go ?_;rw[show decide ((3:Int)=3)=true from rfl];refine go ?_;rw[show decide ((3:Int)=1)=false from rfl];refine go ?_;rw[show decide ((7:Int)=4)=false from rfl];refine go ?_;rw[show decide ((7:Int)=6)=false from rfl];refine go ?_;rw[show decide (((v::vs).length:Int)=0)=false by rw[decide_eq_false_iff_not,List.length_cons];omega];refine go ?_;refine dW 7 [2] ?_;refine gQ (Tz 3 (by omega) v vs (by omega)) ?_;refine ri [pI v] (gk rfl) ?_;refine bh ?_;refine gf ?_
   rfl
theorem VH{kind:Int}{n:Nat}(c:jM)(o:bt)(h:EF kind n c)(hn:n<=1000000)(ho:iE o.kind=kind)(I:1<=kind/\kind<=3):aX prog 24 [xD c,zv o] (NJ (kM c o)):=by
 obtain⟨c1,c2,c3⟩:=c;obtain⟨h1,A,K,h4⟩:=h;simp only at h1 A K h4;subst h1;rcases(show c1=1\/c1=2\/c1=3 by omega) with rfl|rfl|rfl
 ·have R:=A rfl;have AP:eR (c2.zip c3)=c2:=List.map_fst_zip (by omega);have ZB:eV (c2.zip c3)=c3:=List.map_snd_zip (by omega);have YN:o.kind=1\/o.kind=2\/o.kind=3:=by unfold iE at ho;split at ho<;>(try split at ho)<;>(try split at ho)<;>omega
  have F:=VI (c2.zip c3) o (by rw[List.length_zip];omega) YN;have e:kM (1,c2,c3) o=((1,eR (nU (c2.zip c3) o).1,eV (nU (c2.zip c3) o).1),(nU (c2.zip c3) o).2):=by unfold kM;rw[if_pos (by omega)]
  rw[e];rw[show xD (1,c2,c3)=rS (c2.zip c3) by unfold rS;rw[AP,ZB]];exact F
 ·have e:c2=[]:=K (by omega);subst e;exact NO 2 c3 o (by omega) ho (.inl rfl)
 ·have e:c2=[]:=K (by omega);subst e;exact NO 3 c3 o (by omega) ho (.inr rfl)
def wM(o:bt):Bool:=decide (iE o.kind≠0)&&decide (0<=o.obj)&&decide (o.obj<pP (iE o.kind))&&decide (0<=o.a)&&decide (o.a<65536)
def Aa(want:List (List bt))(turns:List Int)(ops o7:Nat):Bool:=decide (1<=want.length)&&decide (want.length<=3)&&decide (turns.length<=o7)&&want.all (λ w=>w.all wM)&&decide ((want.map List.length).sum<=ops)
theorem M4{ar:Type}{f:ar->Bool}{l:List ar}{i:Nat}{x:ar}(h:l[i]?=some x)(hf:f x=false):l.all f=false:=by rw[List.all_eq_false];exact⟨x,List.mem_of_getElem? h,by rw[hf];simp⟩
theorem M6{ar:Type}{f:ar->Bool}{l:List ar}{i:Nat}{x:ar}(h:l[i]?=some x)(hf:f x=true)(ht:(l.take i).all f=true):(l.take (i+1)).all f=true:=by rw[List.take_add_one,h,List.all_append,ht];simp[hf]
theorem adN{l:List Nat}{i x:Nat}(h:l[i]?=some x):(l.take (i+1)).sum=(l.take i).sum+x:=by rw[List.take_add_one,h,List.sum_append];simp
theorem adO(l:List Nat)(i:Nat):(l.take i).sum<=l.sum:=by
 conv=>rhs;rw[<-List.take_append_drop i l]
 rw[List.sum_append];omega
theorem QA{k:Int}(h:k=1\/k=2\/k=3):∀(m:Nat)(q:Pl),[pI (pP k)][m]?=some q->[pI 0,pI 2,pI 1,pI 2][k.toNat*1+m]?=some q:=by
 intro m q hq;cases m with
 |zero=>rcases h with rfl|rfl|rfl<;>exact hq
 |succ m=>cases hq
theorem aa6(k:Int):iE k=0\/iE k=1\/iE k=2\/iE k=3:=by
 unfold iE;split
 ·exact .inr (.inl rfl)
 ·split
  ·exact .inr (.inr (.inl rfl))
  ·split
   ·exact .inr (.inr (.inr rfl))
   ·exact .inl rfl
set_option maxHeartbeats 8000000 in
theorem Wi(want:List (List bt))(turns:List Int)(ops o7:Nat)(gJ:want.length<=3->(want.map List.length).sum<=9223372036854775807):aX prog 19 [Ct want turns,u ops,u o7] (dB (Aa want turns ops o7)):=by
 generalize E:Aa want turns ops o7=aJ;unfold Aa at E;refine sP func19 ntmps19 λ w cl=>?_
 refine go ?_;generalize h1:decide ((want.length:Int)<1)=cc;cases cc
 ·have aP:=of_decide_eq_false h1;refine go ?_;generalize A:decide ((want.length:Int)>3)=cc;cases cc
  ·have bs:=of_decide_eq_false A;have hs:=gJ (by omega);refine go ?_;generalize K:decide ((turns.length:Int)>o7)=cc;cases cc
   ·have dc:=of_decide_eq_false K;rw[show decide (1<=want.length)=true by rw[decide_eq_true_eq];omega,show decide (want.length<=3)=true by rw[decide_eq_true_eq];omega,show decide (turns.length<=o7)=true by rw[decide_eq_true_eq];omega,Bool.true_and,Bool.true_and,Bool.true_and] at E;refine go ?_;refine bW (λ i:Nat=>i<=want.length/\(want.take i).all (λ w=>w.all wM)=true) (λ i=>⟨[(8,u i),(7,u (((want.map List.length).take i).sum:Nat)),(3,.ptr 0 0),(1,u ops)],[(0,nc want turns)],[]⟩) (λ i=>want.length-i) 0 ⟨by omega,rfl⟩ (zX) ?_;rintro i ⟨X,cT⟩;refine go ?_;refine cN (λ h4=>?_) (λ h4=>?_)<;>try rw[h4]
    ·have oN:(i:Int)<want.length:=of_decide_eq_true h4;obtain⟨w,j3⟩:=l8 (l:=want) (i:=i) (by omega) oN;have Gn:=j3;simp only[Int.toNat_natCast] at Gn;have dg:=adN (l:=want.map List.length) (i:=i) (x:=w.length) (by rw[List.getElem?_map,Gn];rfl);have jx:=adO (want.map List.length) (i+1);refine go ?_;refine ai [tT w] (wH j3) ?_;refine go ?_;rw[show((((want.map List.length).take i).sum:Nat):Int)+w.length=((((want.map List.length).take (i+1)).sum:Nat):Int) by omega];refine bW (λ k:Nat=>k<=w.length/\(w.take k).all wM=true) (λ k=>⟨[(9,u k),(8,u i),(7,u (((want.map List.length).take (i+1)).sum:Nat)),(3,.ptr 0 0),(1,u ops)],[(0,nc want turns)],[]⟩) (λ k=>w.length-k) 0 ⟨by omega,rfl⟩ (zX) ?_;rintro k ⟨I,Ju⟩;refine go ?_;refine ai [tT w] (wH j3) ?_;refine go ?_;refine cN (λ h6=>?_) (λ h6=>?_)<;>try rw[h6]
     ·have OD:=of_decide_eq_true h6;obtain⟨o,ho⟩:=l8 (l:=w) (i:=k) (by omega) OD;have gI:=ho;simp only[Int.toNat_natCast] at gI;have gy:=GW o.kind;have dz:=aa6 o.kind;have qY:wM o=false->aJ=false:=λ h=>by rw[<-E,M4 Gn (M4 gI h)];rfl
      have PE:wM o=true->(w.take (k+1)).all wM=true:=λ h=>M6 gI h Ju
      have P8:wM o=(decide (iE o.kind≠0)&&decide (0<=o.obj)&&decide (o.obj<pP (iE o.kind))&&decide (0<=o.a)&&decide (o.a<65536)):=rfl;rw[P8] at qY PE;clear P8;generalize iE o.kind=kk at*;refine go ?_;refine ai [tT w] (wH j3) ?_;refine go ?_;refine ai [pI o.kind,pI o.obj,pI o.a,pI o.b] (RE ho) ?_;refine gA gy ?_
      by_cases k0:kk=0
      ·refine gW 24 [] ?_;rw[decide_eq_true k0];refine bh ?_;refine gf ?_;rw[qY (by rw[show decide (kk≠0)=false by simp[k0]];rfl)]
      ·have CF:kk=1\/kk=2\/kk=3:=by omega
       refine gW 24 [] ?_;rw[decide_eq_false k0];refine bh ?_;generalize k1:decide (o.obj<0)=cc;cases cc
       ·have qA:=of_decide_eq_false k1;refine bh ?_;refine ri [pI (pP kk)] (QA CF) ?_;refine bh ?_;generalize k2:decide (o.obj>=pP kk)=cc;cases cc
        ·have tN:=of_decide_eq_false k2;refine bh ?_;generalize k4:decide (o.a<0)=cc;cases cc
         ·have DM:=of_decide_eq_false k4;refine qg ?_;refine cN (λ k5=>?_) (λ k5=>?_)<;>try rw[k5]
          ·have ZP:=of_decide_eq_true k5;refine gf ?_;rw[qY (by rw[show decide (o.a<65536)=false by rw[decide_eq_false_iff_not];omega,Bool.and_false])]
          ·have ZP:=of_decide_eq_false k5;refine go ?_;exact⟨k+1,⟨by omega,PE (by simp only[Bool.and_eq_true,decide_eq_true_eq];exact⟨⟨⟨⟨k0,by omega⟩,by omega⟩,by omega⟩,by omega⟩)⟩,by omega,zX⟩
         ·have DM:=of_decide_eq_true k4;refine bh ?_;refine gf ?_;rw[qY (by rw[show decide (0<=o.a)=false by rw[decide_eq_false_iff_not];omega,Bool.and_false,Bool.false_and])]
        ·have tN:=of_decide_eq_true k2;refine bh ?_;refine gf ?_;rw[qY (by rw[show decide (o.obj<pP kk)=false by rw[decide_eq_false_iff_not];omega,Bool.and_false,Bool.false_and,Bool.false_and])]
       ·have qA:=of_decide_eq_true k1;refine bh ?_;refine gf ?_;rw[qY (by rw[show decide (0<=o.obj)=false by rw[decide_eq_false_iff_not];omega,Bool.and_false,Bool.false_and,Bool.false_and,Bool.false_and])]
     ·have OD:=of_decide_eq_false h6;rw[List.take_of_length_le (by omega)] at Ju;refine go ?_;exact⟨i+1,⟨by omega,M6 Gn Ju cT⟩,by omega,zX⟩
    ·have oN:¬(i:Int)<want.length:=of_decide_eq_false h4;rw[List.take_of_length_le (by omega)] at cT;refine gf ?_;rw[<-E,cT,Bool.true_and,List.take_of_length_le (by rw[List.length_map];omega)]
     congr 1
     simp
   ·have dc:=of_decide_eq_true K;rw[show decide (turns.length<=o7)=false by rw[decide_eq_false_iff_not];omega,Bool.and_false,Bool.false_and,Bool.false_and] at E;refine gf ?_;rw[<-E]
  ·have bs:=of_decide_eq_true A;rw[show decide (want.length<=3)=false by rw[decide_eq_false_iff_not];omega,Bool.and_false,Bool.false_and,Bool.false_and,Bool.false_and] at E;refine gf ?_;rw[<-E]
 ·have aP:=of_decide_eq_true h1;rw[show decide (1<=want.length)=false by rw[decide_eq_false_iff_not];omega,Bool.false_and,Bool.false_and,Bool.false_and,Bool.false_and] at E;refine gf ?_;rw[<-E]
def pp(n:Int):Int:=if n%3=0 then 1 else if n%3=1 then 2 else 4
theorem Nr(n:Int):fT (pp n):=by
 unfold pp;split
 ·exact .inl rfl
 ·split
  ·exact .inr (.inl rfl)
  ·exact .inr (.inr rfl)
theorem ZF{n:Int}:∀(m:Nat)(q:Pl),[pI (pp n)][m]?=some q->[pI 1,pI 2,pI 4][(n%3).toNat*1+m]?=some q:=by
 intro m q h;cases m with
 |zero=>
  unfold pp at h;rcases(show n%3=0\/n%3=1\/n%3=2 by omega) with e|e|e
  ·rw[if_pos e] at h;rw[e];exact h
  ·rw[if_neg (by omega),if_pos e] at h;rw[e];exact h
  ·rw[if_neg (by omega),if_neg (by omega)] at h;rw[e];exact h
 |succ m=>cases h
def cS(b:Int):oF:=⟨1,30,b,2,1,0,2,1,2⟩
theorem Nx{b:Int}(T:fT b):xx (cS b)=true:=by rcases T with rfl|rfl|rfl<;>decide
theorem aeg(n:Int)(hn:0<=n/\n<256):aX prog 20 [u 1,dK .u8 n] (dD (lS (pp n))):=by
 have gy:=RC (cS (pp n));unfold D5 at gy;rw[if_pos (Nx (Nr n)),show gm (cS (pp n))=lS (pp n) from rfl] at gy;dsimp only at gy;unfold Cr at gy;refine sP func20 ntmps20 λ w cl=>?_
 refine Ag ?_;refine ai [pI (pp n)] ZF ?_;refine gA gy ?_;refine d8 ?_
 rfl
theorem abp{l:List fH}{i:Nat}{c:fH}{kind obj:Int}(h:l[i]?=some c):jf (l.take (i+1)) kind obj=jf (l.take i) kind obj++(if iE c.op.kind=kind/\c.op.obj=obj then[c] else[]):=by
 unfold jf;rw[List.take_add_one,h,List.filter_append]
 congr 1
 by_cases L:iE c.op.kind=kind/\c.op.obj=obj
 ·rw[if_pos L];simp[L]
 ·rw[if_neg L];simp only[Option.toList_some,List.filter_cons,List.filter_nil];rw[if_neg (by simpa using L)]
theorem RI(l:List fH)(kind obj:Int):(jf l kind obj).length<=l.length:=List.length_filter_le _ _
theorem abq(l:List fH)(kind obj:Int)(R:l.length<=100000):aX prog 23 [s8 l,u kind,u obj] (s8 (jf l kind obj)):=by
 refine sP func23 ntmps23 λ w cl=>?_
 refine go ?_;refine dO (kF 7 0 65 10 rfl rfl rfl) ?_;refine bW (λ i:Nat=>i<=l.length) (λ i=>⟨[(8,u i),(7,.aW 0 (jf (l.take i) kind obj).length (mv (jf (l.take i) kind obj))),(0,s8 l),(1,u kind),(2,u obj)],[],[(0,⟨65,10,(jf (l.take i) kind obj).length⟩)]⟩) (λ i=>l.length-i) 0 (Nat.zero_le _) (zX) ?_;intro i X;refine(show aK _ _ _ _ ⟨[(8,u i),(7,.aW 0 (jf (l.take i) kind obj).length (mv (jf (l.take i) kind obj))),(0,s8 l),(1,u kind),(2,u obj)],[],[(0,⟨65,10,(jf (l.take i) kind obj).length⟩)]⟩ from ?_);refine go ?_;refine cN (λ h1=>?_) (λ h1=>?_)<;>try rw[h1]
 ·have aP:=of_decide_eq_true h1;obtain⟨c,L⟩:=l8 (l:=l) (i:=i) (by omega) aP;have ey:=L;simp only[Int.toNat_natCast] at ey;have hs:=abp (kind:=kind) (obj:=obj) ey;have iQ:=RI (l.take i) kind obj;rw[List.length_take] at iQ;have dg:∀(Γ:bI)(J:St),bN Γ J ⟨[(8,u ((i:Int)+1)),(7,.aW 0 (jf (l.take (i+1)) kind obj).length (mv (jf (l.take (i+1)) kind obj))),(0,s8 l),(1,u kind),(2,u obj)],[],[(0,⟨65,10,(jf (l.take (i+1)) kind obj).length⟩)]⟩->∃j:Nat,j<=l.length/\l.length-j<l.length-i/\bN Γ J ⟨[(8,u j),(7,.aW 0 (jf (l.take j) kind obj).length (mv (jf (l.take j) kind obj))),(0,s8 l),(1,u kind),(2,u obj)],[],[(0,⟨65,10,(jf (l.take j) kind obj).length⟩)]⟩:=λ _ _ hg=>⟨i+1,by omega,by omega,by rw[show((i+1:Nat):Int)=(i:Int)+1 by omega];exact hg⟩
  generalize jf (l.take (i+1)) kind obj=aeF at*;generalize jf (l.take i) kind obj=ae at*;have gy:=GW c.op.kind;generalize iE c.op.kind=kk at*;refine go ?_;refine ai (rt c) (uh L) ?_;refine gA gy ?_
  by_cases A:kk=kind
  ·rw[decide_eq_true A];refine go ?_;refine ai (rt c) (uh L) ?_;refine go ?_
   by_cases K:c.op.obj=obj
   ·rw[decide_eq_true K];rw[if_pos ⟨A,K⟩] at hs;subst hs;refine go ?_;refine ai (rt c) (uh L) ?_;refine go ?_;refine hE (n:=ae.length) (m:=1) (qs:=rt c) aB rfl rfl rfl rfl rfl rfl rfl rfl rfl rfl rfl rfl rfl (by unfold maxLen;omega) (by show(_+_)*80<=_;omega) ?_;refine go ?_;refine dg _ _ ?_;rw[show(ae++[c]).length=ae.length+1 by simp,show mv (ae++[c])=mv ae++rt c by simp[mv]];exact zX
   ·rw[decide_eq_false K];rw[if_neg (λ e=>K e.2),List.append_nil] at hs;subst hs;refine go ?_;exact dg _ _ zX
  ·rw[decide_eq_false A];rw[if_neg (λ e=>A e.1),List.append_nil] at hs;subst hs;refine go ?_;exact dg _ _ zX
 ·have aP:=of_decide_eq_false h1;rw[List.take_of_length_le (by omega)];refine go ?_;refine rY rfl ?_
  rfl
theorem SN{b:Int}(T:fT b):OL (lS b):=by have h:=Iy (Nx T);exact⟨QX h,QW h,(DL h.b).1,⟨by show(0:Int)<=30;omega,by show(30:Int)<=1000;omega⟩,h.m,h.st,h.ch⟩
theorem adq{b:Int}(T:fT b):H9 (lS b).size.toNat (nJ (lS b)):=by show∀a∈nJ (lS b),a.kind=2/\a.fz=0/\0<=a.cell/\a.cell<((lS b).size.toNat:Int);rcases T with rfl|rfl|rfl<;>decide+kernel
theorem adp{b:Int}(T:fT b):BY (lS b):=by have h:=SN T;have hs:=pM b;exact⟨h.ok,h.m,h.b,h.maps,h.bo,by show(30:Int)<=20000;omega,by rcases T with rfl|rfl|rfl<;>decide+kernel,adq T⟩
section
variable{Γ:bI}{J bc:St}
theorem zw(T:vz J bc bc.b:=by(repeat(first|exact trivial|refine⟨⟨rfl,rfl⟩,?_⟩|refine⟨⟨rfl,jB _ _ _⟩,?_⟩|refine⟨⟨rfl,jz _ _ _⟩,?_⟩|refine⟨⟨rfl,jI _ _ _⟩,?_⟩|refine⟨⟨rfl,jA _ _ _⟩,?_⟩|refine⟨⟨rfl,jv _ _ _⟩,?_⟩)))(hs:vD J bc bc.s:=by(repeat(first|exact trivial|refine⟨⟨rfl,rfl⟩,?_⟩)))(hg:vB J bc.g:=by(repeat(first|exact trivial|refine⟨rfl,?_⟩)))(I:vC bc Γ.kb:=by(repeat(first|exact trivial|refine⟨rfl,?_⟩))):bN Γ J bc:=zX hs T hg I
end
abbrev NG(c:jM):List G:=[u c.1,bq c.2.1,bq c.2.2]
theorem Wj{ops:List bt}(h:Aa [ops] [] 14 0=true)(hv:∀o∈ops,o.b<9223372036854775808):ops.length<=14/\∀o∈ops,wN o:=by
 unfold Aa at h;simp only[List.all_cons,List.all_nil,Bool.and_true,List.map_cons,List.map_nil,List.sum_cons,List.sum_nil,Bool.and_eq_true,decide_eq_true_eq,List.all_eq_true] at h;obtain⟨⟨_,A⟩,K⟩:=h;refine⟨by omega,λ o ho=>?_⟩;have h4:=A o ho;simp only[wM,Bool.and_eq_true,decide_eq_true_eq] at h4;obtain⟨⟨⟨⟨k0,k1⟩,k2⟩,k3⟩,k4⟩:=h4;refine⟨?_,⟨k3,k4⟩,hv o ho⟩;unfold pP iE at k2;unfold iE at k0;split at k2
 ·simp at k2;omega
 ·split at k2
  ·simp at k2;omega
  ·split at k2
   ·simp at k2;omega
   ·rename_i h1 A K;rw[if_neg h1,if_neg A,if_neg K] at k0;exact absurd rfl k0
set_option maxHeartbeats 16000000 in
theorem solo_w(ops:List bt)(n:Int)(hn:0<=n/\n<=255)(R:ops.length<=9223372036854775807)(hv:∀o∈ops,o.b<9223372036854775808):aX prog 4 [vS ops,dK .u8 n] (dB true):=by
 have hF:=Wi [ops] [] 14 0 (by simp;exact R);refine sP func4 ntmps4 λ w cl=>?_
 refine gA adk ?_;refine oL (qC 0 rfl rfl) ?_;refine gA hF ?_;cases XS:Aa [ops] [] 14 0
 ·refine gf ?_
  rfl
 ·obtain⟨Fv,aQ⟩:=Wj XS hv;have T:=Nr n;have Xl:=aeg n (by omega);have E:=adr T aQ Fv;have hP:=R0 (lS (pp n)) (adp T) [ops] [] (by simp) (by simp) (by simp) (by simp) (λ w hw=>by rw[List.mem_singleton] at hw;subst hw;omega);have W2:=GV (lS (pp n)) (SN T) (tR (lS (pp n)) [ops] []).m E.sm;rw[show([ops]:List (List bt)).length=1 from rfl] at hP;obtain⟨_,qY,Zs,XU,O7,_,afK,Kb⟩:=E;generalize tR (lS (pp n)) [ops] []=t at*;have dT:t.calls.length<=14:=by omega
  generalize lS (pp n)=l at*;refine gA Xl ?_;refine cI hP ?_;rintro d U ⟨rfl,rfl⟩;refine go ?_;refine bW (λ k:Nat=>1<=k/\k<=4) (λ k=>⟨[(9,u k),(8,.ptr 30 0),(7,.ptr 3 0),(5,dB true),(0,vS ops)],qJ t 1++[(3,cn l)],[]⟩) (λ k=>4-k) 1 ⟨by omega,by omega⟩ zw ?_;rintro k ⟨pD,x5⟩;refine(show aK _ _ _ _ ⟨[(9,u k),(8,.ptr 30 0),(7,.ptr 3 0),(5,dB true),(0,vS ops)],qJ t 1++[(3,cn l)],[]⟩ from ?_);refine Ag ?_;refine cN (λ h1=>?_) (λ h1=>?_)<;>try rw[h1]
  ·have aP:k<=3:=by have:=of_decide_eq_true h1;omega
   have n4:0<=pP k/\pP k<=2:=by unfold pP;split<;>(try split)<;>omega
   refine go ?_;refine bW (λ i:Nat=>(i:Int)<=pP k) (λ i=>⟨[(10,u i),(9,u k),(8,.ptr 30 0),(7,.ptr 3 0),(5,dB true),(0,vS ops)],qJ t 1++[(3,cn l)],[]⟩) (λ i=>2-i) 0 (by omega) zw ?_;intro i X;refine(show aK _ _ _ _ ⟨[(10,u i),(9,u k),(8,.ptr 30 0),(7,.ptr 3 0),(5,dB true),(0,vS ops)],qJ t 1++[(3,cn l)],[]⟩ from ?_);refine go ?_;refine ai [pI (pP k)] (QA (show (k:Int)=1∨(k:Int)=2∨(k:Int)=3 by omega)) ?_;refine go ?_;refine cN (λ A=>?_) (λ A=>?_)<;>try rw[A]
   ·have bs:=of_decide_eq_true A;obtain⟨C,c0,c1,cK,hC⟩:=Kb k i (by omega) (by omega) (by omega) (by omega);have Xd:=abq t.calls k i (by omega);have ae6:=RI t.calls k i;have OE:=W2 k i;have OR:=aaJ k;generalize jf t.calls k i=H at*;rw[<-c1] at OE;rw[<-c0] at OR;have O6:(C H.length).2.1.length<=1000000000/\(C H.length).2.2.length<=1000000000:=by
     obtain⟨_,q2,q3,q4⟩:=cK H.length (Nat.le_refl _)
     by_cases I:(k:Int)=1
     ·have:=q2 I;omega
     ·rw[q3 I];exact⟨by simp,by omega⟩
    have OF:=E4 (C H.length) (C H.length) O6.1 O6.2;rw[decide_eq_true rfl] at OF;refine gA OR ?_;refine cA Xd ?_;refine go ?_;refine bW (λ j:Nat=>j<=H.length) (λ j=>⟨[(13,u j),(12,s8 H),(11,.ptr 7 0),(10,u i),(9,u k),(8,.ptr 30 0),(7,.ptr 3 0),(5,dB true),(0,vS ops)],(7,NG (C j))::(qJ t 1++[(3,cn l)]),[]⟩) (λ j=>H.length-j) 0 (Nat.zero_le _) zw ?_;intro j hj;refine(show aK _ _ _ _ ⟨[(13,u j),(12,s8 H),(11,.ptr 7 0),(10,u i),(9,u k),(8,.ptr 30 0),(7,.ptr 3 0),(5,dB true),(0,vS ops)],(7,NG (C j))::(qJ t 1++[(3,cn l)]),[]⟩ from ?_);refine go ?_;refine cN (λ K=>?_) (λ K=>?_)<;>try rw[K]
    ·have dc:=of_decide_eq_true K;obtain⟨x,O⟩:=l8 (l:=H) (i:=j) (by omega) dc;have fD:=O;simp only[Int.toNat_natCast] at fD;obtain⟨d1,d2⟩:=hC j x fD;have OG:=VH (C j) x.op (cK j hj) (by omega) d2 (by omega);rw[d1] at OG;refine go ?_;refine gW 14 [] ?_;refine ri (rt x) (uh O) ?_;refine gQ OG ?_;refine go ?_;refine ai (rt x) (uh O) ?_;refine go ?_;rw[show decide (x.val=x.val)=true from decide_eq_true rfl];refine go ?_;refine ai (rt x) (uh O) ?_;refine go ?_;rw[show(x.is==x.is)=true by simp];refine go ?_;exact⟨j+1,by omega,by omega,zw⟩
    ·have dc:j=H.length:=by have:=of_decide_eq_false K;omega
     subst dc;refine go ?_;refine dW 9 [] ?_;refine gQ OE ?_;refine cA OF ?_;refine go ?_;exact⟨i+1,by omega,by omega,zw⟩
   ·have bs:=of_decide_eq_false A;refine go ?_;exact⟨k+1,⟨by omega,by omega⟩,by omega,zw⟩
  ·have aP:k=4:=by have:=of_decide_eq_false h1;omega
   refine go ?_;rw[qY];refine go ?_;rw[Zs];refine go ?_;rw[XU];refine go ?_;rw[O7];refine gf ?_;simp
end Go.Proofs.YtcnefjfboagbmaaGreat
