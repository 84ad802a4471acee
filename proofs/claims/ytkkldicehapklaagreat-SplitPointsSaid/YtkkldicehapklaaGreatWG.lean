/- The document's maps: their walk. -/
import Derived.Test.YtkkldicehapklaaGreatWE
import Derived.Test.YtkkldicehapklaaGreatPU
import Derived.Test.YtkkldicehapklaaGreatPY
import Derived.Test.YtkkldicehapklaaGreatLB
import Derived.SizedLaws
namespace Go.Proofs.YtkkldicehapklaaGreat
open Go.Proofs.Tryz
open Go.RowKit
set_option maxRecDepth 100000
section
variable{P:Program}{aq:Nat->Option TI}{Γ:bX}{L:St}
theorem DY(nm j g el sz:Nat){n:Nat}{ps:List Pl}{cs aZ:List I}(hb:kv L.b nm=some cs)(hj:cs[j]?=some (.p (.sl true n ps)))(T:cs.set j (.bP g n ps)=aZ)(hg:kv L.g g=none)(Z:ps.length=n*sz):eI Γ L ⟨L.s,(nm,aZ)::L.b,(g,⟨el,sz,n⟩)::L.g⟩:=by
 subst T;intro a e F;have eZ:e.gi g=none:=by rw[F.gs];exact hg
 have pO:∀k,e.gr k≠some g:=λ k hk=>by obtain⟨aa,_,h,_⟩:=F.env.gr k g hk;rw[eZ] at h;cases h
 have Y:Ends e {e with gi:=λ h=>if h=g then some ⟨el,sz,n⟩ else e.gi h}:=
  ⟨λ _ _ _ h1 u=>⟨h1,u⟩,λ _ _ h=>h,λ bg aa h=>⟨aa,by show(if bg=g then _ else e.gi bg)=_;rw[if_neg (λ ae=>by rw[ae,eZ] at h;cases h)];exact h,rfl,rfl,Nat.le_refl _⟩,λ _ _ _ cur h1 _ J=>⟨h1,cur,J,rfl⟩⟩
 refine⟨{e with gi:=λ h=>if h=g then some ⟨el,sz,n⟩ else e.gi h},rfl,F.size,F.df,λ aH d hu=>(F.dj aH d hu).next Y,λ b cs oZ=>?_,λ aH hu=>?_,λ h=>?_,F.env.kept,F.env.cl,F.env.bx,F.env.inj,λ k bg hk=>?_,F.env.kb⟩
 ·simp only[dc] at oZ;split at oZ
  ·rename_i l4;subst l4;cases oZ;obtain⟨k,vs,rm,h1,u,J⟩:=F.boxes _ _ hb;refine⟨k,vs,rm,h1,u,by rw[List.length_set];exact J.1,λ i v d hv K=>?_⟩;rw[List.getElem?_set] at K;split at K
   ·rename_i mR;subst mR;split at K
    ·cases K;have h4:=J.2 _ v _ hv hj;cases h4 with
     |p h1=>have u:=(h1.next Y).low;obtain⟨A,bG,rfl,J,h4,h5,h6,h7⟩:=qa h1;exact .bP u ⟨⟨el,sz,n⟩,A,bG,by simp,rfl,Nat.le_refl _,Z,.inl (h6 rfl)⟩
    ·cases K
   ·exact(J.2 i v d hv K).next Y
  ·exact(F.boxes b cs oZ).ends Y rfl
 ·simp only[dc] at hu;split at hu
  ·cases hu
  ·exact F.ee aH hu
 ·show(if h=g then _ else e.gi h)=_;simp only[dc]
  by_cases e1:h=g
  ·subst e1;simp
  ·rw[if_neg e1,if_neg (λ ae=>e1 ae.symm)];exact F.gs h
 ·obtain⟨aa,cur,h1,u⟩:=F.env.gr k bg hk;exact⟨aa,cur,by show(if bg=g then _ else e.gi bg)=_;rw[if_neg (λ ae=>pO k (by rw[<-ae];exact hk))];exact h1,u⟩
end
theorem LF{fg:Type}{P:Program}{Γ:bX}{Q:Exit->St->Prop}{c:Code}{L:St}(x:Exit)(bu:fg->St)(ok:fg->Prop)(h:a8 P Γ c (λ ex bQ=>ex=x/\∃i,ok i/\eI Γ bQ (bu i)) L)(k:∀bQ i,ok i->eI Γ bQ (bu i)->Q x bQ):a8 P Γ c Q L:=
 zu h λ ex bQ hh=>by
  obtain⟨rfl,i,hi,hg⟩:=hh;exact k bQ i hi hg
abbrev dp(S:cr):List Int:=S.map (·.1)
abbrev dv(S:cr):List Int:=S.map (·.2)
abbrev pF(S:cr):I:=.agg [M 1,ci (dp S),ci (dv S)]
abbrev abu(r:cr×Int×Bool):I:=.ca [pF r.1,M r.2.1,dB r.2.2]
theorem Wh:bH prog 13 [M 1] (pF []):=by
 refine sP func13 ntmps13 λ w cl=>?_
 refine gf ?_
 rfl
theorem ahY:bH prog 57 [M 1] (M 1):=by
 refine sP func57 ntmps57 λ w cl=>?_
 refine go ?_;rw[show decide ((1:Int)=1)=true from rfl];refine gf ?_
 rfl
theorem ahZ:bH prog 57 [M 2] (M 1):=by
 refine sP func57 ntmps57 λ w cl=>?_
 refine go ?_;rw[show decide ((2:Int)=1)=false from rfl];refine go ?_;rw[show decide ((2:Int)=2)=true from rfl];refine gf ?_
 rfl
theorem ah0:bH prog 57 [M 3] (M 1):=by
 refine sP func57 ntmps57 λ w cl=>?_
 refine go ?_;rw[show decide ((3:Int)=1)=false from rfl];refine go ?_;rw[show decide ((3:Int)=2)=false from rfl];refine go ?_;rw[show decide ((3:Int)=3)=true from rfl];refine gf ?_
 rfl
theorem ah1(k:Int)(h:k=1\/k=2\/k=3):bH prog 57 [M k] (M 1):=by
 rcases h with rfl|rfl|rfl
 ·exact ahY
 ·exact ahZ
 ·exact ah0
theorem Bw{S:cr}{i:Nat}{y:Int×Int}(h:S[i]?=some y):(dp S)[(i:Int).toNat]?=some y.1:=by simp[h]
theorem DZ{S:cr}{i:Nat}{y:Int×Int}(h:S[i]?=some y):(dv S)[(i:Int).toNat]?=some y.2:=by simp[h]
theorem acG{S:cr}{a:Int}(h:∀(i:Nat)(y:Int×Int),S[i]?=some y->y.1≠a):i4 S a=S.length:=by unfold i4;rw[List.findIdx_eq_length];intro y hy;obtain⟨i,hi⟩:=List.mem_iff_getElem?.1 hy;exact decide_eq_false (h i y hi)
theorem acH{S:cr}{a:Int}{i:Nat}{y:Int×Int}(hi:S[i]?=some y)(hy:y.1=a)(h:∀(j:Nat)(z:Int×Int),j<i->S[j]?=some z->z.1≠a):i4 S a=i:=by obtain⟨aY,e⟩:=List.getElem?_eq_some_iff.1 hi;unfold i4;rw[List.findIdx_eq aY];refine⟨by rw[e];exact decide_eq_true hy,λ j hj=>decide_eq_false (h j _ hj (List.getElem?_eq_getElem (by omega)))⟩
theorem aaq(S:cr)(a:Int)(Z:S.length<=1000000):bH prog 58 [pF S,M a] (M (if i4 S a<S.length then(i4 S a:Int) else-1)):=by
 generalize hR:(if i4 S a<S.length then(i4 S a:Int) else-1)=ap;have fZ:(dp S).length=S.length:=List.length_map _;refine sP func58 ntmps58 λ w cl=>?_
 refine go ?_;refine d7 (λ i:Nat=>i<=S.length/\∀(j:Nat)(z:Int×Int),j<i->S[j]?=some z->z.1≠a) (λ i=>⟨[(5,M i),(2,.ptr 0 0),(1,M a)],[(0,[M 1,ci (dp S),ci (dv S)])],[]⟩) (λ i=>S.length-i) 0 ⟨Nat.zero_le _,λ j z hj=>by omega⟩ (zX) ?_;rintro i ⟨hi,cv⟩;refine(show a8 _ _ _ _ ⟨[(5,M i),(2,.ptr 0 0),(1,M a)],[(0,[M 1,ci (dp S),ci (dv S)])],[]⟩ from ?_);refine go ?_;refine gY (λ h1=>?_) (λ h1=>?_)<;>try rw[h1]
 ·have bB:=of_decide_eq_true h1;obtain⟨y,hy⟩:∃y,S[i]?=some y:=⟨S[i]'(by omega),List.getElem?_eq_getElem _⟩;refine go ?_;refine ai [pI y.1] (jy (Bw hy)) ?_;refine go ?_
  by_cases u:y.1=a
  ·rw[show decide (y.1=a)=true from decide_eq_true u];refine go ?_;refine Av rfl ?_;rw[<-hR,acH hy u cv,if_pos (by omega)]
  ·rw[show decide (y.1=a)=false from decide_eq_false u];refine go ?_;refine⟨i+1,⟨by omega,λ j z hj hz=>?_⟩,by omega,zX⟩;rcases Nat.lt_or_ge j i with J|J
   ·exact cv j z J hz
   ·have:j=i:=by omega
    subst this;rw[hy] at hz;cases hz;exact u
 ·have bB:=of_decide_eq_false h1;refine go ?_;refine Av rfl ?_;rw[<-hR,acG (λ j z hz=>cv j z (by have:=(List.getElem?_eq_some_iff.1 hz).1;omega) hz),if_neg (Nat.lt_irrefl _)]
def Bz(dn:Bool)(aC:cr)(x:Int×Int):cr:=if dn then aC else oC aC x
theorem Hh{S:cr}{i:Nat}{y:Int×Int}(h:S[i]?=some y):S.take (i+1)=S.take i++[y]:=by rw[List.take_add_one,h];rfl
theorem abM{S:cr}{i:Nat}{y:Int×Int}(h:S[i]?=some y):S.drop i=y::S.drop (i+1):=by obtain⟨h1,u⟩:=List.getElem?_eq_some_iff.1 h;rw[List.drop_eq_getElem_cons h1,u]
theorem agq{y x:Int×Int}{aC:cr}(h:x.1<y.1):Bz false (y::aC) x=x::y::aC:=by show oC (y::aC) x=_;rw[oC,if_pos h]
theorem agp{y x:Int×Int}{aC:cr}(h:¬x.1<y.1):Bz false (y::aC) x=y::Bz false aC x:=by
 show oC (y::aC) x=_;rw[oC,if_neg h]
 rfl
theorem Jt{x:Int×Int}{aC:cr}:Bz true aC x=aC:=rfl
abbrev D1(S:cr)(k v:Int)(i:Nat)(aq:cr)(dn:Bool):St:=⟨[(9,M i),(8,dB dn),(7,.ptr 2 0),(6,.ptr 1 0),(3,.ptr 0 0),(2,M v),(1,M k)],[(2,[M 1,.bP 0 aq.length (bW (dp aq)),.bP 1 aq.length (bW (dv aq))]),(1,[M 0,.p (.sl true 0 []),.p (.sl true 0 [])]),(0,[M 1,ci (dp S),ci (dv S)])],[(0,⟨3,1,aq.length⟩),(1,⟨3,1,aq.length⟩)]⟩
set_option maxHeartbeats 4000000 in
theorem akG(S:cr)(k v:Int)(Z:S.length<=1000000):bH prog 59 [pF S,M k,M v] (pF (oC S (k,v))):=by
 have fZ:(dp S).length=S.length:=List.length_map _;have Je:(dv S).length=S.length:=List.length_map _;refine sP func59 ntmps59 λ w cl=>?_
 refine go ?_;refine iP (DY 2 1 0 3 1 rfl rfl rfl rfl rfl) ?_;refine iP (DY 2 2 1 3 1 rfl rfl rfl rfl rfl) ?_;refine LF (fg:=cr×Bool) (.exit 0) (λ p=>D1 S k v S.length p.1 p.2) (λ p=>p.1.length<=S.length+p.2.toNat/\oC S (k,v)=p.1++Bz p.2 [] (k,v)) ?_ ?_
 ·refine d7 (λ p:Nat×cr×Bool=>p.1<=S.length/\p.2.1.length<=p.1+p.2.2.toNat/\oC S (k,v)=p.2.1++Bz p.2.2 (S.drop p.1) (k,v)) (λ p=>D1 S k v p.1 p.2.1 p.2.2) (λ p=>S.length-p.1) (0,[],false) ⟨Nat.zero_le _,Nat.zero_le _,rfl⟩ (zX) ?_;rintro⟨i,aq,dn⟩ ⟨hi,hT,hI⟩;simp only at hi hT hI;have IA:=Bool.toNat_le dn;refine(show a8 _ _ _ _ (D1 S k v i aq dn) from ?_);unfold D1;refine go ?_;refine gY (λ h1=>?_) (λ h1=>?_)<;>try rw[h1]
  ·have bB:=of_decide_eq_true h1;obtain⟨y,hy⟩:∃y,S[i]?=some y:=⟨S[i]'(by omega),List.getElem?_eq_getElem _⟩;rw[abM hy] at hI;have Iq:(dp aq).length=aq.length:=List.length_map _;have Ir:(dv aq).length=aq.length:=List.length_map _;refine go ?_;refine ai [pI y.1] (jy (Bw hy)) ?_;refine go ?_
   by_cases u:dn=false/\k<y.1
   ·obtain⟨rfl,u⟩:=u;rw[agq u] at hI;rw[show decide (y.1>k)=true from decide_eq_true u];refine go ?_;refine mg (n:=aq.length) (m:=1) (qs:=[pI k]) aX rfl rfl rfl rfl rfl rfl rfl rfl rfl rfl rfl rfl rfl (by unfold maxLen;omega) (by show(_+_)*8<=_;omega) ?_;refine go ?_;refine mg (n:=aq.length) (m:=1) (qs:=[pI v]) aX rfl rfl rfl rfl rfl rfl rfl rfl rfl rfl rfl rfl rfl (by unfold maxLen;omega) (by show(_+_)*8<=_;omega) ?_;refine go ?_;refine gW 8 [] ?_;refine ri [pI y.1] (jy (Bw hy)) ?_;refine bJ ?_;refine mg (n:=aq.length+1) (m:=1) (qs:=[pI y.1]) aX rfl rfl rfl rfl rfl rfl rfl rfl rfl rfl rfl rfl rfl (by unfold maxLen;omega) (by show(_+_)*8<=_;omega) ?_;refine go ?_;refine gW 8 [] ?_;refine ri [pI y.2] (jy (DZ hy)) ?_;refine bJ ?_;refine mg (n:=aq.length+1) (m:=1) (qs:=[pI y.2]) aX rfl rfl rfl rfl rfl rfl rfl rfl rfl rfl rfl rfl rfl (by unfold maxLen;omega) (by show(_+_)*8<=_;omega) ?_;refine go ?_;refine⟨(i+1,aq++[(k,v),y],true),⟨by simp only;omega,by simp at hT⊢;omega,by rw[hI,Jt];simp⟩,by simp only;omega,?_⟩;show eI _ _ ⟨[(9,_),(8,_),(7,.ptr 2 0),(6,.ptr 1 0),(3,.ptr 0 0),(2,M v),(1,M k)],[(2,[M 1,.bP 0 (aq++[(k,v),y]).length (bW (dp (aq++[(k,v),y]))),.bP 1 (aq++[(k,v),y]).length (bW (dv (aq++[(k,v),y])))]),(1,[M 0,.p (.sl true 0 []),.p (.sl true 0 [])]),(0,[M 1,ci (dp S),ci (dv S)])],[(0,⟨3,1,(aq++[(k,v),y]).length⟩),(1,⟨3,1,(aq++[(k,v),y]).length⟩)]⟩
    rw[show(aq++[(k,v),y]).length=aq.length+1+1 by simp,show bW (dp (aq++[(k,v),y]))=bW (dp aq)++[pI k]++[pI y.1] by simp[dp,bW],show bW (dv (aq++[(k,v),y]))=bW (dv aq)++[pI v]++[pI y.2] by simp[dv,bW]];exact zX
   ·have M9:oC S (k,v)=(aq++[y])++Bz dn (S.drop (i+1)) (k,v):=by
     rw[hI];cases dn with
     |false=>rw[agp (λ h=>u ⟨rfl,h⟩)];simp
     |true=>rw[Jt,Jt];simp
    have aW:(decide (y.1>k)&&!dn)=false:=by
     cases dn with
     |false=>rw[Bool.not_false,Bool.and_true,decide_eq_false_iff_not];exact λ h=>u ⟨rfl,h⟩
     |true=>simp
    generalize decide (y.1>k)=cc at aW⊢;cases cc<;>cases dn
    ·refine go ?_;refine gW 8 [] ?_;refine ri [pI y.1] (jy (Bw hy)) ?_;refine bJ ?_;refine mg (n:=aq.length) (m:=1) (qs:=[pI y.1]) aX rfl rfl rfl rfl rfl rfl rfl rfl rfl rfl rfl rfl rfl (by unfold maxLen;omega) (by show(_+_)*8<=_;omega) ?_;refine go ?_;refine gW 8 [] ?_;refine ri [pI y.2] (jy (DZ hy)) ?_;refine bJ ?_;refine mg (n:=aq.length) (m:=1) (qs:=[pI y.2]) aX rfl rfl rfl rfl rfl rfl rfl rfl rfl rfl rfl rfl rfl (by unfold maxLen;omega) (by show(_+_)*8<=_;omega) ?_;refine go ?_;refine⟨(i+1,aq++[y],false),⟨by simp only;omega,by simp at hT⊢;omega,M9⟩,by simp only;omega,?_⟩;show eI _ _ ⟨[(9,_),(8,_),(7,.ptr 2 0),(6,.ptr 1 0),(3,.ptr 0 0),(2,M v),(1,M k)],[(2,[M 1,.bP 0 (aq++[y]).length (bW (dp (aq++[y]))),.bP 1 (aq++[y]).length (bW (dv (aq++[y])))]),(1,[M 0,.p (.sl true 0 []),.p (.sl true 0 [])]),(0,[M 1,ci (dp S),ci (dv S)])],[(0,⟨3,1,(aq++[y]).length⟩),(1,⟨3,1,(aq++[y]).length⟩)]⟩;rw[show(aq++[y]).length=aq.length+1 by simp,show bW (dp (aq++[y]))=bW (dp aq)++[pI y.1] by simp[dp,bW],show bW (dv (aq++[y]))=bW (dv aq)++[pI y.2] by simp[dv,bW]];exact zX
    ·refine go ?_;refine gW 8 [] ?_;refine ri [pI y.1] (jy (Bw hy)) ?_;refine bJ ?_;refine mg (n:=aq.length) (m:=1) (qs:=[pI y.1]) aX rfl rfl rfl rfl rfl rfl rfl rfl rfl rfl rfl rfl rfl (by unfold maxLen;omega) (by show(_+_)*8<=_;omega) ?_;refine go ?_;refine gW 8 [] ?_;refine ri [pI y.2] (jy (DZ hy)) ?_;refine bJ ?_;refine mg (n:=aq.length) (m:=1) (qs:=[pI y.2]) aX rfl rfl rfl rfl rfl rfl rfl rfl rfl rfl rfl rfl rfl (by unfold maxLen;omega) (by show(_+_)*8<=_;omega) ?_;refine go ?_;refine⟨(i+1,aq++[y],true),⟨by simp only;omega,by simp at hT⊢;omega,M9⟩,by simp only;omega,?_⟩;show eI _ _ ⟨[(9,_),(8,_),(7,.ptr 2 0),(6,.ptr 1 0),(3,.ptr 0 0),(2,M v),(1,M k)],[(2,[M 1,.bP 0 (aq++[y]).length (bW (dp (aq++[y]))),.bP 1 (aq++[y]).length (bW (dv (aq++[y])))]),(1,[M 0,.p (.sl true 0 []),.p (.sl true 0 [])]),(0,[M 1,ci (dp S),ci (dv S)])],[(0,⟨3,1,(aq++[y]).length⟩),(1,⟨3,1,(aq++[y]).length⟩)]⟩;rw[show(aq++[y]).length=aq.length+1 by simp,show bW (dp (aq++[y]))=bW (dp aq)++[pI y.1] by simp[dp,bW],show bW (dv (aq++[y]))=bW (dv aq)++[pI y.2] by simp[dv,bW]];exact zX
    ·exact absurd aW (by decide)
    ·refine go ?_;refine gW 8 [] ?_;refine ri [pI y.1] (jy (Bw hy)) ?_;refine bJ ?_;refine mg (n:=aq.length) (m:=1) (qs:=[pI y.1]) aX rfl rfl rfl rfl rfl rfl rfl rfl rfl rfl rfl rfl rfl (by unfold maxLen;omega) (by show(_+_)*8<=_;omega) ?_;refine go ?_;refine gW 8 [] ?_;refine ri [pI y.2] (jy (DZ hy)) ?_;refine bJ ?_;refine mg (n:=aq.length) (m:=1) (qs:=[pI y.2]) aX rfl rfl rfl rfl rfl rfl rfl rfl rfl rfl rfl rfl rfl (by unfold maxLen;omega) (by show(_+_)*8<=_;omega) ?_;refine go ?_;refine⟨(i+1,aq++[y],true),⟨by simp only;omega,by simp at hT⊢;omega,M9⟩,by simp only;omega,?_⟩;show eI _ _ ⟨[(9,_),(8,_),(7,.ptr 2 0),(6,.ptr 1 0),(3,.ptr 0 0),(2,M v),(1,M k)],[(2,[M 1,.bP 0 (aq++[y]).length (bW (dp (aq++[y]))),.bP 1 (aq++[y]).length (bW (dv (aq++[y])))]),(1,[M 0,.p (.sl true 0 []),.p (.sl true 0 [])]),(0,[M 1,ci (dp S),ci (dv S)])],[(0,⟨3,1,(aq++[y]).length⟩),(1,⟨3,1,(aq++[y]).length⟩)]⟩;rw[show(aq++[y]).length=aq.length+1 by simp,show bW (dp (aq++[y]))=bW (dp aq)++[pI y.1] by simp[dp,bW],show bW (dv (aq++[y]))=bW (dv aq)++[pI y.2] by simp[dv,bW]];exact zX
  ·have bB:i=S.length:=by have:=of_decide_eq_false h1;omega
   subst bB;rw[List.drop_length] at hI;refine go ?_;exact⟨rfl,(aq,dn),⟨hT,hI⟩,zX⟩
 rintro bQ ⟨aq,dn⟩ ⟨hT,hI⟩ ip;refine zR (zM (iP ip ?_));clear ip;simp only at hT hI;have IA:=Bool.toNat_le dn;refine(show a8 _ _ _ _ (D1 S k v S.length aq dn) from ?_);unfold D1;refine go ?_;have Iq:(dp aq).length=aq.length:=List.length_map _;have Ir:(dv aq).length=aq.length:=List.length_map _;cases dn with
 |true=>rw[Jt,List.append_nil] at hI;refine go ?_;refine Av rfl ?_;rw[hI];show I.agg [_,.p (.sl _ aq.length _),.p (.sl _ aq.length _)]=I.agg [_,.p (.sl _ _ _),.p (.sl _ _ _)];rw[Iq,Ir]
 |false=>have adl:oC S (k,v)=aq++[(k,v)]:=hI;refine go ?_;refine mg (n:=aq.length) (m:=1) (qs:=[pI k]) aX rfl rfl rfl rfl rfl rfl rfl rfl rfl rfl rfl rfl rfl (by unfold maxLen;omega) (by show(_+_)*8<=_;omega) ?_;refine go ?_;refine mg (n:=aq.length) (m:=1) (qs:=[pI v]) aX rfl rfl rfl rfl rfl rfl rfl rfl rfl rfl rfl rfl rfl (by unfold maxLen;omega) (by show(_+_)*8<=_;omega) ?_;refine go ?_;refine Av rfl ?_;rw[adl];show I.agg [_,.p (.sl _ (aq.length+1) _),.p (.sl _ (aq.length+1) _)]=I.agg [_,.p (.sl _ _ _),.p (.sl _ _ _)];simp[dp,dv,bW]
theorem acj{S:cr}{i k:Nat}{y:Int×Int}(hy:S[i]?=some y)(hk:i=k):(S.take (i+1)).eraseIdx k=(S.take i).eraseIdx k:=by
 have Z:(S.take i).length=i:=by rw[List.length_take];have:=(List.getElem?_eq_some_iff.1 hy).1;omega
 rw[show(S.take i).eraseIdx k=S.take i from List.eraseIdx_of_length_le (by omega),Hh hy,List.eraseIdx_append_of_length_le (by omega),show k-(S.take i).length=0 by omega];simp
theorem aci{S:cr}{i k:Nat}{y:Int×Int}(hy:S[i]?=some y)(hk:i≠k):(S.take (i+1)).eraseIdx k=(S.take i).eraseIdx k++[y]:=by
 have Z:(S.take i).length=i:=by rw[List.length_take];have:=(List.getElem?_eq_some_iff.1 hy).1;omega
 rw[Hh hy];rcases Nat.lt_or_ge k i with h|h
 ·rw[List.eraseIdx_append_of_lt_length (by omega)]
 ·rw[List.eraseIdx_append_of_length_le (by omega),List.eraseIdx_of_length_le (show(S.take i).length<=k by omega),List.eraseIdx_of_length_le (by simp;omega)]
abbrev Pa(S:cr)(k:Nat)(i:Nat)(aq:cr):St:=⟨[(6,M i),(5,.ptr 2 0),(4,.ptr 1 0),(2,.ptr 0 0),(1,M k)],[(2,[M 1,.bP 0 aq.length (bW (dp aq)),.bP 1 aq.length (bW (dv aq))]),(1,[M 0,.p (.sl true 0 []),.p (.sl true 0 [])]),(0,[M 1,ci (dp S),ci (dv S)])],[(0,⟨3,1,aq.length⟩),(1,⟨3,1,aq.length⟩)]⟩
set_option maxHeartbeats 4000000 in
theorem akH(S:cr)(k:Nat)(Z:S.length<=1000000):bH prog 60 [pF S,M k] (pF (S.eraseIdx k)):=by
 have fZ:(dp S).length=S.length:=List.length_map _;have Je:(dv S).length=S.length:=List.length_map _;refine sP func60 ntmps60 λ w cl=>?_
 refine go ?_;refine iP (DY 2 1 0 3 1 rfl rfl rfl rfl rfl) ?_;refine iP (DY 2 2 1 3 1 rfl rfl rfl rfl rfl) ?_;refine d7 (λ p:Nat×cr=>p.1<=S.length/\p.2=(S.take p.1).eraseIdx k) (λ p=>Pa S k p.1 p.2) (λ p=>S.length-p.1) (0,[]) ⟨Nat.zero_le _,rfl⟩ (zX) ?_;rintro⟨i,aq⟩ ⟨hi,hT⟩;simp only at hi hT;have alI:aq.length<=i:=by rw[hT];refine Nat.le_trans (List.length_eraseIdx_le _ _) ?_;rw[List.length_take];omega
 refine(show a8 _ _ _ _ (Pa S k i aq) from ?_);unfold Pa;have Iq:(dp aq).length=aq.length:=List.length_map _;have Ir:(dv aq).length=aq.length:=List.length_map _;refine go ?_;refine gY (λ h1=>?_) (λ h1=>?_)<;>try rw[h1]
 ·have bB:=of_decide_eq_true h1;obtain⟨y,hy⟩:∃y,S[i]?=some y:=⟨S[i]'(by omega),List.getElem?_eq_getElem _⟩;refine go ?_
  by_cases u:i=k
  ·rw[show decide ((i:Int)=k)=true by rw[decide_eq_true_eq];omega];refine go ?_;exact⟨(i+1,aq),⟨by simp only;omega,by simp only;rw[hT,acj hy u]⟩,by simp only;omega,zX⟩
  ·rw[show decide ((i:Int)=k)=false by rw[decide_eq_false_iff_not];omega];refine go ?_;rw[show decide ((1:Int)=1)=true from rfl];refine go ?_;refine gW 8 [] ?_;refine ri [pI y.1] (jy (Bw hy)) ?_;refine bJ ?_;refine mg (n:=aq.length) (m:=1) (qs:=[pI y.1]) aX rfl rfl rfl rfl rfl rfl rfl rfl rfl rfl rfl rfl rfl (by unfold maxLen;omega) (by show(_+_)*8<=_;omega) ?_;refine go ?_;refine gW 8 [] ?_;refine ri [pI y.2] (jy (DZ hy)) ?_;refine bJ ?_;refine mg (n:=aq.length) (m:=1) (qs:=[pI y.2]) aX rfl rfl rfl rfl rfl rfl rfl rfl rfl rfl rfl rfl rfl (by unfold maxLen;omega) (by show(_+_)*8<=_;omega) ?_;refine go ?_;refine⟨(i+1,aq++[y]),⟨by simp only;omega,by simp only;rw[hT,aci hy u]⟩,by simp only;omega,?_⟩;show eI _ _ ⟨[(6,_),(5,.ptr 2 0),(4,.ptr 1 0),(2,.ptr 0 0),(1,M k)],[(2,[M 1,.bP 0 (aq++[y]).length (bW (dp (aq++[y]))),.bP 1 (aq++[y]).length (bW (dv (aq++[y])))]),(1,[M 0,.p (.sl true 0 []),.p (.sl true 0 [])]),(0,[M 1,ci (dp S),ci (dv S)])],[(0,⟨3,1,(aq++[y]).length⟩),(1,⟨3,1,(aq++[y]).length⟩)]⟩;rw[show(aq++[y]).length=aq.length+1 by simp,show bW (dp (aq++[y]))=bW (dp aq)++[pI y.1] by simp[dp,bW],show bW (dv (aq++[y]))=bW (dv aq)++[pI y.2] by simp[dv,bW]];exact zX
 ·have bB:=of_decide_eq_false h1;rw[List.take_of_length_le (by omega)] at hT;refine go ?_;refine Av rfl ?_;rw[<-hT];show I.agg [_,.p (.sl _ aq.length _),.p (.sl _ aq.length _)]=I.agg [_,.p (.sl _ _ _),.p (.sl _ _ _)];rw[Iq,Ir]
theorem abF(S:cr)(o:a9):(jf S o).1.length<=S.length+1:=by
 have h:=λ x=>(Gd x S).length_eq
 have u:=List.length_eraseIdx_le S (i4 S o.a);unfold jf
 repeat' split
 all_goals first|(rw[h];exact Nat.le_refl _)|(simp only;omega)
set_option maxHeartbeats 4000000 in
theorem Sk(S:cr)(o:a9)(Z:S.length<=1000000)(ho:o.kind=1\/o.kind=2\/o.kind=3):bH prog 23 [pF S,Sb o] (abu (jf S o)):=by
 have iC:=aaq S o.a Z;have bL:=ah1 o.kind ho;have hw:=akG S o.a o.b Z;have Va:=akH S (i4 S o.a) Z;have Je:(dv S).length=S.length:=List.length_map _;have qA:i4 S o.a<S.length->∃y,S[i4 S o.a]?=some y/\S.getD (i4 S o.a) (0,0)=y:=λ h=>⟨S[i4 S o.a],List.getElem?_eq_getElem h,by simp[List.getD_eq_getElem?_getD,h]⟩
 obtain⟨kd,ob,a,b⟩:=o;simp only at ho iC hw Va qA bL;unfold jf;simp only;generalize i4 S a=n at*;generalize hr:(if n<S.length then(n:Int) else-1)=r at iC;refine sP func23 ntmps23 λ w cl=>?_
 refine gA bL ?_;rw[show decide ((1:Int)=0)=false from rfl];refine go ?_;rw[show decide ((1:Int)=1)=true from rfl];refine go ?_;rw[show decide ((1:Int)=1)=true from rfl];refine gA iC ?_
 by_cases hn:n<S.length
 ·rw[if_pos hn] at hr;subst hr;obtain⟨y,hy,afN⟩:=qA hn;rw[show decide ((n:Int)>=0)=true by rw[decide_eq_true_eq];omega];rcases ho with rfl|rfl|rfl
  ·rw[if_pos rfl,if_pos hn,afN];refine go ?_;rw[show decide ((1:Int)=1)=true from rfl];refine go ?_;refine gD [2] ?_;refine ri [pI y.2] (jy (DZ hy)) ?_;refine bJ ?_;refine gf ?_
   rfl
  ·rw[if_neg (by omega),if_pos rfl,if_pos hn];refine go ?_;rw[show decide ((2:Int)=1)=false from rfl];refine go ?_;rw[show decide ((2:Int)=2)=true from rfl];refine gf ?_
   rfl
  ·rw[if_neg (by omega),if_neg (by omega),if_pos rfl,if_pos hn];refine go ?_;rw[show decide ((3:Int)=1)=false from rfl];refine go ?_;rw[show decide ((3:Int)=2)=false from rfl];refine go ?_;rw[show decide ((3:Int)=3)=true from rfl];refine gA Va ?_;refine hp ?_
   rfl
 ·rw[if_neg hn] at hr;subst hr;rw[show decide ((-1:Int)>=0)=false from rfl];rcases ho with rfl|rfl|rfl
  ·rw[if_pos rfl,if_neg hn];refine go ?_;rw[show decide ((1:Int)=1)=true from rfl];refine gf ?_
   rfl
  ·rw[if_neg (by omega),if_pos rfl,if_neg hn];refine go ?_;rw[show decide ((2:Int)=1)=false from rfl];refine go ?_;rw[show decide ((2:Int)=2)=true from rfl];refine gA hw ?_;refine hp ?_
   rfl
  ·rw[if_neg (by omega),if_neg (by omega),if_pos rfl,if_neg hn];refine go ?_;rw[show decide ((3:Int)=1)=false from rfl];refine go ?_;rw[show decide ((3:Int)=2)=false from rfl];refine go ?_;rw[show decide ((3:Int)=3)=true from rfl];refine gf ?_
   rfl
set_option maxHeartbeats 8000000 in
theorem SU(want:List (List a9))(turns:List Int)(ops many:Nat)(my:want.length<=3->(want.map List.length).sum<=9223372036854775807)(_:ops<=1000)(_:many<=1000):bH prog 9 [wj want turns,M ops,M many] (dB (Aq want turns ops many)):=by
 generalize Y:Aq want turns ops many=E;unfold Aq at Y;refine sP func9 ntmps9 λ w cl=>?_
 refine go ?_;generalize h1:decide ((want.length:Int)<1)=cc;cases cc
 ·have bB:=of_decide_eq_false h1;refine go ?_;generalize u:decide ((want.length:Int)>3)=cc;cases cc
  ·have cj:=of_decide_eq_false u;have T:=my (by omega);refine go ?_;generalize J:decide ((turns.length:Int)>many)=cc;cases cc
   ·have jh:=of_decide_eq_false J;rw[show decide (1<=want.length)=true by rw[decide_eq_true_eq];omega,show decide (want.length<=3)=true by rw[decide_eq_true_eq];omega,show decide (turns.length<=many)=true by rw[decide_eq_true_eq];omega,Bool.true_and,Bool.true_and,Bool.true_and] at Y;refine go ?_;refine d7 (λ i:Nat=>i<=want.length/\(want.take i).all (λ w=>w.all vH)=true) (λ i=>⟨[(8,M i),(7,M (((want.map List.length).take i).sum:Nat)),(3,.ptr 0 0),(1,M ops)],[(0,nN want turns)],[]⟩) (λ i=>want.length-i) 0 ⟨by omega,rfl⟩ (zX) ?_;rintro i ⟨hi,dH⟩;refine go ?_;refine gY (λ h4=>?_) (λ h4=>?_)<;>try rw[h4]
    ·have sA:(i:Int)<want.length:=of_decide_eq_true h4;obtain⟨w,sS⟩:=sy (l:=want) (i:=i) (by omega) sA;have yA:=sS;simp only[Int.toNat_natCast] at yA;have bY:=akf (l:=want.map List.length) (i:=i) (x:=w.length) (by rw[List.getElem?_map,yA];rfl);have kI:=akg (want.map List.length) (i+1);refine go ?_;refine ai [r7 w] (yG sS) ?_;refine go ?_;rw[show((((want.map List.length).take i).sum:Nat):Int)+w.length=((((want.map List.length).take (i+1)).sum:Nat):Int) by omega];refine d7 (λ k:Nat=>k<=w.length/\(w.take k).all vH=true) (λ k=>⟨[(9,M k),(8,M i),(7,M (((want.map List.length).take (i+1)).sum:Nat)),(3,.ptr 0 0),(1,M ops)],[(0,nN want turns)],[]⟩) (λ k=>w.length-k) 0 ⟨by omega,rfl⟩ (zX) ?_;rintro k ⟨hk,Nl⟩;refine go ?_;refine ai [r7 w] (yG sS) ?_;refine go ?_;refine gY (λ h6=>?_) (λ h6=>?_)<;>try rw[h6]
     ·have TC:=of_decide_eq_true h6;obtain⟨o,ho⟩:=sy (l:=w) (i:=k) (by omega) TC;have cY:=ho;simp only[Int.toNat_natCast] at cY;refine go ?_;refine ai [r7 w] (yG sS) ?_;refine go ?_;refine ai [pI o.kind,pI o.obj,pI o.a,pI o.b] (WG ho) ?_;refine go ?_;generalize k1:decide (o.kind<1)=cc;cases cc
      ·have rS:=of_decide_eq_false k1;refine go ?_;generalize k2:decide (o.kind>3)=cc;cases cc
       ·have xe:=of_decide_eq_false k2;refine go ?_;generalize k3:decide (o.obj=0)=cc;cases cc
        ·have Jk:=of_decide_eq_false k3;refine gf ?_;rw[<-Y,all_false yA (all_false cY (by simp[vH];omega))]
         rfl
        ·have Jk:=of_decide_eq_true k3;refine go ?_;generalize k4:decide (o.a<0)=cc;cases cc
         ·have Ge:=of_decide_eq_false k4;refine go ?_;generalize k5:decide (o.a>=65536)=cc;cases cc
          ·have Jl:=of_decide_eq_false k5;refine go ?_;exact⟨k+1,⟨by omega,Rj cY (by simp[vH];omega) Nl⟩,by omega,zX⟩
          ·have Jl:=of_decide_eq_true k5;refine gf ?_;rw[<-Y,all_false yA (all_false cY (by simp[vH];omega))]
           rfl
         ·have Ge:=of_decide_eq_true k4;refine gf ?_;rw[<-Y,all_false yA (all_false cY (by simp[vH];omega))]
          rfl
       ·have xe:=of_decide_eq_true k2;refine gf ?_;rw[<-Y,all_false yA (all_false cY (by simp[vH];omega))]
        rfl
      ·have rS:=of_decide_eq_true k1;refine gf ?_;rw[<-Y,all_false yA (all_false cY (by simp[vH];omega))]
       rfl
     ·have TC:=of_decide_eq_false h6;rw[List.take_of_length_le (by omega)] at Nl;refine go ?_;exact⟨i+1,⟨by omega,Rj yA Nl dH⟩,by omega,zX⟩
    ·have sA:¬(i:Int)<want.length:=of_decide_eq_false h4;rw[List.take_of_length_le (by omega)] at dH;refine gf ?_;rw[<-Y,dH,Bool.true_and,List.take_of_length_le (by rw[List.length_map];omega)]
     congr 1
     simp
   ·have jh:=of_decide_eq_true J;rw[show decide (turns.length<=many)=false by rw[decide_eq_false_iff_not];omega,Bool.and_false,Bool.false_and,Bool.false_and] at Y;refine gf ?_;rw[<-Y]
  ·have cj:=of_decide_eq_true u;rw[show decide (want.length<=3)=false by rw[decide_eq_false_iff_not];omega,Bool.and_false,Bool.false_and,Bool.false_and,Bool.false_and] at Y;refine gf ?_;rw[<-Y]
 ·have bB:=of_decide_eq_true h1;rw[show decide (1<=want.length)=false by rw[decide_eq_false_iff_not];omega,Bool.false_and,Bool.false_and,Bool.false_and,Bool.false_and] at Y;refine gf ?_;rw[<-Y]
theorem SV{want:List (List a9)}{turns:List Int}{ops many:Nat}(h:Aq want turns ops many=true)(Az:ops<=12){b:Int}(hb:xH b)(t7:∀w∈want,∀o∈w,o.b<9223372036854775808):Tq.dZ ⟨want,b⟩/\turns.length<=many/\∀w∈want,w.length<=ops:=by
 unfold Aq at h;simp only[Bool.and_eq_true,decide_eq_true_eq,List.all_eq_true] at h;obtain⟨⟨⟨⟨h1,u⟩,J⟩,h4⟩,h5⟩:=h;refine⟨⟨h1,u,hb,λ ws hw o ho=>?_,Nat.le_trans h5 Az⟩,J,λ w hw=>?_⟩
 ·have:=h4 ws hw o ho;unfold vH at this;simp only[Bool.and_eq_true,decide_eq_true_eq] at this;exact⟨by omega,this.1.1.2,⟨this.1.2,this.2⟩,t7 ws hw o ho⟩
 ·obtain⟨i,hi⟩:=List.getElem?_of_mem hw;exact Nat.le_trans (sU List.length hi) h5
theorem RI(k:Int):xH (gx k):=by
 unfold gx xH;split
 ·omega
 ·split
  ·omega
  ·split<;>omega
open Go.ChangeShapes Go.WideShapes Go.ChangeAt Go.RowKit Go.Deep
def i64B(n:Int):Prop:=-9223372036854775808<=n/\n<=9223372036854775807
section
variable{H:Type}{enc:TypeId×Value->H}{w:World}{base:Nat}{spare:Nat->Bool}{held:Bool}{v:Value}{r:Reach}{b0:Nat}
def a9.Fits(o:a9):Prop:=i64B o.kind/\i64B o.obj/\i64B o.a/\i64B o.b
theorem ai8(cs:List Value)(Z:cs.length=4)(h:Read enc prog w base spare held 62 cs):∃o:a9,o.Fits/\iz (n6 w) cs (J5 o):=by
 match cs,Z with
 |[c0,c1,c2,c3],_=>obtain⟨akM,e0,w0⟩:=Ke underlying3 (DJ (i:=0) (ft:=3) (aN:=0) (sz:=1) (by kernel_rfl) h);obtain⟨x1,e1,w1⟩:=Ke underlying3 (DJ (i:=1) (ft:=3) (aN:=1) (sz:=1) (by kernel_rfl) h);obtain⟨x2,e2,w2⟩:=Ke underlying3 (DJ (i:=2) (ft:=3) (aN:=2) (sz:=1) (by kernel_rfl) h);obtain⟨akN,e3,w3⟩:=Ke underlying3 (DJ (i:=3) (ft:=3) (aN:=3) (sz:=1) (by kernel_rfl) h);simp at e0 e1 e2 e3;subst e0 e1 e2 e3;exact⟨⟨akM,x1,x2,akN⟩,⟨w0,w1,w2,w3⟩,iz.int (iz.int (iz.int (iz.int (iz.nil _))))⟩
theorem ai9{v:Value}(h:Read enc prog w base spare held 41 [v]):∃l:List a9,(∀x∈l,x.Fits)/\l.length<=maxLen/\c5 (n6 w) v (r7 l)/\lF v=true:=
 PR (e:=62) (sz:=4) J5 a9.Fits (by decide) (λ _=>rfl) underlying41 (by kernel_rfl) (λ cs cx hr=>ai8 cs cx hr) h
end
theorem OZ{az:Type}(f:az->Pl):∀l:List az,l.map f=l.flatMap λ x=>[f x]
 |[]=>rfl
 |x::l=>by rw[List.map_cons,List.flatMap_cons,OZ f l];rfl
section
variable{H:Type}{enc:TypeId×Value->H}{w:World}{base:Nat}{spare:Nat->Bool}{held:Bool}{v:Value}{r:Reach}{b0:Nat}
theorem ajb{v:Value}(h:Read enc prog w base spare held 26 [v]):∃l:List (List a9),(∀ws∈l,∀o∈ws,o.Fits)/\l.length<=maxLen/\c5 (n6 w) v (.sl false l.length (l.map r7))/\lF v=true:=by
 obtain⟨l,h1,u,J,h4⟩:=PR (e:=41) (sz:=1) (λ x:List a9=>[r7 x]) (λ x=>∀o∈x,o.Fits) (by decide) (λ _=>rfl) underlying26 (by kernel_rfl) (λ cs cx hr=>by
  match cs,cx with
  |[c],_=>obtain⟨x,k1,k2,k3,k4⟩:=ai9 hr;exact⟨x,k1,iz.cons k3 k4 (iz.nil _)⟩) h
 refine⟨l,h1,u,?_,h4⟩;rw[OZ];exact J
theorem aja{v:Value}(h:Read enc prog w base spare held 27 [v]):∃l:List Int,(∀x∈l,0<=x/\x<=255)/\l.length<=maxLen/\c5 (n6 w) v (.sl false l.length (l.map p8))/\lF v=true:=by
 obtain⟨l,h1,u,J,h4⟩:=PR (e:=5) (sz:=1) (λ x:Int=>[p8 x]) (λ x=>0<=x/\x<=255) (by decide) (λ _=>rfl) underlying27 (by kernel_rfl) (λ cs cx hr=>by
  obtain⟨n,e,hn⟩:=Xw underlying5 hr;subst e;exact⟨n,hn,iz.int (iz.nil _)⟩) h
 refine⟨l,h1,u,?_,h4⟩;rw[OZ];exact J
theorem arg_play(hv:Value.okWide prog w r b0 29 v)(h:Read enc prog w base spare held 29 v.cells.toList):∃(want:List (List a9))(turns:List Int),((∀ws∈want,∀o∈ws,o.Fits)/\∀x∈turns,0<=x/\x<=255)/\bC (n6 w) v (wj want turns):=by
 obtain⟨⟨want,turns⟩,h1,u⟩:=aam (λ p:List (List a9)×List Int=>[(.sl false p.1.length (p.1.map r7):Pl),.sl false p.2.length (p.2.map p8)]) (λ p=>(∀ws∈p.1,∀o∈ws,o.Fits)/\∀x∈p.2,0<=x/\x<=255) underlying29 hv h λ cs Z hr=>by
  match cs,Z.trans (show prog.cellsOf 29=2 by kernel_rfl) with
  |[c0,c1],_=>obtain⟨l1,kZ,_,J,h4⟩:=ajb (v:=c0) (DJ (i:=0) (ft:=26) (aN:=0) (sz:=1) (by kernel_rfl) hr);obtain⟨l2,g1,_,g3,g4⟩:=aja (v:=c1) (DJ (i:=1) (ft:=27) (aN:=1) (sz:=1) (by kernel_rfl) hr);exact⟨(l1,l2),⟨kZ,g1⟩,iz.cons J h4 (iz.cons g3 g4 (iz.nil _))⟩
 exact⟨want,turns,h1,u⟩
theorem arg_u8{t:TypeId}(ht:prog.underlying t=some (.int .u8))(hv:Value.okWide prog w r b0 t v)(h:Read enc prog w base spare held t v.cells.toList):∃n:Int,(0<=n/\n<=255)/\bC (n6 w) v (dK .u8 n):=by obtain⟨n,rfl⟩:=okWide_int ht hv;obtain⟨m,e,hm⟩:=Xw ht h;cases e;exact⟨_,hm,.p (.raw _)⟩
theorem Y7{P:Program}{e:TypeId}:∀{l:List (DataW H)}{d:DataW H}{n:Nat},d∈l->n∈d.weights P e->n∈DataW.weightsAll P e l
 |x::l,d,n,h,hn=>by
  rw[DataW.weightsAll,List.mem_append];rw[List.mem_cons] at h;rcases h with rfl|h
  ·exact .inl hn
  ·exact .inr (Y7 h hn)
theorem want_sized{n:Nat}{y:DataW H×List MemPlace}{want:List (List a9)}{turns:List Int}(h:DataW.trod enc prog w 0 spare held n 29 v.cells.toList=some y)(hw:∀k∈y.1.weights prog 29,k<=reachBytes)(hr:bC (n6 w) v (wj want turns)):∀ws∈want,ws.length*32<=reachBytes:=by
 intro ws jH;obtain⟨i,hi⟩:=List.getElem?_of_mem jH;have dY:=(List.getElem?_eq_some_iff.1 hi).1;cases hr with
 |agg Z K=>
  rename_i vs
  match vs,Z with
  |[v0,v1],_=>
   obtain⟨y0,y1,n1,rfl,_,t0,_⟩:=trod_struct2 underlying29 h;have Jf:∀k∈y0.1.weights prog 26,k<=reachBytes:=λ k hk=>hw k (by
    simp only[DataW.weights,underlying29];rw[show∀fs:List TypeId,fs=[26,27]->DataW.weightsEach prog fs [y0.1,y1.1]=y0.1.weights prog 26++(y1.1.weights prog 27++[]) from λ fs e=>by subst e;rfl]
    ·rw[List.mem_append];exact .inl hk
    ·rfl)
   have aki:DataW.trod enc prog w 0 spare held n1 26 [v0]=some y0:=by
    have abT:prog.cellsOf 26=1:=by kernel_rfl
    have:=t0;simp only[abT] at this;exact this
   have ep:=K 0 v0 (Sc want) rfl rfl;cases ep with
   |p h0=>
    obtain⟨A,bG,rfl,_,_,_,_,cG⟩:=qa h0;rcases DataW.trod_slice underlying26 aki with⟨e,_⟩|⟨a,len,cp,elems,rest,n2,_,e,hy,_,_,_,cx,dO,_,_⟩
    ·simp only[List.cons.injEq,Value.slice.injEq,and_true] at e;omega
    ·simp only[List.cons.injEq,Value.slice.injEq,and_true] at e;obtain⟨rfl,rfl,rfl⟩:=e;rcases cG with cG|⟨b,o,hA,f,hf⟩
     ·have:=congrArg List.length cG;rw[List.length_map] at this;simp only[List.length_nil] at this;omega
     ·cases hA;obtain⟨_,F,_,G⟩:=hf i (r7 ws) (by rw[List.getElem?_map,hi];rfl);have abV:prog.cellsOf 41=1:=by kernel_rfl
      have u:=dO i dY;rw[abV] at u;have fI:w.cells? 0 ((⟨b,o,none⟩:Addr).add (i*1)) 1=some [f i]:=by
       unfold World.cells?;rw[if_pos (Nat.zero_le _),show List.range 1=[0] from rfl,List.mapM_cons,List.mapM_nil];have J:w.cell? (((⟨b,o,none⟩:Addr).add (i*1)).add 0)=some (f i):=by rw[qZ,qZ,Nat.mul_one,Nat.add_zero];exact F
       rw[J]
       rfl
      rw[fI] at u;obtain⟨ei,T1⟩:∃ei,elems[i]?=some ei:=⟨elems[i]'(by omega),List.getElem?_eq_getElem _⟩;rw[T1] at u;have t2:DataW.trod enc prog w 0 spare held n2 41 [f i]=some ei:=u;obtain⟨akY,ali,t6,_,_,_,_,_⟩:=qa G;rw[t6] at t2;rcases DataW.trod_slice underlying41 t2 with⟨e2,_⟩|⟨a2,amA,alm,Ml,PY,n3,_,e2,vz,_,_,_,ib,_,_,_⟩
      ·simp only[List.cons.injEq,Value.slice.injEq,and_true] at e2;rw[e2.2.1];exact Nat.zero_le _
      ·simp only[List.cons.injEq,Value.slice.injEq,and_true] at e2;obtain⟨_,e3,_⟩:=e2;have abU:prog.bytesOf 62=32:=by kernel_rfl
       have afF:(Ml.length+PY.length)*32∈ei.1.weights prog 41:=by rw[vz];simp only[DataW.weights,underlying41,List.length_map,abU];exact List.mem_cons_self
       have U9:(Ml.length+PY.length)*32<=reachBytes:=Jf _ (by
        rw[hy];simp only[DataW.weights,underlying26];rw[List.mem_cons,List.mem_append];exact .inr (.inl (Y7 (List.mem_map.2 ⟨ei,List.mem_of_getElem? T1,rfl⟩) afF)))
       have:ws.length*32<=(Ml.length+PY.length)*32:=Nat.mul_le_mul_right _ (by omega);omega
theorem sum_sized{want:List (List a9)}(h:∀ws∈want,ws.length*32<=reachBytes)(J:want.length<=3):(want.map List.length).sum<=9223372036854775807:=by
 have hb:∀ws∈want,ws.length<=4398046511104:=λ ws jH=>by
  have:=h ws jH;unfold reachBytes at this;omega
 have:(want.map List.length).sum<=want.length*4398046511104:=by
  clear h J;induction want with
  |nil=>exact Nat.le_refl _
  |cons x l ih=>
   have h1:=hb x (by simp);have u:=ih λ ws jH=>hb ws (by simp[jH])
   rw[List.map_cons,List.sum_cons,List.length_cons,Nat.succ_mul];omega
 omega
end
end Go.Proofs.YtkkldicehapklaaGreat
