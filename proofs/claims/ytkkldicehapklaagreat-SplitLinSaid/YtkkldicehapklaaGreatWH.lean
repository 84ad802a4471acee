/- Orders that explain, by the document: their walk. -/
import Derived.Test.YtkkldicehapklaaGreatWF
import Derived.Test.YtkkldicehapklaaGreatWG
import Derived.Test.YtkkldicehapklaaGreatPU
namespace Go.Proofs.YtkkldicehapklaaGreat
open Go.Proofs.Tryz
open Go.RowKit
set_option maxRecDepth 100000
theorem aaE{P:Program}{Γ:bX}{Q:Exit->St->Prop}{c:Code}{L:St}(x:Exit)(bu:St)(h:a8 P Γ c (λ ex bQ=>ex=x/\eI Γ bQ bu) L)(k:∀bQ,eI Γ bQ bu->Q x bQ):a8 P Γ c Q L:=
 zu h λ ex bQ hh=>by
  obtain⟨rfl,hg⟩:=hh;exact k bQ hg
theorem Po(a b:List cw):iM (a++b)=iM a++iM b:=by simp[iM]
theorem aa5{l:List cw}{c:Nat}:∀(i:Nat) q,(iM (l.take c))[i]?=some q->(iM l)[(0:Int).toNat*10+i]?=some q:=by
 intro i q h;have Z:iM l=iM (l.take c)++iM (l.drop c):=by rw[<-Po,List.take_append_drop]
 rw[show(0:Int).toNat*10+i=i by simp,Z,List.getElem?_append_left (List.getElem?_eq_some_iff.1 h).1];exact h
theorem aa6{l:List cw}{a:Int}{b:Nat}(sE:a.toNat=b)(ha:b<=l.length):∀(i:Nat) q,(iM (l.drop b))[i]?=some q->(iM l)[a.toNat*10+i]?=some q:=by
 intro i q h;rw[sE];have Z:iM l=iM (l.take b)++iM (l.drop b):=by rw[<-Po,List.take_append_drop]
 have h1:(iM (l.take b)).length=b*10:=by rw[BM,List.length_take];congr 1;omega
 rw[Z,List.getElem?_append_right (by omega),h1,show b*10+i-b*10=i by omega];exact h
def J1(k:Nat)(S:cr)(l:List cw)(i:Nat):Bool:=match l[i]? with
 |none=>false
 |some x=>l.all (λ y=>decide (x.first<=y.last))&&(decide ((jf S x.op).2.1=x.val)&&decide ((jf S x.op).2.2=x.is))&&r5 k (jf S x.op).1 (l.take i++l.drop (i+1))
theorem aic(k:Nat)(S:cr)(l:List cw)(h:l.length≠0):r5 (k+1) S l=(List.range l.length).any (J1 k S l):=by
 rw[r5,if_neg h]
 rfl
theorem aab{f:Nat->Bool}{n i:Nat}(hi:i<n)(h:f i=true):(List.range n).any f=true:=by rw[List.any_eq_true];exact⟨i,List.mem_range.2 hi,h⟩
theorem HE{f:Nat->Bool}{i:Nat}(h0:(List.range i).any f=false)(h:f i=false):(List.range (i+1)).any f=false:=by rw[List.range_succ,List.any_append,h0];simp[h]
theorem Z6{az:Type}{f:az->Bool}{l:List az}{j:Nat}{y:az}(h:l[j]?=some y):(l.take (j+1)).all f=((l.take j).all f&&f y):=by rw[List.take_add_one,h,List.all_append];simp
theorem aid(S:cr):bH prog 12 [pF S,rh []] (dB true):=by
 refine sP func12 ntmps12 λ w cl=>?_
 refine go ?_;rw[show decide ((([]:List cw).length:Int)=0)=true from rfl];refine gf ?_
 rfl
set_option maxHeartbeats 16000000 in
theorem WJ:∀(k:Nat)(S:cr)(l:List cw),l.length=k->(∀c∈l,c.op.kind=1\/c.op.kind=2\/c.op.kind=3)->S.length+k<=1000000->bH prog 12 [pF S,rh l] (dB (r5 k S l))
 |0,S,l,Z,_,_=>by
  obtain rfl:l=[]:=List.eq_nil_of_length_eq_zero Z;exact aid S
 |k+1,S,l,Z,hk,hb=>by
  have ih:=WJ k;have Y:=aic k S l (by omega);generalize r5 (k+1) S l=E at Y⊢;refine sP func12 ntmps12 λ w cl=>?_
  refine go ?_;rw[show decide ((l.length:Int)=0)=false by rw[decide_eq_false_iff_not];omega];refine go ?_;refine d7 (λ i:Nat=>i<=l.length/\(List.range i).any (J1 k S l)=false) (λ i=>⟨[(5,M i),(4,dB false),(2,.ptr 0 0),(1,rh l)],[(0,[M 1,ci (dp S),ci (dv S)])],[]⟩) (λ i=>l.length-i) 0 ⟨Nat.zero_le _,rfl⟩ (zX) ?_;rintro i ⟨hi,yf⟩;refine go ?_;refine gY (λ h1=>?_) (λ h1=>?_)<;>try rw[h1]
  ·have bB:=of_decide_eq_true h1;have dY:i<l.length:=by omega
   obtain⟨x,hx⟩:∃x,l[i]?=some x:=⟨l[i],List.getElem?_eq_getElem dY⟩;have pc:l[(i:Int).toNat]?=some x:=by simpa using hx
   have afK:=hk x (List.mem_of_getElem? hx);have hO:J1 k S l i=(l.all (λ y=>decide (x.first<=y.last))&&(decide ((jf S x.op).2.1=x.val)&&decide ((jf S x.op).2.2=x.is))&&r5 k (jf S x.op).1 (l.take i++l.drop (i+1))):=by unfold J1;rw[hx]
   refine go ?_;refine aaE (.exit 2) ⟨[(6,dB (l.all (λ y=>decide (x.first<=y.last)))),(5,M i),(4,dB false),(2,.ptr 0 0),(1,rh l)],[(0,[M 1,ci (dp S),ci (dv S)])],[]⟩ ?_ ?_
   ·refine d7 (λ j:Nat=>j<=l.length) (λ j=>⟨[(7,M j),(6,dB ((l.take j).all (λ y=>decide (x.first<=y.last)))),(5,M i),(4,dB false),(2,.ptr 0 0),(1,rh l)],[(0,[M 1,ci (dp S),ci (dv S)])],[]⟩) (λ j=>l.length-j) 0 (Nat.zero_le _) (zX) ?_;intro j hj;refine go ?_;refine gY (λ u=>?_) (λ u=>?_)<;>try rw[u]
    ·have cj:=of_decide_eq_true u;have nD:j<l.length:=by omega
     obtain⟨y,hy⟩:∃y,l[j]?=some y:=⟨l[j],List.getElem?_eq_getElem nD⟩;have afO:l[(j:Int).toNat]?=some y:=by simpa using hy
     have T:=Z6 (f:=λ y:cw=>decide (x.first<=y.last)) hy;generalize(l.take j).all (λ y=>decide (x.first<=y.last))=q at T⊢;refine go ?_;cases q
     ·refine gW 12 [] ?_;refine go ?_;rw[Bool.false_and] at T;refine⟨j+1,by omega,by omega,?_⟩;rw[T];exact zX
     ·refine gW 12 [] ?_;refine ri [pI y.au,pI y.op.kind,pI y.op.obj,pI y.op.a,pI y.op.b,pI y.val,pB y.is,pI y.first,pI y.last,pI y.aD] (uX afO) ?_;refine bJ ?_;refine ri [pI x.au,pI x.op.kind,pI x.op.obj,pI x.op.a,pI x.op.b,pI x.val,pB x.is,pI x.first,pI x.last,pI x.aD] (uX pc) ?_;refine qg ?_;rw[Bool.true_and] at T;refine⟨j+1,by omega,by omega,?_⟩;rw[T];exact zX
    ·have cj:=of_decide_eq_false u;refine go ?_;refine⟨rfl,?_⟩;rw[List.take_of_length_le (by omega)];exact zX
   intro bQ ip;refine zR (zM (iP ip ?_));clear ip;generalize l.all (λ y=>decide (x.first<=y.last))=q1 at hO;have ny:=Sk S x.op (by omega) afK;have tW:=abF S x.op;generalize jf S x.op=r at hO ny tW;obtain⟨ws,va,De⟩:=r;simp only at hO tW;refine go ?_;refine gW 14 [] ?_;refine ri [pI x.au,pI x.op.kind,pI x.op.obj,pI x.op.a,pI x.op.b,pI x.val,pB x.is,pI x.first,pI x.last,pI x.aD] (uX pc) ?_;refine gQ ny ?_;refine go ?_;cases q1
   ·rw[Bool.false_and,Bool.false_and] at hO;refine go ?_;exact⟨i+1,⟨by omega,HE yf hO⟩,by omega,zX⟩
   ·refine go ?_;refine ai [pI x.au,pI x.op.kind,pI x.op.obj,pI x.op.a,pI x.op.b,pI x.val,pB x.is,pI x.first,pI x.last,pI x.aD] (uX pc) ?_;refine go ?_
    by_cases hv:va=x.val
    ·rw[show decide (va=x.val)=true by rw[decide_eq_true_eq];exact hv];refine go ?_;refine ai [pI x.au,pI x.op.kind,pI x.op.obj,pI x.op.a,pI x.op.b,pI x.val,pB x.is,pI x.first,pI x.last,pI x.aD] (uX pc) ?_;refine go ?_;refine(show CK (!(De==x.is)) _ _ from ?_)
     by_cases Jd:De=x.is
     ·rw[show(De==x.is)=true by rw[beq_iff_eq];exact Jd];rw[show decide (va=x.val)=true by rw[decide_eq_true_eq];exact hv,show decide (De=x.is)=true by rw[decide_eq_true_eq];exact Jd,Bool.true_and,Bool.true_and,Bool.true_and] at hO;have rM:(l.take i++l.drop (i+1)).length=k:=by rw[List.length_append,List.length_take,List.length_drop];omega
      have C4:∀c∈l.take i++l.drop (i+1),c.op.kind=1\/c.op.kind=2\/c.op.kind=3:=λ c F=>by
       rw[List.mem_append] at F;rcases F with F|F
       ·exact hk c (List.mem_of_mem_take F)
       ·exact hk c (List.mem_of_mem_drop F)
      have Fw:=ih ws (l.take i++l.drop (i+1)) rM C4 (by omega);have TW:=Po (l.take i) (l.drop (i+1));generalize l.take i++l.drop (i+1)=rest at hO rM C4 Fw TW;generalize r5 k ws rest=res at hO Fw;refine go ?_;refine gW 9 [] ?_;refine fL (Kw aX i (iM (l.take i)) rfl rfl rfl rfl rfl rfl rfl (by omega) (by omega) (by omega) (by omega) (by rw[BM,List.length_take];show _=i*10;congr 1;omega) aa5) rfl rfl ?_;refine bJ ?_;refine PO (cO:=0) (m:=i) (ps:=[]) (qs:=iM (l.take i)) aX 0 rfl rfl rfl rfl rfl rfl rfl rfl rfl rfl rfl rfl rfl (by rw[BM,List.length_take];show _=i*10;congr 1;omega) (by unfold maxLen;omega) (by show(_+_)*80<=_;omega) ?_;refine bJ ?_;refine fL (Kw aX (l.length-(i+1)) (iM (l.drop (i+1))) rfl rfl rfl rfl rfl rfl rfl (by omega) (by omega) (by omega) (by omega) (by rw[BM,List.length_drop]) (aa6 (by omega) (by omega))) rfl rfl ?_;refine bJ ?_;refine mg (m:=l.length-(i+1)) (qs:=iM (l.drop (i+1))) aX rfl rfl rfl rfl rfl rfl rfl rfl rfl rfl rfl rfl (by rw[BM,List.length_drop]) (by unfold maxLen;omega) (by show(_+_)*80<=_;omega) ?_;rw[List.nil_append,<-TW,show 0+i+(l.length-(i+1))=rest.length by omega];refine gA Fw ?_;cases res
      ·refine go ?_;exact⟨i+1,⟨by omega,HE yf hO⟩,by omega,zX⟩
      ·rw[aab dY hO] at Y;subst Y;refine gf ?_
       rfl
     ·rw[show(De==x.is)=false by rw[beq_eq_false_iff_ne];exact Jd];rw[show decide (De=x.is)=false by rw[decide_eq_false_iff_not];exact Jd,Bool.and_false,Bool.and_false,Bool.false_and] at hO;refine go ?_;exact⟨i+1,⟨by omega,HE yf hO⟩,by omega,zX⟩
    ·rw[show decide (va=x.val)=false by rw[decide_eq_false_iff_not];exact hv];rw[show decide (va=x.val)=false by rw[decide_eq_false_iff_not];exact hv,Bool.false_and,Bool.and_false,Bool.false_and] at hO;refine go ?_;exact⟨i+1,⟨by omega,HE yf hO⟩,by omega,zX⟩
  ·have bB:=of_decide_eq_false h1;rw[show l.length=i by omega,yf] at Y;subst Y;refine gf ?_
   rfl
set_option maxHeartbeats 16000000 in
theorem lin_w(want:List (List a9))(turns:List Int)(k:Int)(hk:0<=k/\k<=255)(F3:∀x∈turns,0<=x/\x<256)(F0:want.length<=3->(want.map List.length).sum<=9223372036854775807)(t7:∀w∈want,∀o∈w,o.b<9223372036854775808):bH prog 4 [wj want turns,dK .u8 k] (dB true):=by
 have hF:=SU want turns 7 300 F0 (by omega) (by omega);refine sP func4 ntmps4 λ w cl=>?_
 refine gA Yj ?_;refine cA hF ?_;refine go ?_;cases NM:Aq want turns 7 300
 ·refine gf ?_
  rfl
 ·obtain⟨G,ht,Ol⟩:=SV NM (by omega) (RI k) t7;have h1:=G.w1;have J:=G.w3;have nt:=Tq.iX G;simp only at h1 J nt;have Om:=QQ want.length k (by omega) hk;have hP:=PC (nn:=16+gx k) (sl:=gx k) (by omega) (by omega) want turns h1 J ht F3 (λ w hw=>by have:=Ol w hw;omega);obtain⟨_,e2,e3,e4,_,lY,tT,_⟩:=Tq.Xd G ht;rw[show Tq.aO ⟨want,gx k⟩=bR want.length (16+gx k) (gx k) from rfl] at*;generalize bR want.length (16+gx k) (gx k)=l at*;generalize vo l want turns=t at*;have vn:=WJ t.calls.length [] t.calls rfl tT (by simp only[List.length_nil];omega);rw[lY] at vn;obtain⟨m,step,ar,calls,full,cD,bad⟩:=t;simp only at e2 e3 vn;subst e2;subst e3;refine go ?_;refine dW 6 [] ?_;refine gQ Om ?_;refine go ?_;refine cI hP ?_;rintro d bs ⟨rfl,rfl⟩;refine go ?_;cases cD
  all_goals
   refine dQ [] ?_;refine gQ Wh ?_;refine cQ vn ?_;refine bJ ?_;refine gf ?_
   rfl
end Go.Proofs.YtkkldicehapklaaGreat
