/- Contents of maps, as rows of pairs. -/
import Derived.Test.YtkkldicehapklaaGreatPA
import Derived.Test.YtkkldicehapklaaGreatPT
namespace Go.Proofs.YtkkldicehapklaaGreat
set_option maxRecDepth 100000
abbrev cr:=List (Int×Int)
def uT(S:cr):Prop:=S.Pairwise λ x y=>x.1<y.1
def i4(S:cr)(a:Int):Nat:=S.findIdx λ y=>decide (y.1=a)
def oC:cr->Int×Int->cr
 |[],x=>[x]
 |y::S,x=>if x.1<y.1 then x::y::S else y::oC S x
def jf(S:cr)(op:a9):cr×Int×Bool:=
 if op.kind=1 then(if i4 S op.a<S.length then(S,(S.getD (i4 S op.a) (0,0)).2,true) else(S,0,false))
 else if op.kind=2 then(if i4 S op.a<S.length then(S,0,false) else(oC S (op.a,op.b),0,true))
 else if op.kind=3 then(if i4 S op.a<S.length then(S.eraseIdx (i4 S op.a),0,true) else(S,0,false))
 else(S,0,false)
theorem Gd(x:Int×Int):∀S:cr,(oC S x).Perm (x::S)
 |[]=>.refl _
 |y::S=>by
  rw[oC];split
  ·exact .refl _
  ·exact(List.Perm.cons _ (Gd x S)).trans (List.Perm.swap _ _ _)
theorem Vo{x:Int×Int}:∀{S:cr},uT S->(∀y∈S,y.1≠x.1)->uT (oC S x)
 |[],_,_=>List.pairwise_singleton _ _
 |y::S,h,hn=>by
  have h1:=List.pairwise_cons.1 h;rw[oC];split
  ·rename_i aY;refine List.pairwise_cons.2 ⟨λ z hz=>?_,h⟩;rcases List.mem_cons.1 hz with rfl|hz
   ·exact aY
   ·have:=h1.1 z hz;omega
  ·rename_i aY;refine List.pairwise_cons.2 ⟨λ z hz=>?_,Vo h1.2 λ z hz=>hn z (by simp[hz])⟩;rcases List.mem_cons.1 ((Gd x S).mem_iff.1 hz) with rfl|hz
   ·have:=hn y (by simp);omega
   ·exact h1.1 z hz
theorem S4{a v:Int}:∀{S:cr},uT S->(a,v)∈S->∃X bK,S=X++(a,v)::bK/\i4 S a=X.length
 |[],_,h=>by cases h
 |y::S,h,hm=>by
  have h1:=List.pairwise_cons.1 h;unfold i4;rw[List.findIdx_cons]
  by_cases hy:y.1=a
  ·rcases List.mem_cons.1 hm with e|hm
   ·exact⟨[],S,by rw[e];rfl,by simp[hy]⟩
   ·have:=h1.1 _ hm;simp only at this;omega
  ·rcases List.mem_cons.1 hm with e|hm
   ·exact absurd (by rw[<-e]) hy
   ·obtain⟨X,bK,e1,e2⟩:=S4 h1.2 hm;unfold i4 at e2;exact⟨y::X,bK,by rw[e1];rfl,by simp[hy,e2]⟩
theorem acI{a:Int}{S:cr}(h:∀v,(a,v)∉S):¬i4 S a<S.length:=by intro aY;have h1:=List.findIdx_getElem (w:=aY);have u:(S[i4 S a]'aY).1=a:=of_decide_eq_true h1;have J:S[i4 S a]'aY∈S:=List.getElem_mem aY;generalize S[i4 S a]'aY=y at u J;exact h y.2 (by rw[<-u];exact J)
def qP(rows:cr):cr:=(rows.filter λ r=>decide (r.1%2=1)).map λ r=>(xg r.1,r.2)
def vH(o:a9):Bool:=decide (1<=o.kind)&&decide (o.kind<=3)&&decide (o.obj=0)&&decide (0<=o.a)&&decide (o.a<65536)
def Aq(want:List (List a9))(turns:List Int)(ops many:Nat):Bool:=decide (1<=want.length)&&decide (want.length<=3)&&decide (turns.length<=many)&&want.all (λ w=>w.all vH)&&decide ((want.map List.length).sum<=ops)
def uV:cw:=⟨0,⟨0,0,0,0⟩,0,false,0,0,0⟩
def j8(l:List cw)(dn:List Bool):Nat->Int
 |0=>-1
 |i+1=>if dn.getD i true=false/\(j8 l dn i<0\/(l.getD i uV).aD<(l.getD (j8 l dn i).toNat uV).aD) then(i:Int) else j8 l dn i
def qt(len:Nat)(d5:Nat->Nat):Nat->List Bool
 |0=>List.replicate len false
 |n+1=>(qt len d5 n).set (d5 n) true
theorem Md(len:Nat)(d5:Nat->Nat):∀n,(qt len d5 n).length=len
 |0=>List.length_replicate
 |n+1=>by rw[qt,List.length_set,Md len d5 n]
theorem RF(l:List cw)(dn:List Bool):∀i,-1<=j8 l dn i/\j8 l dn i<i
 |0=>by rw[j8];omega
 |i+1=>by
  have:=RF l dn i;rw[j8];split<;>omega
structure KT(l:List cw)(d5:Nat->Nat)(C:Nat->cr):Prop where
 aaR:∀n,n<l.length->j8 l (qt l.length d5 n) l.length=(d5 n:Int)
 lt:∀n,n<l.length->d5 n<l.length
 at_:∀n x,n<l.length->l[d5 n]?=some x->(x.op.kind=1\/x.op.kind=2\/x.op.kind=3)/\x.first<=x.aD/\x.aD<=x.last/\jf (C n) x.op=(C (n+1),x.val,x.is)
def r5:Nat->cr->List cw->Bool
 |0,_,l=>decide (l.length=0)
 |k+1,S,l=>if l.length=0 then true else(List.range l.length).any λ i=>match l[i]? with
  |none=>false
  |some x=>l.all (λ y=>decide (x.first<=y.last))&&(decide ((jf S x.op).2.1=x.val)&&decide ((jf S x.op).2.2=x.is))&&r5 k (jf S x.op).1 (l.take i++l.drop (i+1))
def KW:cr->List cw->Prop
 |_,[]=>True
 |S,c::cs=>(jf S c.op).2=(c.val,c.is)/\KW (jf S c.op).1 cs
theorem SQ:∀(cs:List cw)(C:Nat->cr),(∀n c,cs[n]?=some c->jf (C n) c.op=(C (n+1),c.val,c.is))->KW (C 0) cs
 |[],_,_=>trivial
 |c::cs,C,h=>by
  have h0:=h 0 c rfl;refine⟨by rw[h0],?_⟩;rw[h0];exact SQ cs (λ n=>C (n+1)) λ n x hx=>h (n+1) x (by simpa using hx)
theorem WK:∀(k:Nat)(S:cr)(cs l:List cw),l.length<=k->KW S cs->(cs.Pairwise λ a b=>a.aD<b.aD)->(∀c∈cs,c.first<=c.aD/\c.aD<=c.last)->l.Perm cs->r5 k S l=true
 |0,S,cs,l,Z,_,_,_,_=>by simp only[r5];exact decide_eq_true (by omega)
 |k+1,S,[],l,Z,_,_,_,G=>by
  have:l=[]:=G.eq_nil;subst this
  rfl
 |k+1,S,c::cs,l,Z,⟨K,hx⟩,T,F,G=>by
  obtain⟨i,hi⟩:=List.getElem?_of_mem (G.mem_iff.2 List.mem_cons_self);have dY:=(List.getElem?_eq_some_iff.1 hi).1;rw[r5,if_neg (by omega),List.any_eq_true];refine⟨i,List.mem_range.2 dY,?_⟩;rw[hi];simp only[Bool.and_eq_true,decide_eq_true_eq,List.all_eq_true];have vq:l=l.take i++c::l.drop (i+1):=by have e1:l[i]=c:=(List.getElem?_eq_some_iff.1 hi).2;rw[<-e1,<-List.drop_eq_getElem_cons dY,List.take_append_drop]
  have sO:(l.take i++l.drop (i+1)).Perm cs:=by have J:(c::(l.take i++l.drop (i+1))).Perm (c::cs):=(List.perm_middle.symm.trans (by rw[<-vq])).trans G;exact J.cons_inv
  rw[List.pairwise_cons] at T;have o4:=F c List.mem_cons_self;refine⟨⟨λ y hy=>?_,?_⟩,?_⟩
  ·have vz:=G.mem_iff.1 hy;rcases List.mem_cons.1 vz with rfl|vz
   ·omega
   ·have:=T.1 y vz;have:=F y (List.mem_cons_of_mem _ vz);omega
  ·rw[K];exact⟨rfl,rfl⟩
  ·refine WK k _ cs _ ?_ hx T.2 (λ e he=>F e (List.mem_cons_of_mem _ he)) sO;have:=congrArg List.length vq;simp only[List.length_append,List.length_cons] at this⊢;omega
def pb:List Int->Int
 |[]=>0
 |b::bs=>b+2*pb bs
theorem US:∀(bs:List Int)(i:Nat),(∀b∈bs,b=0\/b=1)->pb bs/2^i%2=bs.getD i 0
 |[],i,_=>by simp[pb]
 |b::bs,0,h=>by
  have:=h b (by simp);simp only[pb,Int.pow_zero,Int.ediv_one,List.getD_cons_zero];omega
 |b::bs,i+1,h=>by
  have h1:=h b (by simp);have u:=US bs i λ x hx=>h x (by simp[hx])
  rw[List.getD_cons_succ,<-u,pb,show(2:Int)^(i+1)=2*2^i by rw[Int.pow_succ];omega,<-Int.ediv_ediv_of_nonneg (show(0:Int)<=2 by omega),show(b+2*pb bs)/2=pb bs by omega]
theorem UT:∀(n:Nat)(k:Int),0<=k->k<2^n->∃bs:List Int,bs.length=n/\(∀b∈bs,b=0\/b=1)/\k=pb bs
 |0,k,h0,h1=>⟨[],rfl,by simp,by simp at h1;simp[pb];omega⟩
 |n+1,k,h0,h1=>by
  rw[Int.pow_succ] at h1;obtain⟨bs,e1,e2,e3⟩:=UT n (k/2) (by omega) (by omega);refine⟨k%2::bs,by simp[e1],λ b hb=>?_,?_⟩
  ·rcases List.mem_cons.1 hb with rfl|hb
   ·omega
   ·exact e2 b hb
  ·simp only[pb];omega
theorem Kl(b0 b1 b2 b3 b4 b5 b6 b7 b8 b9 q8 q9 ra rb rc rd:Int)(h:∀b∈[b0,b1,b2,b3,b4,b5,b6,b7,b8,b9,q8,q9,ra,rb,rc,rd],b=0\/b=1):
 gF (pb [b0,b1,b2,b3,b4,b5,b6,b7,b8,b9,q8,q9,ra,rb,rc,rd])=pb [rd,rc,rb,ra,q9,q8,b9,b8,b7,b6,b5,b4,b3,b2,b1,b0]:=by
 unfold gF;have hb:=λ i:Nat=>US _ i h
 simp only[List.range,List.range.loop,List.map_cons,List.map_nil,List.sum_cons,List.sum_nil,hb];simp only[List.getD_cons_zero,List.getD_cons_succ,Nat.sub_zero,Nat.reduceSub,Int.reducePow,pb];omega
theorem LK{k:Int}(h0:0<=k)(h1:k<65536):∃b0 b1 b2 b3 b4 b5 b6 b7 b8 b9 q8 q9 ra rb rc rd:Int,(∀b∈[b0,b1,b2,b3,b4,b5,b6,b7,b8,b9,q8,q9,ra,rb,rc,rd],b=0\/b=1)/\k=pb [b0,b1,b2,b3,b4,b5,b6,b7,b8,b9,q8,q9,ra,rb,rc,rd]:=by
 obtain⟨bs,e1,e2,e3⟩:=UT 16 k h0 (by simpa using h1)
 match bs,e1 with
 |[b0,b1,b2,b3,b4,b5,b6,b7,b8,b9,q8,q9,ra,rb,rc,rd],_=>exact⟨b0,b1,b2,b3,b4,b5,b6,b7,b8,b9,q8,q9,ra,rb,rc,rd,e2,e3⟩
theorem ajD{k:Int}(h0:0<=k)(h1:k<65536):gF (gF k)=k:=by obtain⟨b0,b1,b2,b3,b4,b5,b6,b7,b8,b9,q8,q9,ra,rb,rc,rd,hb,e⟩:=LK h0 h1;rw[e,Kl _ _ _ _ _ _ _ _ _ _ _ _ _ _ _ _ hb,Kl];intro b hm;exact hb b (List.mem_reverse.1 (show b∈[b0,b1,b2,b3,b4,b5,b6,b7,b8,b9,q8,q9,ra,rb,rc,rd].reverse from hm))
theorem XV{k:Int}(h0:0<=k)(h1:k<65536):0<=gF k/\gF k<65536/\(k%2=1->32768<=gF k):=by
 obtain⟨b0,b1,b2,b3,b4,b5,b6,b7,b8,b9,q8,q9,ra,rb,rc,rd,hb,e⟩:=LK h0 h1;rw[e,Kl _ _ _ _ _ _ _ _ _ _ _ _ _ _ _ _ hb];have fO:=λ b hm=>hb b hm
 simp only[List.mem_cons,List.not_mem_nil,or_false,forall_eq_or_imp,forall_eq] at fO;obtain⟨h0,h1,u,J,h4,h5,h6,h7,h8,h9,EQ,MW,Az,Ty,Tz,TA⟩:=fO;have p:∀x:Int,x=0\/x=1->0<=x/\x<=1:=λ x h=>by omega
 replace h0:=p _ h0;replace h1:=p _ h1;replace u:=p _ u;replace J:=p _ J
 replace h4:=p _ h4;replace h5:=p _ h5;replace h6:=p _ h6;replace h7:=p _ h7
 replace h8:=p _ h8;replace h9:=p _ h9;replace EQ:=p _ EQ;replace MW:=p _ MW
 replace Az:=p _ Az;replace Ty:=p _ Ty;replace Tz:=p _ Tz;replace TA:=p _ TA
 simp only[pb];omega
theorem Vt{k:Int}(h0:0<=k)(h1:k<65536):xg (lH k)=k:=by have u:=XV h0 h1;unfold xg lH;rw[show(2*gF k+1)%131072/2=gF k by omega];exact ajD h0 h1
theorem Aj:fv 0=0/\fv 1=65536/\fv 2=32768/\fv 3=98304/\fv 4=16384/\fv 5=81920/\fv 6=49152/\fv 7=114688:=by decide
theorem WZ:eH 1=0/\eH 2=0/\eH 3=1/\eH 4=0/\eH 5=1/\eH 6=2/\eH 7=3:=by decide
theorem Cy{c:Int}(h0:0<=c)(h1:c<8):c=0\/c=1\/c=2\/c=3\/c=4\/c=5\/c=6\/c=7:=by omega
theorem H3{c:Int}(h0:0<=c)(h1:c<8):0<=fv c/\fv c<131072/\fv c%2=0:=by obtain⟨e0,e1,e2,e3,e4,e5,e6,e7⟩:=Aj;rcases Cy h0 h1 with rfl|rfl|rfl|rfl|rfl|rfl|rfl|rfl<;>omega
theorem So{c d:Int}(h0:0<=c)(h1:c<8)(g0:0<=d)(g1:d<8)(h:fv c=fv d):c=d:=by obtain⟨e0,e1,e2,e3,e4,e5,e6,e7⟩:=Aj;rcases Cy h0 h1 with rfl|rfl|rfl|rfl|rfl|rfl|rfl|rfl<;>rcases Cy g0 g1 with rfl|rfl|rfl|rfl|rfl|rfl|rfl|rfl<;>first|rfl|omega
theorem Ai{c:Int}(h0:0<c)(h1:c<8):fv (eH c)<fv c/\0<=eH c/\eH c<c:=by
 obtain⟨e0,e1,e2,e3,e4,e5,e6,e7⟩:=Aj;obtain⟨p1,p2,p3,p4,p5,p6,p7⟩:=WZ;rcases Cy (by omega) h1 with rfl|rfl|rfl|rfl|rfl|rfl|rfl|rfl
 ·omega
 ·rw[p1];omega
 ·rw[p2];omega
 ·rw[p3];omega
 ·rw[p4];omega
 ·rw[p5];omega
 ·rw[p6];omega
 ·rw[p7];omega
theorem ajE:gF 0=0/\gF 1=32768/\gF 2=16384/\gF 3=49152/\gF 4=8192/\gF 5=40960/\gF 6=24576/\gF 7=57344:=by decide
theorem ajB{k:Int}(h0:0<=k)(h1:k<65536):32768*(k%2)+16384*(k/2%2)+8192*(k/4%2)<=gF k:=by
 obtain⟨b0,b1,b2,b3,b4,b5,b6,b7,b8,b9,q8,q9,ra,rb,rc,rd,hb,e⟩:=LK h0 h1;have fO:=λ b hm=>hb b hm
 simp only[List.mem_cons,List.not_mem_nil,or_false,forall_eq_or_imp,forall_eq] at fO;obtain⟨g0,g1,g2,g3,g4,g5,g6,g7,g8,g9,Tf,Tg,Th,Ti,Tj,Tk⟩:=fO;rw[e,Kl _ _ _ _ _ _ _ _ _ _ _ _ _ _ _ _ hb];have p:∀x:Int,x=0\/x=1->0<=x/\x<=1:=λ x h=>by omega
 replace g0:=p _ g0;replace g1:=p _ g1;replace g2:=p _ g2;replace g3:=p _ g3
 replace g4:=p _ g4;replace g5:=p _ g5;replace g6:=p _ g6;replace g7:=p _ g7
 replace g8:=p _ g8;replace g9:=p _ g9;replace Tf:=p _ Tf;replace Tg:=p _ Tg
 replace Th:=p _ Th;replace Ti:=p _ Ti;replace Tj:=p _ Tj;replace Tk:=p _ Tk
 clear hb e;simp only[pb];generalize b3+2*(b4+2*(b5+2*(b6+2*(b7+2*(b8+2*(b9+2*(q8+2*(q9+2*(ra+2*(rb+2*(rc+2*(rd+2*0))))))))))))=c;have e0:(b0+2*(b1+2*(b2+2*c)))%2=b0:=by omega
 have e1:(b0+2*(b1+2*(b2+2*c)))/2%2=b1:=by omega
 have e2:(b0+2*(b1+2*(b2+2*c)))/4%2=b2:=by omega
 rw[e0,e1,e2];omega
theorem ajC{k:Int}(h0:0<=k)(h1:k<65536):gF (k%8)<=gF k/\gF (k%4)<=gF (k%8)/\gF (k%2)<=gF (k%4)/\0<=gF (k%2):=by
 have h:=ajB h0 h1;obtain⟨v0,v1,v2,v3,amP,amQ,amR,amS⟩:=ajE;rcases Cy (c:=k%8) (by omega) (by omega) with e|e|e|e|e|e|e|e
 ·rw[e,show k%4=0 by omega,show k%2=0 by omega];omega
 ·rw[e,show k%4=1 by omega,show k%2=1 by omega];omega
 ·rw[e,show k%4=2 by omega,show k%2=0 by omega];omega
 ·rw[e,show k%4=3 by omega,show k%2=1 by omega];omega
 ·rw[e,show k%4=0 by omega,show k%2=0 by omega];omega
 ·rw[e,show k%4=1 by omega,show k%2=1 by omega];omega
 ·rw[e,show k%4=2 by omega,show k%2=0 by omega];omega
 ·rw[e,show k%4=3 by omega,show k%2=1 by omega];omega
def xH(z:Int):Prop:=z=1\/z=2\/z=4\/z=8
theorem Sq{a z:Int}(h0:0<=a)(h1:a<65536)(hz:xH z):fv (a%z)<lH a/\0<=a%z/\a%z<z:=by
 obtain⟨r1,r2,r3,r4⟩:=ajC h0 h1;unfold fv lH;rcases hz with rfl|rfl|rfl|rfl
 ·rw[show a%1=0 by omega,show gF 0=0 by decide];omega
 ·omega
 ·omega
 ·omega
theorem PS{a:Int}(h0:0<=a)(h1:a<65536):0<lH a/\lH a<131072/\lH a%2=1:=by have:=XV h0 h1;unfold lH;omega
theorem Ka{z:Int}(h:xH z):qR z=true:=by rcases h with rfl|rfl|rfl|rfl<;>decide
end Go.Proofs.YtkkldicehapklaaGreat
namespace Go.Proofs.YtkkldicehapklaaGreat.Tq
set_option maxRecDepth 100000
def xG(op:a9)(E l9:List (Int×Int))(out:bd):Prop:=
 (∃v,(op.a,v)∈E/\((op.kind=1/\l9.Perm E/\out.val=v/\out.is=true)\/(op.kind=2/\l9.Perm E/\out.val=0/\out.is=false)\/(op.kind=3/\E.Perm ((op.a,v)::l9)/\out.val=0/\out.is=true)))
 \/((∀v,(op.a,v)∉E)/\((op.kind≠2/\l9.Perm E/\out.val=0/\out.is=false)\/(op.kind=2/\l9.Perm ((op.a,op.b)::E)/\out.val=0/\out.is=true)))
def v7:List (Int×Int)->List cw->List (Int×Int)->Prop
 |E,[],l9=>l9.Perm E
 |E,c::cs,l9=>∃E1,xG c.op E E1 ⟨c.val,c.is,0,0,[]⟩/\v7 E1 cs l9
theorem xG.left{op:a9}{E E0 E1:List (Int×Int)}{out:bd}(G:E.Perm E0)(h:xG op E E1 out):xG op E0 E1 out:=by
 rcases h with⟨v,h1,u⟩|⟨h1,u⟩
 ·refine .inl ⟨v,G.mem_iff.1 h1,?_⟩;rcases u with⟨k,e,J⟩|⟨k,e,J⟩|⟨k,e,J⟩
  ·exact .inl ⟨k,e.trans G,J⟩
  ·exact .inr (.inl ⟨k,e.trans G,J⟩)
  ·exact .inr (.inr ⟨k,G.symm.trans e,J⟩)
 ·refine .inr ⟨λ v hv=>h1 v (G.mem_iff.2 hv),?_⟩;rcases u with⟨k,e,J⟩|⟨k,e,J⟩
  ·exact .inl ⟨k,e.trans G,J⟩
  ·exact .inr ⟨k,e.trans (List.Perm.cons _ G),J⟩
theorem v7.snoc:∀{cs:List cw}{E E1 E2:List (Int×Int)}{c:cw},v7 E cs E1->xG c.op E1 E2 ⟨c.val,c.is,0,0,[]⟩->v7 E (cs++[c]) E2
 |[],_,_,E2,_,h,he=>⟨E2,he.left h,.refl _⟩
 |_::_,_,_,_,_,⟨l9,h1,u⟩,he=>⟨l9,h1,u.snoc he⟩
theorem ab1{op:a9}{S E E1:cr}{out:bd}(hk:op.kind=1\/op.kind=2\/op.kind=3)(hu:uT S)(G:S.Perm E)(h:xG op E E1 out):∃S1,jf S op=(S1,out.val,out.is)/\uT S1/\S1.Perm E1:=by
 rcases h with⟨v,h1,u⟩|⟨h1,u⟩
 ·obtain⟨X,bK,e1,e2⟩:=S4 hu (G.mem_iff.2 h1);have aY:i4 S op.a<S.length:=by rw[e2,e1];simp
  rcases u with⟨k,wT,e3,e4⟩|⟨k,wT,e3,e4⟩|⟨k,wT,e3,e4⟩
  ·refine⟨S,?_,hu,G.trans wT.symm⟩;unfold jf;rw[if_pos k,if_pos aY,e2,e3,e4,e1];simp
  ·refine⟨S,?_,hu,G.trans wT.symm⟩;unfold jf;rw[if_neg (by omega),if_pos k,if_pos aY,e3,e4]
  ·have he:S.eraseIdx (i4 S op.a)=X++bK:=by
    rw[e2,e1,List.eraseIdx_append_of_length_le (Nat.le_refl _),Nat.sub_self];rfl
   refine⟨X++bK,?_,?_,?_⟩
   ·unfold jf;rw[if_neg (by omega),if_neg (by omega),if_pos k,if_pos aY,e3,e4,he]
   ·rw[e1] at hu;exact List.Pairwise.sublist (by simp) hu
   ·have h5:((op.a,v)::(X++bK)).Perm ((op.a,v)::E1):=by
     rw[e1] at G;exact(List.perm_middle.symm.trans G).trans wT
    exact h5.cons_inv
 ·have cv:=acI (a:=op.a) (S:=S) λ v hv=>h1 v (G.mem_iff.1 hv)
  rcases u with⟨k,wT,e3,e4⟩|⟨k,wT,e3,e4⟩
  ·refine⟨S,?_,hu,G.trans wT.symm⟩;unfold jf;rw[e3,e4];rcases hk with e|e|e
   ·rw[if_pos e,if_neg cv]
   ·exact absurd e k
   ·rw[if_neg (by omega),if_neg (by omega),if_pos e,if_neg cv]
  ·refine⟨oC S (op.a,op.b),?_,Vo hu λ y hy e=>h1 y.2 (G.mem_iff.1 (by have e:y.1=op.a:=e;rw[<-e];exact hy)),(Gd _ S).trans ((List.Perm.cons _ G).trans wT.symm)⟩;unfold jf;rw[if_neg (by omega),if_pos k,if_neg cv,e3,e4]
theorem X2:∀{calls:List cw}{S E l9:cr},(∀c∈calls,c.op.kind=1\/c.op.kind=2\/c.op.kind=3)->uT S->S.Perm E->v7 E calls l9->∃C:Nat->cr,C 0=S/\(∀n c,calls[n]?=some c->jf (C n) c.op=(C (n+1),c.val,c.is))/\uT (C calls.length)/\(C calls.length).Perm l9
 |[],S,E,l9,_,hu,G,h=>⟨λ _=>S,rfl,λ n c F=>by simp at F,hu,G.trans (List.Perm.symm h)⟩
 |c::calls,S,E,l9,hk,hu,G,⟨E1,h1,u⟩=>by
  obtain⟨S1,d1,d2,d3⟩:=ab1 (hk c (by simp)) hu G h1;obtain⟨C,c1,c2,c3,c4⟩:=X2 (λ x hx=>hk x (by simp[hx])) d2 d3 u;refine⟨λ n=>match n with|0=>S|n+1=>C n,rfl,λ n x hx=>?_,c3,c4⟩;cases n with
  |zero=>
   have:c=x:=by simpa using hx
   subst this;show jf S c.op=(C 0,c.val,c.is);rw[d1,c1]
  |succ n=>exact c2 n x (by simpa using hx)
theorem v7.alike:∀{cs ds:List cw}{E l9:List (Int×Int)},v7 E cs l9->ds.length=cs.length->(∀(n:Nat)(c d:cw),cs[n]?=some c->ds[n]?=some d->d.op=c.op/\d.val=c.val/\d.is=c.is)->v7 E ds l9
 |[],[],_,_,h,_,_=>h
 |[],_::_,_,_,_,h,_=>by simp at h
 |_::_,[],_,_,_,h,_=>by simp at h
 |c::cs,d::ds,E,l9,⟨E1,h1,u⟩,Z,h=>by
  obtain⟨e1,e2,e3⟩:=h 0 c d rfl rfl;refine⟨E1,by rw[e1,e2,e3];exact h1,u.alike (by simpa using Z) λ n x y hx hy=>h (n+1) x y (by simpa using hx) (by simpa using hy)⟩
structure Hy where
 lg:List aJ
 ak:List Ak
def Hy.snoc(y:Hy)(r:aJ)(a:Ak):Hy:=⟨y.lg++[r],y.ak++[a]⟩
def Hy.m(y:Hy):Nat:=y.lg.length
def VA(y:Hy)(i v:Int):Prop:=0<=i/\i<y.m/\(y.lg.getD i.toNat ⟨0,false⟩).val=v
def AA(y:Hy)(i:Int)(a:Ak):Prop:=0<=i/\y.ak[i.toNat]?=some a
theorem VA.up{y:Hy}{i v:Int}(h:VA y i v)(r:aJ)(a:Ak):VA (y.snoc r a) i v:=by obtain⟨h1,u,J⟩:=h;unfold Hy.m at u;refine⟨h1,by show i<((y.lg++[r]).length:Nat);rw[List.length_append];simp;omega,?_⟩;show((y.lg++[r]).getD i.toNat ⟨0,false⟩).val=v;rw[List.getD_eq_getElem?_getD,List.getElem?_append_left (by omega),<-List.getD_eq_getElem?_getD];exact J
theorem AA.up{y:Hy}{i:Int}{b:Ak}(h:AA y i b)(r:aJ)(a:Ak):AA (y.snoc r a) i b:=by obtain⟨h1,u⟩:=h;refine⟨h1,?_⟩;show(y.ak++[a])[i.toNat]?=some b;rw[List.getElem?_append_left (List.getElem?_eq_some_iff.1 u).1];exact u
theorem VA.last(y:Hy)(r:aJ)(a:Ak):VA (y.snoc r a) (y.m:Int) r.val:=by
 refine⟨by omega,by show(y.m:Int)<((y.lg++[r]).length:Nat);rw[List.length_append];show(y.lg.length:Int)<_;simp;omega,?_⟩;show((y.lg++[r]).getD ((y.lg.length:Nat):Int).toNat ⟨0,false⟩).val=_;rw[Int.toNat_natCast,List.getD_eq_getElem?_getD,List.getElem?_append_right (Nat.le_refl _),Nat.sub_self]
 rfl
theorem AA.last{y:Hy}(h:y.ak.length=y.m)(r:aJ)(a:Ak):AA (y.snoc r a) (y.m:Int) a:=by
 refine⟨by omega,?_⟩;show(y.ak++[a])[((y.m:Nat):Int).toNat]?=_;rw[Int.toNat_natCast,<-h,List.getElem?_append_right (Nat.le_refl _),Nat.sub_self]
 rfl
section
variable(kd:Int)(y:Hy)
def jC:Fk->Prop
 |.put _ _=>kd=2
 |.fin a=>kd≠2/\0<=a/\a<y.m
 |_=>kd≠2
def tJ(o:bd):Prop:=0<=o.aD/\o.aD<y.m/\(o.err=0\/(o.err=8/\o.is=false))/\(kd=2->o.err=0->∃n,o.gone=[(n,0)]/\if o.is then∃x c,AA y o.aD (.cs x c (bt n)) else VA y (o.aD+2) (bt n))
def kY:Lk->Prop
 |.ga _ f=>jC kd y f
 |.gb _ f _ _ _ _=>jC kd y f
 |.ls _ f _ _ _ _ _ t=>jC kd y f/\0<=t/\t+2=y.m
 |.lo _ f _ _ _ cur _ t k=>jC kd y f/\0<=t/\t+3=y.m/\k=t+2/\VA y (t+2) (bt cur)
 |.cu _ f _ _ _ _ _=>jC kd y f
 |.rr _ f _ _ _ _ pt=>jC kd y f/\0<=pt/\pt<y.m
 |.gv _ _ pt=>kd≠2/\0<=pt/\pt<y.m
 |.sv a c=>0<=a/\a<y.m/\VA y (a+2) (bt c)
 |.cm _ _ _ _=>kd≠2
 |.cd _ _ _ _ a=>kd≠2/\0<=a/\a<y.m
 |.rx _ a=>kd≠2/\0<=a/\a<y.m
 |.ry a=>kd≠2/\0<=a/\a<y.m
 |.fi o=>tJ kd y o
 |_=>kd=2
def pY:Pc Lk->Prop
 |.g2 k _ _ _ a=>kY kd y k/\0<=a/\a+1=y.m
 |.fin o=>tJ kd y o
 |.at_ k|.t1 k|.t2 k _|.t3 k _ _|.t4 k _ _|.t5 k _ _ _|.g1 k _ _|.g3 k _ _ _|.bn k|.c k _|.v1 k _|.v2 k _ _|.v3 k _ _|.r1 k _|.r2 k _ _|.rs k _ _ _|.s1 k _ _ _ _|.w1 k _ _ _ _|.w2 k _ _ _ _ _|.w3 k _ _ _ _ _=>kY kd y k
def yW:Lk->Prop
 |.ls ..=>False
 |.lo ..=>False
 |_=>True
end
section
variable{kd:Int}{y:Hy}{r:aJ}{a:Ak}
theorem lm:(y.snoc r a).m=y.m+1:=by show(y.lg++[r]).length=_;rw[List.length_append];rfl
theorem jC.up{f:Fk}(hf:jC kd y f):jC kd (y.snoc r a) f:=by cases f<;>simp only[jC,lm] at hf⊢<;>omega
theorem tJ.up{o:bd}(h:tJ kd y o):tJ kd (y.snoc r a) o:=by
 obtain⟨h1,u,h8,J⟩:=h;refine⟨h1,by rw[lm];omega,h8,λ e1 e2=>?_⟩;obtain⟨n,h4,h5⟩:=J e1 e2;refine⟨n,h4,?_⟩;split
 ·rename_i h;rw[if_pos h] at h5;obtain⟨x,c,h6⟩:=h5;exact⟨x,c,h6.up _ _⟩
 ·rename_i h;rw[if_neg h] at h5;exact h5.up _ _
theorem kY.up{k:Lk}(T:yW k)(hk:kY kd y k):kY kd (y.snoc r a) k:=by
 cases k with
 |ga o f=>exact jC.up hk
 |gb o f a b D cur=>exact jC.up hk
 |ls o f a b D cur w t=>exact absurd T id
 |lo o f a b D cur w t k=>exact absurd T id
 |cu o f a b D cur w=>exact jC.up hk
 |rr o f a b D nx pt=>exact⟨hk.1.up,hk.2.1,by rw[lm];have:=hk.2.2;omega⟩
 |gv o cur pt=>simp only[kY,lm] at hk⊢;omega
 |sv b c=>exact⟨hk.1,by rw[lm];have:=hk.2.1;omega,hk.2.2.up _ _⟩
 |cm o D cur w=>exact hk
 |cd o D cur nx b=>simp only[kY,lm] at hk⊢;omega
 |rx n b=>simp only[kY,lm] at hk⊢;omega
 |ry b=>simp only[kY,lm] at hk⊢;omega
 |fi o=>exact tJ.up hk
 |_=>exact hk
theorem Zf{o:Or}{f:Fk}{D cur pt:Int}(hf:jC kd y f)(h0:0<=pt)(h1:pt<y.m):pY kd y (d9 o f D cur pt):=by
 cases f with
 |get=>exact⟨h0,h1,.inl rfl,λ h=>absurd h hf⟩
 |put v n=>
  unfold d9;simp only;split
  ·exact hf
  ·exact hf
 |del=>exact⟨h0,h1,.inl rfl,λ h=>absurd h hf⟩
 |fin a=>exact⟨hf.2.1,hf.2.2,.inl rfl,λ h=>absurd h hf.1⟩
theorem akQ{o:Or}{f:Fk}{D cur w pt:Int}(hf:jC kd y f)(h0:0<=pt)(h1:pt<y.m)(hv:VA y (pt+2) (bt cur)):pY kd y (eU o f D cur w pt):=by
 cases f with
 |get=>exact⟨hf,h0,by omega⟩
 |put v n=>
  unfold eU;simp only;split
  ·exact⟨h0,h1,.inl rfl,λ _ _=>⟨cur,rfl,hv⟩⟩
  ·exact⟨h0,h1,hv⟩
 |del=>exact hf
 |fin a=>exact⟨hf.2.1,hf.2.2,.inl rfl,λ h=>absurd h hf.1⟩
theorem QV{o:Or}{f:Fk}{a b D cur pt:Int}(hf:jC kd y f)(h0:0<=pt)(h1:pt<y.m):pY kd y (dG o f a b D cur pt):=by
 unfold dG;split
 ·exact Zf hf h0 h1
 ·exact hf
theorem QU{k:Lk}{s:ag}(hk:kY kd y k):pY kd y (dJ U k s).R:=by
 unfold dJ;split
 ·exact hk
 ·split
  ·exact hk
  ·split
   ·exact hk
   ·cases k<;>exact hk
theorem y9{R:Pc Lk}{s:ag}(G:pY kd y R):pY kd y (aG U R s).R:=by cases R<;>first|exact QU G|exact G
theorem Zg{k:Lk}(hk:kY kd y k):pY kd y (U.retired k):=by
 cases k with
 |rr o f a b D nx pt=>exact QV hk.1 hk.2.1 hk.2.2
 |ry a=>exact⟨hk.2.1,hk.2.2,.inl rfl,λ h=>absurd h hk.1⟩
 |_=>exact hk
theorem QW{k:Lk}{held:List Int}{s:ag}(hk:kY kd y k):∀(gs stay:List (Int×Int)),pY kd y (du U k held s gs stay).R
 |[],_=>y9 (Zg hk)
 |_::_,_=>hk
theorem Zh{k:Lk}{held:List Int}{s:ag}(hk:kY kd y k):∀(cs:List Ad),pY kd y (gG U k held s cs).R
 |[]=>QW hk _ _
 |_::_=>hk
theorem akV{S:Nat}{w:Int}{q:Q Lk}(aF:cJ q)(hf:q.R.gX)(hm:q.s.made=y.m)(adL:y.ak.length=y.m)(hq:pY kd y q.R):pY kd (y.snoc r (aS U w q.R)) (tell U S q r).R:=by
 obtain⟨R,s⟩:=q;have hm:s.made=y.m:=hm;cases R with
 |at_ k=>
  refine y9 ?_;show pY kd _ (cZ k s.made r);have hq:kY kd y k:=hq;cases k with
  |ls o f a b D cur w t=>
   simp only[cZ];split
   ·rename_i hv;refine⟨hq.1.up,hq.2.1,by rw[lm];have:=hq.2.2;omega,by have:=hq.2.2;omega,?_⟩;rw[<-hv,show t+2=(y.m:Int) from hq.2.2];exact VA.last y r _
   ·exact hq.1.up
  |lo o f a b D cur w t k=>
   simp only[cZ];obtain⟨g1,g2,g3,g4,g5⟩:=hq;split
   ·exact g1.up
   ·split
    ·exact QV g1.up g2 (by rw[lm];omega)
    ·split
     ·exact akQ g1.up g2 (by rw[lm];omega) (g5.up _ _)
     ·exact Zf g1.up (by omega) (by rw[lm];omega)
  |cu o f a b D cur w=>
   simp only[cZ];split
   ·exact⟨jC.up hq,by omega,by rw[lm];omega⟩
   ·exact jC.up hq
  |gv o cur pt=>exact⟨hq.2.1,by rw[lm];have:=hq.2.2;show pt<_;omega,.inl rfl,λ h=>absurd h hq.1⟩
  |p1 o v n D cur=>exact hq
  |p2 o v n D cur=>exact hq
  |p0 o v n D cur=>exact hq
  |cp o v n D cur=>
   simp only[cZ];split
   ·refine⟨by show(0:Int)<=(s.made:Int);omega,by rw[lm];show(s.made:Int)<_;omega,.inl rfl,λ _ _=>⟨n,rfl,?_⟩⟩;rw[if_pos (show(nL (s.made:Int) n).is=true from rfl)];refine⟨bM D,bt cur,?_⟩;show AA _ (s.made:Int) _;rw[hm];exact AA.last adL r _
   ·exact hq
  |cm o D cur w=>
   simp only[cZ];split
   ·exact⟨hq,by omega,by rw[lm];omega⟩
   ·exact hq
  |cd o D cur nx a=>
   simp only[cZ];split
   ·exact⟨hq.1,hq.2.1,by rw[lm];have:=hq.2.2;omega⟩
   ·exact⟨hq.1,hq.2.1,by rw[lm];have:=hq.2.2;omega⟩
  |ga o f=>exact absurd aF id
  |gb o f a b D cur=>exact absurd aF id
  |rr o f a b D nx pt=>exact absurd aF id
  |tk o v D cur=>exact absurd aF id
  |sv a c=>exact absurd aF id
  |rx n a=>exact absurd aF id
  |ry a=>exact absurd aF id
  |fi o=>exact absurd aF id
 |t1 k=>
  obtain⟨o,v,D,cur,rfl⟩:=aF;have hq:kd=2:=hq;unfold tell;simp only;split
  ·refine y9 ?_;exact⟨by show(0:Int)<=(s.made:Int);omega,by rw[lm];show(s.made:Int)<_;omega,.inr ⟨rfl,rfl⟩,λ _ h=>by cases h⟩
  ·exact hq
 |t2 k f=>obtain⟨o,v,D,cur,rfl⟩:=aF;exact hq
 |t3 k f lk=>
  obtain⟨o,v,D,cur,rfl⟩:=aF;unfold tell;simp only;split
  ·exact hq
  ·exact hq
 |t4 k n a=>obtain⟨o,v,D,cur,rfl⟩:=aF;exact hq
 |t5 k n a b=>obtain⟨o,v,D,cur,rfl⟩:=aF;exact y9 hq
 |g1 k i c=>
  have hk:kY kd y k:=hq;rcases aF with⟨o,f,rfl⟩|⟨o,f,a,D,cur,rfl,_⟩
  ·exact⟨jC.up hk,by omega,by rw[lm];omega⟩
  ·exact⟨jC.up hk,by omega,by rw[lm];omega⟩
 |g2 k i c v a=>
  obtain⟨hk,h1,u⟩:=hq;unfold tell;simp only;rcases aF with⟨o,f,rfl⟩|⟨o,f,bF,D,cur,rfl,_⟩
  ·have hk:jC kd y f:=hk;split
   ·exact y9 (QV hk.up h1 (by rw[lm];omega))
   ·exact hk.up
  ·have hk:jC kd y f:=hk;split
   ·exact y9 (show pY kd _ (.at_ (.ls o f bF i D cur v a)) from⟨hk.up,h1,by rw[lm];omega⟩)
   ·exact hk.up
 |g3 k i c er=>
  rcases aF with⟨o,f,rfl⟩|⟨o,f,a,D,cur,rfl,_⟩
  ·exact jC.up (show jC kd y f from hq)
  ·exact jC.up (show jC kd y f from hq)
 |bn k=>exact absurd hf id
 |c k i=>
  rcases aF.2.2.2 with⟨o,rfl⟩|⟨n,b,rfl⟩
  ·exact QU (k:=.fi o) (tJ.up (show tJ kd y o from hq))
  ·exact QU (k:=.rx n b) (kY.up (k:=.rx n b) trivial (show kY kd y (.rx n b) from hq))
 |v1 k n=>obtain⟨b,c,rfl⟩:=aF;exact kY.up (k:=.sv b c) trivial (show kY kd y (.sv b c) from hq)
 |v2 k n f=>obtain⟨b,c,rfl⟩:=aF;exact kY.up (k:=.sv b c) trivial (show kY kd y (.sv b c) from hq)
 |v3 k n f=>
  obtain⟨b,c,rfl⟩:=aF;have hq:=kY.up (r:=r) (a:=aS U w (.v3 (.sv b c) n f)) (k:=.sv b c) trivial (show kY kd y (.sv b c) from hq);unfold tell;simp only;split
  ·exact y9 (show pY kd _ (.bn (.fi (yJ b c))) from⟨hq.1,hq.2.1,.inl rfl,λ _ _=>⟨c,rfl,hq.2.2⟩⟩)
  ·exact hq
 |r1 k n=>
  have hk:yW k:=by rcases aF with⟨o,f,a,b,D,nx,pt,rfl⟩|⟨a,rfl⟩<;>trivial
  exact kY.up hk (show kY kd y k from hq)
 |r2 k n er=>
  have hk:yW k:=by rcases aF with⟨o,f,a,b,D,nx,pt,rfl⟩|⟨a,rfl⟩<;>trivial
  have hq:=kY.up (r:=r) (a:=aS U w (.r2 k n er)) hk (show kY kd y k from hq);unfold tell;simp only;split
  ·exact y9 (Zg hq)
  ·exact Zh hq _
 |rs k held c cs=>
  have hk:yW k:=by rcases aF with⟨o,f,a,b,D,nx,pt,rfl⟩|⟨a,rfl⟩<;>trivial
  exact Zh (kY.up hk (show kY kd y k from hq)) _
 |s1 k held g gs stay=>
  have hk:yW k:=by rcases aF with⟨o,f,a,b,D,nx,pt,rfl⟩|⟨a,rfl⟩<;>trivial
  have hq:=kY.up (r:=r) (a:=aS U w (.s1 k held g gs stay)) hk (show kY kd y k from hq);unfold tell;simp only;split
  ·exact QW hq _ _
  ·exact hq
 |w1 k held g gs stay=>
  have hk:yW k:=by rcases aF with⟨o,f,a,b,D,nx,pt,rfl⟩|⟨a,rfl⟩<;>trivial
  exact kY.up hk (show kY kd y k from hq)
 |w2 k held g gs stay f=>
  have hk:yW k:=by rcases aF with⟨o,f,a,b,D,nx,pt,rfl⟩|⟨a,rfl⟩<;>trivial
  exact kY.up hk (show kY kd y k from hq)
 |w3 k held g gs stay f=>
  have hk:yW k:=by rcases aF with⟨o,f,a,b,D,nx,pt,rfl⟩|⟨a,rfl⟩<;>trivial
  have hq:=kY.up (r:=r) (a:=aS U w (.w3 k held g gs stay f)) hk (show kY kd y k from hq);unfold tell;simp only;split
  ·exact QW hq _ _
  ·exact hq
 |fin o=>exact absurd hf id
end
def q7(S:Nat)(w:Int):Q Lk->List aJ->List Ak
 |_,[]=>[]
 |q,r::ap=>aS U w q.R::q7 S w (tell U S q r) ap
theorem Ru(S:Nat)(w:Int):∀(ap:List aJ)(q:Q Lk),(q7 S w q ap).length=ap.length
 |[],_=>rfl
 |_::ap,_=>congrArg (·+1) (Ru S w ap _)
theorem Rt(S:Nat)(w:Int):∀(ap:List aJ)(q:Q Lk)(k:Nat),k<ap.length->(q7 S w q ap)[k]?=some (aS U w (bZ U S q (ap.take k)).R)
 |[],_,k,h=>by simp at h
 |r::ap,q,0,_=>rfl
 |r::ap,q,k+1,h=>by
  show(q7 S w (tell U S q r) ap)[k]?=_;rw[Rt S w ap _ k (by simpa using h)]
  rfl
theorem Rv(S:Nat)(w:Int):∀(ap:List aJ)(q:Q Lk)(r:aJ),q7 S w q (ap++[r])=q7 S w q ap++[aS U w (bZ U S q ap).R]
 |[],_,_=>rfl
 |r0::ap,q,r=>by
  show _::q7 S w _ (ap++[r])=_::(q7 S w _ ap++_);rw[Rv S w ap]
  rfl
theorem P9(S:Nat)(q:Q Lk)(ap:List aJ)(r:aJ):bZ U S q (ap++[r])=tell U S (bZ U S q ap) r:=by simp[bZ,List.foldl_append]
theorem ajJ(S:Nat)(q:Q Lk)(ap R2:List aJ):bZ U S q (ap++R2)=bZ U S (bZ U S q ap) R2:=by simp[bZ,List.foldl_append]
structure LR(S:Nat)(q0:Q Lk)(ap:List aJ):Prop where
 go:∀k,k<ap.length->(bZ U S q0 (ap.take k)).R.gX
theorem LR.nil{S:Nat}{q0:Q Lk}:LR S q0 []:=⟨λ k h=>by simp at h⟩
theorem LR.snoc{S:Nat}{q0:Q Lk}{ap:List aJ}(h:LR S q0 ap)(hq:(bZ U S q0 ap).R.gX)(r:aJ):LR S q0 (ap++[r]):=by
 refine⟨λ k hk=>?_⟩;rw[List.length_append] at hk;simp only[List.length_cons,List.length_nil] at hk
 by_cases e:k<ap.length
 ·rw[List.take_append_of_le_length (by omega)];exact h.go k e
 ·have e2:k=ap.length:=by omega
  rw[e2,List.take_append_of_le_length (Nat.le_refl _),List.take_length];exact hq
theorem LR.init{S:Nat}{q0:Q Lk}{ap:List aJ}{r:aJ}(h:LR S q0 (ap++[r])):LR S q0 ap/\(bZ U S q0 ap).R.gX:=by
 refine⟨⟨λ k hk=>?_⟩,?_⟩
 ·have:=h.go k (by rw[List.length_append];omega);rw[List.take_append_of_le_length (by omega)] at this;exact this
 ·have:=h.go ap.length (by rw[List.length_append];simp);rw[List.take_append_of_le_length (Nat.le_refl _),List.take_length] at this;exact this
theorem LR.facts{S:Nat}{w:Int}{o:Or}{op:a9}{gone:List (Int×Int)}(hk:op.kind=1\/op.kind=2\/op.kind=3):∀(m:Nat){ap:List aJ},ap.length=m->LR S (d6 o op gone) ap->cJ (bZ U S (d6 o op gone) ap)/\(bZ U S (d6 o op gone) ap).s.made=ap.length/\pY op.kind ⟨ap,q7 S w (d6 o op gone) ap⟩ (bZ U S (d6 o op gone) ap).R
 |0,ap,hm,_=>by
  obtain rfl:ap=[]:=List.eq_nil_of_length_eq_zero hm;refine⟨zt o (i5 op) ⟨0,gone,0,0,0⟩,rfl,?_⟩;show jC op.kind _ (i5 op);unfold i5;rcases hk with h|h|h
  ·rw[if_pos h];show op.kind≠2;omega
  ·rw[if_neg (by omega),if_pos h];exact h
  ·rw[if_neg (by omega),if_neg (by omega)];show op.kind≠2;omega
 |m+1,ap,hm,h=>by
  obtain⟨zi,r,rfl⟩:∃zi r,ap=zi++[r]:=by
   rcases List.eq_nil_or_concat ap with rfl|⟨zi,r,e⟩
   ·simp at hm
   ·exact⟨zi,r,by rw[e,List.concat_eq_append]⟩
  obtain⟨h1,u⟩:=h.init;have mu:zi.length=m:=by simpa using hm
  obtain⟨g1,g2,g3⟩:=LR.facts (w:=w) hk m mu h1;rw[P9,Rv];refine⟨qT g1,by rw[BF u,g2,List.length_append];rfl,?_⟩;exact akV (y:=⟨zi,q7 S w (d6 o op gone) zi⟩) g1 u g2 (Ru _ _ _ _) g3
inductive Ph where
 |sz
 |ld (z:Int) (al:List Int) (b:Int)
 |li (z:Int) (aU:List Int) (d:Int) (aN:Nat)
 |cb (z:Int) (al:List Int) (b n:Int)
 |ad (z:Int) (o:bd)
 |cz (z:Int) (o:bd)
 |fin (o:bd)
structure Hq where
 ph:Ph
 q:Q Lk
 made:Nat
section
variable(l:aI)(S:Nat)(O:Int)(op:a9)
def eu(aU:List Int)(d:Int):Or:=match aU with
 |[]=>⟨lH op.a,d⟩
 |b::_=>⟨fv b,d⟩
def cB(aU:List Int)(d:Int):a9:=match aU with
 |[]=>⟨op.kind,bf l d 0,lH op.a,op.b⟩
 |b::_=>⟨2,bf l d 0,fv b,0⟩
def qp(h:Hq):bz:=match h.ph with
 |.sz=>⟨1,fq l op.obj 0,0,0⟩
 |.ld _ _ b=>⟨1,il l op.obj b,0,0⟩
 |.li ..=>(aS U O h.q.R).acc l
 |.cb _ _ b n=>⟨3,il l op.obj b,0,eh ⟨n,false,0⟩⟩
 |.ad ..=>⟨4,fq l op.obj 1,0,if op.kind=2 then 1 else-1⟩
 |.cz z _=>⟨3,fq l op.obj 0,z,2*z⟩
 |.fin _=>iB
def iO(z:Int)(al:List Int)(n:Int)(gone:List (Int×Int))(made:Nat):Hq:=⟨.li z al n made,d6 (eu op al n) (cB l op al n) gone,made⟩
def jR(o:bd)(aN:Nat):bd:={o with aD:=o.aD+aN}
def kw(z:Int)(aU:List Int)(aN:Nat)(q:Q Lk)(made:Nat)(o:bd):Hq:=match aU with
 |b::al=>if o.err≠0 then⟨.fin (jR o aN),q,made⟩ else⟨.cb z al b (o.gone.headD (0,0)).1,q,made⟩
 |[]=>if o.is=true/\(op.kind=2\/op.kind=3) then⟨.ad z (jR o aN),q,made⟩ else⟨.fin (jR o aN),q,made⟩
def rp:bd:=⟨0,false,1,-1,[]⟩
def ec(z:Int)(aU:List Int)(d:Int)(aN:Nat)(q:Q Lk)(made:Nat):Hq:=match q.R with
 |.fin o=>kw op z aU aN q made o
 |_=>⟨.li z aU d aN,q,made⟩
def eW(h:Hq)(r:aJ):Hq:=match h.ph with
 |.sz=>if r.val<1\/l.buckets<r.val\/qR r.val=false then⟨.fin rp,h.q,h.made+1⟩ else⟨.ld r.val [] (op.a%r.val),h.q,h.made+1⟩
 |.ld z al b=>if(av r.val).idx≠0 then iO l op z al (av r.val).idx h.q.s.gone (h.made+1) else if b=0 then⟨.fin rp,h.q,h.made+1⟩ else⟨.ld z (b::al) (eH b),h.q,h.made+1⟩
 |.li z aU d aN=>ec op z aU d aN (tell U S h.q r) (h.made+1)
 |.cb z al _ n=>iO l op z al n h.q.s.gone (h.made+1)
 |.ad z o=>if op.kind=2/\2*z<=r.val/\z<l.buckets then⟨.cz z o,h.q,h.made+1⟩ else⟨.fin o,h.q,h.made+1⟩
 |.cz _ o=>⟨.fin o,h.q,h.made+1⟩
 |.fin _=>h
def nR(h:Hq)(ap:List aJ):Hq:=ap.foldl (eW l S op) h
def wm(h:Hq):bz×bd×Bool:=match h.ph with
 |.fin o=>(iB,{o with gone:=h.q.s.gone},true)
 |_=>(qp l O op h,gl,false)
def sd(gone:List (Int×Int)):Hq:=⟨.sz,⟨.fin gl,⟨0,gone,0,0,0⟩⟩,0⟩
end
def JV(N:Nat)(h:Hq):Prop:=match h.ph with
 |.li _ _ d _=>1<=d/\d<=N
 |.cb _ _ _ n=>0<=n/\n<65536
 |_=>True
section
variable{l:aI}{S N:Nat}{O:Int}{op:a9}
def lM(l:aI)(S N:Nat)(op:a9)(h:Hq)(ap:List aJ):Prop:=∀k,k<=ap.length->JV N (nR l S op h (ap.take k))
theorem P7(h:Hq)(ap R2:List aJ):nR l S op h (ap++R2)=nR l S op (nR l S op h ap) R2:=by simp[nR,List.foldl_append]
theorem lM.app{h:Hq}{ap R2:List aJ}(g:lM l S N op h (ap++R2)):lM l S N op (nR l S op h ap) R2:=by intro k hk;have:=g (ap.length+k) (by rw[List.length_append];omega);rw[List.take_length_add_append,P7] at this;exact this
theorem lM.cons{h:Hq}{r:aJ}{ap:List aJ}(g:lM l S N op h (r::ap)):lM l S N op (eW l S op h r) ap:=lM.app (ap:=[r]) g
theorem lM.here{h:Hq}{ap:List aJ}(g:lM l S N op h ap):JV N h:=g 0 (Nat.zero_le _)
theorem ON{z:Int}{aU:List Int}{d:Int}{aN:Nat}:∀(ap:List aJ)(q:Q Lk)(made:Nat),(∀k,1<=k->k<=ap.length->∀o,(bZ U S q (ap.take k)).R≠.fin o)->nR l S op ⟨.li z aU d aN,q,made⟩ ap=⟨.li z aU d aN,bZ U S q ap,made+ap.length⟩
 |[],_,_,_=>rfl
 |r::ap,q,made,h=>by
  have h1:=h 1 (Nat.le_refl _) (by simp);have e:eW l S op ⟨.li z aU d aN,q,made⟩ r=⟨.li z aU d aN,tell U S q r,made+1⟩:=by
   show ec op z aU d aN (tell U S q r) (made+1)=_;unfold ec;have h1:∀o,(tell U S q r).R≠.fin o:=h1;split
   ·rename_i o ho;exact absurd ho (h1 o)
   ·rfl
  show nR l S op (eW l S op ⟨.li z aU d aN,q,made⟩ r) ap=_;rw[e,ON ap (tell U S q r) (made+1) λ k hk fR o=>h (k+1) (by omega) (by simp;omega) o];show Hq.mk _ _ _=Hq.mk _ (bZ U S (tell U S q r) ap) _;rw[List.length_cons]
  congr 1
  omega
theorem VO{z:Int}{aU:List Int}{d:Int}{aN:Nat}{ap:List aJ}{r:aJ}{q:Q Lk}{made:Nat}{o:bd}(h:∀k,1<=k->k<=ap.length->∀o,(bZ U S q (ap.take k)).R≠.fin o)(hf:(bZ U S q (ap++[r])).R=.fin o):nR l S op ⟨.li z aU d aN,q,made⟩ (ap++[r])=kw op z aU aN (bZ U S q (ap++[r])) (made+ap.length+1) o:=by
 rw[P7,ON ap q made h];rw[P9] at hf⊢;show ec op z aU d aN (tell U S (bZ U S q ap) r) (made+ap.length+1)=_;unfold ec;split
 ·rename_i o' ho;rw[hf] at ho;cases ho
  rfl
 ·rename_i cv;exact absurd hf (cv o)
theorem aaP(hS:l.ar=(S:Int))(hL:oO l S N){gone:List (Int×Int)}{aU:List Int}{d:Int}(K:1<=d/\d<=N)(hk:op.kind=1\/op.kind=2\/op.kind=3)(ap:List aJ):lR l O gone (cB l op aU d).kind d (cB l op aU d).a (cB l op aU d).b ap=rn U l O (bZ U S (d6 (eu op aU d) (cB l op aU d) gone) ap):=by
 have dk:=Ad.zx hL (a:=.nd d 0) ⟨K.1,K.2,by omega,by omega⟩;have dk:0<=bf l d 0/\bf l d 0<l.size:=dk;unfold lR;simp only;rw[if_neg (show¬bf l d 0<0 by omega),if_neg (by rintro⟨_,h,_⟩;omega)];have:=GC (l:=l) (S:=S) (O:=O) hS (gone:=gone) (op:=cB l op aU d) (log:=ap) (o:=eu op aU d) (by cases aU<;>rfl) (by cases aU<;>rfl) (by
  have:(cB l op aU d).obj=bf l d 0:=by cases aU<;>rfl
  rw[this];omega) (by
  cases aU with
  |nil=>exact hk
  |cons b al=>exact .inr (.inl rfl))
 have e:(⟨(cB l op aU d).kind,bf l d 0,(cB l op aU d).a,(cB l op aU d).b⟩:a9)=cB l op aU d:=by cases aU<;>rfl
 rw[e];exact this
theorem ab7(q:Q Lk):(rn U l O q).2.2=true↔∃o,q.R=.fin o:=by
 unfold rn;split
 ·rename_i o h;exact⟨λ _=>⟨o,h⟩,λ _=>rfl⟩
 ·rename_i h;exact⟨λ h=>(by cases h),λ⟨o,ho⟩=>absurd ho (h o)⟩
theorem S7(q:Q Lk):∀(ap:List aJ),(∀k,k<=ap.length->∀o,(bZ U S q (ap.take k)).R≠.fin o)\/(∃o,q.R=.fin o)\/∃R1 r R2 o,ap=R1++r::R2/\(∀k,k<=R1.length->∀o,(bZ U S q (R1.take k)).R≠.fin o)/\(bZ U S q (R1++[r])).R=.fin o
 |[]=>by
  by_cases h:∃o,q.R=.fin o
  ·exact .inr (.inl h)
  ·refine .inl λ k hk o ho=>?_
   have:k=0:=by simpa using hk
   subst this;exact h ⟨o,ho⟩
 |r::ap=>by
  by_cases h:∃o,q.R=.fin o
  ·exact .inr (.inl h)
  ·have h0:∀o,q.R≠.fin o:=λ o ho=>h ⟨o,ho⟩
   rcases S7 (tell U S q r) ap with h1|⟨o,h1⟩|⟨R1,r1,R2,o,e,h1,u⟩
   ·refine .inl λ k hk o=>?_
    cases k with
    |zero=>exact h0 o
    |succ k=>exact h1 k (by simpa using hk) o
   ·exact .inr (.inr ⟨[],r,ap,o,rfl,λ k hk o=>by
     have:k=0:=by simpa using hk
     subst this;exact h0 o,h1⟩)
   ·refine .inr (.inr ⟨r::R1,r1,R2,o,by rw[e];rfl,λ k hk o=>?_,u⟩);cases k with
    |zero=>exact h0 o
    |succ k=>exact h1 k (by simpa using hk) o
theorem akn{q:Q Lk}{o:bd}(h:q.R=.fin o)(ap:List aJ):bZ U S q ap=q:=by obtain⟨R,s⟩:=q;simp only at h;subst h;exact Ko ap
theorem S5{f:Nat->Bool}{aB:Nat}:∀(n k:Nat),k<=aB->aB<=k+n->(∀j,k<=j->j<aB->f j=false)->f aB=true->n7 f n k=aB
 |0,k,h1,u,_,_=>by rw[n7];omega
 |n+1,k,h1,u,J,h4=>by
  rw[n7]
  by_cases e:k=aB
  ·subst e;rw[if_pos h4]
  ·rw[if_neg (by rw[J k (Nat.le_refl _) (by omega)];simp)];exact S5 n (k+1) (by omega) (by omega) (λ j hj CY=>J j (by omega) CY) h4
theorem ajT{q:Q Lk}(h:cJ q):∀ap:List aJ,cJ (bZ U S q ap):=by
 intro ap;induction ap generalizing q with
 |nil=>exact h
 |cons r ap ih=>exact ih (qT h)
theorem Yh{q:Q Lk}(h:cJ q)(hn:∀o,q.R≠.fin o):q.R.gX:=by
 obtain⟨R,s⟩:=q;cases R with
 |fin o=>exact absurd rfl (hn o)
 |bn k=>exact absurd h id
 |_=>trivial
theorem xB(o:Or)(op:a9)(gone:List (Int×Int)):cJ (d6 o op gone):=zt o (i5 op) ⟨0,gone,0,0,0⟩
theorem vL{aU:List Int}{d:Int}(hk:op.kind=1\/op.kind=2\/op.kind=3):(cB l op aU d).kind=1\/(cB l op aU d).kind=2\/(cB l op aU d).kind=3:=by
 cases aU with
 |nil=>exact hk
 |cons b al=>exact .inr (.inl rfl)
def oJ(l:aI)(S:Nat)(O:Int)(op:a9)(h:Hq)(x:Except bz (bd×ag))(ap:List aJ):Prop:=tI x=wm l O op (nR l S op h ap)
theorem abJ{o:bd}{q:Q Lk}{made:Nat}{s:ag}(hg:q.s.gone=s.gone)(ap:List aJ):oJ l S O op ⟨.fin o,q,made⟩ (.ok (o,s)) ap:=by
 have:∀ap:List aJ,nR l S op ⟨.fin o,q,made⟩ ap=⟨.fin o,q,made⟩:=by
  intro ap;induction ap with
  |nil=>rfl
  |cons r ap ih=>exact ih
 unfold oJ;rw[this];show(iB,{o with gone:=s.gone},true)=(iB,{o with gone:=q.s.gone},true);rw[hg]
theorem Cv{h:Hq}{a:bz}{f:aJ->Pm bd}{log:List aJ}{s:ag}(ha:qp l O op h=a)(hf:∀o,h.ph≠.fin o)
 (hn:∀r,s.made<log.length->(log.drop s.made=r::log.drop s.up.made)->oJ l S O op (eW l S op h r) (f r log s.up) (log.drop s.up.made)):oJ l S O op h ((h2 a).bind f log s) (log.drop s.made):=by
 cases K:log.drop s.made with
 |nil=>
  rw[Sm K];show(a,gl,false)=wm l O op h;unfold wm;split
  ·rename_i o ho;exact absurd ho (hf o)
  ·rw[ha]
 |cons r rest=>rw[Sl K];obtain⟨_,tV,NB⟩:=Mg K;have:=hn r NB (by rw[K];congr 1;exact tV.symm);rw[show s.up.made=s.made+1 from rfl,tV] at this;exact this
theorem VQ(hS:l.ar=(S:Int))(hL:oO l S N)(hk:op.kind=1\/op.kind=2\/op.kind=3){z:Int}{aU:List Int}{d:Int}(K:1<=d/\d<=N){f:bd×bz->Pm bd}{log:List aJ}{s:ag}(hg:lM l S N op (iO l op z aU d s.gone s.made) (log.drop s.made))
 (hf:∀(R1:List aJ)(r:aJ)(R2:List aJ)(o:bd),log.drop s.made=R1++r::R2->lM l S N op (kw op z aU s.made (bZ U S (d6 (eu op aU d) (cB l op aU d) s.gone) (R1++[r])) (s.made+R1.length+1) o) R2->LR S (d6 (eu op aU d) (cB l op aU d) s.gone) (R1++[r])->(bZ U S (d6 (eu op aU d) (cB l op aU d) s.gone) (R1++[r])).R=.fin o->
  oJ l S O op (kw op z aU s.made (bZ U S (d6 (eu op aU d) (cB l op aU d) s.gone) (R1++[r])) (s.made+R1.length+1) o) (f (⟨o.val,o.is,o.err,o.aD+s.made,(bZ U S (d6 (eu op aU d) (cB l op aU d) s.gone) (R1++[r])).s.gone⟩,(aS U O (bZ U S (d6 (eu op aU d) (cB l op aU d) s.gone) ((R1++[r]).take o.aD.toNat)).R).acc l) log {s with made:=s.made+R1.length+1,gone:=(bZ U S (d6 (eu op aU d) (cB l op aU d) s.gone) (R1++[r])).s.gone}) R2):
 oJ l S O op (iO l op z aU d s.gone s.made) ((oF l O (cB l op aU d).kind d (cB l op aU d).a (cB l op aU d).b).bind f log s) (log.drop s.made):=by
 have hb:=aaP (O:=O) (gone:=s.gone) (aU:=aU) hS hL K hk;unfold iO at hg⊢;generalize uk:d6 (eu op aU d) (cB l op aU d) s.gone=q0 at*;have afl:∀o,q0.R≠.fin o:=λ o h=>by rw[<-uk] at h;cases h
 have amo:q0.s.made=0:=by rw[<-uk];rfl
 generalize IJ:log.drop s.made=lg at*;rcases S7 (S:=S) q0 lg with h1|⟨o,h1⟩|⟨R1,r,R2,o,e,h1,u⟩
 ·
  have cv:∀o,(bZ U S q0 lg).R≠.fin o:=λ o=>by have:=h1 lg.length (Nat.le_refl _) o;rwa [List.take_length] at this
  have Z:oF l O (cB l op aU d).kind d (cB l op aU d).a (cB l op aU d).b log s=.error ((aS U O (bZ U S q0 lg).R).acc l):=by
   unfold oF;simp only[IJ,hb];have he:rn U l O (bZ U S q0 lg)=((aS U O (bZ U S q0 lg).R).acc l,gl,false):=by
    unfold rn;split
    ·rename_i o ho;exact absurd ho (cv o)
    ·rfl
   rw[he]
   rfl
  unfold oJ;rw[ON lg q0 s.made λ k _ hk o=>h1 k hk o];unfold Pm.bind;rw[Z]
  rfl
 ·exact absurd h1 (afl o)
 ·have aF:cJ q0:=by rw[<-uk];exact xB _ _ _
  have nG:LR S q0 (R1++[r]):=⟨λ k hk=>by
   rw[List.length_append] at hk;simp only[List.length_cons,List.length_nil] at hk;rw[List.take_append_of_le_length (by omega)];exact Yh (ajT aF _) (h1 k (by omega))⟩
  have hy:=(LR.facts (w:=O) (vL (l:=l) (aU:=aU) (d:=d) hk) _ rfl (by rw[uk];exact nG)).2.2;rw[uk,u] at hy;obtain⟨y1,y2,_,_⟩:tJ _ _ o:=hy;have y2:o.aD<(R1.length:Int)+1:=by
   have:(Hy.m ⟨R1++[r],q7 S O q0 (R1++[r])⟩:Int)=(R1.length:Int)+1:=by show((R1++[r]).length:Int)=_;simp
   rw[this] at y2;exact y2
  have cS:bZ U S q0 lg=bZ U S q0 (R1++[r]):=by rw[e,show R1++r::R2=(R1++[r])++R2 by simp,ajJ];exact akn u R2
  have mW:∀j,j<=R1.length->lg.take j=R1.take j:=λ j hj=>by rw[e,List.take_append_of_le_length hj]
  have afx:∀j,j<=R1.length->(R1++[r]).take j=R1.take j:=λ j hj=>by rw[List.take_append_of_le_length hj]
  have cx:lg.length=R1.length+1+R2.length:=by rw[e];simp;omega
  generalize Bg:bZ U S q0 (R1++[r])=qf at*;have he:rn U l O qf=(iB,{o with gone:=qf.s.gone},true):=by unfold rn;rw[u]
  have Ft:n7 (λ k=>(lR l O s.gone (cB l op aU d).kind d (cB l op aU d).a (cB l op aU d).b (lg.take k)).2.2) (lg.length-(o.aD.toNat+1)) (o.aD.toNat+1)=R1.length+1:=by
   refine S5 _ _ (by omega) (by omega) (λ j hj CY=>?_) ?_
   ·simp only[hb];rw[mW j (by omega),Bool.eq_false_iff];intro hh;obtain⟨o',cY⟩:=(ab7 _).1 hh;exact h1 j (by omega) o' cY
   ·simp only[hb];rw[show lg.take (R1.length+1)=R1++[r] by rw[e,show R1++r::R2=(R1++[r])++R2 by simp,List.take_append_of_le_length (by simp),List.take_of_length_le (by simp)],Bg,he]
  have cW:(lR l O s.gone (cB l op aU d).kind d (cB l op aU d).a (cB l op aU d).b (lg.take o.aD.toNat)).1=(aS U O (bZ U S q0 ((R1++[r]).take o.aD.toNat)).R).acc l:=by
   rw[hb,mW _ (by omega),afx _ (by omega)];have J:=h1 o.aD.toNat (by omega);unfold rn;split
   ·rename_i o' cY;exact absurd cY (J o')
   ·rfl
  have Z:oF l O (cB l op aU d).kind d (cB l op aU d).a (cB l op aU d).b log s=.ok ((⟨o.val,o.is,o.err,o.aD+s.made,qf.s.gone⟩,(aS U O (bZ U S q0 ((R1++[r]).take o.aD.toNat)).R).acc l),{s with made:=s.made+R1.length+1,gone:=qf.s.gone}):=by
   unfold oF;simp only[IJ];rw[show lR l O s.gone (cB l op aU d).kind d (cB l op aU d).a (cB l op aU d).b lg=(iB,{o with gone:=qf.s.gone},true) by rw[hb,cS,he]];simp only[Bool.true_eq_false,if_false];rw[if_neg (by omega),Ft,cW]
   rfl
  unfold oJ;rw[e,show R1++r::R2=(R1++[r])++R2 by simp,P7,VO (λ k _ hk o=>h1 k hk o) (by rw[Bg];exact u),Bg];rw[e,show R1++r::R2=(R1++[r])++R2 by simp] at hg;have iU:=hg.app;rw[VO (λ k _ hk o=>h1 k hk o) (by rw[Bg];exact u)] at iU;have:=hf R1 r R2 o e iU nG (by rw[Bg];exact u);rw[Bg] at this;unfold Pm.bind;rw[Z];exact this
def Ho(o o':bd):Prop:=∀g,{o with gone:=g}={o' with gone:=g}
theorem abK{o o':bd}(ho:Ho o' o){q:Q Lk}{made:Nat}{s:ag}(hg:q.s.gone=s.gone)(ap:List aJ):oJ l S O op ⟨.fin o',q,made⟩ (.ok (o,s)) ap:=by have h1:=abJ (l:=l) (S:=S) (O:=O) (op:=op) (o:=o') (made:=made) hg ap;unfold oJ at h1⊢;rw[<-h1];show(iB,{o with gone:=s.gone},true)=(iB,{o' with gone:=s.gone},true);rw[ho]
theorem Ah{x:Except bz (bd×ag)}{o o':bd}{q:Q Lk}{made:Nat}{s:ag}(hx:x=.ok (o,s))(ho:Ho o' o)(hg:q.s.gone=s.gone)(ap:List aJ):oJ l S O op ⟨.fin o',q,made⟩ x ap:=by rw[hx];exact abK ho hg ap
theorem Vg{n:Int}(h0:0<=n)(h1:n<65536):(av (bt n)).idx=n:=by rw[uA h0 h1];exact F9 h0 h1
theorem R3(hS:l.ar=(S:Int))(hL:oO l S N)(hN:N<=100)(hk:op.kind=1\/op.kind=2\/op.kind=3){z:Int}{log:List aJ}:∀(k:Nat)(b:Nat)(al:List Int)(q:Q Lk)(f:Int×bd->Pm bd)(s:ag),b<2^k->q.s.gone=s.gone->s.made<=log.length->lM l S N op ⟨.ld z al b,q,s.made⟩ (log.drop s.made)->
 (∀(n:Int)(ah:ag),ah.made<=log.length->lM l S N op (iO l op z al n ah.gone ah.made) (log.drop ah.made)->oJ l S O op (iO l op z al n ah.gone ah.made) (f (n,gl) log ah) (log.drop ah.made))->
 (∀(o o':bd)(a6:Q Lk)(ah:ag)(qN:Nat),o.err≠0->Ho o' o->a6.s.gone=ah.gone->oJ l S O op ⟨.fin o',a6,qN⟩ (f (0,o) log ah) (log.drop ah.made))->
 oJ l S O op ⟨.ld z al b,q,s.made⟩ ((mF l O op.obj (k+1) b).bind f log s) (log.drop s.made)
 |k,b,al,q,f,s,hb,hq,T,hg,hf,he=>by
  rw[mF,bind_assoc];refine Cv rfl (λ o h=>by cases h) λ r h1 K=>?_
  rw[K] at hg;have jE:=hg.cons;have ht:eW l S op ⟨.ld z al b,q,s.made⟩ r=if(av r.val).idx≠0 then iO l op z al (av r.val).idx q.s.gone (s.made+1) else if(b:Int)=0 then⟨.fin rp,q,s.made+1⟩ else⟨.ld z ((b:Int)::al) (eH b),q,s.made+1⟩:=rfl
  rw[ht] at jE⊢
  by_cases h0:(av r.val).idx≠0
  ·rw[if_pos h0] at jE⊢;rw[if_pos h0,hq] at*;exact hf _ s.up (by show s.made+1<=_;omega) jE
  ·rw[if_neg h0] at jE⊢;rw[if_neg h0]
   by_cases jD:(b:Int)=0
   ·rw[if_pos jD] at jE⊢;rw[if_pos jD];exact he rp rp q s.up _ (by show(1:Int)≠0;omega) (λ _=>rfl) hq
   ·rw[if_neg jD] at jE⊢;rw[if_neg jD,bind_assoc];have iT:b≠0:=by omega
    cases k with
    |zero=>simp at hb;omega
    |succ k=>
     have cV:=WX iT;have UU:=WV iT hb;obtain⟨p,G⟩:=Int.eq_ofNat_of_zero_le cV.1;rw[G] at jE UU⊢;have afe:p<2^k:=by exact_mod_cast UU
     refine R3 hS hL hN hk k p ((b:Int)::al) q _ s.up afe hq (by show s.made+1<=_;omega) jE (λ n s1 fm iU=>?_) (λ o o' a6 ah qN u J h4=>?_)
     ·simp only[show(gl.err≠0)=False by simp[gl],if_false];rw[bind_assoc];have K:1<=n/\n<=(N:Int):=iU.here;refine VQ (aU:=(b:Int)::al) hS hL hk K iU (λ R1 r1 R2 o e wJ nG k9=>?_);have hy:=(LR.facts (w:=O) (vL (l:=l) (op:=op) (aU:=(b:Int)::al) (d:=n) hk) _ rfl nG).2.2;rw[k9] at hy;obtain⟨y1,y2,_,y3⟩:tJ _ _ o:=hy;generalize uk:d6 (eu op ((b:Int)::al) n) (cB l op ((b:Int)::al) n) s1.gone=q0 at*;generalize Bg:bZ U S q0 (R1++[r1])=qf at*
      by_cases IX:o.err≠0
      ·simp only[IX,ne_eq,not_false_eq_true,if_true] at wJ⊢;have e2:kw op z ((b:Int)::al) s1.made qf (s1.made+R1.length+1) o=⟨.fin (jR o s1.made),qf,s1.made+R1.length+1⟩:=by unfold kw;simp only;rw[if_pos IX]
       rw[e2];have:=he ⟨o.val,o.is,o.err,o.aD+s1.made,qf.s.gone⟩ (jR o s1.made) qf {s1 with made:=s1.made+R1.length+1,gone:=qf.s.gone} (s1.made+R1.length+1) IX (λ g=>rfl) rfl;have qw:log.drop (s1.made+R1.length+1)=R2:=by rw[show s1.made+R1.length+1=s1.made+(R1.length+1) by omega,<-List.drop_drop,e,List.drop_append];simp
       rw[<-qw];exact this
      ·have UM:o.err=0:=by omega
       obtain⟨nd,g1,g2⟩:=y3 rfl UM;have e2:kw op z ((b:Int)::al) s1.made qf (s1.made+R1.length+1) o=⟨.cb z al b nd,qf,s1.made+R1.length+1⟩:=by unfold kw;simp only;rw[if_neg IX,g1];rfl
       rw[e2] at wJ⊢;have hnd:0<=nd/\nd<65536:=wJ.here;simp only[ne_eq,not_true_eq_false,UM,if_false];have qw:log.drop (s1.made+R1.length+1)=R2:=by rw[show s1.made+R1.length+1=s1.made+(R1.length+1) by omega,<-List.drop_drop,e,List.drop_append];simp
       have cx:s1.made+R1.length+1<=log.length:=by have:=congrArg List.length e;rw[List.length_drop] at this;simp at this;omega
       rw[bind_assoc,bl (ah:={s1 with made:=s1.made+R1.length+1,gone:=qf.s.gone}) (x:=nd) (by
        show Except.ok (if o.is then(av ((aS U O (bZ U S q0 ((R1++[r1]).take o.aD.toNat)).R).acc l).new).idx else(av (log.getD ((o.aD+s1.made).toNat+2) ⟨0,false⟩).val).idx,_)=_
        congr 2
        by_cases wP:o.is=true
        ·rw[if_pos wP] at g2⊢;obtain⟨x,c,a0,a1⟩:=g2;have aY:o.aD.toNat<(R1++[r1]).length:=by
          have:(Hy.m ⟨R1++[r1],q7 S O q0 (R1++[r1])⟩:Int)=((R1++[r1]).length:Int):=rfl;rw[this] at y2;omega
         have h5:=Rt S O (R1++[r1]) q0 o.aD.toNat aY;have a1:(q7 S O q0 (R1++[r1]))[o.aD.toNat]?=some (.cs x c (bt nd)):=a1;rw[h5] at a1;rw[Option.some.inj a1];exact Vg hnd.1 hnd.2
        ·rw[if_neg wP] at g2⊢;obtain⟨a0,a1,a2⟩:=g2;have a1:o.aD+2<((R1++[r1]).length:Int):=a1;have a2:((R1++[r1]).getD (o.aD+2).toNat ⟨0,false⟩).val=bt nd:=a2;have h6:log.getD ((o.aD+s1.made).toNat+2) ⟨0,false⟩=(R1++[r1]).getD (o.aD+2).toNat ⟨0,false⟩:=by
          rw[List.getD_eq_getElem?_getD,List.getD_eq_getElem?_getD,show(o.aD+s1.made).toNat+2=s1.made+(o.aD+2).toNat by omega,<-List.getElem?_drop,e,show R1++r1::R2=(R1++[r1])++R2 by simp,List.getElem?_append_left (by omega)]
         rw[h6,a2];exact Vg hnd.1 hnd.2),bind_assoc]
       have ny:=Cv (l:=l) (S:=S) (O:=O) (op:=op) (h:=⟨.cb z al b nd,qf,s1.made+R1.length+1⟩) (a:=⟨3,il l op.obj b,0,eh ⟨nd,false,0⟩⟩) (f:=λ _=>(Pm.pure (nd,gl)).bind f) (log:=log) (s:={s1 with made:=s1.made+R1.length+1,gone:=qf.s.gone}) rfl (λ o h=>by cases h) (λ r2 h7 h8=>?_)
       ·rw[show({s1 with made:=s1.made+R1.length+1,gone:=qf.s.gone}:ag).made=s1.made+R1.length+1 from rfl,qw] at ny;exact ny
       ·have h8:log.drop (s1.made+R1.length+1)=r2::log.drop (s1.made+R1.length+1+1):=h8;rw[qw] at h8;rw[h8] at wJ;exact hf nd {s1 with made:=s1.made+R1.length+1+1,gone:=qf.s.gone} h7 wJ.cons
     ·simp only[u,ne_eq,not_false_eq_true,if_true];exact he o o' a6 ah qN u J h4
theorem abN{log R1 R2:List aJ}{r:aJ}{m:Nat}(e:log.drop m=R1++r::R2):log.drop (m+R1.length+1)=R2/\m+R1.length+1<=log.length:=by
 refine⟨?_,?_⟩
 ·rw[show m+R1.length+1=m+(R1.length+1) by omega,<-List.drop_drop,e,List.drop_append];simp
 ·have:=congrArg List.length e;rw[List.length_drop] at this;simp at this;omega
theorem ae1(hS:l.ar=(S:Int))(hL:oO l S N)(hN:N<=100)(hk:op.kind=1\/op.kind=2\/op.kind=3)(hm:0<=fq l op.obj 0)(ha:0<=op.a/\op.a<65536){gone:List (Int×Int)}{log:List aJ}(hg:lM l S N op (sd gone) log):oq l O gone op log=wm l O op (nR l S op (sd gone) log):=by
 unfold oq;rw[if_neg (by omega)];show oJ l S O op (sd gone) (uH l O op log ⟨0,gone,0,0,0⟩) log;have hg:lM l S N op (sd gone) (log.drop (⟨0,gone,0,0,0⟩:ag).made):=hg;have key:oJ l S O op (sd gone) (uH l O op log ⟨0,gone,0,0,0⟩) (log.drop (⟨0,gone,0,0,0⟩:ag).made):=by
  unfold uH;refine Cv rfl (λ o h=>by cases h) λ r h1 K=>?_
  rw[K] at hg;have jE:=hg.cons;have ht:eW l S op (sd gone) r=if r.val<1\/l.buckets<r.val\/qR r.val=false then⟨.fin rp,⟨.fin gl,⟨0,gone,0,0,0⟩⟩,1⟩ else⟨.ld r.val [] (op.a%r.val),⟨.fin gl,⟨0,gone,0,0,0⟩⟩,1⟩:=rfl
  rw[ht] at jE⊢
  by_cases hz:r.val<1\/l.buckets<r.val\/qR r.val=false
  ·rw[if_pos hz,if_pos hz];exact Ah (o:=rp) (s:=(⟨0,gone,0,0,0⟩:ag).up) rfl (λ _=>rfl) rfl _
  ·rw[if_neg hz] at jE⊢;rw[if_neg hz];have ud:=Int.emod_nonneg op.a (show r.val≠0 by omega);have wR:=Int.emod_lt_of_pos op.a (show 0<r.val by omega);have A4:op.a%r.val<=op.a:=by
    by_cases h:op.a<r.val
    ·rw[Int.emod_eq_of_lt ha.1 h];exact Int.le_refl _
    ·omega
   obtain⟨b,hb⟩:=Int.eq_ofNat_of_zero_le ud;rw[hb] at jE⊢;have Np:b<2^63:=by omega
   refine R3 hS hL hN hk 63 b [] _ _ (⟨0,gone,0,0,0⟩:ag).up Np rfl (by exact h1) jE (λ n s1 fm iU=>?_) (λ o o' a6 ah qN u J h4=>?_)
   ·simp only[show(gl.err≠0)=False by simp[gl],if_false];refine VQ (aU:=[]) hS hL hk iU.here iU (λ R1 r1 R2 o e wJ nG k9=>?_);generalize bZ U S (d6 (eu op [] n) (cB l op [] n) s1.gone) (R1++[r1])=qf at*;obtain⟨qw,cx⟩:=abN e;have FE:∀c,o.is=c->Ho (jR o s1.made) ⟨o.val,c,o.err,o.aD+s1.made,qf.s.gone⟩:=λ c F g=>by subst F;rfl
    by_cases wP:o.is=true
    ·have AZ:=wP
     by_cases NU:op.kind=2\/op.kind=3
     ·have e2:kw op r.val [] s1.made qf (s1.made+R1.length+1) o=⟨.ad r.val (jR o s1.made),qf,s1.made+R1.length+1⟩:=by unfold kw;simp only;rw[if_pos ⟨wP,NU⟩]
      rw[e2];simp only[wP,if_true];have ic:({s1 with made:=s1.made+R1.length+1,gone:=qf.s.gone}:ag).made=s1.made+R1.length+1:=rfl;rw[<-qw,<-ic];unfold q6;rcases NU with u|J
      ·rw[if_pos u,bind_assoc];refine Cv (by show(⟨4,_,0,if op.kind=2 then 1 else-1⟩:bz)=_;rw[if_pos u]) (λ o h=>by cases h) λ r2 _ _=>?_
       have rP:eW l S op ⟨.ad r.val (jR o s1.made),qf,s1.made+R1.length+1⟩ r2=if op.kind=2/\2*r.val<=r2.val/\r.val<l.buckets then⟨.cz r.val (jR o s1.made),qf,s1.made+R1.length+1+1⟩ else⟨.fin (jR o s1.made),qf,s1.made+R1.length+1+1⟩:=rfl
       rw[rP]
       by_cases F:2*r.val<=r2.val/\r.val<l.buckets
       ·rw[if_pos ⟨u,F⟩,if_pos F,bind_assoc];refine Cv rfl (λ o h=>by cases h) λ r3 _ _=>?_
        exact Ah rfl (FE _ AZ) rfl _
       ·rw[if_neg (λ h=>F h.2),if_neg F];exact Ah rfl (FE _ AZ) rfl _
      ·rw[if_neg (by omega),if_pos J,bind_assoc];refine Cv (by show(⟨4,_,0,if op.kind=2 then 1 else-1⟩:bz)=_;rw[if_neg (by omega)]) (λ o h=>by cases h) λ r2 _ _=>?_
       have rP:eW l S op ⟨.ad r.val (jR o s1.made),qf,s1.made+R1.length+1⟩ r2=if op.kind=2/\2*r.val<=r2.val/\r.val<l.buckets then⟨.cz r.val (jR o s1.made),qf,s1.made+R1.length+1+1⟩ else⟨.fin (jR o s1.made),qf,s1.made+R1.length+1+1⟩:=rfl
       rw[rP,if_neg (λ h=>by omega)];exact Ah rfl (FE _ AZ) rfl _
     ·have e2:kw op r.val [] s1.made qf (s1.made+R1.length+1) o=⟨.fin (jR o s1.made),qf,s1.made+R1.length+1⟩:=by unfold kw;simp only;rw[if_neg (λ h=>NU h.2)]
      rw[e2];simp only[wP,if_true];unfold q6;rw[if_neg (by omega),if_neg (by omega)];exact Ah rfl (FE _ AZ) rfl _
    ·have AZ:o.is=false:=Bool.eq_false_iff.2 wP;have e2:kw op r.val [] s1.made qf (s1.made+R1.length+1) o=⟨.fin (jR o s1.made),qf,s1.made+R1.length+1⟩:=by unfold kw;simp only;rw[if_neg (λ h=>wP h.1)]
     rw[e2];simp only[AZ,Bool.false_eq_true,if_false];exact Ah rfl (FE _ AZ) rfl _
   ·simp only[u,ne_eq,not_false_eq_true,if_true];exact Ah rfl J h4 _
 exact key
end
structure bU where
 want:List (List a9)
 b:Int
def kT(o:a9):Prop:=(o.kind=1\/o.kind=2\/o.kind=3)/\o.obj=0/\(0<=o.a/\o.a<65536)/\o.b<9223372036854775808
structure dZ(p:bU):Prop where
 w1:1<=p.want.length
 w3:p.want.length<=3
 bk:xH p.b
 ops:∀ws∈p.want,∀o∈ws,kT o
 sum:(p.want.map List.length).sum<=12
def nQ(p:bU):Nat:=16+p.b.toNat
def aO(p:bU):aI:=bR p.want.length (16+p.b) p.b
def cT(p:bU):Int:=8+12*(p.want.length:Int)
def d8(p:bU):Int:=9+12*(p.want.length:Int)
def aQ(p:bU)(c:Int):Int:=10+12*(p.want.length:Int)+c
section
variable{p:bU}(G:dZ p)
include G
theorem iX:1<=p.b/\p.b<=8:=by rcases G.bk with h|h|h|h<;>omega
theorem O0:(nQ p:Int)=16+p.b:=by have:=iX G;unfold nQ;omega
theorem pm:nQ p<=24:=by have:=iX G;unfold nQ;omega
theorem Gm:oO (aO p) p.want.length (nQ p):=by
 have h1:=G.w1;have u:=iX G;have J:=O0 G;refine⟨rfl,J.symm,rfl,rfl,?_,?_,?_,?_,h1⟩
 ·intro w i a1 a2 a3 a4;show jL (4+2*(p.want.length:Int)) p.want.length 3 w i=_;rw[Hk (by omega) (by omega) (by omega) (by omega)];omega
 ·intro n i a1 a2 a3 a4;have e:bf (aO p) n i=jL (aO p).node (16+p.b) 8 (n-1) i:=by
   unfold bf;rw[if_neg (by omega)];rfl
  rw[e,Hk (by omega) (by omega) (by omega) (by omega)];omega
 ·show 4+5*(p.want.length:Int)<=10+12*(p.want.length:Int)+p.b;omega
 ·show 10+12*(p.want.length:Int)+p.b+8*(16+p.b)=10+12*(p.want.length:Int)+p.b+8*(nQ p:Int);rw[J]
theorem Gy:fq (aO p) 0 0=cT p:=by have:=iX G;unfold fq;rw[if_neg (by omega)];show jL (8+12*(p.want.length:Int)) 1 (2+p.b) 0 0=_;rw[Hk (by omega) (by omega) (by omega) (by omega)];unfold cT;omega
theorem V9:fq (aO p) 0 1=d8 p:=by have:=iX G;unfold fq;rw[if_neg (by omega)];show jL (8+12*(p.want.length:Int)) 1 (2+p.b) 0 1=_;rw[Hk (by omega) (by omega) (by omega) (by omega)];unfold d8;omega
theorem Dn{c:Int}(h0:0<=c)(h1:c<p.b):il (aO p) 0 c=aQ p c:=by have:=iX G;unfold il;rw[if_neg (by show¬(c<0\/p.b<=c);omega)];show jL (8+12*(p.want.length:Int)) 1 (2+p.b) 0 (2+c)=_;rw[Hk (by omega) (by omega) (by omega) (by omega)];unfold aQ;omega
theorem YH:Ad.str (aO p) p.want.length (nQ p) (.ob (cT p)):=by have:=iX G;exact⟨by unfold cT;omega,by show cT p<10+12*(p.want.length:Int)+p.b;unfold cT;omega⟩
theorem LY:Ad.str (aO p) p.want.length (nQ p) (.ob (d8 p)):=by have:=iX G;exact⟨by unfold d8;omega,by show d8 p<10+12*(p.want.length:Int)+p.b;unfold d8;omega⟩
theorem HK{c:Int}(h0:0<=c)(h1:c<p.b):Ad.str (aO p) p.want.length (nQ p) (.ob (aQ p c)):=by have:=iX G;exact
 ⟨by unfold aQ;omega,by show aQ p c<10+12*(p.want.length:Int)+p.b;unfold aQ;omega⟩
theorem yX:mf U (a7 (nQ p)) (aO p) p.want.length (nQ p):=V2 (by have:=pm G;omega)
end
section
variable{l:aI}{S N aB:Nat}{V:Vw}{qs:List (Q Lk)}{aw X:List Int}{g:dF}
theorem agf{W:Ws}{c v:Int}{P:Int->Int->Prop}{k:Lk}(h:nK N W X P k):nK N (W.hE c v) X P k:=by
 have f:∀{o:Or}{f:Fk},qW W o f->qW (W.hE c v) o f:=λ{o f} h=>by cases f<;>exact h
 have r:∀{o:Or},lP N W X o->lP N (W.hE c v) X o:=λ h=>⟨h.x,h.ev,h.lt,h.d1,h.dN⟩
 have n:∀{o:Or}{f:Fk}{a b D cur:Int},oK N W X P o f a b D cur->oK N (W.hE c v) X P o f a b D cur:=λ h=>⟨r h.or,f h.fk,h.ab,h.c1,h.cN,h.R,h.pp,h.kp⟩
 have b:∀{o:Or}{D cur:Int},qd N W X P o D cur->qd N (W.hE c v) X P o D cur:=λ h=>⟨r h.or,h.pp,h.R,h.kp,h.kc⟩
 have t:∀{o:Or}{D cur:Int},At N W X P o D cur->At N (W.hE c v) X P o D cur:=λ h=>⟨r h.or,h.c1,h.cN,h.R,h.pp,h.kp,h.kc⟩
 cases k with
 |ga o fk=>exact⟨f h.1,r h.2⟩
 |gb o fk a aP D cur=>exact n h
 |ls o fk a aP D cur w fA=>exact⟨n h.1,h.2⟩
 |lo o fk a aP D cur w fA k=>exact⟨n h.1,h.2⟩
 |cu o fk a aP D cur w=>exact⟨n h.1,h.2⟩
 |rr o fk a aP D nx pt=>exact⟨r h.1,f h.2.1,h.2.2⟩
 |gv o cur pt=>exact h
 |tk o v D cur=>exact b h
 |p1 o v n D cur=>exact⟨b h.1,h.2⟩
 |p2 o v n D cur=>exact⟨b h.1,h.2⟩
 |p0 o v n D cur=>exact⟨b h.1,h.2⟩
 |cp o v n D cur=>exact⟨b h.1,h.2⟩
 |cm o D cur w=>exact⟨t h.1,h.2⟩
 |cd o D cur nx a=>exact⟨t h.1,h.2⟩
 |sv a c=>trivial
 |rx n a=>trivial
 |ry a=>trivial
 |fi o=>trivial
theorem acS{W:Ws}{c v:Int}{P:Int->Int->Prop}{k:Lk}{i x:Int}(h:BE N W X P k i x):BE N (W.hE c v) X P k i x:=by cases k<;>exact h
theorem aj0{W:Ws}{c v:Int}{aC:Int->Prop}(h:eX N aB W X aC g):eX N aB (W.hE c v) X aC g:=⟨h.first,h.even,h.gj,h.link,h.form,h.dead,h.p9,h.e8,h.jS,h.k⟩
theorem Ox(T:mf U (a7 N) l S N)(h:Inv (a7 N) l S N aB V qs aw X g)(c v:Int):Inv (a7 N) l S N aB (V.put (.ob c) v) qs aw X g:=by refine⟨h.n,h.fr,h.x6,h.er,h.lf,h.part,h.bi,aj0 h.si,λ w q hq=>(h.loc w q hq).frame T (λ i n hP=>⟨hP.1,hP.2.1,hP.2.2.Ep,hP.2.2.at_⟩) (.inl rfl) (λ _=>rfl) (λ _ _=>rfl) (.inl rfl) (λ _=>rfl) (λ k _ P _ hk=>agf hk) (λ k _ P i a x _ _ hg=>acS hg)⟩
theorem _root_.Go.Proofs.YtkkldicehapklaaGreat.Inv.pU{qY:Nat}(T:mf U (a7 N) l S N)(h:Inv (a7 N) l S N aB V qs aw X g)(hK:aB<=qY):Inv (a7 N) l S N qY V qs aw X g:=
 ⟨h.n,h.fr,⟨h.x6.1,by have:=h.x6.2;omega⟩,⟨h.er.1,by have:=h.er.2;omega⟩,h.lf,h.part,h.bi,T.DS h.si (λ _ h=>h) hK,h.loc⟩
theorem agb(T:mf U (a7 N) l S N)(hI:Inv (a7 N) l S N aB V qs aw X g){w:Nat}{o:bd}{s:ag}(hq:qs[w]?=some ⟨.fin o,s⟩){r:Or}{op:a9}(hr:lP N V.W X r)(hf:qW V.W r (i5 op))(lb:oH (i5 op)=[]):Inv (a7 N) l S N (aB+1) V (qs.set w (d6 r op s.gone)) aw X g:=by
 have Z:=hI.loc w _ hq;have hz:s.z:=Z.R;obtain⟨z0,z1,z2⟩:=hz;have he:∀i,(⟨0,s.gone,0,0,0⟩:ag).e i=s.e i:=λ i=>by
  unfold ag.e;simp only[z0,z1,z2]
 have m1:eQ (a7 N) (d6 r op s.gone).R=[]:=lb;have m2:eJ (a7 N) (d6 r op s.gone).R=[]:=rfl;have m3:k7 (d6 r op s.gone)=s.gone:=rfl;refine hI.quiet T hq (λ n=>?_) (λ n hn=>?_) he (λ j x i n _ _ _ _ h=>?_) (λ hP K=>?_)
 ·simp only[own,eC,m1,m2,m3];rfl
 ·simp only[eC,m2,m3] at hn;exact hn
 ·rcases h with h|h
  ·simp[eJ] at h
  ·exact .inr h
 ·exact⟨⟨hf,hr⟩,λ h=>h,Int.le_refl _,by omega,⟨hr.d1,hr.dN,by omega,by omega⟩,rfl,rfl⟩
theorem aga(T:mf U (a7 N) l S N)(hI:Inv (a7 N) l S N aB V qs aw X g){w:Nat}{o:bd}{s:ag}(hq:qs[w]?=some ⟨.fin o,s⟩)(o':bd):Inv (a7 N) l S N (aB+1) V (qs.set w ⟨.fin o',⟨0,s.gone,0,0,0⟩⟩) aw X g:=by
 have Z:=hI.loc w _ hq;have hz:s.z:=Z.R;obtain⟨z0,z1,z2⟩:=hz;have he:∀i,(⟨0,s.gone,0,0,0⟩:ag).e i=s.e i:=λ i=>by
  unfold ag.e;simp only[z0,z1,z2]
 refine hI.quiet T hq (λ n=>?_) (λ n hn=>?_) he (λ j x i n _ _ _ _ h=>?_) (λ hP K=>⟨rfl,rfl,rfl⟩)
 ·rfl
 ·exact hn
 ·exact h
end
def qi(W:Ws)(X:List Int)(e c:Int):Prop:=c∈X/\W.nd c 1=e
def wr(W:Ws)(X:List Int)(e:Int)(o:bd):Prop:=o.err=0->∀n x,o.gone=[(n,x)]->qi W X e n
def jn(W:Ws)(X:List Int)(e:Int):Pc Lk->Prop
 |.v1 (.sv _ c) _|.v2 (.sv _ c) _ _|.v3 (.sv _ c) _ _=>qi W X e c
 |.c (.fi o) _=>wr W X e o
 |.fin o=>wr W X e o
 |_=>True
section
variable{N aB:Nat}{W W':Ws}{X be:List Int}{aC:Int->Prop}{mi:List Int}{e:Int}
theorem qi.mH{c:Int}(Y:gq W W' X be aC mi)(he:e%2=0)(h:qi W X e c):qi W' be e c:=by have h1:=(Y.key c (.inl h.1)).1;exact⟨Y.stay c h.1 (by rw[h.2];exact he),by rw[h1];exact h.2⟩
theorem wr.mH{o:bd}(Y:gq W W' X be aC mi)(he:e%2=0)(h:wr W X e o):wr W' be e o:=λ h1 n x u=>(h h1 n x u).mH Y he
theorem jn.mH{R:Pc Lk}(Y:gq W W' X be aC mi)(he:e%2=0)(h:jn W X e R):jn W' be e R:=by unfold jn at h⊢;split at h<;>first|exact h.mH Y he|exact wr.mH Y he h|trivial
theorem JP{k:Lk}{s:ag}(hk:(∃o,k=.fi o/\wr W X e o)\/∃n a,k=.rx n a):jn W X e (dJ U k s).R:=by
 rcases wc (am:=U) k s with⟨i,_,_,_,h⟩|⟨_,h⟩
 ·rw[h];rcases hk with⟨o,rfl,ho⟩|⟨n,a,rfl⟩
  ·exact ho
  ·trivial
 ·rw[h];rcases hk with⟨o,rfl,ho⟩|⟨n,a,rfl⟩
  ·exact ho
  ·trivial
theorem Dt{o:bd}(h:o.gone=[]):wr W X e o:=λ _ n x u=>by rw[h] at u;cases u
theorem xm{o:bd}{s:ag}(h:wr W X e o):jn W X e (aG U (.bn (.fi o)) s).R:=JP (.inl ⟨o,rfl,h⟩)
theorem Wk(o:Or)(f:Fk)(D cur pt:Int)(s:ag):jn W X e (aG U (d9 o f D cur pt) s).R:=by
 unfold d9;cases f with
 |get=>exact xm (Dt rfl)
 |put v n=>simp only;split<;>trivial
 |del=>exact xm (Dt rfl)
 |fin a=>exact xm (Dt rfl)
theorem ahz(o:Or)(f:Fk)(D cur w pt:Int)(s:ag)(h:qi W X e cur):jn W X e (aG U (eU o f D cur w pt) s).R:=by
 unfold eU;cases f with
 |get=>trivial
 |put v n=>
  simp only;split
  ·exact xm λ _ n x u=>by cases u;exact h
  ·exact h
 |del=>trivial
 |fin a=>exact xm (Dt rfl)
theorem O2(o:Or)(f:Fk)(a b D cur pt:Int)(s:ag):jn W X e (aG U (dG o f a b D cur pt) s).R:=by
 unfold dG;split
 ·exact Wk _ _ _ _ _ _
 ·trivial
theorem Wl{k:Lk}(hk:e9 k)(s:ag):jn W X e (aG U (U.retired k) s).R:=by
 rcases hk with⟨o,f,a,b,D,nx,pt,rfl⟩|⟨a,rfl⟩
 ·exact O2 _ _ _ _ _ _ _ _
 ·exact Dt rfl
theorem BH{k:Lk}(hk:e9 k){R:Pc Lk}(h:R.cont=some k):jn W X e R:=by rcases hk with⟨o,f,a,b,D,nx,pt,rfl⟩|⟨a,rfl⟩<;>cases R<;>first|trivial|(cases h;done)|(simp only[Pc.cont,Option.some.injEq] at h;subst h;trivial)
theorem O3{k:Lk}(hk:e9 k)(held:List Int)(s:ag)(gs stay:List (Int×Int)):jn W X e (du U k held s gs stay).R:=by
 cases gs with
 |nil=>exact Wl hk _
 |cons g gs=>exact BH hk rfl
theorem Wm{k:Lk}(hk:e9 k)(held:List Int)(s:ag)(cs:List Ad):jn W X e (gG U k held s cs).R:=by
 cases cs with
 |nil=>exact O3 hk _ _ _ _
 |cons c cs=>exact BH hk rfl
end
section
variable{l:aI}{S N aB:Nat}{V:Vw}{qs:List (Q Lk)}{aw X:List Int}{g:dF}{w:Nat}{q:Q Lk}{op:a9}{r:Or}
theorem ahA(hN:N<=100)(hI:Inv (a7 N) l S N aB V qs aw X g)(hq:qs[w]?=some q)(hf:q.R.gX)(aF:cJ q)(bv:ie r op q.R)(he:r.o%2=0)(h:jn V.W X r.o q.R):
 jn (act V (aS U w q.R)).1.W (hc (a7 N) V.W X g q.R).1 r.o (tell U S q (act V (aS U w q.R)).2).R:=by
 have Y:=Lr hN hI hq;have bq:=hI.si;have h0:=h.mH Y he;obtain⟨R,s⟩:=q;cases R with
 |at_ k=>
  have ho:=vO hN hI hq;have fZ:=ho.kl;cases k with
  |ls o f a b D cur aA t=>show jn _ _ _ (aG U (if _ then _ else _) _).R;split<;>trivial
  |lo o f a b D cur aA t k=>
   obtain⟨lY,_⟩:o=r/\sx op f:=bv;have ea:act V (aS U w (.at_ (.lo o f a b D cur aA t k)))=(V,⟨V.W.nd cur 1,true⟩):=rfl;rw[ea];show jn V.W X r.o (aG U (if(av aA).mark then .at_ (.cu o f a b D cur aA) else if V.W.nd cur 1<o.o then dG o f b (3-a-b) cur (av aA).idx t else if V.W.nd cur 1=o.o then eU o f D cur aA t else d9 o f D cur k) s.up).R;split
   ·trivial
   ·split
    ·exact O2 _ _ _ _ _ _ _ _
    ·split
     ·rename_i e1;refine ahz _ _ _ _ _ _ _ ⟨?_,by rw[e1,lY]⟩;have tZ:oK N V.W X _ o f a b D cur:=fZ.1;rcases ho.hP _ _ tZ.R with u|u
      ·exact u
      ·have J:=bq.gj cur u;rw[e1,lY] at J;omega
     ·exact Wk _ _ _ _ _ _
  |cu o f a b D cur aA=>show jn _ _ _ (aG U (if _ then _ else _) _).R;split<;>trivial
  |gv o cur pt=>exact xm (Dt rfl)
  |p1 o v n D cur=>trivial
  |p2 o v n D cur=>trivial
  |p0 o v n D cur=>trivial
  |cp o v n D cur=>
   obtain⟨lY,_⟩:o=r/\op.kind=2/\v=op.b:=bv;have lb:=ho.mi n (by simp[ed]);have ha:=ho.act
   by_cases F:V.W.nd D 0=bt cur
   ·have e1:br V.W (bh (.cp o v n D cur))=(V.W.put (bM D) (bt n),⟨bt cur,true⟩):=by simp only[bh,br,MG,F,if_true]
    have e2:cM V.W X g (.cp o v n D cur)=((X.takeWhile λ x=>decide (x≠D))++D::n::(X.dropWhile λ x=>decide (x≠D)).tail,{g with put:=g.put+1}):=by simp only[cM,MG,F,if_true]
    have ha:act V (aS U w (.at_ (.cp o v n D cur)))=_:=ha;rw[ha,e1];show jn (V.W.put (bM D) (bt n)) (cM V.W X g (.cp o v n D cur)).1 r.o (aG U (.bn (.fi (nL s.made n))) s.up).R;rw[e2];refine xm λ _ cO x u=>?_
    have:n=cO:=by cases u;rfl
    subst this;refine⟨by simp,?_⟩;rw[l7,if_neg (by omega),fZ.2.2.1,lY]
   ·have e1:br V.W (bh (.cp o v n D cur))=(V.W,⟨V.W.nd D 0,false⟩):=by simp only[bh,br,MG,F,if_false]
    have ha:act V (aS U w (.at_ (.cp o v n D cur)))=_:=ha;rw[ha,e1]
    trivial
  |cm o D cur aA=>show jn _ _ _ (aG U (if _ then _ else _) _).R;split<;>trivial
  |cd o D cur nx a=>
   show jn _ _ _ (aG U (if _ then _ else _) _).R;split
   ·exact JP (.inr ⟨_,_,rfl⟩)
   ·trivial
  |ga o f=>exact absurd aF id
  |gb o f a b D cur=>exact absurd aF id
  |rr o f a b D nx pt=>exact absurd aF id
  |tk o v D cur=>exact absurd aF id
  |sv a c=>exact absurd aF id
  |rx n a=>exact absurd aF id
  |ry a=>exact absurd aF id
  |fi o=>exact absurd aF id
 |t1 k=>
  obtain⟨o,v,D,cur,rfl⟩:=aF;show jn _ _ _ (if _ then _ else _:Q Lk).R;split
  ·exact xm λ h=>absurd h (by show(8:Int)≠0;omega)
  ·trivial
 |t2 k f=>
  obtain⟨o,v,D,cur,rfl⟩:=aF
  trivial
 |t3 k f lk=>obtain⟨o,v,D,cur,rfl⟩:=aF;show jn _ _ _ (if _ then _ else _:Q Lk).R;split<;>trivial
 |t4 k n a=>
  obtain⟨o,v,D,cur,rfl⟩:=aF
  trivial
 |t5 k n a b=>
  obtain⟨o,v,D,cur,rfl⟩:=aF
  trivial
 |g1 k i c=>trivial
 |g2 k i c v a=>
  show jn _ _ _ (if _ then _ else _:Q Lk).R;rcases aF with⟨o,f,rfl⟩|⟨o,f,bF,D,cur,rfl,_⟩
  ·split
   ·exact O2 _ _ _ _ _ _ _ _
   ·trivial
  ·split<;>trivial
 |g3 k i c er=>trivial
 |bn k=>exact absurd hf id
 |c k i=>
  rcases aF.2.2.2 with⟨o,rfl⟩|⟨n,b,rfl⟩
  ·exact JP (.inl ⟨o,rfl,h0⟩)
  ·exact JP (.inr ⟨n,b,rfl⟩)
 |v1 k n=>obtain⟨b,c,rfl⟩:=aF;exact h0
 |v2 k n f=>obtain⟨b,c,rfl⟩:=aF;exact h0
 |v3 k n f=>
  obtain⟨b,c,rfl⟩:=aF;show jn _ _ _ (if _ then _ else _:Q Lk).R;split
  ·exact xm (o:=yJ b c) λ _ cO x u=>by
    have:c=cO:=by cases u;rfl
    subst this;exact h0
  ·exact h0
 |r1 k n=>exact BH aF rfl
 |r2 k n er=>
  show jn _ _ _ (if _ then _ else _:Q Lk).R;split
  ·exact Wl aF _
  ·exact Wm aF _ _ _
 |rs k held c cs=>exact Wm aF _ _ _
 |s1 k held bg gs stay=>
  show jn _ _ _ (if _ then _ else _:Q Lk).R;split
  ·exact O3 aF _ _ _ _
  ·exact BH aF rfl
 |w1 k held bg gs stay=>exact BH aF rfl
 |w2 k held bg gs stay f=>exact BH aF rfl
 |w3 k held bg gs stay f=>
  show jn _ _ _ (if _ then _ else _:Q Lk).R;split
  ·exact O3 aF _ _ _ _
  ·exact BH aF rfl
 |fin o=>exact absurd hf id
theorem Ls(hN:N<=100)(hI:Inv (a7 N) l S N aB V qs aw X g)(hq:qs[w]?=some q)(hf:q.R.gX)(c:Int):(act V (aS U w q.R)).1.W.ob c=V.W.ob c:=by
 obtain⟨R,s⟩:=q;have bV:∀(f v:Int),(act V (.cs .free f v)).1.W.ob c=V.W.ob c:=λ f v=>by simp only[act];split<;>rfl
 cases R with
 |at_ k=>have ho:=vO hN hI hq;show(act V (bh k)).1.W.ob c=_;rw[ho.act];show(br V.W (bh k)).1.ob c=_;cases k<;>simp only[bh,br]<;>first|rfl|(split<;>rfl)
 |t3 k f lk=>exact bV _ _
 |v3 k n f=>exact bV _ _
 |w3 k held bg gs stay f=>exact bV _ _
 |bn k=>exact absurd hf id
 |fin o=>exact absurd hf id
 |_=>rfl
end
theorem Rw{aM da:Type}{am:lO aM}{af:Sp aM da}{l:aI}{S N aB:Nat}{V:Vw}{qs:List (Q aM)}{aw X:List Int}{g:da}(T:mf am af l S N)(hI:Inv af l S N aB V qs aw X g){w:Nat}{q:Q aM}(hq:qs[w]?=some q)(hf:q.R.gX):(aS am w q.R).ad.ok l S N:=by
 have Z:=hI.loc w _ hq;have hw:w<S:=by have:=(List.getElem?_eq_some_iff.1 hq).1;have:=hI.n;omega
 obtain⟨R,s⟩:=q;have ct:=Z.R;cases R with
 |bn k=>exact absurd hf id
 |fin o=>exact absurd hf id
 |at_ k=>
  have c6:∀i n,Pr af V X qs w s i n->1<=n/\n<=(N:Int):=λ i n h=>(qS h).elim (λ h=>hI.oz h) λ h=>(hI.dq h).1
  have dP:∀n∈af.gh k,n∈own af ⟨.at_ k,s⟩:=λ n h=>by unfold own;rw[List.mem_append];exact .inl h
  have ny:∀n∈af.dead k,n∈own af ⟨.at_ k,s⟩:=λ n h=>by unfold own eC;rw[List.mem_append,List.mem_append];exact .inr (.inl h)
  have:=T.ask hI.si ct.1 c6 (λ n h=>h.elim (λ h=>hI.oz h) λ h=>h.elim (λ h=>hI.mX hq (dP n h)) λ h=>hI.mX hq (ny n h));show(am.ask k).ad.ok l S N;cases ha:am.ask k with
  |ld a=>rw[ha] at this;exact Ad.sf this
  |st a v=>rw[ha] at this;exact Ad.sf this
  |cs a o v=>rw[ha] at this;exact Ad.sf this
  |up=>trivial
 |t1 k=>trivial
 |t2 k f=>exact⟨ct.2.2.2,ct.2.2.1.le⟩
 |t3 k f lk=>trivial
 |t4 k n a=>trivial
 |t5 k n a b=>exact hI.mX hq (by simp[own,eQ])
 |g1 k i c=>exact Ad.sf ct.2.2.2.2.1
 |g2 k i c v a=>trivial
 |g3 k i c er=>exact⟨by omega,by omega,ct.2.2.1,ct.2.2.2.1⟩
 |c k i=>exact⟨by omega,by omega,ct.2.1,ct.2.2⟩
 |v1 k n=>trivial
 |v2 k n f=>exact hI.mX hq (by simp[own,eQ])
 |v3 k n f=>trivial
 |r1 k n=>trivial
 |r2 k n er=>trivial
 |rs k held c cs=>obtain⟨aA,i,h1,u,J,h4,rfl⟩:=ct.2.2.2 c (by simp);exact⟨h1,u,J,h4⟩
 |s1 k held y gs stay=>exact hI.mX hq (by simp[own,eC,k7])
 |w1 k held y gs stay=>trivial
 |w2 k held y gs stay f=>exact hI.mX hq (by simp[own,eC,k7])
 |w3 k held y gs stay f=>trivial
def rR(q:Q Lk):Prop:=∃o,q.R=.fin o
def lI(p:bU)(z:Int):Prop:=xH z/\z<=p.b
def s9(op:a9)(z b:Int):List Int->Prop
 |[]=>b=op.a%z
 |c::al=>b=eH c/\0<c/\c<z/\s9 op z c al
def YQ(op:a9)(z:Int):List Int->Prop
 |[]=>True
 |c::al=>0<c/\c<z/\s9 op z c al
def xr(o:bd)(m:Nat):Prop:=(o.err=0\/o.err=8)/\0<=o.aD/\o.aD<m
def Zn(l:aI)(S:Nat)(op:a9)(aU:List Int)(d:Int)(aN:Nat)(h:Hq):Prop:=∃gone ap,h.q=bZ U S (d6 (eu op aU d) (cB l op aU d) gone) ap/\LR S (d6 (eu op aU d) (cB l op aU d) gone) ap/\h.made=aN+ap.length
def kr(p:bU)(W:Ws)(X:List Int)(op:a9)(h:Hq):Prop:=match h.ph with
 |.sz=>rR h.q
 |.ld z al b=>lI p z/\(0<=b/\b<z)/\s9 op z b al/\rR h.q
 |.li z aU d aN=>lI p z/\YQ op z aU/\(1<=d/\d<=(nQ p:Int))/\Zn (aO p) p.want.length op aU d aN h/\h.q.R.gX/\(aU≠[]->jn W X (eu op aU d).o h.q.R)
 |.cb z al c n=>lI p z/\(0<c/\c<z)/\s9 op z c al/\qi W X (fv c) n/\rR h.q
 |.ad z o=>lI p z/\xr o h.made/\o.err=0/\rR h.q
 |.cz z o=>lI p z/\z<p.b/\xr o h.made/\o.err=0/\rR h.q
 |.fin o=>xr o h.made/\rR h.q
structure v4(p:bU)(W:Ws)(X:List Int):Prop where
 sz:lI p (W.ob (cT p))
 b0:W.ob (aQ p 0)=1
 bk:∀c,0<=c->c<p.b->W.ob (aQ p c)=0\/qi W X (fv c) (W.ob (aQ p c))
def cF(p:bU)(w:Nat)(op:a9)(h:Hq)(V:Vw):Vw×aJ:=match h.ph with
 |.sz=>(V,⟨V.W.ob (cT p),true⟩)
 |.ld _ _ b=>(V,⟨V.W.ob (aQ p b),true⟩)
 |.li ..=>act V (aS U w h.q.R)
 |.cb _ _ c n=>act V (.cs (.ob (aQ p c)) 0 n)
 |.ad ..=>(V.put (.ob (d8 p)) (te (V.W.ob (d8 p)+if op.kind=2 then 1 else-1)),⟨V.W.ob (d8 p),true⟩)
 |.cz z _=>act V (.cs (.ob (cT p)) z (2*z))
 |.fin _=>(V,⟨0,false⟩)
def UK(V:Vw)(aw:List Int)(h:Hq):List Int:=match h.ph with
 |.li ..=>pn V aw h.q.R
 |_=>aw
def ot(N:Nat)(W:Ws)(X:List Int)(g:dF)(h:Hq):List Int×dF:=match h.ph with
 |.li ..=>hc (a7 N) W X g h.q.R
 |_=>(X,g)
section
variable{p:bU}{W W':Ws}{X be:List Int}{aC:Int->Prop}{mi:List Int}
theorem lI.e8(G:dZ p){z:Int}(h:lI p z):1<=z/\z<=8:=by have:=iX G;have:=h.2;rcases h.1 with e|e|e|e<;>omega
theorem xV(G:dZ p){c z:Int}(h:lI p z)(h0:0<=c)(h1:c<z):fv c%2=0:=(H3 h0 (by have:=h.e8 G;omega)).2.2
theorem kr.mH(G:dZ p)(Y:gq W W' X be aC mi){op:a9}{h:Hq}(hk:kr p W X op h):kr p W' be op h:=by
 unfold kr at hk⊢;split at hk
 ·exact hk
 ·exact hk
 ·rename_i z aU d aN _;obtain⟨h1,u,J,h4,h5,h6⟩:=hk;refine⟨h1,u,J,h4,h5,λ aW=>?_⟩;cases aU with
  |nil=>exact absurd rfl aW
  |cons c al=>exact(h6 aW).mH Y (xV G h1 (by have:=u.1;omega) u.2.1)
 ·obtain⟨h1,u,J,h4,h5⟩:=hk;exact⟨h1,u,J,h4.mH Y (xV G h1 (by omega) u.2),h5⟩
 ·exact hk
 ·exact hk
 ·exact hk
theorem v4.mH(G:dZ p)(Y:gq W W' X be aC mi)(ho:∀c,W'.ob c=W.ob c)(h:v4 p W X):v4 p W' be:=by have hb:=iX G;refine⟨by rw[ho];exact h.sz,by rw[ho];exact h.b0,λ c h0 h1=>?_⟩;rw[ho];exact(h.bk c h0 h1).imp id λ u=>u.mH Y (H3 h0 (by omega)).2.2
theorem H7{c v:Int}:gq W (W.hE c v) X X aC mi:=⟨λ _ _=>⟨rfl,rfl⟩,λ _ _ _=>rfl,λ _ _ _ _ _=>rfl,λ _ _ h=>h,λ _ h _=>h⟩
end
section
variable{p:bU}{aB:Nat}{V:Vw}{qs:List (Q Lk)}{aw X:List Int}{g:dF}{w:Nat}{op:a9}{h:Hq}{m:List Int}
theorem YU(m:List Int)(c k:Int):iw m ⟨4,c,0,k⟩=(m.set c.toNat (te (eY m c+k)),⟨eY m c,true⟩):=by simp[iw]
theorem adK(G:dZ p)(hV:qm (aO p) p.want.length (nQ p) m V)(hI:Inv (a7 (nQ p)) (aO p) p.want.length (nQ p) aB V qs aw X g)(hK:aB<=100000)(hq:qs[w]?=some h.q)(bv:kT op)(hk:kr p V.W X op h)(fe:∀o,h.ph≠.fin o):QX (aO p) p.want.length (nQ p) m (qp (aO p) w op h) (cF p w op h V).1 (cF p w op h V).2:=by
 have hL:=Gm G;have AQ:=hI.er;have nt:=iX G;have he:0<=V.er/\V.er<=1000000:=⟨by omega,by omega⟩;obtain⟨ph,q,made⟩:=h;cases ph with
 |sz=>
  have:=Ek hL hV he (a:=.ld (.ob (cT p))) (Ad.sf (YH G));have e:qp (aO p) w op ⟨.sz,q,made⟩=(Ak.ld (.ob (cT p))).acc (aO p):=by show(⟨1,fq (aO p) op.obj 0,0,0⟩:bz)=_;rw[bv.2.1,Gy G];rfl
  rw[e];exact this
 |ld z al b=>
  have hb:0<=b/\b<p.b:=⟨hk.2.1.1,by have:=hk.2.1.2;have:=hk.1.2;omega⟩;have:=Ek hL hV he (a:=.ld (.ob (aQ p b))) (Ad.sf (HK G hb.1 hb.2));have e:qp (aO p) w op ⟨.ld z al b,q,made⟩=(Ak.ld (.ob (aQ p b))).acc (aO p):=by show(⟨1,il (aO p) op.obj b,0,0⟩:bz)=_;rw[bv.2.1,Dn G hb.1 hb.2];rfl
  rw[e];exact this
 |li z aU d aN=>exact Ek hL hV he (Rw (yX G) hI hq hk.2.2.2.2.1)
 |cb z al c n=>
  have hb:0<=c/\c<p.b:=⟨by have:=hk.2.1.1;omega,by have:=hk.2.1.2;have:=hk.1.2;omega⟩;have hn:=hI.si.e8 n hk.2.2.2.1.1;have hN:=pm G;have:=Ek hL hV he (a:=.cs (.ob (aQ p c)) 0 n) (Ad.sf (HK G hb.1 hb.2));have e:qp (aO p) w op ⟨.cb z al c n,q,made⟩=(Ak.cs (.ob (aQ p c)) 0 n).acc (aO p):=by show(⟨3,il (aO p) op.obj c,0,eh ⟨n,false,0⟩⟩:bz)=_;rw[bv.2.1,Dn G hb.1 hb.2,show eh ⟨n,false,0⟩=n from uA (by omega) (by omega)];rfl
  rw[e];exact this
 |ad z o=>
  have dk:=Ad.zx hL (a:=.ob (d8 p)) (Ad.sf (LY G));have dk:0<=d8 p/\d8 p<(aO p).size:=dk;have cx:=hV.len;have iC:eY m (d8 p)=V.W.ob (d8 p):=hV.at_ _ (Ad.sf (LY G));have e:qp (aO p) w op ⟨.ad z o,q,made⟩=⟨4,d8 p,0,if op.kind=2 then 1 else-1⟩:=by show(⟨4,fq (aO p) op.obj 1,0,_⟩:bz)=_;rw[bv.2.1,V9 G]
  rw[e];refine⟨EL dk.1 (by simp only;omega) (.inr (.inr (.inr ⟨rfl,rfl⟩))),?_,?_⟩
  ·rw[YU,iC];exact hV.put hL (a:=.ob (d8 p)) (Ad.sf (LY G)) _
  ·rw[YU,iC];rfl
 |cz z o=>
  have:=Ek hL hV he (a:=.cs (.ob (cT p)) z (2*z)) (Ad.sf (YH G));have e:qp (aO p) w op ⟨.cz z o,q,made⟩=(Ak.cs (.ob (cT p)) z (2*z)).acc (aO p):=by show(⟨3,fq (aO p) op.obj 0,z,2*z⟩:bz)=_;rw[bv.2.1,Gy G];rfl
  rw[e];exact this
 |fin o=>exact absurd rfl (fe o)
end
theorem DQ{az:Type}{l:List az}{w:Nat}{x:az}(h:l[w]?=some x):l.set w x=l:=by
 apply List.ext_getElem?;intro j;rw[List.getElem?_set];split
 ·rename_i e;subst e;rw[if_pos (List.getElem?_eq_some_iff.1 h).1,h]
 ·rfl
section
variable{p:bU}{aB:Nat}{V:Vw}{qs:List (Q Lk)}{aw X:List Int}{g:dF}{w:Nat}{op:a9}{h:Hq}
theorem Lx(G:dZ p)(hI:Inv (a7 (nQ p)) (aO p) p.want.length (nQ p) aB V qs aw X g)(bv:kT op){z b n:Int}{al:List Int}{q:Q Lk}(hq:qs[w]?=some q)(ym:rR q)(hz:lI p z)(hb:0<=b/\b<z)(T:s9 op z b al)(hn:qi V.W X (fv b) n)(made:Nat):
 Inv (a7 (nQ p)) (aO p) p.want.length (nQ p) (aB+1) V (qs.set w (iO (aO p) op z al n q.s.gone made).q) aw X g/\kr p V.W X op (iO (aO p) op z al n q.s.gone made):=by
 obtain⟨o,ho⟩:=ym;obtain⟨R,s⟩:=q;simp only at ho;subst ho;have oy:=hz.e8 G;have ou:=hI.si.e8 n hn.1;have NE:=H3 hb.1 (show b<8 by omega);have aY:V.W.nd n 1<(eu op al n).o:=by
  rw[hn.2];cases al with
  |nil=>have T:b=op.a%z:=T;rw[T];exact(Sq bv.2.2.1.1 bv.2.2.1.2 hz.1).1
  |cons c al=>obtain⟨h1,u,J,_⟩:=T;rw[h1];exact(Ai u (by omega)).1
 have K:(eu op al n).d=n:=by cases al<;>rfl
 have lY:lP (nQ p) V.W X (eu op al n):=⟨by rw[K];exact hn.1,by rw[K,hn.2];exact NE.2.2,by rw[K];exact aY,by rw[K];exact ou.1,by rw[K];exact ou.2⟩;have lz:qW V.W (eu op al n) (i5 (cB (aO p) op al n))/\oH (i5 (cB (aO p) op al n))=[]:=by
  cases al with
  |nil=>
   unfold i5;rcases bv.1 with e|e|e
   ·rw[if_pos (show(cB (aO p) op [] n).kind=1 from e)];exact⟨trivial,rfl⟩
   ·rw[if_neg (show¬(cB (aO p) op [] n).kind=1 by show¬op.kind=1;omega),if_pos (show(cB (aO p) op [] n).kind=2 from e)];exact⟨⟨Int.le_refl _,λ h=>absurd rfl h⟩,rfl⟩
   ·rw[if_neg (show¬(cB (aO p) op [] n).kind=1 by show¬op.kind=1;omega),if_neg (show¬(cB (aO p) op [] n).kind=2 by show¬op.kind=2;omega)];exact⟨(PS bv.2.2.1.1 bv.2.2.1.2).2.2,rfl⟩
  |cons c al=>exact⟨⟨Int.le_refl _,λ h=>absurd rfl h⟩,rfl⟩
 refine⟨agb (yX G) hI hq lY lz.1 lz.2,hz,?_,ou,⟨s.gone,[],rfl,LR.nil,rfl⟩,trivial,λ _=>trivial⟩;cases al with
 |nil=>trivial
 |cons c al=>exact⟨T.2.1,T.2.2.1,T.2.2.2⟩
structure zk(p:bU)(aB:Nat)(V ba:Vw)(qs:List (Q Lk))(cE X be:List Int)(bg:dF)(w:Nat)(op:a9)(h bD:Hq):Prop where
 inv:Inv (a7 (nQ p)) (aO p) p.want.length (nQ p) (aB+2) ba (qs.set w bD.q) cE be bg
 hk:kr p ba.W be op bD
 nh:v4 p ba.W be
 mH:gq V.W ba.W X be (Dq (a7 (nQ p)) qs) (eQ (a7 (nQ p)) h.q.R)
 made:bD.made=h.made+1
theorem J3(G:dZ p)(hI:Inv (a7 (nQ p)) (aO p) p.want.length (nQ p) aB V qs aw X g)(hK:aB+1<=100000)(hq:qs[w]?=some h.q)(bv:kT op)(hk:kr p V.W X op h)(hB:v4 p V.W X)(fe:∀o,h.ph≠.fin o):
 zk p aB V (cF p w op h V).1 qs (UK V aw h) X (ot (nQ p) V.W X g h).1 (ot (nQ p) V.W X g h).2 w op h (eW (aO p) p.want.length op h (cF p w op h V).2):=by
 have hS:=yX G;have nt:=iX G;have hN:=pm G;obtain⟨ph,q,made⟩:=h;have hq:qs[w]?=some q:=hq;cases ph with
 |sz=>
  have hz:=hB.sz;have oy:=hz.e8 G;have ht:eW (aO p) p.want.length op ⟨.sz,q,made⟩ ⟨V.W.ob (cT p),true⟩=⟨.ld (V.W.ob (cT p)) [] (op.a%V.W.ob (cT p)),q,made+1⟩:=by
   show(if V.W.ob (cT p)<1\/p.b<V.W.ob (cT p)\/qR (V.W.ob (cT p))=false then _ else _:Hq)=_;rw[if_neg];rintro(h|h|h)
   ·omega
   ·have:=hz.2;omega
   ·rw[Ka hz.1] at h;cases h
  have NE:=Sq bv.2.2.1.1 bv.2.2.1.2 hz.1;show zk p aB V V qs aw X X g w op _ (eW (aO p) p.want.length op ⟨.sz,q,made⟩ ⟨V.W.ob (cT p),true⟩);rw[ht];exact⟨by rw[DQ hq];exact hI.pU hS (by omega),⟨hz,NE.2,rfl,hk⟩,hB,qu,rfl⟩
 |ld z al b=>
  obtain⟨hz,hb,T,hi⟩:=hk;have oy:=hz.e8 G;have oZ:b<p.b:=by have:=hz.2;omega
  show zk p aB V V qs aw X X g w op _ (eW (aO p) p.want.length op ⟨.ld z al b,q,made⟩ ⟨V.W.ob (aQ p b),true⟩);have ht:eW (aO p) p.want.length op ⟨.ld z al b,q,made⟩ ⟨V.W.ob (aQ p b),true⟩=if(av (V.W.ob (aQ p b))).idx≠0 then iO (aO p) op z al (av (V.W.ob (aQ p b))).idx q.s.gone (made+1) else if b=0 then⟨.fin rp,q,made+1⟩ else⟨.ld z (b::al) (eH b),q,made+1⟩:=rfl
  rw[ht];rcases hB.bk b hb.1 oZ with e|e
  ·have e0:(av (V.W.ob (aQ p b))).idx=0:=by rw[e];rfl
   rw[if_neg (by simp[e0])]
   by_cases jD:b=0
   ·rw[jD,hB.b0] at e;cases e
   ·rw[if_neg jD];have FR:=Ai (show 0<b by omega) (show b<8 by omega);exact⟨by rw[DQ hq];exact hI.pU hS (by omega),⟨hz,⟨FR.2.1,by omega⟩,⟨rfl,by omega,hb.2,T⟩,hi⟩,hB,qu,rfl⟩
  ·have ou:=hI.si.e8 _ e.1;have e1:(av (V.W.ob (aQ p b))).idx=V.W.ob (aQ p b):=F9 (by omega) (by omega);rw[e1,if_pos (by omega)];obtain⟨a1,a2⟩:=Lx G hI bv hq hi hz hb T e (made+1);exact⟨a1.pU hS (by omega),a2,hB,qu,rfl⟩
 |li z aU d aN=>
  obtain⟨hz,ht,K,⟨gone,ap,hR,nG,hm⟩,io,rJ⟩:=hk;have hR:q=_:=hR;have hm:made=aN+ap.length:=hm;have io:q.R.gX:=io;have Y:=Lr (by omega) hI hq;have bS:=af9 hS (by omega) (by omega) hI hq io;have vm:=Ls (by omega) hI hq io;have eN:=vL (l:=aO p) (aU:=aU) (d:=d) bv.1;have NL:=LR.facts (w:=(w:Int)) eN _ rfl nG;have aF:cJ q:=by rw[hR];exact NL.1
  have UJ:=λ(h1:aU≠[])=>ahA (r:=eu op aU d) (op:=cB (aO p) op aU d) (by omega) hI hq io aF (by rw[hR];exact yL ap (xB _ _ _) ⟨rfl,B1 eN⟩) (by
   cases aU with
   |nil=>exact absurd rfl h1
   |cons c al=>exact xV G hz (by have:=ht.1;omega) ht.2.1) (rJ h1)
  show zk p aB V (act V (aS U w q.R)).1 qs (pn V aw q.R) X (hc (a7 (nQ p)) V.W X g q.R).1 (hc (a7 (nQ p)) V.W X g q.R).2 w op _ (ec op z aU d aN (tell U p.want.length q (act V (aS U w q.R)).2) (made+1));have AD:=hB.mH G Y vm;generalize hr:(act V (aS U w q.R)).2=r at*;generalize(act V (aS U w q.R)).1=ba at*;generalize pn V aw q.R=cE at*;generalize hc (a7 (nQ p)) V.W X g q.R=XG at*;have Uz:=nG.snoc (by rw[<-hR];exact io) r;have CS:=LR.facts (w:=(w:Int)) eN _ rfl Uz;have qw:tell U p.want.length q r=bZ U p.want.length (d6 (eu op aU d) (cB (aO p) op aU d) gone) (ap++[r]):=by rw[P9,<-hR]
  rw[<-qw] at CS;generalize eO:tell U p.want.length q r=a6 at*;have cx:(ap++[r]).length=ap.length+1:=by simp
  unfold ec;split
  ·rename_i o ho;rw[ho] at CS;obtain⟨y1,y2,y3,akP⟩:tJ _ _ o:=CS.2.2;have y2:o.aD<((ap++[r]).length:Int):=y2;rw[cx] at y2;have cW:xr (jR o aN) (made+1):=⟨y3.imp id (·.1),by show 0<=o.aD+(aN:Int);omega,by show o.aD+(aN:Int)<((made+1:Nat):Int);omega⟩;have ym:rR a6:=⟨o,ho⟩;unfold kw;cases aU with
   |nil=>
    simp only;split
    ·rename_i h1;refine⟨bS.pU hS (by omega),⟨hz,cW,?_,ym⟩,AD,Y,rfl⟩;rcases y3 with e|⟨_,e⟩
     ·exact e
     ·rw[h1.1] at e;cases e
    ·exact⟨bS.pU hS (by omega),⟨cW,ym⟩,AD,Y,rfl⟩
   |cons c al=>
    simp only;split
    ·exact⟨bS.pU hS (by omega),⟨cW,ym⟩,AD,Y,rfl⟩
    ·rename_i h1;have h1:o.err=0:=by omega
     obtain⟨n,g1,_⟩:=akP rfl h1;have u:=UJ (by simp);rw[ho] at u;have J:qi ba.W XG.1 (fv c) n:=u h1 n 0 g1;rw[g1];exact⟨bS.pU hS (by omega),⟨hz,⟨ht.1,ht.2.1⟩,ht.2.2,J,ym⟩,AD,Y,rfl⟩
  ·rename_i cv;exact⟨bS.pU hS (by omega),⟨hz,ht,K,⟨gone,ap++[r],qw,Uz,by show made+1=_;rw[cx];omega⟩,Yh CS.1 (λ o h=>cv o h),λ h1=>UJ h1⟩,AD,Y,rfl⟩
 |cb z al c n=>
  obtain⟨hz,F,T,hn,hi⟩:=hk;have oy:=hz.e8 G;have fw:c<p.b:=by have:=hz.2;omega
  have ou:=hI.si.e8 n hn.1;show zk p aB V (act V (.cs (.ob (aQ p c)) 0 n)).1 qs aw X X g w op _ (iO (aO p) op z al n q.s.gone (made+1))
  by_cases e:V.W.ob (aQ p c)=0
  ·have e1:(act V (.cs (.ob (aQ p c)) 0 n)).1=V.put (.ob (aQ p c)) n:=by simp only[act,Vw.get,e,if_true]
   rw[e1];have lc:qi (V.put (.ob (aQ p c)) n).W X (fv c) n:=hn;obtain⟨a1,a2⟩:=Lx G (Ox hS hI (aQ p c) n) bv hq hi hz ⟨by omega,F.2⟩ T lc (made+1);refine⟨a1.pU hS (by omega),a2,⟨?_,?_,λ aT h0 h1=>?_⟩,H7,rfl⟩
   ·show lI p ((V.W.hE (aQ p c) n).ob (cT p));rw[po,if_neg (by unfold cT aQ;omega)];exact hB.sz
   ·show(V.W.hE (aQ p c) n).ob (aQ p 0)=1;rw[po,if_neg (by unfold aQ;omega)];exact hB.b0
   ·show(V.W.hE (aQ p c) n).ob (aQ p aT)=0\/qi (V.W.hE (aQ p c) n) X (fv aT) ((V.W.hE (aQ p c) n).ob (aQ p aT));rw[po];split
    ·rename_i e2;have:aT=c:=by unfold aQ at e2;omega
     subst this;exact .inr hn
    ·exact hB.bk aT h0 h1
  ·have e1:(act V (.cs (.ob (aQ p c)) 0 n)).1=V:=by simp only[act,Vw.get,e,if_false]
   rw[e1];obtain⟨a1,a2⟩:=Lx G hI bv hq hi hz ⟨by omega,F.2⟩ T hn (made+1);exact⟨a1.pU hS (by omega),a2,hB,qu,rfl⟩
 |ad z o=>
  obtain⟨hz,cW,he,hi⟩:=hk;have FU:xr o (made+1):=⟨cW.1,cW.2.1,by have:o.aD<(made:Int):=cW.2.2;show o.aD<((made+1:Nat):Int);omega⟩;generalize hv:te (V.W.ob (d8 p)+if op.kind=2 then 1 else-1)=v;have ha:cF p w op ⟨.ad z o,q,made⟩ V=(V.put (.ob (d8 p)) v,⟨V.W.ob (d8 p),true⟩):=by rw[<-hv];rfl
  rw[ha];have TE:v4 p (V.put (.ob (d8 p)) v).W X:=by
   refine⟨?_,?_,λ aT h0 h1=>?_⟩
   ·show lI p ((V.W.hE (d8 p) v).ob (cT p));rw[po,if_neg (by unfold cT d8;omega)];exact hB.sz
   ·show(V.W.hE (d8 p) v).ob (aQ p 0)=1;rw[po,if_neg (by unfold aQ d8;omega)];exact hB.b0
   ·show(V.W.hE (d8 p) v).ob (aQ p aT)=0\/qi (V.W.hE (d8 p) v) X (fv aT) ((V.W.hE (d8 p) v).ob (aQ p aT));rw[po,if_neg (by unfold aQ d8;omega)];exact hB.bk aT h0 h1
  have TJ:=(Ox hS hI (d8 p) v).pU hS (show aB<=aB+2 by omega);show zk p aB V (V.put (.ob (d8 p)) v) qs aw X X g w op _ (if op.kind=2/\2*z<=V.W.ob (d8 p)/\z<p.b then⟨.cz z o,q,made+1⟩ else⟨.fin o,q,made+1⟩);split
  ·rename_i h1;exact⟨by simp only;rw[DQ hq];exact TJ,⟨hz,h1.2.2,FU,he,hi⟩,TE,H7,rfl⟩
  ·exact⟨by simp only;rw[DQ hq];exact TJ,⟨FU,hi⟩,TE,H7,rfl⟩
 |cz z o=>
  obtain⟨hz,afP,cW,he,hi⟩:=hk;have FU:xr o (made+1):=⟨cW.1,cW.2.1,by have:o.aD<(made:Int):=cW.2.2;show o.aD<((made+1:Nat):Int);omega⟩;have w9:lI p (2*z):=by have h1:=G.bk;have u:=hz.1;unfold lI xH at*;omega
  show zk p aB V (act V (.cs (.ob (cT p)) z (2*z))).1 qs aw X X g w op _ ⟨.fin o,q,made+1⟩
  by_cases e:V.W.ob (cT p)=z
  ·have e1:(act V (.cs (.ob (cT p)) z (2*z))).1=V.put (.ob (cT p)) (2*z):=by simp only[act,Vw.get,e,if_true]
   rw[e1];refine⟨by simp only;rw[DQ hq];exact(Ox hS hI (cT p) (2*z)).pU hS (by omega),⟨FU,hi⟩,⟨?_,?_,λ aT h0 h1=>?_⟩,H7,rfl⟩
   ·show lI p ((V.W.hE (cT p) (2*z)).ob (cT p));rw[po,if_pos rfl];exact w9
   ·show(V.W.hE (cT p) (2*z)).ob (aQ p 0)=1;rw[po,if_neg (by unfold aQ cT;omega)];exact hB.b0
   ·show(V.W.hE (cT p) (2*z)).ob (aQ p aT)=0\/qi (V.W.hE (cT p) (2*z)) X (fv aT) ((V.W.hE (cT p) (2*z)).ob (aQ p aT));rw[po,if_neg (by unfold aQ cT;omega)];exact hB.bk aT h0 h1
  ·have e1:(act V (.cs (.ob (cT p)) z (2*z))).1=V:=by simp only[act,Vw.get,e,if_false]
   rw[e1];exact⟨by simp only;rw[DQ hq];exact hI.pU hS (by omega),⟨FU,hi⟩,hB,qu,rfl⟩
 |fin o=>exact absurd rfl (fe o)
end
def pS(gone:List (Int×Int)):Q Lk:=⟨.fin gl,⟨0,gone,0,0,0⟩⟩
def bo(p:bU)(x:bp):Hq:=if x.op.kind=0 then⟨.fin gl,pS x.gone,0⟩ else nR (aO p) p.want.length x.op (sd x.gone) x.log
def jK(p:bU)(ar:List bp):List (Q Lk):=ar.map λ x=>(bo p x).q
theorem xv{p:bU}{ar:List bp}{w:Nat}{x:bp}(hx:ar[w]?=some x):(jK p ar)[w]?=some (bo p x).q:=by unfold jK;rw[List.getElem?_map,hx];rfl
theorem Xq{p:bU}{ar:List bp}{w:Nat}(y:bp):jK p (ar.set w y)=(jK p ar).set w (bo p y).q:=by unfold jK;rw[List.map_set]
structure Q6(p:bU)(W:Ws)(X:List Int)(x:bp):Prop where
 op:x.op.kind=0\/kT x.op
 len:x.steps.length=x.log.length
 made:x.op.kind≠0->(bo p x).made=x.log.length
 MT:x.op.kind≠0->lM (aO p) p.want.length (nQ p) x.op (sd x.gone) x.log
 hk:x.op.kind≠0->kr p W X x.op (bo p x)
structure GH(p:bU)(i:Nat)(t:cP)(V:Vw)(aw X:List Int)(g:dF):Prop where
 n:t.ar.length=p.want.length
 view:qm (aO p) p.want.length (nQ p) t.m V
 inv:Inv (a7 (nQ p)) (aO p) p.want.length (nQ p) i V (jK p t.ar) aw X g
 iv:∀(w:Nat)(x:bp),t.ar[w]?=some x->Q6 p V.W X x
 nh:v4 p V.W X
 bad:t.bad=false
 cD:t.cD=false
def rf(ws:List a9)(x:bp):Option bp:=if x.op.kind=0 then(ws[x.next]?).map λ op=>⟨op,[],[],x.next+1,x.gone⟩ else some x
theorem afz(l:aI)(want:List (List a9))(t:cP)(au:Nat){x:bp}{ws:List a9}(hx:t.ar[au]?=some x)(hw:want[au]?=some ws):kJ l want t au=match rf ws x with
 |none=>t
 |some y=>lB l t au y:=by
 unfold kJ rf;simp only[hx,hw];split
 ·cases ws[x.next]?<;>rfl
 ·rfl
inductive nW(p:bU)(au:Nat)(t:cP)(V:Vw)(aw X:List Int)(g:dF):cP->Vw->List Int->List Int->dF->Prop where
 |idle (x:bp) (ws:List a9) (hx:t.ar[au]?=some x) (hw:p.want[au]?=some ws) (h0:x.op.kind=0) (ha:ws.length<=x.next):nW p au t V aw X g t V aw X g
 |done (x:bp) (h:Hq) (o:bd) (hx:t.ar[au]?=some x) (h0:x.op.kind≠0) (hh:h=bo p x) (ct:h.ph=.fin o) (Z:x.log≠[]) (cW:xr o x.log.length) (hi:rR h.q):
  nW p au t V aw X g (jw t au x {o with gone:=h.q.s.gone}) V aw X g
 |acc (x y:bp) (ws:List a9) (h:Hq) (aB:Nat) (hx:t.ar[au]?=some x) (hw:p.want[au]?=some ws) (hy:rf ws x=some y) (ho:kT y.op) (hh:h=bo p y) (fe:∀o,h.ph≠.fin o) (hk:kr p V.W X y.op h) (hm:h.made=y.log.length) (Z:y.steps.length=y.log.length) (hK:aB+1<=100000) (hq:(jK p t.ar)[au]?=some h.q) (hI:Inv (a7 (nQ p)) (aO p) p.want.length (nQ p) aB V (jK p t.ar) aw X g):
  nW p au t V aw X g ⟨(iw t.m (qp (aO p) au y.op h)).1,t.step+1,t.ar.set au {y with log:=y.log++[(cF p au y.op h V).2],steps:=y.steps++[t.step]},t.calls,t.full,t.cD,t.bad⟩
   (cF p au y.op h V).1 (UK V aw h) (ot (nQ p) V.W X g h).1 (ot (nQ p) V.W X g h).2
theorem lM.snoc{l:aI}{S N:Nat}{op:a9}{h:Hq}{ap:List aJ}(hg:lM l S N op h ap)(r:aJ)(ho:JV N (nR l S op h (ap++[r]))):lM l S N op h (ap++[r]):=by
 intro k hk;rw[List.length_append] at hk;simp only[List.length_cons,List.length_nil] at hk
 by_cases e:k<=ap.length
 ·rw[List.take_append_of_le_length e];exact hg k e
 ·rw[List.take_of_length_le (by simp;omega)];exact ho
theorem XZ(l:aI)(S:Nat)(op:a9)(h:Hq)(ap:List aJ)(r:aJ):nR l S op h (ap++[r])=eW l S op (nR l S op h ap) r:=by simp[nR,List.foldl_append]
section
variable{p:bU}{aB:Nat}{V:Vw}{qs:List (Q Lk)}{aw X:List Int}{g:dF}{w:Nat}{op:a9}{h:Hq}{m:List Int}
theorem aeB(G:dZ p)(hI:Inv (a7 (nQ p)) (aO p) p.want.length (nQ p) aB V qs aw X g)(hk:kr p V.W X op h):JV (nQ p) h:=by
 have hN:=pm G;obtain⟨ph,q,made⟩:=h;cases ph with
 |li z aU d aN=>exact hk.2.2.1
 |cb z al c n=>have:=hI.si.e8 n hk.2.2.2.1.1;exact⟨by omega,by omega⟩
 |_=>trivial
theorem ahM{aB:Nat}(G:dZ p)(hV:qm (aO p) p.want.length (nQ p) m V)(hI:Inv (a7 (nQ p)) (aO p) p.want.length (nQ p) aB V qs aw X g)(hq:qs[w]?=some h.q)(bv:kT op)(hk:kr p V.W X op h)(fe:∀o,h.ph≠.fin o):sH (aO p) m (qp (aO p) w op h)=false:=by
 have hL:=Gm G;have hN:=pm G;have nt:=iX G;have hnd:(aO p).node=10+12*(p.want.length:Int)+p.b:=rfl;have low:∀a:bz,a.cell<(aO p).node->sH (aO p) m a=false:=λ a ha=>by unfold sH;rw[if_pos (.inl ha)]
 obtain⟨ph,q,made⟩:=h;cases ph with
 |sz=>refine low _ ?_;show fq (aO p) op.obj 0<_;rw[bv.2.1,Gy G,hnd];unfold cT;omega
 |ld z al b=>have hb:0<=b/\b<p.b:=⟨hk.2.1.1,by have:=hk.2.1.2;have:=hk.1.2;omega⟩;refine low _ ?_;show il (aO p) op.obj b<_;rw[bv.2.1,Dn G hb.1 hb.2,hnd];unfold aQ;omega
 |cb z al c n=>have hb:0<=c/\c<p.b:=⟨by have:=hk.2.1.1;omega,by have:=hk.2.1.2;have:=hk.1.2;omega⟩;refine low _ ?_;show il (aO p) op.obj c<_;rw[bv.2.1,Dn G hb.1 hb.2,hnd];unfold aQ;omega
 |ad z o=>refine low _ ?_;show fq (aO p) op.obj 1<_;rw[bv.2.1,V9 G,hnd];unfold d8;omega
 |cz z o=>refine low _ ?_;show fq (aO p) op.obj 0<_;rw[bv.2.1,Gy G,hnd];unfold cT;omega
 |fin o=>exact absurd rfl (fe o)
 |li z aU d aN=>
  have hf:q.R.gX:=hk.2.2.2.2.1;have hq:qs[w]?=some q:=hq;have aeO:vD (aO p) m=aw:=agF hL (by omega) hV hI;show sH (aO p) m ((aS U w q.R).acc (aO p))=false;have yh:((aS U w q.R).acc (aO p)).cell=(aS U w q.R).ad.cell (aO p):=ZV _;unfold sH;rw[aeO,yh];split
  ·rfl
  ·rename_i F;rw[Bool.eq_false_iff];intro yf;rw[List.any_eq_true] at yf;obtain⟨n,hn,he⟩:=yf;have he:=of_decide_eq_true he;have c6:=hI.Bt hn;have ct:=(hI.loc w q hq).R;have wS:∀x:Int,x∈X\/Dq (a7 (nQ p)) qs x->x≠n:=λ x hx e=>by
    subst e;rcases hx with h|h
    ·have h1:=List.count_pos_iff.2 h;have u:=List.count_pos_iff.2 hn;have:=hI.one x;omega
    ·exact(hI.dq h).2.2 hn
   have lb:∀x∈own (a7 (nQ p)) q,x≠n:=λ x hx e=>by
    subst e;exact(hI.vN hq hx).1 hn
   have hA:=aap (yX G) hI hq hf hn (λ k i hk=>by
    obtain⟨R,s⟩:=q;simp only at hk;subst hk;have fZ:nK (nQ p) V.W X (Pr (a7 (nQ p)) V X qs w s) k:=ct.1;have CH:∀{i x:Int},Pr (a7 (nQ p)) V X qs w s i x->x≠n:=λ h=>wS _ (qS h)
    have jj:∀{i x:Int},PD (nQ p) V.W X (Pr (a7 (nQ p)) V X qs w s) i x->x≠n:=λ h=>h.2.2.elim CH λ h=>wS _ (.inl h.1)
    have h1:(1:Int)≠n:=by obtain⟨bK,hY⟩:=S8 hI.si;exact wS 1 (.inl (by rw[hY];simp))
    cases k with
    |ls o f a b D cur aA t=>exact λ e=>by simp only[U,bh,Ak.ad,bM,Ad.nd.injEq] at e;exact jj fZ.1.pp e.1
    |lo o f a b D cur aA t k=>exact λ e=>by simp only[U,bh,Ak.ad,Ad.nd.injEq] at e;exact CH fZ.1.R e.1
    |cu o f a b D cur aA=>exact λ e=>by simp only[U,bh,Ak.ad,bM,Ad.nd.injEq] at e;exact jj fZ.1.pp e.1
    |gv o cur pt=>exact λ e=>by simp only[U,bh,Ak.ad,Ad.nd.injEq] at e;obtain⟨_,G⟩:=fZ.2.2.1;exact CH G e.1
    |p1 o v cO D cur=>exact λ e=>by simp only[U,bh,Ak.ad,Ad.nd.injEq] at e;exact lb cO (by simp[own,eQ,a7,ed]) e.1
    |p2 o v cO D cur=>exact λ e=>by simp only[U,bh,Ak.ad,Ad.nd.injEq] at e;exact lb cO (by simp[own,eQ,a7,ed]) e.1
    |p0 o v cO D cur=>exact λ e=>by simp only[U,bh,Ak.ad,Ad.nd.injEq] at e;exact lb cO (by simp[own,eQ,a7,ed]) e.1
    |cp o v cO D cur=>exact λ e=>by simp only[U,bh,Ak.ad,bM,Ad.nd.injEq] at e;obtain⟨_,G⟩:=fZ.1.pp;exact jj G e.1
    |cm o D cur aA=>exact λ e=>by simp only[U,bh,Ak.ad,Ad.nd.injEq] at e;obtain⟨_,G⟩:=fZ.1.R;exact CH G e.1
    |cd o D cur nx a=>exact λ e=>by simp only[U,bh,Ak.ad,bM,Ad.nd.injEq] at e;obtain⟨_,G⟩:=fZ.1.pp;exact jj G e.1
    |_=>exact λ e=>by simp only[U,bh,Ak.ad,Ad.nd.injEq] at e;exact h1 e.1) (λ k i c j hk=>by
    obtain⟨R,s⟩:=q;simp only at hk;subst hk;have CH:∀{i x:Int},Pr (a7 (nQ p)) V X qs w s i x->x≠n:=λ h=>wS _ (qS h)
    obtain⟨fZ,_,_,_,_,hg⟩:=ct;cases k with
    |ga o f=>exact λ e=>by rw[hg.2] at e;simp only[Ad.nd.injEq] at e;exact wS _ (.inl (show lP _ _ _ _ from fZ.2).x) e.1
    |gb o f a b D cur=>exact λ e=>by rw[hg.2] at e;simp only[Ad.nd.injEq] at e;exact CH (show oK _ _ _ _ _ _ _ _ _ _ from fZ).R.2 e.1
    |_=>exact absurd hg id)
   have dR:=akr hL (Rw (yX G) hI hq hf) c6.1 c6.2 hA.1 hA.2;have e0:=hL.node n 0 c6.1 c6.2 (by omega) (by omega);omega
end
theorem GH.step{p:bU}(G:dZ p){i:Nat}{t:cP}{V:Vw}{aw X:List Int}{g:dF}(hG:GH p i t V aw X g)(hi:i+1<=100000){au:Nat}(vu:au<p.want.length):∃ba cE be bg,nW p au t V aw X g (kJ (aO p) p.want t au) ba cE be bg/\GH p (i+2) (kJ (aO p) p.want t au) ba cE be bg:=by
 have hL:=Gm G;have T:=yX G;have hN:=pm G;obtain⟨x,hx⟩:∃x,t.ar[au]?=some x:=⟨t.ar[au]'(by have:=hG.n;omega),List.getElem?_eq_getElem _⟩;obtain⟨ws,jH⟩:∃ws,p.want[au]?=some ws:=⟨p.want[au],List.getElem?_eq_getElem vu⟩;have vw:=hG.iv au x hx;rw[afz (aO p) p.want t au hx jH];have Bh:=xv (p:=p) hx;have Wt:∀(y:bp),kT y.op->lM (aO p) p.want.length (nQ p) y.op (sd y.gone) y.log->oq (aO p) au y.gone y.op y.log=wm (aO p) au y.op (bo p y):=by
  intro y bv mP;have fY:y.op.kind≠0:=by rcases bv.1 with h|h|h<;>omega
  have:=ae1 (l:=aO p) (S:=p.want.length) (N:=nQ p) (O:=(au:Int)) rfl hL (by omega) bv.1 (by rw[bv.2.1,Gy G];unfold cT;omega) bv.2.2.1 mP;rw[this];unfold bo;rw[if_neg fY]
 have key:∀(y:bp),kT y.op->y.steps.length=y.log.length->rf ws x=some y->(∀o,(bo p y).ph≠.fin o)->(bo p y).made=y.log.length->lM (aO p) p.want.length (nQ p) y.op (sd y.gone) y.log->kr p V.W X y.op (bo p y)->(bo p y).q=(bo p x).q->
  ∃ba cE be bg,nW p au t V aw X g (lB (aO p) t au y) ba cE be bg/\GH p (i+2) (lB (aO p) t au y) ba cE be bg:=by
  intro y bv cx Nz fe ue mP vg yt;have fY:y.op.kind≠0:=by rcases bv.1 with h|h|h<;>omega
  have Bk:(jK p t.ar)[au]?=some (bo p y).q:=by rw[yt];exact Bh
  have Bm:=Wt y bv mP;have UI:=ahM G hG.view hG.inv Bk bv vg fe;have Is:=adK G hG.view hG.inv (by omega) Bk bv vg fe;have jW:=J3 G hG.inv hi Bk bv vg hG.nh fe;generalize cU:bo p y=h at Bk Bm UI fe Is jW ue vg;have he:wm (aO p) au y.op h=(qp (aO p) au y.op h,gl,false):=by
   unfold wm;split
   ·rename_i o h1;exact absurd h1 (fe o)
   ·rfl
  have N7:lB (aO p) t au y=⟨(iw t.m (qp (aO p) au y.op h)).1,t.step+1,t.ar.set au {y with log:=y.log++[(cF p au y.op h V).2],steps:=y.steps++[t.step]},t.calls,t.full,t.cD,t.bad⟩:=by unfold lB;simp only[Bm,he,Bool.false_eq_true,if_false,Is.fault,if_true,Is.res,UI,Bool.or_false]
  rw[N7];have e1:bo p {y with log:=y.log++[(cF p au y.op h V).2],steps:=y.steps++[t.step]}=eW (aO p) p.want.length y.op h (cF p au y.op h V).2:=by rw[<-cU];unfold bo;simp only[fY,if_false];rw[XZ]
  refine⟨_,_,_,_,.acc x y ws h i hx jH Nz bv cU.symm fe vg ue cx hi Bk hG.inv,⟨by simp[hG.n],Is.view,?_,?_,jW.nh,hG.bad,hG.cD⟩⟩
  ·simp only;rw[Xq,e1];exact jW.inv
  ·intro w z hz;simp only at hz;rcases pw hx hz with⟨rfl,rfl⟩|⟨_,h1⟩
   ·refine⟨.inr bv,by simp[cx],λ _=>by rw[e1,jW.made,ue];simp,λ _=>?_,λ _=>by rw[e1];exact jW.hk⟩;refine mP.snoc _ ?_;have e2:bo p {y with log:=y.log++[(cF p w y.op h V).2],steps:=y.steps++[t.step]}=nR (aO p) p.want.length y.op (sd y.gone) (y.log++[(cF p w y.op h V).2]):=by
     unfold bo;simp only[fY,if_false]
    rw[<-e2,e1];exact aeB G jW.inv jW.hk
   ·have u:=hG.iv w z h1;exact⟨u.op,u.len,u.made,u.MT,λ h0=>(u.hk h0).mH G jW.mH⟩
 by_cases h0:x.op.kind=0
 ·cases ho:ws[x.next]? with
  |none=>
   have F:rf ws x=none:=by unfold rf;rw[if_pos h0,ho];rfl
   rw[F];exact⟨V,aw,X,g,.idle x ws hx jH h0 (List.getElem?_eq_none_iff.1 ho),⟨hG.n,hG.view,hG.inv.pU T (by omega),hG.iv,hG.nh,hG.bad,hG.cD⟩⟩
  |some op=>
   have F:rf ws x=some ⟨op,[],[],x.next+1,x.gone⟩:=by unfold rf;rw[if_pos h0,ho];rfl
   rw[F];have bv:=G.ops ws (List.mem_of_getElem? jH) op (List.mem_of_getElem? ho);have fY:op.kind≠0:=by rcases bv.1 with h|h|h<;>omega
   have I4:bo p ⟨op,[],[],x.next+1,x.gone⟩=sd x.gone:=by
    unfold bo;simp only[fY,if_false]
    rfl
   refine key _ bv rfl F (by rw[I4];intro o h;cases h) (by rw[I4];rfl) (λ k hk=>?_) (by rw[I4];exact⟨gl,rfl⟩) ?_
   ·have:k=0:=by simpa using hk
    subst this
    trivial
   ·rw[I4];unfold bo;rw[if_pos h0];rfl
 ·have F:rf ws x=some x:=by unfold rf;rw[if_neg h0]
  rw[F];have bv:=vw.op.resolve_left h0
  by_cases hf:∃o,(bo p x).ph=.fin o
  ·obtain⟨o,ct⟩:=hf;have Bm:=Wt x bv (vw.MT h0);have mr:x.log≠[]:=λ Z=>by
    unfold bo at ct;rw[if_neg h0,Z] at ct;cases ct
   have ue:=vw.made h0;have vg:=vw.hk h0;generalize cU:bo p x=h at Bh Bm ct ue vg;have k9:xr o h.made/\rR h.q:=by unfold kr at vg;rw[ct] at vg;exact vg
   have he:wm (aO p) au x.op h=(iB,{o with gone:=h.q.s.gone},true):=by unfold wm;rw[ct]
   have N7:lB (aO p) t au x=jw t au x {o with gone:=h.q.s.gone}:=by unfold lB;simp only[Bm,he,if_true]
   simp only[N7];refine⟨V,aw,X,g,.done x h o hx h0 cU.symm ct mr (by rw[<-ue];exact k9.1) k9.2,?_⟩;have ox:∀(y:bp),y={x with op:=gZ,gone:=h.q.s.gone}->Inv (a7 (nQ p)) (aO p) p.want.length (nQ p) (i+2) V (jK p (t.ar.set au y)) aw X g/\∀(w:Nat)(z:bp),(t.ar.set au y)[w]?=some z->Q6 p V.W X z:=by
    intro y hy;refine⟨?_,λ w z hz=>?_⟩
    ·rw[Xq];have Bk:(bo p y).q=pS h.q.s.gone:=by unfold bo;rw[if_pos (by rw[hy];rfl),hy]
     rw[Bk];obtain⟨o',cY⟩:=k9.2;obtain⟨ph,⟨R,amI⟩,made⟩:=h;simp only at cY;subst cY;exact(aga T hG.inv Bh gl).pU T (by omega)
    ·rcases pw hx hz with⟨_,rfl⟩|⟨_,h1⟩
     ·have hk:z.op.kind=0:=by rw[hy];rfl
      exact⟨.inl hk,by rw[hy];exact vw.len,λ h=>absurd hk h,λ h=>absurd hk h,λ h=>absurd hk h⟩
     ·exact hG.iv w z h1
   obtain⟨IE,CX⟩:=ox _ rfl;have lc:(t.ar.set au {x with op:=gZ,gone:=h.q.s.gone}).length=p.want.length:=by simp[hG.n]
   have kI:¬x.steps.length=0:=by
    have h1:=vw.len;have u:x.log.length≠0:=λ h=>mr (List.length_eq_zero_iff.1 h)
    omega
   have o6:=k9.1.1;unfold jw;simp only
   by_cases h8:o.err=8
   ·rw[if_pos h8];exact⟨lc,hG.view,IE,CX,hG.nh,hG.bad,hG.cD⟩
   ·rw[if_neg h8,if_neg (by
     rintro(h|h)
     ·exact h (o6.resolve_right h8)
     ·exact kI h)]
    exact⟨lc,hG.view,IE,CX,hG.nh,hG.bad,hG.cD⟩
  ·exact key x bv vw.len F (λ o h=>hf ⟨o,h⟩) (vw.made h0) (vw.MT h0) (vw.hk h0) rfl
def V0(S N:Nat):Vw:=⟨1,2,λ _ _=>0,λ n=>if n=1 then 1 else 0,λ n=>if n=1\/n=(N:Int) then 0 else n+1,⟨λ c=>if c=8+12*(S:Int)\/c=10+12*(S:Int) then 1 else 0,λ _ _=>0⟩⟩
def LH(S b:Nat):Bool:=
 let l:=bR S (16+(b:Int)) b
 let m:=tS l
 decide (m.length=l.size.toNat)&&decide (eY m l.free=2)&&decide (eY m l.era=1)&&
 ((List.range 60).all λ c=>(decide (c<4+5*S)||decide (10+12*S+b<=c))||decide (eY m c=(V0 S (16+b)).W.ob c))&&
 ((List.range S).all λ w=>(List.range 3).all λ i=>decide (eY m (fU l w i)=0))&&
 ((List.range (16+b)).all λ n=>((List.range 6).all λ i=>decide (eY m (bf l ((n:Int)+1) i)=0))&&decide (eY m (bf l ((n:Int)+1) 6)=(V0 S (16+b)).bi ((n:Int)+1))&&decide (eY m (bf l ((n:Int)+1) 7)=(V0 S (16+b)).lk ((n:Int)+1)))
theorem aaH:((List.range 3).all λ a=>[1,2,4,8].all λ b=>LH (a+1) b)=true:=by decide+kernel
theorem ago{p:bU}(G:dZ p):aO p=bR p.want.length (16+(p.b.toNat:Int)) p.b.toNat:=by have:=iX G;unfold aO;rw[show((p.b.toNat:Nat):Int)=p.b by omega]
theorem akz{p:bU}(G:dZ p):qm (aO p) p.want.length (nQ p) (tS (aO p)) (V0 p.want.length (nQ p)):=by
 have h1:=G.w1;have J:=G.w3;have nt:=iX G;have Nr:p.b.toNat=1\/p.b.toNat=2\/p.b.toNat=4\/p.b.toNat=8:=by rcases G.bk with h|h|h|h<;>omega
 have hz:(p.b.toNat:Int)=p.b:=by omega
 unfold nQ;rw[ago G];clear hz;generalize p.b.toNat=b at*;generalize p.want.length=S at*;have ami:(bR S (16+(b:Int)) b).node=10+12*(S:Int)+b:=rfl;have hb:LH S b=true:=by have h:=List.all_eq_true.1 (List.all_eq_true.1 aaH (S-1) (List.mem_range.2 (by omega))) b (by simp only[List.mem_cons,List.not_mem_nil,or_false];exact Nr);rw[show S-1+1=S by omega] at h;exact h
 unfold LH at hb;simp only[Bool.and_eq_true,decide_eq_true_eq,List.all_eq_true,Bool.or_eq_true] at hb;obtain⟨⟨⟨⟨⟨b1,b2⟩,b3⟩,b4⟩,b5⟩,b6⟩:=hb;refine⟨b1,λ a ha=>?_⟩;cases a with
 |era=>exact b3
 |free=>exact b2
 |ob c=>
  obtain⟨c1,c2⟩:=ha;have:=b4 c.toNat (List.mem_range.2 (by omega));rw[show((c.toNat:Nat):Int)=c by omega] at this;rcases this with h|h
  ·omega
  ·exact h
 |rv w i=>obtain⟨w0,w1,i0,i1⟩:=ha;have:=b5 w.toNat (List.mem_range.2 (by omega)) i.toNat (List.mem_range.2 (by omega));rw[show((w.toNat:Nat):Int)=w by omega,show((i.toNat:Nat):Int)=i by omega] at this;exact this
 |nd n i=>obtain⟨n0,n1,i0,i1⟩:=ha;have:=(b6 (n-1).toNat (List.mem_range.2 (by omega))).1.1 i.toNat (List.mem_range.2 (by omega));rw[show(((n-1).toNat:Nat):Int)=n-1 by omega,show((i.toNat:Nat):Int)=i by omega,show n-1+1=n by omega] at this;exact this
 |bi n=>obtain⟨n0,n1⟩:=ha;have:=(b6 (n-1).toNat (List.mem_range.2 (by omega))).1.2;rw[show(((n-1).toNat:Nat):Int)=n-1 by omega,show n-1+1=n by omega] at this;exact this
 |lk n=>obtain⟨n0,n1⟩:=ha;have:=(b6 (n-1).toNat (List.mem_range.2 (by omega))).2;rw[show(((n-1).toNat:Nat):Int)=n-1 by omega,show n-1+1=n by omega] at this;exact this
def y7(a:Int):Nat->List Int
 |0=>[]
 |k+1=>a::y7 (a+1) k
theorem Y5(n:Int):∀(k:Nat)(a:Int),(y7 a k).count n=if a<=n/\n<a+k then 1 else 0
 |0,a=>by simp only[y7,List.count_nil];rw[if_neg (by omega)]
 |k+1,a=>by
  rw[y7,List.count_cons,Y5 n k (a+1)]
  by_cases h:a=n
  ·subst h;rw[if_neg (show¬(a+1<=a/\a<a+1+(k:Int)) by omega),if_pos (show a<=a/\a<a+((k+1:Nat):Int) by omega)];simp
  ·have hb:(a==n)=false:=by simp[h]
   rw[hb]
   by_cases u:a+1<=n/\n<a+1+(k:Int)
   ·rw[if_pos u,if_pos (show a<=n/\n<a+((k+1:Nat):Int) by omega)];rfl
   ·rw[if_neg u,if_neg (show¬(a<=n/\n<a+((k+1:Nat):Int)) by omega)];rfl
theorem Y6(S N:Nat):∀(k:Nat)(a:Int),2<=a->a+k=N+1->md (V0 S N).lk (y7 a k)
 |0,a,_,_=>trivial
 |k+1,a,u,h=>by
  refine⟨?_,Y6 S N k (a+1) (by omega) (by omega)⟩;simp only[V0];cases k with
  |zero=>rw[if_pos (by omega)];rfl
  |succ k=>rw[if_neg (by omega)];rfl
def g0:dF:=⟨1,0⟩
theorem KZ{p:bU}(G:dZ p):GH p 1 (i6 (aO p) p.want.length) (V0 p.want.length (nQ p)) (y7 2 (nQ p-1)) [1] g0:=by
 have hv:=akz G;have nt:=iX G;have hN:=O0 G;have yv:∀(w:Nat)(x:bp),(i6 (aO p) p.want.length).ar[w]?=some x->x=kH:=by
  intro w x hx;simp only[i6,List.getElem?_replicate] at hx;split at hx
  ·cases hx;rfl
  ·cases hx
 have uk:(bo p kH).q=pS []:=rfl;have cq:∀(w:Nat)(q:Q Lk),(jK p (i6 (aO p) p.want.length).ar)[w]?=some q->q=pS []:=by
  intro w q hq;unfold jK at hq;rw[List.getElem?_map] at hq;rcases hz:(i6 (aO p) p.want.length).ar[w]? with _|x
  ·rw[hz] at hq;cases hq
  ·rw[hz] at hq;cases hq;rw[yv w x hz];rfl
 have jW:∀n,r6 (a7 (nQ p)) (jK p (i6 (aO p) p.want.length).ar) n=0:=by
  intro n;unfold r6;have key:∀(l:List (Q Lk)),(∀q∈l,own (a7 (nQ p)) q=[])->(l.map λ q=>(own (a7 (nQ p)) q).count n).sum=0:=by
   intro l;induction l with
   |nil=>intro _;rfl
   |cons q l ih=>
    intro h;rw[List.map_cons,List.sum_cons,h q (by simp),ih (λ a6 eO=>h a6 (by simp[eO]))]
    rfl
  refine key _ (λ q hq=>?_);obtain⟨w,hw⟩:=List.getElem?_of_mem hq;rw[cq w q hw];rfl
 have hD:∀n,¬Dq (a7 (nQ p)) (jK p (i6 (aO p) p.want.length).ar) n:=λ n⟨j,q,hq,hn⟩=>by
  rw[cq j q hq] at hn;simp[eC,eJ,k7,pS] at hn
 refine⟨by simp[i6],hv,?_,λ w x hx=>?_,?_,rfl,rfl⟩
 ·refine⟨by simp[jK,i6],?_,by simp[V0],by simp[V0],Y6 _ _ _ 2 (by omega) (by omega),λ n=>?_,λ n n0 n1=>?_,⟨rfl,λ n hn _=>by show(0:Int)<65536;omega,λ n hn=>absurd hn (hD n),⟨rfl,trivial⟩,λ n hn=>⟨.inl rfl,by show(0:Int)<=_;omega⟩,λ n hn=>absurd hn (hD n),List.pairwise_singleton _ _,λ n hn=>?_,rfl,by simp[g0]⟩,λ w q hq=>?_⟩
  ·obtain⟨k,hk⟩:∃k,nQ p-1=k+1:=⟨nQ p-2,by omega⟩;rw[hk];simp[V0,y7]
  ·have F:List.count n [(1:Int)]=if n=1 then 1 else 0:=by
    by_cases h:n=1
    ·subst h;rfl
    ·rw[if_neg h];exact List.count_eq_zero.2 (by simpa using h)
   rw[jW,Y5,F]
   by_cases h1:n=1
   ·rw[if_neg (by omega),if_pos h1,if_pos (by omega)]
   ·rw[if_neg h1]
    by_cases u:2<=n/\n<2+((nQ p-1:Nat):Int)
    ·rw[if_pos u,if_pos (by omega)]
    ·rw[if_neg u,if_neg (by omega)]
  ·show(if n=1 then(1:Int) else 0)<=1;split<;>omega
  ·have:n=1:=by simpa using hn
   omega
  ·rw[cq w q hq];have e0:∀i:Int,(⟨0,[],0,0,0⟩:ag).e i=0:=λ i=>by
    unfold ag.e;split
    ·rfl
    ·split<;>rfl
   refine⟨λ i _ _=>?_,λ i=>?_,⟨rfl,rfl,rfl⟩⟩
   ·show(0:Int)=_;exact(e0 i).symm
   ·show 0<=(⟨0,[],0,0,0⟩:ag).e i/\(⟨0,[],0,0,0⟩:ag).e i<=1;rw[e0];omega
 ·rw[yv w x hx];exact⟨.inl rfl,rfl,λ h=>absurd rfl h,λ h=>absurd rfl h,λ h=>absurd rfl h⟩
 ·refine⟨?_,?_,λ c h0 h1=>?_⟩
  ·show lI p (if cT p=8+12*(p.want.length:Int)\/_ then 1 else 0);rw[if_pos (.inl rfl)];exact⟨.inl rfl,by omega⟩
  ·show(if aQ p 0=8+12*(p.want.length:Int)\/aQ p 0=10+12*(p.want.length:Int) then(1:Int) else 0)=1;rw[if_pos (.inr (by unfold aQ;omega))]
  ·by_cases e:c=0
   ·subst e;refine .inr ?_;have:(V0 p.want.length (nQ p)).W.ob (aQ p 0)=1:=by
     show(if aQ p 0=8+12*(p.want.length:Int)\/aQ p 0=10+12*(p.want.length:Int) then(1:Int) else 0)=1;rw[if_pos (.inr (by unfold aQ;omega))]
    rw[this];exact⟨by simp,by rw[show fv 0=0 from Aj.1];rfl⟩
   ·refine .inl ?_;show(if aQ p c=8+12*(p.want.length:Int)\/aQ p c=10+12*(p.want.length:Int) then(1:Int) else 0)=0;rw[if_neg (by unfold aQ;omega)]
def bN(S:Nat)(ts:List Int)(i:Nat):Nat:=match ts[i]? with
 |some t=>(t%(S:Int)).toNat
 |none=>(i-ts.length)/1500
def bb(p:bU)(ts:List Int):Nat->cP
 |0=>i6 (aO p) p.want.length
 |i+1=>kJ (aO p) p.want (bb p ts i) (bN p.want.length ts i)
def hZ(p:bU)(ts:List Int):Nat:=ts.length+1500*p.want.length
theorem KN{p:bU}(G:dZ p){ts:List Int}{i:Nat}(hi:i<hZ p ts):bN p.want.length ts i<p.want.length:=by
 have h1:=G.w1;unfold bN;split
 ·rename_i t ht;have:=Int.emod_nonneg t (show(p.want.length:Int)≠0 by omega);have:=Int.emod_lt_of_pos t (show(0:Int)<p.want.length by omega);omega
 ·rename_i hn;have hn:ts.length<=i:=List.getElem?_eq_none_iff.1 hn;unfold hZ at hi;rw[Nat.div_lt_iff_lt_mul (by omega)];omega
theorem KD{p:bU}(G:dZ p){ts:List Int}(dR:ts.length<=300)(tm:Nat->Vw->List Int->List Int->dF->Prop)
 (h0:tm 0 (V0 p.want.length (nQ p)) (y7 2 (nQ p-1)) [1] g0)
 (hJ:∀i V aw X g ba cE be bg,i<hZ p ts->GH p (2*i+1) (bb p ts i) V aw X g->nW p (bN p.want.length ts i) (bb p ts i) V aw X g (bb p ts (i+1)) ba cE be bg->GH p (2*(i+1)+1) (bb p ts (i+1)) ba cE be bg->tm i V aw X g->tm (i+1) ba cE be bg):
 ∀i,i<=hZ p ts->∃V aw X g,GH p (2*i+1) (bb p ts i) V aw X g/\tm i V aw X g
 |0,_=>⟨_,_,_,_,KZ G,h0⟩
 |i+1,hi=>by
  obtain⟨V,aw,X,g,h1,u⟩:=KD G dR tm h0 hJ i (by omega);have dH:hZ p ts<=4800:=by have:=G.w3;unfold hZ;omega
  obtain⟨ba,cE,be,bg,J,h4⟩:=h1.step G (by omega) (KN G (show i<hZ p ts by omega));exact⟨ba,cE,be,bg,h4,hJ i V aw X g ba cE be bg (by omega) h1 J h4 u⟩
theorem YB{p:bU}(G:dZ p){ts:List Int}(dR:ts.length<=300){i:Nat}(hi:i<=hZ p ts):(bb p ts i).bad=false:=by obtain⟨V,aw,X,g,h,_⟩:=KD G dR (λ _ _ _ _ _=>True) trivial (λ _ _ _ _ _ _ _ _ _ _ _ _ _ _=>trivial) i hi;exact h.bad
theorem Y1{p:bU}{ts:List Int}:∀(k i:Nat),i+k=ts.length->vr (aO p) p.want (bb p ts i) ((ts.drop i).map λ x=>(x%(p.want.length:Int)).toNat)=bb p ts ts.length
 |0,i,h=>by
  have:i=ts.length:=by omega
  subst this;rw[List.drop_length];rfl
 |k+1,i,h=>by
  have aY:i<ts.length:=by omega
  rw[List.drop_eq_getElem_cons aY,List.map_cons,vr];have e:bb p ts (i+1)=kJ (aO p) p.want (bb p ts i) (ts[i]%(p.want.length:Int)).toNat:=by rw[bb];unfold bN;rw[List.getElem?_eq_getElem aY]
  rw[<-e];exact Y1 k (i+1) (by omega)
theorem Rk{p:bU}(G:dZ p){ts:List Int}(dR:ts.length<=300){w:Nat}:∀(k i:Nat),i+k<=hZ p ts->(∀j,i<=j->j<i+k->bN p.want.length ts j=w)->vd (aO p) p.want w k (bb p ts i)=bb p ts (i+k)
 |0,i,_,_=>rfl
 |k+1,i,hk,hw=>by
  rw[vd,YB G dR (by omega),if_neg (by simp)];have e:bb p ts (i+1)=kJ (aO p) p.want (bb p ts i) w:=by rw[bb,hw i (Nat.le_refl _) (by omega)]
  rw[<-e,Rk G dR k (i+1) (by omega) (λ j h1 u=>hw j (by omega) (by omega)),show i+1+k=i+(k+1) by omega]
theorem XC{p:bU}(G:dZ p){ts:List Int}(dR:ts.length<=300)(K:∀w,w<p.want.length->CO (bb p ts (ts.length+1500*(w+1))) p.want w=true):∀(k w:Nat),w+k=p.want.length->Bl (aO p) p.want w k (bb p ts (ts.length+1500*w))=bb p ts (hZ p ts)
 |0,w,h=>by
  have:w=p.want.length:=by omega
  subst this
  rfl
 |k+1,w,h=>by
  have dH:hZ p ts=ts.length+1500*p.want.length:=rfl;have e:=Rk G dR (w:=w) 1500 (ts.length+1500*w) (by omega) (λ j h1 u=>by
   unfold bN;rw[List.getElem?_eq_none (by omega)];show(j-ts.length)/1500=w;omega)
  rw[Bl];simp only[e];rw[show ts.length+1500*w+1500=ts.length+1500*(w+1) by omega] at*;rw[K w (by omega)];have hb:=YB G dR (ts:=ts) (i:=ts.length+1500*(w+1)) (by omega);have e2:({bb p ts (ts.length+1500*(w+1)) with bad:=(bb p ts (ts.length+1500*(w+1))).bad||!true}:cP)=bb p ts (ts.length+1500*(w+1)):=by
   rw[hb];generalize bb p ts (ts.length+1500*(w+1))=t at hb;obtain⟨m,st,amJ,alg,alv,wi,ald⟩:=t;simp only at hb;subst hb
   rfl
  rw[e2];exact XC G dR K k (w+1) (by omega)
theorem aiF{p:bU}(G:dZ p){ts:List Int}(dR:ts.length<=300)(K:∀w,w<p.want.length->CO (bb p ts (ts.length+1500*(w+1))) p.want w=true):vo (aO p) p.want ts=bb p ts (hZ p ts):=by have h1:=Y1 (p:=p) (ts:=ts) ts.length 0 (by omega);rw[List.drop_zero] at h1;have u:=XC G dR K p.want.length 0 (by omega);unfold vo;rw[show i6 (aO p) p.want.length=bb p ts 0 from rfl,h1];exact u
def dT(W:Ws)(X:List Int):Nat:=X.countP λ n=>decide (W.nd n 1%2=1)
def dS(W:Ws)(X:List Int):Nat:=X.countP λ n=>(av (W.nd n 0)).mark
section
variable{W W':Ws}{X A B:List Int}{n:Int}
theorem Alike.dT(h:Alike W W' X):dT W' X=Go.Proofs.YtkkldicehapklaaGreat.Tq.dT W X:=List.countP_congr λ m hm=>by rw[(h.key m hm).1]
theorem Alike.dS(h:Alike W W' X):dS W' X=Go.Proofs.YtkkldicehapklaaGreat.Tq.dS W X:=List.countP_congr λ m hm=>by rw[h.mark m hm]
theorem JT:dT W (A++n::B)=dT W (A++B)+if W.nd n 1%2=1 then 1 else 0:=by
 unfold dT;rw[List.countP_append,List.countP_append,List.countP_cons]
 by_cases h:W.nd n 1%2=1<;>simp[h]<;>omega
theorem JL:dS W (A++n::B)=dS W (A++B)+if(av (W.nd n 0)).mark=true then 1 else 0:=by
 unfold dS;rw[List.countP_append,List.countP_append,List.countP_cons]
 by_cases h:(av (W.nd n 0)).mark=true<;>simp[h]<;>omega
end
inductive uM(W W':Ws)(X be:List Int)(g bg:dF)(k:Lk)(res:aJ):Prop where
 |same (hX:be=X) (hr:bg.ret=g.ret) (ho:dT W' X=dT W X) (hm:dS W' X=dS W X) (hn:Dd k->res.ok=false)
 |put (o:Or) (v n D cur:Int) (A B:List Int) (hk:k=.cp o v n D cur) (ge:res.ok=true) (hX:X=A++B) (vc:be=A++n::B) (cv:W'.nd n 1=o.o) (lh:∀m∈X,W.nd m 1≠o.o) (hr:bg.ret=g.ret) (ho:dT W' be=dT W X+if o.o%2=1 then 1 else 0) (hm:dS W' be=dS W X)
 |mark (o:Or) (D cur w:Int) (hk:k=.cm o D cur w) (ge:res.ok=true) (hX:be=X) (hr:bg.ret=g.ret) (ho:dT W' X=dT W X) (hm:dS W' X=dS W X+1)
 |cut (cur:Int) (hk:(∃o f a b D w,k=.cu o f a b D cur w)\/∃o D nx a,k=.cd o D cur nx a) (ge:res.ok=true) (Z:be.length+1=X.length) (T:∀m∈be,m∈X) (hr:bg.ret=g.ret+1) (ho:dT W' be+1=dT W X) (hm:dS W' be+1=dS W X)
section
variable{N aB S:Nat}{l:aI}{X:List Int}{aC:Int->Prop}{P:Int->Int->Prop}{g:dF}
theorem Sa{W W':Ws}{A B:List Int}{cur D:Int}(bq:eX N aB W X aC g)(T:uR W X D cur A (cur::B))(iS:Alike W W' (A++B))(hm:(av (W.nd cur 0)).mark=true)(Iv:65536<=W.nd cur 0):dT W' (A++B)+1=dT W X/\dS W' (A++B)+1=dS W X/\(A++B).length+1=X.length:=by
 have hX:=T.eq;have uh:W.nd cur 1%2=1:=by
  by_cases h:W.nd cur 1%2=1
  ·exact h
  ·have:=bq.even cur (by rw[hX];simp) (by omega);omega
 refine⟨?_,?_,by rw[hX];simp;omega⟩
 ·rw[iS.dT,hX,JT,if_pos uh]
 ·rw[iS.dS,hX,JL,if_pos hm]
theorem V1(hN:N<=100){V:Vw}{k:Lk}{s:ag}(bq:eX N aB V.W X aC g)(ho:Hv l S N V X g aC P k)(aF:cJ ⟨.at_ k,s⟩):
 uM V.W (br V.W (bh k)).1 X (cM V.W X g k).1 g (cM V.W X g k).2 k (br V.W (bh k)).2:=by
 have jj:∀{i n},PD N V.W X P i n->n∈X\/aC n:=λ h=>h.at_ ho.hP
 have pl:∀{n:Int},0<=n->n<=N->bt n=n:=λ h0 h1=>uA h0 (by omega)
 have hk:=ho.kl;cases k with
 |ls=>exact .same rfl rfl rfl rfl λ h=>absurd h id
 |lo=>exact .same rfl rfl rfl rfl λ h=>absurd h id
 |gv=>exact .same rfl rfl rfl rfl λ h=>absurd h id
 |cu o f a b D cur w=>
  obtain⟨h1,u,J,h4,h5⟩:=hk;have hw:=u.mark.1 h4;have hi:=jb w;have fD:=u.2;have c7:=h1.c1;have qz:=h1.cN;have e0:bt cur=cur:=pl (by omega) qz;have jT:bt (av w).idx=(av w).idx:=pl hi.1 fD
  by_cases F:V.W.nd D 0=cur
  ·have e1:br V.W (bh (.cu o f a b D cur w))=(V.W.put (bM D) (av w).idx,⟨cur,true⟩):=by simp only[bh,br,Ws.get,e0,jT,F,if_true]
   have e2:cM V.W X g (.cu o f a b D cur w)=(X.erase cur,{g with ret:=g.ret+1}):=by simp only[cM,Ws.get,e0,F,if_true]
   rw[e1,e2];obtain⟨_,_,_,_,A,B,T,f5,_⟩:=vW bq hN ho.nd ho.dx (jj h1.pp) c7 qz F (by rw[h5];exact hw) hi.1 fD (lK:=aC) (λ n hn=>.inl hn);obtain⟨c1,c2,c3⟩:=Sa bq T (Cf (W:=V.W) (D:=D) (v:=(av w).idx) _ (by omega) (by omega) (by omega) (by omega)) (by rw[h5];exact h4) (by rw[h5];omega);refine .cut cur (.inl ⟨o,f,a,b,D,w,rfl⟩) rfl ?_ (λ m hm=>List.mem_of_mem_erase hm) rfl ?_ ?_
   ·show(X.erase cur).length+1=_;rw[f5];exact c3
   ·show dT _ (X.erase cur)+1=_;rw[f5];exact c1
   ·show dS _ (X.erase cur)+1=_;rw[f5];exact c2
  ·have e1:br V.W (bh (.cu o f a b D cur w))=(V.W,⟨V.W.nd D 0,false⟩):=by simp only[bh,br,Ws.get,e0,F,if_false]
   have e2:cM V.W X g (.cu o f a b D cur w)=(X,g):=by simp only[cM,Ws.get,e0,F,if_false]
   rw[e1,e2];exact .same rfl rfl rfl rfl λ h=>absurd h id
 |p1 o v n D cur=>exact .same rfl rfl (tw (ho.mi n (by simp[ed])).1).dT (tw (ho.mi n (by simp[ed])).1).dS λ h=>absurd h id
 |p2 o v n D cur=>exact .same rfl rfl (tw (ho.mi n (by simp[ed])).1).dT (tw (ho.mi n (by simp[ed])).1).dS λ h=>absurd h id
 |p0 o v n D cur=>exact .same rfl rfl (tw (ho.mi n (by simp[ed])).1).dT (tw (ho.mi n (by simp[ed])).1).dS λ h=>absurd h id
 |cp o v n D cur=>
  obtain⟨h1,u,J,h4,h5⟩:=hk;have dP:=ho.mi n (by simp[ed]);have c6:=ho.hb n (.inr (.inl (by simp[ed])));obtain⟨i,hi⟩:=h1.R;obtain⟨j,hj⟩:=h1.pp;have fw:0<=cur/\cur<=N:=by
   rcases hi with rfl|hi
   ·omega
   ·omega
  have e0:bt cur=cur:=pl fw.1 fw.2;have jT:bt n=n:=pl (by omega) c6.2
  by_cases F:V.W.nd D 0=cur
  ·obtain⟨A,B,T,_,_⟩:=Jj bq (Nat.succ_le_succ bq.k) hN ho.nd (jj hj) fw.1 fw.2 F c6.1 c6.2 dP.1 dP.2 J h5 h1.kp h1.kc;have e1:br V.W (bh (.cp o v n D cur))=(V.W.put (bM D) n,⟨cur,true⟩):=by simp only[bh,br,Ws.get,e0,jT,F,if_true]
   have e2:cM V.W X g (.cp o v n D cur)=(A++n::B,{g with put:=g.put+1}):=by simp only[cM,Ws.get,e0,F,if_true];rw[JQ T ho.nd]
   have hA:=below bq T h1.kp;have hB:=Lo bq T h1.kc;have Be:D≠n:=λ e=>by
    subst e;rcases jj hj with G|G
    ·exact dP.1 G
    ·exact dP.2 G
   have gL:∀i,(V.W.put (bM D) n).nd n i=V.W.nd n i:=λ i=>by rw[l7,if_neg (λ hh=>Be hh.1.symm)]
   have iS:Alike V.W (V.W.put (bM D) n) (A++B):=Cf _ (by omega) (by omega) (by omega) (by omega);rw[e1,e2];refine .put o v n D cur A B rfl rfl T.eq rfl (by rw[gL];exact J) (λ m hm e=>?_) rfl ?_ ?_
   ·rw[T.eq] at hm;rcases List.mem_append.1 hm with hm|hm
    ·have:=hA m hm;omega
    ·have:=hB m hm;omega
   ·show dT _ (A++n::B)=_;rw[JT,iS.dT,<-T.eq,gL,J]
   ·show dS _ (A++n::B)=_;rw[JL,iS.dS,<-T.eq,gL,h5,JH (by omega) (by omega)];simp
  ·have e1:br V.W (bh (.cp o v n D cur))=(V.W,⟨V.W.nd D 0,false⟩):=by simp only[bh,br,Ws.get,e0,F,if_false]
   have e2:cM V.W X g (.cp o v n D cur)=(X,g):=by simp only[cM,Ws.get,e0,F,if_false]
   rw[e1,e2];exact .same rfl rfl rfl rfl λ _=>rfl
 |cm o D cur w=>
  obtain⟨h1,u,J,uh⟩:=hk;obtain⟨i,hi⟩:=h1.R;have hx:=jb w;have fD:=u.2;have e0:pk (av w).idx=(av w).idx+65536:=JG hx.1 (by omega)
  by_cases F:V.W.nd cur 0=w
  ·obtain⟨oa,_,_⟩:=JI bq hN (ho.hP _ _ hi) u J F (by rw[h1.kc];exact uh);have e1:br V.W (bh (.cm o D cur w))=(V.W.fF cur 0 ((av w).idx+65536),⟨w,true⟩):=by simp only[bh,br,Ws.get,e0,F,if_true];rfl
   obtain⟨A,B,hX,hA,hB⟩:=DU oa ho.nd;have mv:cur∉A++B:=by rw[List.mem_append];exact λ h=>h.elim hA hB
   have iS:Alike V.W (V.W.fF cur 0 ((av w).idx+65536)) (A++B):=tw mv;have n1:(V.W.fF cur 0 ((av w).idx+65536)).nd cur 1=V.W.nd cur 1:=by rw[mY,if_neg (by omega)]
   have n0:(V.W.fF cur 0 ((av w).idx+65536)).nd cur 0=(av w).idx+65536:=by rw[mY,if_pos ⟨rfl,rfl⟩]
   rw[e1];refine .mark o D cur w rfl rfl rfl rfl ?_ ?_
   ·rw[hX,JT,JT,iS.dT,n1]
   ·rw[hX,JL,JL,iS.dS,n0,if_pos ((Hj (N:=N) hx.1 fD hN).mark.2 (by rw[F8 hx.1 (by omega)])),F,if_neg J]
  ·have e1:br V.W (bh (.cm o D cur w))=(V.W,⟨V.W.nd cur 0,false⟩):=by simp only[bh,br,Ws.get,F,if_false]
   rw[e1];exact .same rfl rfl rfl rfl λ _=>rfl
 |cd o D cur nx at_=>
  obtain⟨h1,u,J,h4⟩:=hk;obtain⟨j,hj⟩:=h1.pp;have c7:=h1.c1;have qz:=h1.cN;have e0:bt cur=cur:=pl (by omega) qz;have jT:bt nx=nx:=pl J h4
  by_cases F:V.W.nd D 0=cur
  ·have e1:br V.W (bh (.cd o D cur nx at_))=(V.W.put (bM D) nx,⟨cur,true⟩):=by simp only[bh,br,Ws.get,e0,jT,F,if_true]
   have e2:cM V.W X g (.cd o D cur nx at_)=(X.erase cur,{g with ret:=g.ret+1}):=by simp only[cM,Ws.get,e0,F,if_true]
   rw[e1,e2];obtain⟨_,_,_,_,A,B,T,f5,_⟩:=vW bq hN ho.nd ho.dx (jj hj) c7 qz F u J h4 (lK:=aC) (λ n hn=>.inl hn);obtain⟨c1,c2,c3⟩:=Sa bq T (Cf (W:=V.W) (D:=D) (v:=nx) _ (by omega) (by omega) (by omega) (by omega)) (by rw[u];exact(Hj (N:=N) J h4 hN).mark.2 (by rw[F8 J (by omega)])) (by rw[u];omega);refine .cut cur (.inr ⟨o,D,nx,at_,rfl⟩) rfl ?_ (λ m hm=>List.mem_of_mem_erase hm) rfl ?_ ?_
   ·show(X.erase cur).length+1=_;rw[f5];exact c3
   ·show dT _ (X.erase cur)+1=_;rw[f5];exact c1
   ·show dS _ (X.erase cur)+1=_;rw[f5];exact c2
  ·have e1:br V.W (bh (.cd o D cur nx at_))=(V.W,⟨V.W.nd D 0,false⟩):=by simp only[bh,br,Ws.get,e0,F,if_false]
   have e2:cM V.W X g (.cd o D cur nx at_)=(X,g):=by simp only[cM,Ws.get,e0,F,if_false]
   rw[e1,e2];exact .same rfl rfl rfl rfl λ h=>absurd h id
 |_=>exact absurd aF id
variable{V:Vw}{qs:List (Q Lk)}{aw:List Int}{w:Nat}{q:Q Lk}
inductive KU(N S:Nat)(w:Nat)(V:Vw)(X:List Int)(g:dF)(q:Q Lk):Prop where
 |own (k:Lk) (hk:q.R=.at_ k) (h:uM V.W (act V (aS U w q.R)).1.W X (hc (a7 N) V.W X g q.R).1 g (hc (a7 N) V.W X g q.R).2 k (act V (aS U w q.R)).2)
 |vA (hk:∀k,q.R≠.at_ k) (hW:(act V (aS U w q.R)).1.W=V.W) (hX:hc (a7 N) V.W X g q.R=(X,g))
theorem Lp(hN:N<=100)(hI:Inv (a7 N) l S N aB V qs aw X g)(hq:qs[w]?=some q)(hf:q.R.gX)(aF:cJ q):KU N S w V X g q:=by
 have bq:eX N aB V.W X (Dq (a7 N) qs) g:=hI.si;have bV:∀(f v:Int),(act V (.cs .free f v)).1.W=V.W:=λ f v=>by simp only[act];split<;>rfl
 obtain⟨R,s⟩:=q;cases R with
 |at_ k=>have ho:=vO hN hI hq;have ha:act V (aS U w (.at_ k))=({V with W:=(br V.W (bh k)).1},(br V.W (bh k)).2):=ho.act;refine .own k rfl ?_;rw[ha];exact V1 hN bq ho aF
 |t3 k f lk=>exact .vA (λ _ h=>by cases h) (bV _ _) rfl
 |v3 k n f=>exact .vA (λ _ h=>by cases h) (bV _ _) rfl
 |w3 k held y gs stay f=>exact .vA (λ _ h=>by cases h) (bV _ _) rfl
 |fin o=>exact absurd hf id
 |bn k=>exact absurd hf id
 |_=>exact .vA (λ _ h=>by cases h) rfl rfl
def bO(N:Nat)(q:Q Lk):Nat:=(eC (a7 N) q).length
theorem gB(R:Pc Lk)(s:ag)(h:∀s,k7 (⟨R,s⟩:Q Lk)=s.gone):bO N ⟨R,s⟩=(eJ (a7 N) R).length+s.gone.length:=by unfold bO eC;rw[List.length_append,List.length_map,h]
theorem L8{k:Lk}{s:ag}(hk:(∃o,k=.fi o)\/∃n a,k=.rx n a):bO N (dJ U k s)=(iL k).length+s.gone.length:=by
 rcases wc (am:=U) k s with⟨i,_,_,_,h⟩|⟨_,h⟩
 ·rw[h,gB _ _ λ _=>rfl];rfl
 ·rw[h];rcases hk with⟨o,rfl⟩|⟨n,a,rfl⟩
  ·rw[show U.pD (.fi o)=.fin o from rfl,gB _ _ λ _=>rfl];rfl
  ·rw[show U.pD (.rx n a)=.r1 (.ry a) n from rfl,gB _ _ λ _=>rfl];rfl
theorem Ae(o:bd)(s:ag):bO N (aG U (.bn (.fi o)) s)=s.gone.length:=by have:=L8 (N:=N) (k:=.fi o) (s:=s) (.inl ⟨o,rfl⟩);rw[show aG U (.bn (.fi o)) s=dJ U (.fi o) s from rfl,this];show 0+_=_;omega
theorem Sd(o:Or)(f:Fk)(D cur pt:Int)(s:ag):bO N (aG U (d9 o f D cur pt) s)=s.gone.length:=by
 unfold d9;cases f with
 |put v n=>
  simp only;split
  ·show bO N ⟨.t1 _,s⟩=_;rw[gB _ _ λ _=>rfl];show 0+_=_;omega
  ·show bO N ⟨.at_ _,s⟩=_;rw[gB _ _ λ _=>rfl];show 0+_=_;omega
 |_=>exact Ae _ _
theorem aby(o:Or)(f:Fk)(D cur w pt:Int)(s:ag):bO N (aG U (eU o f D cur w pt) s)=s.gone.length:=by
 unfold eU;cases f with
 |get=>show bO N ⟨.at_ _,s⟩=_;rw[gB _ _ λ _=>rfl];show 0+_=_;omega
 |put v n=>
  simp only;split
  ·exact Ae _ _
  ·show bO N ⟨.v1 _ _,s⟩=_;rw[gB _ _ λ _=>rfl];show 0+_=_;omega
 |del=>show bO N ⟨.at_ _,s⟩=_;rw[gB _ _ λ _=>rfl];show 0+_=_;omega
 |fin a=>exact Ae _ _
theorem L9(o:Or)(f:Fk)(a b D cur pt:Int)(s:ag):bO N (aG U (dG o f a b D cur pt) s)=s.gone.length:=by
 unfold dG;split
 ·exact Sd _ _ _ _ _ _
 ·show bO N ⟨.g1 _ _ _,s⟩=_;rw[gB _ _ λ _=>rfl];show 0+_=_;omega
theorem EB(o:Or)(f:Fk)(s:ag):bO N (aG U (dl o f) s)=s.gone.length:=by show bO N ⟨.g1 _ _ _,s⟩=_;rw[gB _ _ λ _=>rfl];show 0+_=_;omega
theorem Se{k:Lk}(hk:e9 k)(s:ag):bO N (aG U (U.retired k) s)=s.gone.length:=by
 rcases hk with⟨o,f,a,b,D,nx,pt,rfl⟩|⟨a,rfl⟩
 ·exact L9 _ _ _ _ _ _ _ _
 ·show bO N ⟨.fin _,s⟩=_;rw[gB _ _ λ _=>rfl];show 0+_=_;omega
theorem EC{k:Lk}(hk:e9 k):iL k=[]:=by rcases hk with⟨o,f,a,b,D,nx,pt,rfl⟩|⟨a,rfl⟩<;>rfl
theorem Ma{k:Lk}(hk:e9 k)(held:List Int)(s:ag)(gs stay:List (Int×Int)):bO N (du U k held s gs stay)=gs.length+stay.length:=by
 cases gs with
 |nil=>show bO N (aG U (U.retired k) {s with gone:=stay})=_;rw[Se hk];simp
 |cons g gs=>show((iL k)++(g::(gs++stay)).map (·.1)).length=_;rw[EC hk];simp;omega
theorem Sf{k:Lk}(hk:e9 k)(held:List Int)(s:ag)(cs:List Ad):bO N (gG U k held s cs)=s.gone.length:=by
 cases cs with
 |nil=>show bO N (du U k held s s.gone [])=_;rw[Ma hk];simp
 |cons c cs=>show((iL k)++s.gone.map (·.1)).length=_;rw[EC hk];simp
theorem abz(hN:N<=100)(hI:Inv (a7 N) l S N aB V qs aw X g)(hq:qs[w]?=some q)(hf:q.R.gX)(aF:cJ q):bO N (tell U S q (act V (aS U w q.R)).2)+g.ret<=bO N q+(hc (a7 N) V.W X g q.R).2.ret:=by
 have F:=Lp hN hI hq hf aF;generalize hr:(act V (aS U w q.R)).2=r at*;obtain⟨R,s⟩:=q;cases R with
 |at_ k=>
  have hg:g.ret<=(hc (a7 N) V.W X g (.at_ k)).2.ret/\((r.ok=true/\((∃o f a b D cur w,k=.cu o f a b D cur w)\/∃o D cur nx a,k=.cd o D cur nx a))->g.ret+1<=(hc (a7 N) V.W X g (.at_ k)).2.ret):=by
   cases F with
   |own iJ cg h=>
    obtain rfl:k=iJ:=by simpa using cg
    cases h with
    |same hX lZ ho hm hn=>
     have lZ:(hc (a7 N) V.W X g (.at_ k)).2.ret=g.ret:=lZ;refine⟨by omega,λ⟨h1,u⟩=>?_⟩;exfalso;rcases u with⟨o,f,a,b,D,cur,aA,rfl⟩|⟨o,D,cur,nx,a,rfl⟩
     ·have ha:act V (aS U w (.at_ (.cu o f a b D cur aA)))=_:=(vO hN hI hq).act;rw[ha] at hr;have J:(br V.W (bh (.cu o f a b D cur aA))).2=r:=hr;have h4:(cM V.W X g (.cu o f a b D cur aA)).2.ret=g.ret:=lZ
      by_cases F:V.W.get (bM D)=bt cur
      ·simp only[cM,F,if_true] at h4;omega
      ·simp only[bh,br,F,if_false] at J;rw[<-J] at h1;cases h1
     ·have ha:act V (aS U w (.at_ (.cd o D cur nx a)))=_:=(vO hN hI hq).act;rw[ha] at hr;have J:(br V.W (bh (.cd o D cur nx a))).2=r:=hr;have h4:(cM V.W X g (.cd o D cur nx a)).2.ret=g.ret:=lZ
      by_cases F:V.W.get (bM D)=bt cur
      ·simp only[cM,F,if_true] at h4;omega
      ·simp only[bh,br,F,if_false] at J;rw[<-J] at h1;cases h1
    |put o v n D cur A B hk ge hX vc cv lh lZ ho hm=>subst hk;refine⟨Nat.le_of_eq lZ.symm,λ⟨_,u⟩=>?_⟩;rcases u with⟨o,f,a,b,D,cur,aA,h⟩|⟨o,D,cur,nx,a,h⟩<;>cases h
    |mark o D cur aA hk ge hX lZ ho hm=>subst hk;refine⟨Nat.le_of_eq lZ.symm,λ⟨_,u⟩=>?_⟩;rcases u with⟨o,f,a,b,D,cur,aA,h⟩|⟨o,D,cur,nx,a,h⟩<;>cases h
    |cut cur hk ge Z T lZ ho hm=>have lZ:(hc (a7 N) V.W X g (.at_ k)).2.ret=g.ret+1:=lZ;exact⟨by omega,λ _=>by omega⟩
   |vA hk _ _=>exact absurd rfl (hk k)
  have e0:bO N ⟨.at_ k,s⟩=(iL k).length+s.gone.length:=gB _ _ λ _=>rfl
  show bO N (aG U (cZ k s.made r) s.up)+g.ret<=_;rw[e0];have U8:s.up.gone=s.gone:=rfl;have key:bO N (aG U (cZ k s.made r) s.up)=s.gone.length->bO N (aG U (cZ k s.made r) s.up)+g.ret<=(iL k).length+s.gone.length+(hc (a7 N) V.W X g (.at_ k)).2.ret:=λ h=>by omega
  cases k with
  |ls o f a b D cur aA t=>
   refine key ?_;simp only[cZ];split
   ·show bO N ⟨.at_ _,s.up⟩=_;rw[gB _ _ λ _=>rfl];show 0+s.gone.length=_;omega
   ·exact EB _ _ _
  |lo o f a b D cur aA t kk=>
   refine key ?_;simp only[cZ];split
   ·show bO N ⟨.at_ _,s.up⟩=_;rw[gB _ _ λ _=>rfl];show 0+s.gone.length=_;omega
   ·split
    ·exact L9 _ _ _ _ _ _ _ _
    ·split
     ·exact aby _ _ _ _ _ _ _
     ·exact Sd _ _ _ _ _ _
  |cu o f a b D cur aA=>
   simp only[cZ];cases C4:r.ok with
   |true=>have:=hg.2 ⟨C4,.inl ⟨o,f,a,b,D,cur,aA,rfl⟩⟩;rw[if_pos rfl];show bO N ⟨.r1 (.rr o f a b D (av aA).idx s.made) cur,s.up⟩+_<=_;rw[gB _ _ λ _=>rfl];show 1+s.gone.length+g.ret<=0+s.gone.length+_;omega
   |false=>rw[if_neg (by simp),EB];show s.gone.length+g.ret<=0+s.gone.length+_;omega
  |gv o cur pt=>exact key (Ae _ _)
  |p1 o v n D cur=>exact key (by show bO N ⟨.at_ _,s.up⟩=_;rw[gB _ _ λ _=>rfl];show 0+s.gone.length=_;omega)
  |p2 o v n D cur=>exact key (by show bO N ⟨.at_ _,s.up⟩=_;rw[gB _ _ λ _=>rfl];show 0+s.gone.length=_;omega)
  |p0 o v n D cur=>exact key (by show bO N ⟨.at_ _,s.up⟩=_;rw[gB _ _ λ _=>rfl];show 0+s.gone.length=_;omega)
  |cp o v n D cur=>
   refine key ?_;simp only[cZ];split
   ·exact Ae _ _
   ·exact EB _ _ _
  |cm o D cur aA=>
   refine key ?_;simp only[cZ];split
   ·show bO N ⟨.at_ _,s.up⟩=_;rw[gB _ _ λ _=>rfl];show 0+s.gone.length=_;omega
   ·exact EB _ _ _
  |cd o D cur nx a=>
   simp only[cZ];cases C4:r.ok with
   |true=>have:=hg.2 ⟨C4,.inr ⟨o,D,cur,nx,a,rfl⟩⟩;rw[if_pos rfl];show bO N (dJ U (.rx cur a) s.up)+_<=_;rw[L8 (.inr ⟨_,_,rfl⟩)];show 1+s.gone.length+g.ret<=0+s.gone.length+_;omega
   |false=>rw[if_neg (by simp),EB];show s.gone.length+g.ret<=0+s.gone.length+_;omega
  |ga o f=>exact absurd aF id
  |gb o f a b D cur=>exact absurd aF id
  |rr o f a b D nx pt=>exact absurd aF id
  |tk o v D cur=>exact absurd aF id
  |sv a c=>exact absurd aF id
  |rx n a=>exact absurd aF id
  |ry a=>exact absurd aF id
  |fi o=>exact absurd aF id
 |t1 k=>
  obtain⟨o,v,D,cur,rfl⟩:=aF;show bO N (if _ then aG U (.bn (.fi _)) s.up else⟨.t2 _ _,s.up⟩:Q Lk)+g.ret<=bO N ⟨.t1 _,s⟩+g.ret;rw[gB (.t1 _) _ λ _=>rfl];split
  ·rw[Ae];exact Nat.add_le_add_right (Nat.le_add_left _ _) _
  ·rw[gB _ _ λ _=>rfl];exact Nat.le_refl _
 |t2 k f=>exact Nat.le_refl _
 |t3 k f lk=>obtain⟨o,v,D,cur,rfl⟩:=aF;show bO N (if _ then _ else _:Q Lk)+g.ret<=bO N ⟨.t3 _ _ _,s⟩+g.ret;split<;>exact Nat.le_refl _
 |t4 k n a=>exact Nat.le_refl _
 |t5 k n a b=>obtain⟨o,v,D,cur,rfl⟩:=aF;exact Nat.le_refl _
 |g1 k i c=>exact Nat.le_refl _
 |g2 k i c v a=>
  have e2:bO N ⟨.g2 k i c v a,s⟩=(iL k).length+s.gone.length:=gB _ _ λ _=>rfl
  show bO N (if _ then aG U (U.guarded k v a) s.up else⟨.g3 k i c r.val,s.up⟩:Q Lk)+g.ret<=bO N ⟨.g2 k i c v a,s⟩+g.ret;rw[e2];split
  ·rcases aF with⟨o,f,rfl⟩|⟨o,f,bF,D,cur,rfl,_⟩
   ·show bO N (aG U (dG o f 0 1 o.d (av v).idx a) s.up)+g.ret<=_;rw[L9];exact Nat.add_le_add_right (Nat.le_add_left _ _) _
   ·show bO N ⟨.at_ (.ls _ _ _ _ _ _ _ _),s.up⟩+g.ret<=_;rw[gB _ _ λ _=>rfl];exact Nat.le_refl _
  ·rw[gB _ _ λ _=>rfl];exact Nat.le_refl _
 |g3 k i c er=>
  show bO N ⟨.g1 k i c,s.up.ej i er⟩+g.ret<=bO N ⟨.g3 k i c er,s⟩+g.ret;rw[gB _ _ λ _=>rfl,gB (.g3 k i c er) _ λ _=>rfl];have:(s.up.ej i er).gone=s.gone:=by unfold ag.ej;split<;>first|rfl|(split<;>rfl)
  rw[this];exact Nat.le_refl _
 |bn k=>exact absurd hf id
 |c k i=>
  have hk:(∃o,k=.fi o)\/∃n a,k=.rx n a:=aF.2.2.2;show bO N (dJ U k (s.up.ej i 0))+g.ret<=bO N ⟨.c k i,s⟩+g.ret;have:(s.up.ej i 0).gone=s.gone:=by unfold ag.ej;split<;>first|rfl|(split<;>rfl)
  rw[L8 hk,gB (.c k i) _ λ _=>rfl,this];exact Nat.le_refl _
 |v1 k n=>exact Nat.le_refl _
 |v2 k n f=>exact Nat.le_refl _
 |v3 k n f=>
  obtain⟨b,c,rfl⟩:=aF;show bO N (if _ then aG U (.bn (.fi _)) s.up else⟨.v1 _ _,s.up⟩:Q Lk)+g.ret<=bO N ⟨.v3 _ _ _,s⟩+g.ret;rw[gB (.v3 _ _ _) _ λ _=>rfl];split
  ·rw[Ae];exact Nat.add_le_add_right (Nat.le_add_left _ _) _
  ·rw[gB _ _ λ _=>rfl];exact Nat.le_refl _
 |r1 k n=>exact Nat.le_refl _
 |r2 k n er=>
  have hk:e9 k:=aF;show bO N (if _ then aG U (U.retired k) _ else gG U k [] _ _:Q Lk)+g.ret<=bO N ⟨.r2 k n er,s⟩+g.ret;rw[gB (.r2 k n er) _ λ _=>rfl];have e:(eJ (a7 N) (.r2 k n er)).length=1:=by show(n::iL k).length=1;rw[EC hk];rfl
  split
  ·rw[Se hk,e];show(s.gone++[(n,er)]).length+_<=_;simp;omega
  ·rw[Sf hk,e];show(s.gone++[(n,er)]).length+_<=_;simp;omega
 |rs k held c cs=>have hk:e9 k:=aF;show bO N (gG U k _ s.up cs)+g.ret<=bO N ⟨.rs k held c cs,s⟩+g.ret;rw[Sf hk,gB (.rs k held c cs) _ λ _=>rfl];exact Nat.add_le_add_right (Nat.le_add_left _ _) _
 |s1 k held y gs stay=>
  have hk:e9 k:=aF;have e:bO N ⟨.s1 k held y gs stay,s⟩=1+gs.length+stay.length:=by show((iL k)++(y::(gs++stay)).map (·.1)).length=_;rw[EC hk];simp;omega
  show bO N (if _ then du U k held s.up gs (stay++[y]) else⟨.w1 k held y gs stay,s.up⟩:Q Lk)+g.ret<=bO N ⟨.s1 k held y gs stay,s⟩+g.ret;split
  ·rw[Ma hk,e];simp;omega
  ·exact Nat.le_refl _
 |w1 k held y gs stay=>exact Nat.le_refl _
 |w2 k held y gs stay f=>exact Nat.le_refl _
 |w3 k held y gs stay f=>
  have hk:e9 k:=aF;have e:bO N ⟨.w3 k held y gs stay f,s⟩=1+gs.length+stay.length:=by show((iL k)++(y::(gs++stay)).map (·.1)).length=_;rw[EC hk];simp;omega
  show bO N (if _ then du U k held s.up gs stay else⟨.w1 k held y gs stay,s.up⟩:Q Lk)+g.ret<=bO N ⟨.w3 k held y gs stay f,s⟩+g.ret;split
  ·rw[Ma hk,e];omega
  ·exact Nat.le_refl _
 |fin o=>exact absurd hf id
end
end Go.Proofs.YtkkldicehapklaaGreat.Tq
