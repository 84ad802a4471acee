/- Order numbers. -/
import Derived.Test.YtcnefjfboagbmaaGreatPA
namespace Go.Proofs.YtcnefjfboagbmaaGreat
set_option maxRecDepth 100000
def n7:List Int->Int
 |[]=>0
 |b::U=>b+2*n7 U
theorem Qa:∀(U:List Int)(i:Nat),(∀b∈U,b=0\/b=1)->n7 U/2^i%2=U.getD i 0
 |[],i,_=>by simp[n7]
 |b::U,0,h=>by
  have:=h b (by simp);simp only[n7,Int.pow_zero,Int.ediv_one,List.getD_cons_zero];omega
 |b::U,i+1,h=>by
  have h1:=h b (by simp);have A:=Qa U i λ x O=>h x (by simp[O])
  rw[List.getD_cons_succ,<-A,n7,show(2:Int)^(i+1)=2*2^i by rw[Int.pow_succ];omega,<-Int.ediv_ediv_of_nonneg (show(0:Int)<=2 by omega),show(b+2*n7 U)/2=n7 U by omega]
theorem Qb:∀(n:Nat)(k:Int),0<=k->k<2^n->∃U:List Int,U.length=n/\(∀b∈U,b=0\/b=1)/\k=n7 U
 |0,k,h0,h1=>⟨[],rfl,by simp,by simp at h1;simp[n7];omega⟩
 |n+1,k,h0,h1=>by
  rw[Int.pow_succ] at h1;obtain⟨U,e1,e2,e3⟩:=Qb n (k/2) (by omega) (by omega);refine⟨k%2::U,by simp[e1],λ b T=>?_,?_⟩
  ·rcases List.mem_cons.1 T with rfl|T
   ·omega
   ·exact e2 b T
  ·simp only[n7];omega
theorem Hq(b0 b1 b2 b3 b4 b5 b6 b7 b8 b9 qb qc qd qe qf qh:Int)(h:∀b∈[b0,b1,b2,b3,b4,b5,b6,b7,b8,b9,qb,qc,qd,qe,qf,qh],b=0\/b=1):
 fW (n7 [b0,b1,b2,b3,b4,b5,b6,b7,b8,b9,qb,qc,qd,qe,qf,qh])=n7 [qh,qf,qe,qd,qc,qb,b9,b8,b7,b6,b5,b4,b3,b2,b1,b0]:=by
 unfold fW;have T:=λ i:Nat=>Qa _ i h
 simp only[List.range,List.range.loop,List.map_cons,List.map_nil,List.sum_cons,List.sum_nil,T];simp only[List.getD_cons_zero,List.getD_cons_succ,Nat.sub_zero,Nat.reduceSub,Int.reducePow,n7];omega
theorem Iw{k:Int}(h0:0<=k)(h1:k<65536):∃b0 b1 b2 b3 b4 b5 b6 b7 b8 b9 qb qc qd qe qf qh:Int,(∀b∈[b0,b1,b2,b3,b4,b5,b6,b7,b8,b9,qb,qc,qd,qe,qf,qh],b=0\/b=1)/\k=n7 [b0,b1,b2,b3,b4,b5,b6,b7,b8,b9,qb,qc,qd,qe,qf,qh]:=by
 obtain⟨U,e1,e2,e3⟩:=Qb 16 k h0 (by simpa using h1)
 match U,e1 with
 |[b0,b1,b2,b3,b4,b5,b6,b7,b8,b9,qb,qc,qd,qe,qf,qh],_=>exact⟨b0,b1,b2,b3,b4,b5,b6,b7,b8,b9,qb,qc,qd,qe,qf,qh,e2,e3⟩
theorem acW{k:Int}(h0:0<=k)(h1:k<65536):fW (fW k)=k:=by obtain⟨b0,b1,b2,b3,b4,b5,b6,b7,b8,b9,qb,qc,qd,qe,qf,qh,T,e⟩:=Iw h0 h1;rw[e,Hq _ _ _ _ _ _ _ _ _ _ _ _ _ _ _ _ T,Hq];intro b hm;exact T b (List.mem_reverse.1 (show b∈[b0,b1,b2,b3,b4,b5,b6,b7,b8,b9,qb,qc,qd,qe,qf,qh].reverse from hm))
theorem LS{k:Int}(h0:0<=k)(h1:k<65536):0<=fW k/\fW k<65536/\(k%2=1->32768<=fW k):=by
 obtain⟨b0,b1,b2,b3,b4,b5,b6,b7,b8,b9,qb,qc,qd,qe,qf,qh,T,e⟩:=Iw h0 h1;rw[e,Hq _ _ _ _ _ _ _ _ _ _ _ _ _ _ _ _ T];have eC:=λ b hm=>T b hm
 simp only[List.mem_cons,List.not_mem_nil,or_false,forall_eq_or_imp,forall_eq] at eC;obtain⟨h0,h1,A,K,h4,h5,h6,h7,h8,h9,Aj,Fu,OA,OB,Fv,OC⟩:=eC;have p:∀x:Int,x=0\/x=1->0<=x/\x<=1:=λ x h=>by omega
 replace h0:=p _ h0;replace h1:=p _ h1;replace A:=p _ A;replace K:=p _ K
 replace h4:=p _ h4;replace h5:=p _ h5;replace h6:=p _ h6;replace h7:=p _ h7
 replace h8:=p _ h8;replace h9:=p _ h9;replace Aj:=p _ Aj;replace Fu:=p _ Fu
 replace OA:=p _ OA;replace OB:=p _ OB;replace Fv:=p _ Fv;replace OC:=p _ OC
 simp only[n7];omega
theorem Gx{k:Int}(h0:0<=k)(h1:k<65536):yB (l4 k)=k:=by have A:=LS h0 h1;unfold yB l4;rw[show(2*fW k+1)%131072/2=fW k by omega];exact acW h0 h1
theorem VW{c:Int}(h0:0<=c)(h1:c<8):c=0\/c=1\/c=2\/c=3\/c=4\/c=5\/c=6\/c=7:=by omega
theorem acX:fW 0=0/\fW 1=32768/\fW 2=16384/\fW 3=49152/\fW 4=8192/\fW 5=40960/\fW 6=24576/\fW 7=57344:=by decide
theorem acU{k:Int}(h0:0<=k)(h1:k<65536):32768*(k%2)+16384*(k/2%2)+8192*(k/4%2)<=fW k:=by
 obtain⟨b0,b1,b2,b3,b4,b5,b6,b7,b8,b9,qb,qc,qd,qe,qf,qh,T,e⟩:=Iw h0 h1;have eC:=λ b hm=>T b hm
 simp only[List.mem_cons,List.not_mem_nil,or_false,forall_eq_or_imp,forall_eq] at eC;obtain⟨g0,g1,g2,g3,g4,g5,g6,g7,g8,g9,Ol,Om,On,Oo,Oq,Ot⟩:=eC;rw[e,Hq _ _ _ _ _ _ _ _ _ _ _ _ _ _ _ _ T];have p:∀x:Int,x=0\/x=1->0<=x/\x<=1:=λ x h=>by omega
 replace g0:=p _ g0;replace g1:=p _ g1;replace g2:=p _ g2;replace g3:=p _ g3
 replace g4:=p _ g4;replace g5:=p _ g5;replace g6:=p _ g6;replace g7:=p _ g7
 replace g8:=p _ g8;replace g9:=p _ g9;replace Ol:=p _ Ol;replace Om:=p _ Om
 replace On:=p _ On;replace Oo:=p _ Oo;replace Oq:=p _ Oq;replace Ot:=p _ Ot
 clear T e;simp only[n7];generalize b3+2*(b4+2*(b5+2*(b6+2*(b7+2*(b8+2*(b9+2*(qb+2*(qc+2*(qd+2*(qe+2*(qf+2*(qh+2*0))))))))))))=c;have e0:(b0+2*(b1+2*(b2+2*c)))%2=b0:=by omega
 have e1:(b0+2*(b1+2*(b2+2*c)))/2%2=b1:=by omega
 have e2:(b0+2*(b1+2*(b2+2*c)))/4%2=b2:=by omega
 rw[e0,e1,e2];omega
theorem acV{k:Int}(h0:0<=k)(h1:k<65536):fW (k%8)<=fW k/\fW (k%4)<=fW (k%8)/\fW (k%2)<=fW (k%4)/\0<=fW (k%2):=by
 have h:=acU h0 h1;obtain⟨v0,v1,v2,v3,v4,v5,af6,af7⟩:=acX;rcases VW (c:=k%8) (by omega) (by omega) with e|e|e|e|e|e|e|e
 ·rw[e,show k%4=0 by omega,show k%2=0 by omega];omega
 ·rw[e,show k%4=1 by omega,show k%2=1 by omega];omega
 ·rw[e,show k%4=2 by omega,show k%2=0 by omega];omega
 ·rw[e,show k%4=3 by omega,show k%2=1 by omega];omega
 ·rw[e,show k%4=0 by omega,show k%2=0 by omega];omega
 ·rw[e,show k%4=1 by omega,show k%2=1 by omega];omega
 ·rw[e,show k%4=2 by omega,show k%2=0 by omega];omega
 ·rw[e,show k%4=3 by omega,show k%2=1 by omega];omega
theorem Le(f:Int):(ay f).idx=f%65536:=rfl
theorem uS{n:Int}(h0:0<=n)(h1:n<65536):(ay n).idx=n:=by rw[Le];omega
theorem K1{w:Int}(h0:0<=w)(h1:w<65536):(ay w).mark=false:=by show decide (w/65536%2=1)=false;rw[decide_eq_false_iff_not];omega
theorem Lo{f c i j:Int}(hf:f=131072*c+i)(L:0<=c)(bR:c<1000000)(X:0<=i/\i<65536)(hj:0<=j/\j<65536):cf (co (ay f) j)=131072*(c+1)+j:=by simp only[cf,co,ay,Bool.false_eq_true,if_false];omega
theorem Bp(r:vu):cf r<9223372036854775808:=by unfold cf;have h1:=Int.emod_lt_of_pos r.idx (show(0:Int)<65536 by omega);have A:=Int.emod_lt_of_pos r.mG (show(0:Int)<268435456 by omega);split<;>omega
inductive Hk where
 |ak (a:Ak)|ad (c v:Int)
def Hk.acc(l:ag):Hk->aT
 |.ak a=>a.acc l
 |.ad c v=>⟨4,c,0,v⟩
def ny(V:Vw):Hk->Vw×aD
 |.ak a=>act V a
 |.ad c v=>(V.put (.ob c) (lm (V.W.ob c+v)),⟨V.W.ob c,true⟩)
def jk:Vw->List Hk->List aD
 |_,[]=>[]
 |V,a::ab=>(ny V a).2::jk (ny V a).1 ab
def mJ:Vw->List Hk->Vw
 |V,[]=>V
 |V,a::ab=>mJ (ny V a).1 ab
def gF(nx:Int->Int):List Int->Prop
 |[]=>True
 |x::aC=>nx x=aC.headD 0/\gF nx aC
theorem gF.same{nx om:Int->Int}:∀{aC:List Int},gF nx aC->(∀x∈aC,om x=nx x)->gF om aC
 |[],_,_=>trivial
 |x::aC,h,hs=>⟨(hs x (by simp)).trans h.1,h.2.same λ y hy=>hs y (by simp[hy])⟩
structure BU(N:Nat)(w:Int)(lk:Int->Int)(am:List Int):Prop where
 fr:w=131072*(w/131072)+am.headD 0
 k:0<=w/131072
 lf:gF lk am
 nd:am.Nodup
 rg:∀n∈am,1<=n/\n<=(N:Int)
theorem sc{N:Nat}{am:List Int}(h:∀n∈am,1<=n/\n<=(N:Int)):0<=am.headD 0/\am.headD 0<=(N:Int):=by
 cases am with
 |nil=>simp
 |cons x am=>have:=h x (by simp);simp;omega
theorem BU.idx{N:Nat}{fr:Int}{lk:Int->Int}{am:List Int}(h:BU N fr lk am)(hN:N<=100):(ay fr).idx=am.headD 0:=by have h1:=h.fr;have A:=sc h.rg;rw[Le];omega
def Ak.aek:Ak->Int
 |.st _ v=>v
 |.cs _ _ v=>v
 |_=>0
def Hk.nS:Hk->Ad
 |.ak a=>a.ad
 |.ad c _=>.ob c
def Hk.wr:Hk->Int
 |.ak a=>a.aek
 |.ad _ _=>0
structure Sf(l:ag)(N:Nat)(V:Vw)(a:Hk):Prop where
 ok:a.nS.ok l 1 N
 wr:a.wr<9223372036854775808
 er:1<=V.er/\V.er<=100000
 fr:∃am,BU N V.fr V.lk am/\∀n∈am,(∀i,a.nS≠.nd n i)/\a.nS≠.bi n
def vw(l:ag)(N:Nat):Vw->List Hk->Prop
 |_,[]=>True
 |V,a::ab=>Sf l N V a/\vw l N (ny V a).1 ab
theorem sU:∀(ab:List Hk)(V:Vw),(jk V ab).length=ab.length
 |[],_=>rfl
 |_::ab,V=>by simp[jk,sU ab]
theorem Ik:∀(ab A2:List Hk)(V:Vw),jk V (ab++A2)=jk V ab++jk (mJ V ab) A2
 |[],_,_=>rfl
 |a::ab,A2,V=>by simp[jk,mJ,Ik ab]
theorem N3:∀(ab A2:List Hk)(V:Vw),mJ V (ab++A2)=mJ (mJ V ab) A2
 |[],_,_=>rfl
 |a::ab,A2,V=>by simp[mJ,N3 ab]
theorem vw.app{l:ag}{N:Nat}:∀{ab A2:List Hk}{V:Vw},vw l N V ab->vw l N (mJ V ab) A2->vw l N V (ab++A2)
 |[],_,_,_,h=>h
 |_::ab,_,_,h1,A=>⟨h1.1,vw.app (ab:=ab) h1.2 A⟩
structure Ev{ar:Type}(l:ag)(N:Nat)(f:Nat->Pm ar)(s:ah)(V:Vw)(ab:List Hk)(aR:Vw)(x:ar)(M:ah):Prop where
 sf:vw l N V ab
 ed:mJ V ab=aR
 md:M.made=s.made+ab.length
 ok:∀(P rest:List aD)(k:Nat),P.length=s.made->ab.length<k->f k (P++(jk V ab++rest)) s=.ok (x,M)
 er:∀(P:List aD)(j:Nat)(a:Hk)(k:Nat),P.length=s.made->ab[j]?=some a->j<k->f k (P++(jk V ab).take j) s=.error (a.acc l)
def Rn{ar:Type}(l:ag)(N:Nat)(f:Nat->Pm ar)(s:ah)(V:Vw)(Q:List Hk->Vw->ar->ah->Prop):Prop:=∃ab aR x M,Ev l N f s V ab aR x M/\Q ab aR x M
section
variable{ar dh:Type}{l:ag}{N:Nat}{s:ah}{V:Vw}{Q:List Hk->Vw->ar->ah->Prop}
theorem Rn.mono{d9:List Hk->Vw->ar->ah->Prop}{f:Nat->Pm ar}(h:Rn l N f s V d9)(hq:∀ab aR x M,d9 ab aR x M->M.made=s.made+ab.length->Q ab aR x M):Rn l N f s V Q:=by obtain⟨ab,aR,x,M,h1,A⟩:=h;exact⟨ab,aR,x,M,h1,hq _ _ _ _ A h1.md⟩
theorem Rn.pure{x:ar}(h:Q [] V x s):Rn l N (λ _=>.pure x) s V Q:=⟨[],V,x,s,⟨trivial,rfl,rfl,λ _ _ _ _ _=>rfl,λ _ _ _ _ _ h=>by simp at h⟩,h⟩
theorem Ev.bind{m:Nat->Pm dh}{f:Nat->Pm ar}{g:Nat->dh->Pm ar}{s1 s2:ah}{V1 V2:Vw}{ab A2:List Hk}{x:dh}{y:ar}(d:Nat)(F:d<=ab.length)(kr:d<=1)(hf:∀k,f (k+d)=(m k).bind (g k))(hm:d=1->∀k jd,m k=m jd)(h1:Ev l N m s V ab V1 x s1)(A:Ev l N (λ k=>g k x) s1 V1 A2 V2 y s2):Ev l N f s V (ab++A2) V2 y s2:=by
 obtain⟨a1,rfl,a3,a4,a5⟩:=h1;have I:∀k,d<=k->f k=(m (k-d)).bind (g (k-d)):=λ k h=>by rw[<-hf,Nat.sub_add_cancel h]
 have Dj:∀k,m (k-d)=m k:=λ k=>by
  rcases(show d=0\/d=1 by omega) with e|e
  ·rw[e];rfl
  ·exact hm e _ _
 refine⟨a1.app A.sf,by rw[N3];exact A.ed,by rw[A.md,a3,List.length_append];omega,λ P rest k hP pD=>?_,λ P j a k hP hj pD=>?_⟩
 ·rw[List.length_append] at pD;rw[I k (by omega),Dj,Ik,List.append_assoc,aw (a4 P _ k hP (by omega)),<-List.append_assoc];exact A.ok _ rest _ (by rw[List.length_append,sU,hP,a3]) (by omega)
 ·rw[Ik,I k (by omega),Dj]
  by_cases ba:j<ab.length
  ·rw[List.getElem?_append_left ba] at hj;rw[List.take_append_of_le_length (by rw[sU];omega)];exact bl (a5 P j a k hP hj (by omega))
  ·rw[List.getElem?_append_right (by omega)] at hj;rw[List.take_append,List.take_of_length_le (l:=jk V ab) (by rw[sU];omega),sU,aw (a4 P _ k hP (by omega)),<-List.append_assoc];exact A.er _ (j-ab.length) a _ (by rw[List.length_append,sU,hP,a3]) hj (by omega)
theorem Rn.bind{m:Nat->Pm dh}{g:Nat->dh->Pm ar}(h:Rn l N m s V λ ab V1 x s1=>Rn l N (λ k=>g k x) s1 V1 λ A2=>Q (ab++A2)):Rn l N (λ k=>(m k).bind (g k)) s V Q:=by obtain⟨ab,V1,x,s1,h1,A2,V2,y,s2,A,K⟩:=h;exact⟨_,_,_,_,Ev.bind 0 (by omega) (by omega) (λ _=>rfl) (λ h=>by omega) h1 A,K⟩
theorem Rn.loop{f:Nat->Pm ar}{m:Pm dh}{g:Nat->dh->Pm ar}(hf:∀k,f (k+1)=m.bind (g k))(h:Rn l N (λ _=>m) s V λ ab V1 x s1=>s.made<s1.made/\Rn l N (λ k=>g k x) s1 V1 λ A2=>Q (ab++A2)):Rn l N f s V Q:=by obtain⟨ab,V1,x,s1,h1,h0,A2,V2,y,s2,A,K⟩:=h;have:=h1.md;exact⟨_,_,_,_,Ev.bind 1 (by omega) (by omega) hf (λ _ _ _=>rfl) h1 A,K⟩
theorem Rn.stop{f:Nat->Pm ar}{x:ar}(hf:∀k,f (k+1)=.pure x)(h:Q [] V x s):Rn l N f s V Q:=⟨[],V,x,s,⟨trivial,rfl,rfl,λ _ _ k _ I=>by rw[show k=(k-1)+1 by have:([]:List Hk).length<k:=I;simp at this;omega,hf];rfl,λ _ _ _ _ _ h=>by simp at h⟩,h⟩
theorem Rn.at{f:Nat->Pm ar}{g:List aD->ah->Nat}(hg:∀log,log.length+1-s.made<=g log s)(h:Rn l N f s V Q):Rn l N (λ _ log s=>f (g log s) log s) s V Q:=by
 obtain⟨ab,aR,x,M,h1,A⟩:=h;refine⟨ab,aR,x,M,⟨h1.sf,h1.ed,h1.md,λ P rest _ hP _=>h1.ok P rest _ hP ?_,λ P j a _ hP hj _=>h1.er P j a _ hP hj ?_⟩,A⟩
 ·have:=hg (P++(jk V ab++rest));simp only[List.length_append,sU] at this;omega
 ·have:=hg (P++(jk V ab).take j);have eF:j<ab.length:=by
   rcases Nat.lt_or_ge j ab.length with h|h
   ·exact h
   ·rw[List.getElem?_eq_none h] at hj;cases hj
  simp only[List.length_append,List.length_take,sU] at this;omega
theorem Rn.congr{f iM:Nat->Pm ar}(hf:∀k log,f k log s=iM k log s)(h:Rn l N iM s V Q):Rn l N f s V Q:=by obtain⟨ab,aR,x,M,h1,A⟩:=h;exact⟨ab,aR,x,M,⟨h1.sf,h1.ed,h1.md,λ P rest k hP I=>by rw[hf];exact h1.ok P rest k hP I,λ P j a k hP hj I=>by rw[hf];exact h1.er P j a k hP hj I⟩,A⟩
theorem Rn.fm{c:Prop}[Decidable c]{f g:Nat->Pm ar}(L:c)(h:Rn l N f s V Q):Rn l N (λ k=>if c then f k else g k) s V Q:=by simpa only[L,if_true] using h
theorem Rn.gY{c:Prop}[Decidable c]{f g:Nat->Pm ar}(L:¬c)(h:Rn l N g s V Q):Rn l N (λ k=>if c then f k else g k) s V Q:=by simpa only[L,if_false] using h
theorem Rn.qj{a:Hk}{c:aT}{g:Nat->aD->Pm ar}(L:a.acc l=c)(hs:Sf l N V a)(h:Rn l N (λ k=>g k (ny V a).2) s.up (ny V a).1 λ ab=>Q (a::ab)):Rn l N (λ k=>(fk c).bind (g k)) s V Q:=by
 refine Rn.bind (m:=λ _=>fk c) ⟨[a],_,_,s.up,⟨⟨hs,trivial⟩,rfl,rfl,λ P rest _ hP _=>?_,λ P j b _ hP hj _=>?_⟩,h⟩
 ·unfold fk;rw[List.getElem?_append_right (by omega),show s.made-P.length=0 by omega]
  rfl
 ·have:j=0/\b=a:=by
   cases j with
   |zero=>simpa using hj.symm
   |succ j=>simp at hj
  obtain⟨rfl,rfl⟩:=this;unfold fk;rw[List.take_zero,List.append_nil,List.getElem?_eq_none (by omega),<-L]
theorem Rn.load{a:Ad}{c:Int}{g:Nat->Int->Pm ar}(L:a.cell l=c)(hs:Sf l N V (.ak (.ld a)))(h:Rn l N (λ k=>g k (V.get a)) s.up V λ ab=>Q (.ak (.ld a)::ab)):Rn l N (λ k=>(cj c).bind (g k)) s V Q:=by simp only[pO];exact Rn.qj (a:=.ak (.ld a)) (by rw[<-L];rfl) hs h
theorem Rn.store{a:Ad}{c v:Int}{g:Nat->Unit->Pm ar}(L:a.cell l=c)(hs:Sf l N V (.ak (.st a v)))(h:Rn l N (λ k=>g k ()) s.up (V.put a v) λ ab=>Q (.ak (.st a v)::ab)):Rn l N (λ k=>(eH c v).bind (g k)) s V Q:=by simp only[sN];exact Rn.qj (a:=.ak (.st a v)) (by rw[<-L];rfl) hs h
theorem Rn.rO{a:Ad}{c o v:Int}{g:Nat->Bool->Pm ar}(L:a.cell l=c)(ho:V.get a=o)(hs:Sf l N V (.ak (.cs a o v)))(h:Rn l N (λ k=>g k true) s.up (V.put a v) λ ab=>Q (.ak (.cs a o v)::ab)):Rn l N (λ k=>(eZ c o v).bind (g k)) s V Q:=by
 simp only[vO];have e:ny V (.ak (.cs a o v))=(V.put a v,⟨V.get a,true⟩):=by show(if V.get a=o then _ else _)=_;rw[if_pos ho]
 refine Rn.qj (a:=.ak (.cs a o v)) (by rw[<-L];rfl) hs ?_;rw[e];exact h
theorem Rn.last{g:Nat->Int->Pm ar}(h:Rn l N (λ k=>g k ((s.made:Int)-1)) s V Q):Rn l N (λ k=>j4.bind (g k)) s V Q:=Rn.congr (iM:=λ k=>g k ((s.made:Int)-1)) (λ _ _=>rfl) h
end
section
variable{ar dh:Type}{l:ag}{N:Nat}{s:ah}{V:Vw}{Q:List Hk->Vw->ar->ah->Prop}
theorem Rn.set{f:Nat->Pm ar}{s1:ah}{g:ah->ah}(hg:g s=s1)(hm:s1.made=s.made)(h:Rn l N f s1 V Q):Rn l N (λ k log s=>f k log (g s)) s V Q:=by subst hg;obtain⟨ab,aR,x,M,h1,A⟩:=h;exact⟨ab,aR,x,M,⟨h1.sf,h1.ed,by rw[h1.md,hm],λ P rest k hP I=>h1.ok P rest k (by rw[hm];exact hP) I,λ P j a k hP hj I=>h1.er P j a k (by rw[hm];exact hP) hj I⟩,A⟩
theorem Rn.act{m:Pm dh}{g:Nat->dh->Pm ar}{s1:ah}{x:dh}(O:∀log,m log s=.ok (x,s1))(hm:s1.made=s.made)(h:Rn l N (λ k=>g k x) s1 V Q):Rn l N (λ k=>m.bind (g k)) s V Q:=by refine Rn.congr (iM:=λ k log _=>g k x log s1) (λ k log=>aw (O log)) ?_;exact Rn.set (g:=λ _=>s1) rfl hm h
theorem Rn.GG{f:Nat->Pm ar}{a:Ad}{c:Int}{g:Nat->Int->Pm ar}(hf:∀k,f (k+1)=(cj c).bind (g k))(L:a.cell l=c)(hs:Sf l N V (.ak (.ld a)))(h:Rn l N (λ k=>g k (V.get a)) s.up V λ ab=>Q (.ak (.ld a)::ab)):Rn l N f s V Q:=by refine Rn.loop hf ?_;unfold cj;refine Rn.qj (a:=.ak (.ld a)) (by rw[<-L];rfl) hs (Rn.pure ⟨?_,h⟩);show s.made<s.made+1;omega
end
structure Lv(N:Nat)(B:Int)(V:Vw)(s:ah)(am:List Int):Prop where
 fo:BU N V.fr V.lk am
 er:1<=V.er
 bd:V.er+V.fr/131072<=B
 rv:∀i:Int,0<=i->i<=2->V.rv 0 i=s.e i
 e:∀i:Int,s.e i=0\/s.e i=V.er
def l6(V aR:Vw):Prop:=aR={V with rv:=aR.rv}
theorem l6.refl(V:Vw):l6 V V:=rfl
theorem l6.trans{V V1 V2:Vw}(h1:l6 V V1)(A:l6 V1 V2):l6 V V2:=by unfold l6 at*;rw[A,h1]
theorem l6.er{V aR:Vw}(h:l6 V aR):aR.er=V.er:=by unfold l6 at h;rw[h]
theorem l6.W{V aR:Vw}(h:l6 V aR):aR.W=V.W:=by unfold l6 at h;rw[h]
def jo(er x:Int):Nat:=if x=er then 1 else 4
def fF(er:Int)(s:ah):Nat:=jo er s.e0+jo er s.e1+jo er s.e2
theorem Lx(er x:Int):1<=jo er x/\jo er x<=4:=by unfold jo;split<;>omega
theorem wU(er:Int)(s:ah):3<=fF er s/\fF er s<=12:=by have:=Lx er s.e0;have:=Lx er s.e1;have:=Lx er s.e2;unfold fF;omega
theorem He{s:ah}{i v j:Int}(i0:0<=i)(i2:i<=2)(j0:0<=j)(j2:j<=2):(s.gp i v).e j=if j=i then v else s.e j:=by
 unfold ah.gp ah.e;have:i=0\/i=1\/i=2:=by omega
 have:j=0\/j=1\/j=2:=by omega
 rcases‹i=0\/i=1\/i=2›with rfl|rfl|rfl<;>rcases‹j=0\/j=1\/j=2›with rfl|rfl|rfl<;>rfl
theorem R9{s:ah}{i v:Int}{p:Int->Prop}(hp:∀j,p (s.e j))(hv:p v):∀j,p ((s.gp i v).e j):=by
 intro j;have h0:p s.e0:=hp 0;have h1:p s.e1:=hp 1;have A:p s.e2:=hp 2;unfold ah.gp ah.e
 by_cases i0:i=0<;>by_cases i1:i=1<;>by_cases j0:j=0<;>by_cases j1:j=1<;>simp only[i0,i1,j0,j1,if_true,if_false]<;>first|assumption|omega
theorem R8(s:ah)(i v:Int):(s.gp i v).gone=s.gone/\(s.gp i v).made=s.made:=by
 unfold ah.gp;split
 ·exact⟨rfl,rfl⟩
 ·split<;>exact⟨rfl,rfl⟩
theorem ab6{s:ah}{i er:Int}(i0:0<=i)(i2:i<=2)(h:s.e i≠er):fF er (s.gp i er)+3=fF er s:=by
 have X:i=0\/i=1\/i=2:=by omega
 rcases X with rfl|rfl|rfl
 ·have h:s.e0≠er:=h;show jo er er+jo er s.e1+jo er s.e2+3=jo er s.e0+jo er s.e1+jo er s.e2;unfold jo;rw[if_pos rfl,if_neg h]<;>omega
 ·have h:s.e1≠er:=h;show jo er s.e0+jo er er+jo er s.e2+3=jo er s.e0+jo er s.e1+jo er s.e2;unfold jo;rw[if_pos rfl,if_neg h]<;>omega
 ·have h:s.e2≠er:=h;show jo er s.e0+jo er s.e1+jo er er+3=jo er s.e0+jo er s.e1+jo er s.e2;unfold jo;rw[if_pos rfl,if_neg h]<;>omega
section
variable{l:ag}{N:Nat}{B:Int}{V aR:Vw}{s M:ah}{am:List Int}
theorem Lv.up(h:Lv N B V s am):Lv N B V s.up am:=⟨h.fo,h.er,h.bd,h.rv,h.e⟩
theorem Lv.nd(h:Lv N B V s am)(n i v:Int):Lv N B (V.put (.nd n i) v) s am:=⟨h.fo,h.er,h.bd,h.rv,h.e⟩
theorem Lv.ob(h:Lv N B V s am)(c v:Int):Lv N B (V.put (.ob c) v) s am:=⟨h.fo,h.er,h.bd,h.rv,h.e⟩
theorem Lv.more{j9:Int}(h:Lv N B V s am)(T:B<=j9):Lv N j9 V s am:=⟨h.fo,h.er,by have:=h.bd;omega,h.rv,h.e⟩
theorem Lv.zY(h:Lv N B V s am)(hB:B<=90000):1<=V.er/\V.er<=100000:=by have h1:=h.er;have A:=h.bd;have K:=h.fo.k;omega
theorem Lv.sf(h:Lv N B V s am)(hB:B<=90000){a:Hk}(ho:a.nS.ok l 1 N)(hw:a.wr<9223372036854775808)(hn:∀n∈am,(∀i,a.nS≠.nd n i)/\a.nS≠.bi n):Sf l N V a:=⟨ho,hw,h.zY hB,am,h.fo,hn⟩
theorem Lv.pS(h:Lv N B V s am)(hB:B<=90000){a:Hk}(ho:a.nS.ok l 1 N)(hw:a.wr<9223372036854775808)(hn:match a.nS with|.nd _ _=>False|.bi _=>False|_=>True):Sf l N V a:=h.sf hB ho hw λ n _=>by
 revert hn;generalize a.nS=d;cases d<;>intro hn<;>first|exact absurd hn id|exact⟨λ _ e=>(by cases e),λ e=>(by cases e)⟩
theorem Lv.rD(h:Lv N B V s am)(hB:B<=90000){a:Hk}{c:Int}(ha:a.nS=.ob c)(ho:9<=c/\c<l.node)(hw:a.wr<9223372036854775808):Sf l N V a:=h.pS hB (by rw[ha];exact⟨by omega,ho.2⟩) hw (by rw[ha];trivial)
theorem Lv.fY(h:Lv N B V s am)(hB:B<=90000){a:Hk}{n i:Int}(ha:a.nS=.nd n i)(h1:1<=n/\n<=N)(hn:n∉am)(X:0<=i/\i<=5)(hw:a.wr<9223372036854775808):Sf l N V a:=h.sf hB (by rw[ha];exact⟨h1.1,h1.2,X.1,X.2⟩) hw λ m hm=>⟨λ j e=>by rw[ha] at e;injection e with e1 e2;exact hn (e1▸hm),λ e=>by rw[ha] at e;cases e⟩
theorem fq:(0:Int)<9223372036854775808:=by omega
theorem xL{a:Ad}{i c:Int}(hB:B<=90000)(Z:Lv N B V s am)(i0:0<=i)(i2:i<=2)(L:a.cell l=c)(ha:∀(V:Vw)(j w:Int),(V.put (.rv 0 j) w).get a=V.get a)(hs:∀(V:Vw)(s:ah),Lv N B V s am->Sf l N V (.ak (.ld a))):
 Rn l N (λ _=>kP l 0 i c) s V λ _ aR x M=>l6 V aR/\Lv N B aR M am/\x=(V.get a,(M.made:Int)-2)/\M.gone=s.gone/\M.made+fF V.er M<=s.made+fF V.er s+2/\s.made+2<=M.made:=by
 have er:=Z.zY hB;have Qk:∀{V:Vw}{s:ah},Lv N B V s am->Sf l N V (.ak (.ld .era)):=λ h=>h.pS hB trivial fq trivial
 unfold kP;refine Rn.at (λ _=>Nat.le_refl _) ?_;refine Rn.GG (a:=a) (λ k=>rfl) L (hs _ _ Z) (Rn.last (Rn.load (a:=.era) rfl (Qk Z.up) ?_))
 by_cases he:V.er=s.e i
 ·refine Rn.congr (iM:=λ _=>.pure (V.get a,(s.made:Int))) (λ k log=>?_) (Rn.pure ⟨.refl V,Z.up.up,?_,rfl,?_,?_⟩)
  ·show(if V.er=s.e i then _ else _)=_;rw[if_pos he];show Except.ok ((V.get a,((s.made+1:Nat):Int)-1),s.up.up)=Except.ok ((V.get a,(s.made:Int)),s.up.up)
   congr 3;omega
  ·show _=(_,((s.made+1+1:Nat):Int)-2);congr 1;omega
  ·show s.made+1+1+fF V.er s<=_;omega
  ·show s.made+2<=s.made+1+1;omega
 ·refine Rn.congr (iM:=λ k=>(eH (cg l 0 i) V.er).bind λ _ log s=>kO l 0 i c k log (s.gp i V.er)) (λ k log=>?_) ?_
  ·show(if V.er=s.e i then _ else _)=_;rw[if_neg he];rfl
  ·refine Rn.store (a:=.rv 0 i) rfl (Z.up.up.pS hB ⟨by omega,by omega,i0,i2⟩ (by show V.er<_;omega) trivial) ?_;have tq:Lv N B (V.put (.rv 0 i) V.er) (s.up.up.up.gp i V.er) am:=⟨Z.fo,Z.er,Z.bd,λ j j0 j2=>by
    show(if(0:Int)=0/\j=i then V.er else V.rv 0 j)=_;rw[He i0 i2 j0 j2]
    by_cases hj:j=i
    ·rw[if_pos ⟨rfl,hj⟩,if_pos hj]
    ·rw[if_neg (λ x=>hj x.2),if_neg hj];exact Z.rv j j0 j2,R9 (p:=λ x=>x=0\/x=V.er) Z.e (.inr rfl)⟩
   have X:=R8 s.up.up.up i V.er;refine Rn.set (g:=λ s=>s.gp i V.er) rfl X.2 ?_;refine Rn.GG (a:=a) (λ k=>rfl) L (hs _ _ tq) (Rn.last (Rn.load (a:=.era) rfl (Qk tq.up) ?_));rw[ha];have hm:(s.up.up.up.gp i V.er).up.up.made=s.made+5:=by show(s.up.up.up.gp i V.er).made+1+1=_;rw[X.2];rfl
   refine Rn.congr (iM:=λ _=>.pure (V.get a,(s.made:Int)+3)) (λ k log=>?_) (Rn.pure ⟨rfl,tq.up.up,?_,X.1,?_,?_⟩)
   ·show(if V.er=(s.up.up.up.gp i V.er).e i then _ else _)=_;rw[He i0 i2 i0 i2,if_pos rfl,if_pos rfl];show Except.ok ((V.get a,(((s.up.up.up.gp i V.er).made+1:Nat):Int)-1),_)=Except.ok ((V.get a,(s.made:Int)+3),_);rw[X.2]
    congr 3;show((s.made+1+1+1+1:Nat):Int)-1=_;omega
   ·rw[hm];congr 1;omega
   ·rw[hm];have:=ab6 (s:=s.up.up.up) i0 i2 (λ e=>he e.symm);show s.made+5+fF V.er (s.up.up.up.gp i V.er)<=_;rw[show fF V.er s=fF V.er s.up.up.up from rfl];omega
   ·rw[hm];omega
theorem ID{i:Nat}(hB:B<=90000)(Z:Lv N B V s am)(i2:i<=2):Rn l N (λ _=>cX l 0 i (s.e i)) s V λ _ aR _ M=>l6 V aR/\Lv N B aR M am/\(∀j:Int,0<=j->j<=2->M.e j=if j=i then 0 else s.e j)/\M.gone=s.gone/\M.made<=s.made+1:=by
 unfold cX
 by_cases h0:s.e i=0
 ·refine Rn.fm h0 (Rn.pure ⟨.refl V,Z,λ j _ _=>?_,rfl,by omega⟩)
  by_cases hj:j=i
  ·rw[if_pos hj,hj,h0]
  ·rw[if_neg hj]
 ·have er:=Z.zY hB;refine Rn.gY h0 (Rn.store (a:=.rv 0 i) rfl (Z.pS hB ⟨by omega,by omega,by omega,by omega⟩ fq trivial) ?_);have uN:∀log s0,oC i log s0=.ok ((),s0.gp i 0):=λ log s0=>by
   have:i=0\/i=1\/i=2:=by omega
   rcases this with rfl|rfl|rfl<;>rfl
  refine Rn.congr (iM:=λ _ log s0=>(Pm.pure ()) log (s0.gp i 0)) (λ k log=>uN _ _) ?_;have X:=R8 s.up i 0;refine Rn.set (f:=λ _=>Pm.pure ()) (g:=λ s=>s.gp i 0) rfl X.2 (Rn.pure ⟨rfl,⟨Z.fo,Z.er,Z.bd,λ j j0 j2=>?_,R9 (p:=λ x=>x=0\/x=V.er) Z.e (.inl rfl)⟩,λ j j0 j2=>?_,X.1,?_⟩)
  ·show(if(0:Int)=0/\j=i then 0 else V.rv 0 j)=_;rw[He (by omega) (by omega) j0 j2]
   by_cases hj:j=i
   ·rw[if_pos ⟨rfl,hj⟩,if_pos hj]
   ·rw[if_neg (λ x=>hj x.2),if_neg hj];exact Z.rv j j0 j2
  ·exact He (by omega) (by omega) j0 j2
  ·rw[X.2];show s.made+1<=_;omega
theorem ui(hB:B<=90000)(Z:Lv N B V s am):Rn l N (λ _=>ge l 0) s V λ _ aR _ M=>l6 V aR/\Lv N B aR M am/\(∀i,M.e i=0)/\M.gone=s.gone/\M.made<=s.made+fF V.er s:=by
 refine Rn.congr (iM:=λ _=>(cX l 0 0 (s.e (0:Nat))).bind λ _=>(cX l 0 1 (s.e (1:Nat))).bind λ _=>(cX l 0 2 (s.e (2:Nat))).bind λ _=>.pure ()) (λ _ _=>rfl) ?_;refine Rn.bind ((ID hB Z (by omega)).mono ?_);rintro A1 V1 _ s1 ⟨a1,a2,a3,a4,a5⟩-;have e1:s.e (1:Nat)=s1.e (1:Nat):=(by have:=a3 1 (by omega) (by omega);rw[if_neg (by omega)] at this;exact this.symm);rw[e1];refine Rn.bind ((ID hB a2 (by omega)).mono ?_);rintro A2 V2 _ s2 ⟨b1,b2,b3,b4,b5⟩-;have e2:s.e (2:Nat)=s2.e (2:Nat):=by have h1:=a3 2 (by omega) (by omega);have A:=b3 2 (by omega) (by omega);rw[if_neg (by omega)] at h1 A;exact(A.trans h1).symm
 rw[e2];refine Rn.bind ((ID hB b2 (by omega)).mono ?_);rintro A3 V3 _ s3 ⟨c1,c2,c3,c4,c5⟩-;refine Rn.pure ⟨(a1.trans b1).trans c1,c2,λ i=>?_,by rw[c4,b4,a4],by have:=wU V.er s;omega⟩;have z:∀j:Int,0<=j->j<=2->s3.e j=0:=λ j j0 j2=>by
  rw[c3 j j0 j2,b3 j j0 j2,a3 j j0 j2];have:j=0\/j=1\/j=2:=by omega
  rcases this with rfl|rfl|rfl<;>rfl
 have z0:s3.e0=0:=z 0 (by omega) (by omega);have z1:s3.e1=0:=z 1 (by omega) (by omega);have z2:s3.e2=0:=z 2 (by omega) (by omega);unfold ah.e;rw[z0,z1,z2];simp
theorem Ms{n:Int}(hN:N<=100)(hB:B<=80000)(Z:Lv N B V s (n::am)):Rn l N (λ _=>pT l) s V λ _ aR x M=>x=(n,(s.made:Int)+2,true)/\M=s.up.up.up.up.up/\aR.W=V.W/\aR.er=V.er/\Lv N (B+1) aR M am:=by
 have er:=Z.zY (by omega);have hF:=Z.fo;have hn:=hF.rg n (by simp);have X:(ay V.fr).idx=n:=hF.idx hN;have rb:V.lk n=am.headD 0:=hF.lf.1;have iC:n∉am:=(List.nodup_cons.1 hF.nd).1;have I:=hF.k;have T:=Z.bd;have A:=sc (N:=N) (am:=am) λ x O=>hF.rg x (by simp[O])
 have hp:=Lo (f:=V.fr) (c:=V.fr/131072) (i:=n) (j:=V.lk n) hF.fr (by omega) (by omega) (by omega) (by rw[rb];omega);rw[rb] at hp;unfold pT;refine Rn.at (λ _=>Nat.le_refl _) ?_;refine Rn.GG (a:=.free) (λ k=>rfl) rfl (Z.pS (by omega) trivial fq trivial) ?_;show Rn l N (λ k=>if(ay V.fr).idx=0 then _ else _) _ V _;refine Rn.gY (by omega) ?_;rw[show(ay (V.get .free)).idx=n from X];refine Rn.load (a:=.lk n) rfl (Z.up.pS (by omega) hn fq trivial) ?_;refine Rn.rO (a:=.free) rfl rfl (Z.up.up.pS (by omega) trivial (Bp _) trivial) (Rn.fm rfl (Rn.last ?_));have we:∀M,(∀i,M.e i=s.e i)->Lv N (B+1) (V.put .free (cf (co (ay V.fr) (V.lk n)))) M am:=λ M he=>⟨⟨?_,?_,hF.lf.2,(List.nodup_cons.1 hF.nd).2,λ x O=>hF.rg x (by simp[O])⟩,Z.er,?_,λ i i0 i2=>by rw[he];exact Z.rv i i0 i2,λ i=>by rw[he];exact Z.e i⟩
 ·refine Rn.load (a:=.era) rfl ((we s.up.up.up λ _=>rfl).pS (by omega) trivial fq trivial) ?_;refine Rn.store (a:=.bi n) rfl ((we s.up.up.up.up λ _=>rfl).sf (by omega) hn (by show V.er<_;omega) λ m hm=>⟨λ i e=>(by cases e),λ e=>by injection e with e;exact iC (e▸hm)⟩) ?_;have K:=we s.up.up.up.up.up λ _=>rfl
  refine Rn.pure ⟨?_,rfl,rfl,rfl,⟨K.fo,K.er,K.bd,K.rv,K.e⟩⟩
  congr 2;show((s.made+1+1+1:Nat):Int)-1=_;omega
 ·show cf (co (ay V.fr) (V.lk n))=131072*(cf (co (ay V.fr) (V.lk n))/131072)+am.headD 0;rw[rb,hp];omega
 ·show 0<=cf (co (ay V.fr) (V.lk n))/131072;rw[rb,hp];omega
 ·show V.er+cf (co (ay V.fr) (V.lk n))/131072<=B+1;rw[rb,hp];omega
theorem WJ{n:Int}(hN:N<=100)(hB:B<=90000)(Z:Lv N B V s am)(hn:1<=n/\n<=(N:Int))(iC:n∉am):Rn l N (λ _=>mM l n) s V λ _ aR _ M=>M=s.up.up.up/\aR.W=V.W/\aR.er=V.er/\aR.bi=V.bi/\Lv N (B+1) aR M (n::am):=by
 have er:=Z.zY hB;have hF:=Z.fo;have X:=hF.idx hN;have I:=hF.k;have T:=Z.bd;have A:=sc hF.rg;have hp:=Lo (f:=V.fr) (c:=V.fr/131072) (i:=am.headD 0) (j:=n) hF.fr (by omega) (by omega) (by omega) (by omega);unfold mM;refine Rn.at (λ _=>Nat.le_refl _) ?_;refine Rn.GG (a:=.free) (λ k=>rfl) rfl (Z.pS hB trivial fq trivial) ?_;show Rn l N (λ k=>(eH (aE l n 7) (ay V.fr).idx).bind _) _ V _;rw[X];refine Rn.store (a:=.lk n) rfl (Z.up.pS hB hn (by show am.headD 0<_;omega) trivial) ?_;have tq:Lv N B (V.put (.lk n) (am.headD 0)) s.up.up am:=⟨⟨hF.fr,hF.k,hF.lf.same λ x O=>by
  show(if x=n then am.headD 0 else V.lk x)=V.lk x;rw[if_neg (λ e:x=n=>iC (e▸O))],hF.nd,hF.rg⟩,Z.er,Z.bd,Z.rv,Z.e⟩
 refine Rn.rO (a:=.free) rfl rfl (tq.pS hB trivial (Bp _) trivial) (Rn.fm rfl (Rn.pure ⟨rfl,rfl,rfl,rfl,⟨⟨?_,?_,⟨?_,tq.fo.lf⟩,List.nodup_cons.2 ⟨iC,hF.nd⟩,λ x O=>?_⟩,Z.er,?_,Z.rv,Z.e⟩⟩))
 ·show cf (co (ay V.fr) n)=131072*(cf (co (ay V.fr) n)/131072)+n;rw[hp];omega
 ·show 0<=cf (co (ay V.fr) n)/131072;rw[hp];omega
 ·show(if n=n then am.headD 0 else V.lk n)=_;rw[if_pos rfl]
 ·rcases List.mem_cons.1 O with rfl|O
  ·exact hn
  ·exact hF.rg x O
 ·show V.er+cf (co (ay V.fr) n)/131072<=B+1;rw[hp];omega
theorem SH(hN:N<=100):∀(gs:List (Int×Int)){B:Int}{V:Vw}{s:ah}{am:List Int},B+gs.length<=90000->Lv N B V s am->(gs.map (·.1)++am).Nodup->(∀g∈gs,1<=g.1/\g.1<=(N:Int))->
 Rn l N (λ _=>fa l [0,0,0] gs []) s V λ _ aR x M=>x=[]/\Lv N (B+gs.length) aR M ((gs.map (·.1)).reverse++am)/\aR.W=V.W/\aR.er=V.er/\M.gone=s.gone/\M.made=s.made+4*gs.length/\(∀i,M.e i=s.e i)
 |[],B,V,s,am,_,Z,_,_=>Rn.pure ⟨rfl,(by simpa using Z),rfl,rfl,rfl,rfl,λ _=>rfl⟩
 |g::gs,B,V,s,am,hB,Z,F,hg=>by
  have ip:=hg g (by simp);have Pn:g.1∉am:=λ hm=>by
   rw[List.map_cons,List.cons_append,List.nodup_cons] at F;exact F.1 (by simp[hm])
  have ae4:B+(gs.length+1:Int)<=90000:=by simpa using hB
  refine Rn.load (a:=.bi g.1) rfl (Z.sf (by omega) ip fq λ m hm=>⟨λ i e=>(by cases e),λ e=>by injection e with e;exact Pn (e▸hm)⟩) ?_;have gV:([0,0,0]:List Int).any (gZ (nI (V.bi g.1)) g.2)=false:=by
   have hm:1<=nI (V.bi g.1):=by unfold nI;split<;>omega
   have:gZ (nI (V.bi g.1)) g.2 0=false:=by unfold gZ;rw[Bool.and_eq_false_iff];left;rw[decide_eq_false_iff_not];omega
   simp[this]
  refine Rn.gY (by show¬(([0,0,0]:List Int).any (gZ (nI (V.bi g.1)) g.2)=true);rw[gV];simp) (Rn.bind ((WJ hN (by omega) Z.up ip Pn).mono ?_));rintro _ V1 _ s1 ⟨rfl,b1,b2,_,b3⟩-;have oS:(gs.map (·.1)++g.1::am).Nodup:=by rw[List.map_cons,List.cons_append] at F;exact(List.perm_middle.nodup_iff).2 F
  refine(SH hN gs (by omega) b3 oS λ x O=>hg x (by simp[O])).mono ?_;rintro _ V2 x s2 ⟨c1,c2,c3,c4,c5,c6,c7⟩-;refine⟨c1,?_,c3.trans b1,c4.trans b2,c5,by rw[c6];show s.made+1+1+1+1+_=_;simp only[List.length_cons];omega,c7⟩;rw[show B+((g::gs).length:Int)=B+1+gs.length by simp;omega]
  simpa using c2
theorem LP{n:Int}(hN:N<=100)(hB:B<=80000)(hS:l.az=1)(Z:Lv N B V s am)(hz:∀i,s.e i=0)(F:(n::(am++s.gone.map (·.1))).Nodup)(hg:∀x∈n::(am++s.gone.map (·.1)),1<=x/\x<=(N:Int))(R:s.gone.length<=1):
 Rn l N (λ _=>jF l n) s V λ _ aR _ M=>∃bV,Lv N (B+3) aR M bV/\(bV++M.gone.map (·.1)).Perm (n::(am++s.gone.map (·.1)))/\aR.W=V.W/\(∀i,M.e i=0)/\M.gone.length<=1/\M.made<=s.made+13:=by
 have er:=Z.zY (by omega);have Jk:∀M,(∀i,M.e i=s.e i)->Lv N (B+1) {V with er:=V.er+1} M am:=λ M he=>⟨Z.fo,by show 1<=V.er+1;omega,by have:=Z.bd;show V.er+1+V.fr/131072<=_;omega,λ i i0 i2=>by rw[he];exact Z.rv i i0 i2,λ i=>by rw[he];exact .inl (hz i)⟩
 have Kl:∀i:Int,0<=i->i<=2->V.rv 0 i=0:=λ i i0 i2=>by rw[Z.rv i i0 i2];exact hz i
 unfold jF;refine Rn.load (a:=.era) rfl (Z.pS (by omega) trivial fq trivial) ?_;refine Rn.qj (a:=.ak .up) rfl (Z.up.pS (by omega) trivial fq trivial) ?_;have FB:l.az.toNat=1:=by rw[hS];rfl
 by_cases L:((s.gone.length:Int)+1)<2*l.az
 ·refine Rn.congr (iM:=λ _ log s0=>(Pm.pure ()) log {s0 with gone:=s0.gone++[(n,V.er)]}) (λ k log=>(if_pos L).trans rfl) ?_;refine Rn.set (f:=λ _=>Pm.pure ()) (g:=λ s0=>{s0 with gone:=s0.gone++[(n,V.er)]}) rfl rfl (Rn.pure ?_);refine⟨am,Lv.more (j9:=B+3) (Jk _ λ _=>rfl) (by omega),?_,rfl,hz,?_,?_⟩
  ·show(am++(s.gone++[(n,V.er)]).map (·.1)).Perm _;rw[List.map_append,<-List.append_assoc];exact List.perm_append_singleton _ _
  ·show(s.gone++[(n,V.er)]).length<=1;rw[hS] at L;simp only[List.length_append,List.length_cons,List.length_nil];omega
  ·show s.made+1+1<=_;omega
 ·refine Rn.congr (iM:=λ _ log s0=>pR l (s.gone++[(n,V.er)]) log {s0 with gone:=s0.gone++[(n,V.er)]}) (λ k log=>(if_neg L).trans rfl) ?_;refine Rn.set (f:=λ _=>pR l (s.gone++[(n,V.er)])) (g:=λ s0=>{s0 with gone:=s0.gone++[(n,V.er)]}) rfl rfl ?_;unfold pR;rw[FB];show Rn l N (λ _=>((cj (cg l 0 0)).bind λ v0=>(cj (cg l 0 1)).bind λ v1=>(cj (cg l 0 2)).bind λ v2=>.pure [v0,v1,v2]).bind _) _ _ _;have sf:∀(i:Int)(M:ah),(∀i,M.e i=s.e i)->0<=i->i<=2->Sf l N {V with er:=V.er+1} (.ak (.ld (.rv 0 i))):=λ i M he i0 i2=>(Jk M he).pS (by omega) ⟨by omega,by omega,i0,i2⟩ fq trivial
  refine Rn.bind ?_;refine Rn.load (a:=.rv 0 0) rfl (sf 0 s (λ _=>rfl) (by omega) (by omega)) ?_;refine Rn.load (a:=.rv 0 1) rfl (sf 1 s (λ _=>rfl) (by omega) (by omega)) ?_;refine Rn.load (a:=.rv 0 2) rfl (sf 2 s (λ _=>rfl) (by omega) (by omega)) ?_;show Rn l N (λ _=>.pure [V.rv 0 0,V.rv 0 1,V.rv 0 2]) _ _ _;rw[Kl 0 (by omega) (by omega),Kl 1 (by omega) (by omega),Kl 2 (by omega) (by omega)];refine Rn.pure ?_;have oS:((s.gone++[(n,V.er)]).map (·.1)++am).Nodup:=by
   rw[List.map_append];have hp:((s.gone.map (·.1)++[n])++am).Perm (n::(am++s.gone.map (·.1))):=by refine(List.perm_append_comm).trans ?_;rw[<-List.append_assoc];exact List.perm_append_singleton _ _
   exact hp.nodup_iff.2 F
  refine Rn.bind ((SH hN (s.gone++[(n,V.er)]) (B:=B+1) (by simp only[List.length_append,List.length_cons,List.length_nil];omega) (Jk {s.up.up with gone:=s.gone++[(n,V.er)]}.up.up.up λ _=>rfl) oS λ g nE=>?_).mono ?_)
  ·rcases List.mem_append.1 nE with h1|h1
   ·exact hg _ (List.mem_cons_of_mem _ (List.mem_append_right _ (List.mem_map_of_mem h1)))
   ·have:g=(n,V.er):=by simpa using h1
    rw[this];exact hg n (by simp)
  ·rintro _ V2 x s2 ⟨rfl,c2,c3,c4,c5,c6,c7⟩-;refine Rn.congr (iM:=λ _ log s0=>(Pm.pure ()) log {s0 with gone:=[]}) (λ _ _=>rfl) (Rn.set (f:=λ _=>Pm.pure ()) (g:=λ s0=>{s0 with gone:=[]}) rfl rfl (Rn.pure ⟨_,(?_:Lv N (B+3) V2 _ (((s.gone++[(n,V.er)]).map (·.1)).reverse++am)),?_,c3,λ i=>(c7 i).trans (hz i),by simp,?_⟩))
   ·have:=c2.more (j9:=B+3) (by simp only[List.length_append,List.length_cons,List.length_nil];omega);exact⟨this.fo,this.er,this.bd,this.rv,this.e⟩
   ·simp only[List.map_append,List.map_cons,List.map_nil,List.append_nil,List.reverse_append,List.reverse_cons,List.reverse_nil,List.nil_append,List.cons_append];refine List.Perm.cons _ ?_;exact(List.perm_append_comm).trans ((List.Perm.refl am).append (List.reverse_perm _))
   ·show s2.made<=_;rw[c6];simp only[List.length_append,List.length_cons,List.length_nil];show s.made+1+1+1+1+1+_<=_;omega
end
theorem yQ{n:Int}(h0:0<=n)(h1:n<65536):fO n=n:=by unfold fO cf;simp;omega
theorem aav{n:Int}(h0:0<=n)(h1:n<65536):ol n=n+65536:=by unfold ol cf;simp;omega
abbrev eW:=Int×Int×Int
def fv(ap:List eW):Int:=(ap.map (·.1)).headD 0
theorem gF.Rk{nx:Int->Int}{y:Int}:∀{aa ap:List Int},gF nx (aa++y::ap)->nx y=ap.headD 0
 |[],_,h=>h.1
 |_::aa,_,h=>gF.Rk (aa:=aa) h.2
theorem gF.ins{nx om:Int->Int}{p n:Int}{ap:List Int}(hp:om p=n)(hn:om n=ap.headD 0):∀{aa:List Int},gF nx (aa++p::ap)->(∀x∈aa++ap,om x=nx x)->gF om (aa++p::n::ap)
 |[],h,hs=>⟨hp,hn,h.2.same λ y hy=>hs y (by simpa using hy)⟩
 |x::aa,h,hs=>⟨(hs x (by simp)).trans (h.1.trans (by cases aa<;>rfl)),gF.ins (aa:=aa) hp hn h.2 λ y hy=>hs y (by simp only[List.cons_append,List.mem_cons];exact .inr hy)⟩
theorem gF.del{nx om:Int->Int}{p c:Int}{ap:List Int}(hp:om p=ap.headD 0):∀{aa:List Int},gF nx (aa++p::c::ap)->(∀x∈aa++ap,om x=nx x)->gF om (aa++p::ap)
 |[],h,hs=>⟨hp,h.2.2.same λ y hy=>hs y (by simpa using hy)⟩
 |x::aa,h,hs=>⟨(hs x (by simp)).trans (h.1.trans (by cases aa<;>rfl)),gF.del (aa:=aa) hp h.2 λ y hy=>hs y (by simp only[List.cons_append,List.mem_cons];exact .inr hy)⟩
structure Rw(nd:Int->Int->Int)(al:List eW):Prop where
 ln:gF (λ n=>nd n 0) (al.map (·.1))
 od:∀x∈al,nd x.1 1=x.2.1/\nd x.1 2=x.2.2
 up:al.Pairwise λ x y=>x.2.1<y.2.1
structure Cl(N:Nat)(B:Int)(V:Vw)(s:ah)(am aV:List Int)(al:List eW):Prop where
 lv:Lv N B V s am
 rw:Rw V.W.nd al
 nd:(al.map (·.1)++(am++(s.gone.map (·.1)++aV))).Nodup
 rg:∀n∈al.map (·.1)++(am++(s.gone.map (·.1)++aV)),1<=n/\n<=(N:Int)
section
variable{l:ag}{N:Nat}{B o F:Int}{V aR:Vw}{s M:ah}{am aV:List Int}{al:List eW}
theorem Cl.to(L:Cl N B V s am aV al)(h:l6 V aR)(Z:Lv N B aR M am)(hg:M.gone=s.gone):Cl N B aR M am aV al:=⟨Z,by rw[h.W];exact L.rw,by rw[hg];exact L.nd,by rw[hg];exact L.rg⟩
theorem Cl.mem(L:Cl N B V s am aV al){x:eW}(O:x∈al):(1<=x.1/\x.1<=(N:Int))/\x.1∉am:=by have hm:x.1∈al.map (·.1):=List.mem_map_of_mem O;exact⟨L.rg _ (List.mem_append_left _ hm),λ hf=>(List.nodup_append.1 L.nd).2.2 _ hm _ (List.mem_append_left _ hf) rfl⟩
theorem Cl.word(L:Cl N B V s am aV al){aa ap:List eW}{p:eW}(e:al=aa++p::ap):V.W.nd p.1 0=fv ap/\0<=fv ap/\fv ap<=(N:Int):=by
 have h1:=L.rw.ln;rw[e,List.map_append,List.map_cons] at h1;refine⟨h1.Rk,?_⟩;cases ap with
 |nil=>simp[fv]
 |cons y ap=>have:=(L.mem (x:=y) (by rw[e];simp)).1;simp[fv];omega
theorem Cl.fY(L:Cl N B V s am aV al)(hB:B<=90000){a:Hk}{x:eW}{i:Int}(O:x∈al)(ha:a.nS=.nd x.1 i)(X:0<=i/\i<=5)(hw:a.wr<9223372036854775808):Sf l N V a:=L.lv.fY hB ha (L.mem O).1 (L.mem O).2 X hw
theorem Cl.up(L:Cl N B V s am aV al):Cl N B V s.up am aV al:=⟨L.lv.up,L.rw,L.nd,L.rg⟩
theorem Ru{aa Bs:List eW}{q:eW}(h1:∀x∈aa++[q],x.2.1<o)(A:∀x∈Bs,o<=x.2.1)(cE:∀c,Bs.head?=some c->c.2.1≠o)(mn:Bs.Pairwise λ x y=>x.2.1<y.2.1):∀x∈aa++q::Bs,x.2.1≠o:=by
 intro x O;rw[show aa++q::Bs=(aa++[q])++Bs by simp] at O;rcases List.mem_append.1 O with O|O
 ·have:=h1 x O;omega
 ·cases Bs with
  |nil=>simp at O
  |cons c ap=>
   have L:=A c (by simp);have hn:=cE c rfl;rcases List.mem_cons.1 O with rfl|O
   ·exact hn
   ·have:=(List.pairwise_cons.1 mn).1 x O;omega
structure Fd(l:ag)(o:Int)(al aa:List eW)(q:eW)(Bs:List eW)(f:kc):Prop where
 e:al=aa++q::Bs
 lo:∀x∈aa++[q],x.2.1<o
 X:∀x∈Bs,o<=x.2.1
 prev:f.prev=aE l q.1 0
 cur:f.cur=fv Bs
 yes:f.there=true->∃c ap,Bs=c::ap/\c.2.1=o/\f.next=fv ap
 no:f.there=false->∀x∈al,x.2.1≠o
theorem N9{D:Int}{x:EM}(h:x.cur≠0)(k:Nat):ju l D F o (k+1) (some x)=(kP l D x.b (aE l x.cur 0)).bind λ p=>(cj x.prev).bind λ seen=>j4.bind λ look=>if seen=fO x.cur then
 (cj (aE l x.cur 1)).bind λ dX=>
  if(ay p.1).mark then(eZ x.prev (fO x.cur) (fO (ay p.1).idx)).bind λ ok=>if ok then j4.bind λ at_=>(jF l x.cur).bind λ _=>ju l D F o k (some ⟨x.b,x.a,x.prev,(ay p.1).idx,at_⟩) else ju l D F o k none
  else if dX<o then ju l D F o k (some ⟨x.b,3-x.a-x.b,aE l x.cur 0,(ay p.1).idx,p.2⟩)
  else if dX=o then .pure ⟨true,x.prev,x.cur,p.1,p.2⟩
  else .pure ⟨false,x.prev,x.cur,0,look⟩
 else ju l D F o k none:=by rw[ju,if_neg h]
theorem Tw(hN:N<=100)(hB:B<=90000):∀(av:List eW){aa Bs:List eW}{p:eW}{V:Vw}{s:ah}{a b t:Int},Cl N B V s am aV al->al=aa++p::(av++Bs)->(∀x∈aa++[p],x.2.1<o)->(∀x∈av,x.2.1<o)->(∀x∈Bs,o<=x.2.1)->(0<=a/\a<=2)->(0<=b/\b<=2)->a≠b->(0<=t/\t<s.made)->
 Rn l N (λ k=>ju l 0 F o k (some ⟨a,b,aE l p.1 0,fv (av++Bs),t⟩)) s V λ _ aR f M=>l6 V aR/\Cl N B aR M am aV al/\M.gone=s.gone/\(∃Ib q HQ,Fd l o al Ib q HQ f)/\(0<=f.bS/\f.bS<M.made)/\M.made+fF V.er M<=s.made+fF V.er s+4*(av++Bs).length
 |[],aa,[],p,V,s,a,b,t,L,e,hX,_,i6,ha,T,r8,ht=>by
  refine Rn.stop (x:=⟨false,aE l p.1 0,0,0,t⟩) (λ k=>by rw[ju];exact if_pos rfl) ?_;exact⟨.refl V,L,rfl,⟨aa,p,[],⟨e,hX,i6,rfl,rfl,λ h=>(by cases h),λ _=>by rw[e];exact Ru hX i6 (by simp) List.Pairwise.nil⟩⟩,ht,by omega⟩
 |[],aa,c::Bs,p,V,s,a,b,t,L,e,hX,_,i6,ha,T,r8,ht=>by
  have me:c∈al:=by rw[e];simp
  have Kg:p∈al:=by rw[e];simp
  have h3:=L.mem me;have hw:=L.word e;have wg:=L.word (aa:=aa++[p]) (p:=c) (ap:=Bs) (by rw[e];simp);have mn:=L.rw.up;rw[e] at mn;have Zj:=(List.pairwise_cons.1 (List.pairwise_append.1 mn).2.1).2;refine Rn.loop (λ k=>N9 (x:=⟨a,b,aE l p.1 0,fv ([]++c::Bs),t⟩) (by have:c.1≠0:=(by omega);exact this) k) ?_;refine(xL (a:=.nd c.1 0) hB L.lv T.1 T.2 rfl (λ _ _ _=>rfl) λ V s h=>h.fY hB rfl h3.1 h3.2 (by omega) fq).mono ?_;rintro _ V1 _ s1 ⟨a1,a2,rfl,a3,a4,a5⟩-;have bR:=L.to a1 a2 a3;refine⟨by omega,?_⟩;refine Rn.load (a:=.nd p.1 0) rfl (bR.fY hB Kg rfl (by omega) fq) (Rn.last (Rn.fm ?_ ?_))
  ·show V1.W.nd p.1 0=fO c.1;rw[a1.W,hw.1,yQ (by omega) (by omega)];rfl
  refine Rn.load (a:=.nd c.1 1) rfl (bR.up.fY hB me rfl (by omega) fq) ?_;refine Rn.gY (by show¬((ay (V.W.nd c.1 0)).mark=true);rw[wg.1,K1 wg.2.1 (by omega)];simp) ?_;have Kc:V1.get (.nd c.1 1)=c.2.1:=by show V1.W.nd c.1 1=_;rw[a1.W];exact(L.rw.od c me).1
  rw[Kc];refine Rn.gY (by have:=i6 c (by simp);omega) ?_;have hm:s1.up.up.made=s1.made+2:=rfl
  by_cases ho:c.2.1=o
  ·refine Rn.fm ho (Rn.pure ⟨a1,bR.up.up,a3,⟨aa,p,c::Bs,⟨e,hX,i6,rfl,rfl,λ _=>⟨c,Bs,rfl,ho,wg.1⟩,λ h=>(by cases h)⟩⟩,?_,?_⟩)
   ·show 0<=(s1.made:Int)-2/\(s1.made:Int)-2<((s1.made+2:Nat):Int);omega
   ·show s1.made+2+fF V.er s1<=_;simp only[List.nil_append,List.length_cons];omega
  ·refine Rn.gY ho (Rn.pure ⟨a1,bR.up.up,a3,⟨aa,p,c::Bs,⟨e,hX,i6,rfl,rfl,λ h=>(by cases h),λ _=>by rw[e];exact Ru hX i6 (λ x O=>by injection O with O;exact O▸ho) Zj⟩⟩,?_,?_⟩)
   ·show 0<=((s1.made+1:Nat):Int)-1/\((s1.made+1:Nat):Int)-1<((s1.made+2:Nat):Int);omega
   ·show s1.made+2+fF V.er s1<=_;simp only[List.nil_append,List.length_cons];omega
 |c::av,aa,Bs,p,V,s,a,b,t,L,e,hX,hM,i6,ha,T,r8,ht=>by
  have me:c∈al:=by rw[e];simp
  have Kg:p∈al:=by rw[e];simp
  have h3:=L.mem me;have hw:=L.word e;have wg:=L.word (aa:=aa++[p]) (p:=c) (ap:=av++Bs) (by rw[e];simp);refine Rn.loop (λ k=>N9 (x:=⟨a,b,aE l p.1 0,fv (c::av++Bs),t⟩) (show c.1≠0 by omega) k) ?_;refine(xL (a:=.nd c.1 0) hB L.lv T.1 T.2 rfl (λ _ _ _=>rfl) λ V s h=>h.fY hB rfl h3.1 h3.2 (by omega) fq).mono ?_;rintro _ V1 _ s1 ⟨a1,a2,rfl,a3,a4,a5⟩-;have bR:=L.to a1 a2 a3;refine⟨by omega,?_⟩;refine Rn.load (a:=.nd p.1 0) rfl (bR.fY hB Kg rfl (by omega) fq) (Rn.last (Rn.fm ?_ ?_))
  ·show V1.W.nd p.1 0=fO c.1;rw[a1.W,hw.1,yQ (by omega) (by omega)];rfl
  refine Rn.load (a:=.nd c.1 1) rfl (bR.up.fY hB me rfl (by omega) fq) ?_;refine Rn.gY (by show¬((ay (V.W.nd c.1 0)).mark=true);rw[wg.1,K1 wg.2.1 (by omega)];simp) ?_;have Kc:V1.get (.nd c.1 1)=c.2.1:=by show V1.W.nd c.1 1=_;rw[a1.W];exact(L.rw.od c me).1
  rw[Kc];refine Rn.fm (hM c (by simp)) ?_;show Rn l N (λ k=>ju l 0 F o k (some ⟨b,3-a-b,aE l c.1 0,(ay (V.W.nd c.1 0)).idx,(s1.made:Int)-2⟩)) _ _ _;rw[wg.1,uS wg.2.1 (by omega)];refine(Tw hN hB av (aa:=aa++[p]) (p:=c) bR.up.up (by rw[e];simp) ?_ (λ x O=>hM x (by simp[O])) i6 T (by omega) (by omega) ?_).mono ?_
  ·intro x O;rcases List.mem_append.1 O with O|O
   ·exact hX x O
   ·rw[List.mem_singleton] at O;rw[O];exact hM c (by simp)
  ·show 0<=(s1.made:Int)-2/\(s1.made:Int)-2<((s1.made+2:Nat):Int);omega
  ·rintro _ V2 f s2 ⟨b1,b2,b3,b4,b5,b6⟩-;refine⟨a1.trans b1,b2,b3.trans a3,b4,b5,?_⟩;rw[a1.er] at b6;have b6:s2.made+fF V.er s2<=s1.made+2+fF V.er s1+4*(av++Bs).length:=b6;simp only[List.cons_append,List.length_cons];omega
theorem IY(hN:N<=100)(hB:B<=90000){d:eW}(L:Cl N B V s am aV al)(F:d∈al)(qt:d.2.1<o):
 Rn l N (λ _=>qU l 0 (aE l d.1 0) o) s V λ _ aR f M=>l6 V aR/\Cl N B aR M am aV al/\M.gone=s.gone/\(∃Ib q HQ,Fd l o al Ib q HQ f)/\(0<=f.bS/\f.bS<M.made)/\M.made+fF V.er M+2<=s.made+fF V.er s+4*al.length/\s.made<M.made:=by
 obtain⟨aa,ae,e⟩:=List.append_of_mem F;have mn:=L.rw.up;rw[e] at mn;have Zk:=(List.pairwise_append.1 mn).2.1;have o4:∀(ae:List eW),ae.Pairwise (λ x y=>x.2.1<y.2.1)->∃av Bs,ae=av++Bs/\(∀x∈av,x.2.1<o)/\(∀x∈Bs,o<=x.2.1):=by
  intro ae;induction ae with
  |nil=>intro _;exact⟨[],[],rfl,by simp,by simp⟩
  |cons x ae ih=>
   intro hT
   by_cases O:x.2.1<o
   ·obtain⟨av,Bs,e1,e2,e3⟩:=ih (List.pairwise_cons.1 hT).2;exact⟨x::av,Bs,by rw[e1];rfl,λ y hy=>by rcases List.mem_cons.1 hy with rfl|hy;exact O;exact e2 y hy,e3⟩
   ·refine⟨[],x::ae,rfl,by simp,λ y hy=>?_⟩;rcases List.mem_cons.1 hy with rfl|hy
    ·omega
    ·have:=(List.pairwise_cons.1 hT).1 y hy;omega
 obtain⟨av,Bs,e1,hM,i6⟩:=o4 ae (List.pairwise_cons.1 Zk).2;subst e1;have CW:=L.mem F;have hw:=L.word e;unfold qU;refine Rn.at (f:=λ k=>ju l 0 (aE l d.1 0) o k none) (g:=λ log s=>2*(log.length-s.made)+2) (λ log=>by omega) ?_;refine Rn.loop (λ k=>rfl) ?_;refine(xL (a:=.nd d.1 0) hB L.lv (by omega) (by omega) rfl (λ _ _ _=>rfl) λ V s h=>h.fY hB rfl CW.1 CW.2 (by omega) fq).mono ?_;rintro _ V1 _ s1 ⟨a1,a2,rfl,a3,a4,a5⟩-;refine⟨by omega,?_⟩;show Rn l N (λ k=>ju l 0 (aE l d.1 0) o k (some ⟨0,1,aE l d.1 0,(ay (V.W.nd d.1 0)).idx,(s1.made:Int)-2⟩)) _ _ _;rw[hw.1,uS hw.2.1 (by omega)];refine(Tw hN hB av (L.to a1 a2 a3) e (λ x O=>?_) hM i6 (by omega) (by omega) (by omega) (by omega)).mono ?_
 ·rcases List.mem_append.1 O with O|O
  ·have:=(List.pairwise_append.1 mn).2.2 x O d (by simp);omega
  ·rw[List.mem_singleton] at O;rw[O];exact qt
 ·rintro _ V2 f s2 ⟨b1,b2,b3,b4,b5,b6⟩ b7;refine⟨a1.trans b1,b2,b3.trans a3,b4,b5,?_,by omega⟩;rw[a1.er] at b6;rw[e];simp only[List.length_append,List.length_cons] at b6⊢;omega
end
def BP(kind o v:Int)(al ea:List eW)(out:bf)(n:Int):Prop:=
 (∃x∈al,x.2.1=o/\((kind=1/\ea=al/\out.val=x.2.2/\out.is=true)\/(kind=2/\ea=al/\out.val=0/\out.is=false)\/(kind=3/\al.Perm (x::ea)/\out.val=0/\out.is=true)))
  \/((∀x∈al,x.2.1≠o)/\((kind≠2/\ea=al/\out.val=0/\out.is=false)\/(kind=2/\ea.Perm ((n,o,v)::al)/\out.val=0/\out.is=true)))
structure BW(N:Nat)(B kind o v:Int)(V:Vw)(au:List (Int×Int))(am aV:List Int)(al:List eW)(ab:List Hk)(aR:Vw)(out:bf)(M:ah)(bV:List Int)(ea:List eW)(n:Int):Prop where
 cl:Cl N (B+4) aR M bV aV ea
 pm:(ea.map (·.1)++(bV++(M.gone.map (·.1)++aV))).Perm (al.map (·.1)++(am++(au.map (·.1)++aV)))
 IR:BP kind o v al ea out n
 nw:kind=2->out.is=true->(1<=n/\n<=(N:Int))/\∃a x,ab[out.bS.toNat]?=some (.ak (.cs a x n))
 fr:∀m,m∉al.map (·.1)->m∉am->aR.W.nd m=V.W.nd m
 ob:aR.W.ob=V.W.ob
 z:∀i,M.e i=0
 err:out.err=0
 pt:0<=out.bS/\out.bS<M.made
 gl:M.gone.length<=1
 cost:M.made<=4*al.length+25
 len:ea.length<=al.length+1
 fl:am.length<=bV.length+1
section
variable{l:ag}{N:Nat}{B o v:Int}{V aR:Vw}{s M:ah}{am aV:List Int}{al:List eW}
theorem Cl.more{j9:Int}(h:Cl N B V s am aV al)(T:B<=j9):Cl N j9 V s am aV al:=⟨h.lv.more T,h.rw,h.nd,h.rg⟩
theorem RH{out:bf}(hB:B<=90000)(L:Cl N B V s am aV al):Rn l N (λ _=>jC l 0 out) s V λ _ aR x M=>x=out/\aR.W=V.W/\Cl N B aR M am aV al/\(∀i,M.e i=0)/\M.gone=s.gone/\M.made<=s.made+fF V.er s:=by unfold jC;refine Rn.bind ((ui hB L.lv).mono ?_);rintro _ V1 _ s1 ⟨a1,a2,a3,a4,a5⟩-;exact Rn.pure ⟨rfl,a1.W,L.to a1 a2 a4,a3,a4,a5⟩
theorem GS{kind n:Int}{au:List (Int×Int)}{A0:List Hk}{V0:Vw}{out:bf}(hB:B<=80000)(L:Cl N B V s am aV al)(hG:s.gone=au)(dp:au.length<=1)(hW:V.W=V0.W)(he:out.err=0)(hp:0<=out.bS/\out.bS<s.made)(hm:s.made+fF V.er s<=4*al.length+25)(hf:BP kind o v al al out n)(I:kind=2->out.is=false):
 Rn l N (λ _=>jC l 0 out) s V λ ab aR x M=>∃bV ea n,BW N B kind o v V0 au am aV al (A0++ab) aR x M bV ea n:=by
 refine(RH (by omega) L).mono ?_;rintro ab V1 x s1 ⟨rfl,a1,a2,a3,a4,a5⟩ h6;refine⟨am,al,n,a2.more (by omega),by rw[a4,hG],hf,λ h1 A=>?_,λ m _ _=>by rw[a1,hW],by rw[a1,hW],a3,he,by omega,by rw[a4,hG];exact dp,by omega,by omega,by omega⟩;rw[I h1] at A;cases A
theorem WG{d:eW}(hN:N<=100)(hB:B<=80000)(L:Cl N B V s am aV al)(F:d∈al)(qt:d.2.1<o)(hs:s.made=0)(dp:s.gone.length<=1):
 Rn l N (λ _=>getM l 0 (aE l d.1 0) o) s V λ ab aR x M=>∃bV ea n,BW N B 1 o v V s.gone am aV al ab aR x M bV ea n:=by
 unfold getM;refine Rn.bind ((IY hN (by omega) L F qt).mono ?_);rintro ab V1 f s1 ⟨a1,a2,a3,⟨aa,q,Bs,a4⟩,a5,a6,a7⟩-;have hp:=wU V.er s
 by_cases ht:f.there=true
 ·obtain⟨c,ap,e,ho,hn⟩:=a4.yes ht;have me:c∈al:=by rw[a4.e,e];simp
  have qr:f.cur=c.1:=by rw[a4.cur,e];rfl
  refine Rn.fm ht (Rn.load (a:=.nd c.1 2) (by rw[qr];rfl) (a2.fY (by omega) me rfl (by omega) fq) ?_);have hv:V1.get (.nd c.1 2)=c.2.2:=by show V1.W.nd c.1 2=_;rw[a1.W];exact(L.rw.od c me).2
  rw[hv];refine(GS (v:=v) (n:=0) (A0:=ab++[.ak (.ld (.nd c.1 2))]) hB a2.up a3 dp a1.W rfl ⟨a5.1,?_⟩ ?_ (.inl ⟨c,me,ho,.inl ⟨rfl,rfl,rfl,rfl⟩⟩) (λ h=>by omega)).mono λ A2 V2 x s2 h _=>?_
  ·have:=a5.2;show f.bS<((s1.made+1:Nat):Int);omega
  ·rw[a1.er];show s1.made+1+fF V.er s1<=_;omega
  ·simpa using h
 ·refine Rn.gY ht ?_;have hn:=a4.no (by simpa using ht);exact GS (A0:=ab) hB a2 a3 dp a1.W rfl a5 (by rw[a1.er];omega) (.inr ⟨hn,.inl ⟨by omega,rfl,rfl,rfl⟩⟩) (n:=0) (λ h=>by omega)
theorem ab9{d:eW}(hN:N<=100)(hB:B<=80000)(L:Cl N B V s am aV al)(F:d∈al)(qt:d.2.1<o)(hs:s.made=0)(dp:s.gone.length<=1)(hF:am≠[])(Dr:o<9223372036854775808)(DA:v<9223372036854775808):
 Rn l N (λ _=>rA l 0 (aE l d.1 0) o v) s V λ ab aR x M=>∃bV ea n,BW N B 2 o v V s.gone am aV al ab aR x M bV ea n:=by
 unfold rA;refine Rn.at (f:=λ k=>tV l 0 (aE l d.1 0) o v k 0) (λ _=>Nat.le_refl _) (Rn.loop (λ k=>rfl) ((IY hN (by omega) L F qt).mono ?_));rintro ab V1 f s1 ⟨a1,a2,a3,⟨aa,q,Bs,a4⟩,a5,a6,a7⟩ Dh;refine⟨a7,?_⟩;have hp:=wU V.er s
 by_cases ht:f.there=true
 ·obtain⟨c,ap,e,ho,hn⟩:=a4.yes ht;have me:c∈al:=by rw[a4.e,e];simp
  refine Rn.fm ht (Rn.fm rfl ?_);exact GS (A0:=ab) hB a2 a3 dp a1.W rfl a5 (by rw[a1.er];omega) (.inl ⟨c,me,ho,.inr (.inl ⟨rfl,rfl,rfl,rfl⟩)⟩) (n:=0) (λ _=>rfl)
 refine Rn.gY ht (Rn.fm rfl ?_);have Dq:=a4.no (by simpa using ht);cases am with
 |nil=>exact absurd rfl hF
 |cons n am=>
 refine Rn.bind ((Ms hN hB a2.lv).mono ?_);rintro A2 V2 _ s2 ⟨rfl,rfl,b1,b2,b3⟩ n4;have wc:A2.length=5:=by have:s1.made+1+1+1+1+1=s1.made+A2.length:=n4;omega
 refine Rn.fm rfl ?_;have uI:=L.rg n (by simp);have hnd:=L.nd;have AK:q∈al:=by rw[a4.e];simp
 have Dw:=L.mem AK;have J6:∀x∈al,x.1≠n:=λ x O e=>(L.mem O).2 (by rw[e];simp)
 have iC:n∉am:=λ hm=>by
  have:=(List.nodup_append.1 (List.nodup_append.1 hnd).2.1).1;exact(List.nodup_cons.1 this).1 hm
 have hw:=L.word a4.e;have Y3:q.1≠n:=J6 q AK;have Y1:q.1∉am:=λ hm=>Dw.2 (by simp[hm])
 have Js:V2.W=V.W:=by rw[b1,a1.W]
 have aaH:fv Bs<9223372036854775808:=by omega
 refine Rn.store (a:=.nd n 1) rfl (b3.fY (by omega) rfl uI iC (by omega) Dr) ?_;refine Rn.store (a:=.nd n 2) rfl ((b3.nd n 1 o).up.fY (by omega) rfl uI iC (by omega) DA) ?_;refine Rn.bind ?_;unfold vf;rw[a4.cur,a4.prev,yQ hw.2.1 (by omega)];refine Rn.store (a:=.nd n 0) rfl (((b3.nd n 1 o).nd n 2 v).up.up.fY (by omega) rfl uI iC (by omega) aaH) ?_;show Rn l N (λ _=>(eZ (aE l q.1 0) (fv Bs) (fO n)).bind _) _ _ _;rw[yQ (n:=n) (by omega) (by omega)];have hg:(((V2.put (.nd n 1) o).put (.nd n 2) v).put (.nd n 0) (fv Bs)).get (.nd q.1 0)=fv Bs:=by show(if q.1=n/\(0:Int)=0 then fv Bs else if q.1=n/\(0:Int)=2 then v else if q.1=n/\(0:Int)=1 then o else V2.W.nd q.1 0)=_;rw[if_neg (by omega),if_neg (by omega),if_neg (by omega),Js];exact hw.1
 refine Rn.rO (a:=.nd q.1 0) rfl hg ((((b3.nd n 1 o).nd n 2 v).nd n 0 (fv Bs)).up.up.up.fY (by omega) rfl Dw.1 Y1 (by omega) (by show n<_;omega)) (Rn.fm rfl (Rn.last (Rn.pure ?_)));have f4:=((((b3.nd n 1 o).nd n 2 v).nd n 0 (fv Bs)).nd q.1 0 n).up.up.up.up;have key:∀m i,((((V2.put (.nd n 1) o).put (.nd n 2) v).put (.nd n 0) (fv Bs)).put (.nd q.1 0) n).W.nd m i=if m=q.1/\i=0 then n else if m=n/\i=0 then fv Bs else if m=n/\i=2 then v else if m=n/\i=1 then o else V.W.nd m i:=by
  intro m i;rw[<-Js]
  rfl
 have e4:((((V2.put (.nd n 1) o).put (.nd n 2) v).put (.nd n 0) (fv Bs)).put (.nd q.1 0) n).W.ob=V.W.ob:=by rw[<-Js];rfl
 have e5:((((V2.put (.nd n 1) o).put (.nd n 2) v).put (.nd n 0) (fv Bs)).put (.nd q.1 0) n).er=V.er:=by rw[<-a1.er,<-b2];rfl
 generalize(((V2.put (.nd n 1) o).put (.nd n 2) v).put (.nd n 0) (fv Bs)).put (.nd q.1 0) n=V4 at f4 key e4 e5;have iR:((aa++q::(n,o,v)::Bs).map (·.1)++(am++(s.gone.map (·.1)++aV))).Perm (al.map (·.1)++(n::am++(s.gone.map (·.1)++aV))):=by rw[a4.e];simp only[List.map_append,List.map_cons,List.append_assoc,List.cons_append];refine List.Perm.append_left _ (List.Perm.cons _ ?_);exact List.perm_middle.symm
 have mn:=L.rw.up;rw[a4.e] at mn;have bY:Cl N (B+1) V4 s1.up.up.up.up.up.up.up.up.up am aV (aa++q::(n,o,v)::Bs):=by
  have cT:∀x∈aa++Bs,x.1≠q.1/\x.1≠n:=by
   intro x O;have Zx:x∈al:=by
    rw[a4.e];rcases List.mem_append.1 O with O|O
    ·exact List.mem_append_left _ O
    ·exact List.mem_append_right _ (List.mem_cons_of_mem _ O)
   refine⟨λ e=>?_,J6 x Zx⟩;have Dn:=(List.nodup_append.1 hnd).1;rw[a4.e,List.map_append,List.map_cons] at Dn;have:=(List.perm_middle.nodup_iff).1 Dn;exact(List.nodup_cons.1 this).1 (by rw[<-e,<-List.map_append];exact List.mem_map_of_mem O)
  refine⟨f4,⟨?_,?_,?_⟩,?_,?_⟩
  ·have n3:=L.rw.ln;rw[a4.e,List.map_append,List.map_cons] at n3;rw[List.map_append,List.map_cons,List.map_cons];refine gF.ins (by rw[key,if_pos ⟨rfl,rfl⟩]) ?_ n3 λ x O=>?_
   ·show V4.W.nd n 0=_;rw[key,if_neg (λ e=>Y3 e.1.symm),if_pos ⟨rfl,rfl⟩];rfl
   ·rw[<-List.map_append] at O;obtain⟨y,hy,rfl⟩:=List.mem_map.1 O;have:=cT y hy;rw[key,if_neg (λ e=>this.1 e.1),if_neg (λ e=>this.2 e.1),if_neg (λ e=>this.2 e.1),if_neg (λ e=>this.2 e.1)]
  ·intro x O;have fD:x=(n,o,v)\/x∈al:=by
    rw[a4.e];rcases List.mem_append.1 O with O|O
    ·exact .inr (List.mem_append_left _ O)
    ·rcases List.mem_cons.1 O with rfl|O
     ·exact .inr (by simp)
     ·rcases List.mem_cons.1 O with rfl|O
      ·exact .inl rfl
      ·exact .inr (List.mem_append_right _ (List.mem_cons_of_mem _ O))
   rcases fD with rfl|fD
   ·rw[key,key];exact⟨by rw[if_neg (by omega),if_neg (by omega),if_neg (by omega),if_pos ⟨rfl,rfl⟩],by rw[if_neg (by omega),if_neg (by omega),if_pos ⟨rfl,rfl⟩]⟩
   ·have P1:=J6 x fD;have:=L.rw.od x fD;rw[key,key];exact⟨by rw[if_neg (by omega),if_neg (by omega),if_neg (by omega),if_neg (λ e=>P1 e.1)];exact this.1,by rw[if_neg (by omega),if_neg (by omega),if_neg (λ e=>P1 e.1),if_neg (by omega)];exact this.2⟩
  ·have W1:∀x∈Bs,o<x.2.1:=λ x O=>by
    have h1:=a4.X x O;have A:=Dq x (by rw[a4.e];simp[O]);omega
   rw[show aa++q::(n,o,v)::Bs=(aa++[q])++(n,o,v)::Bs by simp];rw[show aa++q::Bs=(aa++[q])++Bs by simp] at mn;have K:=List.pairwise_append.1 mn;refine List.pairwise_append.2 ⟨K.1,List.pairwise_cons.2 ⟨W1,K.2.1⟩,λ x O y hy=>?_⟩;rcases List.mem_cons.1 hy with rfl|hy
   ·exact a4.lo x O
   ·exact K.2.2 x O y hy
  ·show(_++(am++(s1.gone.map (·.1)++aV))).Nodup;rw[a3];exact iR.nodup_iff.2 hnd
  ·intro x O;have O:x∈(aa++q::(n,o,v)::Bs).map (·.1)++(am++(s1.gone.map (·.1)++aV)):=O;rw[a3] at O;exact L.rg x (iR.mem_iff.1 O)
 refine(RH (by omega) bY).mono ?_;rintro A5 V5 x s5 ⟨rfl,c1,c2,c3,c4,c5⟩ Df;have c4:s5.gone=s.gone:=c4.trans a3;have m4:s1.up.up.up.up.up.up.up.up.up.made=s1.made+9:=rfl;have YT:fF V4.er s1.up.up.up.up.up.up.up.up.up=fF V.er s1:=by rw[e5];rfl
 refine⟨am,aa++q::(n,o,v)::Bs,n,c2.more (by omega),by rw[c4];exact iR,.inr ⟨Dq,.inr ⟨rfl,?_,rfl,rfl⟩⟩,λ _ _=>⟨uI,.nd q.1 0,fv Bs,?_⟩,λ m h1 A=>?_,by rw[c1,e4],c3,rfl,?_,by rw[c4];exact dp,by rw[m4,YT] at c5;omega,?_,by simp⟩
 ·rw[a4.e];exact((List.perm_middle (l₁:=aa++[q]) (l₂:=Bs) (a:=(n,o,v))).symm.symm.trans (by simp))|>λ hp=>by simpa using hp
 ·have pH:(((s1.up.up.up.up.up.up.up.up.up.made:Nat):Int)-1).toNat=ab.length+8:=by rw[m4];omega
  show(ab++(A2++_::_::(_::_::[]++A5)))[(((s1.up.up.up.up.up.up.up.up.up.made:Nat):Int)-1).toNat]?=_;rw[pH,List.getElem?_append_right (by omega),List.getElem?_append_right (by omega),wc,show ab.length+8-ab.length-5=3 by omega]
  rfl
 ·funext i
  rw[c1,key,if_neg (λ e=>h1 (by rw[e.1];exact List.mem_map_of_mem AK)),if_neg (λ e=>A (by rw[e.1];simp)),if_neg (λ e=>A (by rw[e.1];simp)),if_neg (λ e=>A (by rw[e.1];simp))]
 ·show 0<=((s1.made+9:Nat):Int)-1/\((s1.made+9:Nat):Int)-1<_;rw[m4] at Df;omega
 ·rw[a4.e];simp only[List.length_append,List.length_cons];omega
theorem VD{d:eW}(hN:N<=100)(hB:B<=70000)(hS:l.az=1)(L:Cl N B V s am aV al)(F:d∈al)(qt:d.2.1<o)(hs:s.made=0)(dp:s.gone.length<=1):
 Rn l N (λ _=>qR l 0 (aE l d.1 0) o) s V λ ab aR x M=>∃bV ea n,BW N B 3 o v V s.gone am aV al ab aR x M bV ea n:=by
 unfold qR;refine Rn.at (f:=λ k=>vT l 0 (aE l d.1 0) o k) (λ _=>Nat.le_refl _) (Rn.loop (λ k=>rfl) ((IY hN (by omega) L F qt).mono ?_));rintro ab V1 f s1 ⟨a1,a2,a3,⟨aa,q,Bs,a4⟩,a5,a6,a7⟩-;refine⟨a7,?_⟩;have hp:=wU V.er s
 by_cases ht:f.there=true
 case neg=>refine Rn.gY ht ?_;have hn:=a4.no (by simpa using ht);exact GS (A0:=ab) (by omega) a2 a3 dp a1.W rfl a5 (by rw[a1.er];omega) (.inr ⟨hn,.inl ⟨by omega,rfl,rfl,rfl⟩⟩) (n:=0) (λ h=>by omega)
 obtain⟨c,ap,rfl,ho,sk⟩:=a4.yes ht;have me:c∈al:=by rw[a4.e];simp
 have AK:q∈al:=by rw[a4.e];simp
 have h3:=L.mem me;have Dw:=L.mem AK;have Gp:=L.word a4.e;have Ku:=L.word (aa:=aa++[q]) (p:=c) (ap:=ap) (by rw[a4.e];simp);have bG:fv (c::ap)=c.1:=rfl;have hnd:=L.nd;have Dn:=(List.nodup_append.1 hnd).1;have J8:(q.1::c.1::(aa++ap).map (·.1)).Nodup:=by rw[a4.e,List.map_append,List.map_cons,List.map_cons] at Dn;rw[List.map_append];exact((List.perm_middle).trans (List.Perm.cons _ List.perm_middle)).nodup_iff.1 Dn
 have Y2:q.1≠c.1:=λ e=>(List.nodup_cons.1 J8).1 (by rw[e];simp)
 refine Rn.fm ht ?_;rw[a4.cur,a4.prev,sk,bG,uS Ku.2.1 (by omega),yQ (n:=c.1) (by omega) (by omega),yQ (n:=fv ap) (by omega) (by omega)];have X7:V1.get (.nd c.1 0)=fv ap:=by show V1.W.nd c.1 0=_;rw[a1.W];exact Ku.1
 refine Rn.rO (a:=.nd c.1 0) rfl X7 (a2.fY (by omega) me rfl (by omega) (by show ol (fv ap)<_;rw[aav Ku.2.1 (by omega)];omega)) (Rn.fm rfl (Rn.last ?_));have Ya:(V1.put (.nd c.1 0) (ol (fv ap))).get (.nd q.1 0)=c.1:=by show(if q.1=c.1/\(0:Int)=0 then ol (fv ap) else V1.W.nd q.1 0)=_;rw[if_neg (λ e=>Y2 e.1),a1.W,Gp.1,bG]
 refine Rn.rO (a:=.nd q.1 0) rfl Ya ((a2.lv.nd c.1 0 (ol (fv ap))).up.fY (by omega) rfl Dw.1 Dw.2 (by omega) (by show fv ap<_;omega)) (Rn.fm rfl ?_);have te:=((a2.lv.nd c.1 0 (ol (fv ap))).nd q.1 0 (fv ap)).up.up;have key:∀m i,((V1.put (.nd c.1 0) (ol (fv ap))).put (.nd q.1 0) (fv ap)).W.nd m i=if m=q.1/\i=0 then fv ap else if m=c.1/\i=0 then ol (fv ap) else V.W.nd m i:=by
  intro m i;rw[<-a1.W]
  rfl
 have e3:((V1.put (.nd c.1 0) (ol (fv ap))).put (.nd q.1 0) (fv ap)).W.ob=V.W.ob:=by rw[<-a1.W];rfl
 have e5:((V1.put (.nd c.1 0) (ol (fv ap))).put (.nd q.1 0) (fv ap)).er=V.er:=by rw[<-a1.er];rfl
 generalize(V1.put (.nd c.1 0) (ol (fv ap))).put (.nd q.1 0) (fv ap)=V3 at te key e3 e5;refine Rn.bind ((ui (by omega) te).mono ?_);rintro A4 V4 _ s4 ⟨b1,b2,b3,b4,b5⟩ AD;have b4:s4.gone=s.gone:=b4.trans a3;have XA:c.1∉am:=h3.2;have XB:c.1∉s.gone.map (·.1):=λ hm=>(List.nodup_append.1 hnd).2.2 _ (List.mem_map_of_mem me) _ (List.mem_append_right _ (List.mem_append_left _ hm)) rfl
 have W4:(am++s.gone.map (·.1)).Nodup:=by have h1:=(List.nodup_append.1 hnd).2.1;rw[<-List.append_assoc] at h1;exact(List.nodup_append.1 h1).1
 refine Rn.bind ((LP (n:=c.1) hN (by omega) hS b2 b3 ?_ ?_ (by rw[b4];exact dp)).mono ?_)
 ·rw[b4];refine List.nodup_cons.2 ⟨λ hm=>?_,W4⟩;rcases List.mem_append.1 hm with hm|hm
  ·exact XA hm
  ·exact XB hm
 ·rw[b4];intro x O;rcases List.mem_cons.1 O with rfl|O
  ·exact h3.1
  ·refine L.rg x (List.mem_append_right _ ?_);rcases List.mem_append.1 O with O|O
   ·exact List.mem_append_left _ O
   ·exact List.mem_append_right _ (List.mem_append_left _ O)
 rintro A5 V5 _ s5 ⟨F5,d1,d2,d3,d4,d5,d6⟩ Df;rw[b4] at d2;have CO:V5.W=V3.W:=by rw[d3,b1.W]
 have cT:∀x∈aa++ap,x.1≠q.1/\x.1≠c.1:=λ x O=>by
  have h1:=(List.nodup_cons.1 J8).1;have A:=(List.nodup_cons.1 (List.nodup_cons.1 J8).2).1;exact⟨λ e=>h1 (by rw[<-e];exact List.mem_cons_of_mem _ (List.mem_map_of_mem O)),λ e=>A (by rw[<-e];exact List.mem_map_of_mem O)⟩
 have iR:((aa++q::ap).map (·.1)++(F5++(s5.gone.map (·.1)++aV))).Perm (al.map (·.1)++(am++(s.gone.map (·.1)++aV))):=by
  have h1:(F5++(s5.gone.map (·.1)++aV)).Perm (c.1::(am++(s.gone.map (·.1)++aV))):=by
   have:=d2.append_right aV
   simpa[List.append_assoc] using this
  refine(List.Perm.append_left _ h1).trans ?_;rw[a4.e];simp only[List.map_append,List.map_cons,List.append_assoc,List.cons_append];refine List.Perm.append_left _ (List.Perm.cons _ ?_);exact List.perm_middle
 have mn:=L.rw.up;rw[a4.e] at mn;have m3:s1.up.up.made=s1.made+2:=rfl;rw[m3] at AD;have wz:fF V3.er s1.up.up=fF V.er s1:=by rw[e5];rfl
 refine Rn.pure ⟨F5,aa++q::ap,0,⟨d1.more (by omega),⟨?_,?_,?_⟩,iR.nodup_iff.2 hnd,λ x O=>L.rg x (iR.mem_iff.1 O)⟩,iR,.inl ⟨c,me,ho,.inr (.inr ⟨rfl,?_,rfl,rfl⟩)⟩,λ h=>by omega,λ m h1 _=>?_,by rw[CO,e3],d4,rfl,?_,d5,?_,?_,?_⟩
 ·have n3:=L.rw.ln;rw[a4.e,List.map_append,List.map_cons,List.map_cons] at n3;rw[List.map_append,List.map_cons];refine gF.del ?_ n3 λ x O=>?_
  ·show V5.W.nd q.1 0=_;rw[CO,key,if_pos ⟨rfl,rfl⟩];rfl
  ·rw[<-List.map_append] at O;obtain⟨y,hy,rfl⟩:=List.mem_map.1 O;have:=cT y hy;show V5.W.nd y.1 0=_;rw[CO,key,if_neg (λ e=>this.1 e.1),if_neg (λ e=>this.2 e.1)]
 ·intro x O;have fD:x∈al:=by
   rw[a4.e];rcases List.mem_append.1 O with O|O
   ·exact List.mem_append_left _ O
   ·rcases List.mem_cons.1 O with rfl|O
    ·simp
    ·exact List.mem_append_right _ (List.mem_cons_of_mem _ (List.mem_cons_of_mem _ O))
  rw[CO,key,key,if_neg (by omega),if_neg (by omega),if_neg (by omega),if_neg (by omega)];exact L.rw.od x fD
 ·rw[show aa++q::c::ap=(aa++[q])++c::ap by simp] at mn;rw[show aa++q::ap=(aa++[q])++ap by simp];have K:=List.pairwise_append.1 mn;exact List.pairwise_append.2 ⟨K.1,(List.pairwise_cons.1 K.2.1).2,λ x O y hy=>K.2.2 x O y (List.mem_cons_of_mem _ hy)⟩
 ·rw[a4.e,show aa++q::c::ap=(aa++[q])++c::ap by simp,show aa++q::ap=(aa++[q])++ap by simp];exact List.perm_middle
 ·funext i
  rw[CO,key,if_neg (λ e=>h1 (by rw[e.1];exact List.mem_map_of_mem AK)),if_neg (λ e=>h1 (by rw[e.1];exact List.mem_map_of_mem me))]
 ·show 0<=((s1.made+1:Nat):Int)-1/\((s1.made+1:Nat):Int)-1<_;omega
 ·rw[m3,wz] at b5;omega
 ·rw[a4.e];simp only[List.length_append,List.length_cons];omega
 ·have:=d2.length_eq;simp only[List.length_append,List.length_cons,List.length_map] at this;omega
def DQ(l:ag)(F kind o v:Int):Pm bf:=if kind=1 then getM l 0 F o else if kind=2 then rA l 0 F o v else qR l 0 F o
theorem aag{kind:Int}{d:eW}(hN:N<=100)(hB:B<=70000)(hS:l.az=1)(I:kind=1\/kind=2\/kind=3)(L:Cl N B V s am aV al)(F:d∈al)(qt:d.2.1<o)(hs:s.made=0)(dp:s.gone.length<=1)(hF:am≠[])(Dr:o<9223372036854775808)(DA:v<9223372036854775808):
 Rn l N (λ _=>DQ l (aE l d.1 0) kind o v) s V λ ab aR x M=>∃bV ea n,BW N B kind o v V s.gone am aV al ab aR x M bV ea n:=by
 unfold DQ;rcases I with rfl|rfl|rfl
 ·exact WG hN (by omega) L F qt hs dp
 ·exact ab9 hN (by omega) L F qt hs dp hF Dr DA
 ·exact VD hN hB hS L F qt hs dp
end
theorem Rn.Vd{l:ag}{N:Nat}{s:ah}{V:Vw}{a:Ad}{c o v:Int}{Q:List Hk->Vw->Bool->ah->Prop}(L:a.cell l=c)(ho:V.get a=o)(hs:Sf l N V (.ak (.cs a o v)))(h:Q [.ak (.cs a o v)] (V.put a v) true s.up):Rn l N (λ _=>eZ c o v) s V Q:=by
 have e:ny V (.ak (.cs a o v))=(V.put a v,⟨V.get a,true⟩):=by show(if V.get a=o then _ else _)=_;rw[if_pos ho]
 unfold eZ;refine Rn.qj (a:=.ak (.cs a o v)) (by rw[<-L];rfl) hs ?_;rw[e];exact Rn.pure h
structure Nd(N:Nat)(B:Int)(V:Vw)(s:ah)(am aV Ns:List Int):Prop where
 lv:Lv N B V s am
 nd:(Ns++(am++(s.gone.map (·.1)++aV))).Nodup
 rg:∀n∈Ns++(am++(s.gone.map (·.1)++aV)),1<=n/\n<=(N:Int)
section
variable{l:ag}{N:Nat}{B:Int}{V aR:Vw}{s M:ah}{am aV Ns:List Int}
theorem Nd.to(h:Nd N B V s am aV Ns)(Z:Lv N B aR M am)(hg:M.gone=s.gone):Nd N B aR M am aV Ns:=⟨Z,by rw[hg];exact h.nd,by rw[hg];exact h.rg⟩
theorem Nd.mem(h:Nd N B V s am aV Ns){n:Int}(hn:n∈Ns):(1<=n/\n<=(N:Int))/\n∉am:=⟨h.rg _ (List.mem_append_left _ hn),λ hf=>(List.nodup_append.1 h.nd).2.2 _ hn _ (List.mem_append_left _ hf) rfl⟩
theorem Nd.G5(h:Nd N B V s am aV Ns){m:Int}(hm:m∈aV):m∉Ns/\m∉am:=⟨λ h1=>(List.nodup_append.1 h.nd).2.2 m h1 m (by simp[hm]) rfl,λ h1=>(List.nodup_append.1 (List.nodup_append.1 h.nd).2.1).2.2 m h1 m (by simp[hm]) rfl⟩
theorem Nd.of{F0 MH:List Int}{j9:Int}(h:Nd N B V s F0 aV MH)(Z:Lv N j9 aR M am)(hp:(Ns++(am++(M.gone.map (·.1)++aV))).Perm (MH++(F0++(s.gone.map (·.1)++aV)))):Nd N j9 aR M am aV Ns:=⟨Z,hp.nodup_iff.2 h.nd,λ n hn=>h.rg n (hp.mem_iff.1 hn)⟩
theorem Nd.fY(h:Nd N B V s am aV Ns)(hB:B<=90000){a:Hk}{n i:Int}(hn:n∈Ns)(ha:a.nS=.nd n i)(X:0<=i/\i<=5)(hw:a.wr<9223372036854775808):Sf l N V a:=h.lv.fY hB ha (h.mem hn).1 (h.mem hn).2 X hw
theorem Nd.ret{n:Int}(h:Nd N B V s am aV Ns)(hn:n∈Ns):(n::(am++s.gone.map (·.1))).Nodup/\∀x∈n::(am++s.gone.map (·.1)),1<=x/\x<=(N:Int):=by
 have h1:=List.nodup_append.1 h.nd;have A:(am++s.gone.map (·.1)).Nodup:=by have:=h1.2.1;rw[<-List.append_assoc] at this;exact(List.nodup_append.1 this).1
 have hm:∀x∈am++s.gone.map (·.1),x∈am++(s.gone.map (·.1)++aV):=λ x O=>by
  rw[<-List.append_assoc];exact List.mem_append_left _ O
 refine⟨List.nodup_cons.2 ⟨λ O=>h1.2.2 n hn n (hm n O) rfl,A⟩,λ x O=>?_⟩;rcases List.mem_cons.1 O with rfl|O
 ·exact h.rg _ (List.mem_append_left _ hn)
 ·exact h.rg _ (List.mem_append_right _ (hm x O))
structure Fr(lo X:Int)(V aR:Vw)(aV:List Int):Prop where
 nd:∀m∈aV,aR.W.nd m=V.W.nd m
 ob:∀c,c<lo\/X<=c->aR.W.ob c=V.W.ob c
theorem Fr.trans{lo X:Int}{V1 V2 V3:Vw}(h:Fr lo X V1 V2 aV)(bL:Fr lo X V2 V3 aV):Fr lo X V1 V3 aV:=⟨λ m hm=>(bL.nd m hm).trans (h.nd m hm),λ c L=>(bL.ob c L).trans (h.ob c L)⟩
theorem Fr.wide{lo X Q8 kx:Int}{V1 V2:Vw}(h:Fr lo X V1 V2 aV)(h1:Q8<=lo)(A:X<=kx):Fr Q8 kx V1 V2 aV:=⟨h.nd,λ c L=>h.ob c (by omega)⟩
structure Wc(w n aL:Int):Prop where
 e:w=131072*(w/131072)+n
 k:0<=w/131072/\w/131072<=aL
theorem Wc.idx{w n aL:Int}(h:Wc w n aL)(h0:0<=n)(h1:n<65536):(ay w).idx=n:=by have:=h.e;rw[Le];omega
theorem Wc.HH{w n aL j:Int}(h:Wc w n aL)(hK:aL<1000000)(h0:0<=n/\n<65536)(hj:0<=j/\j<65536):Wc (cf (co (ay w) j)) j (aL+1):=by have I:=h.k;have hp:=Lo (j:=j) h.e (by omega) (by omega) h0 hj;rw[hp];exact⟨by omega,by omega⟩
theorem Wc.more{w n aL nP:Int}(h:Wc w n aL)(I:aL<=nP):Wc w n nP:=⟨h.e,by have:=h.k;omega⟩
structure B8(aS aL:Int)(W:Ws)(aC:List (Int×Int)):Prop where
 w:Wc (W.ob aS) ((aC.map (·.1)).headD 0) aL
 ln:gF (λ n=>W.nd n 0) (aC.map (·.1))
 vl:∀x∈aC,W.nd x.1 1=x.2
theorem ab2{aS c v aL:Int}{aC:List (Int×Int)}(hN:N<=100)(hB:B<=70000)(hK:aL<=90000)(yv:9<=aS/\aS<l.node)(h:Nd N B V s am aV (aC.map (·.1)))(I:B8 aS aL V.W aC)(hz:∀i,s.e i=0)(hF:am≠[])(hv:v<9223372036854775808):
 Rn l N (λ _=>Em.rz l aS c v) s V λ _ aR x M=>∃bV n,Nd N (B+4) aR M bV aV (((n,v)::aC).map (·.1))/\B8 aS (aL+1) aR.W ((n,v)::aC)/\(((n,v)::aC).map (·.1)++(bV++(M.gone.map (·.1)++aV))).Perm (aC.map (·.1)++(am++(s.gone.map (·.1)++aV)))/\Fr aS (aS+1) V aR aV/\(∀i,M.e i=0)/\M.gone=s.gone/\x.val=0/\x.is=true/\x.err=0/\M.made=s.made+9/\am.length<=bV.length+1:=by
 cases am with
 |nil=>exact absurd rfl hF
 |cons n am=>
 have lP:=sc (N:=N) (am:=aC.map (·.1)) λ x O=>(h.mem O).1
 unfold Em.rz;refine Rn.bind ((Ms hN (by omega) h.lv).mono ?_);rintro A1 V1 _ s1 ⟨rfl,rfl,a1,a2,a3⟩-;have uI:=h.rg n (by simp);have hnd:=List.nodup_append.1 h.nd;have iC:n∉am:=λ hm=>(List.nodup_cons.1 (List.nodup_append.1 hnd.2.1).1).1 hm
 have P0:n∉aC.map (·.1):=λ hm=>hnd.2.2 n hm n (by simp) rfl
 refine Rn.fm rfl (Rn.store (a:=.nd n 1) rfl (a3.fY (by omega) rfl uI iC (by omega) hv) ?_);refine Rn.at (λ _=>Nat.le_refl _) (Rn.loop (λ k=>rfl) ?_);unfold Em.vt;refine Rn.load (a:=.ob aS) rfl ((a3.nd n 1 v).up.rD (by omega) rfl yv fq) ?_;have nD:(V1.put (.nd n 1) v).get (.ob aS)=V.W.ob aS:=by show V1.W.ob aS=_;rw[a1]
 rw[nD];have j3:=I.w.idx lP.1 (by omega);rw[j3];refine Rn.store (a:=.nd n 0) rfl ((a3.nd n 1 v).up.up.fY (by omega) rfl uI iC (by omega) (by show(aC.map (·.1)).headD 0<_;omega)) ?_;refine Rn.Vd (a:=.ob aS) rfl (by show V1.W.ob aS=_;rw[a1]) ((((a3.nd n 1 v).nd n 0 ((aC.map (·.1)).headD 0)).up.up.up).rD (by omega) rfl yv (by exact Bp _)) ⟨by simp only[ah.up];omega,Rn.fm rfl (Rn.last (Rn.pure ?_))⟩;have ON:=((((a3.nd n 1 v).nd n 0 ((aC.map (·.1)).headD 0)).ob aS (cf (co (ay (V.W.ob aS)) n))).up.up.up.up);have AF:∀m i,(((V1.put (.nd n 1) v).put (.nd n 0) ((aC.map (·.1)).headD 0)).put (.ob aS) (cf (co (ay (V.W.ob aS)) n))).W.nd m i=if m=n/\i=0 then(aC.map (·.1)).headD 0 else if m=n/\i=1 then v else V.W.nd m i:=λ m i=>by rw[<-a1];rfl
 have Ka:∀c,(((V1.put (.nd n 1) v).put (.nd n 0) ((aC.map (·.1)).headD 0)).put (.ob aS) (cf (co (ay (V.W.ob aS)) n))).W.ob c=if c=aS then cf (co (ay (V.W.ob aS)) n) else V.W.ob c:=λ c=>by rw[<-a1];rfl
 generalize((V1.put (.nd n 1) v).put (.nd n 0) ((aC.map (·.1)).headD 0)).put (.ob aS) (cf (co (ay (V.W.ob aS)) n))=V4 at ON AF Ka;have iR:(((n,v)::aC).map (·.1)++(am++(s.gone.map (·.1)++aV))).Perm (aC.map (·.1)++(n::am++(s.gone.map (·.1)++aV))):=List.perm_middle.symm;refine⟨am,n,Nd.of (M:=s.up.up.up.up.up.up.up.up.up) h (ON.more (by omega)) iR,⟨?_,⟨?_,I.ln.same λ x O=>?_⟩,λ x O=>?_⟩,iR,⟨λ m hm=>?_,λ c L=>?_⟩,hz,rfl,rfl,rfl,rfl,rfl,by simp⟩
 ·rw[Ka,if_pos rfl];exact I.w.HH (by omega) (by omega) (by omega)
 ·show V4.W.nd n 0=_;rw[AF,if_pos ⟨rfl,rfl⟩]
 ·show V4.W.nd x 0=_;have tM:x≠n:=λ e=>P0 (e▸O)
  rw[AF,if_neg (by omega),if_neg (by omega)]
 ·rcases List.mem_cons.1 O with rfl|O
  ·rw[AF,if_neg (by omega),if_pos ⟨rfl,rfl⟩]
  ·have hm:x.1∈aC.map (·.1):=List.mem_map_of_mem O;have tM:x.1≠n:=λ e=>P0 (e▸hm)
   rw[AF,if_neg (by omega),if_neg (by omega)];exact I.vl x O
 ·have rc:m≠n:=λ e=>(h.G5 hm).2 (by rw[e];simp)
  funext i
  rw[AF,if_neg (by omega),if_neg (by omega)]
 ·rw[Ka,if_neg (by omega)]
theorem abQ{aS c aL:Int}{aC:List (Int×Int)}(hN:N<=100)(hB:B<=70000)(hK:aL<=90000)(hS:l.az=1)(yv:9<=aS/\aS<l.node)(h:Nd N B V s am aV (aC.map (·.1)))(I:B8 aS aL V.W aC)(dp:s.gone.length<=1):
 Rn l N (λ _=>Em.tU l 0 aS c) s V λ _ aR x M=>∃bV pZ,Nd N (B+4) aR M bV aV (pZ.map (·.1))/\B8 aS (aL+1) aR.W pZ/\(pZ.map (·.1)++(bV++(M.gone.map (·.1)++aV))).Perm (aC.map (·.1)++(am++(s.gone.map (·.1)++aV)))/\Fr aS (aS+1) V aR aV/\(∀i,M.e i=0)/\M.gone.length<=1/\((aC=[]/\pZ=[]/\x.val=0/\x.is=false)\/∃y,aC=y::pZ/\x.val=y.2/\x.is=true)/\x.err=0/\s.made<M.made/\M.made<=s.made+40/\am.length<=bV.length:=by
 have lP:=sc (N:=N) (am:=aC.map (·.1)) λ x O=>(h.mem O).1
 have Kf:=wU V.er s;unfold Em.tU;refine Rn.at (λ _=>Nat.le_refl _) (Rn.loop (λ k=>rfl) ?_);unfold Em.vr;refine Rn.bind ((xL (a:=.ob aS) (by omega) h.lv (by omega) (by omega) rfl (λ _ _ _=>rfl) λ V s h=>h.rD (by omega) rfl yv fq).mono ?_);rintro A1 V1 _ s1 ⟨a1,a2,rfl,a3,a4,a5⟩-;have nD:V.get (.ob aS)=V.W.ob aS:=rfl;have j3:=I.w.idx lP.1 (by omega);have h1:=h.to a2 a3;show Rn l N (λ _=>if(ay (V.W.ob aS)).idx=0 then .pure (0,(s1.made:Int)-2,0) else(cj (aE l (ay (V.W.ob aS)).idx 0)).bind λ below=>(eZ aS (V.W.ob aS) (cf (co (ay (V.W.ob aS)) below))).bind λ ok=>if ok then j4.bind λ a=>.pure ((ay (V.W.ob aS)).idx,a,2) else j4.bind λ a=>.pure (0,a,1)) _ _ _;rw[j3];cases aC with
 |nil=>
  refine Rn.fm rfl (Rn.pure ⟨by omega,Rn.fm rfl (Rn.bind ((ui (by omega) a2).mono ?_))⟩);rintro A2 V2 _ s2 ⟨b1,b2,b3,b4,b5⟩ n4;have hW:V2.W=V.W:=by rw[b1.W,a1.W]
  have hg:s2.gone=s.gone:=b4.trans a3;rw[a1.er] at b5;refine Rn.pure ⟨am,[],(h.to b2 hg|>λ h=>⟨h.lv.more (by omega),h.nd,h.rg⟩),?_,by rw[hg],⟨λ m _=>by rw[hW],λ c _=>by rw[hW]⟩,b3,by rw[hg];exact dp,.inl ⟨rfl,rfl,rfl,rfl⟩,rfl,by omega,by omega,by omega⟩;rw[hW];exact⟨I.w.more (by omega),I.ln,I.vl⟩
 |cons y aC=>
  have hy:=h.mem (n:=y.1) (by simp);have Qv:((y::aC).map (·.1)).headD 0=y.1:=rfl;rw[Qv] at j3 lP⊢;have n3:=I.ln;have xV:0<=(aC.map (·.1)).headD 0/\(aC.map (·.1)).headD 0<=(N:Int):=sc λ x O=>(h.mem (n:=x) (by simp only[List.map_cons];exact List.mem_cons_of_mem _ O)).1
  refine Rn.gY (by omega) (Rn.load (a:=.nd y.1 0) rfl (h1.fY (by omega) (by simp) rfl (by omega) fq) ?_);have xY:V1.get (.nd y.1 0)=(aC.map (·.1)).headD 0:=by show V1.W.nd y.1 0=_;rw[a1.W];exact n3.1
  rw[xY];refine Rn.rO (a:=.ob aS) rfl (by show V1.W.ob aS=_;rw[a1.W]) (h1.lv.up.rD (by omega) rfl yv (Bp _)) (Rn.fm rfl (Rn.last (Rn.pure ⟨by show s.made<s1.made+1+1;omega,?_⟩)));refine Rn.gY (by show¬(2:Int)=0;omega) (Rn.fm rfl ?_);have tq:=(h1.lv.ob aS (cf (co (ay (V.W.ob aS)) ((aC.map (·.1)).headD 0)))).up.up;have wv:(V1.put (.ob aS) (cf (co (ay (V.W.ob aS)) ((aC.map (·.1)).headD 0)))).W.nd=V.W.nd:=by rw[<-a1.W];rfl
  have J9:∀c,(V1.put (.ob aS) (cf (co (ay (V.W.ob aS)) ((aC.map (·.1)).headD 0)))).W.ob c=if c=aS then cf (co (ay (V.W.ob aS)) ((aC.map (·.1)).headD 0)) else V.W.ob c:=λ c=>by rw[<-a1.W];rfl
  have Pd:(V1.put (.ob aS) (cf (co (ay (V.W.ob aS)) ((aC.map (·.1)).headD 0)))).er=V.er:=by rw[<-a1.er];rfl
  generalize V1.put (.ob aS) (cf (co (ay (V.W.ob aS)) ((aC.map (·.1)).headD 0)))=V2 at tq wv J9 Pd;refine Rn.load (a:=.nd y.1 1) rfl (tq.fY (by omega) rfl hy.1 hy.2 (by omega) fq) ?_;have ip:V2.get (.nd y.1 1)=y.2:=by show V2.W.nd y.1 1=_;rw[wv];exact I.vl y (by simp)
  rw[ip];refine Rn.bind ((ui (by omega) tq.up).mono ?_);rintro A3 V3 _ s3 ⟨b1,b2,b3,b4,b5⟩ yc;have fV:s3.gone=s.gone:=b4.trans a3;have K:Nd N B V3 s3 am aV ((y::aC).map (·.1)):=h.to b2 fV;have tK:=K.ret (n:=y.1) (by simp);refine Rn.bind ((LP (n:=y.1) hN (by omega) hS b2 b3 tK.1 tK.2 (by rw[fV];exact dp)).mono ?_);rintro A4 V4 _ s4 ⟨F4,c1,c2,c3,c4,c5,c6⟩ AD;have hW:V4.W=V2.W:=by rw[c3,b1.W]
  rw[fV] at c2;have iR:(aC.map (·.1)++(F4++(s4.gone.map (·.1)++aV))).Perm ((y::aC).map (·.1)++(am++(s.gone.map (·.1)++aV))):=by
   have h1:(F4++(s4.gone.map (·.1)++aV)).Perm (y.1::(am++(s.gone.map (·.1)++aV))):=by
    have:=c2.append_right aV
    simpa[List.append_assoc] using this
   exact(List.Perm.append_left _ h1).trans List.perm_middle
  rw[Pd] at b5;have m2:s1.up.up.up.made=s1.made+3:=rfl;have n8:fF V.er s1.up.up.up=fF V.er s1:=rfl;refine Rn.pure ⟨F4,aC,Nd.of h (c1.more (by omega)) iR,⟨?_,?_,λ x O=>?_⟩,iR,⟨λ m _=>by rw[hW,wv],λ c L=>by rw[hW,J9,if_neg (by omega)]⟩,c4,c5,.inr ⟨y,rfl,rfl,rfl⟩,rfl,?_,?_,?_⟩
  ·rw[hW,J9,if_pos rfl];exact I.w.HH (by omega) (by rw[Qv];omega) (by omega)
  ·rw[hW,wv];exact n3.2
  ·rw[hW,wv];exact I.vl x (by simp[O])
  ·omega
  ·omega
  ·have:=c2.length_eq;simp only[List.length_append,List.length_cons,List.length_map] at this;omega
end
end Go.Proofs.YtcnefjfboagbmaaGreat
