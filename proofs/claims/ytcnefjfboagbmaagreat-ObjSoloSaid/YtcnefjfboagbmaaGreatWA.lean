/- Words and layouts: what they are, and their walks. -/
import Derived.Test.YtcnefjfboagbmaaGreatLB
import Derived.Test.YtcnefjfboagbmaaGreatPA
namespace Go.Proofs.YtcnefjfboagbmaaGreat
open Go.Proofs.Tryz
open Go.RowKit
set_option maxRecDepth 100000
abbrev xE(r:vu):G:=.agg [u r.idx,dB r.mark,u r.mG]
theorem yH(n:Int)(b:Nat)(T:b<=62):aX prog 92 [u n,u b] (u (n%2^b)):=by
 have h1:(2:Int)^b<=4611686018427387904:=by
  have ba:(2:Nat)^b<=2^62:=Nat.pow_le_pow_right (by omega) T;have h5:((2^b:Nat):Int)<=((2^62:Nat):Int):=Int.ofNat_le.2 ba;have h6:((2^62:Nat):Int)=4611686018427387904:=by decide
  rw[h6,Int.natCast_pow] at h5;exact h5
 have h0:(0:Int)<2^b:=Int.pow_pos (by omega);refine sP func92 ntmps92 λ w cl=>?_
 refine go ?_;refine bn (vp b rfl rfl rfl rfl T (by omega) (by omega)) rfl rfl rfl ?_;rw[Int.one_mul];refine gf ?_;rw[M8 n b T]
theorem KV(n:Int):aX prog 92 [u n,u 16] (u (n%65536)):=yH n 16 (by omega)
theorem Q9(n:Int):aX prog 92 [u n,u 1] (u (n%2)):=yH n 1 (by omega)
theorem DT(n:Int):aX prog 92 [u n,u 28] (u (n%268435456)):=yH n 28 (by omega)
theorem kB(n:Int):aX prog 44 [u n] (xE (ay n)):=by
 refine sP func44 ntmps44 λ w cl=>?_
 refine gA (KV n) ?_;refine bn (Es 16 rfl rfl rfl (by omega)) rfl rfl rfl ?_;refine gA (Q9 (n/2^16)) ?_;refine bn (Es 17 rfl rfl rfl (by omega)) rfl rfl rfl ?_;refine gA (DT (n/2^17)) ?_;refine d8 ?_
 rfl
theorem pU(r:vu)(i:Int)(h0:0<=r.mG)(h1:r.mG<268435456):aX prog 177 [xE r,u i] (xE (co r i)):=by
 refine sP func177 ntmps177 λ w cl=>?_
 refine go ?_;refine dW 7 [] ?_;refine gQ (KV i) ?_;refine cQ (DT (r.mG+1)) ?_;refine bh ?_;refine gf ?_
 rfl
theorem AX{x y:Pl}{ps:List Pl}{n:Nat}(h0:ps[n]?=some x)(h1:ps[n+1]?=some y):∀(m:Nat) q,[x,y][m]?=some q->ps[n+m]?=some q:=by
 intro m q hq
 match m,hq with
 |0,hq=>cases hq;exact h0
 |1,hq=>cases hq;exact h1
theorem QY(a b c:Int):aX prog 108 [.p (.sl false 3 [pI a,pI 16,pI b,pI 1,pI c,pI 28])] (u (a%65536+65536*(b%2)+131072*(c%268435456))):=by
 have a0:0<=a%65536:=Int.emod_nonneg _ (by omega);have a1:a%65536<65536:=Int.emod_lt_of_pos _ (by omega);have b0:0<=b%2:=Int.emod_nonneg _ (by omega);have b1:b%2<2:=Int.emod_lt_of_pos _ (by omega);have c0:0<=c%268435456:=Int.emod_nonneg _ (by omega);have c1:c%268435456<268435456:=Int.emod_lt_of_pos _ (by omega);refine sP func108 ntmps108 λ w cl=>?_
 refine go ?_;refine bW (λ i:Nat=>i<=3) (λ i=>⟨[(9,u i),(8,u 3),(7,.p (.sl false 3 [pI a,pI 16,pI b,pI 1,pI c,pI 28])),(3,u (if i=0 then 0 else if i=1 then a%65536 else if i=2 then a%65536+65536*(b%2) else a%65536+65536*(b%2)+131072*(c%268435456))),(4,u (if i=0 then 0 else if i=1 then 16 else if i=2 then 17 else 45))],[],[]⟩) (λ i=>3-i) 0 (by omega) (zX) ?_;intro i X;rcases(show i=0\/i=1\/i=2\/i=3 by omega) with rfl|rfl|rfl|rfl
 ·refine(show aK _ _ _ _ ⟨[(9,u 0),(8,u 3),(7,.p (.sl false 3 [pI a,pI 16,pI b,pI 1,pI c,pI 28])),(3,u (0)),(4,u 0)],[],[]⟩ from ?_);refine go ?_;refine cN (λ h1=>?_) (λ h1=>?_)<;>try rw[h1]
  ·refine go ?_;refine ai [pI a,pI 16] (AX rfl rfl) ?_;refine gA (KV a) ?_;refine bn (vp 0 rfl rfl rfl rfl (by omega) (by omega) (by omega)) rfl rfl rfl ?_;rw[show a%65536*2^0=a%65536 by omega];refine go ?_;refine bn (Bh 0 (a%65536) rfl rfl rfl (by omega) (by omega) (by omega) (by omega) (by omega)) rfl rfl rfl ?_;rw[show 0+a%65536=a%65536 by omega];refine go ?_;exact⟨1,by omega,by omega,zX⟩
  ·exact absurd h1 (by decide)
 ·refine(show aK _ _ _ _ ⟨[(9,u 1),(8,u 3),(7,.p (.sl false 3 [pI a,pI 16,pI b,pI 1,pI c,pI 28])),(3,u (a%65536)),(4,u 16)],[],[]⟩ from ?_);refine go ?_;refine cN (λ h1=>?_) (λ h1=>?_)<;>try rw[h1]
  ·refine go ?_;refine ai [pI b,pI 1] (AX rfl rfl) ?_;refine gA (Q9 b) ?_;refine bn (vp 16 rfl rfl rfl rfl (by omega) (by omega) (by omega)) rfl rfl rfl ?_;rw[show b%2*2^16=65536*(b%2) by omega];refine go ?_;refine bn (Bh 16 (b%2) rfl rfl rfl (by omega) (by omega) (by omega) (by omega) (by omega)) rfl rfl rfl ?_;refine go ?_;exact⟨2,by omega,by omega,zX⟩
  ·exact absurd h1 (by decide)
 ·refine(show aK _ _ _ _ ⟨[(9,u 2),(8,u 3),(7,.p (.sl false 3 [pI a,pI 16,pI b,pI 1,pI c,pI 28])),(3,u (a%65536+65536*(b%2))),(4,u 17)],[],[]⟩ from ?_);refine go ?_;refine cN (λ h1=>?_) (λ h1=>?_)<;>try rw[h1]
  ·refine go ?_;refine ai [pI c,pI 28] (AX rfl rfl) ?_;refine gA (DT c) ?_;refine bn (vp 17 rfl rfl rfl rfl (by omega) (by omega) (by omega)) rfl rfl rfl ?_;rw[show c%268435456*2^17=131072*(c%268435456) by omega];refine go ?_;refine bn (Bh 17 (c%268435456) rfl rfl rfl (by omega) (by omega) (by omega) (by omega) (by omega)) rfl rfl rfl ?_;refine go ?_;exact⟨3,by omega,by omega,zX⟩
  ·exact absurd h1 (by decide)
 ·refine(show aK _ _ _ _ ⟨[(9,u 3),(8,u 3),(7,.p (.sl false 3 [pI a,pI 16,pI b,pI 1,pI c,pI 28])),(3,u (a%65536+65536*(b%2)+131072*(c%268435456))),(4,u 45)],[],[]⟩ from ?_);refine go ?_;refine cN (λ h1=>?_) (λ h1=>?_)<;>try rw[h1]
  ·exact absurd h1 (by decide)
  ·refine gf ?_
   rfl
theorem lZ(r:vu):aX prog 74 [xE r] (u (cf r)):=by
 have hm:∀b:Bool,(if b then(1:Int) else 0)%2=if b then 1 else 0:=λ b=>by cases b<;>rfl
 obtain⟨i,m,c⟩:=r;refine sP func74 ntmps74 λ w cl=>?_
 refine go ?_;cases m
 ·refine gA (QY i 0 c) ?_;refine d8 ?_
  rfl
 ·refine gA (QY i 1 c) ?_;refine d8 ?_
  rfl
abbrev cn(l:ag):List G:=[u l.az,u l.nodes,u l.buckets,u l.bP,u l.tasks,u l.cells,u l.maps,u l.cZ,u l.bo,u l.done,u l.count,u l.era,u l.free,u l.alive,u l.owner,u l.kV,u l.rU,u l.ring,u l.task,u l.cell,u l.map,u l.stack,u l.chan,u l.node,u l.size]
abbrev dD(l:ag):G:=.agg (cn l)
theorem xj(first o7 qS row i:Int)(h1:lH first)(A:lH o7)(K:0<=qS/\qS<=1000)(h4:i<9223372036854775808):aX prog 91 [u first,u o7,u qS,u row,u i] (u (kZ first o7 qS row i)):=by
 obtain⟨aeX,aeY⟩:=h1;obtain⟨ae0,ae1⟩:=A;refine sP func91 ntmps91 λ w cl=>?_
 refine go ?_;generalize k1:decide (row<0)=cc;cases cc
 ·have qA:=of_decide_eq_false k1;refine go ?_;generalize k2:decide (o7<=row)=cc;cases cc
  ·have tN:=of_decide_eq_false k2;refine go ?_;generalize k3:decide (i<0)=cc;cases cc
   ·have QM:=of_decide_eq_false k3;refine go ?_;generalize k4:decide (qS<=i)=cc;cases cc
    ·have DM:=of_decide_eq_false k4;have ky:0<=row*qS:=Int.mul_nonneg (by omega) (by omega);have n4:row*qS<=1000000*1000:=Int.mul_le_mul (by omega) (by omega) (by omega) (by omega);have ew:IntKind.i64.wrap (row*qS)=row*qS:=eI (by omega) (by omega);refine go ?_;rw[ew];refine gf ?_;rw[kZ,if_neg (by omega)]
    ·refine gf ?_;rw[kZ,if_pos (by have:=of_decide_eq_true k4;omega)]
   ·refine gf ?_;rw[kZ,if_pos (by have:=of_decide_eq_true k3;omega)]
  ·refine gf ?_;rw[kZ,if_pos (by have:=of_decide_eq_true k2;omega)]
 ·refine gf ?_;rw[kZ,if_pos (by have:=of_decide_eq_true k1;omega)]
theorem j7(l:ag)(R:ca l)(n i:Int)(hn:n<9223372036854775808)(X:i<9223372036854775808):aX prog 46 [dD l,u n,u i] (u (aE l n i)):=by
 have e1:=R.node;have e2:=R.nodes;refine sP func46 ntmps46 λ w cl=>?_
 refine go ?_;generalize k1:decide (n<1)=cc;cases cc
 ·have qA:=of_decide_eq_false k1;refine gA (xj l.node l.nodes 8 (n-1) i e1 e2 (by omega) X) ?_;refine d8 ?_;rw[aE,if_neg qA]
 ·refine gf ?_;rw[aE,if_pos (of_decide_eq_true k1)]
theorem kW(l:ag)(R:ca l)(s i:Int)(X:i<9223372036854775808):aX prog 195 [dD l,u s,u i] (u (cg l s i)):=by
 refine sP func195 ntmps195 λ w cl=>?_
 refine gA (xj l.kV l.az 3 s i R.kV R.az (by omega) X) ?_;refine d8 ?_
 rfl
def Bo(p:Int×Int):List Pl:=[pI p.1,pI p.2]
def gL(l:List (Int×Int)):List Pl:=l.flatMap Bo
abbrev vc(l:List (Int×Int)):Pl:=.sl false l.length (gL l)
abbrev d7(l:List (Int×Int)):G:=.p (vc l)
def yO(r:aD):List Pl:=[pI r.val,pB r.ok]
def gM(l:List aD):List Pl:=l.flatMap yO
abbrev gH(l:List aD):G:=.p (.sl false l.length (gM l))
abbrev xF(r:aD):G:=.agg [u r.val,dB r.ok]
abbrev fy(a:aT):G:=.agg [u a.kind,u a.cell,u a.fz,u a.new]
abbrev Bq(l:ag)(D:Int)(s:ah):List Pl:=[pI l.az,pI l.nodes,pI l.buckets,pI l.bP,pI l.tasks,pI l.cells,pI l.maps,pI l.cZ,pI l.bo,pI l.done,pI l.count,pI l.era,pI l.free,pI l.alive,pI l.owner,pI l.kV,pI l.rU,pI l.ring,pI l.task,pI l.cell,pI l.map,pI l.stack,pI l.chan,pI l.node,pI l.size,pI D,vc s.gone,pI s.made,pI s.e0,pI s.e1,pI s.e2]
abbrev m9(l:ag)(D:Int)(s:ah):List G:=[u l.az,u l.nodes,u l.buckets,u l.bP,u l.tasks,u l.cells,u l.maps,u l.cZ,u l.bo,u l.done,u l.count,u l.era,u l.free,u l.alive,u l.owner,u l.kV,u l.rU,u l.ring,u l.task,u l.cell,u l.map,u l.stack,u l.chan,u l.node,u l.size,u D,d7 s.gone,u s.made,u s.e0,u s.e1,u s.e2,.fn (.func 203) [] [.ptr 12 0,.ptr 13 0]]
abbrev bZ(l:ag)(D:Int)(log:List aD)(s:ah):bE:=[(11,m9 l D s),(12,[.ptr 11 0]),(13,[gH log])]
theorem gB(l:ag)(R:ca l)(D:Int)(s:ah)(n i:Int)(hn:n<9223372036854775808)(X:i<9223372036854775808):aX prog 207 [.el (Bq l D s),u n,u i] (u (aE l n i)):=by
 refine sP func207 ntmps207 λ w cl=>?_
 refine gA (j7 l R n i hn X) ?_;refine d8 ?_
 rfl
theorem iV(l:ag)(D:Int)(s:ah)(h:(s.made:Int)<9223372036854775807):aX prog 214 [.el (Bq l D s)] (u ((s.made:Int)-1)):=by
 refine sP func214 ntmps214 λ w cl=>?_
 refine gf ?_
 rfl
theorem I1{ar:Type}{f:ar->List Pl}{a b:ar->Pl}(hf:∀x,f x=[a x,b x]):∀{l:List ar}{i:Nat}{x:ar},l[i]?=some x->∀(m:Nat) q,[a x,b x][m]?=some q->(l.flatMap f)[i*2+m]?=some q
 |[],i,x,h=>by simp at h
 |y::l,0,x,h=>by
  intro m q hq;simp at h;subst h;rw[List.flatMap_cons,hf,Nat.zero_mul,Nat.zero_add,List.getElem?_append_left]
  ·exact hq
  ·exact(List.getElem?_eq_some_iff.1 hq).1
 |y::l,i+1,x,h=>by
  intro m q hq;have ih:=I1 hf (l:=l) (i:=i) (x:=x) (by simpa using h) m q hq;rw[List.flatMap_cons,hf,List.getElem?_append_right (by simp;omega)];rw[show(i+1)*2+m-[a y,b y].length=i*2+m by simp;omega];exact ih
theorem DR{l:List aD}{i:Int}{r:aD}(h:l[i.toNat]?=some r):∀(m:Nat) q,[pI r.val,pB r.ok][m]?=some q->(gM l)[i.toNat*2+m]?=some q:=I1 (f:=yO) (λ _=>rfl) h
abbrev iz(a:aT):Value:=.iface 206 (.agg #[.int .i64 a.kind,.int .i64 a.cell,.int .i64 a.fz,.int .i64 a.new])
def B3{ar:Type}(l:ag)(D:Int)(log:List aD)(m:Except aT (ar×ah))(s:ah)(enc:ar->G):G->bE->Prop:=λ d U=>∃x M,m=.ok (x,M)/\s.made<=M.made/\M.made<=log.length/\d=enc x/\U=bZ l D log M
def B4{ar:Type}(l:ag)(D:Int)(log:List aD)(m:Except aT (ar×ah)):Value->bE->Prop:=λ v U=>∃a M,m=.error a/\v=iz a/\U=bZ l D log M
abbrev fS{ar:Type}(f:FuncId)(l:ag)(D:Int)(log:List aD)(s:ah)(ds:List G)(m:Except aT (ar×ah))(enc:ar->G):Prop:=
 fI prog f [11,12,13] ds (bZ l D log s) (B3 l D log m s enc) (B4 l D log m)
theorem pu(l:ag)(D:Int)(log:List aD)(s:ah)(a:aT)(hm:s.made<=log.length)(R:log.length<=1000000):fS 203 l D log s [fy a,.ptr 12 0,.ptr 13 0] (fk a log s) xF:=by
 refine sX func203 ntmps203 λ w cl own kf=>?_
 refine go ?_;refine gD [] ?_;refine go ?_;generalize h1:decide ((s.made:Int)=(log.length:Int))=cc;cases cc
 ·have aP:=of_decide_eq_false h1;have ba:s.made<log.length:=by omega
  have hr:log[s.made]?=some log[s.made]:=List.getElem?_eq_getElem ba;generalize log[s.made]=r at hr;have pJ:log[((s.made:Int)+1-1).toNat]?=some r:=by rw[show((s.made:Int)+1-1).toNat=s.made by omega];exact hr
  refine go ?_;refine gW 8 [] ?_;refine ri [pI r.val,pB r.ok] (DR pJ) ?_;refine qg ?_;exact fX _ ⟨r,{s with made:=s.made+1},by rw[fk,hr],by simp,by simp;omega,rfl,rfl⟩
 ·have aP:log.length=s.made:=by have:=of_decide_eq_true h1;omega
  have hr:log[s.made]?=none:=List.getElem?_eq_none (by omega);refine go ?_;refine bn (DH aB rfl rfl rfl rfl rfl) rfl rfl rfl ?_;refine Cb rfl rfl rfl ?_;refine gP ?_;exact fP _ ⟨a,s,by rw[fk,hr],rfl,rfl⟩
theorem un{a:aT}{log:List aD}{s M:ah}{r:aD}(h:fk a log s=.ok (r,M)):M={s with made:=s.made+1}/\log[s.made]?=some r:=by
 unfold fk at h;split at h
 ·rename_i r0 h0;cases h;exact⟨rfl,h0⟩
 ·cases h
theorem fE{c:Int}{log:List aD}{s M:ah}{v:Int}(h:cj c log s=.ok (v,M)):M={s with made:=s.made+1}/\∃r,log[s.made]?=some r/\r.val=v:=by
 unfold cj Pm.bind at h;split at h
 ·rename_i r s1 h0;cases h;obtain⟨h1,A⟩:=un h0;exact⟨h1,r,A,rfl⟩
 ·cases h
theorem nK{c v:Int}{log:List aD}{s M:ah}{af:Unit}(h:eH c v log s=.ok (af,M)):M={s with made:=s.made+1}/\∃r,log[s.made]?=some r:=by
 unfold eH Pm.bind at h;split at h
 ·rename_i r s1 h0;cases h;obtain⟨h1,A⟩:=un h0;exact⟨h1,r,A⟩
 ·cases h
theorem iZ{c o v:Int}{log:List aD}{s M:ah}{b:Bool}(h:eZ c o v log s=.ok (b,M)):M={s with made:=s.made+1}/\∃r,log[s.made]?=some r/\r.ok=b:=by
 unfold eZ Pm.bind at h;split at h
 ·rename_i r s1 h0;cases h;obtain⟨h1,A⟩:=un h0;exact⟨h1,r,A,rfl⟩
 ·cases h
theorem iw{c:Int}{log:List aD}{s M:ah}{v:Int}(h:cj c log s=.ok (v,M)):M.made=s.made+1:=by rw[(fE h).1]
theorem rE{c v:Int}{log:List aD}{s M:ah}{af:Unit}(h:eH c v log s=.ok (af,M)):M.made=s.made+1:=by rw[(nK h).1]
theorem lr{c o v:Int}{log:List aD}{s M:ah}{b:Bool}(h:eZ c o v log s=.ok (b,M)):M.made=s.made+1:=by rw[(iZ h).1]
theorem eh(l:ag)(D:Int)(log:List aD)(s:ah)(c:Int)(hm:s.made<=log.length)(R:log.length<=1000000):fS 206 l D log s [.ptr 11 0,u c] (cj c log s) u:=by
 refine sX func206 ntmps206 λ w cl own kf=>?_
 refine go ?_;refine vX (pu l D log s ⟨1,c,0,0⟩ hm R) ?_ ?_
 ·rintro v U ⟨a,M,h,rfl,rfl⟩;refine gP ?_;exact fP _ ⟨a,M,bl h,rfl,rfl⟩
 rintro d U ⟨x,M,h,ir,ci,rfl,rfl⟩;refine go ?_;exact fX _ ⟨x.val,M,aw h,ir,ci,rfl,rfl⟩
theorem ii(l:ag)(D:Int)(log:List aD)(s:ah)(c v:Int)(hm:s.made<=log.length)(R:log.length<=1000000):fS 211 l D log s [.ptr 11 0,u c,u v] (eH c v log s) (λ _=>.bg []):=by
 refine sX func211 ntmps211 λ w cl own kf=>?_
 refine go ?_;refine vX (pu l D log s ⟨2,c,0,v⟩ hm R) ?_ ?_
 ·rintro v U ⟨a,M,h,rfl,rfl⟩;refine gP ?_;exact fP _ ⟨a,M,bl h,rfl,rfl⟩
 rintro d U ⟨x,M,h,ir,ci,rfl,rfl⟩;refine go ?_;exact fX _ ⟨(),M,aw h,ir,ci,rfl,rfl⟩
theorem i3(l:ag)(D:Int)(log:List aD)(s:ah)(c o v:Int)(hm:s.made<=log.length)(R:log.length<=1000000):fS 213 l D log s [.ptr 11 0,u c,u o,u v] (eZ c o v log s) dB:=by
 refine sX func213 ntmps213 λ w cl own kf=>?_
 refine go ?_;refine vX (pu l D log s ⟨3,c,o,v⟩ hm R) ?_ ?_
 ·rintro v U ⟨a,M,h,rfl,rfl⟩;refine gP ?_;exact fP _ ⟨a,M,bl h,rfl,rfl⟩
 rintro d U ⟨x,M,h,ir,ci,rfl,rfl⟩;refine go ?_;exact fX _ ⟨x.ok,M,aw h,ir,ci,rfl,rfl⟩
set_option maxHeartbeats 4000000 in
theorem EB(l:ag)(Z:ca l)(D:Int)(log:List aD)(s:ah)(hm:s.made<=log.length)(R:log.length<=1000000):fS 210 l D log s [.ptr 11 0] (pT l log s) (λ p=>.bg [u p.1,u p.2.1,dB p.2.2]):=by
 generalize E:pT l log s=aJ;refine sX func210 ntmps210 λ w cl own kf=>?_
 refine go ?_;refine bW (λ p:Nat×ah=>s.made<=p.2.made/\p.2.made<=log.length/\log.length-p.2.made<p.1/\nM l p.1 log p.2=aJ) (λ p=>⟨[(0,.ptr 11 0)],bZ l D log p.2,[]⟩) (λ p=>p.1) (log.length+1-s.made,s) ⟨Nat.le_refl _,hm,by simp only;omega,E⟩ (zX) ?_;rintro⟨k,t⟩ ⟨cC,bB,iS,E⟩;simp only at cC bB iS E;obtain⟨k,rfl⟩:∃j,k=j+1:=⟨k-1,by omega⟩;refine(show aK _ _ _ _ ⟨[(0,.ptr 11 0)],bZ l D log t,[]⟩ from ?_);rw[nM] at E;refine go ?_;refine xP (eh l D log t l.free bB R) ?_;rintro d U ⟨fr,s1,bG,fM,cP,rfl,rfl⟩;rw[aw bG] at E;have e8:=iw bG;have bO:=lj fr;have dj:=sE fr;refine gA (kB fr) ?_;generalize h1:decide ((ay fr).idx=0)=cc;cases cc
 ·have aP:=of_decide_eq_false h1;rw[if_neg aP] at E;refine go ?_;refine lA (gB l Z D s1 (ay fr).idx 7 (by omega) (by omega)) ?_;refine go ?_;refine xP (eh l D log s1 (aE l (ay fr).idx 7) cP R) ?_;rintro d U ⟨lk,s2,bm,e7,cy,rfl,rfl⟩;rw[aw bm] at E;have iv:=iw bm;refine go ?_;refine dW 11 [] ?_;refine gQ (pU (ay fr) lk dj.1 dj.2) ?_;refine cQ (lZ (co (ay fr) lk)) ?_;refine bh ?_;refine xP (i3 l D log s2 l.free fr (cf (co (ay fr) lk)) cy R) ?_;rintro d U ⟨ig,s3,bT,fe,cw,rfl,rfl⟩;rw[aw bT] at E;have gJ:=lr bT;refine go ?_;cases ig
  ·rw[if_neg (by decide)] at E;refine go ?_;exact⟨(k,s3),⟨by simp only;omega,cw,by simp only;omega,E⟩,by simp only;omega,zX⟩
  ·rw[if_pos rfl,aw eT] at E;refine go ?_;refine lA (iV l D s3 (by omega)) ?_;refine go ?_;refine xP (eh l D log s3 l.era cw R) ?_;rintro d U ⟨bi,s4,cB,jb,ez,rfl,rfl⟩;rw[aw cB] at E;refine go ?_;refine lA (gB l Z D s4 (ay fr).idx 6 (by omega) (by omega)) ?_;refine go ?_;refine xP (ii l D log s4 (aE l (ay fr).idx 6) bi ez R) ?_;rintro d U ⟨af,s5,dt,kS,eK,rfl,rfl⟩;rw[aw dt] at E;refine go ?_;exact fX _ ⟨_,s5,E.symm,by omega,eK,rfl,rfl⟩
 ·rw[if_pos (of_decide_eq_true h1),aw eT] at E;refine go ?_;refine lA (iV l D s1 (by omega)) ?_;refine go ?_;exact fX _ ⟨_,s1,E.symm,by omega,cP,rfl,rfl⟩
set_option maxHeartbeats 4000000 in
theorem wa(l:ag)(Z:ca l)(D:Int)(log:List aD)(s:ah)(n:Int)(hn:n<9223372036854775808)(hm:s.made<=log.length)(R:log.length<=1000000):fS 209 l D log s [.ptr 11 0,u n] (mM l n log s) (λ _=>.bg []):=by
 generalize E:mM l n log s=aJ;refine sX func209 ntmps209 λ w cl own kf=>?_
 refine go ?_;refine bW (λ p:Nat×ah=>s.made<=p.2.made/\p.2.made<=log.length/\log.length-p.2.made<p.1/\l9 l n p.1 log p.2=aJ) (λ p=>⟨[(0,.ptr 11 0),(1,u n)],bZ l D log p.2,[]⟩) (λ p=>p.1) (log.length+1-s.made,s) ⟨Nat.le_refl _,hm,by simp only;omega,E⟩ (zX) ?_;rintro⟨k,t⟩ ⟨cC,bB,iS,E⟩;simp only at cC bB iS E;obtain⟨k,rfl⟩:∃j,k=j+1:=⟨k-1,by omega⟩;refine(show aK _ _ _ _ ⟨[(0,.ptr 11 0),(1,u n)],bZ l D log t,[]⟩ from ?_);rw[l9] at E;refine go ?_;refine xP (eh l D log t l.free bB R) ?_;rintro d U ⟨fr,s1,bG,fM,cP,rfl,rfl⟩;rw[aw bG] at E;have e8:=iw bG;have dj:=sE fr;refine gA (kB fr) ?_;refine gW 6 [] ?_;refine lQ (gB l Z D s1 n 7 hn (by omega)) ?_;refine bh ?_;refine xP (ii l D log s1 (aE l n 7) (ay fr).idx cP R) ?_;rintro d U ⟨af,s2,bm,e7,cy,rfl,rfl⟩;rw[aw bm] at E;have iv:=rE bm;refine go ?_;refine dW 11 [] ?_;refine gQ (pU (ay fr) n dj.1 dj.2) ?_;refine cQ (lZ (co (ay fr) n)) ?_;refine bh ?_;refine xP (i3 l D log s2 l.free fr (cf (co (ay fr) n)) cy R) ?_;rintro d U ⟨ig,s3,bT,fe,cw,rfl,rfl⟩;rw[aw bT] at E;have gJ:=lr bT;refine go ?_;cases ig
 ·rw[if_neg (by decide)] at E;refine go ?_;exact⟨(k,s3),⟨by simp only;omega,cw,by simp only;omega,E⟩,by simp only;omega,zX⟩
 ·rw[if_pos rfl] at E;refine go ?_;exact fX _ ⟨_,s3,E.symm,by omega,cw,rfl,rfl⟩
set_option maxHeartbeats 4000000 in
theorem Ah(l:ag)(Z:ca l)(D:Int)(log:List aD)(s:ah)(cell:Int)(hm:s.made<=log.length)(R:log.length<=1000000):fS 218 l D log s [.ptr 11 0,u 0,u cell] (kP l D 0 cell log s) (λ p=>.bg [u p.1,u p.2]):=by
 generalize E:kP l D 0 cell log s=aJ;refine sX func218 ntmps218 λ w cl own kf=>?_
 refine go ?_;refine bW (λ p:Nat×ah=>s.made<=p.2.made/\p.2.made<=log.length/\log.length-p.2.made<p.1/\kO l D 0 cell p.1 log p.2=aJ) (λ p=>⟨[(0,.ptr 11 0),(1,u 0),(2,u cell)],bZ l D log p.2,[]⟩) (λ p=>p.1) (log.length+1-s.made,s) ⟨Nat.le_refl _,hm,by simp only;omega,E⟩ (zX) ?_;rintro⟨k,t⟩ ⟨cC,bB,iS,E⟩;simp only at cC bB iS E;obtain⟨k,rfl⟩:∃j,k=j+1:=⟨k-1,by omega⟩;refine(show aK _ _ _ _ ⟨[(0,.ptr 11 0),(1,u 0),(2,u cell)],bZ l D log t,[]⟩ from ?_);rw[kO] at E;refine go ?_;refine xP (eh l D log t cell bB R) ?_;rintro d U ⟨v,s1,bG,fM,cP,rfl,rfl⟩;rw[aw bG,aw eT] at E;have e8:=iw bG;refine go ?_;refine lA (iV l D s1 (by omega)) ?_;refine go ?_;refine xP (eh l D log s1 l.era cP R) ?_;rintro d U ⟨er,s2,bm,e7,cy,rfl,rfl⟩;rw[aw bm] at E;have iv:=iw bm;refine go ?_;refine bn (gK aB rfl rfl rfl rfl rfl (by omega) (by omega)) rfl rfl rfl ?_;refine go ?_;generalize h1:decide (er=s2.e0)=cc;cases cc
 ·rw[if_neg (show¬er=s2.e 0 from of_decide_eq_false h1)] at E;refine go ?_;refine dW 12 [] ?_;refine gQ (kW l Z D 0 (by omega)) ?_;refine xP (ii l D log s2 (cg l D 0) er cy R) ?_;rintro d U ⟨af,s3,bT,fe,cw,rfl,rfl⟩;rw[aw bT] at E;have gJ:=rE bT;refine go ?_;refine bn (gK aB rfl rfl rfl rfl rfl (by omega) (by omega)) rfl rfl rfl ?_;refine go ?_;exact⟨(k,{s3 with e0:=er}),⟨by simp only;omega,by simp only;omega,by simp only;omega,E⟩,by simp only;omega,zX⟩
 ·rw[if_pos (show er=s2.e 0 from of_decide_eq_true h1)] at E;refine go ?_;exact fX _ ⟨_,s2,E.symm,by omega,cy,rfl,rfl⟩
set_option maxHeartbeats 4000000 in
theorem WP(l:ag)(Z:ca l)(D:Int)(log:List aD)(s:ah)(cell:Int)(hm:s.made<=log.length)(R:log.length<=1000000):fS 218 l D log s [.ptr 11 0,u 1,u cell] (kP l D 1 cell log s) (λ p=>.bg [u p.1,u p.2]):=by
 generalize E:kP l D 1 cell log s=aJ;refine sX func218 ntmps218 λ w cl own kf=>?_
 refine go ?_;refine bW (λ p:Nat×ah=>s.made<=p.2.made/\p.2.made<=log.length/\log.length-p.2.made<p.1/\kO l D 1 cell p.1 log p.2=aJ) (λ p=>⟨[(0,.ptr 11 0),(1,u 1),(2,u cell)],bZ l D log p.2,[]⟩) (λ p=>p.1) (log.length+1-s.made,s) ⟨Nat.le_refl _,hm,by simp only;omega,E⟩ (zX) ?_;rintro⟨k,t⟩ ⟨cC,bB,iS,E⟩;simp only at cC bB iS E;obtain⟨k,rfl⟩:∃j,k=j+1:=⟨k-1,by omega⟩;refine(show aK _ _ _ _ ⟨[(0,.ptr 11 0),(1,u 1),(2,u cell)],bZ l D log t,[]⟩ from ?_);rw[kO] at E;refine go ?_;refine xP (eh l D log t cell bB R) ?_;rintro d U ⟨v,s1,bG,fM,cP,rfl,rfl⟩;rw[aw bG,aw eT] at E;have e8:=iw bG;refine go ?_;refine lA (iV l D s1 (by omega)) ?_;refine go ?_;refine xP (eh l D log s1 l.era cP R) ?_;rintro d U ⟨er,s2,bm,e7,cy,rfl,rfl⟩;rw[aw bm] at E;have iv:=iw bm;refine go ?_;refine bn (gK aB rfl rfl rfl rfl rfl (by omega) (by omega)) rfl rfl rfl ?_;refine go ?_;generalize h1:decide (er=s2.e1)=cc;cases cc
 ·rw[if_neg (show¬er=s2.e 1 from of_decide_eq_false h1)] at E;refine go ?_;refine dW 12 [] ?_;refine gQ (kW l Z D 1 (by omega)) ?_;refine xP (ii l D log s2 (cg l D 1) er cy R) ?_;rintro d U ⟨af,s3,bT,fe,cw,rfl,rfl⟩;rw[aw bT] at E;have gJ:=rE bT;refine go ?_;refine bn (gK aB rfl rfl rfl rfl rfl (by omega) (by omega)) rfl rfl rfl ?_;refine go ?_;exact⟨(k,{s3 with e1:=er}),⟨by simp only;omega,by simp only;omega,by simp only;omega,E⟩,by simp only;omega,zX⟩
 ·rw[if_pos (show er=s2.e 1 from of_decide_eq_true h1)] at E;refine go ?_;exact fX _ ⟨_,s2,E.symm,by omega,cy,rfl,rfl⟩
set_option maxHeartbeats 4000000 in
theorem WQ(l:ag)(Z:ca l)(D:Int)(log:List aD)(s:ah)(cell:Int)(hm:s.made<=log.length)(R:log.length<=1000000):fS 218 l D log s [.ptr 11 0,u 2,u cell] (kP l D 2 cell log s) (λ p=>.bg [u p.1,u p.2]):=by
 generalize E:kP l D 2 cell log s=aJ;refine sX func218 ntmps218 λ w cl own kf=>?_
 refine go ?_;refine bW (λ p:Nat×ah=>s.made<=p.2.made/\p.2.made<=log.length/\log.length-p.2.made<p.1/\kO l D 2 cell p.1 log p.2=aJ) (λ p=>⟨[(0,.ptr 11 0),(1,u 2),(2,u cell)],bZ l D log p.2,[]⟩) (λ p=>p.1) (log.length+1-s.made,s) ⟨Nat.le_refl _,hm,by simp only;omega,E⟩ (zX) ?_;rintro⟨k,t⟩ ⟨cC,bB,iS,E⟩;simp only at cC bB iS E;obtain⟨k,rfl⟩:∃j,k=j+1:=⟨k-1,by omega⟩;refine(show aK _ _ _ _ ⟨[(0,.ptr 11 0),(1,u 2),(2,u cell)],bZ l D log t,[]⟩ from ?_);rw[kO] at E;refine go ?_;refine xP (eh l D log t cell bB R) ?_;rintro d U ⟨v,s1,bG,fM,cP,rfl,rfl⟩;rw[aw bG,aw eT] at E;have e8:=iw bG;refine go ?_;refine lA (iV l D s1 (by omega)) ?_;refine go ?_;refine xP (eh l D log s1 l.era cP R) ?_;rintro d U ⟨er,s2,bm,e7,cy,rfl,rfl⟩;rw[aw bm] at E;have iv:=iw bm;refine go ?_;refine bn (gK aB rfl rfl rfl rfl rfl (by omega) (by omega)) rfl rfl rfl ?_;refine go ?_;generalize h1:decide (er=s2.e2)=cc;cases cc
 ·rw[if_neg (show¬er=s2.e 2 from of_decide_eq_false h1)] at E;refine go ?_;refine dW 12 [] ?_;refine gQ (kW l Z D 2 (by omega)) ?_;refine xP (ii l D log s2 (cg l D 2) er cy R) ?_;rintro d U ⟨af,s3,bT,fe,cw,rfl,rfl⟩;rw[aw bT] at E;have gJ:=rE bT;refine go ?_;refine bn (gK aB rfl rfl rfl rfl rfl (by omega) (by omega)) rfl rfl rfl ?_;refine go ?_;exact⟨(k,{s3 with e2:=er}),⟨by simp only;omega,by simp only;omega,by simp only;omega,E⟩,by simp only;omega,zX⟩
 ·rw[if_pos (show er=s2.e 2 from of_decide_eq_true h1)] at E;refine go ?_;exact fX _ ⟨_,s2,E.symm,by omega,cy,rfl,rfl⟩
theorem Oy(l:ag)(Z:ca l)(D:Int)(log:List aD)(s:ah)(i cell:Int)(X:i=0\/i=1\/i=2)(hm:s.made<=log.length)(R:log.length<=1000000):fS 218 l D log s [.ptr 11 0,u i,u cell] (kP l D i cell log s) (λ p=>.bg [u p.1,u p.2]):=by
 rcases X with rfl|rfl|rfl
 ·exact Ah l Z D log s cell hm R
 ·exact WP l Z D log s cell hm R
 ·exact WQ l Z D log s cell hm R
set_option maxHeartbeats 4000000 in
theorem jP(l:ag)(Z:ca l)(D:Int)(log:List aD)(s:ah)(hm:s.made<=log.length)(R:log.length<=1000000):fS 208 l D log s [.ptr 11 0] (ge l D log s) (λ _=>.bg []):=by
 generalize E:ge l D log s=aJ;unfold ge at E;refine sX func208 ntmps208 λ w cl own kf=>?_
 refine go ?_;refine bW (λ p:Nat×ah=>p.1<=3/\s.made<=p.2.made/\p.2.made<=log.length/\gG l D p.1 ([s.e0,s.e1,s.e2].drop p.1) log p.2=aJ) (λ p=>⟨[(8,u p.1),(7,.agg [u s.e0,u s.e1,u s.e2]),(0,.ptr 11 0)],bZ l D log p.2,[]⟩) (λ p=>3-p.1) (0,s) ⟨by simp only;omega,Nat.le_refl _,hm,E⟩ (zX) ?_;rintro⟨i,t⟩ ⟨X,cC,bB,E⟩;simp only at X cC bB E;rcases(show i=0\/i=1\/i=2\/i=3 by omega) with rfl|rfl|rfl|rfl
 ·refine(show aK _ _ _ _ ⟨[(8,u 0),(7,.agg [u s.e0,u s.e1,u s.e2]),(0,.ptr 11 0)],bZ l D log t,[]⟩ from ?_);have E:(cX l D 0 s.e0).bind (λ _=>gG l D 1 ([s.e0,s.e1,s.e2].drop 1)) log t=aJ:=E;refine go ?_;refine cN (λ h1=>?_) (λ h1=>?_)<;>try rw[h1]
  ·refine go ?_;refine bn (uU aB (u s.e0) rfl rfl rfl rfl rfl rfl (by omega) (by omega) rfl) rfl rfl rfl ?_;refine go ?_;generalize A:decide (s.e0=0)=cc;cases cc
   ·rw[cX,if_neg (of_decide_eq_false A)] at E;refine go ?_;refine dW 11 [] ?_;refine gQ (kW l Z D 0 (by omega)) ?_;refine xX (ii l D log t (cg l D 0) 0 bB R) ?_ ?_
    ·rintro v U ⟨a,M,h,rfl,rfl⟩;refine gP ?_;exact fP _ ⟨a,M,by rw[<-E];exact bl (bl h),rfl,rfl⟩
    rintro d U ⟨af,s1,bG,fM,cP,rfl,rfl⟩;have mb:gG l D 1 ([s.e0,s.e1,s.e2].drop 1) log {s1 with e0:=0}=aJ:=by rw[<-E];exact(aw (f:=λ _=>gG l D 1 ([s.e0,s.e1,s.e2].drop 1)) (aw (f:=λ _=>oC 0) bG)).symm
    refine go ?_;refine bn (gK aB rfl rfl rfl rfl rfl (by omega) (by omega)) rfl rfl rfl ?_;refine go ?_;exact⟨(1,{s1 with e0:=0}),⟨by simp only;omega,by simp only;omega,by simp only;omega,mb⟩,by simp only;omega,zX⟩
   ·rw[cX,if_pos (of_decide_eq_true A)] at E;refine go ?_;exact⟨(1,t),⟨by simp only;omega,cC,bB,E⟩,by simp only;omega,zX⟩
  ·exact absurd h1 (by decide)
 ·refine(show aK _ _ _ _ ⟨[(8,u 1),(7,.agg [u s.e0,u s.e1,u s.e2]),(0,.ptr 11 0)],bZ l D log t,[]⟩ from ?_);have E:(cX l D 1 s.e1).bind (λ _=>gG l D 2 ([s.e0,s.e1,s.e2].drop 2)) log t=aJ:=E;refine go ?_;refine cN (λ h1=>?_) (λ h1=>?_)<;>try rw[h1]
  ·refine go ?_;refine bn (uU aB (u s.e1) rfl rfl rfl rfl rfl rfl (by omega) (by omega) rfl) rfl rfl rfl ?_;refine go ?_;generalize A:decide (s.e1=0)=cc;cases cc
   ·rw[cX,if_neg (of_decide_eq_false A)] at E;refine go ?_;refine dW 11 [] ?_;refine gQ (kW l Z D 1 (by omega)) ?_;refine xX (ii l D log t (cg l D 1) 0 bB R) ?_ ?_
    ·rintro v U ⟨a,M,h,rfl,rfl⟩;refine gP ?_;exact fP _ ⟨a,M,by rw[<-E];exact bl (bl h),rfl,rfl⟩
    rintro d U ⟨af,s1,bG,fM,cP,rfl,rfl⟩;have mb:gG l D 2 ([s.e0,s.e1,s.e2].drop 2) log {s1 with e1:=0}=aJ:=by rw[<-E];exact(aw (f:=λ _=>gG l D 2 ([s.e0,s.e1,s.e2].drop 2)) (aw (f:=λ _=>oC 1) bG)).symm
    refine go ?_;refine bn (gK aB rfl rfl rfl rfl rfl (by omega) (by omega)) rfl rfl rfl ?_;refine go ?_;exact⟨(2,{s1 with e1:=0}),⟨by simp only;omega,by simp only;omega,by simp only;omega,mb⟩,by simp only;omega,zX⟩
   ·rw[cX,if_pos (of_decide_eq_true A)] at E;refine go ?_;exact⟨(2,t),⟨by simp only;omega,cC,bB,E⟩,by simp only;omega,zX⟩
  ·exact absurd h1 (by decide)
 ·refine(show aK _ _ _ _ ⟨[(8,u 2),(7,.agg [u s.e0,u s.e1,u s.e2]),(0,.ptr 11 0)],bZ l D log t,[]⟩ from ?_);have E:(cX l D 2 s.e2).bind (λ _=>gG l D 3 ([s.e0,s.e1,s.e2].drop 3)) log t=aJ:=E;refine go ?_;refine cN (λ h1=>?_) (λ h1=>?_)<;>try rw[h1]
  ·refine go ?_;refine bn (uU aB (u s.e2) rfl rfl rfl rfl rfl rfl (by omega) (by omega) rfl) rfl rfl rfl ?_;refine go ?_;generalize A:decide (s.e2=0)=cc;cases cc
   ·rw[cX,if_neg (of_decide_eq_false A)] at E;refine go ?_;refine dW 11 [] ?_;refine gQ (kW l Z D 2 (by omega)) ?_;refine xX (ii l D log t (cg l D 2) 0 bB R) ?_ ?_
    ·rintro v U ⟨a,M,h,rfl,rfl⟩;refine gP ?_;exact fP _ ⟨a,M,by rw[<-E];exact bl (bl h),rfl,rfl⟩
    rintro d U ⟨af,s1,bG,fM,cP,rfl,rfl⟩;have mb:gG l D 3 ([s.e0,s.e1,s.e2].drop 3) log {s1 with e2:=0}=aJ:=by rw[<-E];exact(aw (f:=λ _=>gG l D 3 ([s.e0,s.e1,s.e2].drop 3)) (aw (f:=λ _=>oC 2) bG)).symm
    refine go ?_;refine bn (gK aB rfl rfl rfl rfl rfl (by omega) (by omega)) rfl rfl rfl ?_;refine go ?_;exact⟨(3,{s1 with e2:=0}),⟨by simp only;omega,by simp only;omega,by simp only;omega,mb⟩,by simp only;omega,zX⟩
   ·rw[cX,if_pos (of_decide_eq_true A)] at E;refine go ?_;exact⟨(3,t),⟨by simp only;omega,cC,bB,E⟩,by simp only;omega,zX⟩
  ·exact absurd h1 (by decide)
 ·refine(show aK _ _ _ _ ⟨[(8,u 3),(7,.agg [u s.e0,u s.e1,u s.e2]),(0,.ptr 11 0)],bZ l D log t,[]⟩ from ?_);refine go ?_;refine cN (λ h1=>?_) (λ h1=>?_)<;>try rw[h1]
  ·exact absurd h1 (by decide)
  ·refine go ?_;exact fX _ ⟨(),t,E.symm,cC,bB,rfl,rfl⟩
theorem pq(g:List (Int×Int))(hg:g.length<=100000):BV prog 71 [d7 g] 110 2 g.length (gL g):=by
 have ci:(gL g).length=g.length*2:=by
  clear hg;induction g with
  |nil=>rfl
  |cons x g ih=>unfold gL at ih⊢;rw[List.flatMap_cons,List.length_append,ih];simp[Bo];omega
 refine WC func71 rfl ntmps71 rfl rfl rfl λ w cl=>?_
 refine go ?_;refine MX aB rfl rfl rfl rfl rfl rfl rfl λ c L=>?_
 cases c with
 |true=>have:g=[]:=List.eq_nil_of_length_eq_zero (L rfl);subst this;refine go ?_;exact Wn rfl
 |false=>refine go ?_;refine oL (kF 5 0 110 2 rfl rfl rfl) ?_;refine go ?_;refine pA ci ?_;rw[Nat.zero_add,List.nil_append];refine go ?_;exact Wo rfl rfl
theorem Cp(r f g0 g1:Int):aX prog 219 [u r,.el [pI f],.el [pI g0,pI g1]] (dB (gZ f g1 r)):=by
 refine sP func219 ntmps219 λ w cl=>?_
 refine go ?_;generalize h1:decide (f<=r)=cc;cases cc
 ·refine gf ?_;rw[gZ,h1];rfl
 ·refine go ?_;refine bn (KA aB rfl rfl rfl rfl rfl (by omega) (by omega) rfl) rfl rfl rfl ?_;refine gf ?_;rw[gZ,h1];rfl
def l7(p:Int->Bool):List Int->Nat->Int
 |[],_=>-1
 |r::l,i=>if p r then i else l7 p l (i+1)
theorem Fg(p:Int->Bool):∀(l:List Int)(i:Nat),decide (0<=l7 p l i)=l.any p
 |[],i=>by simp[l7]
 |r::l,i=>by
  rw[l7,List.any_cons];cases h:p r
  ·simpa using Fg p l (i+1)
  ·simp
abbrev rQ(f g0 g1:Int):G:=.fn (.func 219) [] [.el [pI f],.el [pI g0,pI g1]]
set_option maxHeartbeats 4000000 in
theorem DG(aM:List Int)(hh:aM.length<=1000000)(f g0 g1:Int):aX prog 217 [bq aM,rQ f g0 g1] (u (l7 (gZ f g1) aM 0)):=by
 generalize E:l7 (gZ f g1) aM 0=aJ;refine sP func217 ntmps217 λ w cl=>?_
 refine go ?_;refine bW (λ i:Nat=>i<=aM.length/\l7 (gZ f g1) (aM.drop i) i=aJ) (λ i=>⟨[(8,u i),(7,u aM.length),(6,bq aM),(0,bq aM),(1,rQ f g0 g1)],[],[]⟩) (λ i=>aM.length-i) 0 ⟨Nat.zero_le _,E⟩ (zX) ?_;rintro i ⟨X,E⟩;refine go ?_;refine cN (λ h1=>?_) (λ h1=>?_)<;>try rw[h1]
 ·have aP:=of_decide_eq_true h1;have du:i<aM.length:=by omega
  obtain⟨x,O⟩:=l8 (l:=aM) (i:=i) (by omega) aP;have F:aM.drop i=x::aM.drop (i+1):=by rw[List.drop_eq_getElem_cons du];simp only[Int.toNat_natCast] at O;rw[(List.getElem?_eq_some_iff.1 O).2]
  rw[F,l7] at E;refine go ?_;refine ai [pI x] (gk O) ?_;refine go ?_;refine bn (vN (Cp x f g0 g1) rfl (λ a w=>call219 a w) rfl rfl) rfl rfl rfl ?_;refine go ?_;generalize A:gZ f g1 x=cc;cases cc
  ·rw[A,if_neg (by decide)] at E;refine go ?_;exact⟨i+1,⟨by omega,E⟩,by omega,zX⟩
  ·rw[A,if_pos rfl] at E;refine gf ?_;rw[E]
 ·have du:aM.length<=i:=by have:=of_decide_eq_false h1;omega
  rw[List.drop_of_length_le du,l7] at E;refine gf ?_;rw[<-E]
theorem Cq(aM:List Int)(hh:aM.length<=1000000)(f g0 g1:Int):aX prog 196 [bq aM,rQ f g0 g1] (dB (aM.any (gZ f g1))):=by
 refine sP func196 ntmps196 λ w cl=>?_
 refine gA (DG aM hh f g0 g1) ?_;refine d8 ?_;rw[<-Fg _ aM 0]
theorem G7:∀g:List (Int×Int),(gL g).length=g.length*2
 |[]=>rfl
 |x::g=>by
  have ih:=G7 g;unfold gL at ih⊢;rw[List.flatMap_cons,List.length_append,ih];simp[Bo];omega
theorem Bn(g:List (Int×Int))(x:Int×Int):gL (g++[x])=gL g++[pI x.1,pI x.2]:=by simp[gL,Bo]
theorem CD{l:List (Int×Int)}{i:Int}{r:Int×Int}(h:l[i.toNat]?=some r):∀(m:Nat) q,[pI r.1,pI r.2][m]?=some q->(gL l)[i.toNat*2+m]?=some q:=I1 (f:=Bo) (λ _=>rfl) h
theorem ow(a:List Int)(x:Int):bb a++[pI x]=bb (a++[x]):=by simp[bb]
def eu(g:List (Int×Int)):Prop:=∀p∈g,p.1<9223372036854775808
set_option maxHeartbeats 8000000 in
theorem yW(l:ag)(Z:ca l)(D:Int)(log:List aD)(s:ah)(n:Int)(hn:n<9223372036854775808)(fb:eu s.gone)(dp:s.gone.length<=10000)(hm:s.made<=log.length)(R:log.length<=1000000):fS 216 l D log s [.ptr 11 0,u n] (jF l n log s) (λ _=>.bg []):=by
 have uN:=Z.az;unfold lH at uN;generalize E:jF l n log s=aJ;unfold jF at E;refine sX func216 ntmps216 λ w cl own kf=>?_
 refine go ?_;refine xP (eh l D log s l.era hm R) ?_;rintro d U ⟨er,s1,bG,fM,cP,rfl,rfl⟩;rw[aw bG] at E;have e8:=fE bG;refine go ?_;refine gW 10 [] ?_;refine vP (pu l D log s1 ⟨4,l.era,0,1⟩ cP R) ?_;rintro d U ⟨dr,s2,bm,e7,cy,rfl,rfl⟩;rw[aw bm] at E;have de:s2.gone=s.gone:=by rw[(un bm).1,e8.1]
 rw[de] at E;have n4:s.made<=s2.made:=by omega
 clear bG bm e8 fM e7 cP;refine go ?_;refine Ih 0 (pq s2.gone (by rw[de];omega)) rfl (λ a w=>call71 a w) rfl rfl rfl rfl rfl (G7 _) ?_;refine go ?_;refine hE aB rfl rfl rfl rfl rfl rfl rfl rfl rfl rfl rfl rfl rfl (by rw[de];unfold maxLen;omega) (by show(_+_)*16<=_;rw[de];omega) ?_;refine hZ ?_;refine nf ?_;refine dO (qC 11 (aO:=m9 l D {s2 with gone:=s.gone++[(n,er)]}) rfl (by
  show List.map lF _=_;have e:vc (s.gone++[(n,er)])=.sl false (s.gone.length+1) (gL s.gone++[pI n,pI er]):=by rw[vc,Bn,List.length_append];rfl
  simp only[List.map,lF,yG,de,m9,d7];rw[e])) ?_
 generalize wm:s.gone++[(n,er)]=gN at E;have Po:gN.length=s.gone.length+1:=by rw[<-wm];simp
 have C5:eu gN:=by
  intro p hp;rw[<-wm] at hp;rcases List.mem_append.1 hp with hp|hp
  ·exact fb p hp
  ·simp at hp;rw[hp];exact hn
 have ew:IntKind.i64.wrap (2*l.az)=2*l.az:=eI (by omega) (by omega);refine dO (bU:=⟨[(0,.ptr 11 0)],bZ l D log {s2 with gone:=gN},[]⟩) (zX) ?_;generalize gJ:({s2 with gone:=gN}:ah)=s3 at E⊢;have cw:s3.made<=log.length:=by rw[<-gJ];exact cy
 have fe:s.made<=s3.made:=by rw[<-gJ];exact n4
 have fV:s3.gone=gN:=by rw[<-gJ]
 refine go ?_;refine gD [] ?_;rw[ew];refine qg ?_;rw[fV];generalize h1:decide ((gN.length:Int)<2*l.az)=cc;cases cc
 ·have aP:=of_decide_eq_false h1;rw[if_neg (by omega),pR] at E;refine go ?_;refine dO (kF 5 0 3 1 rfl rfl rfl) ?_;refine bW (λ p:Nat×List Int×Nat×ah=>p.1+p.2.2.1=l.az.toNat/\p.2.1.length=3*p.1/\s.made<=p.2.2.2.made/\p.2.2.2.made<=log.length/\p.2.2.2.gone=gN/\(j5 p.2.1 (jE l p.1 p.2.2.1)).bind (λ aM=>(fa l aM gN []).bind λ aY=>ji aY) log p.2.2.2=aJ) (λ p=>⟨[(62,u p.1),(61,u l.az),(5,.aW 0 p.2.1.length (bb p.2.1)),(0,.ptr 11 0)],bZ l D log p.2.2.2,[(0,⟨3,1,p.2.1.length⟩)]⟩) (λ p=>p.2.2.1) (0,[],l.az.toNat,s3) ⟨by simp,rfl,fe,cw,fV,E⟩ (zX) ?_;rintro⟨j,acc,m,t⟩ ⟨hj,mN,cC,bB,eX,E⟩;simp only at hj mN cC bB eX E;refine(show aK _ _ _ _ ⟨[(62,u j),(61,u l.az),(5,.aW 0 acc.length (bb acc)),(0,.ptr 11 0)],bZ l D log t,[(0,⟨3,1,acc.length⟩)]⟩ from ?_);refine go ?_;refine cN (λ A=>?_) (λ A=>?_)<;>try rw[A]
  ·have bs:=of_decide_eq_true A;obtain⟨m,rfl⟩:∃k,m=k+1:=⟨m-1,by omega⟩;rw[jE] at E;refine go ?_;refine bW (λ q:Nat×List Int×ah=>q.1<=3/\q.2.1.length=3*j+q.1/\s.made<=q.2.2.made/\q.2.2.made<=log.length/\q.2.2.gone=gN/\(j5 q.2.1 (([cg l j 0,cg l j 1,cg l j 2].drop q.1)++jE l (j+1) m)).bind (λ aM=>(fa l aM gN []).bind λ aY=>ji aY) log q.2.2=aJ) (λ q=>⟨[(65,u q.1),(62,u j),(61,u l.az),(6,u j),(5,.aW 0 q.2.1.length (bb q.2.1)),(0,.ptr 11 0)],bZ l D log q.2.2,[(0,⟨3,1,q.2.1.length⟩)]⟩) (λ q=>3-q.1) (0,acc,t) ⟨by simp only;omega,by simp only;omega,cC,bB,eX,E⟩ (zX) ?_;rintro⟨i,ac,t⟩ ⟨X,CQ,cC,bB,eX,E⟩;simp only at X CQ cC bB eX E;rcases(show i=0\/i=1\/i=2\/i=3 by omega) with rfl|rfl|rfl|rfl
   ·refine(show aK _ _ _ _ ⟨[(65,u 0),(62,u j),(61,u l.az),(6,u j),(5,.aW 0 ac.length (bb ac)),(0,.ptr 11 0)],bZ l D log t,[(0,⟨3,1,ac.length⟩)]⟩ from ?_);have E:((cj (cg l j 0)).bind λ v=>j5 (ac++[v]) (([cg l j 0,cg l j 1,cg l j 2].drop 1)++jE l (j+1) m)).bind (λ aM=>(fa l aM gN []).bind λ aY=>ji aY) log t=aJ:=E;rw[bind_assoc] at E;refine go ?_;refine cN (λ K=>?_) (λ K=>?_)<;>try rw[K]
    ·refine gA (kW l Z j 0 (by omega)) ?_;refine xP (eh l D log t (cg l j 0) bB R) ?_;rintro d U ⟨v,s4,cB,jb,ez,rfl,rfl⟩;rw[aw cB] at E;have iq:s4.gone=gN:=by rw[(fE cB).1];exact eX
     refine go ?_;refine pA rfl ?_;rw[ow,show ac.length+1=(ac++[v]).length by simp];refine go ?_;exact⟨(1,ac++[v],s4),⟨by simp only;omega,by simp only[List.length_append,List.length_cons,List.length_nil];omega,by simp only;omega,ez,iq,E⟩,by simp only;omega,zX⟩
    ·exact absurd K (by decide)
   ·refine(show aK _ _ _ _ ⟨[(65,u 1),(62,u j),(61,u l.az),(6,u j),(5,.aW 0 ac.length (bb ac)),(0,.ptr 11 0)],bZ l D log t,[(0,⟨3,1,ac.length⟩)]⟩ from ?_);have E:((cj (cg l j 1)).bind λ v=>j5 (ac++[v]) (([cg l j 0,cg l j 1,cg l j 2].drop 2)++jE l (j+1) m)).bind (λ aM=>(fa l aM gN []).bind λ aY=>ji aY) log t=aJ:=E;rw[bind_assoc] at E;refine go ?_;refine cN (λ K=>?_) (λ K=>?_)<;>try rw[K]
    ·refine gA (kW l Z j 1 (by omega)) ?_;refine xP (eh l D log t (cg l j 1) bB R) ?_;rintro d U ⟨v,s4,cB,jb,ez,rfl,rfl⟩;rw[aw cB] at E;have iq:s4.gone=gN:=by rw[(fE cB).1];exact eX
     refine go ?_;refine pA rfl ?_;rw[ow,show ac.length+1=(ac++[v]).length by simp];refine go ?_;exact⟨(2,ac++[v],s4),⟨by simp only;omega,by simp only[List.length_append,List.length_cons,List.length_nil];omega,by simp only;omega,ez,iq,E⟩,by simp only;omega,zX⟩
    ·exact absurd K (by decide)
   ·refine(show aK _ _ _ _ ⟨[(65,u 2),(62,u j),(61,u l.az),(6,u j),(5,.aW 0 ac.length (bb ac)),(0,.ptr 11 0)],bZ l D log t,[(0,⟨3,1,ac.length⟩)]⟩ from ?_);have E:((cj (cg l j 2)).bind λ v=>j5 (ac++[v]) (([cg l j 0,cg l j 1,cg l j 2].drop 3)++jE l (j+1) m)).bind (λ aM=>(fa l aM gN []).bind λ aY=>ji aY) log t=aJ:=E;rw[bind_assoc] at E;refine go ?_;refine cN (λ K=>?_) (λ K=>?_)<;>try rw[K]
    ·refine gA (kW l Z j 2 (by omega)) ?_;refine xP (eh l D log t (cg l j 2) bB R) ?_;rintro d U ⟨v,s4,cB,jb,ez,rfl,rfl⟩;rw[aw cB] at E;have iq:s4.gone=gN:=by rw[(fE cB).1];exact eX
     refine go ?_;refine pA rfl ?_;rw[ow,show ac.length+1=(ac++[v]).length by simp];refine go ?_;exact⟨(3,ac++[v],s4),⟨by simp only;omega,by simp only[List.length_append,List.length_cons,List.length_nil];omega,by simp only;omega,ez,iq,E⟩,by simp only;omega,zX⟩
    ·exact absurd K (by decide)
   ·refine(show aK _ _ _ _ ⟨[(65,u 3),(62,u j),(61,u l.az),(6,u j),(5,.aW 0 ac.length (bb ac)),(0,.ptr 11 0)],bZ l D log t,[(0,⟨3,1,ac.length⟩)]⟩ from ?_);refine go ?_;refine cN (λ K=>?_) (λ K=>?_)<;>try rw[K]
    ·exact absurd K (by decide)
    ·refine go ?_;exact⟨(j+1,ac,m,t),⟨by simp only;omega,by simp only;omega,cC,bB,eX,E⟩,by simp only;omega,zX⟩
  ·have bs:=of_decide_eq_false A;obtain rfl:m=0:=by omega
   have E:((fa l acc gN []).bind λ aY=>ji aY) log t=aJ:=E;subst eX;refine dO (AY 5 (dR:=bq acc) rfl rfl) ?_;refine go ?_;refine dO (kF 8 1 110 2 rfl rfl rfl) ?_;refine bW (λ q:Nat×List (Int×Int)×ah=>q.1<=t.gone.length/\q.2.1.length<=q.1/\s.made<=q.2.2.made/\q.2.2.made<=log.length/\((fa l acc (t.gone.drop q.1) q.2.1).bind λ aY=>ji aY) log q.2.2=aJ) (λ q=>⟨[(87,u q.1),(86,u t.gone.length),(85,d7 t.gone),(8,.aW 1 q.2.1.length (gL q.2.1)),(5,bq acc),(0,.ptr 11 0)],bZ l D log q.2.2,[(1,⟨110,2,q.2.1.length⟩)]⟩) (λ q=>t.gone.length-q.1) (0,[],t) ⟨Nat.zero_le _,Nat.le_refl _,cC,bB,E⟩ (zX) ?_;rintro⟨i,aY,af⟩ ⟨X,jx,tL,lV,E⟩;simp only at X jx tL lV E;refine(show aK _ _ _ _ ⟨[(87,u i),(86,u t.gone.length),(85,d7 t.gone),(8,.aW 1 aY.length (gL aY)),(5,bq acc),(0,.ptr 11 0)],bZ l D log af,[(1,⟨110,2,aY.length⟩)]⟩ from ?_);refine go ?_;refine cN (λ K=>?_) (λ K=>?_)<;>try rw[K]
   ·have dc:=of_decide_eq_true K;have du:i<t.gone.length:=by omega
    obtain⟨gg,nX⟩:=l8 (l:=t.gone) (i:=i) (by omega) dc;have wn:=C5 gg (List.mem_of_getElem? nX);have F:t.gone.drop i=gg::t.gone.drop (i+1):=by rw[List.drop_eq_getElem_cons du];simp only[Int.toNat_natCast] at nX;rw[(List.getElem?_eq_some_iff.1 nX).2]
    rw[F,fa,bind_assoc] at E;refine go ?_;refine ai [pI gg.1,pI gg.2] (CD nX) ?_;refine go ?_;refine bn (gK aB rfl rfl rfl rfl rfl (by omega) (by omega)) rfl rfl rfl ?_;refine go ?_;refine lA (gB l Z D af gg.1 6 wn (by omega)) ?_;refine go ?_;refine xP (eh l D log af (aE l gg.1 6) lV R) ?_;rintro d U ⟨bi,s5,dt,kS,eK,rfl,rfl⟩;rw[aw dt] at E;refine go ?_;refine bn (GO rfl rfl rfl) rfl rfl rfl ?_;refine(show bp _ _ _ _ _ ⟨(97,u (nI bi))::_,_,_⟩ from ?_);refine go ?_;refine lA (Cq acc (by omega) (nI bi) gg.1 gg.2) ?_;refine go ?_;generalize h4:acc.any (gZ (nI bi) gg.2)=cc;cases cc
    ·rw[h4,if_neg (by decide),bind_assoc] at E;refine go ?_;refine bn (gK aB rfl rfl rfl rfl rfl (by omega) (by omega)) rfl rfl rfl ?_;refine go ?_;refine xP (wa l Z D log s5 gg.1 wn eK R) ?_;rintro d U ⟨uu,s6,jX,uG,mU,rfl,rfl⟩;rw[aw jX] at E;refine go ?_;exact⟨(i+1,aY,s6),⟨by simp only;omega,by simp only;omega,by simp only;omega,mU,E⟩,by simp only;omega,zX⟩
    ·rw[h4,if_pos rfl] at E;refine go ?_;refine pA rfl ?_;rw[<-Bn aY gg,show aY.length+1=(aY++[gg]).length by simp];refine go ?_;exact⟨(i+1,aY++[gg],s5),⟨by simp only;omega,by simp only[List.length_append,List.length_cons,List.length_nil];omega,by simp only;omega,eK,E⟩,by simp only;omega,zX⟩
   ·have dc:=of_decide_eq_false K;rw[List.drop_of_length_le (by omega),fa] at E;have E:(Except.ok ((),{af with gone:=aY}):Except aT (Unit×ah))=aJ:=E;refine dO (AY 8 (dR:=d7 aY) rfl rfl) ?_;refine go ?_;exact fX _ ⟨(),{af with gone:=aY},E.symm,tL,lV,rfl,rfl⟩
 ·have aP:=of_decide_eq_true h1;rw[if_pos (by omega)] at E;refine go ?_;exact fX _ ⟨(),s3,E.symm,fe,cw,rfl,rfl⟩
abbrev jQ(o:bf):G:=.agg [u o.val,dB o.is,u o.err,u o.bS,d7 o.gone]
abbrev lz(o:bf):G:=.agg [u o.val,dB o.is,u o.err,u o.bS,.p (.sl true 0 [])]
abbrev rq(o:bt):List G:=[u o.kind,u o.obj,u o.a,u o.b]
abbrev zv(o:bt):G:=.agg (rq o)
theorem Ey{l:ag}:∀{k:Nat}{log:List aD}{s M:ah}{p:Int×Int×Bool},nM l k log s=.ok (p,M)->p.1<65536/\M.gone=s.gone
 |0,log,s,M,p,h=>by cases h;exact⟨by simp,rfl⟩
 |k+1,log,s,M,p,h=>by
  rw[nM] at h;cases h1:cj l.free log s with
  |error a=>rw[bl h1] at h;cases h
  |ok q=>
   obtain⟨fr,s1⟩:=q;rw[aw h1] at h;have g1:s1.gone=s.gone:=by rw[(fE h1).1]
   split at h
   ·rw[aw eT] at h;cases h;exact⟨by simp,g1⟩
   ·cases A:cj (aE l (ay fr).idx 7) log s1 with
    |error a=>rw[bl A] at h;cases h
    |ok q=>
     obtain⟨lk,s2⟩:=q;rw[aw A] at h;have g2:s2.gone=s.gone:=by rw[(fE A).1];exact g1
     cases K:eZ l.free fr (cf (co (ay fr) lk)) log s2 with
     |error a=>rw[bl K] at h;cases h
     |ok q=>
      obtain⟨ok,s3⟩:=q;rw[aw K] at h;have g3:s3.gone=s.gone:=by rw[(iZ K).1];exact g2
      split at h
      ·rw[aw eT] at h;cases h4:cj l.era log s3 with
       |error a=>rw[bl h4] at h;cases h
       |ok q=>
        obtain⟨bi,s4⟩:=q;rw[aw h4] at h;have g4:s4.gone=s.gone:=by rw[(fE h4).1];exact g3
        cases h5:eH (aE l (ay fr).idx 6) bi log s4 with
        |error a=>rw[bl h5] at h;cases h
        |ok q=>obtain⟨af,s5⟩:=q;rw[aw h5] at h;cases h;exact⟨(lj fr).2,by rw[(nK h5).1];exact g4⟩
      ·obtain⟨a,b⟩:=Ey h;exact⟨a,b.trans g3⟩
theorem ab5(x:ah)(i v:Int):(x.gp i v).gone=x.gone:=by
 unfold ah.gp;split
 ·rfl
 ·split<;>rfl
theorem Ai{l:ag}{D i cell:Int}:∀{k:Nat}{log:List aD}{s M:ah}{p:Int×Int},kO l D i cell k log s=.ok (p,M)->M.gone=s.gone
 |0,log,s,M,p,h=>by cases h;rfl
 |k+1,log,s,M,p,h=>by
  rw[kO] at h;cases h1:cj cell log s with
  |error a=>rw[bl h1] at h;cases h
  |ok q=>
   obtain⟨v,s1⟩:=q;rw[aw h1,aw eT] at h;have g1:s1.gone=s.gone:=by rw[(fE h1).1]
   cases A:cj l.era log s1 with
   |error a=>rw[bl A] at h;cases h
   |ok q=>
    obtain⟨er,s2⟩:=q;rw[aw A] at h;have g2:s2.gone=s.gone:=by rw[(fE A).1];exact g1
    split at h
    ·cases h;exact g2
    ·cases K:eH (cg l D i) er log s2 with
     |error a=>rw[bl K] at h;cases h
     |ok q=>
      obtain⟨af,s3⟩:=q;rw[aw K] at h;have g3:s3.gone=s.gone:=by rw[(nK K).1];exact g2
      exact((Ai h).trans (ab5 _ _ _)).trans g3
theorem Vk{l:ag}{D:Int}{i:Nat}{e:Int}{log:List aD}{s M:ah}{af:Unit}(h:cX l D i e log s=.ok (af,M)):M.gone=s.gone:=by
 unfold cX at h;split at h
 ·cases h;rfl
 ·cases K:eH (cg l D i) 0 log s with
  |error a=>rw[bl K] at h;cases h
  |ok q=>
   obtain⟨af,s3⟩:=q;rw[aw K] at h;have g3:s3.gone=s.gone:=by rw[(nK K).1]
   unfold oC at h;cases h;split<;>exact g3
theorem jt{l:ag}{D:Int}:∀{es:List Int}{i:Nat}{log:List aD}{s M:ah}{af:Unit},gG l D i es log s=.ok (af,M)->M.gone=s.gone
 |[],i,log,s,M,af,h=>by cases h;rfl
 |e::es,i,log,s,M,af,h=>by
  rw[gG] at h;cases h1:cX l D i e log s with
  |error a=>rw[bl h1] at h;cases h
  |ok q=>obtain⟨af,s1⟩:=q;rw[aw h1] at h;exact(jt h).trans (Vk h1)
theorem L2{l:ag}{aM:List Int}:∀{gs aY:List (Int×Int)}{log:List aD}{s M:ah}{r:List (Int×Int)},fa l aM gs aY log s=.ok (r,M)->r.length<=gs.length+aY.length
 |[],aY,log,s,M,r,h=>by cases h;simp
 |g::gs,aY,log,s,M,r,h=>by
  rw[fa] at h;cases h1:cj (aE l g.1 6) log s with
  |error a=>rw[bl h1] at h;cases h
  |ok q=>
   obtain⟨b,s1⟩:=q;rw[aw h1] at h;split at h
   ·have:=L2 h;simp at this⊢;omega
   ·cases A:mM l g.1 log s1 with
    |error a=>rw[bl A] at h;cases h
    |ok q=>obtain⟨af,s2⟩:=q;rw[aw A] at h;have:=L2 h;simp at this⊢;omega
theorem Ej{l:ag}{n:Int}{log:List aD}{s M:ah}{af:Unit}(h:jF l n log s=.ok (af,M)):M.gone.length<=s.gone.length+1:=by
 unfold jF at h;cases h1:cj l.era log s with
 |error a=>rw[bl h1] at h;cases h
 |ok q=>
  obtain⟨er,s1⟩:=q;rw[aw h1] at h;have g1:s1.gone=s.gone:=by rw[(fE h1).1]
  cases A:fk ⟨4,l.era,0,1⟩ log s1 with
  |error a=>rw[bl A] at h;cases h
  |ok q=>
   obtain⟨r,s2⟩:=q;rw[aw A] at h;have g2:s2.gone=s.gone:=by rw[(un A).1];exact g1
   split at h
   ·cases h;simp[g2]
   ·unfold pR at h;cases K:j5 [] (jE l 0 l.az.toNat) log {s2 with gone:=s2.gone++[(n,er)]} with
    |error a=>rw[bl K] at h;cases h
    |ok q=>
     obtain⟨aM,s3⟩:=q;rw[aw K] at h;cases h4:fa l aM (s2.gone++[(n,er)]) [] log s3 with
     |error a=>rw[bl h4] at h;cases h
     |ok q=>obtain⟨aY,s4⟩:=q;rw[aw h4] at h;unfold ji at h;cases h;have:=L2 h4;simp[g2] at this⊢;omega
theorem sH(g:List (Int×Int))(hg:g.length<=100000):aX prog 185 [d7 g] (.bg [fy eN,jQ ⟨0,false,1,-1,g⟩,dB true]):=by
 refine sP func185 ntmps185 λ w cl=>?_
 refine gA ((pq g hg).pure) ?_;refine d8 ?_
 rfl
theorem Ce(l:ag)(D:Int)(g:List (Int×Int))(log:List aD):eo prog 186 [] [dD l,u D,d7 g,gH log] [] (λ d U=>d=.ptr 11 0/\U=bZ l D log ⟨0,g,0,0,0⟩):=by
 refine sI func186 ntmps186 λ w cl own kf=>?_
 refine gS ?_;refine bA 0 ?_;refine bA 13 ?_;refine nl aB rfl rfl rfl rfl ?_;refine kl ?_;refine gS ?_;refine nl aB rfl rfl rfl rfl ?_;refine nl aB rfl rfl rfl rfl ?_;refine nl aB rfl rfl rfl rfl ?_;refine bn (zn aB rfl rfl rfl) rfl rfl rfl ?_;refine bA 11 ?_;refine nA 12 ?_;refine go ?_;refine im (bZ l D log ⟨0,g,0,0,0⟩) rfl rfl (by(repeat(first|exact trivial|refine⟨⟨rfl,rfl⟩,?_⟩))) trivial ?_;exact⟨rfl,rfl⟩
abbrev jg(a:aT)(od:List G)(dn:Bool):bE:=[(22,[u a.kind,u a.cell,u a.fz,u a.new]),(21,[.any]),(23,od),(24,[dB dn])]
abbrev ot(o:bf):List G:=[u o.val,dB o.is,u o.err,u o.bS,d7 o.gone]
theorem yR{e:aA}{vs:List Value}(a:aT)(o:bf)(dn:Bool)(hI:fR (jg a (ot o) dn) e)(hv:DReps e vs [.ptr 22 0,.ptr 21 0,.ptr 23 0,.ptr 24 0]):
 CallsD prog 204 vs.toArray .returning e.w λ r u2 aI=>∃Y aq,r=.returned (.tuple #[])/\u2=.returning/\Y.w=aI/\fR aq Y/\Left [21,22,23,24] e Y/\aq=jg a (ot o) dn:=by
 refine wY (ae:=tb) func204 rfl ntmps204 rfl rfl rfl (by(repeat(first|exact trivial|refine⟨rfl,?_⟩))) (λ _ _=>rfl) (λ _=>rfl) rfl rfl .no (λ w cl own kf=>?_) hI hv;refine go ?_;refine bn (Gt underlying20 rfl rfl) rfl rfl rfl ?_;refine go ?_;refine jR (jg a (ot o) dn) rfl rfl (by(repeat(first|exact trivial|refine⟨⟨rfl,rfl⟩,?_⟩))) (by(repeat(first|exact trivial|refine⟨rfl,?_⟩))) rfl
theorem yS{e:aA}{vs:List Value}(a br:aT)(od:List G)(ho:od=[u 0,dB false,u 0,u 0,.p (.sl true 0 [])])(dn:Bool)(hI:fR (jg a od dn) e)(hv:DReps e vs [.ptr 22 0,.ptr 21 0,.ptr 23 0,.ptr 24 0]):
 CallsD prog 204 vs.toArray (.panicking [pe (iz br)]) e.w λ r u2 aI=>∃Y aq,r=.returned (.tuple #[])/\u2=.panicking [{v:=iz br,recovered:=true}]/\Y.w=aI/\fR aq Y/\Left [21,22,23,24] e Y/\aq=jg br od dn:=by
 subst ho;refine wY (ae:=tb) func204 rfl ntmps204 rfl rfl rfl (by(repeat(first|exact trivial|refine⟨rfl,?_⟩))) (λ _ _=>rfl) (λ _=>rfl) rfl rfl (.yes (iz br)) (λ w cl own kf=>?_) hI hv;refine go ?_;refine bn (Gu underlying20 rfl rfl) rfl rfl rfl ?_;refine go ?_;refine bn (EP aB rfl rfl rfl rfl) rfl rfl rfl ?_;refine go ?_;refine jR (jg br _ dn) rfl rfl (by(repeat(first|exact trivial|refine⟨⟨rfl,rfl⟩,?_⟩))) (by(repeat(first|exact trivial|refine⟨rfl,?_⟩))) rfl
set_option maxHeartbeats 4000000 in
theorem aaz(a:aT):aX prog 104 [fy a] (dB (vk a)):=by
 generalize E:vk a=aJ;unfold vk at E;refine sP func104 ntmps104 λ w cl=>?_
 refine go ?_;generalize h0:decide (a.cell<0)=cc;cases cc
 ·rw[decide_eq_true (show 0<=a.cell by have:=of_decide_eq_false h0;omega),Bool.true_and] at E;refine go ?_;generalize h1:decide (a.kind=1)=cc;cases cc
  ·have aP:=of_decide_eq_false h1;rw[if_neg aP] at E;refine go ?_;generalize A:decide (a.kind=2)=cc;cases cc
   ·have bs:=of_decide_eq_false A;refine go ?_;generalize h4:decide (a.kind=4)=cc;cases cc
    ·have oN:=of_decide_eq_false h4;refine go ?_;generalize h5:decide (a.kind=5)=cc;cases cc
     ·have Al:=of_decide_eq_false h5;rw[if_neg (by omega)] at E;refine go ?_;generalize K:decide (a.kind=3)=cc;cases cc
      ·rw[K] at E;refine gf ?_;rw[<-E]
      ·rw[K] at E;refine gf ?_;rw[<-E]
     ·rw[if_pos (by have:=of_decide_eq_true h5;omega)] at E;refine gf ?_;rw[<-E]
    ·rw[if_pos (by have:=of_decide_eq_true h4;omega)] at E;refine gf ?_;rw[<-E]
   ·rw[if_pos (by have:=of_decide_eq_true A;omega)] at E;refine gf ?_;rw[<-E]
  ·rw[if_pos (of_decide_eq_true h1)] at E;refine go ?_;generalize A:decide (a.new=0)=cc;cases cc
   ·rw[A] at E;refine gf ?_;rw[<-E];rfl
   ·rw[A] at E;refine gf ?_;rw[<-E];rfl
 ·rw[decide_eq_false (show¬0<=a.cell by have:=of_decide_eq_true h0;omega)] at E;refine gf ?_;rw[<-E];rfl
theorem Wf(n:Int)(a:aT):aX prog 67 [u n,fy a] (u (lM n a)):=by
 generalize E:lM n a=aJ;unfold lM at E;refine sP func67 ntmps67 λ w cl=>?_
 refine gA (aaz a) ?_;generalize h1:vk a=cc;cases cc
 ·rw[h1,if_neg (by decide)] at E;refine gf ?_;rw[<-E]
 ·rw[h1,if_pos rfl] at E;refine go ?_;generalize A:decide (n<=a.cell)=cc;cases cc
  ·rw[if_neg (of_decide_eq_false A)] at E;refine gf ?_;rw[<-E]
  ·rw[if_pos (of_decide_eq_true A)] at E;refine gf ?_;rw[<-E]
theorem wrap64(x:Int):IntKind.i64.wrap x=lm x:=by show(if(true&&decide (x%18446744073709551616>=9223372036854775808))=true then x%18446744073709551616-18446744073709551616 else x%18446744073709551616)=lm x;unfold lm;simp only[Bool.true_and,decide_eq_true_eq];split<;>split<;>omega
theorem abr{xs:List Int}{cs:List G}(h:cs.take xs.length=(bb xs).map G.p){x:Nat}(O:x<xs.length):cs[x]?=some (u (ef xs x)):=by
 have A:xs[x]?=some (ef xs x):=by simp[ef,O]
 have h1:(cs.take xs.length)[x]?=some (u (ef xs x)):=by rw[h,List.getElem?_map,RO A];rfl
 rw[List.getElem?_take,if_pos O] at h1;exact h1
theorem Lm{xs:List Int}{cs:List G}(h:cs.take xs.length=(bb xs).map G.p)(x:Nat)(v:Int):(cs.set x (u v)).take xs.length=(bb (xs.set x v)).map G.p:=by rw[List.take_set,h];unfold bb;simp[List.map_set]
theorem Lt{cs:List G}(h:fu cs){i:Nat}{n:Int}:fu (cs.set i (u n)):=by
 intro B au;have h1:=h B au;clear h;induction cs generalizing i with
 |nil=>rfl
 |cons d cs ih=>
  simp only[G.ok.eA,Bool.and_eq_true] at h1;cases i with
  |zero=>simp only[List.set_cons_zero,G.ok.eA,Bool.and_eq_true];exact⟨rfl,h1.2⟩
  |succ i=>simp only[List.set_cons_succ,G.ok.eA,Bool.and_eq_true];exact⟨h1.1,ih h1.2⟩
set_option maxHeartbeats 4000000 in
theorem ad1(xs:List Int)(k:Int)(x:Nat)(o nw:Int)(O:x<xs.length)(_:xs.length<=1000000)(c:Nat)(cs:List G)(ra:cs.length=c)(L:xs.length<=c)(n9:cs.take xs.length=(bb xs).map G.p)(bF:fu cs):
 eo prog 68 [9] [.arr 9 0 xs.length c,.agg [u k,u x,u o,u nw]] [(9,cs)] (λ d U=>d=xF (gE xs ⟨k,x,o,nw⟩).2/\∃aO,U=[(9,aO)]/\aO.length=c/\aO.take xs.length=(bb (gE xs ⟨k,x,o,nw⟩).1).map G.p/\fu aO):=by
 have hg:=abr n9 O;generalize hv:ef xs x=v at hg;generalize E:gE xs ⟨k,x,o,nw⟩=aJ;unfold gE at E;simp only[Int.toNat_natCast,hv,<-wrap64] at E;have e8:=Lm n9 x nw;have iv:=Lm n9 x (IntKind.i64.wrap (v+nw));have mX:fu (cs.set x (u nw)):=Lt bF;have n8:fu (cs.set x (u (IntKind.i64.wrap (v+nw)))):=Lt bF;refine sI func68 ntmps68 λ w cl own kf=>?_
 refine go ?_;refine aj x 1 ?_;refine bn (mo aB rfl rfl rfl rfl rfl hg) rfl rfl rfl ?_;refine go ?_;generalize K:decide (k=3)=cc;cases cc
 ·have dc:=of_decide_eq_false K;rw[if_neg dc] at E;refine go ?_;generalize A:decide (k=2)=cc;cases cc
  ·have bs:=of_decide_eq_false A;refine go ?_;generalize h5:decide (k=5)=cc;cases cc
   ·have Al:=of_decide_eq_false h5;rw[if_neg (by omega)] at E;refine go ?_;generalize h4:decide (k=4)=cc;cases cc
    ·rw[if_neg (of_decide_eq_false h4)] at E;refine go ?_;refine im [(9,cs)] rfl rfl ⟨⟨rfl,bF _ _⟩,trivial⟩ ⟨rfl,trivial⟩ ?_;rw[<-E];exact⟨rfl,cs,rfl,ra,n9,bF⟩
    ·rw[if_pos (of_decide_eq_true h4)] at E;refine go ?_;refine aj x 1 ?_;refine rL aB rfl rfl rfl rfl rfl rfl rfl rfl rfl (by rw[ra];omega) ?_;refine go ?_;refine im [(9,cs.set x (u (IntKind.i64.wrap (v+nw))))] rfl rfl ⟨⟨rfl,n8 _ _⟩,trivial⟩ ⟨rfl,trivial⟩ ?_;rw[<-E];exact⟨rfl,_,rfl,by rw[List.length_set];exact ra,iv,n8⟩
   ·rw[if_pos (by have:=of_decide_eq_true h5;omega)] at E;refine go ?_;refine aj x 1 ?_;refine rL aB rfl rfl rfl rfl rfl rfl rfl rfl rfl (by rw[ra];omega) ?_;refine go ?_;refine im [(9,cs.set x (u nw))] rfl rfl ⟨⟨rfl,mX _ _⟩,trivial⟩ ⟨rfl,trivial⟩ ?_;rw[<-E];exact⟨rfl,_,rfl,by rw[List.length_set];exact ra,e8,mX⟩
  ·rw[if_pos (by have:=of_decide_eq_true A;omega)] at E;refine go ?_;refine aj x 1 ?_;refine rL aB rfl rfl rfl rfl rfl rfl rfl rfl rfl (by rw[ra];omega) ?_;refine go ?_;refine im [(9,cs.set x (u nw))] rfl rfl ⟨⟨rfl,mX _ _⟩,trivial⟩ ⟨rfl,trivial⟩ ?_;rw[<-E];exact⟨rfl,_,rfl,by rw[List.length_set];exact ra,e8,mX⟩
 ·rw[if_pos (of_decide_eq_true K)] at E;refine go ?_;generalize h4:decide (v=o)=cc;cases cc
  ·rw[if_neg (of_decide_eq_false h4)] at E;refine go ?_;refine im [(9,cs)] rfl rfl ⟨⟨rfl,bF _ _⟩,trivial⟩ ⟨rfl,trivial⟩ ?_;rw[<-E];exact⟨rfl,cs,rfl,ra,n9,bF⟩
  ·rw[if_pos (of_decide_eq_true h4)] at E;refine go ?_;refine aj x 1 ?_;refine rL aB rfl rfl rfl rfl rfl rfl rfl rfl rfl (by rw[ra];omega) ?_;refine go ?_;refine im [(9,cs.set x (u nw))] rfl rfl ⟨⟨rfl,mX _ _⟩,trivial⟩ ⟨rfl,trivial⟩ ?_;rw[<-E];exact⟨rfl,_,rfl,by rw[List.length_set];exact ra,e8,mX⟩
def TR(ls:List Int)(d:G)(U:List (Nat×List G)):Prop:=∃c cs,d=.arr 9 0 ls.length c/\U=[(9,cs)]/\cs.length=c/\ls.length<=c/\c<=maxLen/\cs.take ls.length=(bb ls).map G.p/\fu cs
theorem Vj(ls:List Int)(h0:0<ls.length)(R:ls.length<=1000000):eo prog 66 [] [bq ls] [] (TR ls):=by
 refine sI func66 ntmps66 λ w cl own kf=>?_
 refine go ?_;refine MX aB rfl rfl rfl rfl rfl rfl rfl λ c L=>?_
 cases c with
 |true=>exact absurd (L rfl) (by omega)
 |false=>refine go ?_;refine MV aB 9 rfl rfl rfl rfl rfl rfl rfl rfl rfl rfl rfl rfl rfl h0 (sF ls) (by unfold maxLen;omega) (by show _*8<=_;omega) (λ aO bw h1 A K h4 h5=>?_);refine go ?_;refine im [(9,aO)] rfl rfl (by(repeat(first|exact trivial|refine⟨⟨rfl,h5 _ _⟩,?_⟩))) trivial ?_;exact⟨bw,aO,rfl,rfl,h1,K,A,h4,h5⟩
theorem KB(l:List Int):∀x∈bb l,x.lf=true:=by
 intro x O;simp only[bb,List.mem_map] at O;obtain⟨i,_,rfl⟩:=O
 rfl
abbrev jl(xs:List Int):G:=.agg [bq xs]
theorem EC(xs:List Int)(a:aT):(gE xs a).1.length=xs.length:=by
 unfold gE
 repeat' split
 all_goals simp
theorem Wh{n:Int}{a:aT}(h:lM n a=0):0<=a.cell/\a.cell<n:=by
 unfold lM at h;split at h
 ·rename_i hr;unfold vk at hr;simp only[Bool.and_eq_true,decide_eq_true_eq] at hr;split at h
  ·omega
  ·exact⟨hr.1,by omega⟩
 ·omega
set_option maxHeartbeats 4000000 in
theorem aax(xs:List Int)(a:aT)(hn:xs.length<=1000000):aX prog 103 [jl xs,fy a] (.bg [jl (Bb xs a).1,xF (Bb xs a).2.1,u (Bb xs a).2.2]):=by
 generalize E:Bb xs a=aJ;unfold Bb at E;refine sP func103 ntmps103 λ w cl=>?_
 refine gA (Wf xs.length a) ?_;generalize h1:decide (lM xs.length a=0)=cc;cases cc
 ·rw[if_neg (of_decide_eq_false h1)] at E;refine gf ?_;rw[<-E]
 ·have aP:=of_decide_eq_true h1;rw[if_pos aP] at E;obtain⟨h2,bR⟩:=Wh aP;have mV:=EC xs a;refine go ?_;refine hJ (Vj xs (by omega) hn) rfl (λ a w=>call66 a w) rfl rfl trivial trivial rfl rfl rfl rfl ?_ ?_
  ·rintro d U ⟨c,cs,rfl,rfl,_⟩;exact⟨.inr rfl,trivial⟩
  rintro d U ⟨c,cs,rfl,rfl,ra,L,h3,n9,bF⟩;have hT:=ad1 xs a.kind a.cell.toNat a.fz a.new (by omega) hn c cs ra L n9 bF;rw[show((a.cell.toNat:Nat):Int)=a.cell by omega] at hT;refine go ?_;refine hJ hT rfl (λ a w=>call68 a w) rfl rfl (by(repeat(first|exact trivial|refine⟨⟨rfl,bF _ _⟩,?_⟩))) (by(repeat(first|exact trivial|refine⟨.inr rfl,?_⟩))) rfl rfl rfl rfl ?_ ?_
  ·rintro d U ⟨_,aO,rfl,_⟩;exact⟨.inl rfl,trivial⟩
  rintro d U ⟨rfl,aO,rfl,k1,k2,k3⟩;refine hZ ?_;refine nf ?_;refine dO (I7 8 9 (bb (gE xs a).1) rfl rfl rfl rfl k1 L (by rw[sF,mV]) k2 h3 (KB _)) ?_;refine qa ?_;refine gW 4 [2] ?_;refine gf ?_;rw[<-E];simp only[jl,bq,mV]
theorem Cd{dM:Type}{P:Program}{Γ:bI}{Q:Exit->St->Prop}{x y:Code}{J:St}(bc:dM->St)(ok:dM->Prop)(h1:aK P Γ x (λ ex bU=>ex=.normal/\∃i,ok i/\bN Γ bU (bc i)) J)(A:∀i,ok i->aK P Γ y Q (bc i)):aK P Γ (.seq x y) Q J:=
 qa (vK h1 λ ex bU h=>by
  obtain⟨rfl,i,X,hg⟩:=h;exact dO hg (A i X))
theorem ET{dM:Type}{P:Program}{Γ:bI}{Q:Exit->St->Prop}{c:Code}{J:St}(x:Exit)(bc:dM->St)(ok:dM->Prop)(h:aK P Γ c (λ ex bU=>ex=x/\∃i,ok i/\bN Γ bU (bc i)) J)(k:∀bU i,ok i->bN Γ bU (bc i)->Q x bU):aK P Γ c Q J:=
 vK h λ ex bU hh=>by
  obtain⟨rfl,i,X,hg⟩:=hh;exact k bU i X hg
end Go.Proofs.YtcnefjfboagbmaaGreat
