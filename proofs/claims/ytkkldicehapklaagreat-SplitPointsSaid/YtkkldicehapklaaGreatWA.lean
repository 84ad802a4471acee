/- Words and layouts: what they are, and their walks. -/
import Derived.Test.YtkkldicehapklaaGreatLB
import Derived.Test.YtkkldicehapklaaGreatPA
namespace Go.Proofs.YtkkldicehapklaaGreat
open Go.Proofs.Tryz
open Go.RowKit
set_option maxRecDepth 100000
abbrev Ct(r:zj):I:=.agg [M r.idx,dB r.mark,M r.jS]
theorem Gt(n:Int)(b:Nat)(hb:b<=62):bH prog 64 [M n,M b] (M (n%2^b)):=by
 have h1:(2:Int)^b<=4611686018427387904:=by
  have aY:(2:Nat)^b<=2^62:=Nat.pow_le_pow_right (by omega) hb;have h5:((2^b:Nat):Int)<=((2^62:Nat):Int):=Int.ofNat_le.2 aY;have h6:((2^62:Nat):Int)=4611686018427387904:=by decide
  rw[h6,Int.natCast_pow] at h5;exact h5
 have h0:(0:Int)<2^b:=Int.pow_pos (by omega);refine sP func64 ntmps64 λ w cl=>?_
 refine go ?_;refine cy (DR b rfl rfl rfl rfl hb (by omega) (by omega)) rfl rfl rfl ?_;rw[Int.one_mul];refine gf ?_;rw[Rl n b hb]
theorem OV(n:Int):bH prog 64 [M n,M 16] (M (n%65536)):=Gt n 16 (by omega)
theorem VW(n:Int):bH prog 64 [M n,M 1] (M (n%2)):=Gt n 1 (by omega)
theorem OW(n:Int):bH prog 64 [M n,M 28] (M (n%268435456)):=Gt n 28 (by omega)
theorem rY(n:Int):bH prog 28 [M n] (Ct (av n)):=by
 refine sP func28 ntmps28 λ w cl=>?_
 refine gA (OV n) ?_;refine cy (Qe 16 rfl rfl rfl (by omega)) rfl rfl rfl ?_;refine gA (VW (n/2^16)) ?_;refine cy (Qe 17 rfl rfl rfl (by omega)) rfl rfl rfl ?_;refine gA (OW (n/2^17)) ?_;refine hp ?_
 rfl
theorem YV(r:zj)(i:Int)(h0:0<=r.jS)(h1:r.jS<268435456):bH prog 126 [Ct r,M i] (Ct (ii r i)):=by
 refine sP func126 ntmps126 λ w cl=>?_
 refine go ?_;refine dW 7 [] ?_;refine gQ (OV i) ?_;refine cQ (OW (r.jS+1)) ?_;refine bJ ?_;refine gf ?_
 rfl
theorem OQ{x y:Pl}{ps:List Pl}{n:Nat}(h0:ps[n]?=some x)(h1:ps[n+1]?=some y):∀(m:Nat) q,[x,y][m]?=some q->ps[n+m]?=some q:=by
 intro m q hq
 match m,hq with
 |0,hq=>cases hq;exact h0
 |1,hq=>cases hq;exact h1
theorem VE(a b c:Int):bH prog 78 [.p (.sl false 3 [pI a,pI 16,pI b,pI 1,pI c,pI 28])] (M (a%65536+65536*(b%2)+131072*(c%268435456))):=by
 have a0:0<=a%65536:=Int.emod_nonneg _ (by omega);have a1:a%65536<65536:=Int.emod_lt_of_pos _ (by omega);have b0:0<=b%2:=Int.emod_nonneg _ (by omega);have b1:b%2<2:=Int.emod_lt_of_pos _ (by omega);have c0:0<=c%268435456:=Int.emod_nonneg _ (by omega);have c1:c%268435456<268435456:=Int.emod_lt_of_pos _ (by omega);refine sP func78 ntmps78 λ w cl=>?_
 refine go ?_;refine d7 (λ i:Nat=>i<=3) (λ i=>⟨[(9,M i),(8,M 3),(7,.p (.sl false 3 [pI a,pI 16,pI b,pI 1,pI c,pI 28])),(3,M (if i=0 then 0 else if i=1 then a%65536 else if i=2 then a%65536+65536*(b%2) else a%65536+65536*(b%2)+131072*(c%268435456))),(4,M (if i=0 then 0 else if i=1 then 16 else if i=2 then 17 else 45))],[],[]⟩) (λ i=>3-i) 0 (by omega) (zX) ?_;intro i hi;rcases(show i=0\/i=1\/i=2\/i=3 by omega) with rfl|rfl|rfl|rfl
 ·refine(show a8 _ _ _ _ ⟨[(9,M 0),(8,M 3),(7,.p (.sl false 3 [pI a,pI 16,pI b,pI 1,pI c,pI 28])),(3,M (0)),(4,M 0)],[],[]⟩ from ?_);refine go ?_;refine gY (λ h1=>?_) (λ h1=>?_)<;>try rw[h1]
  ·refine go ?_;refine ai [pI a,pI 16] (OQ rfl rfl) ?_;refine gA (OV a) ?_;refine cy (DR 0 rfl rfl rfl rfl (by omega) (by omega) (by omega)) rfl rfl rfl ?_;rw[show a%65536*2^0=a%65536 by omega];refine go ?_;refine cy (Pj 0 (a%65536) rfl rfl rfl (by omega) (by omega) (by omega) (by omega) (by omega)) rfl rfl rfl ?_;rw[show 0+a%65536=a%65536 by omega];refine go ?_;exact⟨1,by omega,by omega,zX⟩
  ·exact absurd h1 (by decide)
 ·refine(show a8 _ _ _ _ ⟨[(9,M 1),(8,M 3),(7,.p (.sl false 3 [pI a,pI 16,pI b,pI 1,pI c,pI 28])),(3,M (a%65536)),(4,M 16)],[],[]⟩ from ?_);refine go ?_;refine gY (λ h1=>?_) (λ h1=>?_)<;>try rw[h1]
  ·refine go ?_;refine ai [pI b,pI 1] (OQ rfl rfl) ?_;refine gA (VW b) ?_;refine cy (DR 16 rfl rfl rfl rfl (by omega) (by omega) (by omega)) rfl rfl rfl ?_;rw[show b%2*2^16=65536*(b%2) by omega];refine go ?_;refine cy (Pj 16 (b%2) rfl rfl rfl (by omega) (by omega) (by omega) (by omega) (by omega)) rfl rfl rfl ?_;refine go ?_;exact⟨2,by omega,by omega,zX⟩
  ·exact absurd h1 (by decide)
 ·refine(show a8 _ _ _ _ ⟨[(9,M 2),(8,M 3),(7,.p (.sl false 3 [pI a,pI 16,pI b,pI 1,pI c,pI 28])),(3,M (a%65536+65536*(b%2))),(4,M 17)],[],[]⟩ from ?_);refine go ?_;refine gY (λ h1=>?_) (λ h1=>?_)<;>try rw[h1]
  ·refine go ?_;refine ai [pI c,pI 28] (OQ rfl rfl) ?_;refine gA (OW c) ?_;refine cy (DR 17 rfl rfl rfl rfl (by omega) (by omega) (by omega)) rfl rfl rfl ?_;rw[show c%268435456*2^17=131072*(c%268435456) by omega];refine go ?_;refine cy (Pj 17 (c%268435456) rfl rfl rfl (by omega) (by omega) (by omega) (by omega) (by omega)) rfl rfl rfl ?_;refine go ?_;exact⟨3,by omega,by omega,zX⟩
  ·exact absurd h1 (by decide)
 ·refine(show a8 _ _ _ _ ⟨[(9,M 3),(8,M 3),(7,.p (.sl false 3 [pI a,pI 16,pI b,pI 1,pI c,pI 28])),(3,M (a%65536+65536*(b%2)+131072*(c%268435456))),(4,M 45)],[],[]⟩ from ?_);refine go ?_;refine gY (λ h1=>?_) (λ h1=>?_)<;>try rw[h1]
  ·exact absurd h1 (by decide)
  ·refine gf ?_
   rfl
theorem DD(r:zj):bH prog 47 [Ct r] (M (eh r)):=by
 have hm:∀b:Bool,(if b then(1:Int) else 0)%2=if b then 1 else 0:=λ b=>by cases b<;>rfl
 obtain⟨i,m,c⟩:=r;refine sP func47 ntmps47 λ w cl=>?_
 refine go ?_;cases m
 ·refine gA (VE i 0 c) ?_;refine hp ?_
  rfl
 ·refine gA (VE i 1 c) ?_;refine hp ?_
  rfl
abbrev iK(l:aI):List I:=[M l.ar,M l.nodes,M l.buckets,M l.dj,M l.tasks,M l.cells,M l.maps,M l.xA,M l.uZ,M l.done,M l.count,M l.era,M l.free,M l.alive,M l.owner,M l.pZ,M l.Ag,M l.ring,M l.task,M l.cell,M l.map,M l.stack,M l.chan,M l.node,M l.size]
abbrev iZ(l:aI):I:=.agg (iK l)
theorem KO(first many each row i:Int)(h1:mZ first)(u:mZ many)(J:0<=each/\each<=1000)(h4:i<9223372036854775808):bH prog 61 [M first,M many,M each,M row,M i] (M (jL first many each row i)):=by
 obtain⟨alw,alx⟩:=h1;obtain⟨alz,alA⟩:=u;refine sP func61 ntmps61 λ w cl=>?_
 refine go ?_;generalize k1:decide (row<0)=cc;cases cc
 ·have rS:=of_decide_eq_false k1;refine go ?_;generalize k2:decide (many<=row)=cc;cases cc
  ·have xe:=of_decide_eq_false k2;refine go ?_;generalize k3:decide (i<0)=cc;cases cc
   ·have Jk:=of_decide_eq_false k3;refine go ?_;generalize k4:decide (each<=i)=cc;cases cc
    ·have Ge:=of_decide_eq_false k4;have wR:0<=row*each:=Int.mul_nonneg (by omega) (by omega);have A4:row*each<=1000000*1000:=Int.mul_le_mul (by omega) (by omega) (by omega) (by omega);have ew:IntKind.i64.wrap (row*each)=row*each:=ln (by omega) (by omega);refine go ?_;rw[ew];refine gf ?_;rw[jL,if_neg (by omega)]
    ·refine gf ?_;rw[jL,if_pos (by have:=of_decide_eq_true k4;omega)]
   ·refine gf ?_;rw[jL,if_pos (by have:=of_decide_eq_true k3;omega)]
  ·refine gf ?_;rw[jL,if_pos (by have:=of_decide_eq_true k2;omega)]
 ·refine gf ?_;rw[jL,if_pos (by have:=of_decide_eq_true k1;omega)]
theorem rW(l:aI)(Z:eT l)(n i:Int)(hn:n<9223372036854775808)(hi:i<9223372036854775808):bH prog 27 [iZ l,M n,M i] (M (bf l n i)):=by
 have e1:=Z.node;have e2:=Z.nodes;refine sP func27 ntmps27 λ w cl=>?_
 refine go ?_;generalize k1:decide (n<1)=cc;cases cc
 ·have rS:=of_decide_eq_false k1;refine gA (KO l.node l.nodes 8 (n-1) i e1 e2 (by omega) hi) ?_;refine hp ?_;rw[bf,if_neg rS]
 ·refine gf ?_;rw[bf,if_pos (of_decide_eq_true k1)]
theorem xx(l:aI)(Z:eT l)(s i:Int)(hi:i<9223372036854775808):bH prog 125 [iZ l,M s,M i] (M (fU l s i)):=by
 refine sP func125 ntmps125 λ w cl=>?_
 refine gA (KO l.pZ l.ar 3 s i Z.pZ Z.ar (by omega) hi) ?_;refine hp ?_
 rfl
def DC(p:Int×Int):List Pl:=[pI p.1,pI p.2]
def jo(l:List (Int×Int)):List Pl:=l.flatMap DC
abbrev GW(l:List (Int×Int)):Pl:=.sl false l.length (jo l)
abbrev im(l:List (Int×Int)):I:=.p (GW l)
def BN(r:aJ):List Pl:=[pI r.val,pB r.ok]
def hs(l:List aJ):List Pl:=l.flatMap BN
abbrev nZ(l:List aJ):I:=.p (.sl false l.length (hs l))
abbrev EA(r:aJ):I:=.agg [M r.val,dB r.ok]
abbrev kx(a:bz):I:=.agg [M a.kind,M a.cell,M a.dL,M a.new]
abbrev W7(l:aI)(O:Int)(s:ag):List Pl:=[pI l.ar,pI l.nodes,pI l.buckets,pI l.dj,pI l.tasks,pI l.cells,pI l.maps,pI l.xA,pI l.uZ,pI l.done,pI l.count,pI l.era,pI l.free,pI l.alive,pI l.owner,pI l.pZ,pI l.Ag,pI l.ring,pI l.task,pI l.cell,pI l.map,pI l.stack,pI l.chan,pI l.node,pI l.size,pI O,GW s.gone,pI s.made,pI s.e0,pI s.e1,pI s.e2]
abbrev GV(l:aI)(O:Int)(s:ag):List I:=[M l.ar,M l.nodes,M l.buckets,M l.dj,M l.tasks,M l.cells,M l.maps,M l.xA,M l.uZ,M l.done,M l.count,M l.era,M l.free,M l.alive,M l.owner,M l.pZ,M l.Ag,M l.ring,M l.task,M l.cell,M l.map,M l.stack,M l.chan,M l.node,M l.size,M O,im s.gone,M s.made,M s.e0,M s.e1,M s.e2,.fn (.func 108) [] [.ptr 12 0,.ptr 13 0]]
abbrev jc(l:aI)(O:Int)(log:List aJ)(s:ag):cn:=[(11,GV l O s),(12,[.ptr 11 0]),(13,[nZ log])]
theorem r8(l:aI)(Z:eT l)(O:Int)(s:ag)(n i:Int)(hn:n<9223372036854775808)(hi:i<9223372036854775808):bH prog 112 [.el (W7 l O s),M n,M i] (M (bf l n i)):=by
 refine sP func112 ntmps112 λ w cl=>?_
 refine gA (rW l Z n i hn hi) ?_;refine hp ?_
 rfl
theorem vQ(l:aI)(O:Int)(s:ag)(h:(s.made:Int)<9223372036854775807):bH prog 119 [.el (W7 l O s)] (M ((s.made:Int)-1)):=by
 refine sP func119 ntmps119 λ w cl=>?_
 refine gf ?_
 rfl
theorem My{az:Type}{f:az->List Pl}{a b:az->Pl}(hf:∀x,f x=[a x,b x]):∀{l:List az}{i:Nat}{x:az},l[i]?=some x->∀(m:Nat) q,[a x,b x][m]?=some q->(l.flatMap f)[i*2+m]?=some q
 |[],i,x,h=>by simp at h
 |y::l,0,x,h=>by
  intro m q hq;simp at h;subst h;rw[List.flatMap_cons,hf,Nat.zero_mul,Nat.zero_add,List.getElem?_append_left]
  ·exact hq
  ·exact(List.getElem?_eq_some_iff.1 hq).1
 |y::l,i+1,x,h=>by
  intro m q hq;have ih:=My hf (l:=l) (i:=i) (x:=x) (by simpa using h) m q hq;rw[List.flatMap_cons,hf,List.getElem?_append_right (by simp;omega)];rw[show(i+1)*2+m-[a y,b y].length=i*2+m by simp;omega];exact ih
theorem OT{l:List aJ}{i:Int}{r:aJ}(h:l[i.toNat]?=some r):∀(m:Nat) q,[pI r.val,pB r.ok][m]?=some q->(hs l)[i.toNat*2+m]?=some q:=My (f:=BN) (λ _=>rfl) h
abbrev v9(a:bz):Value:=.iface 167 (.agg #[.int .i64 a.kind,.int .i64 a.cell,.int .i64 a.dL,.int .i64 a.new])
def ZA{az:Type}(l:aI)(O:Int)(log:List aJ)(m:Except bz (az×ag))(s:ag)(enc:az->I):I->cn->Prop:=λ d bs=>∃x ah,m=.ok (x,ah)/\s.made<=ah.made/\ah.made<=log.length/\d=enc x/\bs=jc l O log ah
def ZB{az:Type}(l:aI)(O:Int)(log:List aJ)(m:Except bz (az×ag)):Value->cn->Prop:=λ v bs=>∃a ah,m=.error a/\v=v9 a/\bs=jc l O log ah
abbrev so{az:Type}(f:FuncId)(l:aI)(O:Int)(log:List aJ)(s:ag)(ds:List I)(m:Except bz (az×ag))(enc:az->I):Prop:=
 jt prog f [11,12,13] ds (jc l O log s) (ZA l O log m s enc) (ZB l O log m)
theorem H2(l:aI)(O:Int)(log:List aJ)(s:ag)(a:bz)(hm:s.made<=log.length)(Z:log.length<=1000000):so 108 l O log s [kx a,.ptr 12 0,.ptr 13 0] (h2 a log s) EA:=by
 refine sX func108 ntmps108 λ w cl own kf=>?_
 refine go ?_;refine gD [] ?_;refine go ?_;generalize h1:decide ((s.made:Int)=(log.length:Int))=cc;cases cc
 ·have bB:=of_decide_eq_false h1;have aY:s.made<log.length:=by omega
  have hr:log[s.made]?=some log[s.made]:=List.getElem?_eq_getElem aY;generalize log[s.made]=r at hr;have vp:log[((s.made:Int)+1-1).toNat]?=some r:=by rw[show((s.made:Int)+1-1).toNat=s.made by omega];exact hr
  refine go ?_;refine gW 8 [] ?_;refine ri [pI r.val,pB r.ok] (OT vp) ?_;refine qg ?_;exact fX _ ⟨r,{s with made:=s.made+1},by rw[h2,hr],by simp,by simp;omega,rfl,rfl⟩
 ·have bB:log.length=s.made:=by have:=of_decide_eq_true h1;omega
  have hr:log[s.made]?=none:=List.getElem?_eq_none (by omega);refine go ?_;refine cy (Oq aX rfl rfl rfl rfl rfl) rfl rfl rfl ?_;refine Lm rfl rfl rfl ?_;refine gP ?_;exact fP _ ⟨a,s,by rw[h2,hr],rfl,rfl⟩
theorem Cu{a:bz}{log:List aJ}{s ah:ag}{r:aJ}(h:h2 a log s=.ok (r,ah)):ah={s with made:=s.made+1}/\log[s.made]?=some r:=by
 unfold h2 at h;split at h
 ·rename_i r0 h0;cases h;exact⟨rfl,h0⟩
 ·cases h
theorem pi{c:Int}{log:List aJ}{s ah:ag}{v:Int}(h:gR c log s=.ok (v,ah)):ah={s with made:=s.made+1}/\∃r,log[s.made]?=some r/\r.val=v:=by
 unfold gR Pm.bind at h;split at h
 ·rename_i r s1 h0;cases h;obtain⟨h1,u⟩:=Cu h0;exact⟨h1,r,u,rfl⟩
 ·cases h
theorem xE{c v:Int}{log:List aJ}{s ah:ag}{aH:Unit}(h:kj c v log s=.ok (aH,ah)):ah={s with made:=s.made+1}/\∃r,log[s.made]?=some r:=by
 unfold kj Pm.bind at h;split at h
 ·rename_i r s1 h0;cases h;obtain⟨h1,u⟩:=Cu h0;exact⟨h1,r,u⟩
 ·cases h
theorem uY{c o v:Int}{log:List aJ}{s ah:ag}{b:Bool}(h:oS c o v log s=.ok (b,ah)):ah={s with made:=s.made+1}/\∃r,log[s.made]?=some r/\r.ok=b:=by
 unfold oS Pm.bind at h;split at h
 ·rename_i r s1 h0;cases h;obtain⟨h1,u⟩:=Cu h0;exact⟨h1,r,u,rfl⟩
 ·cases h
theorem rU{c:Int}{log:List aJ}{s ah:ag}{v:Int}(h:gR c log s=.ok (v,ah)):ah.made=s.made+1:=by rw[(pi h).1]
theorem B4{c v:Int}{log:List aJ}{s ah:ag}{aH:Unit}(h:kj c v log s=.ok (aH,ah)):ah.made=s.made+1:=by rw[(xE h).1]
theorem zv{c o v:Int}{log:List aJ}{s ah:ag}{b:Bool}(h:oS c o v log s=.ok (b,ah)):ah.made=s.made+1:=by rw[(uY h).1]
theorem nJ(l:aI)(O:Int)(log:List aJ)(s:ag)(c:Int)(hm:s.made<=log.length)(Z:log.length<=1000000):so 111 l O log s [.ptr 11 0,M c] (gR c log s) M:=by
 refine sX func111 ntmps111 λ w cl own kf=>?_
 refine go ?_;refine vX (H2 l O log s ⟨1,c,0,0⟩ hm Z) ?_ ?_
 ·rintro v bs ⟨a,ah,h,rfl,rfl⟩;refine gP ?_;exact fP _ ⟨a,ah,eA h,rfl,rfl⟩
 rintro d bs ⟨x,ah,h,fD,cx,rfl,rfl⟩;refine go ?_;exact fX _ ⟨x.val,ah,bl h,fD,cx,rfl,rfl⟩
theorem ta(l:aI)(O:Int)(log:List aJ)(s:ag)(c v:Int)(hm:s.made<=log.length)(Z:log.length<=1000000):so 116 l O log s [.ptr 11 0,M c,M v] (kj c v log s) (λ _=>.ca []):=by
 refine sX func116 ntmps116 λ w cl own kf=>?_
 refine go ?_;refine vX (H2 l O log s ⟨2,c,0,v⟩ hm Z) ?_ ?_
 ·rintro v bs ⟨a,ah,h,rfl,rfl⟩;refine gP ?_;exact fP _ ⟨a,ah,eA h,rfl,rfl⟩
 rintro d bs ⟨x,ah,h,fD,cx,rfl,rfl⟩;refine go ?_;exact fX _ ⟨(),ah,bl h,fD,cx,rfl,rfl⟩
theorem zw(l:aI)(O:Int)(log:List aJ)(s:ag)(c o v:Int)(hm:s.made<=log.length)(Z:log.length<=1000000):so 118 l O log s [.ptr 11 0,M c,M o,M v] (oS c o v log s) dB:=by
 refine sX func118 ntmps118 λ w cl own kf=>?_
 refine go ?_;refine vX (H2 l O log s ⟨3,c,o,v⟩ hm Z) ?_ ?_
 ·rintro v bs ⟨a,ah,h,rfl,rfl⟩;refine gP ?_;exact fP _ ⟨a,ah,eA h,rfl,rfl⟩
 rintro d bs ⟨x,ah,h,fD,cx,rfl,rfl⟩;refine go ?_;exact fX _ ⟨x.ok,ah,bl h,fD,cx,rfl,rfl⟩
set_option maxHeartbeats 4000000 in
theorem akk(l:aI)(hL:eT l)(O:Int)(log:List aJ)(s:ag)(hm:s.made<=log.length)(Z:log.length<=1000000):so 115 l O log s [.ptr 11 0] (KH l log s) (λ p=>.ca [M p.1,M p.2.1,dB p.2.2]):=by
 generalize Y:KH l log s=E;refine sX func115 ntmps115 λ w cl own kf=>?_
 refine go ?_;refine d7 (λ p:Nat×ag=>s.made<=p.2.made/\p.2.made<=log.length/\log.length-p.2.made<p.1/\uJ l p.1 log p.2=E) (λ p=>⟨[(0,.ptr 11 0)],jc l O log p.2,[]⟩) (λ p=>p.1) (log.length+1-s.made,s) ⟨Nat.le_refl _,hm,by simp only;omega,Y⟩ (zX) ?_;rintro⟨k,t⟩ ⟨lC,ir,rP,Y⟩;simp only at lC ir rP Y;obtain⟨k,rfl⟩:∃j,k=j+1:=⟨k-1,by omega⟩;refine(show a8 _ _ _ _ ⟨[(0,.ptr 11 0)],jc l O log t,[]⟩ from ?_);rw[uJ] at Y;refine go ?_;refine xP (nJ l O log t l.free ir Z) ?_;rintro d bs ⟨fr,s1,fE,ub,nF,rfl,rfl⟩;rw[bl fE] at Y;have fm:=rU fE;have di:=jb fr;have gM:=WA fr;refine gA (rY fr) ?_;generalize h1:decide ((av fr).idx=0)=cc;cases cc
 ·have bB:=of_decide_eq_false h1;rw[if_neg bB] at Y;refine go ?_;refine lA (r8 l hL O s1 (av fr).idx 7 (by omega) (by omega)) ?_;refine go ?_;refine xP (nJ l O log s1 (bf l (av fr).idx 7) nF Z) ?_;rintro d bs ⟨lk,s2,cL,jU,ib,rfl,rfl⟩;rw[bl cL] at Y;have ic:=rU cL;refine go ?_;refine dW 11 [] ?_;refine gQ (YV (av fr) lk gM.1 gM.2) ?_;refine cQ (DD (ii (av fr) lk)) ?_;refine bJ ?_;refine xP (zw l O log s2 l.free fr (eh (ii (av fr) lk)) ib Z) ?_;rintro d bs ⟨Pf,s3,fx,lX,jV,rfl,rfl⟩;rw[bl fx] at Y;have my:=zv fx;refine go ?_;cases Pf
  ·rw[if_neg (by decide)] at Y;refine go ?_;exact⟨(k,s3),⟨by simp only;omega,jV,by simp only;omega,Y⟩,by simp only;omega,zX⟩
  ·rw[if_pos rfl,bl jI] at Y;refine go ?_;refine lA (vQ l O s3 (by omega)) ?_;refine go ?_;refine xP (nJ l O log s3 l.era jV Z) ?_;rintro d bs ⟨bi,s4,i9,uc,pa,rfl,rfl⟩;rw[bl i9] at Y;refine go ?_;refine lA (r8 l hL O s4 (av fr).idx 6 (by omega) (by omega)) ?_;refine go ?_;refine xP (ta l O log s4 (bf l (av fr).idx 6) bi pa Z) ?_;rintro d bs ⟨aH,s5,mV,yp,rI,rfl,rfl⟩;rw[bl mV] at Y;refine go ?_;exact fX _ ⟨_,s5,Y.symm,by omega,rI,rfl,rfl⟩
 ·rw[if_pos (of_decide_eq_true h1),bl jI] at Y;refine go ?_;refine lA (vQ l O s1 (by omega)) ?_;refine go ?_;exact fX _ ⟨_,s1,Y.symm,by omega,nF,rfl,rfl⟩
set_option maxHeartbeats 4000000 in
theorem Tp(l:aI)(hL:eT l)(O:Int)(log:List aJ)(s:ag)(n:Int)(hn:n<9223372036854775808)(hm:s.made<=log.length)(Z:log.length<=1000000):so 114 l O log s [.ptr 11 0,M n] (Ay l n log s) (λ _=>.ca []):=by
 generalize Y:Ay l n log s=E;refine sX func114 ntmps114 λ w cl own kf=>?_
 refine go ?_;refine d7 (λ p:Nat×ag=>s.made<=p.2.made/\p.2.made<=log.length/\log.length-p.2.made<p.1/\tN l n p.1 log p.2=E) (λ p=>⟨[(0,.ptr 11 0),(1,M n)],jc l O log p.2,[]⟩) (λ p=>p.1) (log.length+1-s.made,s) ⟨Nat.le_refl _,hm,by simp only;omega,Y⟩ (zX) ?_;rintro⟨k,t⟩ ⟨lC,ir,rP,Y⟩;simp only at lC ir rP Y;obtain⟨k,rfl⟩:∃j,k=j+1:=⟨k-1,by omega⟩;refine(show a8 _ _ _ _ ⟨[(0,.ptr 11 0),(1,M n)],jc l O log t,[]⟩ from ?_);rw[tN] at Y;refine go ?_;refine xP (nJ l O log t l.free ir Z) ?_;rintro d bs ⟨fr,s1,fE,ub,nF,rfl,rfl⟩;rw[bl fE] at Y;have fm:=rU fE;have gM:=WA fr;refine gA (rY fr) ?_;refine gW 6 [] ?_;refine lQ (r8 l hL O s1 n 7 hn (by omega)) ?_;refine bJ ?_;refine xP (ta l O log s1 (bf l n 7) (av fr).idx nF Z) ?_;rintro d bs ⟨aH,s2,cL,jU,ib,rfl,rfl⟩;rw[bl cL] at Y;have ic:=B4 cL;refine go ?_;refine dW 11 [] ?_;refine gQ (YV (av fr) n gM.1 gM.2) ?_;refine cQ (DD (ii (av fr) n)) ?_;refine bJ ?_;refine xP (zw l O log s2 l.free fr (eh (ii (av fr) n)) ib Z) ?_;rintro d bs ⟨Pf,s3,fx,lX,jV,rfl,rfl⟩;rw[bl fx] at Y;have my:=zv fx;refine go ?_;cases Pf
 ·rw[if_neg (by decide)] at Y;refine go ?_;exact⟨(k,s3),⟨by simp only;omega,jV,by simp only;omega,Y⟩,by simp only;omega,zX⟩
 ·rw[if_pos rfl] at Y;refine go ?_;exact fX _ ⟨_,s3,Y.symm,by omega,jV,rfl,rfl⟩
set_option maxHeartbeats 4000000 in
theorem ac0(l:aI)(hL:eT l)(O:Int)(log:List aJ)(s:ag)(cell:Int)(hm:s.made<=log.length)(Z:log.length<=1000000):so 124 l O log s [.ptr 11 0,M 0,M cell] (tO l O 0 cell log s) (λ p=>.ca [M p.1,M p.2]):=by
 generalize Y:tO l O 0 cell log s=E;refine sX func124 ntmps124 λ w cl own kf=>?_
 refine go ?_;refine d7 (λ p:Nat×ag=>s.made<=p.2.made/\p.2.made<=log.length/\log.length-p.2.made<p.1/\oV l O 0 cell p.1 log p.2=E) (λ p=>⟨[(0,.ptr 11 0),(1,M 0),(2,M cell)],jc l O log p.2,[]⟩) (λ p=>p.1) (log.length+1-s.made,s) ⟨Nat.le_refl _,hm,by simp only;omega,Y⟩ (zX) ?_;rintro⟨k,t⟩ ⟨lC,ir,rP,Y⟩;simp only at lC ir rP Y;obtain⟨k,rfl⟩:∃j,k=j+1:=⟨k-1,by omega⟩;refine(show a8 _ _ _ _ ⟨[(0,.ptr 11 0),(1,M 0),(2,M cell)],jc l O log t,[]⟩ from ?_);rw[oV] at Y;refine go ?_;refine xP (nJ l O log t cell ir Z) ?_;rintro d bs ⟨v,s1,fE,ub,nF,rfl,rfl⟩;rw[bl fE,bl jI] at Y;have fm:=rU fE;refine go ?_;refine lA (vQ l O s1 (by omega)) ?_;refine go ?_;refine xP (nJ l O log s1 l.era nF Z) ?_;rintro d bs ⟨er,s2,cL,jU,ib,rfl,rfl⟩;rw[bl cL] at Y;have ic:=rU cL;refine go ?_;refine cy (lD aX rfl rfl rfl rfl rfl (by omega) (by omega)) rfl rfl rfl ?_;refine go ?_;generalize h1:decide (er=s2.e0)=cc;cases cc
 ·rw[if_neg (show¬er=s2.e 0 from of_decide_eq_false h1)] at Y;refine go ?_;refine dW 12 [] ?_;refine gQ (xx l hL O 0 (by omega)) ?_;refine xP (ta l O log s2 (fU l O 0) er ib Z) ?_;rintro d bs ⟨aH,s3,fx,lX,jV,rfl,rfl⟩;rw[bl fx] at Y;have my:=B4 fx;refine go ?_;refine cy (lD aX rfl rfl rfl rfl rfl (by omega) (by omega)) rfl rfl rfl ?_;refine go ?_;exact⟨(k,{s3 with e0:=er}),⟨by simp only;omega,by simp only;omega,by simp only;omega,Y⟩,by simp only;omega,zX⟩
 ·rw[if_pos (show er=s2.e 0 from of_decide_eq_true h1)] at Y;refine go ?_;exact fX _ ⟨_,s2,Y.symm,by omega,ib,rfl,rfl⟩
set_option maxHeartbeats 4000000 in
theorem ac1(l:aI)(hL:eT l)(O:Int)(log:List aJ)(s:ag)(cell:Int)(hm:s.made<=log.length)(Z:log.length<=1000000):so 124 l O log s [.ptr 11 0,M 1,M cell] (tO l O 1 cell log s) (λ p=>.ca [M p.1,M p.2]):=by
 generalize Y:tO l O 1 cell log s=E;refine sX func124 ntmps124 λ w cl own kf=>?_
 refine go ?_;refine d7 (λ p:Nat×ag=>s.made<=p.2.made/\p.2.made<=log.length/\log.length-p.2.made<p.1/\oV l O 1 cell p.1 log p.2=E) (λ p=>⟨[(0,.ptr 11 0),(1,M 1),(2,M cell)],jc l O log p.2,[]⟩) (λ p=>p.1) (log.length+1-s.made,s) ⟨Nat.le_refl _,hm,by simp only;omega,Y⟩ (zX) ?_;rintro⟨k,t⟩ ⟨lC,ir,rP,Y⟩;simp only at lC ir rP Y;obtain⟨k,rfl⟩:∃j,k=j+1:=⟨k-1,by omega⟩;refine(show a8 _ _ _ _ ⟨[(0,.ptr 11 0),(1,M 1),(2,M cell)],jc l O log t,[]⟩ from ?_);rw[oV] at Y;refine go ?_;refine xP (nJ l O log t cell ir Z) ?_;rintro d bs ⟨v,s1,fE,ub,nF,rfl,rfl⟩;rw[bl fE,bl jI] at Y;have fm:=rU fE;refine go ?_;refine lA (vQ l O s1 (by omega)) ?_;refine go ?_;refine xP (nJ l O log s1 l.era nF Z) ?_;rintro d bs ⟨er,s2,cL,jU,ib,rfl,rfl⟩;rw[bl cL] at Y;have ic:=rU cL;refine go ?_;refine cy (lD aX rfl rfl rfl rfl rfl (by omega) (by omega)) rfl rfl rfl ?_;refine go ?_;generalize h1:decide (er=s2.e1)=cc;cases cc
 ·rw[if_neg (show¬er=s2.e 1 from of_decide_eq_false h1)] at Y;refine go ?_;refine dW 12 [] ?_;refine gQ (xx l hL O 1 (by omega)) ?_;refine xP (ta l O log s2 (fU l O 1) er ib Z) ?_;rintro d bs ⟨aH,s3,fx,lX,jV,rfl,rfl⟩;rw[bl fx] at Y;have my:=B4 fx;refine go ?_;refine cy (lD aX rfl rfl rfl rfl rfl (by omega) (by omega)) rfl rfl rfl ?_;refine go ?_;exact⟨(k,{s3 with e1:=er}),⟨by simp only;omega,by simp only;omega,by simp only;omega,Y⟩,by simp only;omega,zX⟩
 ·rw[if_pos (show er=s2.e 1 from of_decide_eq_true h1)] at Y;refine go ?_;exact fX _ ⟨_,s2,Y.symm,by omega,ib,rfl,rfl⟩
set_option maxHeartbeats 4000000 in
theorem ac2(l:aI)(hL:eT l)(O:Int)(log:List aJ)(s:ag)(cell:Int)(hm:s.made<=log.length)(Z:log.length<=1000000):so 124 l O log s [.ptr 11 0,M 2,M cell] (tO l O 2 cell log s) (λ p=>.ca [M p.1,M p.2]):=by
 generalize Y:tO l O 2 cell log s=E;refine sX func124 ntmps124 λ w cl own kf=>?_
 refine go ?_;refine d7 (λ p:Nat×ag=>s.made<=p.2.made/\p.2.made<=log.length/\log.length-p.2.made<p.1/\oV l O 2 cell p.1 log p.2=E) (λ p=>⟨[(0,.ptr 11 0),(1,M 2),(2,M cell)],jc l O log p.2,[]⟩) (λ p=>p.1) (log.length+1-s.made,s) ⟨Nat.le_refl _,hm,by simp only;omega,Y⟩ (zX) ?_;rintro⟨k,t⟩ ⟨lC,ir,rP,Y⟩;simp only at lC ir rP Y;obtain⟨k,rfl⟩:∃j,k=j+1:=⟨k-1,by omega⟩;refine(show a8 _ _ _ _ ⟨[(0,.ptr 11 0),(1,M 2),(2,M cell)],jc l O log t,[]⟩ from ?_);rw[oV] at Y;refine go ?_;refine xP (nJ l O log t cell ir Z) ?_;rintro d bs ⟨v,s1,fE,ub,nF,rfl,rfl⟩;rw[bl fE,bl jI] at Y;have fm:=rU fE;refine go ?_;refine lA (vQ l O s1 (by omega)) ?_;refine go ?_;refine xP (nJ l O log s1 l.era nF Z) ?_;rintro d bs ⟨er,s2,cL,jU,ib,rfl,rfl⟩;rw[bl cL] at Y;have ic:=rU cL;refine go ?_;refine cy (lD aX rfl rfl rfl rfl rfl (by omega) (by omega)) rfl rfl rfl ?_;refine go ?_;generalize h1:decide (er=s2.e2)=cc;cases cc
 ·rw[if_neg (show¬er=s2.e 2 from of_decide_eq_false h1)] at Y;refine go ?_;refine dW 12 [] ?_;refine gQ (xx l hL O 2 (by omega)) ?_;refine xP (ta l O log s2 (fU l O 2) er ib Z) ?_;rintro d bs ⟨aH,s3,fx,lX,jV,rfl,rfl⟩;rw[bl fx] at Y;have my:=B4 fx;refine go ?_;refine cy (lD aX rfl rfl rfl rfl rfl (by omega) (by omega)) rfl rfl rfl ?_;refine go ?_;exact⟨(k,{s3 with e2:=er}),⟨by simp only;omega,by simp only;omega,by simp only;omega,Y⟩,by simp only;omega,zX⟩
 ·rw[if_pos (show er=s2.e 2 from of_decide_eq_true h1)] at Y;refine go ?_;exact fX _ ⟨_,s2,Y.symm,by omega,ib,rfl,rfl⟩
theorem Tw(l:aI)(hL:eT l)(O:Int)(log:List aJ)(s:ag)(i cell:Int)(hi:i=0\/i=1\/i=2)(hm:s.made<=log.length)(Z:log.length<=1000000):so 124 l O log s [.ptr 11 0,M i,M cell] (tO l O i cell log s) (λ p=>.ca [M p.1,M p.2]):=by
 rcases hi with rfl|rfl|rfl
 ·exact ac0 l hL O log s cell hm Z
 ·exact ac1 l hL O log s cell hm Z
 ·exact ac2 l hL O log s cell hm Z
set_option maxHeartbeats 4000000 in
theorem u0(l:aI)(hL:eT l)(O:Int)(log:List aJ)(s:ag)(hm:s.made<=log.length)(Z:log.length<=1000000):so 113 l O log s [.ptr 11 0] (tC l O log s) (λ _=>.ca []):=by
 generalize Y:tC l O log s=E;unfold tC at Y;refine sX func113 ntmps113 λ w cl own kf=>?_
 refine go ?_;refine d7 (λ p:Nat×ag=>p.1<=3/\s.made<=p.2.made/\p.2.made<=log.length/\pE l O p.1 ([s.e0,s.e1,s.e2].drop p.1) log p.2=E) (λ p=>⟨[(8,M p.1),(7,.agg [M s.e0,M s.e1,M s.e2]),(0,.ptr 11 0)],jc l O log p.2,[]⟩) (λ p=>3-p.1) (0,s) ⟨by simp only;omega,Nat.le_refl _,hm,Y⟩ (zX) ?_;rintro⟨i,t⟩ ⟨hi,lC,ir,Y⟩;simp only at hi lC ir Y;rcases(show i=0\/i=1\/i=2\/i=3 by omega) with rfl|rfl|rfl|rfl
 ·refine(show a8 _ _ _ _ ⟨[(8,M 0),(7,.agg [M s.e0,M s.e1,M s.e2]),(0,.ptr 11 0)],jc l O log t,[]⟩ from ?_);have Y:(fh l O 0 s.e0).bind (λ _=>pE l O 1 ([s.e0,s.e1,s.e2].drop 1)) log t=E:=Y;refine go ?_;refine gY (λ h1=>?_) (λ h1=>?_)<;>try rw[h1]
  ·refine go ?_;refine cy (Ou aX (M s.e0) rfl rfl rfl rfl rfl rfl (by omega) (by omega) rfl) rfl rfl rfl ?_;refine go ?_;generalize u:decide (s.e0=0)=cc;cases cc
   ·rw[fh,if_neg (of_decide_eq_false u)] at Y;refine go ?_;refine dW 11 [] ?_;refine gQ (xx l hL O 0 (by omega)) ?_;refine xX (ta l O log t (fU l O 0) 0 ir Z) ?_ ?_
    ·rintro v bs ⟨a,ah,h,rfl,rfl⟩;refine gP ?_;exact fP _ ⟨a,ah,by rw[<-Y];exact eA (eA h),rfl,rfl⟩
    rintro d bs ⟨aH,s1,fE,ub,nF,rfl,rfl⟩;have ES:pE l O 1 ([s.e0,s.e1,s.e2].drop 1) log {s1 with e0:=0}=E:=by rw[<-Y];exact(bl (f:=λ _=>pE l O 1 ([s.e0,s.e1,s.e2].drop 1)) (bl (f:=λ _=>xz 0) fE)).symm
    refine go ?_;refine cy (lD aX rfl rfl rfl rfl rfl (by omega) (by omega)) rfl rfl rfl ?_;refine go ?_;exact⟨(1,{s1 with e0:=0}),⟨by simp only;omega,by simp only;omega,by simp only;omega,ES⟩,by simp only;omega,zX⟩
   ·rw[fh,if_pos (of_decide_eq_true u)] at Y;refine go ?_;exact⟨(1,t),⟨by simp only;omega,lC,ir,Y⟩,by simp only;omega,zX⟩
  ·exact absurd h1 (by decide)
 ·refine(show a8 _ _ _ _ ⟨[(8,M 1),(7,.agg [M s.e0,M s.e1,M s.e2]),(0,.ptr 11 0)],jc l O log t,[]⟩ from ?_);have Y:(fh l O 1 s.e1).bind (λ _=>pE l O 2 ([s.e0,s.e1,s.e2].drop 2)) log t=E:=Y;refine go ?_;refine gY (λ h1=>?_) (λ h1=>?_)<;>try rw[h1]
  ·refine go ?_;refine cy (Ou aX (M s.e1) rfl rfl rfl rfl rfl rfl (by omega) (by omega) rfl) rfl rfl rfl ?_;refine go ?_;generalize u:decide (s.e1=0)=cc;cases cc
   ·rw[fh,if_neg (of_decide_eq_false u)] at Y;refine go ?_;refine dW 11 [] ?_;refine gQ (xx l hL O 1 (by omega)) ?_;refine xX (ta l O log t (fU l O 1) 0 ir Z) ?_ ?_
    ·rintro v bs ⟨a,ah,h,rfl,rfl⟩;refine gP ?_;exact fP _ ⟨a,ah,by rw[<-Y];exact eA (eA h),rfl,rfl⟩
    rintro d bs ⟨aH,s1,fE,ub,nF,rfl,rfl⟩;have ES:pE l O 2 ([s.e0,s.e1,s.e2].drop 2) log {s1 with e1:=0}=E:=by rw[<-Y];exact(bl (f:=λ _=>pE l O 2 ([s.e0,s.e1,s.e2].drop 2)) (bl (f:=λ _=>xz 1) fE)).symm
    refine go ?_;refine cy (lD aX rfl rfl rfl rfl rfl (by omega) (by omega)) rfl rfl rfl ?_;refine go ?_;exact⟨(2,{s1 with e1:=0}),⟨by simp only;omega,by simp only;omega,by simp only;omega,ES⟩,by simp only;omega,zX⟩
   ·rw[fh,if_pos (of_decide_eq_true u)] at Y;refine go ?_;exact⟨(2,t),⟨by simp only;omega,lC,ir,Y⟩,by simp only;omega,zX⟩
  ·exact absurd h1 (by decide)
 ·refine(show a8 _ _ _ _ ⟨[(8,M 2),(7,.agg [M s.e0,M s.e1,M s.e2]),(0,.ptr 11 0)],jc l O log t,[]⟩ from ?_);have Y:(fh l O 2 s.e2).bind (λ _=>pE l O 3 ([s.e0,s.e1,s.e2].drop 3)) log t=E:=Y;refine go ?_;refine gY (λ h1=>?_) (λ h1=>?_)<;>try rw[h1]
  ·refine go ?_;refine cy (Ou aX (M s.e2) rfl rfl rfl rfl rfl rfl (by omega) (by omega) rfl) rfl rfl rfl ?_;refine go ?_;generalize u:decide (s.e2=0)=cc;cases cc
   ·rw[fh,if_neg (of_decide_eq_false u)] at Y;refine go ?_;refine dW 11 [] ?_;refine gQ (xx l hL O 2 (by omega)) ?_;refine xX (ta l O log t (fU l O 2) 0 ir Z) ?_ ?_
    ·rintro v bs ⟨a,ah,h,rfl,rfl⟩;refine gP ?_;exact fP _ ⟨a,ah,by rw[<-Y];exact eA (eA h),rfl,rfl⟩
    rintro d bs ⟨aH,s1,fE,ub,nF,rfl,rfl⟩;have ES:pE l O 3 ([s.e0,s.e1,s.e2].drop 3) log {s1 with e2:=0}=E:=by rw[<-Y];exact(bl (f:=λ _=>pE l O 3 ([s.e0,s.e1,s.e2].drop 3)) (bl (f:=λ _=>xz 2) fE)).symm
    refine go ?_;refine cy (lD aX rfl rfl rfl rfl rfl (by omega) (by omega)) rfl rfl rfl ?_;refine go ?_;exact⟨(3,{s1 with e2:=0}),⟨by simp only;omega,by simp only;omega,by simp only;omega,ES⟩,by simp only;omega,zX⟩
   ·rw[fh,if_pos (of_decide_eq_true u)] at Y;refine go ?_;exact⟨(3,t),⟨by simp only;omega,lC,ir,Y⟩,by simp only;omega,zX⟩
  ·exact absurd h1 (by decide)
 ·refine(show a8 _ _ _ _ ⟨[(8,M 3),(7,.agg [M s.e0,M s.e1,M s.e2]),(0,.ptr 11 0)],jc l O log t,[]⟩ from ?_);refine go ?_;refine gY (λ h1=>?_) (λ h1=>?_)<;>try rw[h1]
  ·exact absurd h1 (by decide)
  ·refine go ?_;exact fX _ ⟨(),t,Y.symm,lC,ir,rfl,rfl⟩
theorem Ev(g:List (Int×Int))(hg:g.length<=100000):v6 prog 71 [im g] 87 2 g.length (jo g):=by
 have cx:(jo g).length=g.length*2:=by
  clear hg;induction g with
  |nil=>rfl
  |cons x g ih=>unfold jo at ih⊢;rw[List.flatMap_cons,List.length_append,ih];simp[DC];omega
 refine MD func71 rfl ntmps71 rfl rfl rfl λ w cl=>?_
 refine go ?_;refine Re aX rfl rfl rfl rfl rfl rfl rfl λ c F=>?_
 cases c with
 |true=>have:g=[]:=List.eq_nil_of_length_eq_zero (F rfl);subst this;refine go ?_;exact acB rfl
 |false=>refine go ?_;refine qo (xF 5 0 87 2 rfl rfl rfl) ?_;refine go ?_;refine pA cx ?_;rw[Nat.zero_add,List.nil_append];refine go ?_;exact Mt rfl rfl
theorem abc(r f g0 g1:Int):bH prog 128 [M r,.el [pI f],.el [pI g0,pI g1]] (dB (ja f g1 r)):=by
 refine sP func128 ntmps128 λ w cl=>?_
 refine go ?_;generalize h1:decide (f<=r)=cc;cases cc
 ·refine gf ?_;rw[ja,h1];rfl
 ·refine go ?_;refine cy (af4 aX rfl rfl rfl rfl rfl (by omega) (by omega) rfl) rfl rfl rfl ?_;refine gf ?_;rw[ja,h1];rfl
def wt(p:Int->Bool):List Int->Nat->Int
 |[],_=>-1
 |r::l,i=>if p r then i else wt p l (i+1)
theorem S3(p:Int->Bool):∀(l:List Int)(i:Nat),decide (0<=wt p l i)=l.any p
 |[],i=>by simp[wt]
 |r::l,i=>by
  rw[wt,List.any_cons];cases h:p r
  ·simpa using S3 p l (i+1)
  ·simp
abbrev LS(f g0 g1:Int):I:=.fn (.func 128) [] [.el [pI f],.el [pI g0,pI g1]]
set_option maxHeartbeats 4000000 in
theorem afX(held:List Int)(hh:held.length<=1000000)(f g0 g1:Int):bH prog 129 [ci held,LS f g0 g1] (M (wt (ja f g1) held 0)):=by
 generalize Y:wt (ja f g1) held 0=E;refine sP func129 ntmps129 λ w cl=>?_
 refine go ?_;refine d7 (λ i:Nat=>i<=held.length/\wt (ja f g1) (held.drop i) i=E) (λ i=>⟨[(8,M i),(7,M held.length),(6,ci held),(0,ci held),(1,LS f g0 g1)],[],[]⟩) (λ i=>held.length-i) 0 ⟨Nat.zero_le _,Y⟩ (zX) ?_;rintro i ⟨hi,Y⟩;refine go ?_;refine gY (λ h1=>?_) (λ h1=>?_)<;>try rw[h1]
 ·have bB:=of_decide_eq_true h1;have dY:i<held.length:=by omega
  obtain⟨x,hx⟩:=sy (l:=held) (i:=i) (by omega) bB;have K:held.drop i=x::held.drop (i+1):=by rw[List.drop_eq_getElem_cons dY];simp only[Int.toNat_natCast] at hx;rw[(List.getElem?_eq_some_iff.1 hx).2]
  rw[K,wt] at Y;refine go ?_;refine ai [pI x] (jy hx) ?_;refine go ?_;refine cy (RN (abc x f g0 g1) rfl (λ a w=>call128 a w) rfl rfl) rfl rfl rfl ?_;refine go ?_;generalize u:ja f g1 x=cc;cases cc
  ·rw[u,if_neg (by decide)] at Y;refine go ?_;exact⟨i+1,⟨by omega,Y⟩,by omega,zX⟩
  ·rw[u,if_pos rfl] at Y;refine gf ?_;rw[Y]
 ·have dY:held.length<=i:=by have:=of_decide_eq_false h1;omega
  rw[List.drop_of_length_le dY,wt] at Y;refine gf ?_;rw[<-Y]
theorem abl(held:List Int)(hh:held.length<=1000000)(f g0 g1:Int):bH prog 127 [ci held,LS f g0 g1] (dB (held.any (ja f g1))):=by
 refine sP func127 ntmps127 λ w cl=>?_
 refine gA (afX held hh f g0 g1) ?_;refine hp ?_;rw[<-S3 _ held 0]
theorem WR:∀g:List (Int×Int),(jo g).length=g.length*2
 |[]=>rfl
 |x::g=>by
  have ih:=WR g;unfold jo at ih⊢;rw[List.flatMap_cons,List.length_append,ih];simp[DC];omega
theorem WQ(g:List (Int×Int))(x:Int×Int):jo (g++[x])=jo g++[pI x.1,pI x.2]:=by simp[jo,DC]
theorem Il{l:List (Int×Int)}{i:Int}{r:Int×Int}(h:l[i.toNat]?=some r):∀(m:Nat) q,[pI r.1,pI r.2][m]?=some q->(jo l)[i.toNat*2+m]?=some q:=My (f:=DC) (λ _=>rfl) h
theorem DB(a:List Int)(x:Int):bW a++[pI x]=bW (a++[x]):=by simp[bW]
def js(g:List (Int×Int)):Prop:=∀p∈g,p.1<9223372036854775808
set_option maxHeartbeats 8000000 in
theorem XR(l:aI)(hL:eT l)(O:Int)(log:List aJ)(s:ag)(n:Int)(hn:n<9223372036854775808)(mQ:js s.gone)(o7:s.gone.length<=10000)(hm:s.made<=log.length)(Z:log.length<=1000000):so 121 l O log s [.ptr 11 0,M n] (s7 l n log s) (λ _=>.ca []):=by
 have ow:=hL.ar;unfold mZ at ow;generalize Y:s7 l n log s=E;unfold s7 at Y;refine sX func121 ntmps121 λ w cl own kf=>?_
 refine go ?_;refine xP (nJ l O log s l.era hm Z) ?_;rintro d bs ⟨er,s1,fE,ub,nF,rfl,rfl⟩;rw[bl fE] at Y;have fm:=pi fE;refine go ?_;refine gW 10 [] ?_;refine vP (H2 l O log s1 ⟨4,l.era,0,1⟩ nF Z) ?_;rintro d bs ⟨alr,s2,cL,jU,ib,rfl,rfl⟩;rw[bl cL] at Y;have iU:s2.gone=s.gone:=by rw[(Cu cL).1,fm.1]
 rw[iU] at Y;have A4:s.made<=s2.made:=by omega
 clear fE cL fm ub jU nF;refine go ?_;refine ZH 0 (Ev s2.gone (by rw[iU];omega)) rfl (λ a w=>call71 a w) rfl rfl rfl rfl rfl (WR _) ?_;refine go ?_;refine mg aX rfl rfl rfl rfl rfl rfl rfl rfl rfl rfl rfl rfl rfl (by rw[iU];unfold maxLen;omega) (by show(_+_)*16<=_;rw[iU];omega) ?_;refine qv ?_;refine yT ?_;refine iP (vE 11 (aZ:=GV l O {s2 with gone:=s.gone++[(n,er)]}) rfl (by
  show List.map oG _=_;have e:GW (s.gone++[(n,er)])=.sl false (s.gone.length+1) (jo s.gone++[pI n,pI er]):=by rw[GW,WQ,List.length_append];rfl
  simp only[List.map,oG,Gs,iU,GV,im];rw[e])) ?_
 generalize T5:s.gone++[(n,er)]=gN at Y;have alW:gN.length=s.gone.length+1:=by rw[<-T5];simp
 have aek:js gN:=by
  intro p G;rw[<-T5] at G;rcases List.mem_append.1 G with G|G
  ·exact mQ p G
  ·simp at G;rw[G];exact hn
 have ew:IntKind.i64.wrap (2*l.ar)=2*l.ar:=ln (by omega) (by omega);refine iP (bQ:=⟨[(0,.ptr 11 0)],jc l O log {s2 with gone:=gN},[]⟩) (zX) ?_;generalize my:({s2 with gone:=gN}:ag)=s3 at Y⊢;have jV:s3.made<=log.length:=by rw[<-my];exact ib
 have lX:s.made<=s3.made:=by rw[<-my];exact A4
 have wJ:s3.gone=gN:=by rw[<-my]
 refine go ?_;refine gD [] ?_;rw[ew];refine qg ?_;rw[wJ];generalize h1:decide ((gN.length:Int)<2*l.ar)=cc;cases cc
 ·have bB:=of_decide_eq_false h1;rw[if_neg (by omega),yU] at Y;refine go ?_;refine iP (xF 5 0 3 1 rfl rfl rfl) ?_;refine d7 (λ p:Nat×List Int×Nat×ag=>p.1+p.2.2.1=l.ar.toNat/\p.2.1.length=3*p.1/\s.made<=p.2.2.2.made/\p.2.2.2.made<=log.length/\p.2.2.2.gone=gN/\(qM p.2.1 (sa l p.1 p.2.2.1)).bind (λ held=>(kQ l held gN []).bind λ stay=>sb stay) log p.2.2.2=E) (λ p=>⟨[(62,M p.1),(61,M l.ar),(5,.bP 0 p.2.1.length (bW p.2.1)),(0,.ptr 11 0)],jc l O log p.2.2.2,[(0,⟨3,1,p.2.1.length⟩)]⟩) (λ p=>p.2.2.1) (0,[],l.ar.toNat,s3) ⟨by simp,rfl,lX,jV,wJ,Y⟩ (zX) ?_;rintro⟨j,acc,m,t⟩ ⟨hj,iS,lC,ir,wY,Y⟩;simp only at hj iS lC ir wY Y;refine(show a8 _ _ _ _ ⟨[(62,M j),(61,M l.ar),(5,.bP 0 acc.length (bW acc)),(0,.ptr 11 0)],jc l O log t,[(0,⟨3,1,acc.length⟩)]⟩ from ?_);refine go ?_;refine gY (λ u=>?_) (λ u=>?_)<;>try rw[u]
  ·have cj:=of_decide_eq_true u;obtain⟨m,rfl⟩:∃k,m=k+1:=⟨m-1,by omega⟩;rw[sa] at Y;refine go ?_;refine d7 (λ q:Nat×List Int×ag=>q.1<=3/\q.2.1.length=3*j+q.1/\s.made<=q.2.2.made/\q.2.2.made<=log.length/\q.2.2.gone=gN/\(qM q.2.1 (([fU l j 0,fU l j 1,fU l j 2].drop q.1)++sa l (j+1) m)).bind (λ held=>(kQ l held gN []).bind λ stay=>sb stay) log q.2.2=E) (λ q=>⟨[(65,M q.1),(62,M j),(61,M l.ar),(6,M j),(5,.bP 0 q.2.1.length (bW q.2.1)),(0,.ptr 11 0)],jc l O log q.2.2,[(0,⟨3,1,q.2.1.length⟩)]⟩) (λ q=>3-q.1) (0,acc,t) ⟨by simp only;omega,by simp only;omega,lC,ir,wY,Y⟩ (zX) ?_;rintro⟨i,ac,t⟩ ⟨hi,adJ,lC,ir,wY,Y⟩;simp only at hi adJ lC ir wY Y;rcases(show i=0\/i=1\/i=2\/i=3 by omega) with rfl|rfl|rfl|rfl
   ·refine(show a8 _ _ _ _ ⟨[(65,M 0),(62,M j),(61,M l.ar),(6,M j),(5,.bP 0 ac.length (bW ac)),(0,.ptr 11 0)],jc l O log t,[(0,⟨3,1,ac.length⟩)]⟩ from ?_);have Y:((gR (fU l j 0)).bind λ v=>qM (ac++[v]) (([fU l j 0,fU l j 1,fU l j 2].drop 1)++sa l (j+1) m)).bind (λ held=>(kQ l held gN []).bind λ stay=>sb stay) log t=E:=Y;rw[bind_assoc] at Y;refine go ?_;refine gY (λ J=>?_) (λ J=>?_)<;>try rw[J]
    ·refine gA (xx l hL j 0 (by omega)) ?_;refine xP (nJ l O log t (fU l j 0) ir Z) ?_;rintro d bs ⟨v,s4,i9,uc,pa,rfl,rfl⟩;rw[bl i9] at Y;have Fu:s4.gone=gN:=by rw[(pi i9).1];exact wY
     refine go ?_;refine pA rfl ?_;rw[DB,show ac.length+1=(ac++[v]).length by simp];refine go ?_;exact⟨(1,ac++[v],s4),⟨by simp only;omega,by simp only[List.length_append,List.length_cons,List.length_nil];omega,by simp only;omega,pa,Fu,Y⟩,by simp only;omega,zX⟩
    ·exact absurd J (by decide)
   ·refine(show a8 _ _ _ _ ⟨[(65,M 1),(62,M j),(61,M l.ar),(6,M j),(5,.bP 0 ac.length (bW ac)),(0,.ptr 11 0)],jc l O log t,[(0,⟨3,1,ac.length⟩)]⟩ from ?_);have Y:((gR (fU l j 1)).bind λ v=>qM (ac++[v]) (([fU l j 0,fU l j 1,fU l j 2].drop 2)++sa l (j+1) m)).bind (λ held=>(kQ l held gN []).bind λ stay=>sb stay) log t=E:=Y;rw[bind_assoc] at Y;refine go ?_;refine gY (λ J=>?_) (λ J=>?_)<;>try rw[J]
    ·refine gA (xx l hL j 1 (by omega)) ?_;refine xP (nJ l O log t (fU l j 1) ir Z) ?_;rintro d bs ⟨v,s4,i9,uc,pa,rfl,rfl⟩;rw[bl i9] at Y;have Fu:s4.gone=gN:=by rw[(pi i9).1];exact wY
     refine go ?_;refine pA rfl ?_;rw[DB,show ac.length+1=(ac++[v]).length by simp];refine go ?_;exact⟨(2,ac++[v],s4),⟨by simp only;omega,by simp only[List.length_append,List.length_cons,List.length_nil];omega,by simp only;omega,pa,Fu,Y⟩,by simp only;omega,zX⟩
    ·exact absurd J (by decide)
   ·refine(show a8 _ _ _ _ ⟨[(65,M 2),(62,M j),(61,M l.ar),(6,M j),(5,.bP 0 ac.length (bW ac)),(0,.ptr 11 0)],jc l O log t,[(0,⟨3,1,ac.length⟩)]⟩ from ?_);have Y:((gR (fU l j 2)).bind λ v=>qM (ac++[v]) (([fU l j 0,fU l j 1,fU l j 2].drop 3)++sa l (j+1) m)).bind (λ held=>(kQ l held gN []).bind λ stay=>sb stay) log t=E:=Y;rw[bind_assoc] at Y;refine go ?_;refine gY (λ J=>?_) (λ J=>?_)<;>try rw[J]
    ·refine gA (xx l hL j 2 (by omega)) ?_;refine xP (nJ l O log t (fU l j 2) ir Z) ?_;rintro d bs ⟨v,s4,i9,uc,pa,rfl,rfl⟩;rw[bl i9] at Y;have Fu:s4.gone=gN:=by rw[(pi i9).1];exact wY
     refine go ?_;refine pA rfl ?_;rw[DB,show ac.length+1=(ac++[v]).length by simp];refine go ?_;exact⟨(3,ac++[v],s4),⟨by simp only;omega,by simp only[List.length_append,List.length_cons,List.length_nil];omega,by simp only;omega,pa,Fu,Y⟩,by simp only;omega,zX⟩
    ·exact absurd J (by decide)
   ·refine(show a8 _ _ _ _ ⟨[(65,M 3),(62,M j),(61,M l.ar),(6,M j),(5,.bP 0 ac.length (bW ac)),(0,.ptr 11 0)],jc l O log t,[(0,⟨3,1,ac.length⟩)]⟩ from ?_);refine go ?_;refine gY (λ J=>?_) (λ J=>?_)<;>try rw[J]
    ·exact absurd J (by decide)
    ·refine go ?_;exact⟨(j+1,ac,m,t),⟨by simp only;omega,by simp only;omega,lC,ir,wY,Y⟩,by simp only;omega,zX⟩
  ·have cj:=of_decide_eq_false u;obtain rfl:m=0:=by omega
   have Y:((kQ l acc gN []).bind λ stay=>sb stay) log t=E:=Y;subst wY;refine iP (VX 5 (eo:=ci acc) rfl rfl) ?_;refine go ?_;refine iP (xF 8 1 87 2 rfl rfl rfl) ?_;refine d7 (λ q:Nat×List (Int×Int)×ag=>q.1<=t.gone.length/\q.2.1.length<=q.1/\s.made<=q.2.2.made/\q.2.2.made<=log.length/\((kQ l acc (t.gone.drop q.1) q.2.1).bind λ stay=>sb stay) log q.2.2=E) (λ q=>⟨[(87,M q.1),(86,M t.gone.length),(85,im t.gone),(8,.bP 1 q.2.1.length (jo q.2.1)),(5,ci acc),(0,.ptr 11 0)],jc l O log q.2.2,[(1,⟨87,2,q.2.1.length⟩)]⟩) (λ q=>t.gone.length-q.1) (0,[],t) ⟨Nat.zero_le _,Nat.le_refl _,lC,ir,Y⟩ (zX) ?_;rintro⟨i,stay,aH⟩ ⟨hi,kI,Jb,sR,Y⟩;simp only at hi kI Jb sR Y;refine(show a8 _ _ _ _ ⟨[(87,M i),(86,M t.gone.length),(85,im t.gone),(8,.bP 1 stay.length (jo stay)),(5,ci acc),(0,.ptr 11 0)],jc l O log aH,[(1,⟨87,2,stay.length⟩)]⟩ from ?_);refine go ?_;refine gY (λ J=>?_) (λ J=>?_)<;>try rw[J]
   ·have jh:=of_decide_eq_true J;have dY:i<t.gone.length:=by omega
    obtain⟨gg,CW⟩:=sy (l:=t.gone) (i:=i) (by omega) jh;have Ul:=aek gg (List.mem_of_getElem? CW);have K:t.gone.drop i=gg::t.gone.drop (i+1):=by rw[List.drop_eq_getElem_cons dY];simp only[Int.toNat_natCast] at CW;rw[(List.getElem?_eq_some_iff.1 CW).2]
    rw[K,kQ,bind_assoc] at Y;refine go ?_;refine ai [pI gg.1,pI gg.2] (Il CW) ?_;refine go ?_;refine cy (lD aX rfl rfl rfl rfl rfl (by omega) (by omega)) rfl rfl rfl ?_;refine go ?_;refine lA (r8 l hL O aH gg.1 6 Ul (by omega)) ?_;refine go ?_;refine xP (nJ l O log aH (bf l gg.1 6) sR Z) ?_;rintro d bs ⟨bi,s5,mV,yp,rI,rfl,rfl⟩;rw[bl mV] at Y;refine go ?_;refine cy (ag3 rfl rfl rfl) rfl rfl rfl ?_;refine(show bw _ _ _ _ _ ⟨(97,M (kM bi))::_,_,_⟩ from ?_);refine go ?_;refine lA (abl acc (by omega) (kM bi) gg.1 gg.2) ?_;refine go ?_;generalize h4:acc.any (ja (kM bi) gg.2)=cc;cases cc
    ·rw[h4,if_neg (by decide),bind_assoc] at Y;refine go ?_;refine cy (lD aX rfl rfl rfl rfl rfl (by omega) (by omega)) rfl rfl rfl ?_;refine go ?_;refine xP (Tp l hL O log s5 gg.1 Ul rI Z) ?_;rintro d bs ⟨amO,s6,wU,N0,FC,rfl,rfl⟩;rw[bl wU] at Y;refine go ?_;exact⟨(i+1,stay,s6),⟨by simp only;omega,by simp only;omega,by simp only;omega,FC,Y⟩,by simp only;omega,zX⟩
    ·rw[h4,if_pos rfl] at Y;refine go ?_;refine pA rfl ?_;rw[<-WQ stay gg,show stay.length+1=(stay++[gg]).length by simp];refine go ?_;exact⟨(i+1,stay++[gg],s5),⟨by simp only;omega,by simp only[List.length_append,List.length_cons,List.length_nil];omega,by simp only;omega,rI,Y⟩,by simp only;omega,zX⟩
   ·have jh:=of_decide_eq_false J;rw[List.drop_of_length_le (by omega),kQ] at Y;have Y:(Except.ok ((),{aH with gone:=stay}):Except bz (Unit×ag))=E:=Y;refine iP (VX 8 (eo:=im stay) rfl rfl) ?_;refine go ?_;exact fX _ ⟨(),{aH with gone:=stay},Y.symm,Jb,sR,rfl,rfl⟩
 ·have bB:=of_decide_eq_true h1;rw[if_pos (by omega)] at Y;refine go ?_;exact fX _ ⟨(),s3,Y.symm,lX,jV,rfl,rfl⟩
abbrev pG(o:bd):I:=.agg [M o.val,dB o.is,M o.err,M o.aD,im o.gone]
abbrev Ez(o:bd):I:=.agg [M o.val,dB o.is,M o.err,M o.aD,.p (.sl true 0 [])]
abbrev uz(o:a9):List I:=[M o.kind,M o.obj,M o.a,M o.b]
abbrev Sb(o:a9):I:=.agg (uz o)
theorem YN{l:aI}:∀{k:Nat}{log:List aJ}{s ah:ag}{p:Int×Int×Bool},uJ l k log s=.ok (p,ah)->p.1<65536/\ah.gone=s.gone
 |0,log,s,ah,p,h=>by cases h;exact⟨by simp,rfl⟩
 |k+1,log,s,ah,p,h=>by
  rw[uJ] at h;cases h1:gR l.free log s with
  |error a=>rw[eA h1] at h;cases h
  |ok q=>
   obtain⟨fr,s1⟩:=q;rw[bl h1] at h;have g1:s1.gone=s.gone:=by rw[(pi h1).1]
   split at h
   ·rw[bl jI] at h;cases h;exact⟨by simp,g1⟩
   ·cases u:gR (bf l (av fr).idx 7) log s1 with
    |error a=>rw[eA u] at h;cases h
    |ok q=>
     obtain⟨lk,s2⟩:=q;rw[bl u] at h;have g2:s2.gone=s.gone:=by rw[(pi u).1];exact g1
     cases J:oS l.free fr (eh (ii (av fr) lk)) log s2 with
     |error a=>rw[eA J] at h;cases h
     |ok q=>
      obtain⟨ok,s3⟩:=q;rw[bl J] at h;have g3:s3.gone=s.gone:=by rw[(uY J).1];exact g2
      split at h
      ·rw[bl jI] at h;cases h4:gR l.era log s3 with
       |error a=>rw[eA h4] at h;cases h
       |ok q=>
        obtain⟨bi,s4⟩:=q;rw[bl h4] at h;have g4:s4.gone=s.gone:=by rw[(pi h4).1];exact g3
        cases h5:kj (bf l (av fr).idx 6) bi log s4 with
        |error a=>rw[eA h5] at h;cases h
        |ok q=>obtain⟨aH,s5⟩:=q;rw[bl h5] at h;cases h;exact⟨(jb fr).2,by rw[(xE h5).1];exact g4⟩
      ·obtain⟨a,b⟩:=YN h;exact⟨a,b.trans g3⟩
theorem aiP(x:ag)(i v:Int):(x.ej i v).gone=x.gone:=by
 unfold ag.ej;split
 ·rfl
 ·split<;>rfl
theorem MV{l:aI}{O i cell:Int}:∀{k:Nat}{log:List aJ}{s ah:ag}{p:Int×Int},oV l O i cell k log s=.ok (p,ah)->ah.gone=s.gone
 |0,log,s,ah,p,h=>by cases h;rfl
 |k+1,log,s,ah,p,h=>by
  rw[oV] at h;cases h1:gR cell log s with
  |error a=>rw[eA h1] at h;cases h
  |ok q=>
   obtain⟨v,s1⟩:=q;rw[bl h1,bl jI] at h;have g1:s1.gone=s.gone:=by rw[(pi h1).1]
   cases u:gR l.era log s1 with
   |error a=>rw[eA u] at h;cases h
   |ok q=>
    obtain⟨er,s2⟩:=q;rw[bl u] at h;have g2:s2.gone=s.gone:=by rw[(pi u).1];exact g1
    split at h
    ·cases h;exact g2
    ·cases J:kj (fU l O i) er log s2 with
     |error a=>rw[eA J] at h;cases h
     |ok q=>
      obtain⟨aH,s3⟩:=q;rw[bl J] at h;have g3:s3.gone=s.gone:=by rw[(xE J).1];exact g2
      exact((MV h).trans (aiP _ _ _)).trans g3
theorem abe{l:aI}{O:Int}{i:Nat}{e:Int}{log:List aJ}{s ah:ag}{aH:Unit}(h:fh l O i e log s=.ok (aH,ah)):ah.gone=s.gone:=by
 unfold fh at h;split at h
 ·cases h;rfl
 ·cases J:kj (fU l O i) 0 log s with
  |error a=>rw[eA J] at h;cases h
  |ok q=>
   obtain⟨aH,s3⟩:=q;rw[bl J] at h;have g3:s3.gone=s.gone:=by rw[(xE J).1]
   unfold xz at h;cases h;split<;>exact g3
theorem su{l:aI}{O:Int}:∀{es:List Int}{i:Nat}{log:List aJ}{s ah:ag}{aH:Unit},pE l O i es log s=.ok (aH,ah)->ah.gone=s.gone
 |[],i,log,s,ah,aH,h=>by cases h;rfl
 |e::es,i,log,s,ah,aH,h=>by
  rw[pE] at h;cases h1:fh l O i e log s with
  |error a=>rw[eA h1] at h;cases h
  |ok q=>obtain⟨aH,s1⟩:=q;rw[bl h1] at h;exact(su h).trans (abe h1)
theorem Qf{l:aI}{held:List Int}:∀{gs stay:List (Int×Int)}{log:List aJ}{s ah:ag}{r:List (Int×Int)},kQ l held gs stay log s=.ok (r,ah)->r.length<=gs.length+stay.length
 |[],stay,log,s,ah,r,h=>by cases h;simp
 |g::gs,stay,log,s,ah,r,h=>by
  rw[kQ] at h;cases h1:gR (bf l g.1 6) log s with
  |error a=>rw[eA h1] at h;cases h
  |ok q=>
   obtain⟨b,s1⟩:=q;rw[bl h1] at h;split at h
   ·have:=Qf h;simp at this⊢;omega
   ·cases u:Ay l g.1 log s1 with
    |error a=>rw[eA u] at h;cases h
    |ok q=>obtain⟨aH,s2⟩:=q;rw[bl u] at h;have:=Qf h;simp at this⊢;omega
theorem XP{l:aI}{n:Int}{log:List aJ}{s ah:ag}{aH:Unit}(h:s7 l n log s=.ok (aH,ah)):ah.gone.length<=s.gone.length+1:=by
 unfold s7 at h;cases h1:gR l.era log s with
 |error a=>rw[eA h1] at h;cases h
 |ok q=>
  obtain⟨er,s1⟩:=q;rw[bl h1] at h;have g1:s1.gone=s.gone:=by rw[(pi h1).1]
  cases u:h2 ⟨4,l.era,0,1⟩ log s1 with
  |error a=>rw[eA u] at h;cases h
  |ok q=>
   obtain⟨r,s2⟩:=q;rw[bl u] at h;have g2:s2.gone=s.gone:=by rw[(Cu u).1];exact g1
   split at h
   ·cases h;simp[g2]
   ·unfold yU at h;cases J:qM [] (sa l 0 l.ar.toNat) log {s2 with gone:=s2.gone++[(n,er)]} with
    |error a=>rw[eA J] at h;cases h
    |ok q=>
     obtain⟨held,s3⟩:=q;rw[bl J] at h;cases h4:kQ l held (s2.gone++[(n,er)]) [] log s3 with
     |error a=>rw[eA h4] at h;cases h
     |ok q=>obtain⟨stay,s4⟩:=q;rw[bl h4] at h;unfold sb at h;cases h;have:=Qf h4;simp[g2] at this⊢;omega
theorem PU(g:List (Int×Int))(hg:g.length<=100000):bH prog 91 [im g] (.ca [kx iB,pG ⟨0,false,1,-1,g⟩,dB true]):=by
 refine sP func91 ntmps91 λ w cl=>?_
 refine gA ((Ev g hg).pure) ?_;refine hp ?_
 rfl
theorem aaK(l:aI)(O:Int)(g:List (Int×Int))(log:List aJ):gt prog 92 [] [iZ l,M O,im g,nZ log] [] (λ d bs=>d=.ptr 11 0/\bs=jc l O log ⟨0,g,0,0,0⟩):=by
 refine sI func92 ntmps92 λ w cl own kf=>?_
 refine mK ?_;refine bA 0 ?_;refine bA 13 ?_;refine zq aX rfl rfl rfl rfl ?_;refine oR ?_;refine mK ?_;refine zq aX rfl rfl rfl rfl ?_;refine zq aX rfl rfl rfl rfl ?_;refine zq aX rfl rfl rfl rfl ?_;refine cy (HQ aX rfl rfl rfl) rfl rfl rfl ?_;refine bA 11 ?_;refine nA 12 ?_;refine go ?_;refine j9 (jc l O log ⟨0,g,0,0,0⟩) rfl rfl (by(repeat(first|exact trivial|refine⟨⟨rfl,rfl⟩,?_⟩))) trivial ?_;exact⟨rfl,rfl⟩
abbrev qQ(a:bz)(od:List I)(dn:Bool):cn:=[(22,[M a.kind,M a.cell,M a.dL,M a.new]),(21,[.any]),(23,od),(24,[dB dn])]
abbrev yP(o:bd):List I:=[M o.val,dB o.is,M o.err,M o.aD,im o.gone]
theorem aiD{e:aE}{vs:List Value}(a:bz)(o:bd)(dn:Bool)(hI:iW (qQ a (yP o) dn) e)(hv:DReps e vs [.ptr 22 0,.ptr 21 0,.ptr 23 0,.ptr 24 0]):
 CallsD prog 109 vs.toArray .returning e.w λ r u2 aA=>∃ae ay,r=.returned (.tuple #[])/\u2=.returning/\ae.w=aA/\iW ay ae/\Left [21,22,23,24] e ae/\ay=qQ a (yP o) dn:=by
 refine Kf (aq:=tb) func109 rfl ntmps109 rfl rfl rfl (by(repeat(first|exact trivial|refine⟨rfl,?_⟩))) (λ _ _=>rfl) (λ _=>rfl) rfl rfl .no (λ w cl own kf=>?_) hI hv;refine go ?_;refine cy (Vh underlying20 rfl rfl) rfl rfl rfl ?_;refine go ?_;refine pH (qQ a (yP o) dn) rfl rfl (by(repeat(first|exact trivial|refine⟨⟨rfl,rfl⟩,?_⟩))) (by(repeat(first|exact trivial|refine⟨rfl,?_⟩))) rfl
theorem aiE{e:aE}{vs:List Value}(a bF:bz)(od:List I)(ho:od=[M 0,dB false,M 0,M 0,.p (.sl true 0 [])])(dn:Bool)(hI:iW (qQ a od dn) e)(hv:DReps e vs [.ptr 22 0,.ptr 21 0,.ptr 23 0,.ptr 24 0]):
 CallsD prog 109 vs.toArray (.panicking [pe (v9 bF)]) e.w λ r u2 aA=>∃ae ay,r=.returned (.tuple #[])/\u2=.panicking [{v:=v9 bF,recovered:=true}]/\ae.w=aA/\iW ay ae/\Left [21,22,23,24] e ae/\ay=qQ bF od dn:=by
 subst ho;refine Kf (aq:=tb) func109 rfl ntmps109 rfl rfl rfl (by(repeat(first|exact trivial|refine⟨rfl,?_⟩))) (λ _ _=>rfl) (λ _=>rfl) rfl rfl (.yes (v9 bF)) (λ w cl own kf=>?_) hI hv;refine go ?_;refine cy (Vi underlying20 rfl rfl) rfl rfl rfl ?_;refine go ?_;refine cy (Rx aX rfl rfl rfl rfl) rfl rfl rfl ?_;refine go ?_;refine pH (qQ bF _ dn) rfl rfl (by(repeat(first|exact trivial|refine⟨⟨rfl,rfl⟩,?_⟩))) (by(repeat(first|exact trivial|refine⟨rfl,?_⟩))) rfl
set_option maxHeartbeats 4000000 in
theorem ahc(a:bz):bH prog 106 [kx a] (dB (xy a)):=by
 generalize Y:xy a=E;unfold xy at Y;refine sP func106 ntmps106 λ w cl=>?_
 refine go ?_;generalize h0:decide (a.cell<0)=cc;cases cc
 ·rw[decide_eq_true (show 0<=a.cell by have:=of_decide_eq_false h0;omega),Bool.true_and] at Y;refine go ?_;generalize h1:decide (a.kind=1)=cc;cases cc
  ·have bB:=of_decide_eq_false h1;rw[if_neg bB] at Y;refine go ?_;generalize u:decide (a.kind=2)=cc;cases cc
   ·have cj:=of_decide_eq_false u;refine go ?_;generalize h4:decide (a.kind=4)=cc;cases cc
    ·have sA:=of_decide_eq_false h4;refine go ?_;generalize h5:decide (a.kind=5)=cc;cases cc
     ·have CD:=of_decide_eq_false h5;rw[if_neg (by omega)] at Y;refine go ?_;generalize J:decide (a.kind=3)=cc;cases cc
      ·rw[J] at Y;refine gf ?_;rw[<-Y]
      ·rw[J] at Y;refine gf ?_;rw[<-Y]
     ·rw[if_pos (by have:=of_decide_eq_true h5;omega)] at Y;refine gf ?_;rw[<-Y]
    ·rw[if_pos (by have:=of_decide_eq_true h4;omega)] at Y;refine gf ?_;rw[<-Y]
   ·rw[if_pos (by have:=of_decide_eq_true u;omega)] at Y;refine gf ?_;rw[<-Y]
  ·rw[if_pos (of_decide_eq_true h1)] at Y;refine go ?_;generalize u:decide (a.new=0)=cc;cases cc
   ·rw[u] at Y;refine gf ?_;rw[<-Y];rfl
   ·rw[u] at Y;refine gf ?_;rw[<-Y];rfl
 ·rw[decide_eq_false (show¬0<=a.cell by have:=of_decide_eq_true h0;omega)] at Y;refine gf ?_;rw[<-Y];rfl
theorem acy(n:Int)(a:bz):bH prog 86 [M n,kx a] (M (nl n a)):=by
 generalize Y:nl n a=E;unfold nl at Y;refine sP func86 ntmps86 λ w cl=>?_
 refine gA (ahc a) ?_;generalize h1:xy a=cc;cases cc
 ·rw[h1,if_neg (by decide)] at Y;refine gf ?_;rw[<-Y]
 ·rw[h1,if_pos rfl] at Y;refine go ?_;generalize u:decide (n<=a.cell)=cc;cases cc
  ·rw[if_neg (of_decide_eq_false u)] at Y;refine gf ?_;rw[<-Y]
  ·rw[if_pos (of_decide_eq_true u)] at Y;refine gf ?_;rw[<-Y]
theorem wrap64(x:Int):IntKind.i64.wrap x=te x:=by show(if(true&&decide (x%18446744073709551616>=9223372036854775808))=true then x%18446744073709551616-18446744073709551616 else x%18446744073709551616)=te x;unfold te;simp only[Bool.true_and,decide_eq_true_eq];split<;>split<;>omega
theorem ain{xs:List Int}{cs:List I}(h:cs.take xs.length=(bW xs).map I.p){x:Nat}(hx:x<xs.length):cs[x]?=some (M (eY xs x)):=by
 have u:xs[x]?=some (eY xs x):=by simp[eY,hx]
 have h1:(cs.take xs.length)[x]?=some (M (eY xs x)):=by rw[h,List.getElem?_map,WS u];rfl
 rw[List.getElem?_take,if_pos hx] at h1;exact h1
theorem Pn{xs:List Int}{cs:List I}(h:cs.take xs.length=(bW xs).map I.p)(x:Nat)(v:Int):(cs.set x (M v)).take xs.length=(bW (xs.set x v)).map I.p:=by rw[List.take_set,h];unfold bW;simp[List.map_set]
theorem Pz{cs:List I}(h:gu cs){i:Nat}{n:Int}:gu (cs.set i (M n)):=by
 intro B aa;have h1:=h B aa;clear h;induction cs generalizing i with
 |nil=>rfl
 |cons d cs ih=>
  simp only[I.ok.fy,Bool.and_eq_true] at h1;cases i with
  |zero=>simp only[List.set_cons_zero,I.ok.fy,Bool.and_eq_true];exact⟨rfl,h1.2⟩
  |succ i=>simp only[List.set_cons_succ,I.ok.fy,Bool.and_eq_true];exact⟨h1.1,ih h1.2⟩
set_option maxHeartbeats 4000000 in
theorem akt(xs:List Int)(k:Int)(x:Nat)(o nw:Int)(hx:x<xs.length)(_:xs.length<=1000000)(c:Nat)(cs:List I)(sL:cs.length=c)(F:xs.length<=c)(mW:cs.take xs.length=(bW xs).map I.p)(cV:gu cs):
 gt prog 88 [9] [.arr 9 0 xs.length c,.agg [M k,M x,M o,M nw]] [(9,cs)] (λ d bs=>d=EA (iw xs ⟨k,x,o,nw⟩).2/\∃aZ,bs=[(9,aZ)]/\aZ.length=c/\aZ.take xs.length=(bW (iw xs ⟨k,x,o,nw⟩).1).map I.p/\gu aZ):=by
 have hg:=ain mW hx;generalize hv:eY xs x=v at hg;generalize Y:iw xs ⟨k,x,o,nw⟩=E;unfold iw at Y;simp only[Int.toNat_natCast,hv,<-wrap64] at Y;have fm:=Pn mW x nw;have ic:=Pn mW x (IntKind.i64.wrap (v+nw));have qH:gu (cs.set x (M nw)):=Pz cV;have sO:gu (cs.set x (M (IntKind.i64.wrap (v+nw)))):=Pz cV;refine sI func88 ntmps88 λ w cl own kf=>?_
 refine go ?_;refine aj x 1 ?_;refine cy (lG aX rfl rfl rfl rfl rfl hg) rfl rfl rfl ?_;refine go ?_;generalize J:decide (k=3)=cc;cases cc
 ·have jh:=of_decide_eq_false J;rw[if_neg jh] at Y;refine go ?_;generalize u:decide (k=2)=cc;cases cc
  ·have cj:=of_decide_eq_false u;refine go ?_;generalize h5:decide (k=5)=cc;cases cc
   ·have CD:=of_decide_eq_false h5;rw[if_neg (by omega)] at Y;refine go ?_;generalize h4:decide (k=4)=cc;cases cc
    ·rw[if_neg (of_decide_eq_false h4)] at Y;refine go ?_;refine j9 [(9,cs)] rfl rfl ⟨⟨rfl,cV _ _⟩,trivial⟩ ⟨rfl,trivial⟩ ?_;rw[<-Y];exact⟨rfl,cs,rfl,sL,mW,cV⟩
    ·rw[if_pos (of_decide_eq_true h4)] at Y;refine go ?_;refine aj x 1 ?_;refine sq aX rfl rfl rfl rfl rfl rfl rfl rfl rfl (by rw[sL];omega) ?_;refine go ?_;refine j9 [(9,cs.set x (M (IntKind.i64.wrap (v+nw))))] rfl rfl ⟨⟨rfl,sO _ _⟩,trivial⟩ ⟨rfl,trivial⟩ ?_;rw[<-Y];exact⟨rfl,_,rfl,by rw[List.length_set];exact sL,ic,sO⟩
   ·rw[if_pos (by have:=of_decide_eq_true h5;omega)] at Y;refine go ?_;refine aj x 1 ?_;refine sq aX rfl rfl rfl rfl rfl rfl rfl rfl rfl (by rw[sL];omega) ?_;refine go ?_;refine j9 [(9,cs.set x (M nw))] rfl rfl ⟨⟨rfl,qH _ _⟩,trivial⟩ ⟨rfl,trivial⟩ ?_;rw[<-Y];exact⟨rfl,_,rfl,by rw[List.length_set];exact sL,fm,qH⟩
  ·rw[if_pos (by have:=of_decide_eq_true u;omega)] at Y;refine go ?_;refine aj x 1 ?_;refine sq aX rfl rfl rfl rfl rfl rfl rfl rfl rfl (by rw[sL];omega) ?_;refine go ?_;refine j9 [(9,cs.set x (M nw))] rfl rfl ⟨⟨rfl,qH _ _⟩,trivial⟩ ⟨rfl,trivial⟩ ?_;rw[<-Y];exact⟨rfl,_,rfl,by rw[List.length_set];exact sL,fm,qH⟩
 ·rw[if_pos (of_decide_eq_true J)] at Y;refine go ?_;generalize h4:decide (v=o)=cc;cases cc
  ·rw[if_neg (of_decide_eq_false h4)] at Y;refine go ?_;refine j9 [(9,cs)] rfl rfl ⟨⟨rfl,cV _ _⟩,trivial⟩ ⟨rfl,trivial⟩ ?_;rw[<-Y];exact⟨rfl,cs,rfl,sL,mW,cV⟩
  ·rw[if_pos (of_decide_eq_true h4)] at Y;refine go ?_;refine aj x 1 ?_;refine sq aX rfl rfl rfl rfl rfl rfl rfl rfl rfl (by rw[sL];omega) ?_;refine go ?_;refine j9 [(9,cs.set x (M nw))] rfl rfl ⟨⟨rfl,qH _ _⟩,trivial⟩ ⟨rfl,trivial⟩ ?_;rw[<-Y];exact⟨rfl,_,rfl,by rw[List.length_set];exact sL,fm,qH⟩
def Zw(ls:List Int)(d:I)(bs:List (Nat×List I)):Prop:=∃c cs,d=.arr 9 0 ls.length c/\bs=[(9,cs)]/\cs.length=c/\ls.length<=c/\c<=maxLen/\cs.take ls.length=(bW ls).map I.p/\gu cs
theorem abd(ls:List Int)(h0:0<ls.length)(Z:ls.length<=1000000):gt prog 87 [] [ci ls] [] (Zw ls):=by
 refine sI func87 ntmps87 λ w cl own kf=>?_
 refine go ?_;refine Re aX rfl rfl rfl rfl rfl rfl rfl λ c F=>?_
 cases c with
 |true=>exact absurd (F rfl) (by omega)
 |false=>refine go ?_;refine Rc aX 9 rfl rfl rfl rfl rfl rfl rfl rfl rfl rfl rfl rfl rfl h0 (DA ls) (by unfold maxLen;omega) (by show _*8<=_;omega) (λ aZ aT h1 u J h4 h5=>?_);refine go ?_;refine j9 [(9,aZ)] rfl rfl (by(repeat(first|exact trivial|refine⟨⟨rfl,h5 _ _⟩,?_⟩))) trivial ?_;exact⟨aT,aZ,rfl,rfl,h1,J,u,h4,h5⟩
theorem Ow(l:List Int):∀x∈bW l,x.lf=true:=by
 intro x hx;simp only[bW,List.mem_map] at hx;obtain⟨i,_,rfl⟩:=hx
 rfl
abbrev mG(xs:List Int):I:=.agg [ci xs]
theorem Hi(xs:List Int)(a:bz):(iw xs a).1.length=xs.length:=by
 unfold iw
 repeat' split
 all_goals simp
theorem acA{n:Int}{a:bz}(h:nl n a=0):0<=a.cell/\a.cell<n:=by
 unfold nl at h;split at h
 ·rename_i hr;unfold xy at hr;simp only[Bool.and_eq_true,decide_eq_true_eq] at hr;split at h
  ·omega
  ·exact⟨hr.1,by omega⟩
 ·omega
set_option maxHeartbeats 4000000 in
theorem aha(xs:List Int)(a:bz)(hn:xs.length<=1000000):bH prog 56 [mG xs,kx a] (.ca [mG (Dp xs a).1,EA (Dp xs a).2.1,M (Dp xs a).2.2]):=by
 generalize Y:Dp xs a=E;unfold Dp at Y;refine sP func56 ntmps56 λ w cl=>?_
 refine gA (acy xs.length a) ?_;generalize h1:decide (nl xs.length a=0)=cc;cases cc
 ·rw[if_neg (of_decide_eq_false h1)] at Y;refine gf ?_;rw[<-Y]
 ·have bB:=of_decide_eq_true h1;rw[if_pos bB] at Y;obtain⟨lx,c7⟩:=acA bB;have uf:=Hi xs a;refine go ?_;refine nf (abd xs (by omega) hn) rfl (λ a w=>call87 a w) rfl rfl trivial trivial rfl rfl rfl rfl ?_ ?_
  ·rintro d bs ⟨c,cs,rfl,rfl,_⟩;exact⟨.inr rfl,trivial⟩
  rintro d bs ⟨c,cs,rfl,rfl,sL,F,mp,mW,cV⟩;have hT:=akt xs a.kind a.cell.toNat a.dL a.new (by omega) hn c cs sL F mW cV;rw[show((a.cell.toNat:Nat):Int)=a.cell by omega] at hT;refine go ?_;refine nf hT rfl (λ a w=>call88 a w) rfl rfl (by(repeat(first|exact trivial|refine⟨⟨rfl,cV _ _⟩,?_⟩))) (by(repeat(first|exact trivial|refine⟨.inr rfl,?_⟩))) rfl rfl rfl rfl ?_ ?_
  ·rintro d bs ⟨_,aZ,rfl,_⟩;exact⟨.inl rfl,trivial⟩
  rintro d bs ⟨rfl,aZ,rfl,k1,k2,k3⟩;refine qv ?_;refine yT ?_;refine iP (MC 8 9 (bW (iw xs a).1) rfl rfl rfl rfl k1 F (by rw[DA,uf]) k2 mp (Ow _)) ?_;refine Ch ?_;refine gW 4 [2] ?_;refine gf ?_;rw[<-Y];simp only[mG,ci,uf]
end Go.Proofs.YtkkldicehapklaaGreat
