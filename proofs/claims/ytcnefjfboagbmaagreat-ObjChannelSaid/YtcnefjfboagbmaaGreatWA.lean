/- Words and layouts: what they are, and their walks. -/
import Derived.Test.YtcnefjfboagbmaaGreatLB
import Derived.Test.YtcnefjfboagbmaaGreatPA
namespace Go.Proofs.YtcnefjfboagbmaaGreat
open Go.Proofs.Tryz
open Go.RowKit
set_option maxRecDepth 100000
abbrev yy(r:wy):K:=.agg [E r.idx,dB r.mark,E r.mF]
theorem Aa(n:Int)(b:Nat)(Z:b<=62):bc prog 92 [E n,E b] (E (n%2^b)):=by
 have A:(2:Int)^b<=4611686018427387904:=by
  have bm:(2:Nat)^b<=2^62:=Nat.pow_le_pow_right (by omega) Z;have h5:((2^b:Nat):Int)<=((2^62:Nat):Int):=Int.ofNat_le.2 bm;have h6:((2^62:Nat):Int)=4611686018427387904:=by decide
  rw[h6,Int.natCast_pow] at h5;exact h5
 have h0:(0:Int)<2^b:=Int.pow_pos (by omega);refine sP func92 ntmps92 λ w cl=>?_
 refine go ?_;refine bh (wo b rfl rfl rfl rfl Z (by omega) (by omega)) rfl rfl rfl ?_;rw[Int.one_mul];refine gf ?_;rw[Ox n b Z]
theorem LQ(n:Int):bc prog 92 [E n,E 16] (E (n%65536)):=Aa n 16 (by omega)
theorem Si(n:Int):bc prog 92 [E n,E 1] (E (n%2)):=Aa n 1 (by omega)
theorem EN(n:Int):bc prog 92 [E n,E 28] (E (n%268435456)):=Aa n 28 (by omega)
theorem kV(n:Int):bc prog 44 [E n] (yy (ae n)):=by
 refine sP func44 ntmps44 λ w cl=>?_
 refine gA (LQ n) ?_;refine bh (Fq 16 rfl rfl rfl (by omega)) rfl rfl rfl ?_;refine gA (Si (n/2^16)) ?_;refine bh (Fq 17 rfl rfl rfl (by omega)) rfl rfl rfl ?_;refine gA (EN (n/2^17)) ?_;refine ez ?_
 rfl
theorem qp(r:wy)(i:Int)(h0:0<=r.mF)(A:r.mF<268435456):bc prog 177 [yy r,E i] (yy (ca r i)):=by
 refine sP func177 ntmps177 λ w cl=>?_
 refine go ?_;refine dW 7 [] ?_;refine gQ (LQ i) ?_;refine cQ (EN (r.mF+1)) ?_;refine br ?_;refine gf ?_
 rfl
theorem BZ{x y:Pl}{ps:List Pl}{n:Nat}(h0:ps[n]?=some x)(A:ps[n+1]?=some y):∀(m:Nat) q,[x,y][m]?=some q->ps[n+m]?=some q:=by
 intro m q hq
 match m,hq with
 |0,hq=>cases hq;exact h0
 |1,hq=>cases hq;exact A
theorem R4(a b c:Int):bc prog 108 [.p (.sl false 3 [pI a,pI 16,pI b,pI 1,pI c,pI 28])] (E (a%65536+65536*(b%2)+131072*(c%268435456))):=by
 have a0:0<=a%65536:=Int.emod_nonneg _ (by omega);have a1:a%65536<65536:=Int.emod_lt_of_pos _ (by omega);have b0:0<=b%2:=Int.emod_nonneg _ (by omega);have b1:b%2<2:=Int.emod_lt_of_pos _ (by omega);have c0:0<=c%268435456:=Int.emod_nonneg _ (by omega);have c1:c%268435456<268435456:=Int.emod_lt_of_pos _ (by omega);refine sP func108 ntmps108 λ w cl=>?_
 refine go ?_;refine cn (λ i:Nat=>i<=3) (λ i=>⟨[(9,E i),(8,E 3),(7,.p (.sl false 3 [pI a,pI 16,pI b,pI 1,pI c,pI 28])),(3,E (if i=0 then 0 else if i=1 then a%65536 else if i=2 then a%65536+65536*(b%2) else a%65536+65536*(b%2)+131072*(c%268435456))),(4,E (if i=0 then 0 else if i=1 then 16 else if i=2 then 17 else 45))],[],[]⟩) (λ i=>3-i) 0 (by omega) (zX) ?_;intro i hi;rcases(show i=0\/i=1\/i=2\/i=3 by omega) with rfl|rfl|rfl|rfl
 ·refine(show aP _ _ _ _ ⟨[(9,E 0),(8,E 3),(7,.p (.sl false 3 [pI a,pI 16,pI b,pI 1,pI c,pI 28])),(3,E (0)),(4,E 0)],[],[]⟩ from ?_);refine go ?_;refine dk (λ A=>?_) (λ A=>?_)<;>try rw[A]
  ·refine go ?_;refine ai [pI a,pI 16] (BZ rfl rfl) ?_;refine gA (LQ a) ?_;refine bh (wo 0 rfl rfl rfl rfl (by omega) (by omega) (by omega)) rfl rfl rfl ?_;rw[show a%65536*2^0=a%65536 by omega];refine go ?_;refine bh (Cj 0 (a%65536) rfl rfl rfl (by omega) (by omega) (by omega) (by omega) (by omega)) rfl rfl rfl ?_;rw[show 0+a%65536=a%65536 by omega];refine go ?_;exact⟨1,by omega,by omega,zX⟩
  ·exact absurd A (by decide)
 ·refine(show aP _ _ _ _ ⟨[(9,E 1),(8,E 3),(7,.p (.sl false 3 [pI a,pI 16,pI b,pI 1,pI c,pI 28])),(3,E (a%65536)),(4,E 16)],[],[]⟩ from ?_);refine go ?_;refine dk (λ A=>?_) (λ A=>?_)<;>try rw[A]
  ·refine go ?_;refine ai [pI b,pI 1] (BZ rfl rfl) ?_;refine gA (Si b) ?_;refine bh (wo 16 rfl rfl rfl rfl (by omega) (by omega) (by omega)) rfl rfl rfl ?_;rw[show b%2*2^16=65536*(b%2) by omega];refine go ?_;refine bh (Cj 16 (b%2) rfl rfl rfl (by omega) (by omega) (by omega) (by omega) (by omega)) rfl rfl rfl ?_;refine go ?_;exact⟨2,by omega,by omega,zX⟩
  ·exact absurd A (by decide)
 ·refine(show aP _ _ _ _ ⟨[(9,E 2),(8,E 3),(7,.p (.sl false 3 [pI a,pI 16,pI b,pI 1,pI c,pI 28])),(3,E (a%65536+65536*(b%2))),(4,E 17)],[],[]⟩ from ?_);refine go ?_;refine dk (λ A=>?_) (λ A=>?_)<;>try rw[A]
  ·refine go ?_;refine ai [pI c,pI 28] (BZ rfl rfl) ?_;refine gA (EN c) ?_;refine bh (wo 17 rfl rfl rfl rfl (by omega) (by omega) (by omega)) rfl rfl rfl ?_;rw[show c%268435456*2^17=131072*(c%268435456) by omega];refine go ?_;refine bh (Cj 17 (c%268435456) rfl rfl rfl (by omega) (by omega) (by omega) (by omega) (by omega)) rfl rfl rfl ?_;refine go ?_;exact⟨3,by omega,by omega,zX⟩
  ·exact absurd A (by decide)
 ·refine(show aP _ _ _ _ ⟨[(9,E 3),(8,E 3),(7,.p (.sl false 3 [pI a,pI 16,pI b,pI 1,pI c,pI 28])),(3,E (a%65536+65536*(b%2)+131072*(c%268435456))),(4,E 45)],[],[]⟩ from ?_);refine go ?_;refine dk (λ A=>?_) (λ A=>?_)<;>try rw[A]
  ·exact absurd A (by decide)
  ·refine gf ?_
   rfl
theorem my(r:wy):bc prog 74 [yy r] (E (bK r)):=by
 have hm:∀b:Bool,(if b then(1:Int) else 0)%2=if b then 1 else 0:=λ b=>by cases b<;>rfl
 obtain⟨i,m,c⟩:=r;refine sP func74 ntmps74 λ w cl=>?_
 refine go ?_;cases m
 ·refine gA (R4 i 0 c) ?_;refine ez ?_
  rfl
 ·refine gA (R4 i 1 c) ?_;refine ez ?_
  rfl
abbrev cG(l:ah):List K:=[E l.ar,E l.nodes,E l.buckets,E l.bU,E l.tasks,E l.cells,E l.maps,E l.dl,E l.bo,E l.done,E l.count,E l.era,E l.free,E l.alive,E l.owner,E l.mB,E l.sJ,E l.ring,E l.task,E l.cell,E l.map,E l.stack,E l.chan,E l.node,E l.size]
abbrev dP(l:ah):K:=.agg (cG l)
theorem yf(first many rF row i:Int)(A:mb first)(F:mb many)(O:0<=rF/\rF<=1000)(h4:i<9223372036854775808):bc prog 91 [E first,E many,E rF,E row,E i] (E (kG first many rF row i)):=by
 obtain⟨agz,agA⟩:=A;obtain⟨agC,agD⟩:=F;refine sP func91 ntmps91 λ w cl=>?_
 refine go ?_;generalize k1:decide (row<0)=cc;cases cc
 ·have qh:=of_decide_eq_false k1;refine go ?_;generalize k2:decide (many<=row)=cc;cases cc
  ·have xD:=of_decide_eq_false k2;refine go ?_;generalize k3:decide (i<0)=cc;cases cc
   ·have RO:=of_decide_eq_false k3;refine go ?_;generalize k4:decide (rF<=i)=cc;cases cc
    ·have Lv:=of_decide_eq_false k4;have mj:0<=row*rF:=Int.mul_nonneg (by omega) (by omega);have un:row*rF<=1000000*1000:=Int.mul_le_mul (by omega) (by omega) (by omega) (by omega);have ew:IntKind.i64.wrap (row*rF)=row*rF:=eU (by omega) (by omega);refine go ?_;rw[ew];refine gf ?_;rw[kG,if_neg (by omega)]
    ·refine gf ?_;rw[kG,if_pos (by have:=of_decide_eq_true k4;omega)]
   ·refine gf ?_;rw[kG,if_pos (by have:=of_decide_eq_true k3;omega)]
  ·refine gf ?_;rw[kG,if_pos (by have:=of_decide_eq_true k2;omega)]
 ·refine gf ?_;rw[kG,if_pos (by have:=of_decide_eq_true k1;omega)]
theorem kD(l:ah)(U:cr l)(n i:Int)(hn:n<9223372036854775808)(hi:i<9223372036854775808):bc prog 46 [dP l,E n,E i] (E (aN l n i)):=by
 have e1:=U.node;have e2:=U.nodes;refine sP func46 ntmps46 λ w cl=>?_
 refine go ?_;generalize k1:decide (n<1)=cc;cases cc
 ·have qh:=of_decide_eq_false k1;refine gA (yf l.node l.nodes 8 (n-1) i e1 e2 (by omega) hi) ?_;refine ez ?_;rw[aN,if_neg qh]
 ·refine gf ?_;rw[aN,if_pos (of_decide_eq_true k1)]
theorem lq(l:ah)(U:cr l)(s i:Int)(hi:i<9223372036854775808):bc prog 195 [dP l,E s,E i] (E (cE l s i)):=by
 refine sP func195 ntmps195 λ w cl=>?_
 refine gA (yf l.mB l.ar 3 s i U.mB U.ar (by omega) hi) ?_;refine ez ?_
 rfl
def Co(p:Int×Int):List Pl:=[pI p.1,pI p.2]
def g6(l:List (Int×Int)):List Pl:=l.flatMap Co
abbrev v9(l:List (Int×Int)):Pl:=.sl false l.length (g6 l)
abbrev eh(l:List (Int×Int)):K:=.p (v9 l)
def Am(r:aF):List Pl:=[pI r.val,pB r.ok]
def g8(l:List aF):List Pl:=l.flatMap Am
abbrev gT(l:List aF):K:=.p (.sl false l.length (g8 l))
abbrev yz(r:aF):K:=.agg [E r.val,dB r.ok]
abbrev fC(a:aX):K:=.agg [E a.kind,E a.cell,E a.dg,E a.new]
abbrev Cr(l:ah)(G:Int)(s:af):List Pl:=[pI l.ar,pI l.nodes,pI l.buckets,pI l.bU,pI l.tasks,pI l.cells,pI l.maps,pI l.dl,pI l.bo,pI l.done,pI l.count,pI l.era,pI l.free,pI l.alive,pI l.owner,pI l.mB,pI l.sJ,pI l.ring,pI l.task,pI l.cell,pI l.map,pI l.stack,pI l.chan,pI l.node,pI l.size,pI G,v9 s.gone,pI s.made,pI s.e0,pI s.e1,pI s.e2]
abbrev nH(l:ah)(G:Int)(s:af):List K:=[E l.ar,E l.nodes,E l.buckets,E l.bU,E l.tasks,E l.cells,E l.maps,E l.dl,E l.bo,E l.done,E l.count,E l.era,E l.free,E l.alive,E l.owner,E l.mB,E l.sJ,E l.ring,E l.task,E l.cell,E l.map,E l.stack,E l.chan,E l.node,E l.size,E G,eh s.gone,E s.made,E s.e0,E s.e1,E s.e2,.fn (.func 203) [] [.ptr 12 0,.ptr 13 0]]
abbrev co(l:ah)(G:Int)(log:List aF)(s:af):bJ:=[(11,nH l G s),(12,[.ptr 11 0]),(13,[gT log])]
theorem gJ(l:ah)(U:cr l)(G:Int)(s:af)(n i:Int)(hn:n<9223372036854775808)(hi:i<9223372036854775808):bc prog 207 [.el (Cr l G s),E n,E i] (E (aN l n i)):=by
 refine sP func207 ntmps207 λ w cl=>?_
 refine gA (kD l U n i hn hi) ?_;refine ez ?_
 rfl
theorem i6(l:ah)(G:Int)(s:af)(h:(s.made:Int)<9223372036854775807):bc prog 214 [.el (Cr l G s)] (E ((s.made:Int)-1)):=by
 refine sP func214 ntmps214 λ w cl=>?_
 refine gf ?_
 rfl
theorem JO{av:Type}{f:av->List Pl}{a b:av->Pl}(hf:∀x,f x=[a x,b x]):∀{l:List av}{i:Nat}{x:av},l[i]?=some x->∀(m:Nat) q,[a x,b x][m]?=some q->(l.flatMap f)[i*2+m]?=some q
 |[],i,x,h=>by simp at h
 |y::l,0,x,h=>by
  intro m q hq;simp at h;subst h;rw[List.flatMap_cons,hf,Nat.zero_mul,Nat.zero_add,List.getElem?_append_left]
  ·exact hq
  ·exact(List.getElem?_eq_some_iff.1 hq).1
 |y::l,i+1,x,h=>by
  intro m q hq;have ih:=JO hf (l:=l) (i:=i) (x:=x) (by simpa using h) m q hq;rw[List.flatMap_cons,hf,List.getElem?_append_right (by simp;omega)];rw[show(i+1)*2+m-[a y,b y].length=i*2+m by simp;omega];exact ih
theorem EL{l:List aF}{i:Int}{r:aF}(h:l[i.toNat]?=some r):∀(m:Nat) q,[pI r.val,pB r.ok][m]?=some q->(g8 l)[i.toNat*2+m]?=some q:=JO (f:=Am) (λ _=>rfl) h
abbrev iK(a:aX):Value:=.iface 206 (.agg #[.int .i64 a.kind,.int .i64 a.cell,.int .i64 a.dg,.int .i64 a.new])
def C0{av:Type}(l:ah)(G:Int)(log:List aF)(m:Except aX (av×af))(s:af)(enc:av->K):K->bJ->Prop:=λ d Y=>∃x aa,m=.ok (x,aa)/\s.made<=aa.made/\aa.made<=log.length/\d=enc x/\Y=co l G log aa
def C3{av:Type}(l:ah)(G:Int)(log:List aF)(m:Except aX (av×af)):Value->bJ->Prop:=λ v Y=>∃a aa,m=.error a/\v=iK a/\Y=co l G log aa
abbrev fZ{av:Type}(f:FuncId)(l:ah)(G:Int)(log:List aF)(s:af)(ds:List K)(m:Except aX (av×af))(enc:av->K):Prop:=
 fM prog f [11,12,13] ds (co l G log s) (C0 l G log m s enc) (C3 l G log m)
theorem pW(l:ah)(G:Int)(log:List aF)(s:af)(a:aX)(hm:s.made<=log.length)(U:log.length<=1000000):fZ 203 l G log s [fC a,.ptr 12 0,.ptr 13 0] (fO a log s) yz:=by
 refine sX func203 ntmps203 λ w cl own kf=>?_
 refine go ?_;refine gD [] ?_;refine go ?_;generalize A:decide ((s.made:Int)=(log.length:Int))=cc;cases cc
 ·have aU:=of_decide_eq_false A;have bm:s.made<log.length:=by omega
  have hr:log[s.made]?=some log[s.made]:=List.getElem?_eq_getElem bm;generalize log[s.made]=r at hr;have qd:log[((s.made:Int)+1-1).toNat]?=some r:=by rw[show((s.made:Int)+1-1).toNat=s.made by omega];exact hr
  refine go ?_;refine gW 8 [] ?_;refine ri [pI r.val,pB r.ok] (EL qd) ?_;refine qg ?_;exact fX _ ⟨r,{s with made:=s.made+1},by rw[fO,hr],by simp,by simp;omega,rfl,rfl⟩
 ·have aU:log.length=s.made:=by have:=of_decide_eq_true A;omega
  have hr:log[s.made]?=none:=List.getElem?_eq_none (by omega);refine go ?_;refine bh (ED aD rfl rfl rfl rfl rfl) rfl rfl rfl ?_;refine C7 rfl rfl rfl ?_;refine gP ?_;exact fP _ ⟨a,s,by rw[fO,hr],rfl,rfl⟩
theorem vc{a:aX}{log:List aF}{s aa:af}{r:aF}(h:fO a log s=.ok (r,aa)):aa={s with made:=s.made+1}/\log[s.made]?=some r:=by
 unfold fO at h;split at h
 ·rename_i r0 h0;cases h;exact⟨rfl,h0⟩
 ·cases h
theorem fK{c:Int}{log:List aF}{s aa:af}{v:Int}(h:cZ c log s=.ok (v,aa)):aa={s with made:=s.made+1}/\∃r,log[s.made]?=some r/\r.val=v:=by
 unfold cZ Pm.bind at h;split at h
 ·rename_i r s1 h0;cases h;obtain⟨A,F⟩:=vc h0;exact⟨A,r,F,rfl⟩
 ·cases h
theorem ot{c v:Int}{log:List aF}{s aa:af}{u:Unit}(h:fA c v log s=.ok (u,aa)):aa={s with made:=s.made+1}/\∃r,log[s.made]?=some r:=by
 unfold fA Pm.bind at h;split at h
 ·rename_i r s1 h0;cases h;obtain⟨A,F⟩:=vc h0;exact⟨A,r,F⟩
 ·cases h
theorem ja{c o v:Int}{log:List aF}{s aa:af}{b:Bool}(h:fN c o v log s=.ok (b,aa)):aa={s with made:=s.made+1}/\∃r,log[s.made]?=some r/\r.ok=b:=by
 unfold fN Pm.bind at h;split at h
 ·rename_i r s1 h0;cases h;obtain⟨A,F⟩:=vc h0;exact⟨A,r,F,rfl⟩
 ·cases h
theorem iH{c:Int}{log:List aF}{s aa:af}{v:Int}(h:cZ c log s=.ok (v,aa)):aa.made=s.made+1:=by rw[(fK h).1]
theorem so{c v:Int}{log:List aF}{s aa:af}{u:Unit}(h:fA c v log s=.ok (u,aa)):aa.made=s.made+1:=by rw[(ot h).1]
theorem lO{c o v:Int}{log:List aF}{s aa:af}{b:Bool}(h:fN c o v log s=.ok (b,aa)):aa.made=s.made+1:=by rw[(ja h).1]
theorem eC(l:ah)(G:Int)(log:List aF)(s:af)(c:Int)(hm:s.made<=log.length)(U:log.length<=1000000):fZ 206 l G log s [.ptr 11 0,E c] (cZ c log s) E:=by
 refine sX func206 ntmps206 λ w cl own kf=>?_
 refine go ?_;refine vX (pW l G log s ⟨1,c,0,0⟩ hm U) ?_ ?_
 ·rintro v Y ⟨a,aa,h,rfl,rfl⟩;refine gP ?_;exact fP _ ⟨a,aa,bj h,rfl,rfl⟩
 rintro d Y ⟨x,aa,h,iE,cD,rfl,rfl⟩;refine go ?_;exact fX _ ⟨x.val,aa,az h,iE,cD,rfl,rfl⟩
theorem iy(l:ah)(G:Int)(log:List aF)(s:af)(c v:Int)(hm:s.made<=log.length)(U:log.length<=1000000):fZ 211 l G log s [.ptr 11 0,E c,E v] (fA c v log s) (λ _=>.bd []):=by
 refine sX func211 ntmps211 λ w cl own kf=>?_
 refine go ?_;refine vX (pW l G log s ⟨2,c,0,v⟩ hm U) ?_ ?_
 ·rintro v Y ⟨a,aa,h,rfl,rfl⟩;refine gP ?_;exact fP _ ⟨a,aa,bj h,rfl,rfl⟩
 rintro d Y ⟨x,aa,h,iE,cD,rfl,rfl⟩;refine go ?_;exact fX _ ⟨(),aa,az h,iE,cD,rfl,rfl⟩
theorem jb(l:ah)(G:Int)(log:List aF)(s:af)(c o v:Int)(hm:s.made<=log.length)(U:log.length<=1000000):fZ 213 l G log s [.ptr 11 0,E c,E o,E v] (fN c o v log s) dB:=by
 refine sX func213 ntmps213 λ w cl own kf=>?_
 refine go ?_;refine vX (pW l G log s ⟨3,c,o,v⟩ hm U) ?_ ?_
 ·rintro v Y ⟨a,aa,h,rfl,rfl⟩;refine gP ?_;exact fP _ ⟨a,aa,bj h,rfl,rfl⟩
 rintro d Y ⟨x,aa,h,iE,cD,rfl,rfl⟩;refine go ?_;exact fX _ ⟨x.ok,aa,az h,iE,cD,rfl,rfl⟩
set_option maxHeartbeats 4000000 in
theorem FA(l:ah)(hL:cr l)(G:Int)(log:List aF)(s:af)(hm:s.made<=log.length)(U:log.length<=1000000):fZ 210 l G log s [.ptr 11 0] (sr l log s) (λ p=>.bd [E p.1,E p.2.1,dB p.2.2]):=by
 generalize I:sr l log s=aQ;refine sX func210 ntmps210 λ w cl own kf=>?_
 refine go ?_;refine cn (λ p:Nat×af=>s.made<=p.2.made/\p.2.made<=log.length/\log.length-p.2.made<p.1/\ou l p.1 log p.2=aQ) (λ p=>⟨[(0,.ptr 11 0)],co l G log p.2,[]⟩) (λ p=>p.1) (log.length+1-s.made,s) ⟨Nat.le_refl _,hm,by simp only;omega,I⟩ (zX) ?_;rintro⟨k,t⟩ ⟨cY,bw,iZ,I⟩;simp only at cY bw iZ I;obtain⟨k,rfl⟩:∃j,k=j+1:=⟨k-1,by omega⟩;refine(show aP _ _ _ _ ⟨[(0,.ptr 11 0)],co l G log t,[]⟩ from ?_);rw[ou] at I;refine go ?_;refine xP (eC l G log t l.free bw U) ?_;rintro d Y ⟨fr,s1,bO,fT,dc,rfl,rfl⟩;rw[az bO] at I;have fe:=iH bO;have cj:=kU fr;have du:=tr fr;refine gA (kV fr) ?_;generalize A:decide ((ae fr).idx=0)=cc;cases cc
 ·have aU:=of_decide_eq_false A;rw[if_neg aU] at I;refine go ?_;refine lA (gJ l hL G s1 (ae fr).idx 7 (by omega) (by omega)) ?_;refine go ?_;refine xP (eC l G log s1 (aN l (ae fr).idx 7) dc U) ?_;rintro d Y ⟨lk,s2,bg,fj,cN,rfl,rfl⟩;rw[az bg] at I;have fD:=iH bg;refine go ?_;refine dW 11 [] ?_;refine gQ (qp (ae fr) lk du.1 du.2) ?_;refine cQ (my (ca (ae fr) lk)) ?_;refine br ?_;refine xP (jb l G log s2 l.free fr (bK (ca (ae fr) lk)) cN U) ?_;rintro d Y ⟨iv,s3,bV,fv,cS,rfl,rfl⟩;rw[az bV] at I;have gx:=lO bV;refine go ?_;cases iv
  ·rw[if_neg (by decide)] at I;refine go ?_;exact⟨(k,s3),⟨by simp only;omega,cS,by simp only;omega,I⟩,by simp only;omega,zX⟩
  ·rw[if_pos rfl,az eu] at I;refine go ?_;refine lA (i6 l G s3 (by omega)) ?_;refine go ?_;refine xP (eC l G log s3 l.era cS U) ?_;rintro d Y ⟨bi,s4,cX,jf,eQ,rfl,rfl⟩;rw[az cX] at I;refine go ?_;refine lA (gJ l hL G s4 (ae fr).idx 6 (by omega) (by omega)) ?_;refine go ?_;refine xP (iy l G log s4 (aN l (ae fr).idx 6) bi eQ U) ?_;rintro d Y ⟨u,s5,dD,li,eW,rfl,rfl⟩;rw[az dD] at I;refine go ?_;exact fX _ ⟨_,s5,I.symm,by omega,eW,rfl,rfl⟩
 ·rw[if_pos (of_decide_eq_true A),az eu] at I;refine go ?_;refine lA (i6 l G s1 (by omega)) ?_;refine go ?_;exact fX _ ⟨_,s1,I.symm,by omega,dc,rfl,rfl⟩
set_option maxHeartbeats 4000000 in
theorem w9(l:ah)(hL:cr l)(G:Int)(log:List aF)(s:af)(n:Int)(hn:n<9223372036854775808)(hm:s.made<=log.length)(U:log.length<=1000000):fZ 209 l G log s [.ptr 11 0,E n] (oI l n log s) (λ _=>.bd []):=by
 generalize I:oI l n log s=aQ;refine sX func209 ntmps209 λ w cl own kf=>?_
 refine go ?_;refine cn (λ p:Nat×af=>s.made<=p.2.made/\p.2.made<=log.length/\log.length-p.2.made<p.1/\mH l n p.1 log p.2=aQ) (λ p=>⟨[(0,.ptr 11 0),(1,E n)],co l G log p.2,[]⟩) (λ p=>p.1) (log.length+1-s.made,s) ⟨Nat.le_refl _,hm,by simp only;omega,I⟩ (zX) ?_;rintro⟨k,t⟩ ⟨cY,bw,iZ,I⟩;simp only at cY bw iZ I;obtain⟨k,rfl⟩:∃j,k=j+1:=⟨k-1,by omega⟩;refine(show aP _ _ _ _ ⟨[(0,.ptr 11 0),(1,E n)],co l G log t,[]⟩ from ?_);rw[mH] at I;refine go ?_;refine xP (eC l G log t l.free bw U) ?_;rintro d Y ⟨fr,s1,bO,fT,dc,rfl,rfl⟩;rw[az bO] at I;have fe:=iH bO;have du:=tr fr;refine gA (kV fr) ?_;refine gW 6 [] ?_;refine lQ (gJ l hL G s1 n 7 hn (by omega)) ?_;refine br ?_;refine xP (iy l G log s1 (aN l n 7) (ae fr).idx dc U) ?_;rintro d Y ⟨u,s2,bg,fj,cN,rfl,rfl⟩;rw[az bg] at I;have fD:=so bg;refine go ?_;refine dW 11 [] ?_;refine gQ (qp (ae fr) n du.1 du.2) ?_;refine cQ (my (ca (ae fr) n)) ?_;refine br ?_;refine xP (jb l G log s2 l.free fr (bK (ca (ae fr) n)) cN U) ?_;rintro d Y ⟨iv,s3,bV,fv,cS,rfl,rfl⟩;rw[az bV] at I;have gx:=lO bV;refine go ?_;cases iv
 ·rw[if_neg (by decide)] at I;refine go ?_;exact⟨(k,s3),⟨by simp only;omega,cS,by simp only;omega,I⟩,by simp only;omega,zX⟩
 ·rw[if_pos rfl] at I;refine go ?_;exact fX _ ⟨_,s3,I.symm,by omega,cS,rfl,rfl⟩
set_option maxHeartbeats 4000000 in
theorem Bl(l:ah)(hL:cr l)(G:Int)(log:List aF)(s:af)(cell:Int)(hm:s.made<=log.length)(U:log.length<=1000000):fZ 218 l G log s [.ptr 11 0,E 0,E cell] (mg l G 0 cell log s) (λ p=>.bd [E p.1,E p.2]):=by
 generalize I:mg l G 0 cell log s=aQ;refine sX func218 ntmps218 λ w cl own kf=>?_
 refine go ?_;refine cn (λ p:Nat×af=>s.made<=p.2.made/\p.2.made<=log.length/\log.length-p.2.made<p.1/\lC l G 0 cell p.1 log p.2=aQ) (λ p=>⟨[(0,.ptr 11 0),(1,E 0),(2,E cell)],co l G log p.2,[]⟩) (λ p=>p.1) (log.length+1-s.made,s) ⟨Nat.le_refl _,hm,by simp only;omega,I⟩ (zX) ?_;rintro⟨k,t⟩ ⟨cY,bw,iZ,I⟩;simp only at cY bw iZ I;obtain⟨k,rfl⟩:∃j,k=j+1:=⟨k-1,by omega⟩;refine(show aP _ _ _ _ ⟨[(0,.ptr 11 0),(1,E 0),(2,E cell)],co l G log t,[]⟩ from ?_);rw[lC] at I;refine go ?_;refine xP (eC l G log t cell bw U) ?_;rintro d Y ⟨v,s1,bO,fT,dc,rfl,rfl⟩;rw[az bO,az eu] at I;have fe:=iH bO;refine go ?_;refine lA (i6 l G s1 (by omega)) ?_;refine go ?_;refine xP (eC l G log s1 l.era dc U) ?_;rintro d Y ⟨er,s2,bg,fj,cN,rfl,rfl⟩;rw[az bg] at I;have fD:=iH bg;refine go ?_;refine bh (gY aD rfl rfl rfl rfl rfl (by omega) (by omega)) rfl rfl rfl ?_;refine go ?_;generalize A:decide (er=s2.e0)=cc;cases cc
 ·rw[if_neg (show¬er=s2.e 0 from of_decide_eq_false A)] at I;refine go ?_;refine dW 12 [] ?_;refine gQ (lq l hL G 0 (by omega)) ?_;refine xP (iy l G log s2 (cE l G 0) er cN U) ?_;rintro d Y ⟨u,s3,bV,fv,cS,rfl,rfl⟩;rw[az bV] at I;have gx:=so bV;refine go ?_;refine bh (gY aD rfl rfl rfl rfl rfl (by omega) (by omega)) rfl rfl rfl ?_;refine go ?_;exact⟨(k,{s3 with e0:=er}),⟨by simp only;omega,by simp only;omega,by simp only;omega,I⟩,by simp only;omega,zX⟩
 ·rw[if_pos (show er=s2.e 0 from of_decide_eq_true A)] at I;refine go ?_;exact fX _ ⟨_,s2,I.symm,by omega,cN,rfl,rfl⟩
set_option maxHeartbeats 4000000 in
theorem X8(l:ah)(hL:cr l)(G:Int)(log:List aF)(s:af)(cell:Int)(hm:s.made<=log.length)(U:log.length<=1000000):fZ 218 l G log s [.ptr 11 0,E 1,E cell] (mg l G 1 cell log s) (λ p=>.bd [E p.1,E p.2]):=by
 generalize I:mg l G 1 cell log s=aQ;refine sX func218 ntmps218 λ w cl own kf=>?_
 refine go ?_;refine cn (λ p:Nat×af=>s.made<=p.2.made/\p.2.made<=log.length/\log.length-p.2.made<p.1/\lC l G 1 cell p.1 log p.2=aQ) (λ p=>⟨[(0,.ptr 11 0),(1,E 1),(2,E cell)],co l G log p.2,[]⟩) (λ p=>p.1) (log.length+1-s.made,s) ⟨Nat.le_refl _,hm,by simp only;omega,I⟩ (zX) ?_;rintro⟨k,t⟩ ⟨cY,bw,iZ,I⟩;simp only at cY bw iZ I;obtain⟨k,rfl⟩:∃j,k=j+1:=⟨k-1,by omega⟩;refine(show aP _ _ _ _ ⟨[(0,.ptr 11 0),(1,E 1),(2,E cell)],co l G log t,[]⟩ from ?_);rw[lC] at I;refine go ?_;refine xP (eC l G log t cell bw U) ?_;rintro d Y ⟨v,s1,bO,fT,dc,rfl,rfl⟩;rw[az bO,az eu] at I;have fe:=iH bO;refine go ?_;refine lA (i6 l G s1 (by omega)) ?_;refine go ?_;refine xP (eC l G log s1 l.era dc U) ?_;rintro d Y ⟨er,s2,bg,fj,cN,rfl,rfl⟩;rw[az bg] at I;have fD:=iH bg;refine go ?_;refine bh (gY aD rfl rfl rfl rfl rfl (by omega) (by omega)) rfl rfl rfl ?_;refine go ?_;generalize A:decide (er=s2.e1)=cc;cases cc
 ·rw[if_neg (show¬er=s2.e 1 from of_decide_eq_false A)] at I;refine go ?_;refine dW 12 [] ?_;refine gQ (lq l hL G 1 (by omega)) ?_;refine xP (iy l G log s2 (cE l G 1) er cN U) ?_;rintro d Y ⟨u,s3,bV,fv,cS,rfl,rfl⟩;rw[az bV] at I;have gx:=so bV;refine go ?_;refine bh (gY aD rfl rfl rfl rfl rfl (by omega) (by omega)) rfl rfl rfl ?_;refine go ?_;exact⟨(k,{s3 with e1:=er}),⟨by simp only;omega,by simp only;omega,by simp only;omega,I⟩,by simp only;omega,zX⟩
 ·rw[if_pos (show er=s2.e 1 from of_decide_eq_true A)] at I;refine go ?_;exact fX _ ⟨_,s2,I.symm,by omega,cN,rfl,rfl⟩
set_option maxHeartbeats 4000000 in
theorem X9(l:ah)(hL:cr l)(G:Int)(log:List aF)(s:af)(cell:Int)(hm:s.made<=log.length)(U:log.length<=1000000):fZ 218 l G log s [.ptr 11 0,E 2,E cell] (mg l G 2 cell log s) (λ p=>.bd [E p.1,E p.2]):=by
 generalize I:mg l G 2 cell log s=aQ;refine sX func218 ntmps218 λ w cl own kf=>?_
 refine go ?_;refine cn (λ p:Nat×af=>s.made<=p.2.made/\p.2.made<=log.length/\log.length-p.2.made<p.1/\lC l G 2 cell p.1 log p.2=aQ) (λ p=>⟨[(0,.ptr 11 0),(1,E 2),(2,E cell)],co l G log p.2,[]⟩) (λ p=>p.1) (log.length+1-s.made,s) ⟨Nat.le_refl _,hm,by simp only;omega,I⟩ (zX) ?_;rintro⟨k,t⟩ ⟨cY,bw,iZ,I⟩;simp only at cY bw iZ I;obtain⟨k,rfl⟩:∃j,k=j+1:=⟨k-1,by omega⟩;refine(show aP _ _ _ _ ⟨[(0,.ptr 11 0),(1,E 2),(2,E cell)],co l G log t,[]⟩ from ?_);rw[lC] at I;refine go ?_;refine xP (eC l G log t cell bw U) ?_;rintro d Y ⟨v,s1,bO,fT,dc,rfl,rfl⟩;rw[az bO,az eu] at I;have fe:=iH bO;refine go ?_;refine lA (i6 l G s1 (by omega)) ?_;refine go ?_;refine xP (eC l G log s1 l.era dc U) ?_;rintro d Y ⟨er,s2,bg,fj,cN,rfl,rfl⟩;rw[az bg] at I;have fD:=iH bg;refine go ?_;refine bh (gY aD rfl rfl rfl rfl rfl (by omega) (by omega)) rfl rfl rfl ?_;refine go ?_;generalize A:decide (er=s2.e2)=cc;cases cc
 ·rw[if_neg (show¬er=s2.e 2 from of_decide_eq_false A)] at I;refine go ?_;refine dW 12 [] ?_;refine gQ (lq l hL G 2 (by omega)) ?_;refine xP (iy l G log s2 (cE l G 2) er cN U) ?_;rintro d Y ⟨u,s3,bV,fv,cS,rfl,rfl⟩;rw[az bV] at I;have gx:=so bV;refine go ?_;refine bh (gY aD rfl rfl rfl rfl rfl (by omega) (by omega)) rfl rfl rfl ?_;refine go ?_;exact⟨(k,{s3 with e2:=er}),⟨by simp only;omega,by simp only;omega,by simp only;omega,I⟩,by simp only;omega,zX⟩
 ·rw[if_pos (show er=s2.e 2 from of_decide_eq_true A)] at I;refine go ?_;exact fX _ ⟨_,s2,I.symm,by omega,cN,rfl,rfl⟩
theorem PP(l:ah)(hL:cr l)(G:Int)(log:List aF)(s:af)(i cell:Int)(hi:i=0\/i=1\/i=2)(hm:s.made<=log.length)(U:log.length<=1000000):fZ 218 l G log s [.ptr 11 0,E i,E cell] (mg l G i cell log s) (λ p=>.bd [E p.1,E p.2]):=by
 rcases hi with rfl|rfl|rfl
 ·exact Bl l hL G log s cell hm U
 ·exact X8 l hL G log s cell hm U
 ·exact X9 l hL G log s cell hm U
set_option maxHeartbeats 4000000 in
theorem kh(l:ah)(hL:cr l)(G:Int)(log:List aF)(s:af)(hm:s.made<=log.length)(U:log.length<=1000000):fZ 208 l G log s [.ptr 11 0] (gB l G log s) (λ _=>.bd []):=by
 generalize I:gB l G log s=aQ;unfold gB at I;refine sX func208 ntmps208 λ w cl own kf=>?_
 refine go ?_;refine cn (λ p:Nat×af=>p.1<=3/\s.made<=p.2.made/\p.2.made<=log.length/\gS l G p.1 ([s.e0,s.e1,s.e2].drop p.1) log p.2=aQ) (λ p=>⟨[(8,E p.1),(7,.agg [E s.e0,E s.e1,E s.e2]),(0,.ptr 11 0)],co l G log p.2,[]⟩) (λ p=>3-p.1) (0,s) ⟨by simp only;omega,Nat.le_refl _,hm,I⟩ (zX) ?_;rintro⟨i,t⟩ ⟨hi,cY,bw,I⟩;simp only at hi cY bw I;rcases(show i=0\/i=1\/i=2\/i=3 by omega) with rfl|rfl|rfl|rfl
 ·refine(show aP _ _ _ _ ⟨[(8,E 0),(7,.agg [E s.e0,E s.e1,E s.e2]),(0,.ptr 11 0)],co l G log t,[]⟩ from ?_);have I:(dw l G 0 s.e0).bind (λ _=>gS l G 1 ([s.e0,s.e1,s.e2].drop 1)) log t=aQ:=I;refine go ?_;refine dk (λ A=>?_) (λ A=>?_)<;>try rw[A]
  ·refine go ?_;refine bh (vT aD (E s.e0) rfl rfl rfl rfl rfl rfl (by omega) (by omega) rfl) rfl rfl rfl ?_;refine go ?_;generalize F:decide (s.e0=0)=cc;cases cc
   ·rw[dw,if_neg (of_decide_eq_false F)] at I;refine go ?_;refine dW 11 [] ?_;refine gQ (lq l hL G 0 (by omega)) ?_;refine xX (iy l G log t (cE l G 0) 0 bw U) ?_ ?_
    ·rintro v Y ⟨a,aa,h,rfl,rfl⟩;refine gP ?_;exact fP _ ⟨a,aa,by rw[<-I];exact bj (bj h),rfl,rfl⟩
    rintro d Y ⟨u,s1,bO,fT,dc,rfl,rfl⟩;have mJ:gS l G 1 ([s.e0,s.e1,s.e2].drop 1) log {s1 with e0:=0}=aQ:=by rw[<-I];exact(az (f:=λ _=>gS l G 1 ([s.e0,s.e1,s.e2].drop 1)) (az (f:=λ _=>pM 0) bO)).symm
    refine go ?_;refine bh (gY aD rfl rfl rfl rfl rfl (by omega) (by omega)) rfl rfl rfl ?_;refine go ?_;exact⟨(1,{s1 with e0:=0}),⟨by simp only;omega,by simp only;omega,by simp only;omega,mJ⟩,by simp only;omega,zX⟩
   ·rw[dw,if_pos (of_decide_eq_true F)] at I;refine go ?_;exact⟨(1,t),⟨by simp only;omega,cY,bw,I⟩,by simp only;omega,zX⟩
  ·exact absurd A (by decide)
 ·refine(show aP _ _ _ _ ⟨[(8,E 1),(7,.agg [E s.e0,E s.e1,E s.e2]),(0,.ptr 11 0)],co l G log t,[]⟩ from ?_);have I:(dw l G 1 s.e1).bind (λ _=>gS l G 2 ([s.e0,s.e1,s.e2].drop 2)) log t=aQ:=I;refine go ?_;refine dk (λ A=>?_) (λ A=>?_)<;>try rw[A]
  ·refine go ?_;refine bh (vT aD (E s.e1) rfl rfl rfl rfl rfl rfl (by omega) (by omega) rfl) rfl rfl rfl ?_;refine go ?_;generalize F:decide (s.e1=0)=cc;cases cc
   ·rw[dw,if_neg (of_decide_eq_false F)] at I;refine go ?_;refine dW 11 [] ?_;refine gQ (lq l hL G 1 (by omega)) ?_;refine xX (iy l G log t (cE l G 1) 0 bw U) ?_ ?_
    ·rintro v Y ⟨a,aa,h,rfl,rfl⟩;refine gP ?_;exact fP _ ⟨a,aa,by rw[<-I];exact bj (bj h),rfl,rfl⟩
    rintro d Y ⟨u,s1,bO,fT,dc,rfl,rfl⟩;have mJ:gS l G 2 ([s.e0,s.e1,s.e2].drop 2) log {s1 with e1:=0}=aQ:=by rw[<-I];exact(az (f:=λ _=>gS l G 2 ([s.e0,s.e1,s.e2].drop 2)) (az (f:=λ _=>pM 1) bO)).symm
    refine go ?_;refine bh (gY aD rfl rfl rfl rfl rfl (by omega) (by omega)) rfl rfl rfl ?_;refine go ?_;exact⟨(2,{s1 with e1:=0}),⟨by simp only;omega,by simp only;omega,by simp only;omega,mJ⟩,by simp only;omega,zX⟩
   ·rw[dw,if_pos (of_decide_eq_true F)] at I;refine go ?_;exact⟨(2,t),⟨by simp only;omega,cY,bw,I⟩,by simp only;omega,zX⟩
  ·exact absurd A (by decide)
 ·refine(show aP _ _ _ _ ⟨[(8,E 2),(7,.agg [E s.e0,E s.e1,E s.e2]),(0,.ptr 11 0)],co l G log t,[]⟩ from ?_);have I:(dw l G 2 s.e2).bind (λ _=>gS l G 3 ([s.e0,s.e1,s.e2].drop 3)) log t=aQ:=I;refine go ?_;refine dk (λ A=>?_) (λ A=>?_)<;>try rw[A]
  ·refine go ?_;refine bh (vT aD (E s.e2) rfl rfl rfl rfl rfl rfl (by omega) (by omega) rfl) rfl rfl rfl ?_;refine go ?_;generalize F:decide (s.e2=0)=cc;cases cc
   ·rw[dw,if_neg (of_decide_eq_false F)] at I;refine go ?_;refine dW 11 [] ?_;refine gQ (lq l hL G 2 (by omega)) ?_;refine xX (iy l G log t (cE l G 2) 0 bw U) ?_ ?_
    ·rintro v Y ⟨a,aa,h,rfl,rfl⟩;refine gP ?_;exact fP _ ⟨a,aa,by rw[<-I];exact bj (bj h),rfl,rfl⟩
    rintro d Y ⟨u,s1,bO,fT,dc,rfl,rfl⟩;have mJ:gS l G 3 ([s.e0,s.e1,s.e2].drop 3) log {s1 with e2:=0}=aQ:=by rw[<-I];exact(az (f:=λ _=>gS l G 3 ([s.e0,s.e1,s.e2].drop 3)) (az (f:=λ _=>pM 2) bO)).symm
    refine go ?_;refine bh (gY aD rfl rfl rfl rfl rfl (by omega) (by omega)) rfl rfl rfl ?_;refine go ?_;exact⟨(3,{s1 with e2:=0}),⟨by simp only;omega,by simp only;omega,by simp only;omega,mJ⟩,by simp only;omega,zX⟩
   ·rw[dw,if_pos (of_decide_eq_true F)] at I;refine go ?_;exact⟨(3,t),⟨by simp only;omega,cY,bw,I⟩,by simp only;omega,zX⟩
  ·exact absurd A (by decide)
 ·refine(show aP _ _ _ _ ⟨[(8,E 3),(7,.agg [E s.e0,E s.e1,E s.e2]),(0,.ptr 11 0)],co l G log t,[]⟩ from ?_);refine go ?_;refine dk (λ A=>?_) (λ A=>?_)<;>try rw[A]
  ·exact absurd A (by decide)
  ·refine go ?_;exact fX _ ⟨(),t,I.symm,cY,bw,rfl,rfl⟩
theorem pT(g:List (Int×Int))(hg:g.length<=100000):CU prog 71 [eh g] 110 2 g.length (g6 g):=by
 have cD:(g6 g).length=g.length*2:=by
  clear hg;induction g with
  |nil=>rfl
  |cons x g ih=>unfold g6 at ih⊢;rw[List.flatMap_cons,List.length_append,ih];simp[Co];omega
 refine XP func71 rfl ntmps71 rfl rfl rfl λ w cl=>?_
 refine go ?_;refine On aD rfl rfl rfl rfl rfl rfl rfl λ c L=>?_
 cases c with
 |true=>have:g=[]:=List.eq_nil_of_length_eq_zero (L rfl);subst this;refine go ?_;exact XF rfl
 |false=>refine go ?_;refine nT (lu 5 0 110 2 rfl rfl rfl) ?_;refine go ?_;refine pA cD ?_;rw[Nat.zero_add,List.nil_append];refine go ?_;exact XG rfl rfl
theorem Dl(r f g0 g1:Int):bc prog 219 [E r,.el [pI f],.el [pI g0,pI g1]] (dB (fE f g1 r)):=by
 refine sP func219 ntmps219 λ w cl=>?_
 refine go ?_;generalize A:decide (f<=r)=cc;cases cc
 ·refine gf ?_;rw[fE,A];rfl
 ·refine go ?_;refine bh (Ls aD rfl rfl rfl rfl rfl (by omega) (by omega) rfl) rfl rfl rfl ?_;refine gf ?_;rw[fE,A];rfl
def mG(p:Int->Bool):List Int->Nat->Int
 |[],_=>-1
 |r::l,i=>if p r then i else mG p l (i+1)
theorem Gs(p:Int->Bool):∀(l:List Int)(i:Nat),decide (0<=mG p l i)=l.any p
 |[],i=>by simp[mG]
 |r::l,i=>by
  rw[mG,List.any_cons];cases h:p r
  ·simpa using Gs p l (i+1)
  ·simp
abbrev sF(f g0 g1:Int):K:=.fn (.func 219) [] [.el [pI f],.el [pI g0,pI g1]]
set_option maxHeartbeats 4000000 in
theorem EC(aw:List Int)(hh:aw.length<=1000000)(f g0 g1:Int):bc prog 217 [bX aw,sF f g0 g1] (E (mG (fE f g1) aw 0)):=by
 generalize I:mG (fE f g1) aw 0=aQ;refine sP func217 ntmps217 λ w cl=>?_
 refine go ?_;refine cn (λ i:Nat=>i<=aw.length/\mG (fE f g1) (aw.drop i) i=aQ) (λ i=>⟨[(8,E i),(7,E aw.length),(6,bX aw),(0,bX aw),(1,sF f g0 g1)],[],[]⟩) (λ i=>aw.length-i) 0 ⟨Nat.zero_le _,I⟩ (zX) ?_;rintro i ⟨hi,I⟩;refine go ?_;refine dk (λ A=>?_) (λ A=>?_)<;>try rw[A]
 ·have aU:=of_decide_eq_true A;have dT:i<aw.length:=by omega
  obtain⟨x,T⟩:=nh (l:=aw) (i:=i) (by omega) aU;have D:aw.drop i=x::aw.drop (i+1):=by rw[List.drop_eq_getElem_cons dT];simp only[Int.toNat_natCast] at T;rw[(List.getElem?_eq_some_iff.1 T).2]
  rw[D,mG] at I;refine go ?_;refine ai [pI x] (jE T) ?_;refine go ?_;refine bh (wP (Dl x f g0 g1) rfl (λ a w=>call219 a w) rfl rfl) rfl rfl rfl ?_;refine go ?_;generalize F:fE f g1 x=cc;cases cc
  ·rw[F,if_neg (by decide)] at I;refine go ?_;exact⟨i+1,⟨by omega,I⟩,by omega,zX⟩
  ·rw[F,if_pos rfl] at I;refine gf ?_;rw[I]
 ·have dT:aw.length<=i:=by have:=of_decide_eq_false A;omega
  rw[List.drop_of_length_le dT,mG] at I;refine gf ?_;rw[<-I]
theorem Dm(aw:List Int)(hh:aw.length<=1000000)(f g0 g1:Int):bc prog 196 [bX aw,sF f g0 g1] (dB (aw.any (fE f g1))):=by
 refine sP func196 ntmps196 λ w cl=>?_
 refine gA (EC aw hh f g0 g1) ?_;refine ez ?_;rw[<-Gs _ aw 0]
theorem H4:∀g:List (Int×Int),(g6 g).length=g.length*2
 |[]=>rfl
 |x::g=>by
  have ih:=H4 g;unfold g6 at ih⊢;rw[List.flatMap_cons,List.length_append,ih];simp[Co];omega
theorem Cm(g:List (Int×Int))(x:Int×Int):g6 (g++[x])=g6 g++[pI x.1,pI x.2]:=by simp[g6,Co]
theorem Dy{l:List (Int×Int)}{i:Int}{r:Int×Int}(h:l[i.toNat]?=some r):∀(m:Nat) q,[pI r.1,pI r.2][m]?=some q->(g6 l)[i.toNat*2+m]?=some q:=JO (f:=Co) (λ _=>rfl) h
theorem oW(a:List Int)(x:Int):cy a++[pI x]=cy (a++[x]):=by simp[cy]
def eN(g:List (Int×Int)):Prop:=∀p∈g,p.1<9223372036854775808
set_option maxHeartbeats 8000000 in
theorem Ay(l:ah)(hL:cr l)(G:Int)(log:List aF)(s:af)(n:Int)(hn:n<9223372036854775808)(fp:eN s.gone)(gU:s.gone.length<=10000)(hm:s.made<=log.length)(U:log.length<=1000000):fZ 216 l G log s [.ptr 11 0,E n] (lr l n log s) (λ _=>.bd []):=by
 have zi:=hL.ar;unfold mb at zi;generalize I:lr l n log s=aQ;unfold lr at I;refine sX func216 ntmps216 λ w cl own kf=>?_
 refine go ?_;refine xP (eC l G log s l.era hm U) ?_;rintro d Y ⟨er,s1,bO,fT,dc,rfl,rfl⟩;rw[az bO] at I;have fe:=fK bO;refine go ?_;refine gW 10 [] ?_;refine vP (pW l G log s1 ⟨4,l.era,0,1⟩ dc U) ?_;rintro d Y ⟨dr,s2,bg,fj,cN,rfl,rfl⟩;rw[az bg] at I;have d4:s2.gone=s.gone:=by rw[(vc bg).1,fe.1]
 rw[d4] at I;have un:s.made<=s2.made:=by omega
 clear bO bg fe fT fj dc;refine go ?_;refine Jb 0 (pT s2.gone (by rw[d4];omega)) rfl (λ a w=>call71 a w) rfl rfl rfl rfl rfl (H4 _) ?_;refine go ?_;refine oE aD rfl rfl rfl rfl rfl rfl rfl rfl rfl rfl rfl rfl rfl (by rw[d4];unfold maxLen;omega) (by show(_+_)*16<=_;rw[d4];omega) ?_;refine im ?_;refine nI ?_;refine ey (q6 11 (aS:=nH l G {s2 with gone:=s.gone++[(n,er)]}) rfl (by
  show List.map l7 _=_;have e:v9 (s.gone++[(n,er)])=.sl false (s.gone.length+1) (g6 s.gone++[pI n,pI er]):=by rw[v9,Cm,List.length_append];rfl
  simp only[List.map,l7,zZ,d4,nH,eh];rw[e])) ?_
 generalize xm:s.gone++[(n,er)]=gN at I;have Qr:gN.length=s.gone.length+1:=by rw[<-xm];simp
 have D4:eN gN:=by
  intro p hp;rw[<-xm] at hp;rcases List.mem_append.1 hp with hp|hp
  ·exact fp p hp
  ·simp at hp;rw[hp];exact hn
 have ew:IntKind.i64.wrap (2*l.ar)=2*l.ar:=eU (by omega) (by omega);refine ey (cb:=⟨[(0,.ptr 11 0)],co l G log {s2 with gone:=gN},[]⟩) (zX) ?_;generalize gx:({s2 with gone:=gN}:af)=s3 at I⊢;have cS:s3.made<=log.length:=by rw[<-gx];exact cN
 have fv:s.made<=s3.made:=by rw[<-gx];exact un
 have iD:s3.gone=gN:=by rw[<-gx]
 refine go ?_;refine gD [] ?_;rw[ew];refine qg ?_;rw[iD];generalize A:decide ((gN.length:Int)<2*l.ar)=cc;cases cc
 ·have aU:=of_decide_eq_false A;rw[if_neg (by omega),tB] at I;refine go ?_;refine ey (lu 5 0 3 1 rfl rfl rfl) ?_;refine cn (λ p:Nat×List Int×Nat×af=>p.1+p.2.2.1=l.ar.toNat/\p.2.1.length=3*p.1/\s.made<=p.2.2.2.made/\p.2.2.2.made<=log.length/\p.2.2.2.gone=gN/\(kz p.2.1 (j4 l p.1 p.2.2.1)).bind (λ aw=>(fx l aw gN []).bind λ aL=>jq aL) log p.2.2.2=aQ) (λ p=>⟨[(62,E p.1),(61,E l.ar),(5,.aW 0 p.2.1.length (cy p.2.1)),(0,.ptr 11 0)],co l G log p.2.2.2,[(0,⟨3,1,p.2.1.length⟩)]⟩) (λ p=>p.2.2.1) (0,[],l.ar.toNat,s3) ⟨by simp,rfl,fv,cS,iD,I⟩ (zX) ?_;rintro⟨j,acc,m,t⟩ ⟨hj,ni,cY,bw,ff,I⟩;simp only at hj ni cY bw ff I;refine(show aP _ _ _ _ ⟨[(62,E j),(61,E l.ar),(5,.aW 0 acc.length (cy acc)),(0,.ptr 11 0)],co l G log t,[(0,⟨3,1,acc.length⟩)]⟩ from ?_);refine go ?_;refine dk (λ F=>?_) (λ F=>?_)<;>try rw[F]
  ·have bB:=of_decide_eq_true F;obtain⟨m,rfl⟩:∃k,m=k+1:=⟨m-1,by omega⟩;rw[j4] at I;refine go ?_;refine cn (λ q:Nat×List Int×af=>q.1<=3/\q.2.1.length=3*j+q.1/\s.made<=q.2.2.made/\q.2.2.made<=log.length/\q.2.2.gone=gN/\(kz q.2.1 (([cE l j 0,cE l j 1,cE l j 2].drop q.1)++j4 l (j+1) m)).bind (λ aw=>(fx l aw gN []).bind λ aL=>jq aL) log q.2.2=aQ) (λ q=>⟨[(65,E q.1),(62,E j),(61,E l.ar),(6,E j),(5,.aW 0 q.2.1.length (cy q.2.1)),(0,.ptr 11 0)],co l G log q.2.2,[(0,⟨3,1,q.2.1.length⟩)]⟩) (λ q=>3-q.1) (0,acc,t) ⟨by simp only;omega,by simp only;omega,cY,bw,ff,I⟩ (zX) ?_;rintro⟨i,ac,t⟩ ⟨hi,DQ,cY,bw,ff,I⟩;simp only at hi DQ cY bw ff I;rcases(show i=0\/i=1\/i=2\/i=3 by omega) with rfl|rfl|rfl|rfl
   ·refine(show aP _ _ _ _ ⟨[(65,E 0),(62,E j),(61,E l.ar),(6,E j),(5,.aW 0 ac.length (cy ac)),(0,.ptr 11 0)],co l G log t,[(0,⟨3,1,ac.length⟩)]⟩ from ?_);have I:((cZ (cE l j 0)).bind λ v=>kz (ac++[v]) (([cE l j 0,cE l j 1,cE l j 2].drop 1)++j4 l (j+1) m)).bind (λ aw=>(fx l aw gN []).bind λ aL=>jq aL) log t=aQ:=I;rw[bind_assoc] at I;refine go ?_;refine dk (λ O=>?_) (λ O=>?_)<;>try rw[O]
    ·refine gA (lq l hL j 0 (by omega)) ?_;refine xP (eC l G log t (cE l j 0) bw U) ?_;rintro d Y ⟨v,s4,cX,jf,eQ,rfl,rfl⟩;rw[az cX] at I;have jz:s4.gone=gN:=by rw[(fK cX).1];exact ff
     refine go ?_;refine pA rfl ?_;rw[oW,show ac.length+1=(ac++[v]).length by simp];refine go ?_;exact⟨(1,ac++[v],s4),⟨by simp only;omega,by simp only[List.length_append,List.length_cons,List.length_nil];omega,by simp only;omega,eQ,jz,I⟩,by simp only;omega,zX⟩
    ·exact absurd O (by decide)
   ·refine(show aP _ _ _ _ ⟨[(65,E 1),(62,E j),(61,E l.ar),(6,E j),(5,.aW 0 ac.length (cy ac)),(0,.ptr 11 0)],co l G log t,[(0,⟨3,1,ac.length⟩)]⟩ from ?_);have I:((cZ (cE l j 1)).bind λ v=>kz (ac++[v]) (([cE l j 0,cE l j 1,cE l j 2].drop 2)++j4 l (j+1) m)).bind (λ aw=>(fx l aw gN []).bind λ aL=>jq aL) log t=aQ:=I;rw[bind_assoc] at I;refine go ?_;refine dk (λ O=>?_) (λ O=>?_)<;>try rw[O]
    ·refine gA (lq l hL j 1 (by omega)) ?_;refine xP (eC l G log t (cE l j 1) bw U) ?_;rintro d Y ⟨v,s4,cX,jf,eQ,rfl,rfl⟩;rw[az cX] at I;have jz:s4.gone=gN:=by rw[(fK cX).1];exact ff
     refine go ?_;refine pA rfl ?_;rw[oW,show ac.length+1=(ac++[v]).length by simp];refine go ?_;exact⟨(2,ac++[v],s4),⟨by simp only;omega,by simp only[List.length_append,List.length_cons,List.length_nil];omega,by simp only;omega,eQ,jz,I⟩,by simp only;omega,zX⟩
    ·exact absurd O (by decide)
   ·refine(show aP _ _ _ _ ⟨[(65,E 2),(62,E j),(61,E l.ar),(6,E j),(5,.aW 0 ac.length (cy ac)),(0,.ptr 11 0)],co l G log t,[(0,⟨3,1,ac.length⟩)]⟩ from ?_);have I:((cZ (cE l j 2)).bind λ v=>kz (ac++[v]) (([cE l j 0,cE l j 1,cE l j 2].drop 3)++j4 l (j+1) m)).bind (λ aw=>(fx l aw gN []).bind λ aL=>jq aL) log t=aQ:=I;rw[bind_assoc] at I;refine go ?_;refine dk (λ O=>?_) (λ O=>?_)<;>try rw[O]
    ·refine gA (lq l hL j 2 (by omega)) ?_;refine xP (eC l G log t (cE l j 2) bw U) ?_;rintro d Y ⟨v,s4,cX,jf,eQ,rfl,rfl⟩;rw[az cX] at I;have jz:s4.gone=gN:=by rw[(fK cX).1];exact ff
     refine go ?_;refine pA rfl ?_;rw[oW,show ac.length+1=(ac++[v]).length by simp];refine go ?_;exact⟨(3,ac++[v],s4),⟨by simp only;omega,by simp only[List.length_append,List.length_cons,List.length_nil];omega,by simp only;omega,eQ,jz,I⟩,by simp only;omega,zX⟩
    ·exact absurd O (by decide)
   ·refine(show aP _ _ _ _ ⟨[(65,E 3),(62,E j),(61,E l.ar),(6,E j),(5,.aW 0 ac.length (cy ac)),(0,.ptr 11 0)],co l G log t,[(0,⟨3,1,ac.length⟩)]⟩ from ?_);refine go ?_;refine dk (λ O=>?_) (λ O=>?_)<;>try rw[O]
    ·exact absurd O (by decide)
    ·refine go ?_;exact⟨(j+1,ac,m,t),⟨by simp only;omega,by simp only;omega,cY,bw,ff,I⟩,by simp only;omega,zX⟩
  ·have bB:=of_decide_eq_false F;obtain rfl:m=0:=by omega
   have I:((fx l acc gN []).bind λ aL=>jq aL) log t=aQ:=I;subst ff;refine ey (B3 5 (d9:=bX acc) rfl rfl) ?_;refine go ?_;refine ey (lu 8 1 110 2 rfl rfl rfl) ?_;refine cn (λ q:Nat×List (Int×Int)×af=>q.1<=t.gone.length/\q.2.1.length<=q.1/\s.made<=q.2.2.made/\q.2.2.made<=log.length/\((fx l acc (t.gone.drop q.1) q.2.1).bind λ aL=>jq aL) log q.2.2=aQ) (λ q=>⟨[(87,E q.1),(86,E t.gone.length),(85,eh t.gone),(8,.aW 1 q.2.1.length (g6 q.2.1)),(5,bX acc),(0,.ptr 11 0)],co l G log q.2.2,[(1,⟨110,2,q.2.1.length⟩)]⟩) (λ q=>t.gone.length-q.1) (0,[],t) ⟨Nat.zero_le _,Nat.le_refl _,cY,bw,I⟩ (zX) ?_;rintro⟨i,aL,u⟩ ⟨hi,jD,ut,mo,I⟩;simp only at hi jD ut mo I;refine(show aP _ _ _ _ ⟨[(87,E i),(86,E t.gone.length),(85,eh t.gone),(8,.aW 1 aL.length (g6 aL)),(5,bX acc),(0,.ptr 11 0)],co l G log u,[(1,⟨110,2,aL.length⟩)]⟩ from ?_);refine go ?_;refine dk (λ O=>?_) (λ O=>?_)<;>try rw[O]
   ·have dt:=of_decide_eq_true O;have dT:i<t.gone.length:=by omega
    obtain⟨gg,oL⟩:=nh (l:=t.gone) (i:=i) (by omega) dt;have xn:=D4 gg (List.mem_of_getElem? oL);have D:t.gone.drop i=gg::t.gone.drop (i+1):=by rw[List.drop_eq_getElem_cons dT];simp only[Int.toNat_natCast] at oL;rw[(List.getElem?_eq_some_iff.1 oL).2]
    rw[D,fx,bind_assoc] at I;refine go ?_;refine ai [pI gg.1,pI gg.2] (Dy oL) ?_;refine go ?_;refine bh (gY aD rfl rfl rfl rfl rfl (by omega) (by omega)) rfl rfl rfl ?_;refine go ?_;refine lA (gJ l hL G u gg.1 6 xn (by omega)) ?_;refine go ?_;refine xP (eC l G log u (aN l gg.1 6) mo U) ?_;rintro d Y ⟨bi,s5,dD,li,eW,rfl,rfl⟩;rw[az dD] at I;refine go ?_;refine bh (HR rfl rfl rfl) rfl rfl rfl ?_;refine(show bq _ _ _ _ _ ⟨(97,E (kT bi))::_,_,_⟩ from ?_);refine go ?_;refine lA (Dm acc (by omega) (kT bi) gg.1 gg.2) ?_;refine go ?_;generalize h4:acc.any (fE (kT bi) gg.2)=cc;cases cc
    ·rw[h4,if_neg (by decide),bind_assoc] at I;refine go ?_;refine bh (gY aD rfl rfl rfl rfl rfl (by omega) (by omega)) rfl rfl rfl ?_;refine go ?_;refine xP (w9 l hL G log s5 gg.1 xn eW U) ?_;rintro d Y ⟨uu,s6,kw,vC,nt,rfl,rfl⟩;rw[az kw] at I;refine go ?_;exact⟨(i+1,aL,s6),⟨by simp only;omega,by simp only;omega,by simp only;omega,nt,I⟩,by simp only;omega,zX⟩
    ·rw[h4,if_pos rfl] at I;refine go ?_;refine pA rfl ?_;rw[<-Cm aL gg,show aL.length+1=(aL++[gg]).length by simp];refine go ?_;exact⟨(i+1,aL++[gg],s5),⟨by simp only;omega,by simp only[List.length_append,List.length_cons,List.length_nil];omega,by simp only;omega,eW,I⟩,by simp only;omega,zX⟩
   ·have dt:=of_decide_eq_false O;rw[List.drop_of_length_le (by omega),fx] at I;have I:(Except.ok ((),{u with gone:=aL}):Except aX (Unit×af))=aQ:=I;refine ey (B3 8 (d9:=eh aL) rfl rfl) ?_;refine go ?_;exact fX _ ⟨(),{u with gone:=aL},I.symm,ut,mo,rfl,rfl⟩
 ·have aU:=of_decide_eq_true A;rw[if_pos (by omega)] at I;refine go ?_;exact fX _ ⟨(),s3,I.symm,fv,cS,rfl,rfl⟩
abbrev kj(o:aY):K:=.agg [E o.val,dB o.is,E o.err,E o.c6,eh o.gone]
abbrev lU(o:aY):K:=.agg [E o.val,dB o.is,E o.err,E o.c6,.p (.sl true 0 [])]
abbrev r9(o:bl):List K:=[E o.kind,E o.obj,E o.a,E o.b]
abbrev JD(o:bl):K:=.agg (r9 o)
theorem Fy{l:ah}:∀{k:Nat}{log:List aF}{s aa:af}{p:Int×Int×Bool},ou l k log s=.ok (p,aa)->p.1<65536/\aa.gone=s.gone
 |0,log,s,aa,p,h=>by cases h;exact⟨by simp,rfl⟩
 |k+1,log,s,aa,p,h=>by
  rw[ou] at h;cases A:cZ l.free log s with
  |error a=>rw[bj A] at h;cases h
  |ok q=>
   obtain⟨fr,s1⟩:=q;rw[az A] at h;have g1:s1.gone=s.gone:=by rw[(fK A).1]
   split at h
   ·rw[az eu] at h;cases h;exact⟨by simp,g1⟩
   ·cases F:cZ (aN l (ae fr).idx 7) log s1 with
    |error a=>rw[bj F] at h;cases h
    |ok q=>
     obtain⟨lk,s2⟩:=q;rw[az F] at h;have g2:s2.gone=s.gone:=by rw[(fK F).1];exact g1
     cases O:fN l.free fr (bK (ca (ae fr) lk)) log s2 with
     |error a=>rw[bj O] at h;cases h
     |ok q=>
      obtain⟨ok,s3⟩:=q;rw[az O] at h;have g3:s3.gone=s.gone:=by rw[(ja O).1];exact g2
      split at h
      ·rw[az eu] at h;cases h4:cZ l.era log s3 with
       |error a=>rw[bj h4] at h;cases h
       |ok q=>
        obtain⟨bi,s4⟩:=q;rw[az h4] at h;have g4:s4.gone=s.gone:=by rw[(fK h4).1];exact g3
        cases h5:fA (aN l (ae fr).idx 6) bi log s4 with
        |error a=>rw[bj h5] at h;cases h
        |ok q=>obtain⟨u,s5⟩:=q;rw[az h5] at h;cases h;exact⟨(kU fr).2,by rw[(ot h5).1];exact g4⟩
      ·obtain⟨a,b⟩:=Fy h;exact⟨a,b.trans g3⟩
theorem adM(x:af)(i v:Int):(x.fb i v).gone=x.gone:=by
 unfold af.fb;split
 ·rfl
 ·split<;>rfl
theorem Bm{l:ah}{G i cell:Int}:∀{k:Nat}{log:List aF}{s aa:af}{p:Int×Int},lC l G i cell k log s=.ok (p,aa)->aa.gone=s.gone
 |0,log,s,aa,p,h=>by cases h;rfl
 |k+1,log,s,aa,p,h=>by
  rw[lC] at h;cases A:cZ cell log s with
  |error a=>rw[bj A] at h;cases h
  |ok q=>
   obtain⟨v,s1⟩:=q;rw[az A,az eu] at h;have g1:s1.gone=s.gone:=by rw[(fK A).1]
   cases F:cZ l.era log s1 with
   |error a=>rw[bj F] at h;cases h
   |ok q=>
    obtain⟨er,s2⟩:=q;rw[az F] at h;have g2:s2.gone=s.gone:=by rw[(fK F).1];exact g1
    split at h
    ·cases h;exact g2
    ·cases O:fA (cE l G i) er log s2 with
     |error a=>rw[bj O] at h;cases h
     |ok q=>
      obtain⟨u,s3⟩:=q;rw[az O] at h;have g3:s3.gone=s.gone:=by rw[(ot O).1];exact g2
      exact((Bm h).trans (adM _ _ _)).trans g3
theorem WZ{l:ah}{G:Int}{i:Nat}{e:Int}{log:List aF}{s aa:af}{u:Unit}(h:dw l G i e log s=.ok (u,aa)):aa.gone=s.gone:=by
 unfold dw at h;split at h
 ·cases h;rfl
 ·cases O:fA (cE l G i) 0 log s with
  |error a=>rw[bj O] at h;cases h
  |ok q=>
   obtain⟨u,s3⟩:=q;rw[az O] at h;have g3:s3.gone=s.gone:=by rw[(ot O).1]
   unfold pM at h;cases h;split<;>exact g3
theorem jP{l:ah}{G:Int}:∀{es:List Int}{i:Nat}{log:List aF}{s aa:af}{u:Unit},gS l G i es log s=.ok (u,aa)->aa.gone=s.gone
 |[],i,log,s,aa,u,h=>by cases h;rfl
 |e::es,i,log,s,aa,u,h=>by
  rw[gS] at h;cases A:dw l G i e log s with
  |error a=>rw[bj A] at h;cases h
  |ok q=>obtain⟨u,s1⟩:=q;rw[az A] at h;exact(jP h).trans (WZ A)
theorem M6{l:ah}{aw:List Int}:∀{gs aL:List (Int×Int)}{log:List aF}{s aa:af}{r:List (Int×Int)},fx l aw gs aL log s=.ok (r,aa)->r.length<=gs.length+aL.length
 |[],aL,log,s,aa,r,h=>by cases h;simp
 |g::gs,aL,log,s,aa,r,h=>by
  rw[fx] at h;cases A:cZ (aN l g.1 6) log s with
  |error a=>rw[bj A] at h;cases h
  |ok q=>
   obtain⟨b,s1⟩:=q;rw[az A] at h;split at h
   ·have:=M6 h;simp at this⊢;omega
   ·cases F:oI l g.1 log s1 with
    |error a=>rw[bj F] at h;cases h
    |ok q=>obtain⟨u,s2⟩:=q;rw[az F] at h;have:=M6 h;simp at this⊢;omega
theorem Ff{l:ah}{n:Int}{log:List aF}{s aa:af}{u:Unit}(h:lr l n log s=.ok (u,aa)):aa.gone.length<=s.gone.length+1:=by
 unfold lr at h;cases A:cZ l.era log s with
 |error a=>rw[bj A] at h;cases h
 |ok q=>
  obtain⟨er,s1⟩:=q;rw[az A] at h;have g1:s1.gone=s.gone:=by rw[(fK A).1]
  cases F:fO ⟨4,l.era,0,1⟩ log s1 with
  |error a=>rw[bj F] at h;cases h
  |ok q=>
   obtain⟨r,s2⟩:=q;rw[az F] at h;have g2:s2.gone=s.gone:=by rw[(vc F).1];exact g1
   split at h
   ·cases h;simp[g2]
   ·unfold tB at h;cases O:kz [] (j4 l 0 l.ar.toNat) log {s2 with gone:=s2.gone++[(n,er)]} with
    |error a=>rw[bj O] at h;cases h
    |ok q=>
     obtain⟨aw,s3⟩:=q;rw[az O] at h;cases h4:fx l aw (s2.gone++[(n,er)]) [] log s3 with
     |error a=>rw[bj h4] at h;cases h
     |ok q=>obtain⟨aL,s4⟩:=q;rw[az h4] at h;unfold jq at h;cases h;have:=M6 h4;simp[g2] at this⊢;omega
theorem tz(g:List (Int×Int))(hg:g.length<=100000):bc prog 185 [eh g] (.bd [fC eZ,kj ⟨0,false,1,-1,g⟩,dB true]):=by
 refine sP func185 ntmps185 λ w cl=>?_
 refine gA ((pT g hg).pure) ?_;refine ez ?_
 rfl
theorem Db(l:ah)(G:Int)(g:List (Int×Int))(log:List aF):eI prog 186 [] [dP l,E G,eh g,gT log] [] (λ d Y=>d=.ptr 11 0/\Y=co l G log ⟨0,g,0,0,0⟩):=by
 refine sI func186 ntmps186 λ w cl own kf=>?_
 refine gE ?_;refine bA 0 ?_;refine bA 13 ?_;refine nP aD rfl rfl rfl rfl ?_;refine kM ?_;refine gE ?_;refine nP aD rfl rfl rfl rfl ?_;refine nP aD rfl rfl rfl rfl ?_;refine nP aD rfl rfl rfl rfl ?_;refine bh (A4 aD rfl rfl rfl) rfl rfl rfl ?_;refine bA 11 ?_;refine nA 12 ?_;refine go ?_;refine iB (co l G log ⟨0,g,0,0,0⟩) rfl rfl (by(repeat(first|exact trivial|refine⟨⟨rfl,rfl⟩,?_⟩))) trivial ?_;exact⟨rfl,rfl⟩
abbrev jo(a:aX)(od:List K)(dn:Bool):bJ:=[(22,[E a.kind,E a.cell,E a.dg,E a.new]),(21,[.any]),(23,od),(24,[dB dn])]
abbrev oU(o:aY):List K:=[E o.val,dB o.is,E o.err,E o.c6,eh o.gone]
theorem Ar{e:aC}{vs:List Value}(a:aX)(o:aY)(dn:Bool)(hI:fY (jo a (oU o) dn) e)(hv:DReps e vs [.ptr 22 0,.ptr 21 0,.ptr 23 0,.ptr 24 0]):
 CallsD prog 204 vs.toArray .returning e.w λ r u2 aM=>∃ab aq,r=.returned (.tuple #[])/\u2=.returning/\ab.w=aM/\fY aq ab/\Left [21,22,23,24] e ab/\aq=jo a (oU o) dn:=by
 refine xQ (ap:=tb) func204 rfl ntmps204 rfl rfl rfl (by(repeat(first|exact trivial|refine⟨rfl,?_⟩))) (λ _ _=>rfl) (λ _=>rfl) rfl rfl .no (λ w cl own kf=>?_) hI hv;refine go ?_;refine bh (Hw underlying20 rfl rfl) rfl rfl rfl ?_;refine go ?_;refine km (jo a (oU o) dn) rfl rfl (by(repeat(first|exact trivial|refine⟨⟨rfl,rfl⟩,?_⟩))) (by(repeat(first|exact trivial|refine⟨rfl,?_⟩))) rfl
theorem As{e:aC}{vs:List Value}(a bs:aX)(od:List K)(ho:od=[E 0,dB false,E 0,E 0,.p (.sl true 0 [])])(dn:Bool)(hI:fY (jo a od dn) e)(hv:DReps e vs [.ptr 22 0,.ptr 21 0,.ptr 23 0,.ptr 24 0]):
 CallsD prog 204 vs.toArray (.panicking [pe (iK bs)]) e.w λ r u2 aM=>∃ab aq,r=.returned (.tuple #[])/\u2=.panicking [{v:=iK bs,recovered:=true}]/\ab.w=aM/\fY aq ab/\Left [21,22,23,24] e ab/\aq=jo bs od dn:=by
 subst ho;refine xQ (ap:=tb) func204 rfl ntmps204 rfl rfl rfl (by(repeat(first|exact trivial|refine⟨rfl,?_⟩))) (λ _ _=>rfl) (λ _=>rfl) rfl rfl (.yes (iK bs)) (λ w cl own kf=>?_) hI hv;refine go ?_;refine bh (Hx underlying20 rfl rfl) rfl rfl rfl ?_;refine go ?_;refine bh (FQ aD rfl rfl rfl rfl) rfl rfl rfl ?_;refine go ?_;refine km (jo bs _ dn) rfl rfl (by(repeat(first|exact trivial|refine⟨⟨rfl,rfl⟩,?_⟩))) (by(repeat(first|exact trivial|refine⟨rfl,?_⟩))) rfl
set_option maxHeartbeats 4000000 in
theorem abM(a:aX):bc prog 104 [fC a] (dB (wk a)):=by
 generalize I:wk a=aQ;unfold wk at I;refine sP func104 ntmps104 λ w cl=>?_
 refine go ?_;generalize h0:decide (a.cell<0)=cc;cases cc
 ·rw[decide_eq_true (show 0<=a.cell by have:=of_decide_eq_false h0;omega),Bool.true_and] at I;refine go ?_;generalize A:decide (a.kind=1)=cc;cases cc
  ·have aU:=of_decide_eq_false A;rw[if_neg aU] at I;refine go ?_;generalize F:decide (a.kind=2)=cc;cases cc
   ·have bB:=of_decide_eq_false F;refine go ?_;generalize h4:decide (a.kind=4)=cc;cases cc
    ·have rI:=of_decide_eq_false h4;refine go ?_;generalize h5:decide (a.kind=5)=cc;cases cc
     ·have vh:=of_decide_eq_false h5;rw[if_neg (by omega)] at I;refine go ?_;generalize O:decide (a.kind=3)=cc;cases cc
      ·rw[O] at I;refine gf ?_;rw[<-I]
      ·rw[O] at I;refine gf ?_;rw[<-I]
     ·rw[if_pos (by have:=of_decide_eq_true h5;omega)] at I;refine gf ?_;rw[<-I]
    ·rw[if_pos (by have:=of_decide_eq_true h4;omega)] at I;refine gf ?_;rw[<-I]
   ·rw[if_pos (by have:=of_decide_eq_true F;omega)] at I;refine gf ?_;rw[<-I]
  ·rw[if_pos (of_decide_eq_true A)] at I;refine go ?_;generalize F:decide (a.new=0)=cc;cases cc
   ·rw[F] at I;refine gf ?_;rw[<-I];rfl
   ·rw[F] at I;refine gf ?_;rw[<-I];rfl
 ·rw[decide_eq_false (show¬0<=a.cell by have:=of_decide_eq_true h0;omega)] at I;refine gf ?_;rw[<-I];rfl
theorem Xy(n:Int)(a:aX):bc prog 67 [E n,fC a] (E (nc n a)):=by
 generalize I:nc n a=aQ;unfold nc at I;refine sP func67 ntmps67 λ w cl=>?_
 refine gA (abM a) ?_;generalize A:wk a=cc;cases cc
 ·rw[A,if_neg (by decide)] at I;refine gf ?_;rw[<-I]
 ·rw[A,if_pos rfl] at I;refine go ?_;generalize F:decide (n<=a.cell)=cc;cases cc
  ·rw[if_neg (of_decide_eq_false F)] at I;refine gf ?_;rw[<-I]
  ·rw[if_pos (of_decide_eq_true F)] at I;refine gf ?_;rw[<-I]
theorem wrap64(x:Int):IntKind.i64.wrap x=m4 x:=by show(if(true&&decide (x%18446744073709551616>=9223372036854775808))=true then x%18446744073709551616-18446744073709551616 else x%18446744073709551616)=m4 x;unfold m4;simp only[Bool.true_and,decide_eq_true_eq];split<;>split<;>omega
theorem acU{xs:List Int}{cs:List K}(h:cs.take xs.length=(cy xs).map K.p){x:Nat}(T:x<xs.length):cs[x]?=some (E (dp xs x)):=by
 have F:xs[x]?=some (dp xs x):=by simp[dp,T]
 have A:(cs.take xs.length)[x]?=some (E (dp xs x)):=by rw[h,List.getElem?_map,S9 F];rfl
 rw[List.getElem?_take,if_pos T] at A;exact A
theorem Ml{xs:List Int}{cs:List K}(h:cs.take xs.length=(cy xs).map K.p)(x:Nat)(v:Int):(cs.set x (E v)).take xs.length=(cy (xs.set x v)).map K.p:=by rw[List.take_set,h];unfold cy;simp[List.map_set]
theorem Mr{cs:List K}(h:fy cs){i:Nat}{n:Int}:fy (cs.set i (E n)):=by
 intro B au;have A:=h B au;clear h;induction cs generalizing i with
 |nil=>rfl
 |cons d cs ih=>
  simp only[K.ok.eR,Bool.and_eq_true] at A;cases i with
  |zero=>simp only[List.set_cons_zero,K.ok.eR,Bool.and_eq_true];exact⟨rfl,A.2⟩
  |succ i=>simp only[List.set_cons_succ,K.ok.eR,Bool.and_eq_true];exact⟨A.1,ih A.2⟩
set_option maxHeartbeats 4000000 in
theorem afA(xs:List Int)(k:Int)(x:Nat)(o nw:Int)(T:x<xs.length)(_:xs.length<=1000000)(c:Nat)(cs:List K)(rR:cs.length=c)(L:xs.length<=c)(pz:cs.take xs.length=(cy xs).map K.p)(bH:fy cs):
 eI prog 68 [9] [.arr 9 0 xs.length c,.agg [E k,E x,E o,E nw]] [(9,cs)] (λ d Y=>d=yz (ii xs ⟨k,x,o,nw⟩).2/\∃aS,Y=[(9,aS)]/\aS.length=c/\aS.take xs.length=(cy (ii xs ⟨k,x,o,nw⟩).1).map K.p/\fy aS):=by
 have hg:=acU pz T;generalize hv:dp xs x=v at hg;generalize I:ii xs ⟨k,x,o,nw⟩=aQ;unfold ii at I;simp only[Int.toNat_natCast,hv,<-wrap64] at I;have fe:=Ml pz x nw;have fD:=Ml pz x (IntKind.i64.wrap (v+nw));have ta:fy (cs.set x (E nw)):=Mr bH;have xu:fy (cs.set x (E (IntKind.i64.wrap (v+nw)))):=Mr bH;refine sI func68 ntmps68 λ w cl own kf=>?_
 refine go ?_;refine aj x 1 ?_;refine bh (jV aD rfl rfl rfl rfl rfl hg) rfl rfl rfl ?_;refine go ?_;generalize O:decide (k=3)=cc;cases cc
 ·have dt:=of_decide_eq_false O;rw[if_neg dt] at I;refine go ?_;generalize F:decide (k=2)=cc;cases cc
  ·have bB:=of_decide_eq_false F;refine go ?_;generalize h5:decide (k=5)=cc;cases cc
   ·have vh:=of_decide_eq_false h5;rw[if_neg (by omega)] at I;refine go ?_;generalize h4:decide (k=4)=cc;cases cc
    ·rw[if_neg (of_decide_eq_false h4)] at I;refine go ?_;refine iB [(9,cs)] rfl rfl ⟨⟨rfl,bH _ _⟩,trivial⟩ ⟨rfl,trivial⟩ ?_;rw[<-I];exact⟨rfl,cs,rfl,rR,pz,bH⟩
    ·rw[if_pos (of_decide_eq_true h4)] at I;refine go ?_;refine aj x 1 ?_;refine pQ aD rfl rfl rfl rfl rfl rfl rfl rfl rfl (by rw[rR];omega) ?_;refine go ?_;refine iB [(9,cs.set x (E (IntKind.i64.wrap (v+nw))))] rfl rfl ⟨⟨rfl,xu _ _⟩,trivial⟩ ⟨rfl,trivial⟩ ?_;rw[<-I];exact⟨rfl,_,rfl,by rw[List.length_set];exact rR,fD,xu⟩
   ·rw[if_pos (by have:=of_decide_eq_true h5;omega)] at I;refine go ?_;refine aj x 1 ?_;refine pQ aD rfl rfl rfl rfl rfl rfl rfl rfl rfl (by rw[rR];omega) ?_;refine go ?_;refine iB [(9,cs.set x (E nw))] rfl rfl ⟨⟨rfl,ta _ _⟩,trivial⟩ ⟨rfl,trivial⟩ ?_;rw[<-I];exact⟨rfl,_,rfl,by rw[List.length_set];exact rR,fe,ta⟩
  ·rw[if_pos (by have:=of_decide_eq_true F;omega)] at I;refine go ?_;refine aj x 1 ?_;refine pQ aD rfl rfl rfl rfl rfl rfl rfl rfl rfl (by rw[rR];omega) ?_;refine go ?_;refine iB [(9,cs.set x (E nw))] rfl rfl ⟨⟨rfl,ta _ _⟩,trivial⟩ ⟨rfl,trivial⟩ ?_;rw[<-I];exact⟨rfl,_,rfl,by rw[List.length_set];exact rR,fe,ta⟩
 ·rw[if_pos (of_decide_eq_true O)] at I;refine go ?_;generalize h4:decide (v=o)=cc;cases cc
  ·rw[if_neg (of_decide_eq_false h4)] at I;refine go ?_;refine iB [(9,cs)] rfl rfl ⟨⟨rfl,bH _ _⟩,trivial⟩ ⟨rfl,trivial⟩ ?_;rw[<-I];exact⟨rfl,cs,rfl,rR,pz,bH⟩
  ·rw[if_pos (of_decide_eq_true h4)] at I;refine go ?_;refine aj x 1 ?_;refine pQ aD rfl rfl rfl rfl rfl rfl rfl rfl rfl (by rw[rR];omega) ?_;refine go ?_;refine iB [(9,cs.set x (E nw))] rfl rfl ⟨⟨rfl,ta _ _⟩,trivial⟩ ⟨rfl,trivial⟩ ?_;rw[<-I];exact⟨rfl,_,rfl,by rw[List.length_set];exact rR,fe,ta⟩
def Vn(ls:List Int)(d:K)(Y:List (Nat×List K)):Prop:=∃c cs,d=.arr 9 0 ls.length c/\Y=[(9,cs)]/\cs.length=c/\ls.length<=c/\c<=maxLen/\cs.take ls.length=(cy ls).map K.p/\fy cs
theorem WY(ls:List Int)(h0:0<ls.length)(U:ls.length<=1000000):eI prog 66 [] [bX ls] [] (Vn ls):=by
 refine sI func66 ntmps66 λ w cl own kf=>?_
 refine go ?_;refine On aD rfl rfl rfl rfl rfl rfl rfl λ c L=>?_
 cases c with
 |true=>exact absurd (L rfl) (by omega)
 |false=>refine go ?_;refine Ol aD 9 rfl rfl rfl rfl rfl rfl rfl rfl rfl rfl rfl rfl rfl h0 (v8 ls) (by unfold maxLen;omega) (by show _*8<=_;omega) (λ aS cg A F O h4 h5=>?_);refine go ?_;refine iB [(9,aS)] rfl rfl (by(repeat(first|exact trivial|refine⟨⟨rfl,h5 _ _⟩,?_⟩))) trivial ?_;exact⟨cg,aS,rfl,rfl,A,O,F,h4,h5⟩
theorem Lu(l:List Int):∀x∈cy l,x.lf=true:=by
 intro x T;simp only[cy,List.mem_map] at T;obtain⟨i,_,rfl⟩:=T
 rfl
abbrev jw(xs:List Int):K:=.agg [bX xs]
theorem FE(xs:List Int)(a:aX):(ii xs a).1.length=xs.length:=by
 unfold ii
 repeat' split
 all_goals simp
theorem XA{n:Int}{a:aX}(h:nc n a=0):0<=a.cell/\a.cell<n:=by
 unfold nc at h;split at h
 ·rename_i hr;unfold wk at hr;simp only[Bool.and_eq_true,decide_eq_true_eq] at hr;split at h
  ·omega
  ·exact⟨hr.1,by omega⟩
 ·omega
set_option maxHeartbeats 4000000 in
theorem abK(xs:List Int)(a:aX)(hn:xs.length<=1000000):bc prog 103 [jw xs,fC a] (.bd [jw (Cc xs a).1,yz (Cc xs a).2.1,E (Cc xs a).2.2]):=by
 generalize I:Cc xs a=aQ;unfold Cc at I;refine sP func103 ntmps103 λ w cl=>?_
 refine gA (Xy xs.length a) ?_;generalize A:decide (nc xs.length a=0)=cc;cases cc
 ·rw[if_neg (of_decide_eq_false A)] at I;refine gf ?_;rw[<-I]
 ·have aU:=of_decide_eq_true A;rw[if_pos aU] at I;obtain⟨ip,cM⟩:=XA aU;have nv:=FE xs a;refine go ?_;refine il (WY xs (by omega) hn) rfl (λ a w=>call66 a w) rfl rfl trivial trivial rfl rfl rfl rfl ?_ ?_
  ·rintro d Y ⟨c,cs,rfl,rfl,_⟩;exact⟨.inr rfl,trivial⟩
  rintro d Y ⟨c,cs,rfl,rfl,rR,L,lc,pz,bH⟩;have hT:=afA xs a.kind a.cell.toNat a.dg a.new (by omega) hn c cs rR L pz bH;rw[show((a.cell.toNat:Nat):Int)=a.cell by omega] at hT;refine go ?_;refine il hT rfl (λ a w=>call68 a w) rfl rfl (by(repeat(first|exact trivial|refine⟨⟨rfl,bH _ _⟩,?_⟩))) (by(repeat(first|exact trivial|refine⟨.inr rfl,?_⟩))) rfl rfl rfl rfl ?_ ?_
  ·rintro d Y ⟨_,aS,rfl,_⟩;exact⟨.inl rfl,trivial⟩
  rintro d Y ⟨rfl,aS,rfl,k1,k2,k3⟩;refine im ?_;refine nI ?_;refine ey (JT 8 9 (cy (ii xs a).1) rfl rfl rfl rfl k1 L (by rw[v8,nv]) k2 lc (Lu _)) ?_;refine qA ?_;refine gW 4 [2] ?_;refine gf ?_;rw[<-I];simp only[jw,bX,nv]
theorem Da{d7:Type}{P:Program}{Γ:bN}{Q:Exit->St->Prop}{x y:Code}{M:St}(bb:d7->St)(ok:d7->Prop)(A:aP P Γ x (λ ex cb=>ex=.normal/\∃i,ok i/\bY Γ cb (bb i)) M)(F:∀i,ok i->aP P Γ y Q (bb i)):aP P Γ (.seq x y) Q M:=
 qA (wM A λ ex cb h=>by
  obtain⟨rfl,i,hi,hg⟩:=h;exact ey hg (F i hi))
theorem FU{d7:Type}{P:Program}{Γ:bN}{Q:Exit->St->Prop}{c:Code}{M:St}(x:Exit)(bb:d7->St)(ok:d7->Prop)(h:aP P Γ c (λ ex cb=>ex=x/\∃i,ok i/\bY Γ cb (bb i)) M)(k:∀cb i,ok i->bY Γ cb (bb i)->Q x cb):aP P Γ c Q M:=
 wM h λ ex cb hh=>by
  obtain⟨rfl,i,hi,hg⟩:=hh;exact k cb i hi hg
end Go.Proofs.YtcnefjfboagbmaaGreat
