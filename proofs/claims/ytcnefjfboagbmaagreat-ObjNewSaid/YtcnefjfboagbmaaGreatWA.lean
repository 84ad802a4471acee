/- Words and layouts: what they are, and their walks. -/
import Derived.Test.YtcnefjfboagbmaaGreatLB
import Derived.Test.YtcnefjfboagbmaaGreatPA
namespace Go.Proofs.YtcnefjfboagbmaaGreat
open Go.Proofs.Tryz
open Go.RowKit
set_option maxRecDepth 100000
abbrev vN(r:vt):F:=.agg [z r.idx,dB r.mark,z r.pH]
theorem wW(n:Int)(b:Nat)(R:b<=62):aW prog 92 [z n,z b] (z (n%2^b)):=by
 have u:(2:Int)^b<=4611686018427387904:=by
  have bh:(2:Nat)^b<=2^62:=Nat.pow_le_pow_right (by omega) R;have h5:((2^b:Nat):Int)<=((2^62:Nat):Int):=Int.ofNat_le.2 bh;have h6:((2^62:Nat):Int)=4611686018427387904:=by decide
  rw[h6,Int.natCast_pow] at h5;exact h5
 have h0:(0:Int)<2^b:=Int.pow_pos (by omega);refine sP func92 ntmps92 λ w cl=>?_
 refine go ?_;refine bf (tL b rfl rfl rfl rfl R (by omega) (by omega)) rfl rfl rfl ?_;rw[Int.one_mul];refine gf ?_;rw[Kf n b R]
theorem It(n:Int):aW prog 92 [z n,z 16] (z (n%65536)):=wW n 16 (by omega)
theorem Nq(n:Int):aW prog 92 [z n,z 1] (z (n%2)):=wW n 1 (by omega)
theorem B6(n:Int):aW prog 92 [z n,z 28] (z (n%268435456)):=wW n 28 (by omega)
theorem jS(n:Int):aW prog 44 [z n] (vN (az n)):=by
 refine sP func44 ntmps44 λ w cl=>?_
 refine gA (It n) ?_;refine bf (CG 16 rfl rfl rfl (by omega)) rfl rfl rfl ?_;refine gA (Nq (n/2^16)) ?_;refine bf (CG 17 rfl rfl rfl (by omega)) rfl rfl rfl ?_;refine gA (B6 (n/2^17)) ?_;refine dt ?_
 rfl
theorem oI(r:vt)(i:Int)(h0:0<=r.pH)(u:r.pH<268435456):aW prog 177 [vN r,z i] (vN (eo r i)):=by
 refine sP func177 ntmps177 λ w cl=>?_
 refine go ?_;refine dW 7 [] ?_;refine gQ (It i) ?_;refine cQ (B6 (r.pH+1)) ?_;refine ba ?_;refine gf ?_
 rfl
theorem y6{x y:Pl}{ps:List Pl}{n:Nat}(h0:ps[n]?=some x)(u:ps[n+1]?=some y):∀(m:Nat) q,[x,y][m]?=some q->ps[n+m]?=some q:=by
 intro m q hq
 match m,hq with
 |0,hq=>cases hq;exact h0
 |1,hq=>cases hq;exact u
theorem M9(a b c:Int):aW prog 108 [.p (.sl false 3 [pI a,pI 16,pI b,pI 1,pI c,pI 28])] (z (a%65536+65536*(b%2)+131072*(c%268435456))):=by
 have a0:0<=a%65536:=Int.emod_nonneg _ (by omega);have a1:a%65536<65536:=Int.emod_lt_of_pos _ (by omega);have b0:0<=b%2:=Int.emod_nonneg _ (by omega);have b1:b%2<2:=Int.emod_lt_of_pos _ (by omega);have c0:0<=c%268435456:=Int.emod_nonneg _ (by omega);have c1:c%268435456<268435456:=Int.emod_lt_of_pos _ (by omega);refine sP func108 ntmps108 λ w cl=>?_
 refine go ?_;refine bL (λ i:Nat=>i<=3) (λ i=>⟨[(9,z i),(8,z 3),(7,.p (.sl false 3 [pI a,pI 16,pI b,pI 1,pI c,pI 28])),(3,z (if i=0 then 0 else if i=1 then a%65536 else if i=2 then a%65536+65536*(b%2) else a%65536+65536*(b%2)+131072*(c%268435456))),(4,z (if i=0 then 0 else if i=1 then 16 else if i=2 then 17 else 45))],[],[]⟩) (λ i=>3-i) 0 (by omega) (zX) ?_;intro i Z;rcases(show i=0\/i=1\/i=2\/i=3 by omega) with rfl|rfl|rfl|rfl
 ·refine(show aJ _ _ _ _ ⟨[(9,z 0),(8,z 3),(7,.p (.sl false 3 [pI a,pI 16,pI b,pI 1,pI c,pI 28])),(3,z (0)),(4,z 0)],[],[]⟩ from ?_);refine go ?_;refine cz (λ u=>?_) (λ u=>?_)<;>try rw[u]
  ·refine go ?_;refine ai [pI a,pI 16] (y6 rfl rfl) ?_;refine gA (It a) ?_;refine bf (tL 0 rfl rfl rfl rfl (by omega) (by omega) (by omega)) rfl rfl rfl ?_;rw[show a%65536*2^0=a%65536 by omega];refine go ?_;refine bf (zn 0 (a%65536) rfl rfl rfl (by omega) (by omega) (by omega) (by omega) (by omega)) rfl rfl rfl ?_;rw[show 0+a%65536=a%65536 by omega];refine go ?_;exact⟨1,by omega,by omega,zX⟩
  ·exact absurd u (by decide)
 ·refine(show aJ _ _ _ _ ⟨[(9,z 1),(8,z 3),(7,.p (.sl false 3 [pI a,pI 16,pI b,pI 1,pI c,pI 28])),(3,z (a%65536)),(4,z 16)],[],[]⟩ from ?_);refine go ?_;refine cz (λ u=>?_) (λ u=>?_)<;>try rw[u]
  ·refine go ?_;refine ai [pI b,pI 1] (y6 rfl rfl) ?_;refine gA (Nq b) ?_;refine bf (tL 16 rfl rfl rfl rfl (by omega) (by omega) (by omega)) rfl rfl rfl ?_;rw[show b%2*2^16=65536*(b%2) by omega];refine go ?_;refine bf (zn 16 (b%2) rfl rfl rfl (by omega) (by omega) (by omega) (by omega) (by omega)) rfl rfl rfl ?_;refine go ?_;exact⟨2,by omega,by omega,zX⟩
  ·exact absurd u (by decide)
 ·refine(show aJ _ _ _ _ ⟨[(9,z 2),(8,z 3),(7,.p (.sl false 3 [pI a,pI 16,pI b,pI 1,pI c,pI 28])),(3,z (a%65536+65536*(b%2))),(4,z 17)],[],[]⟩ from ?_);refine go ?_;refine cz (λ u=>?_) (λ u=>?_)<;>try rw[u]
  ·refine go ?_;refine ai [pI c,pI 28] (y6 rfl rfl) ?_;refine gA (B6 c) ?_;refine bf (tL 17 rfl rfl rfl rfl (by omega) (by omega) (by omega)) rfl rfl rfl ?_;rw[show c%268435456*2^17=131072*(c%268435456) by omega];refine go ?_;refine bf (zn 17 (c%268435456) rfl rfl rfl (by omega) (by omega) (by omega) (by omega) (by omega)) rfl rfl rfl ?_;refine go ?_;exact⟨3,by omega,by omega,zX⟩
  ·exact absurd u (by decide)
 ·refine(show aJ _ _ _ _ ⟨[(9,z 3),(8,z 3),(7,.p (.sl false 3 [pI a,pI 16,pI b,pI 1,pI c,pI 28])),(3,z (a%65536+65536*(b%2)+131072*(c%268435456))),(4,z 45)],[],[]⟩ from ?_);refine go ?_;refine cz (λ u=>?_) (λ u=>?_)<;>try rw[u]
  ·exact absurd u (by decide)
  ·refine gf ?_
   rfl
theorem li(r:vt):aW prog 74 [vN r] (z (dJ r)):=by
 have hm:∀b:Bool,(if b then(1:Int) else 0)%2=if b then 1 else 0:=λ b=>by cases b<;>rfl
 obtain⟨i,m,c⟩:=r;refine sP func74 ntmps74 λ w cl=>?_
 refine go ?_;cases m
 ·refine gA (M9 i 0 c) ?_;refine dt ?_
  rfl
 ·refine gA (M9 i 1 c) ?_;refine dt ?_
  rfl
abbrev bs(l:ab):List F:=[z l.aA,z l.nodes,z l.buckets,z l.bm,z l.tasks,z l.cells,z l.maps,z l.bo,z l.aL,z l.done,z l.count,z l.era,z l.free,z l.alive,z l.owner,z l.lI,z l.pL,z l.ring,z l.task,z l.cell,z l.map,z l.stack,z l.chan,z l.node,z l.size]
abbrev cF(l:ab):F:=.agg (bs l)
theorem vi(first zd pM row i:Int)(u:kM first)(D:kM zd)(K:0<=pM/\pM<=1000)(h4:i<9223372036854775808):aW prog 91 [z first,z zd,z pM,z row,z i] (z (iq first zd pM row i)):=by
 obtain⟨ZD,ZE⟩:=u;obtain⟨ZG,ZH⟩:=D;refine sP func91 ntmps91 λ w cl=>?_
 refine go ?_;generalize k1:decide (row<0)=cc;cases cc
 ·have qX:=of_decide_eq_false k1;refine go ?_;generalize k2:decide (zd<=row)=cc;cases cc
  ·have uE:=of_decide_eq_false k2;refine go ?_;generalize k3:decide (i<0)=cc;cases cc
   ·have MW:=of_decide_eq_false k3;refine go ?_;generalize k4:decide (pM<=i)=cc;cases cc
    ·have Ic:=of_decide_eq_false k4;have lD:0<=row*pM:=Int.mul_nonneg (by omega) (by omega);have rX:row*pM<=1000000*1000:=Int.mul_le_mul (by omega) (by omega) (by omega) (by omega);have ew:IntKind.i64.wrap (row*pM)=row*pM:=d6 (by omega) (by omega);refine go ?_;rw[ew];refine gf ?_;rw[iq,if_neg (by omega)]
    ·refine gf ?_;rw[iq,if_pos (by have:=of_decide_eq_true k4;omega)]
   ·refine gf ?_;rw[iq,if_pos (by have:=of_decide_eq_true k3;omega)]
  ·refine gf ?_;rw[iq,if_pos (by have:=of_decide_eq_true k2;omega)]
 ·refine gf ?_;rw[iq,if_pos (by have:=of_decide_eq_true k1;omega)]
theorem jD(l:ab)(M:bQ l)(n i:Int)(hn:n<9223372036854775808)(Z:i<9223372036854775808):aW prog 46 [cF l,z n,z i] (z (am l n i)):=by
 have e1:=M.node;have e2:=M.nodes;refine sP func46 ntmps46 λ w cl=>?_
 refine go ?_;generalize k1:decide (n<1)=cc;cases cc
 ·have qX:=of_decide_eq_false k1;refine gA (vi l.node l.nodes 8 (n-1) i e1 e2 (by omega) Z) ?_;refine dt ?_;rw[am,if_neg qX]
 ·refine gf ?_;rw[am,if_pos (of_decide_eq_true k1)]
theorem ke(l:ab)(M:bQ l)(s i:Int)(Z:i<9223372036854775808):aW prog 195 [cF l,z s,z i] (z (b7 l s i)):=by
 refine sP func195 ntmps195 λ w cl=>?_
 refine gA (vi l.lI l.aA 3 s i M.lI M.aA (by omega) Z) ?_;refine dt ?_
 rfl
def zq(p:Int×Int):List Pl:=[pI p.1,pI p.2]
def fp(l:List (Int×Int)):List Pl:=l.flatMap zq
abbrev tD(l:List (Int×Int)):Pl:=.sl false l.length (fp l)
abbrev cT(l:List (Int×Int)):F:=.p (tD l)
def xh(r:aB):List Pl:=[pI r.val,pB r.ok]
def fQ(l:List aB):List Pl:=l.flatMap xh
abbrev fS(l:List aB):F:=.p (.sl false l.length (fQ l))
abbrev vO(r:aB):F:=.agg [z r.val,dB r.ok]
abbrev eW(a:aS):F:=.agg [z a.kind,z a.cell,z a.eh,z a.new]
abbrev zs(l:ab)(E:Int)(s:af):List Pl:=[pI l.aA,pI l.nodes,pI l.buckets,pI l.bm,pI l.tasks,pI l.cells,pI l.maps,pI l.bo,pI l.aL,pI l.done,pI l.count,pI l.era,pI l.free,pI l.alive,pI l.owner,pI l.lI,pI l.pL,pI l.ring,pI l.task,pI l.cell,pI l.map,pI l.stack,pI l.chan,pI l.node,pI l.size,pI E,tD s.gone,pI s.made,pI s.e0,pI s.e1,pI s.e2]
abbrev me(l:ab)(E:Int)(s:af):List F:=[z l.aA,z l.nodes,z l.buckets,z l.bm,z l.tasks,z l.cells,z l.maps,z l.bo,z l.aL,z l.done,z l.count,z l.era,z l.free,z l.alive,z l.owner,z l.lI,z l.pL,z l.ring,z l.task,z l.cell,z l.map,z l.stack,z l.chan,z l.node,z l.size,z E,cT s.gone,z s.made,z s.e0,z s.e1,z s.e2,.fn (.func 203) [] [.ptr 12 0,.ptr 13 0]]
abbrev bX(l:ab)(E:Int)(log:List aB)(s:af):bH:=[(11,me l E s),(12,[.ptr 11 0]),(13,[fS log])]
theorem fY(l:ab)(M:bQ l)(E:Int)(s:af)(n i:Int)(hn:n<9223372036854775808)(Z:i<9223372036854775808):aW prog 207 [.el (zs l E s),z n,z i] (z (am l n i)):=by
 refine sP func207 ntmps207 λ w cl=>?_
 refine gA (jD l M n i hn Z) ?_;refine dt ?_
 rfl
theorem im(l:ab)(E:Int)(s:af)(h:(s.made:Int)<9223372036854775807):aW prog 214 [.el (zs l E s)] (z ((s.made:Int)-1)):=by
 refine sP func214 ntmps214 λ w cl=>?_
 refine gf ?_
 rfl
theorem GI{aq:Type}{f:aq->List Pl}{a b:aq->Pl}(hf:∀x,f x=[a x,b x]):∀{l:List aq}{i:Nat}{x:aq},l[i]?=some x->∀(m:Nat) q,[a x,b x][m]?=some q->(l.flatMap f)[i*2+m]?=some q
 |[],i,x,h=>by simp at h
 |y::l,0,x,h=>by
  intro m q hq;simp at h;subst h;rw[List.flatMap_cons,hf,Nat.zero_mul,Nat.zero_add,List.getElem?_append_left]
  ·exact hq
  ·exact(List.getElem?_eq_some_iff.1 hq).1
 |y::l,i+1,x,h=>by
  intro m q hq;have ih:=GI hf (l:=l) (i:=i) (x:=x) (by simpa using h) m q hq;rw[List.flatMap_cons,hf,List.getElem?_append_right (by simp;omega)];rw[show(i+1)*2+m-[a y,b y].length=i*2+m by simp;omega];exact ih
theorem B4{l:List aB}{i:Int}{r:aB}(h:l[i.toNat]?=some r):∀(m:Nat) q,[pI r.val,pB r.ok][m]?=some q->(fQ l)[i.toNat*2+m]?=some q:=GI (f:=xh) (λ _=>rfl) h
abbrev hk(a:aS):Value:=.iface 206 (.agg #[.int .i64 a.kind,.int .i64 a.cell,.int .i64 a.eh,.int .i64 a.new])
def Ay{aq:Type}(l:ab)(E:Int)(log:List aB)(m:Except aS (aq×af))(s:af)(enc:aq->F):F->bH->Prop:=λ d O=>∃x U,m=.ok (x,U)/\s.made<=U.made/\U.made<=log.length/\d=enc x/\O=bX l E log U
def Az{aq:Type}(l:ab)(E:Int)(log:List aB)(m:Except aS (aq×af)):Value->bH->Prop:=λ v O=>∃a U,m=.error a/\v=hk a/\O=bX l E log U
abbrev fH{aq:Type}(f:FuncId)(l:ab)(E:Int)(log:List aB)(s:af)(ds:List F)(m:Except aS (aq×af))(enc:aq->F):Prop:=
 fu prog f [11,12,13] ds (bX l E log s) (Ay l E log m s enc) (Az l E log m)
theorem oq(l:ab)(E:Int)(log:List aB)(s:af)(a:aS)(hm:s.made<=log.length)(M:log.length<=1000000):fH 203 l E log s [eW a,.ptr 12 0,.ptr 13 0] (fw a log s) vO:=by
 refine sX func203 ntmps203 λ w cl own kf=>?_
 refine go ?_;refine gD [] ?_;refine go ?_;generalize u:decide ((s.made:Int)=(log.length:Int))=cc;cases cc
 ·have aN:=of_decide_eq_false u;have bh:s.made<log.length:=by omega
  have hr:log[s.made]?=some log[s.made]:=List.getElem?_eq_getElem bh;generalize log[s.made]=r at hr;have oD:log[((s.made:Int)+1-1).toNat]?=some r:=by rw[show((s.made:Int)+1-1).toNat=s.made by omega];exact hr
  refine go ?_;refine gW 8 [] ?_;refine ri [pI r.val,pB r.ok] (B4 oD) ?_;refine qg ?_;exact fX _ ⟨r,{s with made:=s.made+1},by rw[fw,hr],by simp,by simp;omega,rfl,rfl⟩
 ·have aN:log.length=s.made:=by have:=of_decide_eq_true u;omega
  have hr:log[s.made]?=none:=List.getElem?_eq_none (by omega);refine go ?_;refine bf (BV aw rfl rfl rfl rfl rfl) rfl rfl rfl ?_;refine AD rfl rfl rfl ?_;refine gP ?_;exact fP _ ⟨a,s,by rw[fw,hr],rfl,rfl⟩
theorem sF{a:aS}{log:List aB}{s U:af}{r:aB}(h:fw a log s=.ok (r,U)):U={s with made:=s.made+1}/\log[s.made]?=some r:=by
 unfold fw at h;split at h
 ·rename_i r0 h0;cases h;exact⟨rfl,h0⟩
 ·cases h
theorem fm{c:Int}{log:List aB}{s U:af}{v:Int}(h:cy c log s=.ok (v,U)):U={s with made:=s.made+1}/\∃r,log[s.made]?=some r/\r.val=v:=by
 unfold cy Pm.bind at h;split at h
 ·rename_i r s1 h0;cases h;obtain⟨u,D⟩:=sF h0;exact⟨u,r,D,rfl⟩
 ·cases h
theorem mT{c v:Int}{log:List aB}{s U:af}{aa:Unit}(h:fa c v log s=.ok (aa,U)):U={s with made:=s.made+1}/\∃r,log[s.made]?=some r:=by
 unfold fa Pm.bind at h;split at h
 ·rename_i r s1 h0;cases h;obtain⟨u,D⟩:=sF h0;exact⟨u,r,D⟩
 ·cases h
theorem ir{c o v:Int}{log:List aB}{s U:af}{b:Bool}(h:fv c o v log s=.ok (b,U)):U={s with made:=s.made+1}/\∃r,log[s.made]?=some r/\r.ok=b:=by
 unfold fv Pm.bind at h;split at h
 ·rename_i r s1 h0;cases h;obtain⟨u,D⟩:=sF h0;exact⟨u,r,D,rfl⟩
 ·cases h
theorem g9{c:Int}{log:List aB}{s U:af}{v:Int}(h:cy c log s=.ok (v,U)):U.made=s.made+1:=by rw[(fm h).1]
theorem qi{c v:Int}{log:List aB}{s U:af}{aa:Unit}(h:fa c v log s=.ok (aa,U)):U.made=s.made+1:=by rw[(mT h).1]
theorem ky{c o v:Int}{log:List aB}{s U:af}{b:Bool}(h:fv c o v log s=.ok (b,U)):U.made=s.made+1:=by rw[(ir h).1]
theorem dV(l:ab)(E:Int)(log:List aB)(s:af)(c:Int)(hm:s.made<=log.length)(M:log.length<=1000000):fH 206 l E log s [.ptr 11 0,z c] (cy c log s) z:=by
 refine sX func206 ntmps206 λ w cl own kf=>?_
 refine go ?_;refine vX (oq l E log s ⟨1,c,0,0⟩ hm M) ?_ ?_
 ·rintro v O ⟨a,U,h,rfl,rfl⟩;refine gP ?_;exact fP _ ⟨a,U,bl h,rfl,rfl⟩
 rintro d O ⟨x,U,h,gY,cg,rfl,rfl⟩;refine go ?_;exact fX _ ⟨x.val,U,au h,gY,cg,rfl,rfl⟩
theorem gM(l:ab)(E:Int)(log:List aB)(s:af)(c v:Int)(hm:s.made<=log.length)(M:log.length<=1000000):fH 211 l E log s [.ptr 11 0,z c,z v] (fa c v log s) (λ _=>.bc []):=by
 refine sX func211 ntmps211 λ w cl own kf=>?_
 refine go ?_;refine vX (oq l E log s ⟨2,c,0,v⟩ hm M) ?_ ?_
 ·rintro v O ⟨a,U,h,rfl,rfl⟩;refine gP ?_;exact fP _ ⟨a,U,bl h,rfl,rfl⟩
 rintro d O ⟨x,U,h,gY,cg,rfl,rfl⟩;refine go ?_;exact fX _ ⟨(),U,au h,gY,cg,rfl,rfl⟩
theorem iu(l:ab)(E:Int)(log:List aB)(s:af)(c o v:Int)(hm:s.made<=log.length)(M:log.length<=1000000):fH 213 l E log s [.ptr 11 0,z c,z o,z v] (fv c o v log s) dB:=by
 refine sX func213 ntmps213 λ w cl own kf=>?_
 refine go ?_;refine vX (oq l E log s ⟨3,c,o,v⟩ hm M) ?_ ?_
 ·rintro v O ⟨a,U,h,rfl,rfl⟩;refine gP ?_;exact fP _ ⟨a,U,bl h,rfl,rfl⟩
 rintro d O ⟨x,U,h,gY,cg,rfl,rfl⟩;refine go ?_;exact fX _ ⟨x.ok,U,au h,gY,cg,rfl,rfl⟩
set_option maxHeartbeats 4000000 in
theorem CP(l:ab)(hL:bQ l)(E:Int)(log:List aB)(s:af)(hm:s.made<=log.length)(M:log.length<=1000000):fH 210 l E log s [.ptr 11 0] (qk l log s) (λ p=>.bc [z p.1,z p.2.1,dB p.2.2]):=by
 generalize A:qk l log s=aK;refine sX func210 ntmps210 λ w cl own kf=>?_
 refine go ?_;refine bL (λ p:Nat×af=>s.made<=p.2.made/\p.2.made<=log.length/\log.length-p.2.made<p.1/\mV l p.1 log p.2=aK) (λ p=>⟨[(0,.ptr 11 0)],bX l E log p.2,[]⟩) (λ p=>p.1) (log.length+1-s.made,s) ⟨Nat.le_refl _,hm,by simp only;omega,A⟩ (zX) ?_;rintro⟨k,t⟩ ⟨cw,bB,ij,A⟩;simp only at cw bB ij A;obtain⟨k,rfl⟩:∃j,k=j+1:=⟨k-1,by omega⟩;refine(show aJ _ _ _ _ ⟨[(0,.ptr 11 0)],bX l E log t,[]⟩ from ?_);rw[mV] at A;refine go ?_;refine xP (dV l E log t l.free bB M) ?_;rintro d O ⟨fr,s1,bJ,fB,cN,rfl,rfl⟩;rw[au bJ] at A;have eM:=g9 bJ;have bV:=j8 fr;have cZ:=q6 fr;refine gA (jS fr) ?_;generalize u:decide ((az fr).idx=0)=cc;cases cc
 ·have aN:=of_decide_eq_false u;rw[if_neg aN] at A;refine go ?_;refine lA (fY l hL E s1 (az fr).idx 7 (by omega) (by omega)) ?_;refine go ?_;refine xP (dV l E log s1 (am l (az fr).idx 7) cN M) ?_;rintro d O ⟨lk,s2,bg,eK,cn,rfl,rfl⟩;rw[au bg] at A;have g8:=g9 bg;refine go ?_;refine dW 11 [] ?_;refine gQ (oI (az fr) lk cZ.1 cZ.2) ?_;refine cQ (li (eo (az fr) lk)) ?_;refine ba ?_;refine xP (iu l E log s2 l.free fr (dJ (eo (az fr) lk)) cn M) ?_;rintro d O ⟨gL,s3,bR,eQ,ci,rfl,rfl⟩;rw[au bR] at A;have gC:=ky bR;refine go ?_;cases gL
  ·rw[if_neg (by decide)] at A;refine go ?_;exact⟨(k,s3),⟨by simp only;omega,ci,by simp only;omega,A⟩,by simp only;omega,zX⟩
  ·rw[if_pos rfl,au eC] at A;refine go ?_;refine lA (im l E s3 (by omega)) ?_;refine go ?_;refine xP (dV l E log s3 l.era ci M) ?_;rintro d O ⟨bi,s4,ct,iB,ef,rfl,rfl⟩;rw[au ct] at A;refine go ?_;refine lA (fY l hL E s4 (az fr).idx 6 (by omega) (by omega)) ?_;refine go ?_;refine xP (gM l E log s4 (am l (az fr).idx 6) bi ef M) ?_;rintro d O ⟨aa,s5,di,j6,ej,rfl,rfl⟩;rw[au di] at A;refine go ?_;exact fX _ ⟨_,s5,A.symm,by omega,ej,rfl,rfl⟩
 ·rw[if_pos (of_decide_eq_true u),au eC] at A;refine go ?_;refine lA (im l E s1 (by omega)) ?_;refine go ?_;exact fX _ ⟨_,s1,A.symm,by omega,cN,rfl,rfl⟩
set_option maxHeartbeats 4000000 in
theorem uf(l:ab)(hL:bQ l)(E:Int)(log:List aB)(s:af)(n:Int)(hn:n<9223372036854775808)(hm:s.made<=log.length)(M:log.length<=1000000):fH 209 l E log s [.ptr 11 0,z n] (m8 l n log s) (λ _=>.bc []):=by
 generalize A:m8 l n log s=aK;refine sX func209 ntmps209 λ w cl own kf=>?_
 refine go ?_;refine bL (λ p:Nat×af=>s.made<=p.2.made/\p.2.made<=log.length/\log.length-p.2.made<p.1/\lu l n p.1 log p.2=aK) (λ p=>⟨[(0,.ptr 11 0),(1,z n)],bX l E log p.2,[]⟩) (λ p=>p.1) (log.length+1-s.made,s) ⟨Nat.le_refl _,hm,by simp only;omega,A⟩ (zX) ?_;rintro⟨k,t⟩ ⟨cw,bB,ij,A⟩;simp only at cw bB ij A;obtain⟨k,rfl⟩:∃j,k=j+1:=⟨k-1,by omega⟩;refine(show aJ _ _ _ _ ⟨[(0,.ptr 11 0),(1,z n)],bX l E log t,[]⟩ from ?_);rw[lu] at A;refine go ?_;refine xP (dV l E log t l.free bB M) ?_;rintro d O ⟨fr,s1,bJ,fB,cN,rfl,rfl⟩;rw[au bJ] at A;have eM:=g9 bJ;have cZ:=q6 fr;refine gA (jS fr) ?_;refine gW 6 [] ?_;refine lQ (fY l hL E s1 n 7 hn (by omega)) ?_;refine ba ?_;refine xP (gM l E log s1 (am l n 7) (az fr).idx cN M) ?_;rintro d O ⟨aa,s2,bg,eK,cn,rfl,rfl⟩;rw[au bg] at A;have g8:=qi bg;refine go ?_;refine dW 11 [] ?_;refine gQ (oI (az fr) n cZ.1 cZ.2) ?_;refine cQ (li (eo (az fr) n)) ?_;refine ba ?_;refine xP (iu l E log s2 l.free fr (dJ (eo (az fr) n)) cn M) ?_;rintro d O ⟨gL,s3,bR,eQ,ci,rfl,rfl⟩;rw[au bR] at A;have gC:=ky bR;refine go ?_;cases gL
 ·rw[if_neg (by decide)] at A;refine go ?_;exact⟨(k,s3),⟨by simp only;omega,ci,by simp only;omega,A⟩,by simp only;omega,zX⟩
 ·rw[if_pos rfl] at A;refine go ?_;exact fX _ ⟨_,s3,A.symm,by omega,ci,rfl,rfl⟩
set_option maxHeartbeats 4000000 in
theorem yr(l:ab)(hL:bQ l)(E:Int)(log:List aB)(s:af)(cell:Int)(hm:s.made<=log.length)(M:log.length<=1000000):fH 218 l E log s [.ptr 11 0,z 0,z cell] (kT l E 0 cell log s) (λ p=>.bc [z p.1,z p.2]):=by
 generalize A:kT l E 0 cell log s=aK;refine sX func218 ntmps218 λ w cl own kf=>?_
 refine go ?_;refine bL (λ p:Nat×af=>s.made<=p.2.made/\p.2.made<=log.length/\log.length-p.2.made<p.1/\kq l E 0 cell p.1 log p.2=aK) (λ p=>⟨[(0,.ptr 11 0),(1,z 0),(2,z cell)],bX l E log p.2,[]⟩) (λ p=>p.1) (log.length+1-s.made,s) ⟨Nat.le_refl _,hm,by simp only;omega,A⟩ (zX) ?_;rintro⟨k,t⟩ ⟨cw,bB,ij,A⟩;simp only at cw bB ij A;obtain⟨k,rfl⟩:∃j,k=j+1:=⟨k-1,by omega⟩;refine(show aJ _ _ _ _ ⟨[(0,.ptr 11 0),(1,z 0),(2,z cell)],bX l E log t,[]⟩ from ?_);rw[kq] at A;refine go ?_;refine xP (dV l E log t cell bB M) ?_;rintro d O ⟨v,s1,bJ,fB,cN,rfl,rfl⟩;rw[au bJ,au eC] at A;have eM:=g9 bJ;refine go ?_;refine lA (im l E s1 (by omega)) ?_;refine go ?_;refine xP (dV l E log s1 l.era cN M) ?_;rintro d O ⟨er,s2,bg,eK,cn,rfl,rfl⟩;rw[au bg] at A;have g8:=g9 bg;refine go ?_;refine bf (gh aw rfl rfl rfl rfl rfl (by omega) (by omega)) rfl rfl rfl ?_;refine go ?_;generalize u:decide (er=s2.e0)=cc;cases cc
 ·rw[if_neg (show¬er=s2.e 0 from of_decide_eq_false u)] at A;refine go ?_;refine dW 12 [] ?_;refine gQ (ke l hL E 0 (by omega)) ?_;refine xP (gM l E log s2 (b7 l E 0) er cn M) ?_;rintro d O ⟨aa,s3,bR,eQ,ci,rfl,rfl⟩;rw[au bR] at A;have gC:=qi bR;refine go ?_;refine bf (gh aw rfl rfl rfl rfl rfl (by omega) (by omega)) rfl rfl rfl ?_;refine go ?_;exact⟨(k,{s3 with e0:=er}),⟨by simp only;omega,by simp only;omega,by simp only;omega,A⟩,by simp only;omega,zX⟩
 ·rw[if_pos (show er=s2.e 0 from of_decide_eq_true u)] at A;refine go ?_;exact fX _ ⟨_,s2,A.symm,by omega,cn,rfl,rfl⟩
set_option maxHeartbeats 4000000 in
theorem Sm(l:ab)(hL:bQ l)(E:Int)(log:List aB)(s:af)(cell:Int)(hm:s.made<=log.length)(M:log.length<=1000000):fH 218 l E log s [.ptr 11 0,z 1,z cell] (kT l E 1 cell log s) (λ p=>.bc [z p.1,z p.2]):=by
 generalize A:kT l E 1 cell log s=aK;refine sX func218 ntmps218 λ w cl own kf=>?_
 refine go ?_;refine bL (λ p:Nat×af=>s.made<=p.2.made/\p.2.made<=log.length/\log.length-p.2.made<p.1/\kq l E 1 cell p.1 log p.2=aK) (λ p=>⟨[(0,.ptr 11 0),(1,z 1),(2,z cell)],bX l E log p.2,[]⟩) (λ p=>p.1) (log.length+1-s.made,s) ⟨Nat.le_refl _,hm,by simp only;omega,A⟩ (zX) ?_;rintro⟨k,t⟩ ⟨cw,bB,ij,A⟩;simp only at cw bB ij A;obtain⟨k,rfl⟩:∃j,k=j+1:=⟨k-1,by omega⟩;refine(show aJ _ _ _ _ ⟨[(0,.ptr 11 0),(1,z 1),(2,z cell)],bX l E log t,[]⟩ from ?_);rw[kq] at A;refine go ?_;refine xP (dV l E log t cell bB M) ?_;rintro d O ⟨v,s1,bJ,fB,cN,rfl,rfl⟩;rw[au bJ,au eC] at A;have eM:=g9 bJ;refine go ?_;refine lA (im l E s1 (by omega)) ?_;refine go ?_;refine xP (dV l E log s1 l.era cN M) ?_;rintro d O ⟨er,s2,bg,eK,cn,rfl,rfl⟩;rw[au bg] at A;have g8:=g9 bg;refine go ?_;refine bf (gh aw rfl rfl rfl rfl rfl (by omega) (by omega)) rfl rfl rfl ?_;refine go ?_;generalize u:decide (er=s2.e1)=cc;cases cc
 ·rw[if_neg (show¬er=s2.e 1 from of_decide_eq_false u)] at A;refine go ?_;refine dW 12 [] ?_;refine gQ (ke l hL E 1 (by omega)) ?_;refine xP (gM l E log s2 (b7 l E 1) er cn M) ?_;rintro d O ⟨aa,s3,bR,eQ,ci,rfl,rfl⟩;rw[au bR] at A;have gC:=qi bR;refine go ?_;refine bf (gh aw rfl rfl rfl rfl rfl (by omega) (by omega)) rfl rfl rfl ?_;refine go ?_;exact⟨(k,{s3 with e1:=er}),⟨by simp only;omega,by simp only;omega,by simp only;omega,A⟩,by simp only;omega,zX⟩
 ·rw[if_pos (show er=s2.e 1 from of_decide_eq_true u)] at A;refine go ?_;exact fX _ ⟨_,s2,A.symm,by omega,cn,rfl,rfl⟩
set_option maxHeartbeats 4000000 in
theorem Sn(l:ab)(hL:bQ l)(E:Int)(log:List aB)(s:af)(cell:Int)(hm:s.made<=log.length)(M:log.length<=1000000):fH 218 l E log s [.ptr 11 0,z 2,z cell] (kT l E 2 cell log s) (λ p=>.bc [z p.1,z p.2]):=by
 generalize A:kT l E 2 cell log s=aK;refine sX func218 ntmps218 λ w cl own kf=>?_
 refine go ?_;refine bL (λ p:Nat×af=>s.made<=p.2.made/\p.2.made<=log.length/\log.length-p.2.made<p.1/\kq l E 2 cell p.1 log p.2=aK) (λ p=>⟨[(0,.ptr 11 0),(1,z 2),(2,z cell)],bX l E log p.2,[]⟩) (λ p=>p.1) (log.length+1-s.made,s) ⟨Nat.le_refl _,hm,by simp only;omega,A⟩ (zX) ?_;rintro⟨k,t⟩ ⟨cw,bB,ij,A⟩;simp only at cw bB ij A;obtain⟨k,rfl⟩:∃j,k=j+1:=⟨k-1,by omega⟩;refine(show aJ _ _ _ _ ⟨[(0,.ptr 11 0),(1,z 2),(2,z cell)],bX l E log t,[]⟩ from ?_);rw[kq] at A;refine go ?_;refine xP (dV l E log t cell bB M) ?_;rintro d O ⟨v,s1,bJ,fB,cN,rfl,rfl⟩;rw[au bJ,au eC] at A;have eM:=g9 bJ;refine go ?_;refine lA (im l E s1 (by omega)) ?_;refine go ?_;refine xP (dV l E log s1 l.era cN M) ?_;rintro d O ⟨er,s2,bg,eK,cn,rfl,rfl⟩;rw[au bg] at A;have g8:=g9 bg;refine go ?_;refine bf (gh aw rfl rfl rfl rfl rfl (by omega) (by omega)) rfl rfl rfl ?_;refine go ?_;generalize u:decide (er=s2.e2)=cc;cases cc
 ·rw[if_neg (show¬er=s2.e 2 from of_decide_eq_false u)] at A;refine go ?_;refine dW 12 [] ?_;refine gQ (ke l hL E 2 (by omega)) ?_;refine xP (gM l E log s2 (b7 l E 2) er cn M) ?_;rintro d O ⟨aa,s3,bR,eQ,ci,rfl,rfl⟩;rw[au bR] at A;have gC:=qi bR;refine go ?_;refine bf (gh aw rfl rfl rfl rfl rfl (by omega) (by omega)) rfl rfl rfl ?_;refine go ?_;exact⟨(k,{s3 with e2:=er}),⟨by simp only;omega,by simp only;omega,by simp only;omega,A⟩,by simp only;omega,zX⟩
 ·rw[if_pos (show er=s2.e 2 from of_decide_eq_true u)] at A;refine go ?_;exact fX _ ⟨_,s2,A.symm,by omega,cn,rfl,rfl⟩
theorem Lg(l:ab)(hL:bQ l)(E:Int)(log:List aB)(s:af)(i cell:Int)(Z:i=0\/i=1\/i=2)(hm:s.made<=log.length)(M:log.length<=1000000):fH 218 l E log s [.ptr 11 0,z i,z cell] (kT l E i cell log s) (λ p=>.bc [z p.1,z p.2]):=by
 rcases Z with rfl|rfl|rfl
 ·exact yr l hL E log s cell hm M
 ·exact Sm l hL E log s cell hm M
 ·exact Sn l hL E log s cell hm M
set_option maxHeartbeats 4000000 in
theorem jk(l:ab)(hL:bQ l)(E:Int)(log:List aB)(s:af)(hm:s.made<=log.length)(M:log.length<=1000000):fH 208 l E log s [.ptr 11 0] (fZ l E log s) (λ _=>.bc []):=by
 generalize A:fZ l E log s=aK;unfold fZ at A;refine sX func208 ntmps208 λ w cl own kf=>?_
 refine go ?_;refine bL (λ p:Nat×af=>p.1<=3/\s.made<=p.2.made/\p.2.made<=log.length/\ge l E p.1 ([s.e0,s.e1,s.e2].drop p.1) log p.2=aK) (λ p=>⟨[(8,z p.1),(7,.agg [z s.e0,z s.e1,z s.e2]),(0,.ptr 11 0)],bX l E log p.2,[]⟩) (λ p=>3-p.1) (0,s) ⟨by simp only;omega,Nat.le_refl _,hm,A⟩ (zX) ?_;rintro⟨i,t⟩ ⟨Z,cw,bB,A⟩;simp only at Z cw bB A;rcases(show i=0\/i=1\/i=2\/i=3 by omega) with rfl|rfl|rfl|rfl
 ·refine(show aJ _ _ _ _ ⟨[(8,z 0),(7,.agg [z s.e0,z s.e1,z s.e2]),(0,.ptr 11 0)],bX l E log t,[]⟩ from ?_);have A:(db l E 0 s.e0).bind (λ _=>ge l E 1 ([s.e0,s.e1,s.e2].drop 1)) log t=aK:=A;refine go ?_;refine cz (λ u=>?_) (λ u=>?_)<;>try rw[u]
  ·refine go ?_;refine bf (tm aw (z s.e0) rfl rfl rfl rfl rfl rfl (by omega) (by omega) rfl) rfl rfl rfl ?_;refine go ?_;generalize D:decide (s.e0=0)=cc;cases cc
   ·rw[db,if_neg (of_decide_eq_false D)] at A;refine go ?_;refine dW 11 [] ?_;refine gQ (ke l hL E 0 (by omega)) ?_;refine xX (gM l E log t (b7 l E 0) 0 bB M) ?_ ?_
    ·rintro v O ⟨a,U,h,rfl,rfl⟩;refine gP ?_;exact fP _ ⟨a,U,by rw[<-A];exact bl (bl h),rfl,rfl⟩
    rintro d O ⟨aa,s1,bJ,fB,cN,rfl,rfl⟩;have lv:ge l E 1 ([s.e0,s.e1,s.e2].drop 1) log {s1 with e0:=0}=aK:=by rw[<-A];exact(au (f:=λ _=>ge l E 1 ([s.e0,s.e1,s.e2].drop 1)) (au (f:=λ _=>n7 0) bJ)).symm
    refine go ?_;refine bf (gh aw rfl rfl rfl rfl rfl (by omega) (by omega)) rfl rfl rfl ?_;refine go ?_;exact⟨(1,{s1 with e0:=0}),⟨by simp only;omega,by simp only;omega,by simp only;omega,lv⟩,by simp only;omega,zX⟩
   ·rw[db,if_pos (of_decide_eq_true D)] at A;refine go ?_;exact⟨(1,t),⟨by simp only;omega,cw,bB,A⟩,by simp only;omega,zX⟩
  ·exact absurd u (by decide)
 ·refine(show aJ _ _ _ _ ⟨[(8,z 1),(7,.agg [z s.e0,z s.e1,z s.e2]),(0,.ptr 11 0)],bX l E log t,[]⟩ from ?_);have A:(db l E 1 s.e1).bind (λ _=>ge l E 2 ([s.e0,s.e1,s.e2].drop 2)) log t=aK:=A;refine go ?_;refine cz (λ u=>?_) (λ u=>?_)<;>try rw[u]
  ·refine go ?_;refine bf (tm aw (z s.e1) rfl rfl rfl rfl rfl rfl (by omega) (by omega) rfl) rfl rfl rfl ?_;refine go ?_;generalize D:decide (s.e1=0)=cc;cases cc
   ·rw[db,if_neg (of_decide_eq_false D)] at A;refine go ?_;refine dW 11 [] ?_;refine gQ (ke l hL E 1 (by omega)) ?_;refine xX (gM l E log t (b7 l E 1) 0 bB M) ?_ ?_
    ·rintro v O ⟨a,U,h,rfl,rfl⟩;refine gP ?_;exact fP _ ⟨a,U,by rw[<-A];exact bl (bl h),rfl,rfl⟩
    rintro d O ⟨aa,s1,bJ,fB,cN,rfl,rfl⟩;have lv:ge l E 2 ([s.e0,s.e1,s.e2].drop 2) log {s1 with e1:=0}=aK:=by rw[<-A];exact(au (f:=λ _=>ge l E 2 ([s.e0,s.e1,s.e2].drop 2)) (au (f:=λ _=>n7 1) bJ)).symm
    refine go ?_;refine bf (gh aw rfl rfl rfl rfl rfl (by omega) (by omega)) rfl rfl rfl ?_;refine go ?_;exact⟨(2,{s1 with e1:=0}),⟨by simp only;omega,by simp only;omega,by simp only;omega,lv⟩,by simp only;omega,zX⟩
   ·rw[db,if_pos (of_decide_eq_true D)] at A;refine go ?_;exact⟨(2,t),⟨by simp only;omega,cw,bB,A⟩,by simp only;omega,zX⟩
  ·exact absurd u (by decide)
 ·refine(show aJ _ _ _ _ ⟨[(8,z 2),(7,.agg [z s.e0,z s.e1,z s.e2]),(0,.ptr 11 0)],bX l E log t,[]⟩ from ?_);have A:(db l E 2 s.e2).bind (λ _=>ge l E 3 ([s.e0,s.e1,s.e2].drop 3)) log t=aK:=A;refine go ?_;refine cz (λ u=>?_) (λ u=>?_)<;>try rw[u]
  ·refine go ?_;refine bf (tm aw (z s.e2) rfl rfl rfl rfl rfl rfl (by omega) (by omega) rfl) rfl rfl rfl ?_;refine go ?_;generalize D:decide (s.e2=0)=cc;cases cc
   ·rw[db,if_neg (of_decide_eq_false D)] at A;refine go ?_;refine dW 11 [] ?_;refine gQ (ke l hL E 2 (by omega)) ?_;refine xX (gM l E log t (b7 l E 2) 0 bB M) ?_ ?_
    ·rintro v O ⟨a,U,h,rfl,rfl⟩;refine gP ?_;exact fP _ ⟨a,U,by rw[<-A];exact bl (bl h),rfl,rfl⟩
    rintro d O ⟨aa,s1,bJ,fB,cN,rfl,rfl⟩;have lv:ge l E 3 ([s.e0,s.e1,s.e2].drop 3) log {s1 with e2:=0}=aK:=by rw[<-A];exact(au (f:=λ _=>ge l E 3 ([s.e0,s.e1,s.e2].drop 3)) (au (f:=λ _=>n7 2) bJ)).symm
    refine go ?_;refine bf (gh aw rfl rfl rfl rfl rfl (by omega) (by omega)) rfl rfl rfl ?_;refine go ?_;exact⟨(3,{s1 with e2:=0}),⟨by simp only;omega,by simp only;omega,by simp only;omega,lv⟩,by simp only;omega,zX⟩
   ·rw[db,if_pos (of_decide_eq_true D)] at A;refine go ?_;exact⟨(3,t),⟨by simp only;omega,cw,bB,A⟩,by simp only;omega,zX⟩
  ·exact absurd u (by decide)
 ·refine(show aJ _ _ _ _ ⟨[(8,z 3),(7,.agg [z s.e0,z s.e1,z s.e2]),(0,.ptr 11 0)],bX l E log t,[]⟩ from ?_);refine go ?_;refine cz (λ u=>?_) (λ u=>?_)<;>try rw[u]
  ·exact absurd u (by decide)
  ·refine go ?_;exact fX _ ⟨(),t,A.symm,cw,bB,rfl,rfl⟩
theorem ol(g:List (Int×Int))(hg:g.length<=100000):xJ prog 71 [cT g] 110 2 g.length (fp g):=by
 have cg:(fp g).length=g.length*2:=by
  clear hg;induction g with
  |nil=>rfl
  |cons x g ih=>unfold fp at ih⊢;rw[List.flatMap_cons,List.length_append,ih];simp[zq];omega
 refine Lb func71 rfl ntmps71 rfl rfl rfl λ w cl=>?_
 refine go ?_;refine Ka aw rfl rfl rfl rfl rfl rfl rfl λ c L=>?_
 cases c with
 |true=>have:g=[]:=List.eq_nil_of_length_eq_zero (L rfl);subst this;refine go ?_;exact R4 rfl
 |false=>refine go ?_;refine oh (gO 5 0 110 2 rfl rfl rfl) ?_;refine go ?_;refine pA cg ?_;rw[Nat.zero_add,List.nil_append];refine go ?_;exact A6 rfl rfl
theorem AQ(r f g0 g1:Int):aW prog 219 [z r,.el [pI f],.el [pI g0,pI g1]] (dB (hx f g1 r)):=by
 refine sP func219 ntmps219 λ w cl=>?_
 refine go ?_;generalize u:decide (f<=r)=cc;cases cc
 ·refine gf ?_;rw[hx,u];rfl
 ·refine go ?_;refine bf (yV aw rfl rfl rfl rfl rfl (by omega) (by omega) rfl) rfl rfl rfl ?_;refine gf ?_;rw[hx,u];rfl
def lr(p:Int->Bool):List Int->Nat->Int
 |[],_=>-1
 |r::l,i=>if p r then i else lr p l (i+1)
theorem Dp(p:Int->Bool):∀(l:List Int)(i:Nat),decide (0<=lr p l i)=l.any p
 |[],i=>by simp[lr]
 |r::l,i=>by
  rw[lr,List.any_cons];cases h:p r
  ·simpa using Dp p l (i+1)
  ·simp
abbrev qv(f g0 g1:Int):F:=.fn (.func 219) [] [.el [pI f],.el [pI g0,pI g1]]
set_option maxHeartbeats 4000000 in
theorem BU(aM:List Int)(hh:aM.length<=1000000)(f g0 g1:Int):aW prog 217 [aV aM,qv f g0 g1] (z (lr (hx f g1) aM 0)):=by
 generalize A:lr (hx f g1) aM 0=aK;refine sP func217 ntmps217 λ w cl=>?_
 refine go ?_;refine bL (λ i:Nat=>i<=aM.length/\lr (hx f g1) (aM.drop i) i=aK) (λ i=>⟨[(8,z i),(7,z aM.length),(6,aV aM),(0,aV aM),(1,qv f g0 g1)],[],[]⟩) (λ i=>aM.length-i) 0 ⟨Nat.zero_le _,A⟩ (zX) ?_;rintro i ⟨Z,A⟩;refine go ?_;refine cz (λ u=>?_) (λ u=>?_)<;>try rw[u]
 ·have aN:=of_decide_eq_true u;have dw:i<aM.length:=by omega
  obtain⟨x,T⟩:=j3 (l:=aM) (i:=i) (by omega) aN;have G:aM.drop i=x::aM.drop (i+1):=by rw[List.drop_eq_getElem_cons dw];simp only[Int.toNat_natCast] at T;rw[(List.getElem?_eq_some_iff.1 T).2]
  rw[G,lr] at A;refine go ?_;refine ai [pI x] (gK T) ?_;refine go ?_;refine bf (tV (AQ x f g0 g1) rfl (λ a w=>call219 a w) rfl rfl) rfl rfl rfl ?_;refine go ?_;generalize D:hx f g1 x=cc;cases cc
  ·rw[D,if_neg (by decide)] at A;refine go ?_;exact⟨i+1,⟨by omega,A⟩,by omega,zX⟩
  ·rw[D,if_pos rfl] at A;refine gf ?_;rw[A]
 ·have dw:aM.length<=i:=by have:=of_decide_eq_false u;omega
  rw[List.drop_of_length_le dw,lr] at A;refine gf ?_;rw[<-A]
theorem AS(aM:List Int)(hh:aM.length<=1000000)(f g0 g1:Int):aW prog 196 [aV aM,qv f g0 g1] (dB (aM.any (hx f g1))):=by
 refine sP func196 ntmps196 λ w cl=>?_
 refine gA (BU aM hh f g0 g1) ?_;refine dt ?_;rw[<-Dp _ aM 0]
theorem EW:∀g:List (Int×Int),(fp g).length=g.length*2
 |[]=>rfl
 |x::g=>by
  have ih:=EW g;unfold fp at ih⊢;rw[List.flatMap_cons,List.length_append,ih];simp[zq];omega
theorem xf(g:List (Int×Int))(x:Int×Int):fp (g++[x])=fp g++[pI x.1,pI x.2]:=by simp[fp,zq]
theorem uh{l:List (Int×Int)}{i:Int}{r:Int×Int}(h:l[i.toNat]?=some r):∀(m:Nat) q,[pI r.1,pI r.2][m]?=some q->(fp l)[i.toNat*2+m]?=some q:=GI (f:=zq) (λ _=>rfl) h
theorem ku(a:List Int)(x:Int):aZ a++[pI x]=aZ (a++[x]):=by simp[aZ]
def ee(g:List (Int×Int)):Prop:=∀p∈g,p.1<9223372036854775808
set_option maxHeartbeats 8000000 in
theorem xu(l:ab)(hL:bQ l)(E:Int)(log:List aB)(s:af)(n:Int)(hn:n<9223372036854775808)(eO:ee s.gone)(gz:s.gone.length<=10000)(hm:s.made<=log.length)(M:log.length<=1000000):fH 216 l E log s [.ptr 11 0,z n] (kg l n log s) (λ _=>.bc []):=by
 have ph:=hL.aA;unfold kM at ph;generalize A:kg l n log s=aK;unfold kg at A;refine sX func216 ntmps216 λ w cl own kf=>?_
 refine go ?_;refine xP (dV l E log s l.era hm M) ?_;rintro d O ⟨er,s1,bJ,fB,cN,rfl,rfl⟩;rw[au bJ] at A;have eM:=fm bJ;refine go ?_;refine gW 10 [] ?_;refine vP (oq l E log s1 ⟨4,l.era,0,1⟩ cN M) ?_;rintro d O ⟨dr,s2,bg,eK,cn,rfl,rfl⟩;rw[au bg] at A;have dS:s2.gone=s.gone:=by rw[(sF bg).1,eM.1]
 rw[dS] at A;have rX:s.made<=s2.made:=by omega
 clear bJ bg eM fB eK cN;refine go ?_;refine CW 0 (ol s2.gone (by rw[dS];omega)) rfl (λ a w=>call71 a w) rfl rfl rfl rfl rfl (EW _) ?_;refine go ?_;refine ln aw rfl rfl rfl rfl rfl rfl rfl rfl rfl rfl rfl rfl rfl (by rw[dS];unfold maxLen;omega) (by show(_+_)*16<=_;rw[dS];omega) ?_;refine gG ?_;refine mg ?_;refine da (nV 11 (aO:=me l E {s2 with gone:=s.gone++[(n,er)]}) rfl (by
  show List.map kJ _=_;have e:tD (s.gone++[(n,er)])=.sl false (s.gone.length+1) (fp s.gone++[pI n,pI er]):=by rw[tD,xf,List.length_append];rfl
  simp only[List.map,kJ,wU,dS,me,cT];rw[e])) ?_
 generalize un:s.gone++[(n,er)]=gN at A;have LR:gN.length=s.gone.length+1:=by rw[<-un];simp
 have Bs:ee gN:=by
  intro p hp;rw[<-un] at hp;rcases List.mem_append.1 hp with hp|hp
  ·exact eO p hp
  ·simp at hp;rw[hp];exact hn
 have ew:IntKind.i64.wrap (2*l.aA)=2*l.aA:=d6 (by omega) (by omega);refine da (bS:=⟨[(0,.ptr 11 0)],bX l E log {s2 with gone:=gN},[]⟩) (zX) ?_;generalize gC:({s2 with gone:=gN}:af)=s3 at A⊢;have ci:s3.made<=log.length:=by rw[<-gC];exact cn
 have eQ:s.made<=s3.made:=by rw[<-gC];exact rX
 have gX:s3.gone=gN:=by rw[<-gC]
 refine go ?_;refine gD [] ?_;rw[ew];refine qg ?_;rw[gX];generalize u:decide ((gN.length:Int)<2*l.aA)=cc;cases cc
 ·have aN:=of_decide_eq_false u;rw[if_neg (by omega),rc] at A;refine go ?_;refine da (gO 5 0 3 1 rfl rfl rfl) ?_;refine bL (λ p:Nat×List Int×Nat×af=>p.1+p.2.2.1=l.aA.toNat/\p.2.1.length=3*p.1/\s.made<=p.2.2.2.made/\p.2.2.2.made<=log.length/\p.2.2.2.gone=gN/\(jy p.2.1 (je l p.1 p.2.2.1)).bind (λ aM=>(eU l aM gN []).bind λ aY=>iG aY) log p.2.2.2=aK) (λ p=>⟨[(62,z p.1),(61,z l.aA),(5,.aU 0 p.2.1.length (aZ p.2.1)),(0,.ptr 11 0)],bX l E log p.2.2.2,[(0,⟨3,1,p.2.1.length⟩)]⟩) (λ p=>p.2.2.1) (0,[],l.aA.toNat,s3) ⟨by simp,rfl,eQ,ci,gX,A⟩ (zX) ?_;rintro⟨j,acc,m,t⟩ ⟨hj,ly,cw,bB,eH,A⟩;simp only at hj ly cw bB eH A;refine(show aJ _ _ _ _ ⟨[(62,z j),(61,z l.aA),(5,.aU 0 acc.length (aZ acc)),(0,.ptr 11 0)],bX l E log t,[(0,⟨3,1,acc.length⟩)]⟩ from ?_);refine go ?_;refine cz (λ D=>?_) (λ D=>?_)<;>try rw[D]
  ·have bd:=of_decide_eq_true D;obtain⟨m,rfl⟩:∃k,m=k+1:=⟨m-1,by omega⟩;rw[je] at A;refine go ?_;refine bL (λ q:Nat×List Int×af=>q.1<=3/\q.2.1.length=3*j+q.1/\s.made<=q.2.2.made/\q.2.2.made<=log.length/\q.2.2.gone=gN/\(jy q.2.1 (([b7 l j 0,b7 l j 1,b7 l j 2].drop q.1)++je l (j+1) m)).bind (λ aM=>(eU l aM gN []).bind λ aY=>iG aY) log q.2.2=aK) (λ q=>⟨[(65,z q.1),(62,z j),(61,z l.aA),(6,z j),(5,.aU 0 q.2.1.length (aZ q.2.1)),(0,.ptr 11 0)],bX l E log q.2.2,[(0,⟨3,1,q.2.1.length⟩)]⟩) (λ q=>3-q.1) (0,acc,t) ⟨by simp only;omega,by simp only;omega,cw,bB,eH,A⟩ (zX) ?_;rintro⟨i,ac,t⟩ ⟨Z,Bf,cw,bB,eH,A⟩;simp only at Z Bf cw bB eH A;rcases(show i=0\/i=1\/i=2\/i=3 by omega) with rfl|rfl|rfl|rfl
   ·refine(show aJ _ _ _ _ ⟨[(65,z 0),(62,z j),(61,z l.aA),(6,z j),(5,.aU 0 ac.length (aZ ac)),(0,.ptr 11 0)],bX l E log t,[(0,⟨3,1,ac.length⟩)]⟩ from ?_);have A:((cy (b7 l j 0)).bind λ v=>jy (ac++[v]) (([b7 l j 0,b7 l j 1,b7 l j 2].drop 1)++je l (j+1) m)).bind (λ aM=>(eU l aM gN []).bind λ aY=>iG aY) log t=aK:=A;rw[bind_assoc] at A;refine go ?_;refine cz (λ K=>?_) (λ K=>?_)<;>try rw[K]
    ·refine gA (ke l hL j 0 (by omega)) ?_;refine xP (dV l E log t (b7 l j 0) bB M) ?_;rintro d O ⟨v,s4,ct,iB,ef,rfl,rfl⟩;rw[au ct] at A;have iO:s4.gone=gN:=by rw[(fm ct).1];exact eH
     refine go ?_;refine pA rfl ?_;rw[ku,show ac.length+1=(ac++[v]).length by simp];refine go ?_;exact⟨(1,ac++[v],s4),⟨by simp only;omega,by simp only[List.length_append,List.length_cons,List.length_nil];omega,by simp only;omega,ef,iO,A⟩,by simp only;omega,zX⟩
    ·exact absurd K (by decide)
   ·refine(show aJ _ _ _ _ ⟨[(65,z 1),(62,z j),(61,z l.aA),(6,z j),(5,.aU 0 ac.length (aZ ac)),(0,.ptr 11 0)],bX l E log t,[(0,⟨3,1,ac.length⟩)]⟩ from ?_);have A:((cy (b7 l j 1)).bind λ v=>jy (ac++[v]) (([b7 l j 0,b7 l j 1,b7 l j 2].drop 2)++je l (j+1) m)).bind (λ aM=>(eU l aM gN []).bind λ aY=>iG aY) log t=aK:=A;rw[bind_assoc] at A;refine go ?_;refine cz (λ K=>?_) (λ K=>?_)<;>try rw[K]
    ·refine gA (ke l hL j 1 (by omega)) ?_;refine xP (dV l E log t (b7 l j 1) bB M) ?_;rintro d O ⟨v,s4,ct,iB,ef,rfl,rfl⟩;rw[au ct] at A;have iO:s4.gone=gN:=by rw[(fm ct).1];exact eH
     refine go ?_;refine pA rfl ?_;rw[ku,show ac.length+1=(ac++[v]).length by simp];refine go ?_;exact⟨(2,ac++[v],s4),⟨by simp only;omega,by simp only[List.length_append,List.length_cons,List.length_nil];omega,by simp only;omega,ef,iO,A⟩,by simp only;omega,zX⟩
    ·exact absurd K (by decide)
   ·refine(show aJ _ _ _ _ ⟨[(65,z 2),(62,z j),(61,z l.aA),(6,z j),(5,.aU 0 ac.length (aZ ac)),(0,.ptr 11 0)],bX l E log t,[(0,⟨3,1,ac.length⟩)]⟩ from ?_);have A:((cy (b7 l j 2)).bind λ v=>jy (ac++[v]) (([b7 l j 0,b7 l j 1,b7 l j 2].drop 3)++je l (j+1) m)).bind (λ aM=>(eU l aM gN []).bind λ aY=>iG aY) log t=aK:=A;rw[bind_assoc] at A;refine go ?_;refine cz (λ K=>?_) (λ K=>?_)<;>try rw[K]
    ·refine gA (ke l hL j 2 (by omega)) ?_;refine xP (dV l E log t (b7 l j 2) bB M) ?_;rintro d O ⟨v,s4,ct,iB,ef,rfl,rfl⟩;rw[au ct] at A;have iO:s4.gone=gN:=by rw[(fm ct).1];exact eH
     refine go ?_;refine pA rfl ?_;rw[ku,show ac.length+1=(ac++[v]).length by simp];refine go ?_;exact⟨(3,ac++[v],s4),⟨by simp only;omega,by simp only[List.length_append,List.length_cons,List.length_nil];omega,by simp only;omega,ef,iO,A⟩,by simp only;omega,zX⟩
    ·exact absurd K (by decide)
   ·refine(show aJ _ _ _ _ ⟨[(65,z 3),(62,z j),(61,z l.aA),(6,z j),(5,.aU 0 ac.length (aZ ac)),(0,.ptr 11 0)],bX l E log t,[(0,⟨3,1,ac.length⟩)]⟩ from ?_);refine go ?_;refine cz (λ K=>?_) (λ K=>?_)<;>try rw[K]
    ·exact absurd K (by decide)
    ·refine go ?_;exact⟨(j+1,ac,m,t),⟨by simp only;omega,by simp only;omega,cw,bB,eH,A⟩,by simp only;omega,zX⟩
  ·have bd:=of_decide_eq_false D;obtain rfl:m=0:=by omega
   have A:((eU l acc gN []).bind λ aY=>iG aY) log t=aK:=A;subst eH;refine da (wV 5 (dH:=aV acc) rfl rfl) ?_;refine go ?_;refine da (gO 8 1 110 2 rfl rfl rfl) ?_;refine bL (λ q:Nat×List (Int×Int)×af=>q.1<=t.gone.length/\q.2.1.length<=q.1/\s.made<=q.2.2.made/\q.2.2.made<=log.length/\((eU l acc (t.gone.drop q.1) q.2.1).bind λ aY=>iG aY) log q.2.2=aK) (λ q=>⟨[(87,z q.1),(86,z t.gone.length),(85,cT t.gone),(8,.aU 1 q.2.1.length (fp q.2.1)),(5,aV acc),(0,.ptr 11 0)],bX l E log q.2.2,[(1,⟨110,2,q.2.1.length⟩)]⟩) (λ q=>t.gone.length-q.1) (0,[],t) ⟨Nat.zero_le _,Nat.le_refl _,cw,bB,A⟩ (zX) ?_;rintro⟨i,aY,aa⟩ ⟨Z,iS,r6,kZ,A⟩;simp only at Z iS r6 kZ A;refine(show aJ _ _ _ _ ⟨[(87,z i),(86,z t.gone.length),(85,cT t.gone),(8,.aU 1 aY.length (fp aY)),(5,aV acc),(0,.ptr 11 0)],bX l E log aa,[(1,⟨110,2,aY.length⟩)]⟩ from ?_);refine go ?_;refine cz (λ K=>?_) (λ K=>?_)<;>try rw[K]
   ·have cK:=of_decide_eq_true K;have dw:i<t.gone.length:=by omega
    obtain⟨gg,nf⟩:=j3 (l:=t.gone) (i:=i) (by omega) cK;have uo:=Bs gg (List.mem_of_getElem? nf);have G:t.gone.drop i=gg::t.gone.drop (i+1):=by rw[List.drop_eq_getElem_cons dw];simp only[Int.toNat_natCast] at nf;rw[(List.getElem?_eq_some_iff.1 nf).2]
    rw[G,eU,bind_assoc] at A;refine go ?_;refine ai [pI gg.1,pI gg.2] (uh nf) ?_;refine go ?_;refine bf (gh aw rfl rfl rfl rfl rfl (by omega) (by omega)) rfl rfl rfl ?_;refine go ?_;refine lA (fY l hL E aa gg.1 6 uo (by omega)) ?_;refine go ?_;refine xP (dV l E log aa (am l gg.1 6) kZ M) ?_;rintro d O ⟨bi,s5,di,j6,ej,rfl,rfl⟩;rw[au di] at A;refine go ?_;refine bf (ED rfl rfl rfl) rfl rfl rfl ?_;refine(show bp _ _ _ _ _ ⟨(97,z (p5 bi))::_,_,_⟩ from ?_);refine go ?_;refine lA (AS acc (by omega) (p5 bi) gg.1 gg.2) ?_;refine go ?_;generalize h4:acc.any (hx (p5 bi) gg.2)=cc;cases cc
    ·rw[h4,if_neg (by decide),bind_assoc] at A;refine go ?_;refine bf (gh aw rfl rfl rfl rfl rfl (by omega) (by omega)) rfl rfl rfl ?_;refine go ?_;refine xP (uf l hL E log s5 gg.1 uo ej M) ?_;rintro d O ⟨uu,s6,jv,sW,l4,rfl,rfl⟩;rw[au jv] at A;refine go ?_;exact⟨(i+1,aY,s6),⟨by simp only;omega,by simp only;omega,by simp only;omega,l4,A⟩,by simp only;omega,zX⟩
    ·rw[h4,if_pos rfl] at A;refine go ?_;refine pA rfl ?_;rw[<-xf aY gg,show aY.length+1=(aY++[gg]).length by simp];refine go ?_;exact⟨(i+1,aY++[gg],s5),⟨by simp only;omega,by simp only[List.length_append,List.length_cons,List.length_nil];omega,by simp only;omega,ej,A⟩,by simp only;omega,zX⟩
   ·have cK:=of_decide_eq_false K;rw[List.drop_of_length_le (by omega),eU] at A;have A:(Except.ok ((),{aa with gone:=aY}):Except aS (Unit×af))=aK:=A;refine da (wV 8 (dH:=cT aY) rfl rfl) ?_;refine go ?_;exact fX _ ⟨(),{aa with gone:=aY},A.symm,r6,kZ,rfl,rfl⟩
 ·have aN:=of_decide_eq_true u;rw[if_pos (by omega)] at A;refine go ?_;exact fX _ ⟨(),s3,A.symm,eQ,ci,rfl,rfl⟩
abbrev jm(o:br):F:=.agg [z o.val,dB o.is,z o.err,z o.cJ,cT o.gone]
abbrev kC(o:br):F:=.agg [z o.val,dB o.is,z o.err,z o.cJ,.p (.sl true 0 [])]
abbrev qb(o:cq):List F:=[z o.kind,z o.obj,z o.a,z o.b]
abbrev Gy(o:cq):F:=.agg (qb o)
theorem CN{l:ab}:∀{k:Nat}{log:List aB}{s U:af}{p:Int×Int×Bool},mV l k log s=.ok (p,U)->p.1<65536/\U.gone=s.gone
 |0,log,s,U,p,h=>by cases h;exact⟨by simp,rfl⟩
 |k+1,log,s,U,p,h=>by
  rw[mV] at h;cases u:cy l.free log s with
  |error a=>rw[bl u] at h;cases h
  |ok q=>
   obtain⟨fr,s1⟩:=q;rw[au u] at h;have g1:s1.gone=s.gone:=by rw[(fm u).1]
   split at h
   ·rw[au eC] at h;cases h;exact⟨by simp,g1⟩
   ·cases D:cy (am l (az fr).idx 7) log s1 with
    |error a=>rw[bl D] at h;cases h
    |ok q=>
     obtain⟨lk,s2⟩:=q;rw[au D] at h;have g2:s2.gone=s.gone:=by rw[(fm D).1];exact g1
     cases K:fv l.free fr (dJ (eo (az fr) lk)) log s2 with
     |error a=>rw[bl K] at h;cases h
     |ok q=>
      obtain⟨ok,s3⟩:=q;rw[au K] at h;have g3:s3.gone=s.gone:=by rw[(ir K).1];exact g2
      split at h
      ·rw[au eC] at h;cases h4:cy l.era log s3 with
       |error a=>rw[bl h4] at h;cases h
       |ok q=>
        obtain⟨bi,s4⟩:=q;rw[au h4] at h;have g4:s4.gone=s.gone:=by rw[(fm h4).1];exact g3
        cases h5:fa (am l (az fr).idx 6) bi log s4 with
        |error a=>rw[bl h5] at h;cases h
        |ok q=>obtain⟨aa,s5⟩:=q;rw[au h5] at h;cases h;exact⟨(j8 fr).2,by rw[(mT h5).1];exact g4⟩
      ·obtain⟨a,b⟩:=CN h;exact⟨a,b.trans g3⟩
theorem Xs(x:af)(i v:Int):(x.mf i v).gone=x.gone:=by
 unfold af.mf;split
 ·rfl
 ·split<;>rfl
theorem yu{l:ab}{E i cell:Int}:∀{k:Nat}{log:List aB}{s U:af}{p:Int×Int},kq l E i cell k log s=.ok (p,U)->U.gone=s.gone
 |0,log,s,U,p,h=>by cases h;rfl
 |k+1,log,s,U,p,h=>by
  rw[kq] at h;cases u:cy cell log s with
  |error a=>rw[bl u] at h;cases h
  |ok q=>
   obtain⟨v,s1⟩:=q;rw[au u,au eC] at h;have g1:s1.gone=s.gone:=by rw[(fm u).1]
   cases D:cy l.era log s1 with
   |error a=>rw[bl D] at h;cases h
   |ok q=>
    obtain⟨er,s2⟩:=q;rw[au D] at h;have g2:s2.gone=s.gone:=by rw[(fm D).1];exact g1
    split at h
    ·cases h;exact g2
    ·cases K:fa (b7 l E i) er log s2 with
     |error a=>rw[bl K] at h;cases h
     |ok q=>
      obtain⟨aa,s3⟩:=q;rw[au K] at h;have g3:s3.gone=s.gone:=by rw[(mT K).1];exact g2
      exact((yu h).trans (Xs _ _ _)).trans g3
theorem Rq{l:ab}{E:Int}{i:Nat}{e:Int}{log:List aB}{s U:af}{aa:Unit}(h:db l E i e log s=.ok (aa,U)):U.gone=s.gone:=by
 unfold db at h;split at h
 ·cases h;rfl
 ·cases K:fa (b7 l E i) 0 log s with
  |error a=>rw[bl K] at h;cases h
  |ok q=>
   obtain⟨aa,s3⟩:=q;rw[au K] at h;have g3:s3.gone=s.gone:=by rw[(mT K).1]
   unfold n7 at h;cases h;split<;>exact g3
theorem i6{l:ab}{E:Int}:∀{es:List Int}{i:Nat}{log:List aB}{s U:af}{aa:Unit},ge l E i es log s=.ok (aa,U)->U.gone=s.gone
 |[],i,log,s,U,aa,h=>by cases h;rfl
 |e::es,i,log,s,U,aa,h=>by
  rw[ge] at h;cases u:db l E i e log s with
  |error a=>rw[bl u] at h;cases h
  |ok q=>obtain⟨aa,s1⟩:=q;rw[au u] at h;exact(i6 h).trans (Rq u)
theorem Jp{l:ab}{aM:List Int}:∀{gs aY:List (Int×Int)}{log:List aB}{s U:af}{r:List (Int×Int)},eU l aM gs aY log s=.ok (r,U)->r.length<=gs.length+aY.length
 |[],aY,log,s,U,r,h=>by cases h;simp
 |g::gs,aY,log,s,U,r,h=>by
  rw[eU] at h;cases u:cy (am l g.1 6) log s with
  |error a=>rw[bl u] at h;cases h
  |ok q=>
   obtain⟨b,s1⟩:=q;rw[au u] at h;split at h
   ·have:=Jp h;simp at this⊢;omega
   ·cases D:m8 l g.1 log s1 with
    |error a=>rw[bl D] at h;cases h
    |ok q=>obtain⟨aa,s2⟩:=q;rw[au D] at h;have:=Jp h;simp at this⊢;omega
theorem Cx{l:ab}{n:Int}{log:List aB}{s U:af}{aa:Unit}(h:kg l n log s=.ok (aa,U)):U.gone.length<=s.gone.length+1:=by
 unfold kg at h;cases u:cy l.era log s with
 |error a=>rw[bl u] at h;cases h
 |ok q=>
  obtain⟨er,s1⟩:=q;rw[au u] at h;have g1:s1.gone=s.gone:=by rw[(fm u).1]
  cases D:fw ⟨4,l.era,0,1⟩ log s1 with
  |error a=>rw[bl D] at h;cases h
  |ok q=>
   obtain⟨r,s2⟩:=q;rw[au D] at h;have g2:s2.gone=s.gone:=by rw[(sF D).1];exact g1
   split at h
   ·cases h;simp[g2]
   ·unfold rc at h;cases K:jy [] (je l 0 l.aA.toNat) log {s2 with gone:=s2.gone++[(n,er)]} with
    |error a=>rw[bl K] at h;cases h
    |ok q=>
     obtain⟨aM,s3⟩:=q;rw[au K] at h;cases h4:eU l aM (s2.gone++[(n,er)]) [] log s3 with
     |error a=>rw[bl h4] at h;cases h
     |ok q=>obtain⟨aY,s4⟩:=q;rw[au h4] at h;unfold iG at h;cases h;have:=Jp h4;simp[g2] at this⊢;omega
theorem ra(g:List (Int×Int))(hg:g.length<=100000):aW prog 185 [cT g] (.bc [eW eF,jm ⟨0,false,1,-1,g⟩,dB true]):=by
 refine sP func185 ntmps185 λ w cl=>?_
 refine gA ((ol g hg).pure) ?_;refine dt ?_
 rfl
theorem AH(l:ab)(E:Int)(g:List (Int×Int))(log:List aB):d8 prog 186 [] [cF l,z E,cT g,fS log] [] (λ d O=>d=.ptr 11 0/\O=bX l E log ⟨0,g,0,0,0⟩):=by
 refine sI func186 ntmps186 λ w cl own kf=>?_
 refine gm ?_;refine bA 0 ?_;refine bA 13 ?_;refine mq aw rfl rfl rfl rfl ?_;refine jK ?_;refine gm ?_;refine mq aw rfl rfl rfl rfl ?_;refine mq aw rfl rfl rfl rfl ?_;refine mq aw rfl rfl rfl rfl ?_;refine bf (ya aw rfl rfl rfl) rfl rfl rfl ?_;refine bA 11 ?_;refine nA 12 ?_;refine go ?_;refine gU (bX l E log ⟨0,g,0,0,0⟩) rfl rfl (by(repeat(first|exact trivial|refine⟨⟨rfl,rfl⟩,?_⟩))) trivial ?_;exact⟨rfl,rfl⟩
abbrev iF(a:aS)(od:List F)(dn:Bool):bH:=[(22,[z a.kind,z a.cell,z a.eh,z a.new]),(21,[.any]),(23,od),(24,[dB dn])]
abbrev nn(o:br):List F:=[z o.val,dB o.is,z o.err,z o.cJ,cT o.gone]
theorem xl{e:ay}{vs:List Value}(a:aS)(o:br)(dn:Bool)(hI:fG (iF a (nn o) dn) e)(hv:DReps e vs [.ptr 22 0,.ptr 21 0,.ptr 23 0,.ptr 24 0]):
 CallsD prog 204 vs.toArray .returning e.w λ r u2 aH=>∃V ag,r=.returned (.tuple #[])/\u2=.returning/\V.w=aH/\fG ag V/\Left [21,22,23,24] e V/\ag=iF a (nn o) dn:=by
 refine uU (ah:=tb) func204 rfl ntmps204 rfl rfl rfl (by(repeat(first|exact trivial|refine⟨rfl,?_⟩))) (λ _ _=>rfl) (λ _=>rfl) rfl rfl .no (λ w cl own kf=>?_) hI hv;refine go ?_;refine bf (Ej underlying20 rfl rfl) rfl rfl rfl ?_;refine go ?_;refine jn (iF a (nn o) dn) rfl rfl (by(repeat(first|exact trivial|refine⟨⟨rfl,rfl⟩,?_⟩))) (by(repeat(first|exact trivial|refine⟨rfl,?_⟩))) rfl
theorem xm{e:ay}{vs:List Value}(a bu:aS)(od:List F)(X:od=[z 0,dB false,z 0,z 0,.p (.sl true 0 [])])(dn:Bool)(hI:fG (iF a od dn) e)(hv:DReps e vs [.ptr 22 0,.ptr 21 0,.ptr 23 0,.ptr 24 0]):
 CallsD prog 204 vs.toArray (.panicking [pe (hk bu)]) e.w λ r u2 aH=>∃V ag,r=.returned (.tuple #[])/\u2=.panicking [{v:=hk bu,recovered:=true}]/\V.w=aH/\fG ag V/\Left [21,22,23,24] e V/\ag=iF bu od dn:=by
 subst X;refine uU (ah:=tb) func204 rfl ntmps204 rfl rfl rfl (by(repeat(first|exact trivial|refine⟨rfl,?_⟩))) (λ _ _=>rfl) (λ _=>rfl) rfl rfl (.yes (hk bu)) (λ w cl own kf=>?_) hI hv;refine go ?_;refine bf (Ek underlying20 rfl rfl) rfl rfl rfl ?_;refine go ?_;refine bf (C0 aw rfl rfl rfl rfl) rfl rfl rfl ?_;refine go ?_;refine jn (iF bu _ dn) rfl rfl (by(repeat(first|exact trivial|refine⟨⟨rfl,rfl⟩,?_⟩))) (by(repeat(first|exact trivial|refine⟨rfl,?_⟩))) rfl
set_option maxHeartbeats 4000000 in
theorem V0(a:aS):aW prog 104 [eW a] (dB (xv a)):=by
 generalize A:xv a=aK;unfold xv at A;refine sP func104 ntmps104 λ w cl=>?_
 refine go ?_;generalize h0:decide (a.cell<0)=cc;cases cc
 ·rw[decide_eq_true (show 0<=a.cell by have:=of_decide_eq_false h0;omega),Bool.true_and] at A;refine go ?_;generalize u:decide (a.kind=1)=cc;cases cc
  ·have aN:=of_decide_eq_false u;rw[if_neg aN] at A;refine go ?_;generalize D:decide (a.kind=2)=cc;cases cc
   ·have bd:=of_decide_eq_false D;refine go ?_;generalize h4:decide (a.kind=4)=cc;cases cc
    ·have jM:=of_decide_eq_false h4;refine go ?_;generalize h5:decide (a.kind=5)=cc;cases cc
     ·have yv:=of_decide_eq_false h5;rw[if_neg (by omega)] at A;refine go ?_;generalize K:decide (a.kind=3)=cc;cases cc
      ·rw[K] at A;refine gf ?_;rw[<-A]
      ·rw[K] at A;refine gf ?_;rw[<-A]
     ·rw[if_pos (by have:=of_decide_eq_true h5;omega)] at A;refine gf ?_;rw[<-A]
    ·rw[if_pos (by have:=of_decide_eq_true h4;omega)] at A;refine gf ?_;rw[<-A]
   ·rw[if_pos (by have:=of_decide_eq_true D;omega)] at A;refine gf ?_;rw[<-A]
  ·rw[if_pos (of_decide_eq_true u)] at A;refine go ?_;generalize D:decide (a.new=0)=cc;cases cc
   ·rw[D] at A;refine gf ?_;rw[<-A];rfl
   ·rw[D] at A;refine gf ?_;rw[<-A];rfl
 ·rw[decide_eq_false (show¬0<=a.cell by have:=of_decide_eq_true h0;omega)] at A;refine gf ?_;rw[<-A];rfl
theorem KZ(n:Int)(a:aS):aW prog 67 [z n,eW a] (z (mI n a)):=by
 generalize A:mI n a=aK;unfold mI at A;refine sP func67 ntmps67 λ w cl=>?_
 refine gA (V0 a) ?_;generalize u:xv a=cc;cases cc
 ·rw[u,if_neg (by decide)] at A;refine gf ?_;rw[<-A]
 ·rw[u,if_pos rfl] at A;refine go ?_;generalize D:decide (n<=a.cell)=cc;cases cc
  ·rw[if_neg (of_decide_eq_false D)] at A;refine gf ?_;rw[<-A]
  ·rw[if_pos (of_decide_eq_true D)] at A;refine gf ?_;rw[<-A]
theorem wrap64(x:Int):IntKind.i64.wrap x=Am x:=by show(if(true&&decide (x%18446744073709551616>=9223372036854775808))=true then x%18446744073709551616-18446744073709551616 else x%18446744073709551616)=Am x;unfold Am;simp only[Bool.true_and,decide_eq_true_eq];split<;>split<;>omega
theorem WV{xs:List Int}{cs:List F}(h:cs.take xs.length=(aZ xs).map F.p){x:Nat}(T:x<xs.length):cs[x]?=some (z (fe xs x)):=by
 have D:xs[x]?=some (fe xs x):=by simp[fe,T]
 have u:(cs.take xs.length)[x]?=some (z (fe xs x)):=by rw[h,List.getElem?_map,N9 D];rfl
 rw[List.getElem?_take,if_pos T] at u;exact u
theorem IW{xs:List Int}{cs:List F}(h:cs.take xs.length=(aZ xs).map F.p)(x:Nat)(v:Int):(cs.set x (z v)).take xs.length=(aZ (xs.set x v)).map F.p:=by rw[List.take_set,h];unfold aZ;simp[List.map_set]
theorem I2{cs:List F}(h:eN cs){i:Nat}{n:Int}:eN (cs.set i (z n)):=by
 intro B ak;have u:=h B ak;clear h;induction cs generalizing i with
 |nil=>rfl
 |cons d cs ih=>
  simp only[F.ok.ec,Bool.and_eq_true] at u;cases i with
  |zero=>simp only[List.set_cons_zero,F.ok.ec,Bool.and_eq_true];exact⟨rfl,u.2⟩
  |succ i=>simp only[List.set_cons_succ,F.ok.ec,Bool.and_eq_true];exact⟨u.1,ih u.2⟩
set_option maxHeartbeats 4000000 in
theorem PQ(xs:List Int)(k:Int)(x:Nat)(o nw:Int)(T:x<xs.length)(_:xs.length<=1000000)(c:Nat)(cs:List F)(nM:cs.length=c)(L:xs.length<=c)(mP:cs.take xs.length=(aZ xs).map F.p)(bG:eN cs):
 d8 prog 68 [9] [.arr 9 0 xs.length c,.agg [z k,z x,z o,z nw]] [(9,cs)] (λ d O=>d=vO (kj xs ⟨k,x,o,nw⟩).2/\∃aO,O=[(9,aO)]/\aO.length=c/\aO.take xs.length=(aZ (kj xs ⟨k,x,o,nw⟩).1).map F.p/\eN aO):=by
 have hg:=WV mP T;generalize hv:fe xs x=v at hg;generalize A:kj xs ⟨k,x,o,nw⟩=aK;unfold kj at A;simp only[Int.toNat_natCast,hv,<-wrap64] at A;have eM:=IW mP x nw;have g8:=IW mP x (IntKind.i64.wrap (v+nw));have qO:eN (cs.set x (z nw)):=I2 bG;have uw:eN (cs.set x (z (IntKind.i64.wrap (v+nw)))):=I2 bG;refine sI func68 ntmps68 λ w cl own kf=>?_
 refine go ?_;refine aj x 1 ?_;refine bf (kI aw rfl rfl rfl rfl rfl hg) rfl rfl rfl ?_;refine go ?_;generalize K:decide (k=3)=cc;cases cc
 ·have cK:=of_decide_eq_false K;rw[if_neg cK] at A;refine go ?_;generalize D:decide (k=2)=cc;cases cc
  ·have bd:=of_decide_eq_false D;refine go ?_;generalize h5:decide (k=5)=cc;cases cc
   ·have yv:=of_decide_eq_false h5;rw[if_neg (by omega)] at A;refine go ?_;generalize h4:decide (k=4)=cc;cases cc
    ·rw[if_neg (of_decide_eq_false h4)] at A;refine go ?_;refine gU [(9,cs)] rfl rfl ⟨⟨rfl,bG _ _⟩,trivial⟩ ⟨rfl,trivial⟩ ?_;rw[<-A];exact⟨rfl,cs,rfl,nM,mP,bG⟩
    ·rw[if_pos (of_decide_eq_true h4)] at A;refine go ?_;refine aj x 1 ?_;refine pE aw rfl rfl rfl rfl rfl rfl rfl rfl rfl (by rw[nM];omega) ?_;refine go ?_;refine gU [(9,cs.set x (z (IntKind.i64.wrap (v+nw))))] rfl rfl ⟨⟨rfl,uw _ _⟩,trivial⟩ ⟨rfl,trivial⟩ ?_;rw[<-A];exact⟨rfl,_,rfl,by rw[List.length_set];exact nM,g8,uw⟩
   ·rw[if_pos (by have:=of_decide_eq_true h5;omega)] at A;refine go ?_;refine aj x 1 ?_;refine pE aw rfl rfl rfl rfl rfl rfl rfl rfl rfl (by rw[nM];omega) ?_;refine go ?_;refine gU [(9,cs.set x (z nw))] rfl rfl ⟨⟨rfl,qO _ _⟩,trivial⟩ ⟨rfl,trivial⟩ ?_;rw[<-A];exact⟨rfl,_,rfl,by rw[List.length_set];exact nM,eM,qO⟩
  ·rw[if_pos (by have:=of_decide_eq_true D;omega)] at A;refine go ?_;refine aj x 1 ?_;refine pE aw rfl rfl rfl rfl rfl rfl rfl rfl rfl (by rw[nM];omega) ?_;refine go ?_;refine gU [(9,cs.set x (z nw))] rfl rfl ⟨⟨rfl,qO _ _⟩,trivial⟩ ⟨rfl,trivial⟩ ?_;rw[<-A];exact⟨rfl,_,rfl,by rw[List.length_set];exact nM,eM,qO⟩
 ·rw[if_pos (of_decide_eq_true K)] at A;refine go ?_;generalize h4:decide (v=o)=cc;cases cc
  ·rw[if_neg (of_decide_eq_false h4)] at A;refine go ?_;refine gU [(9,cs)] rfl rfl ⟨⟨rfl,bG _ _⟩,trivial⟩ ⟨rfl,trivial⟩ ?_;rw[<-A];exact⟨rfl,cs,rfl,nM,mP,bG⟩
  ·rw[if_pos (of_decide_eq_true h4)] at A;refine go ?_;refine aj x 1 ?_;refine pE aw rfl rfl rfl rfl rfl rfl rfl rfl rfl (by rw[nM];omega) ?_;refine go ?_;refine gU [(9,cs.set x (z nw))] rfl rfl ⟨⟨rfl,qO _ _⟩,trivial⟩ ⟨rfl,trivial⟩ ?_;rw[<-A];exact⟨rfl,_,rfl,by rw[List.length_set];exact nM,eM,qO⟩
def Qd(ls:List Int)(d:F)(O:List (Nat×List F)):Prop:=∃c cs,d=.arr 9 0 ls.length c/\O=[(9,cs)]/\cs.length=c/\ls.length<=c/\c<=maxLen/\cs.take ls.length=(aZ ls).map F.p/\eN cs
theorem Kx(ls:List Int)(h0:0<ls.length)(M:ls.length<=1000000):d8 prog 66 [] [aV ls] [] (Qd ls):=by
 refine sI func66 ntmps66 λ w cl own kf=>?_
 refine go ?_;refine Ka aw rfl rfl rfl rfl rfl rfl rfl λ c L=>?_
 cases c with
 |true=>exact absurd (L rfl) (by omega)
 |false=>refine go ?_;refine J8 aw 9 rfl rfl rfl rfl rfl rfl rfl rfl rfl rfl rfl rfl rfl h0 (kL ls) (by unfold maxLen;omega) (by show _*8<=_;omega) (λ aO bU u D K h4 h5=>?_);refine go ?_;refine gU [(9,aO)] rfl rfl (by(repeat(first|exact trivial|refine⟨⟨rfl,h5 _ _⟩,?_⟩))) trivial ?_;exact⟨bU,aO,rfl,rfl,u,K,D,h4,h5⟩
theorem En(l:List Int):∀x∈aZ l,x.lf=true:=by
 intro x T;simp only[aZ,List.mem_map] at T;obtain⟨i,_,rfl⟩:=T
 rfl
abbrev fg(xs:List Int):F:=.agg [aV xs]
theorem Al(xs:List Int)(a:aS):(kj xs a).1.length=xs.length:=by
 unfold kj
 repeat' split
 all_goals simp
theorem K1{n:Int}{a:aS}(h:mI n a=0):0<=a.cell/\a.cell<n:=by
 unfold mI at h;split at h
 ·rename_i hr;unfold xv at hr;simp only[Bool.and_eq_true,decide_eq_true_eq] at hr;split at h
  ·omega
  ·exact⟨hr.1,by omega⟩
 ·omega
set_option maxHeartbeats 4000000 in
theorem VZ(xs:List Int)(a:aS)(hn:xs.length<=1000000):aW prog 103 [fg xs,eW a] (.bc [fg (zg xs a).1,vO (zg xs a).2.1,z (zg xs a).2.2]):=by
 generalize A:zg xs a=aK;unfold zg at A;refine sP func103 ntmps103 λ w cl=>?_
 refine gA (KZ xs.length a) ?_;generalize u:decide (mI xs.length a=0)=cc;cases cc
 ·rw[if_neg (of_decide_eq_false u)] at A;refine gf ?_;rw[<-A]
 ·have aN:=of_decide_eq_true u;rw[if_pos aN] at A;obtain⟨ho,cb⟩:=K1 aN;have kX:=Al xs a;refine go ?_;refine gk (Kx xs (by omega) hn) rfl (λ a w=>call66 a w) rfl rfl trivial trivial rfl rfl rfl rfl ?_ ?_
  ·rintro d O ⟨c,cs,rfl,rfl,_⟩;exact⟨.inr rfl,trivial⟩
  rintro d O ⟨c,cs,rfl,rfl,nM,L,jp,mP,bG⟩;have hT:=PQ xs a.kind a.cell.toNat a.eh a.new (by omega) hn c cs nM L mP bG;rw[show((a.cell.toNat:Nat):Int)=a.cell by omega] at hT;refine go ?_;refine gk hT rfl (λ a w=>call68 a w) rfl rfl (by(repeat(first|exact trivial|refine⟨⟨rfl,bG _ _⟩,?_⟩))) (by(repeat(first|exact trivial|refine⟨.inr rfl,?_⟩))) rfl rfl rfl rfl ?_ ?_
  ·rintro d O ⟨_,aO,rfl,_⟩;exact⟨.inl rfl,trivial⟩
  rintro d O ⟨rfl,aO,rfl,k1,k2,k3⟩;refine gG ?_;refine mg ?_;refine da (Du 8 9 (aZ (kj xs a).1) rfl rfl rfl rfl k1 L (by rw[kL,kX]) k2 jp (En _)) ?_;refine oQ ?_;refine gW 4 [2] ?_;refine gf ?_;rw[<-A];simp only[fg,aV,kX]
theorem AF{dE:Type}{P:Program}{Γ:bE}{Q:Exit->St->Prop}{x y:Code}{I:St}(bn:dE->St)(ok:dE->Prop)(u:aJ P Γ x (λ ex bS=>ex=.normal/\∃i,ok i/\bF Γ bS (bn i)) I)(D:∀i,ok i->aJ P Γ y Q (bn i)):aJ P Γ (.seq x y) Q I:=
 oQ (tS u λ ex bS h=>by
  obtain⟨rfl,i,Z,hg⟩:=h;exact da hg (D i Z))
theorem AG{dE:Type}{P:Program}{Γ:bE}{Q:Exit->St->Prop}{c:Code}{I:St}(x:Exit)(bn:dE->St)(ok:dE->Prop)(h:aJ P Γ c (λ ex bS=>ex=x/\∃i,ok i/\bF Γ bS (bn i)) I)(k:∀bS i,ok i->bF Γ bS (bn i)->Q x bS):aJ P Γ c Q I:=
 tS h λ ex bS hh=>by
  obtain⟨rfl,i,Z,hg⟩:=hh;exact k bS i Z hg
end Go.Proofs.YtcnefjfboagbmaaGreat
