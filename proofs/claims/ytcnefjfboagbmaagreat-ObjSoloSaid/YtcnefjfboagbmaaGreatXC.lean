/- What an operation's program does next, of whatever object: its walk. -/
import Derived.Test.YtcnefjfboagbmaaGreatWA
import Derived.Test.YtcnefjfboagbmaaGreatPA
import Derived.Test.YtcnefjfboagbmaaGreatWD
import Derived.Test.YtcnefjfboagbmaaGreatXA
import Derived.Test.YtcnefjfboagbmaaGreatXB
import Derived.Test.YtcnefjfboagbmaaGreatWE
import Derived.DeepKeys
import Derived.Test.YtcnefjfboagbmaaGreatWC
namespace Go.Proofs.YtcnefjfboagbmaaGreat
open Go.Proofs.Tryz
open Go.RowKit
set_option maxRecDepth 100000
abbrev Cs:G:=.agg [u 1,u 3,.fn (.func 105) [] [],u 4,u 5,.fn (.func 106) [] [],u 6,u 7,.fn (.func 107) [] []]
theorem We:aX prog 70 [] Cs:=by
 refine sP func70 ntmps70 λ w cl=>?_
 refine gf ?_
 rfl
abbrev m6(op:bt):Bool:=decide (op.kind≠6\/(0<=op.a/\op.a<4294967296))
def v7(op:bt):Nat:=if m6 op=false then 3 else if 1<=op.kind/\op.kind<=3 then 0 else if 4<=op.kind/\op.kind<=5 then 1 else if 6<=op.kind/\op.kind<=7 then 2 else 3
set_option maxHeartbeats 16000000 in
theorem RB(l:ag)(Z:ca l)(hS:0<=l.az)(hM:kh l)(D:Int)(tH:0<=D/\D<=1000000)(gone:List (Int×Int))(op:bt)(log:List aD)(hg:eu gone)(dp:gone.length+log.length<=10000)(FX:log.length<=5000):aX prog 30 [dD l,u D,d7 gone,.agg [u op.kind,u op.obj,u op.a,u op.b],gH log] (rT (oq l D gone op log)):=by
 generalize E:oq l D gone op log=aJ;unfold oq at E;refine sP func30 ntmps30 λ w cl=>?_
 refine zA (zB ?_);refine hZ ?_;refine zM ?_;refine Cd (dM:=Unit) (λ _=>⟨[(13,dB (m6 op)),(12,dB false),(11,.ptr 3 0),(10,.ptr 2 0),(8,.ptr 1 0),(5,.ptr 0 0),(1,u D),(2,d7 gone),(4,gH log)],[(3,[u 0,dB false,u 0,u 0,.p (.sl true 0 [])]),(2,[u 0,u 0,u 0,u 0]),(1,[u op.kind,u op.obj,u op.a,u op.b]),(0,cn l)],[]⟩) (λ _=>True) ?_ ?_
 ·refine go ?_;generalize h1:decide (op.kind=6)=cc;cases cc
  ·have aP:=of_decide_eq_false h1;refine go ?_;refine⟨rfl,(),trivial,?_⟩;rw[show m6 op=true from decide_eq_true (.inl aP)];exact zX
  ·have aP:=of_decide_eq_true h1;refine go ?_;generalize A:decide (op.a>=0)=cc;cases cc
   ·have bs:=of_decide_eq_false A;refine go ?_;refine⟨rfl,(),trivial,?_⟩;rw[show m6 op=false from decide_eq_false (by omega)];exact zX
   ·have bs:=of_decide_eq_true A;refine go ?_;rw[show decide (op.a<4294967296)=m6 op by rw[decide_eq_decide];omega];refine⟨rfl,(),trivial,?_⟩;exact zX
 intro _ _;have J4:m6 op=true->op.kind≠6\/(0<=op.a/\op.a<4294967296):=λ h=>of_decide_eq_true h
 have PY:m6 op=false->¬(op.kind≠6\/(0<=op.a/\op.a<4294967296)):=λ h=>of_decide_eq_false h
 have gV:(∀k:Nat,k<3->v7 op≠k)->aJ=(eN,⟨0,false,1,-1,gone⟩,true):=λ h=>by
  have h0:=h 0 (by omega);have h1:=h 1 (by omega);have A:=h 2 (by omega);unfold v7 at h0 h1 A;rw[<-E];generalize m6 op=b at*;cases b
  ·have:=PY rfl;rw[if_neg (by omega),if_neg (by omega),if_neg (by omega)]
  ·simp only[Bool.true_eq_false,if_false] at h0 h1 A;have:=J4 rfl;have a0:¬(1<=op.kind/\op.kind<=3):=λ hh=>by rw[if_pos hh] at h0;exact h0 rfl
   rw[if_neg a0] at h1 A;have a1:¬(4<=op.kind/\op.kind<=5):=λ hh=>by rw[if_pos hh] at h1;exact h1 rfl
   rw[if_neg a1] at A;have a2:¬(6<=op.kind/\op.kind<=7):=λ hh=>by rw[if_pos hh] at A;exact A rfl
   rw[if_neg a0,if_neg (by omega),if_neg (by omega)]
 have Qu:∀k:Nat,k<3->(v7 op=k↔(m6 op=true/\(([1,4,6]:List Int).getD k 0)<=op.kind/\op.kind<=(([3,5,7]:List Int).getD k 0))):=λ k I=>by
  unfold v7;rcases(show k=0\/k=1\/k=2 by omega) with rfl|rfl|rfl<;>(simp only[List.getD_cons_zero,List.getD_cons_succ];repeat' split)<;>simp_all<;>omega
 refine gA We ?_;refine bW (λ i:Nat=>i<=3/\∀k<i,v7 op≠k) (λ i=>⟨[(30,u i),(29,Cs),(13,dB (m6 op)),(12,dB false),(11,.ptr 3 0),(10,.ptr 2 0),(8,.ptr 1 0),(5,.ptr 0 0),(1,u D),(2,d7 gone),(4,gH log)],[(3,[u 0,dB false,u 0,u 0,.p (.sl true 0 [])]),(2,[u 0,u 0,u 0,u 0]),(1,[u op.kind,u op.obj,u op.a,u op.b]),(0,cn l)],[]⟩) (λ i=>3-i) 0 ⟨by omega,λ k I=>by omega⟩ (zX) ?_;rintro i ⟨X,I⟩;refine(show aK _ _ _ _ ⟨[(30,u i),(29,Cs),(13,dB (m6 op)),(12,dB false),(11,.ptr 3 0),(10,.ptr 2 0),(8,.ptr 1 0),(5,.ptr 0 0),(1,u D),(2,d7 gone),(4,gH log)],[(3,[u 0,dB false,u 0,u 0,.p (.sl true 0 [])]),(2,[u 0,u 0,u 0,u 0]),(1,[u op.kind,u op.obj,u op.a,u op.b]),(0,cn l)],[]⟩ from ?_);refine go ?_
 by_cases K:i=3
 ·subst K;refine(show CK false _ _ from ?_);refine gA ((pq gone (by omega)).pure) ?_;refine d8 ?_;rw[gV (λ k h=>I k h)]
  rfl
 rw[show decide ((i:Int)<3)=true by rw[decide_eq_true_eq];omega];have XQ:∃(lo kx:Int)(f:Nat),(([u 1,u 3,.fn (.func 105) [] [],u 4,u 5,.fn (.func 106) [] [],u 6,u 7,.fn (.func 107) [] []]:List G).drop (i*3)).take 3=[u lo,u kx,.fn (.func f) [] []]/\jN prog f/\(v7 op=i↔(m6 op=true/\lo<=op.kind/\op.kind<=kx))/\(m6 op=true->lo<=op.kind->op.kind<=kx->aX prog f [dD l,u D,d7 gone,.agg [u op.kind,u op.obj,u op.a,u op.b],gH log] (rT aJ)):=by
  have hy:=Qu i (by omega);rcases(show i=0\/i=1\/i=2 by omega) with rfl|rfl|rfl
  ·refine⟨1,3,105,rfl,λ a w=>call105 a w,hy,λ _ q1 q2=>?_⟩;rw[if_pos ⟨q1,q2⟩] at E;rw[<-E];exact YK l Z hS hM D gone op log hg dp FX
  ·refine⟨4,5,106,rfl,λ a w=>call106 a w,hy,λ _ q1 q2=>?_⟩;rw[if_neg (by omega),if_pos (by omega)] at E;rw[<-E];exact Em.DZ l Z D tH gone op log hg (by omega) (by omega)
  ·refine⟨6,7,107,rfl,λ a w=>call107 a w,hy,λ q0 q1 q2=>?_⟩;have:=J4 q0;rw[if_neg (by omega),if_neg (by omega),if_pos (by omega)] at E;rw[<-E];exact Sg.DZ l Z D gone op log (λ h6=>by omega) hg dp
 obtain⟨lo,kx,f,gx,CY,Yg,XD⟩:=XQ;have P3:¬(m6 op=true/\lo<=op.kind/\op.kind<=kx)->∀k<i+1,v7 op≠k:=λ hn k dv=>by
  rcases Nat.lt_succ_iff_lt_or_eq.1 dv with h|rfl
  ·exact I k h
  ·exact λ e=>hn (Yg.1 e)
 have Ko:∀{Γ:bI}{J:St},(¬(m6 op=true/\lo<=op.kind/\op.kind<=kx))->bN Γ J ⟨[(30,u ((i:Int)+1)),(29,Cs),(13,dB (m6 op)),(12,dB false),(11,.ptr 3 0),(10,.ptr 2 0),(8,.ptr 1 0),(5,.ptr 0 0),(1,u D),(2,d7 gone),(4,gH log)],[(3,[u 0,dB false,u 0,u 0,.p (.sl true 0 [])]),(2,[u 0,u 0,u 0,u 0]),(1,[u op.kind,u op.obj,u op.a,u op.b]),(0,cn l)],[]⟩->∃j:Nat,(j<=3/\∀k<j,v7 op≠k)/\3-j<3-i/\bN Γ J ⟨[(30,u j),(29,Cs),(13,dB (m6 op)),(12,dB false),(11,.ptr 3 0),(10,.ptr 2 0),(8,.ptr 1 0),(5,.ptr 0 0),(1,u D),(2,d7 gone),(4,gH log)],[(3,[u 0,dB false,u 0,u 0,.p (.sl true 0 [])]),(2,[u 0,u 0,u 0,u 0]),(1,[u op.kind,u op.obj,u op.a,u op.b]),(0,cn l)],[]⟩:=λ hn eQ=>⟨i+1,⟨by omega,P3 hn⟩,by omega,by rw[show((i+1:Nat):Int)=(i:Int)+1 by omega];exact eQ⟩
 clear Qu gV J4 PY E P3;refine go ?_;refine bn (ZL aB [u lo,u kx,.fn (.func f) [] []] rfl rfl rfl rfl rfl rfl (by omega) (by omega) (by rw[Int.toNat_natCast];exact gx)) rfl rfl rfl ?_;refine go ?_;generalize m6 op=b at*;cases b
 ·refine go ?_;exact Ko (by simp) zX
 ·refine go ?_
  by_cases h4:lo<=op.kind
  ·rw[show decide (lo<=op.kind)=true from decide_eq_true h4];refine go ?_
   by_cases h5:op.kind<=kx
   ·rw[show decide (op.kind<=kx)=true from decide_eq_true h5];have L:=XD rfl h4 h5;refine go ?_;refine bn (vN L rfl CY rfl rfl) rfl rfl rfl ?_;refine gf ?_
    rfl
   ·rw[show decide (op.kind<=kx)=false from decide_eq_false h5];refine go ?_;exact Ko (λ h=>h5 h.2.2) zX
  ·rw[show decide (lo<=op.kind)=false from decide_eq_false h4];refine go ?_;exact Ko (λ h=>h4 h.2.1) zX
abbrev xy(c:oF):List G:=[u c.az,u c.nodes,u c.buckets,u c.bP,u c.tasks,u c.cells,u c.maps,u c.cZ,u c.bo]
abbrev Cr(c:oF):G:=.agg (xy c)
theorem wZ(n a b:Int):aX prog 63 [u n,u a,u b] (dB (mZ n a b)):=qE n a b
def vd(b:Int):Nat->Bool
 |0=>false
 |i+1=>vd b i||decide (b=2^i)
theorem abV(b:Int):vd b 7=uV b:=by simp[vd,uV]
theorem abU{i:Nat}(h:i<=7):(2:Int)^i<=128/\1<=(2:Int)^i/\decide ((2:Int)^i<=64)=decide (i<7):=by rcases(show i=0\/i=1\/i=2\/i=3\/i=4\/i=5\/i=6\/i=7 by omega) with rfl|rfl|rfl|rfl|rfl|rfl|rfl|rfl<;>decide
set_option maxHeartbeats 8000000 in
theorem aba(c:oF):aX prog 62 [Cr c] (dB (yJ c)):=by
 generalize E:yJ c=aJ;unfold yJ at E;refine sP func62 ntmps62 λ w cl=>?_
 refine go ?_;refine ET (dM:=Unit) (.exit 0) (λ _=>⟨[(3,dB (uV c.buckets)),(1,.ptr 0 0)],[(0,xy c)],[]⟩) (λ _=>True) ?_ ?_
 ·refine bW (λ i:Nat=>i<=7) (λ i=>⟨[(4,u ((2:Int)^i)),(3,dB (vd c.buckets i)),(1,.ptr 0 0)],[(0,xy c)],[]⟩) (λ i=>7-i) 0 (by omega) (zX) ?_;intro i X;obtain⟨q1,q2,q3⟩:=abU X;have q4:vd c.buckets (i+1)=(vd c.buckets i||decide (c.buckets=2^i)):=rfl;have q5:(2:Int)^(i+1)=2*2^i:=by rw[Int.pow_succ];omega
  by_cases h7:i=7
  ·subst h7;rw[abV];refine(show aK _ _ _ _ ⟨[(4,u 128),(3,dB (uV c.buckets)),(1,.ptr 0 0)],[(0,xy c)],[]⟩ from ?_);refine go ?_;refine(show CK false _ _ from ?_);refine go ?_;exact⟨rfl,(),trivial,zX⟩
  ·rw[decide_eq_true (show i<7 by omega)] at q3;have dg:∀{Γ:bI}{J:St},bN Γ J ⟨[(4,u (2*(2:Int)^i)),(3,dB (vd c.buckets i||decide (c.buckets=2^i))),(1,.ptr 0 0)],[(0,xy c)],[]⟩->∃j:Nat,j<=7/\7-j<7-i/\bN Γ J ⟨[(4,u ((2:Int)^j)),(3,dB (vd c.buckets j)),(1,.ptr 0 0)],[(0,xy c)],[]⟩:=λ hg=>⟨i+1,by omega,by omega,by rw[q4,q5];exact hg⟩
   clear q4 q5;generalize(2:Int)^i=v at*;generalize vd c.buckets i=pw at*;refine(show aK _ _ _ _ ⟨[(4,u v),(3,dB pw),(1,.ptr 0 0)],[(0,xy c)],[]⟩ from ?_);refine go ?_;rw[q3];refine go ?_;cases pw
   ·refine go ?_;rw[show IntKind.i64.wrap (2*v)=2*v from eI (by omega) (by omega)];refine go ?_;exact dg zX
   ·refine go ?_;rw[show IntKind.i64.wrap (2*v)=2*v from eI (by omega) (by omega)];refine go ?_;exact dg zX
 intro bU _ _ eQ;refine zR (zM (dO eQ ?_));clear eQ;generalize uV c.buckets=pw at*;cases pw
 ·refine gf ?_;rw[<-E];rfl
 ·refine go ?_;refine cA (wZ c.az 1 8) ?_;generalize mZ c.az 1 8=b0 at*;cases b0
  ·refine gf ?_;rw[<-E];rfl
  ·refine go ?_;refine cA (wZ c.bP 1 8) ?_;generalize mZ c.bP 1 8=b1 at*;cases b1
   ·refine gf ?_;rw[<-E];rfl
   ·refine go ?_;refine cA (wZ c.tasks 1 64) ?_;generalize mZ c.tasks 1 64=b2 at*;cases b2
    ·refine gf ?_;rw[<-E];rfl
    ·refine go ?_;refine cA (wZ c.cells 0 16) ?_;generalize mZ c.cells 0 16=b3 at*;cases b3
     ·refine gf ?_;rw[<-E];rfl
     ·refine go ?_;refine cA (wZ c.maps 0 8) ?_;generalize mZ c.maps 0 8=d0 at*;cases d0
      ·refine gf ?_;rw[<-E];rfl
      ·refine go ?_;refine cA (wZ c.cZ 0 8) ?_;generalize mZ c.cZ 0 8=d1 at*;cases d1
       ·refine gf ?_;rw[<-E];rfl
       ·refine gA (wZ c.bo 0 8) ?_;refine d8 ?_;rw[<-E];rfl
theorem RJ{i:Nat}(h:i<=5):4<=(4:Int)*2^i/\(4:Int)*2^i<=128/\(4:Int)*2^(i+1)=2*(4*2^i):=by rcases(show i=0\/i=1\/i=2\/i=3\/i=4\/i=5 by omega) with rfl|rfl|rfl|rfl|rfl|rfl<;>decide
theorem acY{t:Int}{i:Nat}(X:i<=4)(ht:t<=64)(h1:∀j<i,(4:Int)*2^j<t)(A:t<=4*2^i):ng t=i+1:=by
 unfold ng;rcases(show i=0\/i=1\/i=2\/i=3\/i=4 by omega) with rfl|rfl|rfl|rfl|rfl
 ·simp at A;rw[if_pos A]
 ·have a0:=h1 0 (by omega);simp at a0 A;rw[if_neg (by omega),if_pos (by omega)]
 ·have a0:=h1 1 (by omega);simp at a0 A;rw[if_neg (by omega),if_neg (by omega),if_pos (by omega)]
 ·have a0:=h1 2 (by omega);simp at a0 A;rw[if_neg (by omega),if_neg (by omega),if_neg (by omega),if_pos (by omega)]
 ·have a0:=h1 3 (by omega);simp at a0 A;rw[if_neg (by omega),if_neg (by omega),if_neg (by omega),if_neg (by omega)]
theorem abk(l:ag)(ht:l.tasks<=64):aX prog 64 [dD l] (u (ng l.tasks)):=by
 refine sP func64 ntmps64 λ w cl=>?_
 refine go ?_;refine bW (λ i:Nat=>i<=4/\∀j<i,(4:Int)*2^j<l.tasks) (λ i=>⟨[(4,u (4*(2:Int)^i)),(3,u ((i:Int)+1)),(1,.ptr 0 0)],[(0,cn l)],[]⟩) (λ i=>5-i) 0 ⟨by omega,λ j hj=>by omega⟩ (zX) ?_;rintro i ⟨X,I⟩;obtain⟨q1,q2,q3⟩:=RJ (i:=i) (by omega);have dg:(4:Int)*2^i<l.tasks->∀{Γ:bI}{J:St},bN Γ J ⟨[(4,u (2*(4*(2:Int)^i))),(3,u ((i:Int)+1+1)),(1,.ptr 0 0)],[(0,cn l)],[]⟩->∃j:Nat,(j<=4/\∀k<j,(4:Int)*2^k<l.tasks)/\5-j<5-i/\bN Γ J ⟨[(4,u (4*(2:Int)^j)),(3,u ((j:Int)+1)),(1,.ptr 0 0)],[(0,cn l)],[]⟩:=λ ba=>by
  have h4:i≠4:=λ e=>by subst e;simp at ba;omega
  intro Γ J hg;exact⟨i+1,⟨by omega,λ k dv=>by
   rcases Nat.lt_succ_iff_lt_or_eq.1 dv with h|rfl
   ·exact I k h
   ·exact ba⟩,by omega,by rw[q3,show((i+1:Nat):Int)+1=(i:Int)+1+1 by omega];exact hg⟩
 have JC:l.tasks<=4*2^i->((ng l.tasks:Nat):Int)=(i:Int)+1:=λ h=>by rw[acY X ht I h];omega
 clear q3;generalize(4:Int)*2^i=v at*;refine(show aK _ _ _ _ ⟨[(4,u v),(3,u ((i:Int)+1)),(1,.ptr 0 0)],[(0,cn l)],[]⟩ from ?_);refine go ?_;generalize h1:decide (v<l.tasks)=cc;cases cc
 ·have aP:=of_decide_eq_false h1;refine gf ?_;rw[JC (by omega)]
 ·have aP:=of_decide_eq_true h1;refine go ?_;rw[show decide ((i:Int)+1<40)=true by rw[decide_eq_true_eq];omega];refine go ?_;rw[show IntKind.i64.wrap (2*v)=2*v from eI (by omega) (by omega)];refine go ?_;exact dg aP zX
theorem abl(n:Nat)(hn:n<=5):aX prog 65 [u n] (u (sJ n)):=by
 refine sP func65 ntmps65 λ w cl=>?_
 refine go ?_;refine bW (λ i:Nat=>i<=n) (λ i=>⟨[(0,u n),(5,u i),(4,u (4*(2:Int)^i)),(3,u (4*(2:Int)^i-4))],[],[]⟩) (λ i=>n-i) 0 (by omega) (zX) ?_;intro i X;obtain⟨q1,q2,q3⟩:=RJ (i:=i) (by omega);have dg:i<n->∀{Γ:bI}{J:St},bN Γ J ⟨[(0,u n),(5,u ((i:Int)+1)),(4,u (2*(4*(2:Int)^i))),(3,u (4*(2:Int)^i-4+4*(2:Int)^i))],[],[]⟩->∃j:Nat,j<=n/\n-j<n-i/\bN Γ J ⟨[(0,u n),(5,u j),(4,u (4*(2:Int)^j)),(3,u (4*(2:Int)^j-4))],[],[]⟩:=λ ba _ _ hg=>⟨i+1,by omega,by omega,by
  rw[q3,show(2*(4*(2:Int)^i)-4)=4*(2:Int)^i-4+4*(2:Int)^i by omega,show((i+1:Nat):Int)=(i:Int)+1 by omega];exact hg⟩
 have JC:i=n->sJ n=(4:Int)*2^i-4:=λ h=>by rw[h];rfl
 clear q3;generalize(4:Int)*2^i=v at*;refine(show aK _ _ _ _ ⟨[(0,u n),(5,u i),(4,u v),(3,u (v-4))],[],[]⟩ from ?_);refine go ?_;refine cN (λ h1=>?_) (λ h1=>?_)<;>try rw[h1]
 ·have aP:=of_decide_eq_true h1;refine go ?_;rw[show IntKind.i64.wrap (2*v)=2*v from eI (by omega) (by omega)];refine go ?_;exact dg (by omega) zX
 ·have aP:=of_decide_eq_false h1;refine gf ?_;rw[JC (by omega)]
def ZU:ag:=⟨0,0,0,0,0,0,0,0,0,0,0,0,0,0,0,0,0,0,0,0,0,0,0,0,0⟩
def D5(c:oF):ag×Int:=if xx c then(gm c,0) else(ZU,1)
set_option maxHeartbeats 8000000 in
theorem RC(c:oF):aX prog 26 [Cr c] (.bg [dD (D5 c).1,u (D5 c).2]):=by
 generalize E:D5 c=aJ;unfold D5 xx at E;have hm:=aba c;cases T:yJ c with
 |false=>
  rw[T] at hm E;refine sP func26 ntmps26 λ w cl=>?_
  refine gA hm ?_;refine d8 ?_;rw[<-E];rfl
 |true=>
  rw[T] at hm E;have Dg:0<=c.maps/\c.maps<=8/\0<=c.bo/\c.bo<=8:=by simp only[yJ,Bool.and_eq_true,QD] at T;omega
  have dz:=wZ c.nodes (c.maps+c.bo) 1000;cases hn:mZ c.nodes (c.maps+c.bo) 1000 with
  |false=>
   rw[hn] at dz E;refine sP func26 ntmps26 λ w cl=>?_
   refine gA hm ?_;refine cA dz ?_;refine gf ?_;rw[<-E];rfl
  |true=>
   rw[hn] at dz E;have hC:BL c:=Iy (by unfold xx;rw[T,hn];rfl);have E:(gm c,(0:Int))=aJ:=E;subst E;obtain⟨b0,⟨a1,a2⟩,⟨a3,a4⟩,⟨a5,a6⟩,⟨a7,a8⟩,⟨a9,p6⟩,⟨vE,Ie⟩,⟨MR,MS⟩,⟨MT,MU⟩⟩:=hC;have h0:=DL b0;have hr:=abk ⟨c.az,c.nodes,c.buckets,c.bP,c.tasks,c.cells,c.maps,c.cZ,c.bo,0,1,2,3,4,0,0,0,0,0,0,0,0,0,0,0⟩ a6;have Y5:=abl (ng c.tasks) (acZ c.tasks).2;have h1:=Sv c.tasks;have A:c.az*sJ (ng c.tasks)<=8*124:=Int.mul_le_mul (by omega) (by omega) (by omega) (by omega);have K:0<=c.az*sJ (ng c.tasks):=Int.mul_nonneg (by omega) (by omega);have h4:c.maps*(c.buckets+2)<=8*66:=Int.mul_le_mul (by omega) (by omega) (by omega) (by omega);have h5:0<=c.maps*(c.buckets+2):=Int.mul_nonneg (by omega) (by omega);have h6:c.cZ*(c.bP+1)<=8*9:=Int.mul_le_mul (by omega) (by omega) (by omega) (by omega);have h7:0<=c.cZ*(c.bP+1):=Int.mul_nonneg (by omega) (by omega);show aX prog 26 [Cr c] (.bg [dD (gm c),u 0]);unfold gm;simp only at hr;generalize ng c.tasks=rg at*;generalize sJ rg=af1 at*;refine sP func26 ntmps26 λ w cl=>?_
   refine gA hm ?_;refine cA dz ?_;refine gA hr ?_;simp(disch:=omega) only[eI];refine dW 7 [] ?_;refine gQ Y5 ?_;simp(disch:=omega) only[eI];refine go ?_;simp(disch:=omega) only[eI];refine gf ?_
   rfl
section
variable{P:Program}{S:Nat->Option G}{B:Nat->Option (List G)}{o:Oper}
end
def jO(x:Int):Prop:=-9223372036854775808<=x/\x<=9223372036854775807
structure aeA(l:ag):Prop where
 a:jO l.az/\jO l.nodes/\jO l.buckets/\jO l.bP/\jO l.tasks/\jO l.cells/\jO l.maps/\jO l.cZ/\jO l.bo
 b:jO l.done/\jO l.count/\jO l.era/\jO l.free/\jO l.alive/\jO l.owner/\jO l.kV/\jO l.rU/\jO l.ring/\jO l.task/\jO l.cell/\jO l.map/\jO l.stack/\jO l.chan/\jO l.node/\jO l.size
end Go.Proofs.YtcnefjfboagbmaaGreat
namespace Go.Proofs.YtcnefjfboagbmaaGreat.Sg
open Go.Proofs.Tryz
open Go.RowKit
set_option maxRecDepth 100000
theorem p9(xs:List Int)(i:Int):aX prog 88 [jl xs,u i] (u (bv xs i)):=by
 generalize E:bv xs i=aJ;unfold bv at E;refine sP func88 ntmps88 λ w cl=>?_
 refine go ?_;generalize h1:decide (i<0)=cc;cases cc
 ·have aP:=of_decide_eq_false h1;refine go ?_;generalize A:decide ((xs.length:Int)<=i)=cc;cases cc
  ·have bs:=of_decide_eq_false A;rw[if_neg (by omega)] at E;have hg:=xv (xs:=xs) (i:=i) (by omega) (by omega);refine go ?_;refine ai [pI (ef xs i)] (gk hg) ?_;refine gf ?_;rw[<-E]
  ·rw[if_pos (.inr (of_decide_eq_true A))] at E;refine gf ?_;rw[<-E]
 ·rw[if_pos (.inl (of_decide_eq_true h1))] at E;refine gf ?_;rw[<-E]
set_option maxHeartbeats 4000000 in
theorem wI(l:ag)(Z:ca l)(m:List Int)(s:Int)(hm:∀x∈m,x<9223372036854775808):aX prog 48 [dD l,jl m,u s] (bq (fp l m s)):=by
 generalize E:fp l m s=aJ;unfold fp at E;have hN:=Z.nodes;obtain⟨lR,ib⟩:=hN;have hi:∀i,bv m i<9223372036854775808:=by
  intro i;unfold bv ef;split
  ·omega
  ·rename_i h;have ba:i.toNat<m.length:=by omega
   have:m.getD i.toNat 0=m[i.toNat]:=by simp[ba]
   rw[this];exact hm _ (List.getElem_mem ba)
 refine sP func48 ntmps48 λ w cl=>?_
 refine go ?_;refine cA (FM l Z s) ?_;refine hZ ?_;refine nf ?_;refine qa ?_;refine qa ?_;refine vL ?_;refine hZ ?_;refine nf ?_;refine Ip rfl ?_;generalize h1:decide (jw l s<0)=cc;cases cc
 ·rw[if_neg (of_decide_eq_false h1)] at E;refine Co ?_;refine ES ?_;refine nf ?_;refine qa ?_;refine vL ?_;refine hZ ?_;refine nf ?_;refine dO (kF 8 0 3 1 rfl rfl rfl) ?_;refine Iq rfl rfl rfl rfl rfl rfl rfl rfl λ r=>?_
  refine rl (o8 λ aI bz cb X=>?_);refine gA (p9 m (jw l s)) ?_;refine cA (kB (bv m (jw l s))) ?_;refine go ?_;refine m7 ?_;refine rl (Bd ?_);generalize hn:(ay (bv m (jw l s))).idx=n0 at E;have Dk:n0<9223372036854775808:=by rw[<-hn];have:=(lj (bv m (jw l s))).2;omega
  refine K3 (λ p:Nat×List Int×Int=>p.1+p.2.1.length=l.nodes.toNat+1/\p.2.1.Nodup/\(∀x∈p.2.1,1<=x/\x<=l.nodes)/\p.2.2<9223372036854775808/\ko (λ n=>bv m (aE l n 0)) l.nodes p.1 p.2.1 p.2.2=aJ) (λ p=>⟨[(9,.p (.raw (.map (some r)))),(10,u p.2.2),(8,.aW 0 p.2.1.length (bb p.2.1)),(3,.ptr 0 0),(4,.ptr 1 0)],[(1,[bq m]),(0,cn l)],[(0,⟨3,1,p.2.1.length⟩)]⟩) (λ p=>p.2.1) (λ p=>p.1) (l.nodes.toNat+1,[],n0) ⟨by simp,List.nodup_nil,by simp,Dk,E⟩ rfl (λ aI bz cb=>zX) ?_;rintro⟨k,acc,n⟩ ⟨I,hnd,cT,iu,E⟩;simp only at I hnd cT iu E;have ci:=wJ l.nodes.toNat acc hnd (λ x O=>by have:=cT x O;omega);obtain⟨k,rfl⟩:∃j,k=j+1:=⟨k-1,by omega⟩;rw[ko] at E;refine(show p4 _ _ _ _ _ acc ⟨[(9,.p (.raw (.map (some r)))),(10,u n),(8,.aW 0 acc.length (bb acc)),(3,.ptr 0 0),(4,.ptr 1 0)],[(1,[bq m]),(0,cn l)],[(0,⟨3,1,acc.length⟩)]⟩ from ?_);refine rl (o8 λ aI bz cb X=>?_);refine gA (j7 l Z n 0 (by omega) (by omega)) ?_;have rf:=La Z (n:=n) (i:=0) (by omega);generalize A:decide (aE l n 0>=0)=cc;cases cc
  ·have bs:=of_decide_eq_false A;rw[if_neg (λ hh=>bs (rf.2 ⟨hh.1,hh.2.1⟩))] at E;refine go ?_;refine rk (rk (Ba (m7 (o8 λ aI bz cb X=>?_))));refine gf ?_;rw[<-E]
  ·have bs:=rf.1 (of_decide_eq_true A);refine go ?_;refine Ii aB X rfl underlying125 underlying3 rfl rfl rfl rfl rfl rfl rfl ?_;refine go ?_;generalize K:decide (n∈acc)=cc;cases cc
   ·have dc:=of_decide_eq_false K;rw[if_pos ⟨bs.1,bs.2,dc⟩] at E;refine go ?_;refine m7 ?_;refine Bd (rl (K4 ?_));refine A8 aB rfl rfl rfl rfl ?_;refine A8 aB rfl rfl rfl rfl ?_;refine K0 rfl rfl underlying125 underlying3 rfl rfl rfl rfl dc ?_;refine KZ (m7 (o8 λ aI bz cb X=>?_));refine go ?_;refine pA rfl ?_;rw[ow,show acc.length+1=(acc++[n]).length by simp];refine go ?_;refine dQ [] ?_;refine gQ (j7 l Z n 0 (by omega) (by omega)) ?_;refine cQ (p9 m (aE l n 0)) ?_;refine qg ?_;refine K2 (m7 ?_);exact⟨(k,acc++[n],bv m (aE l n 0)),⟨by simp;omega,by
     rw[List.nodup_append];exact⟨hnd,by simp,λ a ha b T=>by simp at T;subst T;exact λ e=>dc (e▸ha)⟩,λ x O=>by
     simp only[List.mem_append,List.mem_singleton] at O;rcases O with O|rfl
     ·exact cT x O
     ·exact bs,hi _,E⟩,by simp only;omega,rfl,λ aI bz cb=>zX⟩
   ·rw[if_neg (λ hh=>hh.2.2 (of_decide_eq_true K))] at E;refine go ?_;refine rk (rk (Ba (m7 (o8 λ aI bz cb X=>?_))));refine gf ?_;rw[<-E]
 ·rw[if_pos (of_decide_eq_true h1)] at E;refine gf ?_;rw[<-E]
  rfl
theorem rm(l:ag)(m:List Int)(s:Int):(fp l m s).length<=l.nodes.toNat+1:=by
 unfold fp;split
 ·simp
 ·have:=Cn (nx:=λ n=>bv m (aE l n 0)) (N:=l.nodes) (l.nodes.toNat+1) [] (ay (bv m (jw l s))).idx
  simpa using this
theorem D4(l:ag)(m:List Int)(s:Int):∀x∈fp l m s,1<=x/\x<=l.nodes:=by
 unfold fp;split
 ·simp
 ·exact E0 _ _ _ (by simp)
def jG(aC:List Int):List Int:=(aC.filter λ v=>decide (1<v)).map λ v=>v-2
theorem LV(aC:List Int)(v:Int):jG (aC++[v])=if 1<v then jG aC++[v-2] else jG aC:=by
 unfold jG;rw[List.filter_append]
 by_cases h:1<v
 ·rw[if_pos h];simp[h]
 ·rw[if_neg h];simp[h]
theorem LU(aC:List Int):(jG aC).length<=aC.length:=by unfold jG;rw[List.length_map];exact List.length_filter_le _ _
theorem abK(l:ag)(m:List Int)(n:Int):(kD l m n).length=5:=rfl
theorem Wx(l:ag)(m:List Int)(aC:List Int):(aC.flatMap (kD l m)).length=5*aC.length:=by
 induction aC with
 |nil=>rfl
 |cons x aC ih=>rw[List.flatMap_cons,List.length_append,ih,abK];simp only[List.length_cons];omega
theorem abL(l:ag)(m:List Int)(n:Int)(k:Nat)(h:k<5):(kD l m n).take (k+1)=(kD l m n).take k++[bv m (aE l n (1+(k:Int)))]:=by
 match k,h with
 |0,_=>rfl
 |1,_=>rfl
 |2,_=>rfl
 |3,_=>rfl
 |4,_=>rfl
theorem UI{m:List Int}(hm:∀x∈m,x<9223372036854775808)(i:Int):bv m i<9223372036854775808:=by
 unfold bv ef;split
 ·omega
 ·rename_i h;have ba:i.toNat<m.length:=by omega
  have:m.getD i.toNat 0=m[i.toNat]:=by simp[ba]
  rw[this];exact hm _ (List.getElem_mem ba)
set_option maxHeartbeats 4000000 in
theorem En(l:ag)(Z:ca l)(m:List Int)(c:Int)(hm:∀x∈m,x<9223372036854775808):aX prog 39 [dD l,jl m,u c] (bq (nh l m c)):=by
 have xU:=D4 l m c;have n3:=rm l m c;have hC:=wI l Z m c hm;have E:nh l m c=jG ((fp l m c).flatMap (kD l m)):=rfl;rw[E];obtain⟨lR,ib⟩:=Z.nodes;generalize fp l m c=ns at*;refine sP func39 ntmps39 λ w cl=>?_
 refine gA hC ?_;refine dO (kF 7 0 3 1 rfl rfl rfl) ?_;refine bW (λ i:Nat=>i<=ns.length) (λ i=>⟨[(17,u i),(16,u ns.length),(15,bq ns),(7,.aW 0 (jG ((ns.take i).flatMap (kD l m))).length (bb (jG ((ns.take i).flatMap (kD l m))))),(3,.ptr 0 0),(4,.ptr 1 0)],[(1,[bq m]),(0,cn l)],[(0,⟨3,1,(jG ((ns.take i).flatMap (kD l m))).length⟩)]⟩) (λ i=>ns.length-i) 0 (by omega) (zX) ?_;intro i X;refine go ?_;refine cN (λ h1=>?_) (λ h1=>?_)<;>try rw[h1]
 ·have aP:=of_decide_eq_true h1;obtain⟨n,hn⟩:=l8 (l:=ns) (i:=i) (by omega) aP;have lh:=hn;simp only[Int.toNat_natCast] at lh;have fK:=xU n (List.mem_of_getElem? lh);have ht:(ns.take (i+1)).flatMap (kD l m)=(ns.take i).flatMap (kD l m)++kD l m n:=by
   rw[List.take_add_one,lh];simp
  have JH:=Wx l m (ns.take i);rw[List.length_take] at JH;generalize(ns.take i).flatMap (kD l m)=ab at*;refine go ?_;refine ai [pI n] (gk hn) ?_;refine go ?_;refine bW (λ k:Nat=>k<=5) (λ k=>⟨[(21,u k),(9,u n),(17,u i),(16,u ns.length),(15,bq ns),(7,.aW 0 (jG (ab++(kD l m n).take k)).length (bb (jG (ab++(kD l m n).take k)))),(3,.ptr 0 0),(4,.ptr 1 0)],[(1,[bq m]),(0,cn l)],[(0,⟨3,1,(jG (ab++(kD l m n).take k)).length⟩)]⟩) (λ k=>5-k) 0 (by omega) (by rw[List.take_zero,List.append_nil];exact zX) ?_;intro k I;refine go ?_;refine cN (λ A=>?_) (λ A=>?_)<;>try rw[A]
  ·have bs:k<5:=by have:=of_decide_eq_true A;omega
   have hv:=UI hm (aE l n (1+(k:Int)));have sr:=LU (ab++(kD l m n).take k);simp only[List.length_append,List.length_take] at sr;have gX:=LV (ab++(kD l m n).take k) (bv m (aE l n (1+(k:Int))));rw[List.append_assoc,<-abL l m n k bs] at gX;generalize jG (ab++(kD l m n).take k)=al at*;refine go ?_;refine dQ [] ?_;refine gQ (j7 l Z n (1+(k:Int)) (by omega) (by omega)) ?_;refine cQ (p9 m (aE l n (1+(k:Int)))) ?_;refine bh ?_;generalize bv m (aE l n (1+(k:Int)))=v at*;refine go ?_;generalize K:decide (v>1)=cc;cases cc
   ·have dc:=of_decide_eq_false K;rw[if_neg (by omega)] at gX;refine go ?_;exact⟨k+1,by omega,by omega,by rw[gX];exact zX⟩
   ·have dc:=of_decide_eq_true K;rw[if_pos (by omega)] at gX;refine go ?_;refine pA rfl ?_;rw[ow,show al.length+1=(al++[v-2]).length by simp];refine go ?_;exact⟨k+1,by omega,by omega,by rw[gX];exact zX⟩
  ·have bs:k=5:=by have:=of_decide_eq_false A;omega
   subst bs;rw[show(kD l m n).take 5=kD l m n from rfl,<-ht];refine go ?_;exact⟨i+1,by omega,by omega,zX⟩
 ·have aP:i=ns.length:=by have:=of_decide_eq_false h1;omega
  rw[aP,List.take_length];refine gf ?_
  rfl
theorem acH(l:ag)(Z:ca l)(c:Int):aX prog 79 [dD l,u c] (u (jw l c)):=by
 obtain⟨a1,a2⟩:=Z.chan;obtain⟨b1,b2⟩:=Z.bo;have E:jw l c=if(decide (0<=c)&&decide (c<=l.bo-1)) then IntKind.i64.wrap (l.chan+IntKind.i64.wrap (2*c)) else-1:=by
  unfold jw kZ;split
  ·rw[if_neg];simp only[Bool.and_eq_true,decide_eq_true_eq];omega
  ·rw[if_pos (by simp only[Bool.and_eq_true,decide_eq_true_eq];omega)];rw[eI (n:=2*c) (by omega) (by omega),eI (by omega) (by omega)];omega
 rw[E]
 by_cases h0:0<=c/\c<=l.bo-1
 ·have L:(decide (0<=c)&&decide (c<=l.bo-1))=true:=by simp only[Bool.and_eq_true,decide_eq_true_eq];exact h0
  have e1:=eI (n:=2*c) (by omega) (by omega);rw[L,e1];refine sP func79 ntmps79 λ w cl=>?_
  refine go ?_;refine gD [] ?_;rw[e1];refine bh ?_;refine cQ (qE c 0 (l.bo-1)) ?_;rw[L];refine gQ (vi _ true) ?_;refine gf ?_;rw[eI (n:=l.chan+2*c) (by omega) (by omega)]
 ·have L:(decide (0<=c)&&decide (c<=l.bo-1))=false:=by rw[Bool.eq_false_iff];simp only[ne_eq,Bool.and_eq_true,decide_eq_true_eq];omega
  rw[L];refine sP func79 ntmps79 λ w cl=>?_
  refine go ?_;refine gD [] ?_;refine cQ (qE c 0 (l.bo-1)) ?_;rw[L];refine gQ (vi _ false) ?_;refine gf ?_
  rfl
theorem acM(l:ag)(Z:ca l)(c:Int):aX prog 81 [dD l,u c] (u (nL l c)):=by
 obtain⟨a1,a2⟩:=Z.chan;obtain⟨b1,b2⟩:=Z.bo;have E:nL l c=if(decide (0<=c)&&decide (c<=l.bo-1)) then IntKind.i64.wrap (IntKind.i64.wrap (l.chan+IntKind.i64.wrap (2*c))+1) else-1:=by
  unfold nL kZ;split
  ·rw[if_neg];simp only[Bool.and_eq_true,decide_eq_true_eq];omega
  ·rw[if_pos (by simp only[Bool.and_eq_true,decide_eq_true_eq];omega)];rw[eI (n:=2*c) (by omega) (by omega),eI (n:=l.chan+2*c) (by omega) (by omega),eI (by omega) (by omega)];omega
 rw[E]
 by_cases h0:0<=c/\c<=l.bo-1
 ·have L:(decide (0<=c)&&decide (c<=l.bo-1))=true:=by simp only[Bool.and_eq_true,decide_eq_true_eq];exact h0
  have e1:=eI (n:=2*c) (by omega) (by omega);rw[L,e1];refine sP func81 ntmps81 λ w cl=>?_
  refine go ?_;refine gD [] ?_;rw[e1];refine bh ?_;refine cQ (qE c 0 (l.bo-1)) ?_;rw[L];refine gQ (vi _ true) ?_;refine gf ?_;rw[eI (n:=l.chan+2*c) (by omega) (by omega),eI (by omega) (by omega)]
 ·have L:(decide (0<=c)&&decide (c<=l.bo-1))=false:=by rw[Bool.eq_false_iff];simp only[ne_eq,Bool.and_eq_true,decide_eq_true_eq];omega
  rw[L];refine sP func81 ntmps81 λ w cl=>?_
  refine go ?_;refine gD [] ?_;refine cQ (qE c 0 (l.bo-1)) ?_;rw[L];refine gQ (vi _ false) ?_;refine gf ?_
  rfl
def vn(l:ag)(node:Int):List aT:=(List.range 6).map λ(i:Nat)=>(⟨2,aE l node i,0,0⟩:aT)
theorem SC(l:ag)(node:Int)(i:Nat)(h:i<6):(vn l node).take (i+1)=(vn l node).take i++[⟨2,aE l node i,0,0⟩]:=by
 rw[List.take_add_one]
 congr 1
 simp[vn,h]
set_option maxHeartbeats 4000000 in
theorem ac7(l:ag)(Z:ca l)(c node:Int)(hn:node<9223372036854775808):aX prog 32 [dD l,u c,u node] (mI (mw l c node)):=by
 generalize E:mw l c node=aJ;unfold mw at E;refine sP func32 ntmps32 λ w cl=>?_
 refine go ?_;refine cA (FM l Z c) ?_;refine hZ ?_;generalize h1:decide (jw l c<0)=cc;cases cc
 ·have aP:=of_decide_eq_false h1;refine gA (j7 l Z node 0 hn (by omega)) ?_;generalize A:decide (aE l node 0<0)=cc;cases cc
  ·have bs:=of_decide_eq_false A;rw[if_neg (by omega)] at E;refine go ?_;refine dO (kF 7 0 82 4 rfl rfl rfl) ?_;refine bW (λ i:Nat=>i<=6) (λ i=>⟨[(20,u i),(7,.aW 0 i (cL ((vn l node).take i))),(1,u c),(2,u node),(3,.ptr 0 0)],[(0,cn l)],[(0,⟨82,4,i⟩)]⟩) (λ i=>6-i) 0 (by omega) (zX) ?_;intro i X;refine go ?_;refine cN (λ K=>?_) (λ K=>?_)<;>try rw[K]
   ·have dc:i<6:=by have:=of_decide_eq_true K;omega
    refine gA (j7 l Z node i hn (by omega)) ?_;refine pA rfl ?_;rw[show cL ((vn l node).take i)++[pI 2,pI (aE l node i),pI 0,pI 0]=cL ((vn l node).take (i+1)) by rw[SC l node i dc,<-tS]];refine go ?_;exact⟨i+1,by omega,by omega,zX⟩
   ·have dc:i=6:=by have:=of_decide_eq_false K;omega
    subst dc;refine gA (lZ ⟨node,false,0⟩) ?_;refine dQ [] ?_;refine gQ (FM l Z c) ?_;refine cQ (Te l Z c) ?_;refine bh ?_;refine vg (m:=2) aB rfl rfl rfl rfl rfl rfl rfl rfl rfl rfl rfl rfl rfl (by unfold maxLen;omega) (by show(_+_)*32<=_;omega) ?_;refine bh ?_;refine gf ?_;rw[<-E]
    rfl
  ·have bs:=of_decide_eq_true A;rw[if_pos (.inr bs)] at E;refine gf ?_;rw[<-E]
   rfl
 ·have aP:=of_decide_eq_true h1;rw[if_pos (.inl aP)] at E;refine gf ?_;rw[<-E]
  rfl
theorem L0(l:ag)(c node:Int):(mw l c node).length<=8:=by
 unfold mw;split
 ·simp
 ·simp
theorem LI(node:Int):aX prog 80 [xE ⟨node,false,0⟩] (u (cf ⟨node,false,0⟩)):=by
 have E:cf ⟨node,false,0⟩=node%65536:=by simp[cf]
 have h0:=Int.emod_nonneg node (show(65536:Int)≠0 by omega);have h1:=Int.emod_lt_of_pos node (show(0:Int)<65536 by omega);rw[E];refine sP func80 ntmps80 λ w cl=>?_
 refine go ?_;refine dQ [] ?_;refine gQ (Ef node 65536 (by omega) (by omega)) ?_;refine cQ (Ef 0 268435456 (by omega) (by omega)) ?_;refine bh ?_;rw[show IntKind.i64.wrap (131072*(0%268435456))=0 from rfl];refine bh ?_;refine gf ?_;simp only[Int.add_zero];rw[eI (by omega) (by omega)]
set_option maxHeartbeats 4000000 in
theorem acC(l:ag)(Z:ca l)(c node:Int):aX prog 35 [dD l,u c,u node] (mI (mw l c node)):=by
 generalize E:mw l c node=aJ;unfold mw at E;refine sP func35 ntmps35 λ w cl=>?_
 refine gA (acH l Z c) ?_;generalize h1:decide (jw l c<0)=cc;cases cc
 ·have aP:=of_decide_eq_false h1;refine gA (vj l Z node 0 (by omega)) ?_;generalize A:decide (aE l node 0<0)=cc;cases cc
  ·have bs:=of_decide_eq_false A;rw[if_neg (by omega)] at E;refine go ?_;refine dO (kF 8 0 82 4 rfl rfl rfl) ?_;refine bW (λ i:Nat=>i<=6) (λ i=>⟨[(9,u i),(8,.aW 0 i (cL ((vn l node).take i))),(7,u (jw l c)),(1,u c),(2,u node),(3,.ptr 0 0)],[(0,cn l)],[(0,⟨82,4,i⟩)]⟩) (λ i=>6-i) 0 (by omega) (zX) ?_;intro i X;refine go ?_;refine cN (λ K=>?_) (λ K=>?_)<;>try rw[K]
   ·have dc:i<6:=by have:=of_decide_eq_true K;omega
    refine gA (vj l Z node i (by omega)) ?_;refine pA rfl ?_;rw[show cL ((vn l node).take i)++[pI 2,pI (aE l node i),pI 0,pI 0]=cL ((vn l node).take (i+1)) by rw[SC l node i dc,<-tS]];refine go ?_;exact⟨i+1,by omega,by omega,zX⟩
   ·have dc:i=6:=by have:=of_decide_eq_false K;omega
    subst dc;refine gA (LI node) ?_;refine pA rfl ?_;refine gA (acM l Z c) ?_;refine pA rfl ?_;refine gf ?_;rw[<-E]
    rfl
  ·have bs:=of_decide_eq_true A;rw[if_pos (.inr bs)] at E;refine gf ?_;rw[<-E]
   rfl
 ·have aP:=of_decide_eq_true h1;rw[if_pos (.inl aP)] at E;refine gf ?_;rw[<-E]
  rfl
end Go.Proofs.YtcnefjfboagbmaaGreat.Sg
namespace Go.Proofs.YtcnefjfboagbmaaGreat
open Go.Proofs.Tryz
open Go.RowKit
set_option maxRecDepth 100000
abbrev Cc(n c:Nat)(cs:List G):bE:=[(71,[.arr 72 0 n c]),(72,cs)]
theorem Uj(l:List aT):∀x∈cL l,x.lf=true:=by intro x O;unfold cL at O;rw[List.mem_flatMap] at O;obtain⟨c,_,L⟩:=O;simp only[D8,List.mem_cons,List.not_mem_nil,or_false] at L;rcases L with rfl|rfl|rfl|rfl<;>rfl
structure HP(l:List aT)(c:Nat)(cs:List G):Prop where
 pl:fu cs
 len:cs.length=c*4
 le:l.length<=c
 c:c<=maxLen
 at_:cs.take (l.length*4)=(cL l).map G.p
theorem ZM(ce v:Int):eo prog 72 [71] [u ce,u v,.ptr 71 0] [(71,[.p (.sl true 0 [])])] (λ d U=>d=.bg []/\∃c cs,HP [⟨2,ce,0,v⟩] c cs/\U=Cc 1 c cs):=by
 refine sI func72 ntmps72 λ w cl own kf=>?_
 refine go ?_;refine If (sz:=4) aB 72 rfl rfl rfl rfl rfl rfl rfl rfl rfl rfl rfl rfl rfl rfl (by omega) rfl (by unfold maxLen;omega) (by show 1*32<=_;omega) (λ aO bw k1 k2 k3 k4 k5=>?_);refine go ?_;refine jR (d:=.bg []) (Cc 1 bw aO) ?_ rfl (by exact⟨⟨rfl,rfl⟩,⟨rfl,k5 _ _⟩,trivial⟩) (by(repeat(first|exact trivial|refine⟨rfl,?_⟩))) ⟨rfl,bw,aO,⟨k5,k1,k3,k2,k4⟩,rfl⟩
 rfl
theorem AS(acc:List aT)(n c:Nat)(cs:List G)(hn:acc.length=n)(h:HP acc c cs)(R:n<=1000)(ce v:Int):eo prog 72 [71] [u ce,u v,.ptr 71 0] (Cc n c cs) (λ d U=>d=.bg []/\∃c cs,HP (acc++[⟨2,ce,0,v⟩]) c cs/\U=Cc (n+1) c cs):=by
 subst hn;refine sI func72 ntmps72 λ w cl own kf=>?_
 refine go ?_;refine Ig (sz:=4) aB (cL acc) rfl rfl rfl rfl rfl rfl rfl rfl rfl rfl rfl rfl rfl rfl (E7 rfl (xB rfl rfl (E5 rfl rfl))) h.len h.le (wQ acc) h.at_ h.c (by omega) rfl (by unfold maxLen;omega) (by show(_+1)*32<=_;omega) (λ aO bw k1 k2 k3 k4 k5=>?_);refine go ?_;refine jR (d:=.bg []) (Cc (acc.length+1) bw aO) ?_ rfl (by exact⟨⟨rfl,rfl⟩,⟨rfl,k5 _ _⟩,trivial⟩) (by(repeat(first|exact trivial|refine⟨rfl,?_⟩))) ⟨rfl,bw,aO,⟨k5,k1,by rw[List.length_append];exact k3,k2,by rw[List.length_append,<-tS];exact k4⟩,rfl⟩
 rfl
set_option maxHeartbeats 8000000 in
theorem adz(l:ag)(Z:ca l)(hM:kh l)(m n:Int)(hn:n<9223372036854775808):aX prog 31 [dD l,u m,u n] (mI (gC l m n)):=by
 refine sP func31 ntmps31 λ w cl=>?_
 refine gS ?_;refine bA 0 ?_;refine z2 ?_;refine kl ?_;refine gS ?_;refine nA 71 ?_;refine kl ?_;refine gA (j7 l Z n 0 hn (by omega)) ?_;refine vI (ZM (aE l n 0) 0) ?_;rintro d U ⟨rfl,c0,mH,h0,rfl⟩;refine gA (j7 l Z n 1 hn (by omega)) ?_;refine xr (AS [⟨2,aE l n 0,0,0⟩] 1 c0 mH rfl h0 (by omega) (aE l n 1) (0)) rfl (λ a w=>call72 a w) rfl rfl rfl (by exact⟨⟨rfl,rfl⟩,⟨rfl,h0.pl _ _⟩,trivial⟩) (by(repeat(first|exact trivial|refine⟨.inr rfl,?_⟩|refine⟨.inl rfl,?_⟩))) rfl rfl rfl rfl ?_ ?_
 ·rintro d U ⟨rfl,c,cs,_,rfl⟩;exact⟨.inl rfl,.inl rfl,trivial⟩
 rintro d U ⟨rfl,c1,lw,h1,rfl⟩;refine gA (j7 l Z n 2 hn (by omega)) ?_;refine xr (AS [⟨2,aE l n 0,0,0⟩,⟨2,aE l n 1,0,0⟩] 2 c1 lw rfl h1 (by omega) (aE l n 2) (0)) rfl (λ a w=>call72 a w) rfl rfl rfl (by exact⟨⟨rfl,rfl⟩,⟨rfl,h1.pl _ _⟩,trivial⟩) (by(repeat(first|exact trivial|refine⟨.inr rfl,?_⟩|refine⟨.inl rfl,?_⟩))) rfl rfl rfl rfl ?_ ?_
 ·rintro d U ⟨rfl,c,cs,_,rfl⟩;exact⟨.inl rfl,.inl rfl,trivial⟩
 rintro d U ⟨rfl,c2,zs,A,rfl⟩;refine gA (j7 l Z n 6 hn (by omega)) ?_;refine xr (AS [⟨2,aE l n 0,0,0⟩,⟨2,aE l n 1,0,0⟩,⟨2,aE l n 2,0,0⟩] 3 c2 zs rfl A (by omega) (aE l n 6) (1)) rfl (λ a w=>call72 a w) rfl rfl rfl (by exact⟨⟨rfl,rfl⟩,⟨rfl,A.pl _ _⟩,trivial⟩) (by(repeat(first|exact trivial|refine⟨.inr rfl,?_⟩|refine⟨.inl rfl,?_⟩))) rfl rfl rfl rfl ?_ ?_
 ·rintro d U ⟨rfl,c,cs,_,rfl⟩;exact⟨.inl rfl,.inl rfl,trivial⟩
 rintro d U ⟨rfl,c3,Vt,K,rfl⟩;refine gA (A9 l Z hM m 0 (by omega)) ?_;refine xr (AS [⟨2,aE l n 0,0,0⟩,⟨2,aE l n 1,0,0⟩,⟨2,aE l n 2,0,0⟩,⟨2,aE l n 6,0,1⟩] 4 c3 Vt rfl K (by omega) (hl l m 0) (1)) rfl (λ a w=>call72 a w) rfl rfl rfl (by exact⟨⟨rfl,rfl⟩,⟨rfl,K.pl _ _⟩,trivial⟩) (by(repeat(first|exact trivial|refine⟨.inr rfl,?_⟩|refine⟨.inl rfl,?_⟩))) rfl rfl rfl rfl ?_ ?_
 ·rintro d U ⟨rfl,c,cs,_,rfl⟩;exact⟨.inl rfl,.inl rfl,trivial⟩
 rintro d U ⟨rfl,c4,Vu,h4,rfl⟩;refine gA (A9 l Z hM m 1 (by omega)) ?_;refine xr (AS [⟨2,aE l n 0,0,0⟩,⟨2,aE l n 1,0,0⟩,⟨2,aE l n 2,0,0⟩,⟨2,aE l n 6,0,1⟩,⟨2,hl l m 0,0,1⟩] 5 c4 Vu rfl h4 (by omega) (hl l m 1) (0)) rfl (λ a w=>call72 a w) rfl rfl rfl (by exact⟨⟨rfl,rfl⟩,⟨rfl,h4.pl _ _⟩,trivial⟩) (by(repeat(first|exact trivial|refine⟨.inr rfl,?_⟩|refine⟨.inl rfl,?_⟩))) rfl rfl rfl rfl ?_ ?_
 ·rintro d U ⟨rfl,c,cs,_,rfl⟩;exact⟨.inl rfl,.inl rfl,trivial⟩
 rintro d U ⟨rfl,c5,Vv,h5,rfl⟩;refine gA (Ci l Z hM m 0) ?_;refine cA (lZ ⟨n,false,0⟩) ?_;refine go ?_;refine xr (AS [⟨2,aE l n 0,0,0⟩,⟨2,aE l n 1,0,0⟩,⟨2,aE l n 2,0,0⟩,⟨2,aE l n 6,0,1⟩,⟨2,hl l m 0,0,1⟩,⟨2,hl l m 1,0,0⟩] 6 c5 Vv rfl h5 (by omega) (hL l m 0) (cf ⟨n,false,0⟩)) rfl (λ a w=>call72 a w) rfl rfl rfl (by exact⟨⟨rfl,rfl⟩,⟨rfl,h5.pl _ _⟩,trivial⟩) (by(repeat(first|exact trivial|refine⟨.inr rfl,?_⟩|refine⟨.inl rfl,?_⟩))) rfl rfl rfl rfl ?_ ?_
 ·rintro d U ⟨rfl,c,cs,_,rfl⟩;exact⟨.inl rfl,.inl rfl,trivial⟩
 rintro d U ⟨rfl,c6,aeR,h6,rfl⟩;refine oL (Ok (xm:=[(7,.ptr 71 0)]) (ph:=[]) (qM:=[]) 71 0 72 (cL (gC l m n)) rfl rfl rfl rfl rfl (by exact⟨⟨rfl,rfl⟩,trivial⟩) (by exact⟨⟨rfl,rfl⟩,trivial⟩) trivial (by(repeat(first|exact trivial|refine⟨rfl,?_⟩))) rfl h6.len h6.le (wQ _) h6.at_ h6.c (Uj _)) ?_;refine gf ?_
 rfl
theorem Bm(l m:List aT):cL l++cL m=cL (l++m):=by simp[cL]
theorem Ng(l:ag)(Z:ca l)(a:Nat):(po l a).length<=1000001+1:=by
 have h:=Z.nodes.2;unfold po;split
 ·simp
 ·unfold yz;rw[List.length_append,AT];simp;omega
set_option maxHeartbeats 4000000 in
theorem UE(l:ag)(Z:ca l)(a:Nat)(h1:1<=a)(A:a<=60000):aX prog 33 [dD l,u a] (mI (po l a)):=by
 obtain⟨lR,ib⟩:=Z.nodes;generalize hA:po l a=ab;unfold po at hA;have Jn:∀i:Nat,i<l.nodes.toNat+1-a->(a:Int)+i<=l.nodes:=λ i X=>by omega
 have Jm:∀i:Nat,¬(i<l.nodes.toNat+1-a)->l.nodes<(a:Int)+i:=λ i X=>by omega
 generalize hN:l.nodes.toNat+1-a=N at*;refine sP func33 ntmps33 λ w cl=>?_
 refine go ?_;refine bn (GO rfl rfl rfl) rfl rfl rfl ?_;rw[if_neg (show¬((1:Int)>(a:Int)) by omega)];refine go ?_;refine dO (kF 6 0 82 4 rfl rfl rfl) ?_;refine bW (λ i:Nat=>i<=N) (λ i=>⟨[(7,u ((a:Int)+i)),(6,.aW 0 i (cL ((li l a N).take i))),(5,u (if i=0 then 0 else a)),(1,u a),(2,.ptr 0 0)],[(0,cn l)],[(0,⟨82,4,i⟩)]⟩) (λ i=>N-i) 0 (by omega) (by rw[show(a:Int)+((0:Nat):Int)=a by omega];exact zX) ?_;intro i X;refine(show aK _ _ _ _ ⟨[(7,u ((a:Int)+i)),(6,.aW 0 i (cL ((li l a N).take i))),(5,u (if i=0 then 0 else a)),(1,u a),(2,.ptr 0 0)],[(0,cn l)],[(0,⟨82,4,i⟩)]⟩ from ?_);refine go ?_
 by_cases C7:i<N
 ·have ir:=Jn i C7;rw[show decide ((a:Int)+i<=l.nodes)=true by rw[decide_eq_true_eq];exact ir];have key:∀nx:Int,nx=(if(a:Int)+i=l.nodes then 0 else(a:Int)+i+1)->cL ((li l a N).take i)++[pI 2,pI (aE l ((a:Int)+i) 7),pI 0,pI nx]=cL ((li l a N).take (i+1)):=by
   intro nx sk;rw[QG l a N i (by omega),<-tS,sk]
  refine go ?_;generalize K:decide ((a:Int)+i=l.nodes)=cc;cases cc
  ·have dc:=of_decide_eq_false K;refine gA (j7 l Z ((a:Int)+i) 7 (by omega) (by omega)) ?_;refine pA rfl ?_;rw[key _ (by rw[if_neg (by omega)])];refine go ?_;rw[show(a:Int)+i+1=(a:Int)+((i+1:Nat):Int) by omega];exact⟨i+1,by omega,by omega,zX⟩
  ·have dc:=of_decide_eq_true K;refine gA (j7 l Z ((a:Int)+i) 7 (by omega) (by omega)) ?_;refine pA rfl ?_;rw[key _ (by rw[if_pos (by omega)])];refine go ?_;rw[show(a:Int)+i+1=(a:Int)+((i+1:Nat):Int) by omega];exact⟨i+1,by omega,by omega,zX⟩
 ·have JQ:=Jm i C7;rw[show decide ((a:Int)+i<=l.nodes)=false by rw[decide_eq_false_iff_not];omega];have E:(li l a N).take i++[⟨2,l.free,0,cf ⟨if i=0 then 0 else a,false,0⟩⟩]=ab:=by
   rw[List.take_of_length_le (by rw[AT];omega)];rw[<-hA]
   by_cases h0:i=0
   ·rw[if_pos h0,if_pos (by omega),show N=0 by omega];rfl
   ·rw[if_neg h0,if_neg (by omega)];unfold yz;rw[hN]
    congr 3
    unfold cf;simp;omega
  have ci:ab.length=i+1:=by rw[<-E];simp[AT];omega
  refine go ?_;refine dQ [] ?_;refine gQ (lZ ⟨if i=0 then 0 else a,false,0⟩) ?_;refine vg (m:=1) aB rfl rfl rfl rfl rfl rfl rfl rfl rfl rfl rfl rfl rfl (by unfold maxLen;omega) (by show(_+_)*32<=_;omega) ?_;refine bh ?_;refine gf ?_;rw[show mI ab=.p (.sl false ab.length (cL ab)) from rfl,ci,<-E,<-tS]
set_option maxHeartbeats 4000000 in
theorem acF(l:ag)(Z:ca l)(a:Nat)(h1:1<=a)(A:a<=60000):aX prog 36 [dD l,u a] (mI (po l a)):=by
 obtain⟨lR,ib⟩:=Z.nodes;generalize hA:po l a=ab;unfold po at hA;have Jn:∀i:Nat,i+1<l.nodes.toNat+1-a->(a:Int)+i<l.nodes:=λ i X=>by omega
 have Jm:∀i:Nat,¬(i+1<l.nodes.toNat+1-a)->l.nodes<=(a:Int)+i:=λ i X=>by omega
 have Xb:¬(l.nodes<a)->1<=l.nodes.toNat+1-a/\(a:Int)+(l.nodes.toNat+1-a:Nat)=l.nodes+1:=λ h=>by omega
 generalize hN:l.nodes.toNat+1-a=N at*;refine sP func36 ntmps36 λ w cl=>?_
 refine go ?_;rw[show decide ((a:Int)<1)=false by rw[decide_eq_false_iff_not];omega];refine go ?_;refine dO (kF 6 0 82 4 rfl rfl rfl) ?_;refine bW (λ i:Nat=>i=0\/i+1<=N) (λ i=>⟨[(7,u ((a:Int)+i)),(6,.aW 0 i (cL ((li l a N).take i))),(5,u l.nodes),(1,u a),(2,.ptr 0 0)],[(0,cn l)],[(0,⟨82,4,i⟩)]⟩) (λ i=>N-i) 0 (.inl rfl) (by rw[show(a:Int)+((0:Nat):Int)=a by omega];exact zX) ?_;intro i X;refine(show aK _ _ _ _ ⟨[(7,u ((a:Int)+i)),(6,.aW 0 i (cL ((li l a N).take i))),(5,u l.nodes),(1,u a),(2,.ptr 0 0)],[(0,cn l)],[(0,⟨82,4,i⟩)]⟩ from ?_);have key:i<N->∀nx:Int,nx=(if(a:Int)+i=l.nodes then 0 else(a:Int)+i+1)->cL ((li l a N).take i)++[pI 2,pI (aE l ((a:Int)+i) 7),pI 0,pI nx]=cL ((li l a N).take (i+1)):=by intro ba nx sk;rw[QG l a N i ba,<-tS,sk]
 refine go ?_
 by_cases C7:i+1<N
 ·have ir:=Jn i C7;rw[show decide ((a:Int)+i<l.nodes)=true by rw[decide_eq_true_eq];exact ir];refine gA (vj l Z ((a:Int)+i) 7 (by omega)) ?_;refine pA rfl ?_;rw[key (by omega) _ (by rw[if_neg (by omega)])];refine go ?_;rw[show(a:Int)+i+1=(a:Int)+((i+1:Nat):Int) by omega];exact⟨i+1,by omega,by omega,zX⟩
 ·have JQ:=Jm i C7;rw[show decide ((a:Int)+i<l.nodes)=false by rw[decide_eq_false_iff_not];omega];refine go ?_
  by_cases h0:l.nodes<a
  ·rw[show decide ((a:Int)>l.nodes)=true by rw[decide_eq_true_eq];omega];rw[if_pos h0] at hA;refine gf ?_;rw[<-hA]
   rfl
  ·rw[show decide ((a:Int)>l.nodes)=false by rw[decide_eq_false_iff_not];omega];rw[if_neg h0] at hA;obtain⟨afy,afz⟩:=Xb h0;have afk:i+1=N:=by omega
   refine gA (vj l Z l.nodes 7 (by omega)) ?_;have ZQ:cL ((li l a N).take i)++[pI 2,pI (aE l l.nodes 7),pI 0,pI 0]=cL (li l a N):=by have:=key (by omega) 0 (by rw[if_pos (by omega)]);rw[show(a:Int)+i=l.nodes by omega,show(li l a N).take (i+1)=li l a N from List.take_of_length_le (by rw[AT];omega)] at this;exact this
   have E:li l a N++[⟨2,l.free,0,a⟩]=ab:=by rw[<-hA];unfold yz;rw[hN]
   have ci:ab.length=i+1+1:=by rw[<-E];simp[AT];omega
   refine pA rfl ?_;rw[ZQ];refine go ?_;refine pA rfl ?_;refine gf ?_;rw[show mI ab=.p (.sl false ab.length (cL ab)) from rfl,ci,<-E,<-tS]
set_option maxHeartbeats 8000000 in
theorem acL(l:ag)(Z:ca l)(hM:kh l)(m n:Int)(hm:0<=m/\m<=l.maps-1)(T:1<=l.buckets)(hn:0<=n/\n<65536):aX prog 34 [dD l,u m,u n] (mI (gC l m n)):=by
 have ci:(gC l m n).length=7:=rfl;refine sP func34 ntmps34 λ w cl=>?_
 refine go ?_;refine dQ [] ?_;refine gQ (vj l Z n 0 (by omega)) ?_;refine cQ (vj l Z n 1 (by omega)) ?_;refine gQ (vj l Z n 2 (by omega)) ?_;refine cQ (vj l Z n 6 (by omega)) ?_;refine gQ (Sn l Z hM m 0 (by omega)) ?_;refine cQ (Sn l Z hM m 1 (by omega)) ?_;refine gQ (acG l Z hM m 0 (by omega) (by omega)) ?_;refine gA (LI n (by omega)) ?_;refine dO (kF 9 0 82 4 rfl rfl rfl) ?_;refine bW (λ i:Nat=>i<=7) (λ i=>⟨[(10,u i),(9,.aW 0 i (cL ((gC l m n).take i))),(8,.p (.sl true 7 (bb ((gC l m n).map aT.new)))),(7,.p (.sl true 7 (bb ((gC l m n).map aT.cell))))],[],[(0,⟨82,4,i⟩)]⟩) (λ i=>7-i) 0 (by omega) (zX) ?_;intro i X;refine(show aK _ _ _ _ ⟨[(10,u i),(9,.aW 0 i (cL ((gC l m n).take i))),(8,.p (.sl true 7 (bb ((gC l m n).map aT.new)))),(7,.p (.sl true 7 (bb ((gC l m n).map aT.cell))))],[],[(0,⟨82,4,i⟩)]⟩ from ?_)
 by_cases h1:i=7
 ·subst h1;rw[show(gC l m n).take 7=gC l m n from rfl];refine go ?_;rw[show decide (((7:Nat):Int)<7)=false from rfl];refine gf ?_
  rfl
 ·obtain⟨a,ha⟩:∃a,(gC l m n)[i]?=some a:=⟨(gC l m n)[i]'(by omega),List.getElem?_eq_getElem _⟩;have I:=adx (List.mem_of_getElem? ha);have L:((gC l m n).map aT.cell)[(i:Int).toNat]?=some a.cell:=by simp[ha]
  have hv:((gC l m n).map aT.new)[(i:Int).toNat]?=some a.new:=by simp[ha]
  have key:cL ((gC l m n).take i)++[pI 2,pI a.cell,pI 0,pI a.new]=cL ((gC l m n).take (i+1)):=by rw[List.take_add_one,ha,Option.toList_some,<-tS,I.1,I.2]
  generalize(gC l m n).map aT.cell=cs at*;generalize(gC l m n).map aT.new=vs at*;refine go ?_;rw[show decide ((i:Int)<7)=true by rw[decide_eq_true_eq];omega];refine go ?_;refine gD [] ?_;refine ri [pI a.cell] (gk L) ?_;refine bh ?_;refine ri [pI a.new] (gk hv) ?_;refine bh ?_;refine vg (m:=1) aB rfl rfl rfl rfl rfl rfl rfl rfl rfl rfl rfl rfl rfl (by unfold maxLen;omega) (by show(_+_)*32<=_;omega) ?_;rw[key];refine qg ?_;exact⟨i+1,by omega,by omega,zX⟩
def cr(l:ag)(k:Nat):List aT:=(List.range k).flatMap (λ(m:Nat)=>gC l m ((m:Int)+1))
def eM(l:ag)(k:Nat):List aT:=(List.range k).flatMap (λ(c:Nat)=>Sg.mw l c (l.maps+c+1))
theorem DJ(l:ag)(k:Nat):cr l (k+1)=cr l k++gC l k ((k:Int)+1):=by simp[cr,List.range_succ]
theorem DF(l:ag)(k:Nat):eM l (k+1)=eM l k++Sg.mw l k (l.maps+k+1):=by simp[eM,List.range_succ]
theorem Ky(l:ag)(k:Nat):(cr l k).length=k*7:=by
 induction k with
 |zero=>rfl
 |succ k ih=>rw[DJ,List.length_append,ih,show(gC l k ((k:Int)+1)).length=7 from rfl];omega
theorem Kx(l:ag)(k:Nat):(eM l k).length<=k*8:=by
 induction k with
 |zero=>exact Nat.le_refl _
 |succ k ih=>rw[DF,List.length_append];have:=Sg.L0 l k (l.maps+k+1);omega
theorem Lg(l:ag):nJ l=cr l l.maps.toNat++eM l l.bo.toNat++po l (l.maps+l.bo+1).toNat++[⟨2,l.era,0,1⟩]:=rfl
set_option maxHeartbeats 8000000 in
theorem aa8(l:ag)(Z:ca l)(hM:kh l)(_:1<=l.buckets)(hm:0<=l.maps/\l.maps<=8)(L:0<=l.bo/\l.bo<=8):aX prog 11 [dD l] (mI (nJ l)):=by
 generalize hA:nJ l=ab;rw[Lg] at hA;have ya:=Ky l;have De:=Kx l;have YA:=Ng l Z (l.maps+l.bo+1).toNat;have YF:(l.maps.toNat:Int)=l.maps:=by omega
 have XG:(l.bo.toNat:Int)=l.bo:=by omega
 refine sP func11 ntmps11 λ w cl=>?_
 refine go ?_;refine dO (kF 3 0 82 4 rfl rfl rfl) ?_;refine bW (λ i:Nat=>i<=l.maps.toNat) (λ i=>⟨[(9,u i),(8,u l.maps),(3,.aW 0 (cr l i).length (cL (cr l i))),(1,.ptr 0 0)],[(0,cn l)],[(0,⟨82,4,(cr l i).length⟩)]⟩) (λ i=>l.maps.toNat-i) 0 (by omega) (zX) ?_;intro i X;refine(show aK _ _ _ _ ⟨[(9,u i),(8,u l.maps),(3,.aW 0 (cr l i).length (cL (cr l i))),(1,.ptr 0 0)],[(0,cn l)],[(0,⟨82,4,(cr l i).length⟩)]⟩ from ?_);refine go ?_
 by_cases h1:i<l.maps.toNat
 ·rw[show decide ((i:Int)<l.maps)=true by rw[decide_eq_true_eq];omega];have ia:=ya i;have o4:aX prog 31 [dD l,u i,u ((i:Int)+1)] (mI (gC l i ((i:Int)+1))):=adz l Z hM i ((i:Int)+1) (by omega);have key:cL (cr l i)++cL (gC l i ((i:Int)+1))=cL (cr l (i+1)):=by rw[Bm,DJ]
  have o6:(cr l i).length+(gC l i ((i:Int)+1)).length=(cr l (i+1)).length:=by rw[DJ,List.length_append]
  have dg:∀{Γ:bI}{J:St},bN Γ J ⟨[(9,u ((i:Int)+1)),(8,u l.maps),(3,.aW 0 (cr l (i+1)).length (cL (cr l (i+1)))),(1,.ptr 0 0)],[(0,cn l)],[(0,⟨82,4,(cr l (i+1)).length⟩)]⟩->∃j:Nat,j<=l.maps.toNat/\l.maps.toNat-j<l.maps.toNat-i/\bN Γ J ⟨[(9,u j),(8,u l.maps),(3,.aW 0 (cr l j).length (cL (cr l j))),(1,.ptr 0 0)],[(0,cn l)],[(0,⟨82,4,(cr l j).length⟩)]⟩:=λ hg=>⟨i+1,by omega,by omega,by rw[show((i+1:Nat):Int)=(i:Int)+1 by omega];exact hg⟩
  have yp:(gC l i ((i:Int)+1)).length=7:=rfl;generalize gC l i ((i:Int)+1)=SI at o4 key o6 yp;generalize cr l i=IM at*;generalize cr l (i+1)=HV at*;refine gA o4 ?_;refine hE (m:=SI.length) aB rfl rfl rfl rfl rfl rfl rfl rfl rfl rfl rfl rfl (wQ _) (by unfold maxLen;omega) (by show(_+_)*32<=_;omega) ?_;rw[key,o6];refine go ?_;exact dg zX
 ·have aP:i=l.maps.toNat:=by omega
  subst aP;rw[show decide (((l.maps.toNat:Nat):Int)<l.maps)=false by rw[decide_eq_false_iff_not];omega];clear X h1;refine go ?_;refine bW (λ i:Nat=>i<=l.bo.toNat) (λ i=>⟨[(23,u i),(22,u l.bo),(3,.aW 0 (cr l l.maps.toNat++eM l i).length (cL (cr l l.maps.toNat++eM l i))),(1,.ptr 0 0)],[(0,cn l)],[(0,⟨82,4,(cr l l.maps.toNat++eM l i).length⟩)]⟩) (λ i=>l.bo.toNat-i) 0 (by omega) (by simp only[eM,List.range_zero,List.flatMap_nil,List.append_nil];exact zX) ?_;intro i X;refine(show aK _ _ _ _ ⟨[(23,u i),(22,u l.bo),(3,.aW 0 (cr l l.maps.toNat++eM l i).length (cL (cr l l.maps.toNat++eM l i))),(1,.ptr 0 0)],[(0,cn l)],[(0,⟨82,4,(cr l l.maps.toNat++eM l i).length⟩)]⟩ from ?_);refine go ?_
  by_cases h1:i<l.bo.toNat
  ·rw[show decide ((i:Int)<l.bo)=true by rw[decide_eq_true_eq];omega];have ia:=ya l.maps.toNat;have dJ:=De i;have o4:aX prog 32 [dD l,u i,u (l.maps+i+1)] (mI (Sg.mw l i (l.maps+i+1))):=Sg.ac7 l Z i (l.maps+i+1) (by omega);have key:cL (cr l l.maps.toNat++eM l i)++cL (Sg.mw l i (l.maps+i+1))=cL (cr l l.maps.toNat++eM l (i+1)):=by rw[Bm,DF,List.append_assoc]
   have o6:(cr l l.maps.toNat++eM l i).length+(Sg.mw l i (l.maps+i+1)).length=(cr l l.maps.toNat++eM l (i+1)).length:=by rw[DF];simp only[List.length_append];omega
   have dg:∀{Γ:bI}{J:St},bN Γ J ⟨[(23,u ((i:Int)+1)),(22,u l.bo),(3,.aW 0 (cr l l.maps.toNat++eM l (i+1)).length (cL (cr l l.maps.toNat++eM l (i+1)))),(1,.ptr 0 0)],[(0,cn l)],[(0,⟨82,4,(cr l l.maps.toNat++eM l (i+1)).length⟩)]⟩->∃j:Nat,j<=l.bo.toNat/\l.bo.toNat-j<l.bo.toNat-i/\bN Γ J ⟨[(23,u j),(22,u l.bo),(3,.aW 0 (cr l l.maps.toNat++eM l j).length (cL (cr l l.maps.toNat++eM l j))),(1,.ptr 0 0)],[(0,cn l)],[(0,⟨82,4,(cr l l.maps.toNat++eM l j).length⟩)]⟩:=λ hg=>⟨i+1,by omega,by omega,by rw[show((i+1:Nat):Int)=(i:Int)+1 by omega];exact hg⟩
   have yp:=Sg.L0 l i (l.maps+i+1);have FW:(cr l l.maps.toNat++eM l i).length<=1000:=by rw[List.length_append];omega
   generalize Sg.mw l i (l.maps+i+1)=SI at o4 key o6 yp;generalize cr l l.maps.toNat++eM l i=IM at*;generalize cr l l.maps.toNat++eM l (i+1)=HV at*;refine gA o4 ?_;refine hE (m:=SI.length) aB rfl rfl rfl rfl rfl rfl rfl rfl rfl rfl rfl rfl (wQ _) (by unfold maxLen;omega) (by show(_+_)*32<=_;omega) ?_;rw[key,o6];refine go ?_;exact dg zX
  ·have aP:i=l.bo.toNat:=by omega
   subst aP;rw[show decide (((l.bo.toNat:Nat):Int)<l.bo)=false by rw[decide_eq_false_iff_not];omega];have ia:=ya l.maps.toNat;have dJ:=De l.bo.toNat;have CS:=UE l Z (l.maps+l.bo+1).toNat (by omega) (by omega);rw[show(((l.maps+l.bo+1).toNat:Nat):Int)=l.maps+l.bo+1 by omega] at CS;have FW:(cr l l.maps.toNat++eM l l.bo.toNat).length<=1000:=by rw[List.length_append];omega
   generalize cr l l.maps.toNat++eM l l.bo.toNat=IM at*;generalize po l (l.maps+l.bo+1).toNat=AR at*;have key:(cL IM++cL AR)++[pI 2,pI l.era,pI 0,pI 1]=cL ab:=by rw[Bm,<-hA];exact tS (IM++AR) ⟨2,l.era,0,1⟩
   have o6:IM.length+AR.length+1=ab.length:=by rw[<-hA];simp;omega
   refine gA CS ?_;refine hE (m:=AR.length) aB rfl rfl rfl rfl rfl rfl rfl rfl rfl rfl rfl rfl (wQ _) (by unfold maxLen;omega) (by show(_+_)*32<=_;omega) ?_;refine go ?_;refine pA rfl ?_;rw[key,o6];refine gf ?_
   rfl
set_option maxHeartbeats 8000000 in
theorem acK(l:ag)(Z:ca l)(hM:kh l)(T:1<=l.buckets)(hm:0<=l.maps/\l.maps<=8)(L:0<=l.bo/\l.bo<=8):aX prog 12 [dD l] (mI (nJ l)):=by
 generalize hA:nJ l=ab;rw[Lg] at hA;have ya:=Ky l;have De:=Kx l;have YA:=Ng l Z (l.maps+l.bo+1).toNat;have YF:(l.maps.toNat:Int)=l.maps:=by omega
 have XG:(l.bo.toNat:Int)=l.bo:=by omega
 refine sP func12 ntmps12 λ w cl=>?_
 refine go ?_;refine dO (kF 3 0 82 4 rfl rfl rfl) ?_;refine bW (λ i:Nat=>i<=l.maps.toNat) (λ i=>⟨[(4,u i),(3,.aW 0 (cr l i).length (cL (cr l i))),(1,.ptr 0 0)],[(0,cn l)],[(0,⟨82,4,(cr l i).length⟩)]⟩) (λ i=>l.maps.toNat-i) 0 (by omega) (zX) ?_;intro i X;refine(show aK _ _ _ _ ⟨[(4,u i),(3,.aW 0 (cr l i).length (cL (cr l i))),(1,.ptr 0 0)],[(0,cn l)],[(0,⟨82,4,(cr l i).length⟩)]⟩ from ?_);refine go ?_
 by_cases h1:i<l.maps.toNat
 ·rw[show decide ((i:Int)<l.maps)=true by rw[decide_eq_true_eq];omega];have ia:=ya i;have o4:aX prog 34 [dD l,u i,u ((i:Int)+1)] (mI (gC l i ((i:Int)+1))):=acL l Z hM i (i+1) (by omega) T (by omega);have key:cL (cr l i)++cL (gC l i ((i:Int)+1))=cL (cr l (i+1)):=by rw[Bm,DJ]
  have o6:(cr l i).length+(gC l i ((i:Int)+1)).length=(cr l (i+1)).length:=by rw[DJ,List.length_append]
  have dg:∀{Γ:bI}{J:St},bN Γ J ⟨[(4,u ((i:Int)+1)),(3,.aW 0 (cr l (i+1)).length (cL (cr l (i+1)))),(1,.ptr 0 0)],[(0,cn l)],[(0,⟨82,4,(cr l (i+1)).length⟩)]⟩->∃j:Nat,j<=l.maps.toNat/\l.maps.toNat-j<l.maps.toNat-i/\bN Γ J ⟨[(4,u j),(3,.aW 0 (cr l j).length (cL (cr l j))),(1,.ptr 0 0)],[(0,cn l)],[(0,⟨82,4,(cr l j).length⟩)]⟩:=λ hg=>⟨i+1,by omega,by omega,by rw[show((i+1:Nat):Int)=(i:Int)+1 by omega];exact hg⟩
  have yp:(gC l i ((i:Int)+1)).length=7:=rfl;generalize gC l i ((i:Int)+1)=SI at o4 key o6 yp;generalize cr l i=IM at*;generalize cr l (i+1)=HV at*;refine gA o4 ?_;refine hE (m:=SI.length) aB rfl rfl rfl rfl rfl rfl rfl rfl rfl rfl rfl rfl (wQ _) (by unfold maxLen;omega) (by show(_+_)*32<=_;omega) ?_;rw[key,o6];refine go ?_;exact dg zX
 ·have aP:i=l.maps.toNat:=by omega
  subst aP;rw[show decide (((l.maps.toNat:Nat):Int)<l.maps)=false by rw[decide_eq_false_iff_not];omega];clear X h1;refine go ?_;refine bW (λ i:Nat=>i<=l.bo.toNat) (λ i=>⟨[(5,u i),(3,.aW 0 (cr l l.maps.toNat++eM l i).length (cL (cr l l.maps.toNat++eM l i))),(1,.ptr 0 0)],[(0,cn l)],[(0,⟨82,4,(cr l l.maps.toNat++eM l i).length⟩)]⟩) (λ i=>l.bo.toNat-i) 0 (by omega) (by simp only[eM,List.range_zero,List.flatMap_nil,List.append_nil];exact zX) ?_;intro i X;refine(show aK _ _ _ _ ⟨[(5,u i),(3,.aW 0 (cr l l.maps.toNat++eM l i).length (cL (cr l l.maps.toNat++eM l i))),(1,.ptr 0 0)],[(0,cn l)],[(0,⟨82,4,(cr l l.maps.toNat++eM l i).length⟩)]⟩ from ?_);refine go ?_
  by_cases h1:i<l.bo.toNat
  ·rw[show decide ((i:Int)<l.bo)=true by rw[decide_eq_true_eq];omega];have ia:=ya l.maps.toNat;have dJ:=De i;have o4:aX prog 35 [dD l,u i,u (l.maps+i+1)] (mI (Sg.mw l i (l.maps+i+1))):=Sg.acC l Z i (l.maps+i+1);have key:cL (cr l l.maps.toNat++eM l i)++cL (Sg.mw l i (l.maps+i+1))=cL (cr l l.maps.toNat++eM l (i+1)):=by rw[Bm,DF,List.append_assoc]
   have o6:(cr l l.maps.toNat++eM l i).length+(Sg.mw l i (l.maps+i+1)).length=(cr l l.maps.toNat++eM l (i+1)).length:=by rw[DF];simp only[List.length_append];omega
   have dg:∀{Γ:bI}{J:St},bN Γ J ⟨[(5,u ((i:Int)+1)),(3,.aW 0 (cr l l.maps.toNat++eM l (i+1)).length (cL (cr l l.maps.toNat++eM l (i+1)))),(1,.ptr 0 0)],[(0,cn l)],[(0,⟨82,4,(cr l l.maps.toNat++eM l (i+1)).length⟩)]⟩->∃j:Nat,j<=l.bo.toNat/\l.bo.toNat-j<l.bo.toNat-i/\bN Γ J ⟨[(5,u j),(3,.aW 0 (cr l l.maps.toNat++eM l j).length (cL (cr l l.maps.toNat++eM l j))),(1,.ptr 0 0)],[(0,cn l)],[(0,⟨82,4,(cr l l.maps.toNat++eM l j).length⟩)]⟩:=λ hg=>⟨i+1,by omega,by omega,by rw[show((i+1:Nat):Int)=(i:Int)+1 by omega];exact hg⟩
   have yp:=Sg.L0 l i (l.maps+i+1);have FW:(cr l l.maps.toNat++eM l i).length<=1000:=by rw[List.length_append];omega
   generalize Sg.mw l i (l.maps+i+1)=SI at o4 key o6 yp;generalize cr l l.maps.toNat++eM l i=IM at*;generalize cr l l.maps.toNat++eM l (i+1)=HV at*;refine gA o4 ?_;refine hE (m:=SI.length) aB rfl rfl rfl rfl rfl rfl rfl rfl rfl rfl rfl rfl (wQ _) (by unfold maxLen;omega) (by show(_+_)*32<=_;omega) ?_;rw[key,o6];refine go ?_;exact dg zX
  ·have aP:i=l.bo.toNat:=by omega
   subst aP;rw[show decide (((l.bo.toNat:Nat):Int)<l.bo)=false by rw[decide_eq_false_iff_not];omega];have ia:=ya l.maps.toNat;have dJ:=De l.bo.toNat;have CS:=acF l Z (l.maps+l.bo+1).toNat (by omega) (by omega);rw[show(((l.maps+l.bo+1).toNat:Nat):Int)=l.maps+l.bo+1 by omega] at CS;have FW:(cr l l.maps.toNat++eM l l.bo.toNat).length<=1000:=by rw[List.length_append];omega
   generalize cr l l.maps.toNat++eM l l.bo.toNat=IM at*;generalize po l (l.maps+l.bo+1).toNat=AR at*;have key:(cL IM++cL AR)++[pI 2,pI l.era,pI 0,pI 1]=cL ab:=by rw[Bm,<-hA];exact tS (IM++AR) ⟨2,l.era,0,1⟩
   have o6:IM.length+AR.length+1=ab.length:=by rw[<-hA];simp;omega
   refine gA CS ?_;refine hE (m:=AR.length) aB rfl rfl rfl rfl rfl rfl rfl rfl rfl rfl rfl rfl (wQ _) (by unfold maxLen;omega) (by show(_+_)*32<=_;omega) ?_;refine go ?_;refine pA rfl ?_;rw[key,o6];refine gf ?_
   rfl
theorem aa5(l:ag):(rn l).length=l.size.toNat:=by unfold rn;rw[M3 _ _ _ _ rfl];simp
end Go.Proofs.YtcnefjfboagbmaaGreat
