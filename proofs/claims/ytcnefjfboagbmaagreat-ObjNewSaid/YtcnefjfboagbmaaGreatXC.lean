/- What an operation's program does next, of whatever object: its walk. -/
import Derived.Test.YtcnefjfboagbmaaGreatWA
import Derived.Test.YtcnefjfboagbmaaGreatPA
import Derived.Test.YtcnefjfboagbmaaGreatWD
import Derived.Test.YtcnefjfboagbmaaGreatXA
import Derived.Test.YtcnefjfboagbmaaGreatXB
import Derived.Test.YtcnefjfboagbmaaGreatWE
import Derived.DeepKeys
import Derived.Test.YtcnefjfboagbmaaGreatWC
namespace Go.Proofs.YtcnefjfboagbmaaGreat
open Go.Proofs.Tryz
open Go.RowKit
set_option maxRecDepth 100000
abbrev AU:F:=.agg [z 1,z 3,.fn (.func 105) [] [],z 4,z 5,.fn (.func 106) [] [],z 6,z 7,.fn (.func 107) [] []]
theorem RZ:aW prog 70 [] AU:=by
 refine sP func70 ntmps70 λ w cl=>?_
 refine gf ?_
 rfl
abbrev mb(op:cq):Bool:=decide (op.kind≠6\/(0<=op.a/\op.a<4294967296))
def ub(op:cq):Nat:=if mb op=false then 3 else if 1<=op.kind/\op.kind<=3 then 0 else if 4<=op.kind/\op.kind<=5 then 1 else if 6<=op.kind/\op.kind<=7 then 2 else 3
set_option maxHeartbeats 16000000 in
theorem N0(l:ab)(hL:bQ l)(hS:0<=l.aA)(hM:iY l)(E:Int)(rY:0<=E/\E<=1000000)(gone:List (Int×Int))(op:cq)(log:List aB)(hg:ee gone)(gz:gone.length+log.length<=10000)(DU:log.length<=5000):aW prog 30 [cF l,z E,cT gone,.agg [z op.kind,z op.obj,z op.a,z op.b],fS log] (qx (q7 l E gone op log)):=by
 generalize A:q7 l E gone op log=aK;unfold q7 at A;refine sP func30 ntmps30 λ w cl=>?_
 refine zA (zB ?_);refine gG ?_;refine zM ?_;refine AF (dE:=Unit) (λ _=>⟨[(13,dB (mb op)),(12,dB false),(11,.ptr 3 0),(10,.ptr 2 0),(8,.ptr 1 0),(5,.ptr 0 0),(1,z E),(2,cT gone),(4,fS log)],[(3,[z 0,dB false,z 0,z 0,.p (.sl true 0 [])]),(2,[z 0,z 0,z 0,z 0]),(1,[z op.kind,z op.obj,z op.a,z op.b]),(0,bs l)],[]⟩) (λ _=>True) ?_ ?_
 ·refine go ?_;generalize u:decide (op.kind=6)=cc;cases cc
  ·have aN:=of_decide_eq_false u;refine go ?_;refine⟨rfl,(),trivial,?_⟩;rw[show mb op=true from decide_eq_true (.inl aN)];exact zX
  ·have aN:=of_decide_eq_true u;refine go ?_;generalize D:decide (op.a>=0)=cc;cases cc
   ·have bd:=of_decide_eq_false D;refine go ?_;refine⟨rfl,(),trivial,?_⟩;rw[show mb op=false from decide_eq_false (by omega)];exact zX
   ·have bd:=of_decide_eq_true D;refine go ?_;rw[show decide (op.a<4294967296)=mb op by rw[decide_eq_decide];omega];refine⟨rfl,(),trivial,?_⟩;exact zX
 intro _ _;have HP:mb op=true->op.kind≠6\/(0<=op.a/\op.a<4294967296):=λ h=>of_decide_eq_true h
 have Mo:mb op=false->¬(op.kind≠6\/(0<=op.a/\op.a<4294967296)):=λ h=>of_decide_eq_false h
 have ie:(∀k:Nat,k<3->ub op≠k)->aK=(eF,⟨0,false,1,-1,gone⟩,true):=λ h=>by
  have h0:=h 0 (by omega);have u:=h 1 (by omega);have D:=h 2 (by omega);unfold ub at h0 u D;rw[<-A];generalize mb op=b at*;cases b
  ·have:=Mo rfl;rw[if_neg (by omega),if_neg (by omega),if_neg (by omega)]
  ·simp only[Bool.true_eq_false,if_false] at h0 u D;have:=HP rfl;have a0:¬(1<=op.kind/\op.kind<=3):=λ hh=>by rw[if_pos hh] at h0;exact h0 rfl
   rw[if_neg a0] at u D;have a1:¬(4<=op.kind/\op.kind<=5):=λ hh=>by rw[if_pos hh] at u;exact u rfl
   rw[if_neg a1] at D;have a2:¬(6<=op.kind/\op.kind<=7):=λ hh=>by rw[if_pos hh] at D;exact D rfl
   rw[if_neg a0,if_neg (by omega),if_neg (by omega)]
 have ML:∀k:Nat,k<3->(ub op=k↔(mb op=true/\(([1,4,6]:List Int).getD k 0)<=op.kind/\op.kind<=(([3,5,7]:List Int).getD k 0))):=λ k J=>by
  unfold ub;rcases(show k=0\/k=1\/k=2 by omega) with rfl|rfl|rfl<;>(simp only[List.getD_cons_zero,List.getD_cons_succ];repeat' split)<;>simp_all<;>omega
 refine gA RZ ?_;refine bL (λ i:Nat=>i<=3/\∀k<i,ub op≠k) (λ i=>⟨[(30,z i),(29,AU),(13,dB (mb op)),(12,dB false),(11,.ptr 3 0),(10,.ptr 2 0),(8,.ptr 1 0),(5,.ptr 0 0),(1,z E),(2,cT gone),(4,fS log)],[(3,[z 0,dB false,z 0,z 0,.p (.sl true 0 [])]),(2,[z 0,z 0,z 0,z 0]),(1,[z op.kind,z op.obj,z op.a,z op.b]),(0,bs l)],[]⟩) (λ i=>3-i) 0 ⟨by omega,λ k J=>by omega⟩ (zX) ?_;rintro i ⟨Z,J⟩;refine(show aJ _ _ _ _ ⟨[(30,z i),(29,AU),(13,dB (mb op)),(12,dB false),(11,.ptr 3 0),(10,.ptr 2 0),(8,.ptr 1 0),(5,.ptr 0 0),(1,z E),(2,cT gone),(4,fS log)],[(3,[z 0,dB false,z 0,z 0,.p (.sl true 0 [])]),(2,[z 0,z 0,z 0,z 0]),(1,[z op.kind,z op.obj,z op.a,z op.b]),(0,bs l)],[]⟩ from ?_);refine go ?_
 by_cases K:i=3
 ·subst K;refine(show CK false _ _ from ?_);refine gA ((ol gone (by omega)).pure) ?_;refine dt ?_;rw[ie (λ k h=>J k h)]
  rfl
 rw[show decide ((i:Int)<3)=true by rw[decide_eq_true_eq];omega];have Tf:∃(lo lz:Int)(f:Nat),(([z 1,z 3,.fn (.func 105) [] [],z 4,z 5,.fn (.func 106) [] [],z 6,z 7,.fn (.func 107) [] []]:List F).drop (i*3)).take 3=[z lo,z lz,.fn (.func f) [] []]/\jj prog f/\(ub op=i↔(mb op=true/\lo<=op.kind/\op.kind<=lz))/\(mb op=true->lo<=op.kind->op.kind<=lz->aW prog f [cF l,z E,cT gone,.agg [z op.kind,z op.obj,z op.a,z op.b],fS log] (qx aK)):=by
  have hy:=ML i (by omega);rcases(show i=0\/i=1\/i=2 by omega) with rfl|rfl|rfl
  ·refine⟨1,3,105,rfl,λ a w=>call105 a w,hy,λ _ q1 q2=>?_⟩;rw[if_pos ⟨q1,q2⟩] at A;rw[<-A];exact Uf l hL hS hM E gone op log hg gz DU
  ·refine⟨4,5,106,rfl,λ a w=>call106 a w,hy,λ _ q1 q2=>?_⟩;rw[if_neg (by omega),if_pos (by omega)] at A;rw[<-A];exact Em.Cd l hL E rY gone op log hg (by omega) (by omega)
  ·refine⟨6,7,107,rfl,λ a w=>call107 a w,hy,λ q0 q1 q2=>?_⟩;have:=HP q0;rw[if_neg (by omega),if_neg (by omega),if_pos (by omega)] at A;rw[<-A];exact Sg.Cd l hL E gone op log (λ h6=>by omega) hg gz
 obtain⟨lo,lz,f,fV,Hp,TC,S4⟩:=Tf;have Ms:¬(mb op=true/\lo<=op.kind/\op.kind<=lz)->∀k<i+1,ub op≠k:=λ hn k dk=>by
  rcases Nat.lt_succ_iff_lt_or_eq.1 dk with h|rfl
  ·exact J k h
  ·exact λ e=>hn (TC.1 e)
 have H1:∀{Γ:bE}{I:St},(¬(mb op=true/\lo<=op.kind/\op.kind<=lz))->bF Γ I ⟨[(30,z ((i:Int)+1)),(29,AU),(13,dB (mb op)),(12,dB false),(11,.ptr 3 0),(10,.ptr 2 0),(8,.ptr 1 0),(5,.ptr 0 0),(1,z E),(2,cT gone),(4,fS log)],[(3,[z 0,dB false,z 0,z 0,.p (.sl true 0 [])]),(2,[z 0,z 0,z 0,z 0]),(1,[z op.kind,z op.obj,z op.a,z op.b]),(0,bs l)],[]⟩->∃j:Nat,(j<=3/\∀k<j,ub op≠k)/\3-j<3-i/\bF Γ I ⟨[(30,z j),(29,AU),(13,dB (mb op)),(12,dB false),(11,.ptr 3 0),(10,.ptr 2 0),(8,.ptr 1 0),(5,.ptr 0 0),(1,z E),(2,cT gone),(4,fS log)],[(3,[z 0,dB false,z 0,z 0,.p (.sl true 0 [])]),(2,[z 0,z 0,z 0,z 0]),(1,[z op.kind,z op.obj,z op.a,z op.b]),(0,bs l)],[]⟩:=λ hn eA=>⟨i+1,⟨by omega,Ms hn⟩,by omega,by rw[show((i+1:Nat):Int)=(i:Int)+1 by omega];exact eA⟩
 clear ML ie HP Mo A Ms;refine go ?_;refine bf (Va aw [z lo,z lz,.fn (.func f) [] []] rfl rfl rfl rfl rfl rfl (by omega) (by omega) (by rw[Int.toNat_natCast];exact fV)) rfl rfl rfl ?_;refine go ?_;generalize mb op=b at*;cases b
 ·refine go ?_;exact H1 (by simp) zX
 ·refine go ?_
  by_cases h4:lo<=op.kind
  ·rw[show decide (lo<=op.kind)=true from decide_eq_true h4];refine go ?_
   by_cases h5:op.kind<=lz
   ·rw[show decide (op.kind<=lz)=true from decide_eq_true h5];have L:=S4 rfl h4 h5;refine go ?_;refine bf (tV L rfl Hp rfl rfl) rfl rfl rfl ?_;refine gf ?_
    rfl
   ·rw[show decide (op.kind<=lz)=false from decide_eq_false h5];refine go ?_;exact H1 (λ h=>h5 h.2.2) zX
  ·rw[show decide (lo<=op.kind)=false from decide_eq_false h4];refine go ?_;exact H1 (λ h=>h4 h.2.1) zX
abbrev pJ(c:kO):List F:=[z c.aA,z c.nodes,z c.buckets,z c.bm,z c.tasks,z c.cells,z c.maps,z c.bo,z c.aL]
abbrev tZ(c:kO):F:=.agg (pJ c)
theorem uV(n a b:Int):aW prog 63 [z n,z a,z b] (dB (l9 n a b)):=n4 n a b
def tE(b:Int):Nat->Bool
 |0=>false
 |i+1=>tE b i||decide (b=2^i)
theorem Xj(b:Int):tE b 7=tn b:=by simp[tE,tn]
theorem Xi{i:Nat}(h:i<=7):(2:Int)^i<=128/\1<=(2:Int)^i/\decide ((2:Int)^i<=64)=decide (i<7):=by rcases(show i=0\/i=1\/i=2\/i=3\/i=4\/i=5\/i=6\/i=7 by omega) with rfl|rfl|rfl|rfl|rfl|rfl|rfl|rfl<;>decide
set_option maxHeartbeats 8000000 in
theorem WJ(c:kO):aW prog 62 [tZ c] (dB (wY c)):=by
 generalize A:wY c=aK;unfold wY at A;refine sP func62 ntmps62 λ w cl=>?_
 refine go ?_;refine AG (dE:=Unit) (.exit 0) (λ _=>⟨[(3,dB (tn c.buckets)),(1,.ptr 0 0)],[(0,pJ c)],[]⟩) (λ _=>True) ?_ ?_
 ·refine bL (λ i:Nat=>i<=7) (λ i=>⟨[(4,z ((2:Int)^i)),(3,dB (tE c.buckets i)),(1,.ptr 0 0)],[(0,pJ c)],[]⟩) (λ i=>7-i) 0 (by omega) (zX) ?_;intro i Z;obtain⟨q1,q2,q3⟩:=Xi Z;have q4:tE c.buckets (i+1)=(tE c.buckets i||decide (c.buckets=2^i)):=rfl;have q5:(2:Int)^(i+1)=2*2^i:=by rw[Int.pow_succ];omega
  by_cases h7:i=7
  ·subst h7;rw[Xj];refine(show aJ _ _ _ _ ⟨[(4,z 128),(3,dB (tn c.buckets)),(1,.ptr 0 0)],[(0,pJ c)],[]⟩ from ?_);refine go ?_;refine(show CK false _ _ from ?_);refine go ?_;exact⟨rfl,(),trivial,zX⟩
  ·rw[decide_eq_true (show i<7 by omega)] at q3;have b8:∀{Γ:bE}{I:St},bF Γ I ⟨[(4,z (2*(2:Int)^i)),(3,dB (tE c.buckets i||decide (c.buckets=2^i))),(1,.ptr 0 0)],[(0,pJ c)],[]⟩->∃j:Nat,j<=7/\7-j<7-i/\bF Γ I ⟨[(4,z ((2:Int)^j)),(3,dB (tE c.buckets j)),(1,.ptr 0 0)],[(0,pJ c)],[]⟩:=λ hg=>⟨i+1,by omega,by omega,by rw[q4,q5];exact hg⟩
   clear q4 q5;generalize(2:Int)^i=v at*;generalize tE c.buckets i=pw at*;refine(show aJ _ _ _ _ ⟨[(4,z v),(3,dB pw),(1,.ptr 0 0)],[(0,pJ c)],[]⟩ from ?_);refine go ?_;rw[q3];refine go ?_;cases pw
   ·refine go ?_;rw[show IntKind.i64.wrap (2*v)=2*v from d6 (by omega) (by omega)];refine go ?_;exact b8 zX
   ·refine go ?_;rw[show IntKind.i64.wrap (2*v)=2*v from d6 (by omega) (by omega)];refine go ?_;exact b8 zX
 intro bS _ _ eA;refine zR (zM (da eA ?_));clear eA;generalize tn c.buckets=pw at*;cases pw
 ·refine gf ?_;rw[<-A];rfl
 ·refine go ?_;refine cA (uV c.aA 1 8) ?_;generalize l9 c.aA 1 8=b0 at*;cases b0
  ·refine gf ?_;rw[<-A];rfl
  ·refine go ?_;refine cA (uV c.bm 1 8) ?_;generalize l9 c.bm 1 8=b1 at*;cases b1
   ·refine gf ?_;rw[<-A];rfl
   ·refine go ?_;refine cA (uV c.tasks 1 64) ?_;generalize l9 c.tasks 1 64=b2 at*;cases b2
    ·refine gf ?_;rw[<-A];rfl
    ·refine go ?_;refine cA (uV c.cells 0 16) ?_;generalize l9 c.cells 0 16=b3 at*;cases b3
     ·refine gf ?_;rw[<-A];rfl
     ·refine go ?_;refine cA (uV c.maps 0 8) ?_;generalize l9 c.maps 0 8=d0 at*;cases d0
      ·refine gf ?_;rw[<-A];rfl
      ·refine go ?_;refine cA (uV c.bo 0 8) ?_;generalize l9 c.bo 0 8=d1 at*;cases d1
       ·refine gf ?_;rw[<-A];rfl
       ·refine gA (uV c.aL 0 8) ?_;refine dt ?_;rw[<-A];rfl
theorem N6{i:Nat}(h:i<=5):4<=(4:Int)*2^i/\(4:Int)*2^i<=128/\(4:Int)*2^(i+1)=2*(4*2^i):=by rcases(show i=0\/i=1\/i=2\/i=3\/i=4\/i=5 by omega) with rfl|rfl|rfl|rfl|rfl|rfl<;>decide
theorem Ye{t:Int}{i:Nat}(Z:i<=4)(ht:t<=64)(u:∀j<i,(4:Int)*2^j<t)(D:t<=4*2^i):lJ t=i+1:=by
 unfold lJ;rcases(show i=0\/i=1\/i=2\/i=3\/i=4 by omega) with rfl|rfl|rfl|rfl|rfl
 ·simp at D;rw[if_pos D]
 ·have a0:=u 0 (by omega);simp at a0 D;rw[if_neg (by omega),if_pos (by omega)]
 ·have a0:=u 1 (by omega);simp at a0 D;rw[if_neg (by omega),if_neg (by omega),if_pos (by omega)]
 ·have a0:=u 2 (by omega);simp at a0 D;rw[if_neg (by omega),if_neg (by omega),if_neg (by omega),if_pos (by omega)]
 ·have a0:=u 3 (by omega);simp at a0 D;rw[if_neg (by omega),if_neg (by omega),if_neg (by omega),if_neg (by omega)]
theorem WQ(l:ab)(ht:l.tasks<=64):aW prog 64 [cF l] (z (lJ l.tasks)):=by
 refine sP func64 ntmps64 λ w cl=>?_
 refine go ?_;refine bL (λ i:Nat=>i<=4/\∀j<i,(4:Int)*2^j<l.tasks) (λ i=>⟨[(4,z (4*(2:Int)^i)),(3,z ((i:Int)+1)),(1,.ptr 0 0)],[(0,bs l)],[]⟩) (λ i=>5-i) 0 ⟨by omega,λ j hj=>by omega⟩ (zX) ?_;rintro i ⟨Z,J⟩;obtain⟨q1,q2,q3⟩:=N6 (i:=i) (by omega);have b8:(4:Int)*2^i<l.tasks->∀{Γ:bE}{I:St},bF Γ I ⟨[(4,z (2*(4*(2:Int)^i))),(3,z ((i:Int)+1+1)),(1,.ptr 0 0)],[(0,bs l)],[]⟩->∃j:Nat,(j<=4/\∀k<j,(4:Int)*2^k<l.tasks)/\5-j<5-i/\bF Γ I ⟨[(4,z (4*(2:Int)^j)),(3,z ((j:Int)+1)),(1,.ptr 0 0)],[(0,bs l)],[]⟩:=λ bh=>by
  have h4:i≠4:=λ e=>by subst e;simp at bh;omega
  intro Γ I hg;exact⟨i+1,⟨by omega,λ k dk=>by
   rcases Nat.lt_succ_iff_lt_or_eq.1 dk with h|rfl
   ·exact J k h
   ·exact bh⟩,by omega,by rw[q3,show((i+1:Nat):Int)+1=(i:Int)+1+1 by omega];exact hg⟩
 have rR:l.tasks<=4*2^i->((lJ l.tasks:Nat):Int)=(i:Int)+1:=λ h=>by rw[Ye Z ht J h];omega
 clear q3;generalize(4:Int)*2^i=v at*;refine(show aJ _ _ _ _ ⟨[(4,z v),(3,z ((i:Int)+1)),(1,.ptr 0 0)],[(0,bs l)],[]⟩ from ?_);refine go ?_;generalize u:decide (v<l.tasks)=cc;cases cc
 ·have aN:=of_decide_eq_false u;refine gf ?_;rw[rR (by omega)]
 ·have aN:=of_decide_eq_true u;refine go ?_;rw[show decide ((i:Int)+1<40)=true by rw[decide_eq_true_eq];omega];refine go ?_;rw[show IntKind.i64.wrap (2*v)=2*v from d6 (by omega) (by omega)];refine go ?_;exact b8 aN zX
theorem WR(n:Nat)(hn:n<=5):aW prog 65 [z n] (z (qf n)):=by
 refine sP func65 ntmps65 λ w cl=>?_
 refine go ?_;refine bL (λ i:Nat=>i<=n) (λ i=>⟨[(0,z n),(5,z i),(4,z (4*(2:Int)^i)),(3,z (4*(2:Int)^i-4))],[],[]⟩) (λ i=>n-i) 0 (by omega) (zX) ?_;intro i Z;obtain⟨q1,q2,q3⟩:=N6 (i:=i) (by omega);have b8:i<n->∀{Γ:bE}{I:St},bF Γ I ⟨[(0,z n),(5,z ((i:Int)+1)),(4,z (2*(4*(2:Int)^i))),(3,z (4*(2:Int)^i-4+4*(2:Int)^i))],[],[]⟩->∃j:Nat,j<=n/\n-j<n-i/\bF Γ I ⟨[(0,z n),(5,z j),(4,z (4*(2:Int)^j)),(3,z (4*(2:Int)^j-4))],[],[]⟩:=λ bh _ _ hg=>⟨i+1,by omega,by omega,by
  rw[q3,show(2*(4*(2:Int)^i)-4)=4*(2:Int)^i-4+4*(2:Int)^i by omega,show((i+1:Nat):Int)=(i:Int)+1 by omega];exact hg⟩
 have rR:i=n->qf n=(4:Int)*2^i-4:=λ h=>by rw[h];rfl
 clear q3;generalize(4:Int)*2^i=v at*;refine(show aJ _ _ _ _ ⟨[(0,z n),(5,z i),(4,z v),(3,z (v-4))],[],[]⟩ from ?_);refine go ?_;refine cz (λ u=>?_) (λ u=>?_)<;>try rw[u]
 ·have aN:=of_decide_eq_true u;refine go ?_;rw[show IntKind.i64.wrap (2*v)=2*v from d6 (by omega) (by omega)];refine go ?_;exact b8 (by omega) zX
 ·have aN:=of_decide_eq_false u;refine gf ?_;rw[rR (by omega)]
def M8:ab:=⟨0,0,0,0,0,0,0,0,0,0,0,0,0,0,0,0,0,0,0,0,0,0,0,0,0⟩
def zl(c:kO):ab×Int:=if sy c then(cO c,0) else(M8,1)
set_option maxHeartbeats 8000000 in
theorem IU(c:kO):aW prog 26 [tZ c] (.bc [cF (zl c).1,z (zl c).2]):=by
 generalize A:zl c=aK;unfold zl sy at A;have hm:=WJ c;cases R:wY c with
 |false=>
  rw[R] at hm A;refine sP func26 ntmps26 λ w cl=>?_
  refine gA hm ?_;refine dt ?_;rw[<-A];rfl
 |true=>
  rw[R] at hm A;have BD:0<=c.maps/\c.maps<=8/\0<=c.aL/\c.aL<=8:=by simp only[wY,Bool.and_eq_true,MQ] at R;omega
  have eP:=uV c.nodes (c.maps+c.aL) 1000;cases hn:l9 c.nodes (c.maps+c.aL) 1000 with
  |false=>
   rw[hn] at eP A;refine sP func26 ntmps26 λ w cl=>?_
   refine gA hm ?_;refine cA eP ?_;refine gf ?_;rw[<-A];rfl
  |true=>
   rw[hn] at eP A;have hC:vm c:=AN (by unfold sy;rw[R,hn];rfl);have A:(cO c,(0:Int))=aK:=A;subst A;obtain⟨b0,⟨a1,a2⟩,⟨a3,a4⟩,⟨a5,a6⟩,⟨a7,a8⟩,⟨a9,FV⟩,⟨FW,FX⟩,⟨FY,FZ⟩,⟨F0,F3⟩⟩:=hC;have h0:=uC b0;have hr:=WQ ⟨c.aA,c.nodes,c.buckets,c.bm,c.tasks,c.cells,c.maps,c.bo,c.aL,0,1,2,3,4,0,0,0,0,0,0,0,0,0,0,0⟩ a6;have UA:=WR (lJ c.tasks) (Yf c.tasks).2;have u:=Jj c.tasks;have D:c.aA*qf (lJ c.tasks)<=8*124:=Int.mul_le_mul (by omega) (by omega) (by omega) (by omega);have K:0<=c.aA*qf (lJ c.tasks):=Int.mul_nonneg (by omega) (by omega);have h4:c.maps*(c.buckets+2)<=8*66:=Int.mul_le_mul (by omega) (by omega) (by omega) (by omega);have h5:0<=c.maps*(c.buckets+2):=Int.mul_nonneg (by omega) (by omega);have h6:c.bo*(c.bm+1)<=8*9:=Int.mul_le_mul (by omega) (by omega) (by omega) (by omega);have h7:0<=c.bo*(c.bm+1):=Int.mul_nonneg (by omega) (by omega);show aW prog 26 [tZ c] (.bc [cF (cO c),z 0]);unfold cO;simp only at hr;generalize lJ c.tasks=rg at*;generalize qf rg=rm at*;refine sP func26 ntmps26 λ w cl=>?_
   refine gA hm ?_;refine cA eP ?_;refine gA hr ?_;simp(disch:=omega) only[d6];refine dW 7 [] ?_;refine gQ UA ?_;simp(disch:=omega) only[d6];refine go ?_;simp(disch:=omega) only[d6];refine gf ?_
   rfl
def zw:List Value->List F:=List.map λ v=>.p (.raw v)
theorem OH{e:ay}{v:Value}{xs:List Value}(h:bt e v (.agg (zw xs))):v=.agg xs.toArray:=by
 cases h with
 |agg M hh=>
  rename_i vs
  congr 2
  refine List.ext_getElem? λ i=>?_
  rcases u:vs[i]? with _|a
  ·rw[List.getElem?_eq_none (by rw[List.getElem?_eq_none_iff,M] at u;simpa[zw] using u)]
  ·have Z:i<xs.length:=by have:=(List.getElem?_eq_some_iff.1 u).1;rw[M] at this;simpa[zw] using this
   have D:=cE (hh i a (.p (.raw xs[i])) u (by simp[zw,Z]));rw[List.getElem?_eq_getElem Z,D]
section
variable{P:Program}{S:Nat->Option F}{B:Nat->Option (List F)}{o:Oper}
theorem RX{t aa:TypeId}{x y:Operand}{xs ys:List Value}{la lb:List Lit}(m aI:Nat)(X:o.op=.binOp .eql t x y aa)(J:P.keyTypeAt m t=true)(hm:m<=10000)(yI:P.eqGuardType P.depth t=false)(Ti:Value.formed P t (.agg xs.toArray)=true)(Tj:Value.formed P t (.agg ys.toArray)=true)(pV:P.keyLits aI t xs=some la)(pW:P.keyLits aI t ys=some lb){bb:Bool}(pP:bb=true↔la=lb)(T:ev S x=some (.agg (zw xs)))(hy:ev S y=some (.agg (zw ys))):dm P o S B (dB bb) none:=by
 refine hZ λ ac e ph=>?_
 have u:=OH (ph.1 x (by rw[X];simp[Op.operands]) _ T);have D:=OH (ph.1 y (by rw[X];simp[Op.operands]) _ hy);have Ll:=run_equalIn_deep (P:=P) (10000-m) m t J;rw[show 10000-m+m=10000 by omega] at Ll;obtain⟨r,hr,TD⟩:=Ll e.w aI aI (.agg xs.toArray) (.agg ys.toArray) la lb Ti Tj (by simpa[Value.cells] using pV) (by simpa[Value.cells] using pW);have D8:r=bb:=by rw[Bool.eq_iff_iff,TD,pP]
 subst D8;refine⟨.bool r,?_,.p (.raw _)⟩;obtain⟨dst,op,type,pos,after,guard⟩:=o;simp only at X;subst X;have R:(binOp .eql t (.agg xs.toArray) (.agg ys.toArray)).run P e.w=.ok (.bool r) e.w:=by
  simp only[binOp,Op.equal,Op.maxDepth,Sem.run_bind,hr]
  rfl
 simp[execOp,u,D,eqGuard,yI,R]
end
def eY(x:Int):Prop:=-9223372036854775808<=x/\x<=9223372036854775807
theorem Y9{x:Int}(h:eY x):(Lit.int .i64 x).wf=true:=by have u:IntKind.i64.min<=x:=h.1;have D:x<=IntKind.i64.max:=h.2;simp only[Lit.wf,Bool.and_eq_true,decide_eq_true_eq];exact⟨u,D⟩
abbrev iV(x:Int):Value:=.int .i64 x
abbrev iL(x:Int):Lit:=.int .i64 x
theorem jE{x:Int}(h:eY x)(d:Nat):prog.keyLits (d+1) 3 [iV x]=some [iL x]:=by have hu:prog.underlying 3=some (.int .i64):=underlying3;unfold Program.keyLits;rw[hu];simp[Y9 h]
structure tO(l:ab):Prop where
 a:eY l.aA/\eY l.nodes/\eY l.buckets/\eY l.bm/\eY l.tasks/\eY l.cells/\eY l.maps/\eY l.bo/\eY l.aL
 b:eY l.done/\eY l.count/\eY l.era/\eY l.free/\eY l.alive/\eY l.owner/\eY l.lI/\eY l.pL/\eY l.ring/\eY l.task/\eY l.cell/\eY l.map/\eY l.stack/\eY l.chan/\eY l.node/\eY l.size
def sa{aq:Type}(f:Int->aq)(l:ab):List aq:=[f l.aA,f l.nodes,f l.buckets,f l.bm,f l.tasks,f l.cells,f l.maps,f l.bo,f l.aL,f l.done,f l.count,f l.era,f l.free,f l.alive,f l.owner,f l.lI,f l.pL,f l.ring,f l.task,f l.cell,f l.map,f l.stack,f l.chan,f l.node,f l.size]
theorem Ru(l:ab)(h:tO l):prog.keyLits 3 23 [iV l.aA,iV l.nodes,iV l.buckets,iV l.bm,iV l.tasks,iV l.cells,iV l.maps,iV l.bo,iV l.aL]=some [iL l.aA,iL l.nodes,iL l.buckets,iL l.bm,iL l.tasks,iL l.cells,iL l.maps,iL l.bo,iL l.aL]:=by
 have c1:prog.cellsOf 3=1:=by decide+kernel
 have c2:prog.cellsOf 23=9:=by decide+kernel
 obtain⟨u,D,K,h4,h5,h6,h7,h8,h9⟩:=h.a;unfold Program.keyLits;rw[underlying23];simp[c1,c2,jE u,jE D,jE K,jE h4,jE h5,jE h6,jE h7,jE h8,jE h9]
theorem Nb(l:ab)(h:tO l):prog.keyLits 4 25 (sa iV l)=some (sa iL l):=by
 have c1:prog.cellsOf 3=1:=by decide+kernel
 have c2:prog.cellsOf 25=25:=by decide+kernel
 have c3:prog.cellsOf 23=9:=by decide+kernel
 obtain⟨u,D,K,h4,h5,h6,h7,h8,h9,k1,k2,k3,k4,k5,k6,k7⟩:=h.b;have L:=Ru l h;unfold Program.keyLits;rw[underlying25];simp[sa,c1,c2,c3,L,jE u,jE D,jE K,jE h4,jE h5,jE h6,jE h7,jE h8,jE h9,jE k1,jE k2,jE k3,jE k4,jE k5,jE k6,jE k7]
theorem Na(l:ab):Value.formed prog 25 (.agg (sa iV l).toArray)=true:=by
 have c2:prog.cellsOf 25=25:=by decide+kernel
 unfold Value.formed;rw[underlying25];show(25==prog.cellsOf 25)=true;rw[c2];rfl
theorem Vr:prog.keyTypeAt 4 25=true:=by decide+kernel
theorem Vq:prog.eqGuardType prog.depth 25=false:=by decide+kernel
theorem U4{a b:Int}:iL a=iL b↔a=b:=⟨λ h=>by injection h,λ h=>by rw[h]⟩
theorem Vp(l m:ab):decide (l=m)=true↔sa iL l=sa iL m:=by
 rw[decide_eq_true_eq];constructor
 ·intro h;rw[h]
 ·intro h;simp only[sa,List.cons.injEq,U4,and_true] at h;cases l;cases m;simp only[ab.mk.injEq];exact h
theorem Vn{c:kO}(h:vm c):tO (cO c):=by have u:=Ii h;obtain⟨R,⟨a1,a2⟩,⟨a3,a4⟩,⟨a5,a6⟩,⟨a7,a8⟩,⟨a9,FV⟩,⟨FW,FX⟩,⟨FY,FZ⟩,⟨F0,F3⟩⟩:=h;have h0:=uC R;have u:=Jj c.tasks;have D:c.aA*qf (lJ c.tasks)<=8*124:=Int.mul_le_mul (by omega) (by omega) (by omega) (by omega);have K:0<=c.aA*qf (lJ c.tasks):=Int.mul_nonneg (by omega) (by omega);have h4:c.maps*(c.buckets+2)<=8*66:=Int.mul_le_mul (by omega) (by omega) (by omega) (by omega);have h5:0<=c.maps*(c.buckets+2):=Int.mul_nonneg (by omega) (by omega);have h6:c.bo*(c.bm+1)<=8*9:=Int.mul_le_mul (by omega) (by omega) (by omega) (by omega);have h7:0<=c.bo*(c.bm+1):=Int.mul_nonneg (by omega) (by omega);refine⟨⟨?_,?_,?_,?_,?_,?_,?_,?_,?_⟩,⟨?_,?_,?_,?_,?_,?_,?_,?_,?_,?_,?_,?_,?_,?_,?_,?_⟩⟩<;>simp only[cO,eY]<;>omega
theorem WP(l:ab)(M:tO l):aW prog 9 [cF l] (dB (Aa l)):=by
 have ig:=IU (sA l);generalize A:Aa l=aK;unfold Aa at A;unfold zl at ig;cases R:sy (sA l) with
 |false=>
  rw[R] at ig A;have ig:aW prog 26 [tZ (sA l)] (.bc [cF M8,z 1]):=ig;refine sP func9 ntmps9 λ w cl=>?_
  refine gA ig ?_;refine dt ?_;rw[<-A];rfl
 |true=>
  rw[R] at ig A;have hC:=Vn (AN R);have ig:aW prog 26 [tZ (sA l)] (.bc [cF (cO (sA l)),z 0]):=ig;generalize cO (sA l)=m at*;refine sP func9 ntmps9 λ w cl=>?_
  refine gA ig ?_;refine bf (RX 4 4 rfl Vr (by omega) Vq (Na m) (Na l) (Nb m hC) (Nb l M) (Vp m l) rfl rfl) rfl rfl rfl ?_;refine gf ?_;rw[<-A];rfl
end Go.Proofs.YtcnefjfboagbmaaGreat
namespace Go.Proofs.YtcnefjfboagbmaaGreat.Sg
open Go.Proofs.Tryz
open Go.RowKit
set_option maxRecDepth 100000
theorem oP(xs:List Int)(i:Int):aW prog 88 [fg xs,z i] (z (aG xs i)):=by
 generalize A:aG xs i=aK;unfold aG at A;refine sP func88 ntmps88 λ w cl=>?_
 refine go ?_;generalize u:decide (i<0)=cc;cases cc
 ·have aN:=of_decide_eq_false u;refine go ?_;generalize D:decide ((xs.length:Int)<=i)=cc;cases cc
  ·have bd:=of_decide_eq_false D;rw[if_neg (by omega)] at A;have hg:=tW (xs:=xs) (i:=i) (by omega) (by omega);refine go ?_;refine ai [pI (fe xs i)] (gK hg) ?_;refine gf ?_;rw[<-A]
  ·rw[if_pos (.inr (of_decide_eq_true D))] at A;refine gf ?_;rw[<-A]
 ·rw[if_pos (.inl (of_decide_eq_true u))] at A;refine gf ?_;rw[<-A]
set_option maxHeartbeats 4000000 in
theorem uJ(l:ab)(hL:bQ l)(m:List Int)(s:Int)(hm:∀x∈m,x<9223372036854775808):aW prog 48 [cF l,fg m,z s] (aV (cW l m s)):=by
 generalize A:cW l m s=aK;unfold cW at A;have hN:=hL.nodes;obtain⟨iP,fk⟩:=hN;have mJ:∀i,aG m i<9223372036854775808:=by
  intro i;unfold aG fe;split
  ·omega
  ·rename_i h;have bh:i.toNat<m.length:=by omega
   have:m.getD i.toNat 0=m[i.toNat]:=by simp[bh]
   rw[this];exact hm _ (List.getElem_mem bh)
 refine sP func48 ntmps48 λ w cl=>?_
 refine go ?_;refine cA (DI l hL s) ?_;refine gG ?_;refine mg ?_;refine oQ ?_;refine oQ ?_;refine tT ?_;refine gG ?_;refine mg ?_;refine Gd rfl ?_;generalize u:decide (gV l s<0)=cc;cases cc
 ·rw[if_neg (of_decide_eq_false u)] at A;refine AP ?_;refine C5 ?_;refine mg ?_;refine oQ ?_;refine tT ?_;refine gG ?_;refine mg ?_;refine da (gO 8 0 3 1 rfl rfl rfl) ?_;refine Ge rfl rfl rfl rfl rfl rfl rfl rfl λ r=>?_
  refine p9 (nW λ aH bz bZ Z=>?_);refine gA (oP m (gV l s)) ?_;refine cA (jS (aG m (gV l s))) ?_;refine go ?_;refine mc ?_;refine p9 (zi ?_);generalize hn:(az (aG m (gV l s))).idx=n0 at A;have BF:n0<9223372036854775808:=by rw[<-hn];have:=(j8 (aG m (gV l s))).2;omega
  refine ID (λ p:Nat×List Int×Int=>p.1+p.2.1.length=l.nodes.toNat+1/\p.2.1.Nodup/\(∀x∈p.2.1,1<=x/\x<=l.nodes)/\p.2.2<9223372036854775808/\fL (λ n=>aG m (am l n 0)) l.nodes p.1 p.2.1 p.2.2=aK) (λ p=>⟨[(9,.p (.raw (.map (some r)))),(10,z p.2.2),(8,.aU 0 p.2.1.length (aZ p.2.1)),(3,.ptr 0 0),(4,.ptr 1 0)],[(1,[aV m]),(0,bs l)],[(0,⟨3,1,p.2.1.length⟩)]⟩) (λ p=>p.2.1) (λ p=>p.1) (l.nodes.toNat+1,[],n0) ⟨by simp,List.nodup_nil,by simp,BF,A⟩ rfl (λ aH bz bZ=>zX) ?_;rintro⟨k,acc,n⟩ ⟨J,hnd,dc,ic,A⟩;simp only at J hnd dc ic A;have cg:=zj l.nodes.toNat acc hnd (λ x T=>by have:=dc x T;omega);obtain⟨k,rfl⟩:∃j,k=j+1:=⟨k-1,by omega⟩;rw[fL] at A;refine(show oO _ _ _ _ _ acc ⟨[(9,.p (.raw (.map (some r)))),(10,z n),(8,.aU 0 acc.length (aZ acc)),(3,.ptr 0 0),(4,.ptr 1 0)],[(1,[aV m]),(0,bs l)],[(0,⟨3,1,acc.length⟩)]⟩ from ?_);refine p9 (nW λ aH bz bZ Z=>?_);refine gA (jD l hL n 0 (by omega) (by omega)) ?_;have pZ:=IK hL (n:=n) (i:=0) (by omega);generalize D:decide (am l n 0>=0)=cc;cases cc
  ·have bd:=of_decide_eq_false D;rw[if_neg (λ hh=>bd (pZ.2 ⟨hh.1,hh.2.1⟩))] at A;refine go ?_;refine p7 (p7 (zf (mc (nW λ aH bz bZ Z=>?_))));refine gf ?_;rw[<-A]
  ·have bd:=pZ.1 (of_decide_eq_true D);refine go ?_;refine F6 aw Z rfl underlying125 underlying3 rfl rfl rfl rfl rfl rfl rfl ?_;refine go ?_;generalize K:decide (n∈acc)=cc;cases cc
   ·have cK:=of_decide_eq_false K;rw[if_pos ⟨bd.1,bd.2,cK⟩] at A;refine go ?_;refine mc ?_;refine zi (p9 (IE ?_));refine zb aw rfl rfl rfl rfl ?_;refine zb aw rfl rfl rfl rfl ?_;refine Iy rfl rfl underlying125 underlying3 rfl rfl rfl rfl cK ?_;refine Ix (mc (nW λ aH bz bZ Z=>?_));refine go ?_;refine pA rfl ?_;rw[ku,show acc.length+1=(acc++[n]).length by simp];refine go ?_;refine dQ [] ?_;refine gQ (jD l hL n 0 (by omega) (by omega)) ?_;refine cQ (oP m (am l n 0)) ?_;refine qg ?_;refine Iz (mc ?_);exact⟨(k,acc++[n],aG m (am l n 0)),⟨by simp;omega,by
     rw[List.nodup_append];exact⟨hnd,by simp,λ a ha b R=>by simp at R;subst R;exact λ e=>cK (e▸ha)⟩,λ x T=>by
     simp only[List.mem_append,List.mem_singleton] at T;rcases T with T|rfl
     ·exact dc x T
     ·exact bd,mJ _,A⟩,by simp only;omega,rfl,λ aH bz bZ=>zX⟩
   ·rw[if_neg (λ hh=>hh.2.2 (of_decide_eq_true K))] at A;refine go ?_;refine p7 (p7 (zf (mc (nW λ aH bz bZ Z=>?_))));refine gf ?_;rw[<-A]
 ·rw[if_pos (of_decide_eq_true u)] at A;refine gf ?_;rw[<-A]
  rfl
theorem jc(l:ab)(m:List Int)(s:Int):(cW l m s).length<=l.nodes.toNat+1:=by
 unfold cW;split
 ·simp
 ·have:=AO (nx:=λ n=>aG m (am l n 0)) (N:=l.nodes) (l.nodes.toNat+1) [] (az (aG m (gV l s))).idx
  simpa using this
theorem Cf(l:ab)(m:List Int)(s:Int):∀x∈cW l m s,1<=x/\x<=l.nodes:=by
 unfold cW;split
 ·simp
 ·exact Dc _ _ _ (by simp)
def gt(aP:List Int):List Int:=(aP.filter λ v=>decide (1<v)).map λ v=>v-2
theorem Fa(aP:List Int)(v:Int):gt (aP++[v])=if 1<v then gt aP++[v-2] else gt aP:=by
 unfold gt;rw[List.filter_append]
 by_cases h:1<v
 ·rw[if_pos h];simp[h]
 ·rw[if_neg h];simp[h]
theorem E9(aP:List Int):(gt aP).length<=aP.length:=by unfold gt;rw[List.length_map];exact List.length_filter_le _ _
theorem W8(l:ab)(m:List Int)(n:Int):(fD l m n).length=5:=rfl
theorem GJ(l:ab)(m:List Int)(aP:List Int):(aP.flatMap (fD l m)).length=5*aP.length:=by
 induction aP with
 |nil=>rfl
 |cons x aP ih=>rw[List.flatMap_cons,List.length_append,ih,W8];simp only[List.length_cons];omega
theorem Oo(l:ab)(m:List Int)(n:Int)(k:Nat)(h:k<5):(fD l m n).take (k+1)=(fD l m n).take k++[aG m (am l n (1+(k:Int)))]:=by
 match k,h with
 |0,_=>rfl
 |1,_=>rfl
 |2,_=>rfl
 |3,_=>rfl
 |4,_=>rfl
theorem Gc{m:List Int}(hm:∀x∈m,x<9223372036854775808)(i:Int):aG m i<9223372036854775808:=by
 unfold aG fe;split
 ·omega
 ·rename_i h;have bh:i.toNat<m.length:=by omega
  have:m.getD i.toNat 0=m[i.toNat]:=by simp[bh]
  rw[this];exact hm _ (List.getElem_mem bh)
set_option maxHeartbeats 4000000 in
theorem CA(l:ab)(hL:bQ l)(m:List Int)(c:Int)(hm:∀x∈m,x<9223372036854775808):aW prog 39 [cF l,fg m,z c] (aV (hc l m c)):=by
 have wa:=Cf l m c;have wq:=jc l m c;have hC:=uJ l hL m c hm;have A:hc l m c=gt ((cW l m c).flatMap (fD l m)):=rfl;rw[A];obtain⟨iP,fk⟩:=hL.nodes;generalize cW l m c=ns at*;refine sP func39 ntmps39 λ w cl=>?_
 refine gA hC ?_;refine da (gO 7 0 3 1 rfl rfl rfl) ?_;refine bL (λ i:Nat=>i<=ns.length) (λ i=>⟨[(17,z i),(16,z ns.length),(15,aV ns),(7,.aU 0 (gt ((ns.take i).flatMap (fD l m))).length (aZ (gt ((ns.take i).flatMap (fD l m))))),(3,.ptr 0 0),(4,.ptr 1 0)],[(1,[aV m]),(0,bs l)],[(0,⟨3,1,(gt ((ns.take i).flatMap (fD l m))).length⟩)]⟩) (λ i=>ns.length-i) 0 (by omega) (zX) ?_;intro i Z;refine go ?_;refine cz (λ u=>?_) (λ u=>?_)<;>try rw[u]
 ·have aN:=of_decide_eq_true u;obtain⟨n,hn⟩:=j3 (l:=ns) (i:=i) (by omega) aN;have jt:=hn;simp only[Int.toNat_natCast] at jt;have fy:=wa n (List.mem_of_getElem? jt);have ht:(ns.take (i+1)).flatMap (fD l m)=(ns.take i).flatMap (fD l m)++fD l m n:=by
   rw[List.take_add_one,jt];simp
  have Br:=GJ l m (ns.take i);rw[List.length_take] at Br;generalize(ns.take i).flatMap (fD l m)=ar at*;refine go ?_;refine ai [pI n] (gK hn) ?_;refine go ?_;refine bL (λ k:Nat=>k<=5) (λ k=>⟨[(21,z k),(9,z n),(17,z i),(16,z ns.length),(15,aV ns),(7,.aU 0 (gt (ar++(fD l m n).take k)).length (aZ (gt (ar++(fD l m n).take k)))),(3,.ptr 0 0),(4,.ptr 1 0)],[(1,[aV m]),(0,bs l)],[(0,⟨3,1,(gt (ar++(fD l m n).take k)).length⟩)]⟩) (λ k=>5-k) 0 (by omega) (by rw[List.take_zero,List.append_nil];exact zX) ?_;intro k J;refine go ?_;refine cz (λ D=>?_) (λ D=>?_)<;>try rw[D]
  ·have bd:k<5:=by have:=of_decide_eq_true D;omega
   have hv:=Gc hm (am l n (1+(k:Int)));have pg:=E9 (ar++(fD l m n).take k);simp only[List.length_append,List.length_take] at pg;have eZ:=Fa (ar++(fD l m n).take k) (aG m (am l n (1+(k:Int))));rw[List.append_assoc,<-Oo l m n k bd] at eZ;generalize gt (ar++(fD l m n).take k)=aE at*;refine go ?_;refine dQ [] ?_;refine gQ (jD l hL n (1+(k:Int)) (by omega) (by omega)) ?_;refine cQ (oP m (am l n (1+(k:Int)))) ?_;refine ba ?_;generalize aG m (am l n (1+(k:Int)))=v at*;refine go ?_;generalize K:decide (v>1)=cc;cases cc
   ·have cK:=of_decide_eq_false K;rw[if_neg (by omega)] at eZ;refine go ?_;exact⟨k+1,by omega,by omega,by rw[eZ];exact zX⟩
   ·have cK:=of_decide_eq_true K;rw[if_pos (by omega)] at eZ;refine go ?_;refine pA rfl ?_;rw[ku,show aE.length+1=(aE++[v-2]).length by simp];refine go ?_;exact⟨k+1,by omega,by omega,by rw[eZ];exact zX⟩
  ·have bd:k=5:=by have:=of_decide_eq_false D;omega
   subst bd;rw[show(fD l m n).take 5=fD l m n from rfl,<-ht];refine go ?_;exact⟨i+1,by omega,by omega,zX⟩
 ·have aN:i=ns.length:=by have:=of_decide_eq_false u;omega
  rw[aN,List.take_length];refine gf ?_
  rfl
theorem OP(l:ab)(hL:bQ l)(c:Int):aW prog 79 [cF l,z c] (z (gV l c)):=by
 obtain⟨a1,a2⟩:=hL.chan;obtain⟨b1,b2⟩:=hL.aL;have A:gV l c=if(decide (0<=c)&&decide (c<=l.aL-1)) then IntKind.i64.wrap (l.chan+IntKind.i64.wrap (2*c)) else-1:=by
  unfold gV iq;split
  ·rw[if_neg];simp only[Bool.and_eq_true,decide_eq_true_eq];omega
  ·rw[if_pos (by simp only[Bool.and_eq_true,decide_eq_true_eq];omega)];rw[d6 (n:=2*c) (by omega) (by omega),d6 (by omega) (by omega)];omega
 rw[A]
 by_cases h0:0<=c/\c<=l.aL-1
 ·have L:(decide (0<=c)&&decide (c<=l.aL-1))=true:=by simp only[Bool.and_eq_true,decide_eq_true_eq];exact h0
  have e1:=d6 (n:=2*c) (by omega) (by omega);rw[L,e1];refine sP func79 ntmps79 λ w cl=>?_
  refine go ?_;refine gD [] ?_;rw[e1];refine ba ?_;refine cQ (n4 c 0 (l.aL-1)) ?_;rw[L];refine gQ (q9 _ true) ?_;refine gf ?_;rw[d6 (n:=l.chan+2*c) (by omega) (by omega)]
 ·have L:(decide (0<=c)&&decide (c<=l.aL-1))=false:=by rw[Bool.eq_false_iff];simp only[ne_eq,Bool.and_eq_true,decide_eq_true_eq];omega
  rw[L];refine sP func79 ntmps79 λ w cl=>?_
  refine go ?_;refine gD [] ?_;refine cQ (n4 c 0 (l.aL-1)) ?_;rw[L];refine gQ (q9 _ false) ?_;refine gf ?_
  rfl
theorem X6(l:ab)(hL:bQ l)(c:Int):aW prog 81 [cF l,z c] (z (mU l c)):=by
 obtain⟨a1,a2⟩:=hL.chan;obtain⟨b1,b2⟩:=hL.aL;have A:mU l c=if(decide (0<=c)&&decide (c<=l.aL-1)) then IntKind.i64.wrap (IntKind.i64.wrap (l.chan+IntKind.i64.wrap (2*c))+1) else-1:=by
  unfold mU iq;split
  ·rw[if_neg];simp only[Bool.and_eq_true,decide_eq_true_eq];omega
  ·rw[if_pos (by simp only[Bool.and_eq_true,decide_eq_true_eq];omega)];rw[d6 (n:=2*c) (by omega) (by omega),d6 (n:=l.chan+2*c) (by omega) (by omega),d6 (by omega) (by omega)];omega
 rw[A]
 by_cases h0:0<=c/\c<=l.aL-1
 ·have L:(decide (0<=c)&&decide (c<=l.aL-1))=true:=by simp only[Bool.and_eq_true,decide_eq_true_eq];exact h0
  have e1:=d6 (n:=2*c) (by omega) (by omega);rw[L,e1];refine sP func81 ntmps81 λ w cl=>?_
  refine go ?_;refine gD [] ?_;rw[e1];refine ba ?_;refine cQ (n4 c 0 (l.aL-1)) ?_;rw[L];refine gQ (q9 _ true) ?_;refine gf ?_;rw[d6 (n:=l.chan+2*c) (by omega) (by omega),d6 (by omega) (by omega)]
 ·have L:(decide (0<=c)&&decide (c<=l.aL-1))=false:=by rw[Bool.eq_false_iff];simp only[ne_eq,Bool.and_eq_true,decide_eq_true_eq];omega
  rw[L];refine sP func81 ntmps81 λ w cl=>?_
  refine go ?_;refine gD [] ?_;refine cQ (n4 c 0 (l.aL-1)) ?_;rw[L];refine gQ (q9 _ false) ?_;refine gf ?_
  rfl
set_option maxHeartbeats 4000000 in
theorem uW(l:ab)(hL:bQ l)(m:List Int)(s:Int):aW prog 55 [cF l,fg m,z s] (aV (cW l m s)):=by
 generalize A:cW l m s=aK;unfold cW at A;obtain⟨iP,fk⟩:=hL.nodes;refine sP func55 ntmps55 λ w cl=>?_
 refine gA (OP l hL s) ?_;generalize u:decide (gV l s<0)=cc;cases cc
 ·rw[if_neg (of_decide_eq_false u)] at A;refine gA (m4 m (gV l s)) ?_;refine cA (uX (aG m (gV l s))) ?_;refine go ?_;generalize(az (aG m (gV l s))).idx=n0 at A;refine da (gO 8 0 3 1 rfl rfl rfl) ?_;refine bL (λ p:Nat×List Int×Int=>p.1+p.2.1.length=l.nodes.toNat+1/\fL (λ n=>aG m (am l n 0)) l.nodes p.1 p.2.1 p.2.2=aK) (λ p=>⟨[(10,z p.2.2),(8,.aU 0 p.2.1.length (aZ p.2.1)),(3,.ptr 0 0),(4,.ptr 1 0)],[(1,[aV m]),(0,bs l)],[(0,⟨3,1,p.2.1.length⟩)]⟩) (λ p=>p.1) (l.nodes.toNat+1,[],n0) ⟨by simp,A⟩ (zX) ?_;rintro⟨k,acc,n⟩ ⟨J,A⟩;simp only at J A;refine(show aJ _ _ _ _ ⟨[(10,z n),(8,.aU 0 acc.length (aZ acc)),(3,.ptr 0 0),(4,.ptr 1 0)],[(1,[aV m]),(0,bs l)],[(0,⟨3,1,acc.length⟩)]⟩ from ?_);refine go ?_;refine cz (λ D=>?_) (λ D=>?_)<;>try rw[D]
  ·have bd:=of_decide_eq_true D;obtain⟨k,rfl⟩:∃j,k=j+1:=⟨k-1,by omega⟩;rw[fL] at A;refine gA (yU acc n (by omega)) ?_;generalize K:decide (n<1)=cc;cases cc
   ·have cK:=of_decide_eq_false K;refine go ?_;generalize h4:decide (n>l.nodes)=cc;cases cc
    ·have jM:=of_decide_eq_false h4;refine go ?_;generalize h5:decide (n∈acc)=cc;cases cc
     ·rw[if_pos ⟨by omega,by omega,of_decide_eq_false h5⟩] at A;refine go ?_;refine pA rfl ?_;rw[ku,show acc.length+1=(acc++[n]).length by simp];refine go ?_;refine dQ [] ?_;refine gQ (ll l hL n 0 (by omega)) ?_;refine cQ (m4 m (am l n 0)) ?_;refine qg ?_;exact⟨(k,acc++[n],aG m (am l n 0)),⟨by simp;omega,A⟩,by simp only;omega,zX⟩
     ·rw[if_neg (λ hh=>hh.2.2 (of_decide_eq_true h5))] at A;refine gf ?_;rw[<-A]
    ·have jM:=of_decide_eq_true h4;rw[if_neg (λ hh=>by omega)] at A;refine gf ?_;rw[<-A]
   ·have cK:=of_decide_eq_true K;rw[if_neg (λ hh=>by omega)] at A;refine gf ?_;rw[<-A]
  ·have bd:=of_decide_eq_false D;obtain rfl:k=0:=by omega
   rw[fL] at A;refine gf ?_;rw[<-A]
 ·rw[if_pos (of_decide_eq_true u)] at A;refine gf ?_;rw[<-A]
  rfl
set_option maxHeartbeats 4000000 in
theorem Ct(l:ab)(hL:bQ l)(m:List Int)(c:Int)(hm:∀x∈m,x<9223372036854775808):aW prog 42 [cF l,fg m,z c] (aV (hc l m c)):=by
 have wq:=jc l m c;have hC:=uW l hL m c;have A:hc l m c=gt ((cW l m c).flatMap (fD l m)):=rfl;rw[A];obtain⟨iP,fk⟩:=hL.nodes;generalize cW l m c=ns at*;refine sP func42 ntmps42 λ w cl=>?_
 refine gA hC ?_;refine da (gO 8 0 3 1 rfl rfl rfl) ?_;refine bL (λ i:Nat=>i<=ns.length) (λ i=>⟨[(9,z i),(7,aV ns),(8,.aU 0 (gt ((ns.take i).flatMap (fD l m))).length (aZ (gt ((ns.take i).flatMap (fD l m))))),(3,.ptr 0 0),(4,.ptr 1 0)],[(1,[aV m]),(0,bs l)],[(0,⟨3,1,(gt ((ns.take i).flatMap (fD l m))).length⟩)]⟩) (λ i=>ns.length-i) 0 (by omega) (zX) ?_;intro i Z;refine go ?_;refine cz (λ u=>?_) (λ u=>?_)<;>try rw[u]
 ·have aN:=of_decide_eq_true u;obtain⟨n,hn⟩:=j3 (l:=ns) (i:=i) (by omega) aN;have jt:=hn;simp only[Int.toNat_natCast] at jt;have ht:(ns.take (i+1)).flatMap (fD l m)=(ns.take i).flatMap (fD l m)++fD l m n:=by
   rw[List.take_add_one,jt];simp
  have Br:=GJ l m (ns.take i);rw[List.length_take] at Br;generalize(ns.take i).flatMap (fD l m)=ar at*;refine go ?_;refine bL (λ k:Nat=>k<=5) (λ k=>⟨[(10,z (1+(k:Int))),(9,z i),(7,aV ns),(8,.aU 0 (gt (ar++(fD l m n).take k)).length (aZ (gt (ar++(fD l m n).take k)))),(3,.ptr 0 0),(4,.ptr 1 0)],[(1,[aV m]),(0,bs l)],[(0,⟨3,1,(gt (ar++(fD l m n).take k)).length⟩)]⟩) (λ k=>5-k) 0 (by omega) (by rw[List.take_zero,List.append_nil];exact zX) ?_;intro k J;refine go ?_;refine cz (λ D=>?_) (λ D=>?_)<;>try rw[D]
  ·have bd:k<5:=by have:=of_decide_eq_true D;omega
   have hv:=Gc hm (am l n (1+(k:Int)));have pg:=E9 (ar++(fD l m n).take k);simp only[List.length_append,List.length_take] at pg;have eZ:=Fa (ar++(fD l m n).take k) (aG m (am l n (1+(k:Int))));rw[List.append_assoc,<-Oo l m n k bd] at eZ;generalize gt (ar++(fD l m n).take k)=aE at*;refine go ?_;refine gD [] ?_;refine ri [pI n] (gK hn) ?_;refine gQ (ll l hL n (1+(k:Int)) (by omega)) ?_;refine cQ (m4 m (am l n (1+(k:Int)))) ?_;refine ba ?_;generalize aG m (am l n (1+(k:Int)))=v at*;refine go ?_;generalize K:decide (v>1)=cc;cases cc
   ·have cK:=of_decide_eq_false K;rw[if_neg (by omega)] at eZ;refine go ?_;refine⟨k+1,by omega,by omega,?_⟩;rw[eZ,show(1:Int)+((k+1:Nat):Int)=1+(k:Int)+1 by omega];exact zX
   ·have cK:=of_decide_eq_true K;rw[if_pos (by omega)] at eZ;refine go ?_;refine pA rfl ?_;rw[ku,show aE.length+1=(aE++[v-2]).length by simp];refine go ?_;refine⟨k+1,by omega,by omega,?_⟩;rw[eZ,show(1:Int)+((k+1:Nat):Int)=1+(k:Int)+1 by omega];exact zX
  ·have bd:k=5:=by have:=of_decide_eq_false D;omega
   subst bd;rw[show(fD l m n).take 5=fD l m n from rfl,<-ht];refine go ?_;exact⟨i+1,by omega,by omega,zX⟩
 ·have aN:i=ns.length:=by have:=of_decide_eq_false u;omega
  rw[aN,List.take_length];refine gf ?_
  rfl
theorem aS.ext'{a b:aS}:a=b↔(a.kind=b.kind/\a.cell=b.cell/\a.eh=b.eh/\a.new=b.new):=by cases a;cases b;simp
theorem Yk(a b:aS)(w:World):(binOp .neq 82 (.agg #[.int .i64 a.kind,.int .i64 a.cell,.int .i64 a.eh,.int .i64 a.new]) (.agg #[.int .i64 b.kind,.int .i64 b.cell,.int .i64 b.eh,.int .i64 b.new])).run prog w=.ok (.bool (!decide (a=b))) w:=by
 have e:(!decide (a=b))=!decide (a.kind=b.kind/\a.cell=b.cell/\a.eh=b.eh/\a.new=b.new):=by congr 1;exact decide_eq_decide.2 aS.ext'
 rw[e]
 by_cases u:a.kind=b.kind
 case neg=>simp[go_sem,u]
 by_cases D:a.cell=b.cell
 case neg=>simp[go_sem,u,D]
 by_cases K:a.eh=b.eh
 case neg=>simp[go_sem,u,D,K]
 by_cases h4:a.new=b.new<;>simp[go_sem,u,D,K,h4]
theorem OE{e:ay}{v:Value}{a b c d:Int}(h:bt e v (.agg [z a,z b,z c,z d])):v=.agg #[.int .i64 a,.int .i64 b,.int .i64 c,.int .i64 d]:=by
 cases h with
 |agg M hh=>
  rename_i vs
  match vs,M with
  |[x,y,aT,aa],_=>have u:=cE (hh 0 x _ rfl rfl);have D:=cE (hh 1 y _ rfl rfl);have K:=cE (hh 2 aT _ rfl rfl);have h4:=cE (hh 3 aa _ rfl rfl);rw[u,D,K,h4]
theorem V8{S:Nat->Option F}{B:Nat->Option (List F)}{o:Oper}{x y:Operand}{aa:TypeId}{a b:aS}(X:o.op=.binOp .neq 82 x y aa)(T:ev S x=some (eW a))(hy:ev S y=some (eW b)):dm prog o S B (dB (!decide (a=b))) none:=by
 refine hZ λ ac e ph=>?_
 have u:=OE (ph.1 x (by rw[X];simp[Op.operands]) _ T);have D:=OE (ph.1 y (by rw[X];simp[Op.operands]) _ hy);refine⟨.bool (!decide (a=b)),?_,.p (.raw _)⟩;obtain⟨dst,op,type,pos,after,guard⟩:=o;simp only at X;subst X;have R:=Yk a b e.w;simp[execOp,u,D,eqGuard,eqGuardType82,R]
theorem QB(a b:List aS)(ha:a.length<=1000000000):aW prog 10 [jl a,jl b] (dB (decide (a=b))):=by
 refine sP func10 ntmps10 λ w cl=>?_
 refine go ?_;generalize h0:decide ((a.length:Int)=(b.length:Int))=cc;cases cc
 ·have Lh:=of_decide_eq_false h0;refine gf ?_;rw[decide_eq_false (λ e=>Lh (by rw[e]))]
 ·have Lh:=of_decide_eq_true h0;refine go ?_;refine bL (λ i:Nat=>i<=a.length/\a.take i=b.take i) (λ i=>⟨[(5,z i),(0,jl a),(1,jl b)],[],[]⟩) (λ i=>a.length-i) 0 ⟨by omega,by simp⟩ (zX) ?_;rintro i ⟨Z,he⟩;refine go ?_;refine cz (λ u=>?_) (λ u=>?_)<;>try rw[u]
  ·have aN:i<a.length:=by have:=of_decide_eq_true u;omega
   obtain⟨x,T⟩:=j3 (l:=a) (i:=i) (by omega) (by omega);obtain⟨y,hy⟩:=j3 (l:=b) (i:=i) (by omega) (by omega);have fJ:=T;have wP:=hy;simp only[Int.toNat_natCast] at fJ wP;refine go ?_;refine gD [] ?_;refine ri [pI x.kind,pI x.cell,pI x.eh,pI x.new] (CZ T) ?_;refine ba ?_;refine ri [pI y.kind,pI y.cell,pI y.eh,pI y.new] (CZ hy) ?_;refine ba ?_;refine cD (V8 (a:=x) (b:=y) rfl rfl rfl) rfl rfl ?_;refine ba ?_;generalize D:decide (x=y)=cc;cases cc
   ·have bd:=of_decide_eq_false D;refine gf ?_;rw[decide_eq_false (λ e=>bd (by rw[e] at fJ;rw[fJ] at wP;exact Option.some.inj wP))]
   ·have bd:=of_decide_eq_true D;refine go ?_;exact⟨i+1,⟨by omega,by rw[List.take_add_one,List.take_add_one,he,fJ,wP,bd]⟩,by omega,zX⟩
  ·have aN:i=a.length:=by have:=of_decide_eq_false u;omega
   rw[aN,List.take_length,List.take_of_length_le (by omega)] at he;refine gf ?_;rw[decide_eq_true he]
def tK(l:ab)(node:Int):List aS:=(List.range 6).map λ(i:Nat)=>(⟨2,am l node i,0,0⟩:aS)
theorem O6(l:ab)(node:Int)(i:Nat)(h:i<6):(tK l node).take (i+1)=(tK l node).take i++[⟨2,am l node i,0,0⟩]:=by
 rw[List.take_add_one]
 congr 1
 simp[tK,h]
set_option maxHeartbeats 4000000 in
theorem Yq(l:ab)(hL:bQ l)(c node:Int)(hn:node<9223372036854775808):aW prog 32 [cF l,z c,z node] (jl (kv l c node)):=by
 generalize A:kv l c node=aK;unfold kv at A;refine sP func32 ntmps32 λ w cl=>?_
 refine go ?_;refine cA (DI l hL c) ?_;refine gG ?_;generalize u:decide (gV l c<0)=cc;cases cc
 ·have aN:=of_decide_eq_false u;refine gA (jD l hL node 0 hn (by omega)) ?_;generalize D:decide (am l node 0<0)=cc;cases cc
  ·have bd:=of_decide_eq_false D;rw[if_neg (by omega)] at A;refine go ?_;refine da (gO 7 0 82 4 rfl rfl rfl) ?_;refine bL (λ i:Nat=>i<=6) (λ i=>⟨[(20,z i),(7,.aU 0 i (cH ((tK l node).take i))),(1,z c),(2,z node),(3,.ptr 0 0)],[(0,bs l)],[(0,⟨82,4,i⟩)]⟩) (λ i=>6-i) 0 (by omega) (zX) ?_;intro i Z;refine go ?_;refine cz (λ K=>?_) (λ K=>?_)<;>try rw[K]
   ·have cK:i<6:=by have:=of_decide_eq_true K;omega
    refine gA (jD l hL node i hn (by omega)) ?_;refine pA rfl ?_;rw[show cH ((tK l node).take i)++[pI 2,pI (am l node i),pI 0,pI 0]=cH ((tK l node).take (i+1)) by rw[O6 l node i cK,<-se]];refine go ?_;exact⟨i+1,by omega,by omega,zX⟩
   ·have cK:i=6:=by have:=of_decide_eq_false K;omega
    subst cK;refine gA (li ⟨node,false,0⟩) ?_;refine dQ [] ?_;refine gQ (DI l hL c) ?_;refine cQ (PH l hL c) ?_;refine ba ?_;refine nv (m:=2) aw rfl rfl rfl rfl rfl rfl rfl rfl rfl rfl rfl rfl rfl (by unfold maxLen;omega) (by show(_+_)*32<=_;omega) ?_;refine ba ?_;refine gf ?_;rw[<-A]
    rfl
  ·have bd:=of_decide_eq_true D;rw[if_pos (.inr bd)] at A;refine gf ?_;rw[<-A]
   rfl
 ·have aN:=of_decide_eq_true u;rw[if_pos (.inl aN)] at A;refine gf ?_;rw[<-A]
  rfl
theorem Jo(l:ab)(c node:Int):(kv l c node).length<=8:=by
 unfold kv;split
 ·simp
 ·simp
theorem Jb(node:Int):aW prog 80 [vN ⟨node,false,0⟩] (z (dJ ⟨node,false,0⟩)):=by
 have A:dJ ⟨node,false,0⟩=node%65536:=by simp[dJ]
 have h0:=Int.emod_nonneg node (show(65536:Int)≠0 by omega);have u:=Int.emod_lt_of_pos node (show(0:Int)<65536 by omega);rw[A];refine sP func80 ntmps80 λ w cl=>?_
 refine go ?_;refine dQ [] ?_;refine gQ (xr node 65536 (by omega) (by omega)) ?_;refine cQ (xr 0 268435456 (by omega) (by omega)) ?_;refine ba ?_;rw[show IntKind.i64.wrap (131072*(0%268435456))=0 from rfl];refine ba ?_;refine gf ?_;simp only[Int.add_zero];rw[d6 (by omega) (by omega)]
set_option maxHeartbeats 4000000 in
theorem XT(l:ab)(hL:bQ l)(c node:Int):aW prog 35 [cF l,z c,z node] (jl (kv l c node)):=by
 generalize A:kv l c node=aK;unfold kv at A;refine sP func35 ntmps35 λ w cl=>?_
 refine gA (OP l hL c) ?_;generalize u:decide (gV l c<0)=cc;cases cc
 ·have aN:=of_decide_eq_false u;refine gA (ll l hL node 0 (by omega)) ?_;generalize D:decide (am l node 0<0)=cc;cases cc
  ·have bd:=of_decide_eq_false D;rw[if_neg (by omega)] at A;refine go ?_;refine da (gO 8 0 82 4 rfl rfl rfl) ?_;refine bL (λ i:Nat=>i<=6) (λ i=>⟨[(9,z i),(8,.aU 0 i (cH ((tK l node).take i))),(7,z (gV l c)),(1,z c),(2,z node),(3,.ptr 0 0)],[(0,bs l)],[(0,⟨82,4,i⟩)]⟩) (λ i=>6-i) 0 (by omega) (zX) ?_;intro i Z;refine go ?_;refine cz (λ K=>?_) (λ K=>?_)<;>try rw[K]
   ·have cK:i<6:=by have:=of_decide_eq_true K;omega
    refine gA (ll l hL node i (by omega)) ?_;refine pA rfl ?_;rw[show cH ((tK l node).take i)++[pI 2,pI (am l node i),pI 0,pI 0]=cH ((tK l node).take (i+1)) by rw[O6 l node i cK,<-se]];refine go ?_;exact⟨i+1,by omega,by omega,zX⟩
   ·have cK:i=6:=by have:=of_decide_eq_false K;omega
    subst cK;refine gA (Jb node) ?_;refine pA rfl ?_;refine gA (X6 l hL c) ?_;refine pA rfl ?_;refine gf ?_;rw[<-A]
    rfl
  ·have bd:=of_decide_eq_true D;rw[if_pos (.inr bd)] at A;refine gf ?_;rw[<-A]
   rfl
 ·have aN:=of_decide_eq_true u;rw[if_pos (.inl aN)] at A;refine gf ?_;rw[<-A]
  rfl
end Go.Proofs.YtcnefjfboagbmaaGreat.Sg
namespace Go.Proofs.YtcnefjfboagbmaaGreat
open Go.Proofs.Tryz
open Go.RowKit
set_option maxRecDepth 100000
abbrev AE(n c:Nat)(cs:List F):bH:=[(71,[.arr 72 0 n c]),(72,cs)]
theorem QC(l:List aS):∀x∈cH l,x.lf=true:=by intro x T;unfold cH at T;rw[List.mem_flatMap] at T;obtain⟨c,_,L⟩:=T;simp only[Ck,List.mem_cons,List.not_mem_nil,or_false] at L;rcases L with rfl|rfl|rfl|rfl<;>rfl
structure Fz(l:List aS)(c:Nat)(cs:List F):Prop where
 pl:eN cs
 len:cs.length=c*4
 le:l.length<=c
 c:c<=maxLen
 at_:cs.take (l.length*4)=(cH l).map F.p
theorem Vb(ce v:Int):d8 prog 72 [71] [z ce,z v,.ptr 71 0] [(71,[.p (.sl true 0 [])])] (λ d O=>d=.bc []/\∃c cs,Fz [⟨2,ce,0,v⟩] c cs/\O=AE 1 c cs):=by
 refine sI func72 ntmps72 λ w cl own kf=>?_
 refine go ?_;refine F4 (sz:=4) aw 72 rfl rfl rfl rfl rfl rfl rfl rfl rfl rfl rfl rfl rfl rfl (by omega) rfl (by unfold maxLen;omega) (by show 1*32<=_;omega) (λ aO bU k1 k2 k3 k4 k5=>?_);refine go ?_;refine jn (d:=.bc []) (AE 1 bU aO) ?_ rfl (by exact⟨⟨rfl,rfl⟩,⟨rfl,k5 _ _⟩,trivial⟩) (by(repeat(first|exact trivial|refine⟨rfl,?_⟩))) ⟨rfl,bU,aO,⟨k5,k1,k3,k2,k4⟩,rfl⟩
 rfl
theorem yW(acc:List aS)(n c:Nat)(cs:List F)(hn:acc.length=n)(h:Fz acc c cs)(M:n<=1000)(ce v:Int):d8 prog 72 [71] [z ce,z v,.ptr 71 0] (AE n c cs) (λ d O=>d=.bc []/\∃c cs,Fz (acc++[⟨2,ce,0,v⟩]) c cs/\O=AE (n+1) c cs):=by
 subst hn;refine sI func72 ntmps72 λ w cl own kf=>?_
 refine go ?_;refine F5 (sz:=4) aw (cH acc) rfl rfl rfl rfl rfl rfl rfl rfl rfl rfl rfl rfl rfl rfl (Dh rfl (vL rfl rfl (Df rfl rfl))) h.len h.le (uO acc) h.at_ h.c (by omega) rfl (by unfold maxLen;omega) (by show(_+1)*32<=_;omega) (λ aO bU k1 k2 k3 k4 k5=>?_);refine go ?_;refine jn (d:=.bc []) (AE (acc.length+1) bU aO) ?_ rfl (by exact⟨⟨rfl,rfl⟩,⟨rfl,k5 _ _⟩,trivial⟩) (by(repeat(first|exact trivial|refine⟨rfl,?_⟩))) ⟨rfl,bU,aO,⟨k5,k1,by rw[List.length_append];exact k3,k2,by rw[List.length_append,<-se];exact k4⟩,rfl⟩
 rfl
set_option maxHeartbeats 8000000 in
theorem YJ(l:ab)(hL:bQ l)(hM:iY l)(m n:Int)(hn:n<9223372036854775808):aW prog 31 [cF l,z m,z n] (jl (fE l m n)):=by
 refine sP func31 ntmps31 λ w cl=>?_
 refine gm ?_;refine bA 0 ?_;refine z2 ?_;refine jK ?_;refine gm ?_;refine nA 71 ?_;refine jK ?_;refine gA (jD l hL n 0 hn (by omega)) ?_;refine vI (Vb (am l n 0) 0) ?_;rintro d O ⟨rfl,c0,lS,h0,rfl⟩;refine gA (jD l hL n 1 hn (by omega)) ?_;refine vC (yW [⟨2,am l n 0,0,0⟩] 1 c0 lS rfl h0 (by omega) (am l n 1) (0)) rfl (λ a w=>call72 a w) rfl rfl rfl (by exact⟨⟨rfl,rfl⟩,⟨rfl,h0.pl _ _⟩,trivial⟩) (by(repeat(first|exact trivial|refine⟨.inr rfl,?_⟩|refine⟨.inl rfl,?_⟩))) rfl rfl rfl rfl ?_ ?_
 ·rintro d O ⟨rfl,c,cs,_,rfl⟩;exact⟨.inl rfl,.inl rfl,trivial⟩
 rintro d O ⟨rfl,c1,kz,u,rfl⟩;refine gA (jD l hL n 2 hn (by omega)) ?_;refine vC (yW [⟨2,am l n 0,0,0⟩,⟨2,am l n 1,0,0⟩] 2 c1 kz rfl u (by omega) (am l n 2) (0)) rfl (λ a w=>call72 a w) rfl rfl rfl (by exact⟨⟨rfl,rfl⟩,⟨rfl,u.pl _ _⟩,trivial⟩) (by(repeat(first|exact trivial|refine⟨.inr rfl,?_⟩|refine⟨.inl rfl,?_⟩))) rfl rfl rfl rfl ?_ ?_
 ·rintro d O ⟨rfl,c,cs,_,rfl⟩;exact⟨.inl rfl,.inl rfl,trivial⟩
 rintro d O ⟨rfl,c2,yg,D,rfl⟩;refine gA (jD l hL n 6 hn (by omega)) ?_;refine vC (yW [⟨2,am l n 0,0,0⟩,⟨2,am l n 1,0,0⟩,⟨2,am l n 2,0,0⟩] 3 c2 yg rfl D (by omega) (am l n 6) (1)) rfl (λ a w=>call72 a w) rfl rfl rfl (by exact⟨⟨rfl,rfl⟩,⟨rfl,D.pl _ _⟩,trivial⟩) (by(repeat(first|exact trivial|refine⟨.inr rfl,?_⟩|refine⟨.inl rfl,?_⟩))) rfl rfl rfl rfl ?_ ?_
 ·rintro d O ⟨rfl,c,cs,_,rfl⟩;exact⟨.inl rfl,.inl rfl,trivial⟩
 rintro d O ⟨rfl,c3,Ry,K,rfl⟩;refine gA (ze l hL hM m 0 (by omega)) ?_;refine vC (yW [⟨2,am l n 0,0,0⟩,⟨2,am l n 1,0,0⟩,⟨2,am l n 2,0,0⟩,⟨2,am l n 6,0,1⟩] 4 c3 Ry rfl K (by omega) (hb l m 0) (1)) rfl (λ a w=>call72 a w) rfl rfl rfl (by exact⟨⟨rfl,rfl⟩,⟨rfl,K.pl _ _⟩,trivial⟩) (by(repeat(first|exact trivial|refine⟨.inr rfl,?_⟩|refine⟨.inl rfl,?_⟩))) rfl rfl rfl rfl ?_ ?_
 ·rintro d O ⟨rfl,c,cs,_,rfl⟩;exact⟨.inl rfl,.inl rfl,trivial⟩
 rintro d O ⟨rfl,c4,Rz,h4,rfl⟩;refine gA (ze l hL hM m 1 (by omega)) ?_;refine vC (yW [⟨2,am l n 0,0,0⟩,⟨2,am l n 1,0,0⟩,⟨2,am l n 2,0,0⟩,⟨2,am l n 6,0,1⟩,⟨2,hb l m 0,0,1⟩] 5 c4 Rz rfl h4 (by omega) (hb l m 1) (0)) rfl (λ a w=>call72 a w) rfl rfl rfl (by exact⟨⟨rfl,rfl⟩,⟨rfl,h4.pl _ _⟩,trivial⟩) (by(repeat(first|exact trivial|refine⟨.inr rfl,?_⟩|refine⟨.inl rfl,?_⟩))) rfl rfl rfl rfl ?_ ?_
 ·rintro d O ⟨rfl,c,cs,_,rfl⟩;exact⟨.inl rfl,.inl rfl,trivial⟩
 rintro d O ⟨rfl,c5,RA,h5,rfl⟩;refine gA (AK l hL hM m 0) ?_;refine cA (li ⟨n,false,0⟩) ?_;refine go ?_;refine vC (yW [⟨2,am l n 0,0,0⟩,⟨2,am l n 1,0,0⟩,⟨2,am l n 2,0,0⟩,⟨2,am l n 6,0,1⟩,⟨2,hb l m 0,0,1⟩,⟨2,hb l m 1,0,0⟩] 6 c5 RA rfl h5 (by omega) (fA l m 0) (dJ ⟨n,false,0⟩)) rfl (λ a w=>call72 a w) rfl rfl rfl (by exact⟨⟨rfl,rfl⟩,⟨rfl,h5.pl _ _⟩,trivial⟩) (by(repeat(first|exact trivial|refine⟨.inr rfl,?_⟩|refine⟨.inl rfl,?_⟩))) rfl rfl rfl rfl ?_ ?_
 ·rintro d O ⟨rfl,c,cs,_,rfl⟩;exact⟨.inl rfl,.inl rfl,trivial⟩
 rintro d O ⟨rfl,c6,Zy,h6,rfl⟩;refine oh (La (vl:=[(7,.ptr 71 0)]) (n8:=[]) (pD:=[]) 71 0 72 (cH (fE l m n)) rfl rfl rfl rfl rfl (by exact⟨⟨rfl,rfl⟩,trivial⟩) (by exact⟨⟨rfl,rfl⟩,trivial⟩) trivial (by(repeat(first|exact trivial|refine⟨rfl,?_⟩))) rfl h6.len h6.le (uO _) h6.at_ h6.c (QC _)) ?_;refine gf ?_
 rfl
theorem zp(l m:List aS):cH l++cH m=cH (l++m):=by simp[cH]
theorem Kj(l:ab)(hL:bQ l)(a:Nat):(lp l a).length<=1000001+1:=by
 have h:=hL.nodes.2;unfold lp;split
 ·simp
 ·unfold r8;rw[List.length_append,wQ];simp;omega
set_option maxHeartbeats 4000000 in
theorem QT(l:ab)(hL:bQ l)(a:Nat)(u:1<=a)(D:a<=60000):aW prog 33 [cF l,z a] (jl (lp l a)):=by
 obtain⟨iP,fk⟩:=hL.nodes;generalize hA:lp l a=ar;unfold lp at hA;have G7:∀i:Nat,i<l.nodes.toNat+1-a->(a:Int)+i<=l.nodes:=λ i Z=>by omega
 have G6:∀i:Nat,¬(i<l.nodes.toNat+1-a)->l.nodes<(a:Int)+i:=λ i Z=>by omega
 generalize hN:l.nodes.toNat+1-a=N at*;refine sP func33 ntmps33 λ w cl=>?_
 refine go ?_;refine bf (ED rfl rfl rfl) rfl rfl rfl ?_;rw[if_neg (show¬((1:Int)>(a:Int)) by omega)];refine go ?_;refine da (gO 6 0 82 4 rfl rfl rfl) ?_;refine bL (λ i:Nat=>i<=N) (λ i=>⟨[(7,z ((a:Int)+i)),(6,.aU 0 i (cH ((jQ l a N).take i))),(5,z (if i=0 then 0 else a)),(1,z a),(2,.ptr 0 0)],[(0,bs l)],[(0,⟨82,4,i⟩)]⟩) (λ i=>N-i) 0 (by omega) (by rw[show(a:Int)+((0:Nat):Int)=a by omega];exact zX) ?_;intro i Z;refine(show aJ _ _ _ _ ⟨[(7,z ((a:Int)+i)),(6,.aU 0 i (cH ((jQ l a N).take i))),(5,z (if i=0 then 0 else a)),(1,z a),(2,.ptr 0 0)],[(0,bs l)],[(0,⟨82,4,i⟩)]⟩ from ?_);refine go ?_
 by_cases Bu:i<N
 ·have gY:=G7 i Bu;rw[show decide ((a:Int)+i<=l.nodes)=true by rw[decide_eq_true_eq];exact gY];have key:∀nx:Int,nx=(if(a:Int)+i=l.nodes then 0 else(a:Int)+i+1)->cH ((jQ l a N).take i)++[pI 2,pI (am l ((a:Int)+i) 7),pI 0,pI nx]=cH ((jQ l a N).take (i+1)):=by
   intro nx nO;rw[MS l a N i (by omega),<-se,nO]
  refine go ?_;generalize K:decide ((a:Int)+i=l.nodes)=cc;cases cc
  ·have cK:=of_decide_eq_false K;refine gA (jD l hL ((a:Int)+i) 7 (by omega) (by omega)) ?_;refine pA rfl ?_;rw[key _ (by rw[if_neg (by omega)])];refine go ?_;rw[show(a:Int)+i+1=(a:Int)+((i+1:Nat):Int) by omega];exact⟨i+1,by omega,by omega,zX⟩
  ·have cK:=of_decide_eq_true K;refine gA (jD l hL ((a:Int)+i) 7 (by omega) (by omega)) ?_;refine pA rfl ?_;rw[key _ (by rw[if_pos (by omega)])];refine go ?_;rw[show(a:Int)+i+1=(a:Int)+((i+1:Nat):Int) by omega];exact⟨i+1,by omega,by omega,zX⟩
 ·have yI:=G6 i Bu;rw[show decide ((a:Int)+i<=l.nodes)=false by rw[decide_eq_false_iff_not];omega];have A:(jQ l a N).take i++[⟨2,l.free,0,dJ ⟨if i=0 then 0 else a,false,0⟩⟩]=ar:=by
   rw[List.take_of_length_le (by rw[wQ];omega)];rw[<-hA]
   by_cases h0:i=0
   ·rw[if_pos h0,if_pos (by omega),show N=0 by omega];rfl
   ·rw[if_neg h0,if_neg (by omega)];unfold r8;rw[hN]
    congr 3
    unfold dJ;simp;omega
  have cg:ar.length=i+1:=by rw[<-A];simp[wQ];omega
  refine go ?_;refine dQ [] ?_;refine gQ (li ⟨if i=0 then 0 else a,false,0⟩) ?_;refine nv (m:=1) aw rfl rfl rfl rfl rfl rfl rfl rfl rfl rfl rfl rfl rfl (by unfold maxLen;omega) (by show(_+_)*32<=_;omega) ?_;refine ba ?_;refine gf ?_;rw[show jl ar=.p (.sl false ar.length (cH ar)) from rfl,cg,<-A,<-se]
set_option maxHeartbeats 4000000 in
theorem XW(l:ab)(hL:bQ l)(a:Nat)(u:1<=a)(D:a<=60000):aW prog 36 [cF l,z a] (jl (lp l a)):=by
 obtain⟨iP,fk⟩:=hL.nodes;generalize hA:lp l a=ar;unfold lp at hA;have G7:∀i:Nat,i+1<l.nodes.toNat+1-a->(a:Int)+i<l.nodes:=λ i Z=>by omega
 have G6:∀i:Nat,¬(i+1<l.nodes.toNat+1-a)->l.nodes<=(a:Int)+i:=λ i Z=>by omega
 have SF:¬(l.nodes<a)->1<=l.nodes.toNat+1-a/\(a:Int)+(l.nodes.toNat+1-a:Nat)=l.nodes+1:=λ h=>by omega
 generalize hN:l.nodes.toNat+1-a=N at*;refine sP func36 ntmps36 λ w cl=>?_
 refine go ?_;rw[show decide ((a:Int)<1)=false by rw[decide_eq_false_iff_not];omega];refine go ?_;refine da (gO 6 0 82 4 rfl rfl rfl) ?_;refine bL (λ i:Nat=>i=0\/i+1<=N) (λ i=>⟨[(7,z ((a:Int)+i)),(6,.aU 0 i (cH ((jQ l a N).take i))),(5,z l.nodes),(1,z a),(2,.ptr 0 0)],[(0,bs l)],[(0,⟨82,4,i⟩)]⟩) (λ i=>N-i) 0 (.inl rfl) (by rw[show(a:Int)+((0:Nat):Int)=a by omega];exact zX) ?_;intro i Z;refine(show aJ _ _ _ _ ⟨[(7,z ((a:Int)+i)),(6,.aU 0 i (cH ((jQ l a N).take i))),(5,z l.nodes),(1,z a),(2,.ptr 0 0)],[(0,bs l)],[(0,⟨82,4,i⟩)]⟩ from ?_);have key:i<N->∀nx:Int,nx=(if(a:Int)+i=l.nodes then 0 else(a:Int)+i+1)->cH ((jQ l a N).take i)++[pI 2,pI (am l ((a:Int)+i) 7),pI 0,pI nx]=cH ((jQ l a N).take (i+1)):=by intro bh nx nO;rw[MS l a N i bh,<-se,nO]
 refine go ?_
 by_cases Bu:i+1<N
 ·have gY:=G7 i Bu;rw[show decide ((a:Int)+i<l.nodes)=true by rw[decide_eq_true_eq];exact gY];refine gA (ll l hL ((a:Int)+i) 7 (by omega)) ?_;refine pA rfl ?_;rw[key (by omega) _ (by rw[if_neg (by omega)])];refine go ?_;rw[show(a:Int)+i+1=(a:Int)+((i+1:Nat):Int) by omega];exact⟨i+1,by omega,by omega,zX⟩
 ·have yI:=G6 i Bu;rw[show decide ((a:Int)+i<l.nodes)=false by rw[decide_eq_false_iff_not];omega];refine go ?_
  by_cases h0:l.nodes<a
  ·rw[show decide ((a:Int)>l.nodes)=true by rw[decide_eq_true_eq];omega];rw[if_pos h0] at hA;refine gf ?_;rw[<-hA]
   rfl
  ·rw[show decide ((a:Int)>l.nodes)=false by rw[decide_eq_false_iff_not];omega];rw[if_neg h0] at hA;obtain⟨aab,aad⟩:=SF h0;have ZX:i+1=N:=by omega
   refine gA (ll l hL l.nodes 7 (by omega)) ?_;have Vi:cH ((jQ l a N).take i)++[pI 2,pI (am l l.nodes 7),pI 0,pI 0]=cH (jQ l a N):=by have:=key (by omega) 0 (by rw[if_pos (by omega)]);rw[show(a:Int)+i=l.nodes by omega,show(jQ l a N).take (i+1)=jQ l a N from List.take_of_length_le (by rw[wQ];omega)] at this;exact this
   have A:jQ l a N++[⟨2,l.free,0,a⟩]=ar:=by rw[<-hA];unfold r8;rw[hN]
   have cg:ar.length=i+1+1:=by rw[<-A];simp[wQ];omega
   refine pA rfl ?_;rw[Vi];refine go ?_;refine pA rfl ?_;refine gf ?_;rw[show jl ar=.p (.sl false ar.length (cH ar)) from rfl,cg,<-A,<-se]
set_option maxHeartbeats 8000000 in
theorem X5(l:ab)(hL:bQ l)(hM:iY l)(m n:Int)(hm:0<=m/\m<=l.maps-1)(R:1<=l.buckets)(hn:0<=n/\n<65536):aW prog 34 [cF l,z m,z n] (jl (fE l m n)):=by
 have cg:(fE l m n).length=7:=rfl;refine sP func34 ntmps34 λ w cl=>?_
 refine go ?_;refine dQ [] ?_;refine gQ (ll l hL n 0 (by omega)) ?_;refine cQ (ll l hL n 1 (by omega)) ?_;refine gQ (ll l hL n 2 (by omega)) ?_;refine cQ (ll l hL n 6 (by omega)) ?_;refine gQ (OR l hL hM m 0 (by omega)) ?_;refine cQ (OR l hL hM m 1 (by omega)) ?_;refine gQ (OO l hL hM m 0 (by omega) (by omega)) ?_;refine gA (Jb n (by omega)) ?_;refine da (gO 9 0 82 4 rfl rfl rfl) ?_;refine bL (λ i:Nat=>i<=7) (λ i=>⟨[(10,z i),(9,.aU 0 i (cH ((fE l m n).take i))),(8,.p (.sl true 7 (aZ ((fE l m n).map aS.new)))),(7,.p (.sl true 7 (aZ ((fE l m n).map aS.cell))))],[],[(0,⟨82,4,i⟩)]⟩) (λ i=>7-i) 0 (by omega) (zX) ?_;intro i Z;refine(show aJ _ _ _ _ ⟨[(10,z i),(9,.aU 0 i (cH ((fE l m n).take i))),(8,.p (.sl true 7 (aZ ((fE l m n).map aS.new)))),(7,.p (.sl true 7 (aZ ((fE l m n).map aS.cell))))],[],[(0,⟨82,4,i⟩)]⟩ from ?_)
 by_cases u:i=7
 ·subst u;rw[show(fE l m n).take 7=fE l m n from rfl];refine go ?_;rw[show decide (((7:Nat):Int)<7)=false from rfl];refine gf ?_
  rfl
 ·obtain⟨a,ha⟩:∃a,(fE l m n)[i]?=some a:=⟨(fE l m n)[i]'(by omega),List.getElem?_eq_getElem _⟩;have J:=YI (List.mem_of_getElem? ha);have L:((fE l m n).map aS.cell)[(i:Int).toNat]?=some a.cell:=by simp[ha]
  have hv:((fE l m n).map aS.new)[(i:Int).toNat]?=some a.new:=by simp[ha]
  have key:cH ((fE l m n).take i)++[pI 2,pI a.cell,pI 0,pI a.new]=cH ((fE l m n).take (i+1)):=by rw[List.take_add_one,ha,Option.toList_some,<-se,J.1,J.2]
  generalize(fE l m n).map aS.cell=cs at*;generalize(fE l m n).map aS.new=vs at*;refine go ?_;rw[show decide ((i:Int)<7)=true by rw[decide_eq_true_eq];omega];refine go ?_;refine gD [] ?_;refine ri [pI a.cell] (gK L) ?_;refine ba ?_;refine ri [pI a.new] (gK hv) ?_;refine ba ?_;refine nv (m:=1) aw rfl rfl rfl rfl rfl rfl rfl rfl rfl rfl rfl rfl rfl (by unfold maxLen;omega) (by show(_+_)*32<=_;omega) ?_;rw[key];refine qg ?_;exact⟨i+1,by omega,by omega,zX⟩
def ca(l:ab)(k:Nat):List aS:=(List.range k).flatMap (λ(m:Nat)=>fE l m ((m:Int)+1))
def ek(l:ab)(k:Nat):List aS:=(List.range k).flatMap (λ(c:Nat)=>Sg.kv l c (l.maps+c+1))
theorem BX(l:ab)(k:Nat):ca l (k+1)=ca l k++fE l k ((k:Int)+1):=by simp[ca,List.range_succ]
theorem BT(l:ab)(k:Nat):ek l (k+1)=ek l k++Sg.kv l k (l.maps+k+1):=by simp[ek,List.range_succ]
theorem El(l:ab)(k:Nat):(ca l k).length=k*7:=by
 induction k with
 |zero=>rfl
 |succ k ih=>rw[BX,List.length_append,ih,show(fE l k ((k:Int)+1)).length=7 from rfl];omega
theorem Ei(l:ab)(k:Nat):(ek l k).length<=k*8:=by
 induction k with
 |zero=>exact Nat.le_refl _
 |succ k ih=>rw[BT,List.length_append];have:=Sg.Jo l k (l.maps+k+1);omega
theorem EL(l:ab):eX l=ca l l.maps.toNat++ek l l.aL.toNat++lp l (l.maps+l.aL+1).toNat++[⟨2,l.era,0,1⟩]:=rfl
set_option maxHeartbeats 8000000 in
theorem IP(l:ab)(hL:bQ l)(hM:iY l)(_:1<=l.buckets)(hm:0<=l.maps/\l.maps<=8)(L:0<=l.aL/\l.aL<=8):aW prog 11 [cF l] (jl (eX l)):=by
 generalize hA:eX l=ar;rw[EL] at hA;have wr:=El l;have BC:=Ei l;have T2:=Kj l hL (l.maps+l.aL+1).toNat;have Mr:(l.maps.toNat:Int)=l.maps:=by omega
 have wd:(l.aL.toNat:Int)=l.aL:=by omega
 refine sP func11 ntmps11 λ w cl=>?_
 refine go ?_;refine da (gO 3 0 82 4 rfl rfl rfl) ?_;refine bL (λ i:Nat=>i<=l.maps.toNat) (λ i=>⟨[(9,z i),(8,z l.maps),(3,.aU 0 (ca l i).length (cH (ca l i))),(1,.ptr 0 0)],[(0,bs l)],[(0,⟨82,4,(ca l i).length⟩)]⟩) (λ i=>l.maps.toNat-i) 0 (by omega) (zX) ?_;intro i Z;refine(show aJ _ _ _ _ ⟨[(9,z i),(8,z l.maps),(3,.aU 0 (ca l i).length (cH (ca l i))),(1,.ptr 0 0)],[(0,bs l)],[(0,⟨82,4,(ca l i).length⟩)]⟩ from ?_);refine go ?_
 by_cases u:i<l.maps.toNat
 ·rw[show decide ((i:Int)<l.maps)=true by rw[decide_eq_true_eq];omega];have i9:=wr i;have pj:aW prog 31 [cF l,z i,z ((i:Int)+1)] (jl (fE l i ((i:Int)+1))):=YJ l hL hM i ((i:Int)+1) (by omega);have key:cH (ca l i)++cH (fE l i ((i:Int)+1))=cH (ca l (i+1)):=by rw[zp,BX]
  have nU:(ca l i).length+(fE l i ((i:Int)+1)).length=(ca l (i+1)).length:=by rw[BX,List.length_append]
  have b8:∀{Γ:bE}{I:St},bF Γ I ⟨[(9,z ((i:Int)+1)),(8,z l.maps),(3,.aU 0 (ca l (i+1)).length (cH (ca l (i+1)))),(1,.ptr 0 0)],[(0,bs l)],[(0,⟨82,4,(ca l (i+1)).length⟩)]⟩->∃j:Nat,j<=l.maps.toNat/\l.maps.toNat-j<l.maps.toNat-i/\bF Γ I ⟨[(9,z j),(8,z l.maps),(3,.aU 0 (ca l j).length (cH (ca l j))),(1,.ptr 0 0)],[(0,bs l)],[(0,⟨82,4,(ca l j).length⟩)]⟩:=λ hg=>⟨i+1,by omega,by omega,by rw[show((i+1:Nat):Int)=(i:Int)+1 by omega];exact hg⟩
  have wE:(fE l i ((i:Int)+1)).length=7:=rfl;generalize fE l i ((i:Int)+1)=SI at pj key nU wE;generalize ca l i=IM at*;generalize ca l (i+1)=FF at*;refine gA pj ?_;refine ln (m:=SI.length) aw rfl rfl rfl rfl rfl rfl rfl rfl rfl rfl rfl rfl (uO _) (by unfold maxLen;omega) (by show(_+_)*32<=_;omega) ?_;rw[key,nU];refine go ?_;exact b8 zX
 ·have aN:i=l.maps.toNat:=by omega
  subst aN;rw[show decide (((l.maps.toNat:Nat):Int)<l.maps)=false by rw[decide_eq_false_iff_not];omega];clear Z u;refine go ?_;refine bL (λ i:Nat=>i<=l.aL.toNat) (λ i=>⟨[(23,z i),(22,z l.aL),(3,.aU 0 (ca l l.maps.toNat++ek l i).length (cH (ca l l.maps.toNat++ek l i))),(1,.ptr 0 0)],[(0,bs l)],[(0,⟨82,4,(ca l l.maps.toNat++ek l i).length⟩)]⟩) (λ i=>l.aL.toNat-i) 0 (by omega) (by simp only[ek,List.range_zero,List.flatMap_nil,List.append_nil];exact zX) ?_;intro i Z;refine(show aJ _ _ _ _ ⟨[(23,z i),(22,z l.aL),(3,.aU 0 (ca l l.maps.toNat++ek l i).length (cH (ca l l.maps.toNat++ek l i))),(1,.ptr 0 0)],[(0,bs l)],[(0,⟨82,4,(ca l l.maps.toNat++ek l i).length⟩)]⟩ from ?_);refine go ?_
  by_cases u:i<l.aL.toNat
  ·rw[show decide ((i:Int)<l.aL)=true by rw[decide_eq_true_eq];omega];have i9:=wr l.maps.toNat;have dz:=BC i;have pj:aW prog 32 [cF l,z i,z (l.maps+i+1)] (jl (Sg.kv l i (l.maps+i+1))):=Sg.Yq l hL i (l.maps+i+1) (by omega);have key:cH (ca l l.maps.toNat++ek l i)++cH (Sg.kv l i (l.maps+i+1))=cH (ca l l.maps.toNat++ek l (i+1)):=by rw[zp,BT,List.append_assoc]
   have nU:(ca l l.maps.toNat++ek l i).length+(Sg.kv l i (l.maps+i+1)).length=(ca l l.maps.toNat++ek l (i+1)).length:=by rw[BT];simp only[List.length_append];omega
   have b8:∀{Γ:bE}{I:St},bF Γ I ⟨[(23,z ((i:Int)+1)),(22,z l.aL),(3,.aU 0 (ca l l.maps.toNat++ek l (i+1)).length (cH (ca l l.maps.toNat++ek l (i+1)))),(1,.ptr 0 0)],[(0,bs l)],[(0,⟨82,4,(ca l l.maps.toNat++ek l (i+1)).length⟩)]⟩->∃j:Nat,j<=l.aL.toNat/\l.aL.toNat-j<l.aL.toNat-i/\bF Γ I ⟨[(23,z j),(22,z l.aL),(3,.aU 0 (ca l l.maps.toNat++ek l j).length (cH (ca l l.maps.toNat++ek l j))),(1,.ptr 0 0)],[(0,bs l)],[(0,⟨82,4,(ca l l.maps.toNat++ek l j).length⟩)]⟩:=λ hg=>⟨i+1,by omega,by omega,by rw[show((i+1:Nat):Int)=(i:Int)+1 by omega];exact hg⟩
   have wE:=Sg.Jo l i (l.maps+i+1);have DS:(ca l l.maps.toNat++ek l i).length<=1000:=by rw[List.length_append];omega
   generalize Sg.kv l i (l.maps+i+1)=SI at pj key nU wE;generalize ca l l.maps.toNat++ek l i=IM at*;generalize ca l l.maps.toNat++ek l (i+1)=FF at*;refine gA pj ?_;refine ln (m:=SI.length) aw rfl rfl rfl rfl rfl rfl rfl rfl rfl rfl rfl rfl (uO _) (by unfold maxLen;omega) (by show(_+_)*32<=_;omega) ?_;rw[key,nU];refine go ?_;exact b8 zX
  ·have aN:i=l.aL.toNat:=by omega
   subst aN;rw[show decide (((l.aL.toNat:Nat):Int)<l.aL)=false by rw[decide_eq_false_iff_not];omega];have i9:=wr l.maps.toNat;have dz:=BC l.aL.toNat;have Bh:=QT l hL (l.maps+l.aL+1).toNat (by omega) (by omega);rw[show(((l.maps+l.aL+1).toNat:Nat):Int)=l.maps+l.aL+1 by omega] at Bh;have DS:(ca l l.maps.toNat++ek l l.aL.toNat).length<=1000:=by rw[List.length_append];omega
   generalize ca l l.maps.toNat++ek l l.aL.toNat=IM at*;generalize lp l (l.maps+l.aL+1).toNat=AR at*;have key:(cH IM++cH AR)++[pI 2,pI l.era,pI 0,pI 1]=cH ar:=by rw[zp,<-hA];exact se (IM++AR) ⟨2,l.era,0,1⟩
   have nU:IM.length+AR.length+1=ar.length:=by rw[<-hA];simp;omega
   refine gA Bh ?_;refine ln (m:=AR.length) aw rfl rfl rfl rfl rfl rfl rfl rfl rfl rfl rfl rfl (uO _) (by unfold maxLen;omega) (by show(_+_)*32<=_;omega) ?_;refine go ?_;refine pA rfl ?_;rw[key,nU];refine gf ?_
   rfl
set_option maxHeartbeats 8000000 in
theorem OS(l:ab)(hL:bQ l)(hM:iY l)(R:1<=l.buckets)(hm:0<=l.maps/\l.maps<=8)(L:0<=l.aL/\l.aL<=8):aW prog 12 [cF l] (jl (eX l)):=by
 generalize hA:eX l=ar;rw[EL] at hA;have wr:=El l;have BC:=Ei l;have T2:=Kj l hL (l.maps+l.aL+1).toNat;have Mr:(l.maps.toNat:Int)=l.maps:=by omega
 have wd:(l.aL.toNat:Int)=l.aL:=by omega
 refine sP func12 ntmps12 λ w cl=>?_
 refine go ?_;refine da (gO 3 0 82 4 rfl rfl rfl) ?_;refine bL (λ i:Nat=>i<=l.maps.toNat) (λ i=>⟨[(4,z i),(3,.aU 0 (ca l i).length (cH (ca l i))),(1,.ptr 0 0)],[(0,bs l)],[(0,⟨82,4,(ca l i).length⟩)]⟩) (λ i=>l.maps.toNat-i) 0 (by omega) (zX) ?_;intro i Z;refine(show aJ _ _ _ _ ⟨[(4,z i),(3,.aU 0 (ca l i).length (cH (ca l i))),(1,.ptr 0 0)],[(0,bs l)],[(0,⟨82,4,(ca l i).length⟩)]⟩ from ?_);refine go ?_
 by_cases u:i<l.maps.toNat
 ·rw[show decide ((i:Int)<l.maps)=true by rw[decide_eq_true_eq];omega];have i9:=wr i;have pj:aW prog 34 [cF l,z i,z ((i:Int)+1)] (jl (fE l i ((i:Int)+1))):=X5 l hL hM i (i+1) (by omega) R (by omega);have key:cH (ca l i)++cH (fE l i ((i:Int)+1))=cH (ca l (i+1)):=by rw[zp,BX]
  have nU:(ca l i).length+(fE l i ((i:Int)+1)).length=(ca l (i+1)).length:=by rw[BX,List.length_append]
  have b8:∀{Γ:bE}{I:St},bF Γ I ⟨[(4,z ((i:Int)+1)),(3,.aU 0 (ca l (i+1)).length (cH (ca l (i+1)))),(1,.ptr 0 0)],[(0,bs l)],[(0,⟨82,4,(ca l (i+1)).length⟩)]⟩->∃j:Nat,j<=l.maps.toNat/\l.maps.toNat-j<l.maps.toNat-i/\bF Γ I ⟨[(4,z j),(3,.aU 0 (ca l j).length (cH (ca l j))),(1,.ptr 0 0)],[(0,bs l)],[(0,⟨82,4,(ca l j).length⟩)]⟩:=λ hg=>⟨i+1,by omega,by omega,by rw[show((i+1:Nat):Int)=(i:Int)+1 by omega];exact hg⟩
  have wE:(fE l i ((i:Int)+1)).length=7:=rfl;generalize fE l i ((i:Int)+1)=SI at pj key nU wE;generalize ca l i=IM at*;generalize ca l (i+1)=FF at*;refine gA pj ?_;refine ln (m:=SI.length) aw rfl rfl rfl rfl rfl rfl rfl rfl rfl rfl rfl rfl (uO _) (by unfold maxLen;omega) (by show(_+_)*32<=_;omega) ?_;rw[key,nU];refine go ?_;exact b8 zX
 ·have aN:i=l.maps.toNat:=by omega
  subst aN;rw[show decide (((l.maps.toNat:Nat):Int)<l.maps)=false by rw[decide_eq_false_iff_not];omega];clear Z u;refine go ?_;refine bL (λ i:Nat=>i<=l.aL.toNat) (λ i=>⟨[(5,z i),(3,.aU 0 (ca l l.maps.toNat++ek l i).length (cH (ca l l.maps.toNat++ek l i))),(1,.ptr 0 0)],[(0,bs l)],[(0,⟨82,4,(ca l l.maps.toNat++ek l i).length⟩)]⟩) (λ i=>l.aL.toNat-i) 0 (by omega) (by simp only[ek,List.range_zero,List.flatMap_nil,List.append_nil];exact zX) ?_;intro i Z;refine(show aJ _ _ _ _ ⟨[(5,z i),(3,.aU 0 (ca l l.maps.toNat++ek l i).length (cH (ca l l.maps.toNat++ek l i))),(1,.ptr 0 0)],[(0,bs l)],[(0,⟨82,4,(ca l l.maps.toNat++ek l i).length⟩)]⟩ from ?_);refine go ?_
  by_cases u:i<l.aL.toNat
  ·rw[show decide ((i:Int)<l.aL)=true by rw[decide_eq_true_eq];omega];have i9:=wr l.maps.toNat;have dz:=BC i;have pj:aW prog 35 [cF l,z i,z (l.maps+i+1)] (jl (Sg.kv l i (l.maps+i+1))):=Sg.XT l hL i (l.maps+i+1);have key:cH (ca l l.maps.toNat++ek l i)++cH (Sg.kv l i (l.maps+i+1))=cH (ca l l.maps.toNat++ek l (i+1)):=by rw[zp,BT,List.append_assoc]
   have nU:(ca l l.maps.toNat++ek l i).length+(Sg.kv l i (l.maps+i+1)).length=(ca l l.maps.toNat++ek l (i+1)).length:=by rw[BT];simp only[List.length_append];omega
   have b8:∀{Γ:bE}{I:St},bF Γ I ⟨[(5,z ((i:Int)+1)),(3,.aU 0 (ca l l.maps.toNat++ek l (i+1)).length (cH (ca l l.maps.toNat++ek l (i+1)))),(1,.ptr 0 0)],[(0,bs l)],[(0,⟨82,4,(ca l l.maps.toNat++ek l (i+1)).length⟩)]⟩->∃j:Nat,j<=l.aL.toNat/\l.aL.toNat-j<l.aL.toNat-i/\bF Γ I ⟨[(5,z j),(3,.aU 0 (ca l l.maps.toNat++ek l j).length (cH (ca l l.maps.toNat++ek l j))),(1,.ptr 0 0)],[(0,bs l)],[(0,⟨82,4,(ca l l.maps.toNat++ek l j).length⟩)]⟩:=λ hg=>⟨i+1,by omega,by omega,by rw[show((i+1:Nat):Int)=(i:Int)+1 by omega];exact hg⟩
   have wE:=Sg.Jo l i (l.maps+i+1);have DS:(ca l l.maps.toNat++ek l i).length<=1000:=by rw[List.length_append];omega
   generalize Sg.kv l i (l.maps+i+1)=SI at pj key nU wE;generalize ca l l.maps.toNat++ek l i=IM at*;generalize ca l l.maps.toNat++ek l (i+1)=FF at*;refine gA pj ?_;refine ln (m:=SI.length) aw rfl rfl rfl rfl rfl rfl rfl rfl rfl rfl rfl rfl (uO _) (by unfold maxLen;omega) (by show(_+_)*32<=_;omega) ?_;rw[key,nU];refine go ?_;exact b8 zX
  ·have aN:i=l.aL.toNat:=by omega
   subst aN;rw[show decide (((l.aL.toNat:Nat):Int)<l.aL)=false by rw[decide_eq_false_iff_not];omega];have i9:=wr l.maps.toNat;have dz:=BC l.aL.toNat;have Bh:=XW l hL (l.maps+l.aL+1).toNat (by omega) (by omega);rw[show(((l.maps+l.aL+1).toNat:Nat):Int)=l.maps+l.aL+1 by omega] at Bh;have DS:(ca l l.maps.toNat++ek l l.aL.toNat).length<=1000:=by rw[List.length_append];omega
   generalize ca l l.maps.toNat++ek l l.aL.toNat=IM at*;generalize lp l (l.maps+l.aL+1).toNat=AR at*;have key:(cH IM++cH AR)++[pI 2,pI l.era,pI 0,pI 1]=cH ar:=by rw[zp,<-hA];exact se (IM++AR) ⟨2,l.era,0,1⟩
   have nU:IM.length+AR.length+1=ar.length:=by rw[<-hA];simp;omega
   refine gA Bh ?_;refine ln (m:=AR.length) aw rfl rfl rfl rfl rfl rfl rfl rfl rfl rfl rfl rfl (uO _) (by unfold maxLen;omega) (by show(_+_)*32<=_;omega) ?_;refine go ?_;refine pA rfl ?_;rw[key,nU];refine gf ?_
   rfl
theorem WE(l:ab):(eT l).length=l.size.toNat:=by unfold eT;rw[Kc _ _ _ _ rfl];simp
end Go.Proofs.YtcnefjfboagbmaaGreat
