/- What an operation's program does next, of whatever object: its walk. -/
import Derived.Test.YtcnefjfboagbmaaGreatWA
import Derived.Test.YtcnefjfboagbmaaGreatPA
import Derived.Test.YtcnefjfboagbmaaGreatWD
import Derived.Test.YtcnefjfboagbmaaGreatXA
import Derived.Test.YtcnefjfboagbmaaGreatXB
import Derived.Test.YtcnefjfboagbmaaGreatWE
import Derived.DeepKeys
import Derived.Test.YtcnefjfboagbmaaGreatWC
namespace Go.Proofs.YtcnefjfboagbmaaGreat
open Go.Proofs.Tryz
open Go.RowKit
set_option maxRecDepth 100000
abbrev Dn:K:=.agg [E 1,E 3,.fn (.func 105) [] [],E 4,E 5,.fn (.func 106) [] [],E 6,E 7,.fn (.func 107) [] []]
theorem Xx:bc prog 70 [] Dn:=by
 refine sP func70 ntmps70 λ w cl=>?_
 refine gf ?_
 rfl
abbrev nE(op:bl):Bool:=decide (op.kind≠6\/(0<=op.a/\op.a<4294967296))
def wY(op:bl):Nat:=if nE op=false then 3 else if 1<=op.kind/\op.kind<=3 then 0 else if 4<=op.kind/\op.kind<=5 then 1 else if 6<=op.kind/\op.kind<=7 then 2 else 3
set_option maxHeartbeats 16000000 in
theorem SR(l:ah)(hL:cr l)(hS:0<=l.ar)(hM:kJ l)(G:Int)(uo:0<=G/\G<=1000000)(gone:List (Int×Int))(op:bl)(log:List aF)(hg:eN gone)(gU:gone.length+log.length<=10000)(BH:log.length<=5000):bc prog 30 [dP l,E G,eh gone,.agg [E op.kind,E op.obj,E op.a,E op.b],gT log] (sH (pG l G gone op log)):=by
 generalize I:pG l G gone op log=aQ;unfold pG at I;refine sP func30 ntmps30 λ w cl=>?_
 refine zA (zB ?_);refine im ?_;refine zM ?_;refine Da (d7:=Unit) (λ _=>⟨[(13,dB (nE op)),(12,dB false),(11,.ptr 3 0),(10,.ptr 2 0),(8,.ptr 1 0),(5,.ptr 0 0),(1,E G),(2,eh gone),(4,gT log)],[(3,[E 0,dB false,E 0,E 0,.p (.sl true 0 [])]),(2,[E 0,E 0,E 0,E 0]),(1,[E op.kind,E op.obj,E op.a,E op.b]),(0,cG l)],[]⟩) (λ _=>True) ?_ ?_
 ·refine go ?_;generalize A:decide (op.kind=6)=cc;cases cc
  ·have aU:=of_decide_eq_false A;refine go ?_;refine⟨rfl,(),trivial,?_⟩;rw[show nE op=true from decide_eq_true (.inl aU)];exact zX
  ·have aU:=of_decide_eq_true A;refine go ?_;generalize F:decide (op.a>=0)=cc;cases cc
   ·have bB:=of_decide_eq_false F;refine go ?_;refine⟨rfl,(),trivial,?_⟩;rw[show nE op=false from decide_eq_false (by omega)];exact zX
   ·have bB:=of_decide_eq_true F;refine go ?_;rw[show decide (op.a<4294967296)=nE op by rw[decide_eq_decide];omega];refine⟨rfl,(),trivial,?_⟩;exact zX
 intro _ _;have KX:nE op=true->op.kind≠6\/(0<=op.a/\op.a<4294967296):=λ h=>of_decide_eq_true h
 have Q1:nE op=false->¬(op.kind≠6\/(0<=op.a/\op.a<4294967296)):=λ h=>of_decide_eq_false h
 have fz:(∀k:Nat,k<3->wY op≠k)->aQ=(eZ,⟨0,false,1,-1,gone⟩,true):=λ h=>by
  have h0:=h 0 (by omega);have A:=h 1 (by omega);have F:=h 2 (by omega);unfold wY at h0 A F;rw[<-I];generalize nE op=b at*;cases b
  ·have:=Q1 rfl;rw[if_neg (by omega),if_neg (by omega),if_neg (by omega)]
  ·simp only[Bool.true_eq_false,if_false] at h0 A F;have:=KX rfl;have a0:¬(1<=op.kind/\op.kind<=3):=λ hh=>by rw[if_pos hh] at h0;exact h0 rfl
   rw[if_neg a0] at A F;have a1:¬(4<=op.kind/\op.kind<=5):=λ hh=>by rw[if_pos hh] at A;exact A rfl
   rw[if_neg a1] at F;have a2:¬(6<=op.kind/\op.kind<=7):=λ hh=>by rw[if_pos hh] at F;exact F rfl
   rw[if_neg a0,if_neg (by omega),if_neg (by omega)]
 have Ry:∀k:Nat,k<3->(wY op=k↔(nE op=true/\(([1,4,6]:List Int).getD k 0)<=op.kind/\op.kind<=(([3,5,7]:List Int).getD k 0))):=λ k J=>by
  unfold wY;rcases(show k=0\/k=1\/k=2 by omega) with rfl|rfl|rfl<;>(simp only[List.getD_cons_zero,List.getD_cons_succ];repeat' split)<;>simp_all<;>omega
 refine gA Xx ?_;refine cn (λ i:Nat=>i<=3/\∀k<i,wY op≠k) (λ i=>⟨[(30,E i),(29,Dn),(13,dB (nE op)),(12,dB false),(11,.ptr 3 0),(10,.ptr 2 0),(8,.ptr 1 0),(5,.ptr 0 0),(1,E G),(2,eh gone),(4,gT log)],[(3,[E 0,dB false,E 0,E 0,.p (.sl true 0 [])]),(2,[E 0,E 0,E 0,E 0]),(1,[E op.kind,E op.obj,E op.a,E op.b]),(0,cG l)],[]⟩) (λ i=>3-i) 0 ⟨by omega,λ k J=>by omega⟩ (zX) ?_;rintro i ⟨hi,J⟩;refine(show aP _ _ _ _ ⟨[(30,E i),(29,Dn),(13,dB (nE op)),(12,dB false),(11,.ptr 3 0),(10,.ptr 2 0),(8,.ptr 1 0),(5,.ptr 0 0),(1,E G),(2,eh gone),(4,gT log)],[(3,[E 0,dB false,E 0,E 0,.p (.sl true 0 [])]),(2,[E 0,E 0,E 0,E 0]),(1,[E op.kind,E op.obj,E op.a,E op.b]),(0,cG l)],[]⟩ from ?_);refine go ?_
 by_cases O:i=3
 ·subst O;refine(show CK false _ _ from ?_);refine gA ((pT gone (by omega)).pure) ?_;refine ez ?_;rw[fz (λ k h=>J k h)]
  rfl
 rw[show decide ((i:Int)<3)=true by rw[decide_eq_true_eq];omega];have Y1:∃(lo mM:Int)(f:Nat),(([E 1,E 3,.fn (.func 105) [] [],E 4,E 5,.fn (.func 106) [] [],E 6,E 7,.fn (.func 107) [] []]:List K).drop (i*3)).take 3=[E lo,E mM,.fn (.func f) [] []]/\ke prog f/\(wY op=i↔(nE op=true/\lo<=op.kind/\op.kind<=mM))/\(nE op=true->lo<=op.kind->op.kind<=mM->bc prog f [dP l,E G,eh gone,.agg [E op.kind,E op.obj,E op.a,E op.b],gT log] (sH aQ)):=by
  have hy:=Ry i (by omega);rcases(show i=0\/i=1\/i=2 by omega) with rfl|rfl|rfl
  ·refine⟨1,3,105,rfl,λ a w=>call105 a w,hy,λ _ q1 q2=>?_⟩;rw[if_pos ⟨q1,q2⟩] at I;rw[<-I];exact Z1 l hL hS hM G gone op log hg gU BH
  ·refine⟨4,5,106,rfl,λ a w=>call106 a w,hy,λ _ q1 q2=>?_⟩;rw[if_neg (by omega),if_pos (by omega)] at I;rw[<-I];exact Em.EU l hL G uo gone op log hg (by omega) (by omega)
  ·refine⟨6,7,107,rfl,λ a w=>call107 a w,hy,λ q0 q1 q2=>?_⟩;have:=KX q0;rw[if_neg (by omega),if_neg (by omega),if_pos (by omega)] at I;rw[<-I];exact Sg.EU l hL G gone op log (λ h6=>by omega) hg gU
 obtain⟨lo,mM,f,gG,DY,Zp,YM⟩:=Y1;have Q5:¬(nE op=true/\lo<=op.kind/\op.kind<=mM)->∀k<i+1,wY op≠k:=λ hn k dI=>by
  rcases Nat.lt_succ_iff_lt_or_eq.1 dI with h|rfl
  ·exact J k h
  ·exact λ e=>hn (Zp.1 e)
 have Le:∀{Γ:bN}{M:St},(¬(nE op=true/\lo<=op.kind/\op.kind<=mM))->bY Γ M ⟨[(30,E ((i:Int)+1)),(29,Dn),(13,dB (nE op)),(12,dB false),(11,.ptr 3 0),(10,.ptr 2 0),(8,.ptr 1 0),(5,.ptr 0 0),(1,E G),(2,eh gone),(4,gT log)],[(3,[E 0,dB false,E 0,E 0,.p (.sl true 0 [])]),(2,[E 0,E 0,E 0,E 0]),(1,[E op.kind,E op.obj,E op.a,E op.b]),(0,cG l)],[]⟩->∃j:Nat,(j<=3/\∀k<j,wY op≠k)/\3-j<3-i/\bY Γ M ⟨[(30,E j),(29,Dn),(13,dB (nE op)),(12,dB false),(11,.ptr 3 0),(10,.ptr 2 0),(8,.ptr 1 0),(5,.ptr 0 0),(1,E G),(2,eh gone),(4,gT log)],[(3,[E 0,dB false,E 0,E 0,.p (.sl true 0 [])]),(2,[E 0,E 0,E 0,E 0]),(1,[E op.kind,E op.obj,E op.a,E op.b]),(0,cG l)],[]⟩:=λ hn fm=>⟨i+1,⟨by omega,Q5 hn⟩,by omega,by rw[show((i+1:Nat):Int)=(i:Int)+1 by omega];exact fm⟩
 clear Ry fz KX Q1 I Q5;refine go ?_;refine bh (aa2 aD [E lo,E mM,.fn (.func f) [] []] rfl rfl rfl rfl rfl rfl (by omega) (by omega) (by rw[Int.toNat_natCast];exact gG)) rfl rfl rfl ?_;refine go ?_;generalize nE op=b at*;cases b
 ·refine go ?_;exact Le (by simp) zX
 ·refine go ?_
  by_cases h4:lo<=op.kind
  ·rw[show decide (lo<=op.kind)=true from decide_eq_true h4];refine go ?_
   by_cases h5:op.kind<=mM
   ·rw[show decide (op.kind<=mM)=true from decide_eq_true h5];have L:=YM rfl h4 h5;refine go ?_;refine bh (wP L rfl DY rfl rfl) rfl rfl rfl ?_;refine gf ?_
    rfl
   ·rw[show decide (op.kind<=mM)=false from decide_eq_false h5];refine go ?_;exact Le (λ h=>h5 h.2.2) zX
  ·rw[show decide (lo<=op.kind)=false from decide_eq_false h4];refine go ?_;exact Le (λ h=>h4 h.2.1) zX
abbrev yv(c:o5):List K:=[E c.ar,E c.nodes,E c.buckets,E c.bU,E c.tasks,E c.cells,E c.maps,E c.dl,E c.bo]
abbrev Gg(c:o5):K:=.agg (yv c)
theorem xS(n a b:Int):bc prog 63 [E n,E a,E b] (dB (nC n a b)):=q9 n a b
def wb(b:Int):Nat->Bool
 |0=>false
 |i+1=>wb b i||decide (b=2^i)
theorem ady(b:Int):wb b 7=vU b:=by simp[wb,vU]
theorem adx{i:Nat}(h:i<=7):(2:Int)^i<=128/\1<=(2:Int)^i/\decide ((2:Int)^i<=64)=decide (i<7):=by rcases(show i=0\/i=1\/i=2\/i=3\/i=4\/i=5\/i=6\/i=7 by omega) with rfl|rfl|rfl|rfl|rfl|rfl|rfl|rfl<;>decide
set_option maxHeartbeats 8000000 in
theorem acC(c:o5):bc prog 62 [Gg c] (dB (Ae c)):=by
 generalize I:Ae c=aQ;unfold Ae at I;refine sP func62 ntmps62 λ w cl=>?_
 refine go ?_;refine FU (d7:=Unit) (.exit 0) (λ _=>⟨[(3,dB (vU c.buckets)),(1,.ptr 0 0)],[(0,yv c)],[]⟩) (λ _=>True) ?_ ?_
 ·refine cn (λ i:Nat=>i<=7) (λ i=>⟨[(4,E ((2:Int)^i)),(3,dB (wb c.buckets i)),(1,.ptr 0 0)],[(0,yv c)],[]⟩) (λ i=>7-i) 0 (by omega) (zX) ?_;intro i hi;obtain⟨q1,q2,q3⟩:=adx hi;have q4:wb c.buckets (i+1)=(wb c.buckets i||decide (c.buckets=2^i)):=rfl;have q5:(2:Int)^(i+1)=2*2^i:=by rw[Int.pow_succ];omega
  by_cases h7:i=7
  ·subst h7;rw[ady];refine(show aP _ _ _ _ ⟨[(4,E 128),(3,dB (vU c.buckets)),(1,.ptr 0 0)],[(0,yv c)],[]⟩ from ?_);refine go ?_;refine(show CK false _ _ from ?_);refine go ?_;exact⟨rfl,(),trivial,zX⟩
  ·rw[decide_eq_true (show i<7 by omega)] at q3;have cF:∀{Γ:bN}{M:St},bY Γ M ⟨[(4,E (2*(2:Int)^i)),(3,dB (wb c.buckets i||decide (c.buckets=2^i))),(1,.ptr 0 0)],[(0,yv c)],[]⟩->∃j:Nat,j<=7/\7-j<7-i/\bY Γ M ⟨[(4,E ((2:Int)^j)),(3,dB (wb c.buckets j)),(1,.ptr 0 0)],[(0,yv c)],[]⟩:=λ hg=>⟨i+1,by omega,by omega,by rw[q4,q5];exact hg⟩
   clear q4 q5;generalize(2:Int)^i=v at*;generalize wb c.buckets i=pw at*;refine(show aP _ _ _ _ ⟨[(4,E v),(3,dB pw),(1,.ptr 0 0)],[(0,yv c)],[]⟩ from ?_);refine go ?_;rw[q3];refine go ?_;cases pw
   ·refine go ?_;rw[show IntKind.i64.wrap (2*v)=2*v from eU (by omega) (by omega)];refine go ?_;exact cF zX
   ·refine go ?_;rw[show IntKind.i64.wrap (2*v)=2*v from eU (by omega) (by omega)];refine go ?_;exact cF zX
 intro cb _ _ fm;refine zR (zM (ey fm ?_));clear fm;generalize vU c.buckets=pw at*;cases pw
 ·refine gf ?_;rw[<-I];rfl
 ·refine go ?_;refine cA (xS c.ar 1 8) ?_;generalize nC c.ar 1 8=b0 at*;cases b0
  ·refine gf ?_;rw[<-I];rfl
  ·refine go ?_;refine cA (xS c.bU 1 8) ?_;generalize nC c.bU 1 8=b1 at*;cases b1
   ·refine gf ?_;rw[<-I];rfl
   ·refine go ?_;refine cA (xS c.tasks 1 64) ?_;generalize nC c.tasks 1 64=b2 at*;cases b2
    ·refine gf ?_;rw[<-I];rfl
    ·refine go ?_;refine cA (xS c.cells 0 16) ?_;generalize nC c.cells 0 16=b3 at*;cases b3
     ·refine gf ?_;rw[<-I];rfl
     ·refine go ?_;refine cA (xS c.maps 0 8) ?_;generalize nC c.maps 0 8=d0 at*;cases d0
      ·refine gf ?_;rw[<-I];rfl
      ·refine go ?_;refine cA (xS c.dl 0 8) ?_;generalize nC c.dl 0 8=d1 at*;cases d1
       ·refine gf ?_;rw[<-I];rfl
       ·refine gA (xS c.bo 0 8) ?_;refine ez ?_;rw[<-I];rfl
theorem S6{i:Nat}(h:i<=5):4<=(4:Int)*2^i/\(4:Int)*2^i<=128/\(4:Int)*2^(i+1)=2*(4*2^i):=by rcases(show i=0\/i=1\/i=2\/i=3\/i=4\/i=5 by omega) with rfl|rfl|rfl|rfl|rfl|rfl<;>decide
theorem aeu{t:Int}{i:Nat}(hi:i<=4)(ht:t<=64)(A:∀j<i,(4:Int)*2^j<t)(F:t<=4*2^i):om t=i+1:=by
 unfold om;rcases(show i=0\/i=1\/i=2\/i=3\/i=4 by omega) with rfl|rfl|rfl|rfl|rfl
 ·simp at F;rw[if_pos F]
 ·have a0:=A 0 (by omega);simp at a0 F;rw[if_neg (by omega),if_pos (by omega)]
 ·have a0:=A 1 (by omega);simp at a0 F;rw[if_neg (by omega),if_neg (by omega),if_pos (by omega)]
 ·have a0:=A 2 (by omega);simp at a0 F;rw[if_neg (by omega),if_neg (by omega),if_neg (by omega),if_pos (by omega)]
 ·have a0:=A 3 (by omega);simp at a0 F;rw[if_neg (by omega),if_neg (by omega),if_neg (by omega),if_neg (by omega)]
theorem acL(l:ah)(ht:l.tasks<=64):bc prog 64 [dP l] (E (om l.tasks)):=by
 refine sP func64 ntmps64 λ w cl=>?_
 refine go ?_;refine cn (λ i:Nat=>i<=4/\∀j<i,(4:Int)*2^j<l.tasks) (λ i=>⟨[(4,E (4*(2:Int)^i)),(3,E ((i:Int)+1)),(1,.ptr 0 0)],[(0,cG l)],[]⟩) (λ i=>5-i) 0 ⟨by omega,λ j hj=>by omega⟩ (zX) ?_;rintro i ⟨hi,J⟩;obtain⟨q1,q2,q3⟩:=S6 (i:=i) (by omega);have cF:(4:Int)*2^i<l.tasks->∀{Γ:bN}{M:St},bY Γ M ⟨[(4,E (2*(4*(2:Int)^i))),(3,E ((i:Int)+1+1)),(1,.ptr 0 0)],[(0,cG l)],[]⟩->∃j:Nat,(j<=4/\∀k<j,(4:Int)*2^k<l.tasks)/\5-j<5-i/\bY Γ M ⟨[(4,E (4*(2:Int)^j)),(3,E ((j:Int)+1)),(1,.ptr 0 0)],[(0,cG l)],[]⟩:=λ bm=>by
  have h4:i≠4:=λ e=>by subst e;simp at bm;omega
  intro Γ M hg;exact⟨i+1,⟨by omega,λ k dI=>by
   rcases Nat.lt_succ_iff_lt_or_eq.1 dI with h|rfl
   ·exact J k h
   ·exact bm⟩,by omega,by rw[q3,show((i+1:Nat):Int)+1=(i:Int)+1+1 by omega];exact hg⟩
 have Ks:l.tasks<=4*2^i->((om l.tasks:Nat):Int)=(i:Int)+1:=λ h=>by rw[aeu hi ht J h];omega
 clear q3;generalize(4:Int)*2^i=v at*;refine(show aP _ _ _ _ ⟨[(4,E v),(3,E ((i:Int)+1)),(1,.ptr 0 0)],[(0,cG l)],[]⟩ from ?_);refine go ?_;generalize A:decide (v<l.tasks)=cc;cases cc
 ·have aU:=of_decide_eq_false A;refine gf ?_;rw[Ks (by omega)]
 ·have aU:=of_decide_eq_true A;refine go ?_;rw[show decide ((i:Int)+1<40)=true by rw[decide_eq_true_eq];omega];refine go ?_;rw[show IntKind.i64.wrap (2*v)=2*v from eU (by omega) (by omega)];refine go ?_;exact cF aU zX
theorem acM(n:Nat)(hn:n<=5):bc prog 65 [E n] (E (uM n)):=by
 refine sP func65 ntmps65 λ w cl=>?_
 refine go ?_;refine cn (λ i:Nat=>i<=n) (λ i=>⟨[(0,E n),(5,E i),(4,E (4*(2:Int)^i)),(3,E (4*(2:Int)^i-4))],[],[]⟩) (λ i=>n-i) 0 (by omega) (zX) ?_;intro i hi;obtain⟨q1,q2,q3⟩:=S6 (i:=i) (by omega);have cF:i<n->∀{Γ:bN}{M:St},bY Γ M ⟨[(0,E n),(5,E ((i:Int)+1)),(4,E (2*(4*(2:Int)^i))),(3,E (4*(2:Int)^i-4+4*(2:Int)^i))],[],[]⟩->∃j:Nat,j<=n/\n-j<n-i/\bY Γ M ⟨[(0,E n),(5,E j),(4,E (4*(2:Int)^j)),(3,E (4*(2:Int)^j-4))],[],[]⟩:=λ bm _ _ hg=>⟨i+1,by omega,by omega,by
  rw[q3,show(2*(4*(2:Int)^i)-4)=4*(2:Int)^i-4+4*(2:Int)^i by omega,show((i+1:Nat):Int)=(i:Int)+1 by omega];exact hg⟩
 have Ks:i=n->uM n=(4:Int)*2^i-4:=λ h=>by rw[h];rfl
 clear q3;generalize(4:Int)*2^i=v at*;refine(show aP _ _ _ _ ⟨[(0,E n),(5,E i),(4,E v),(3,E (v-4))],[],[]⟩ from ?_);refine go ?_;refine dk (λ A=>?_) (λ A=>?_)<;>try rw[A]
 ·have aU:=of_decide_eq_true A;refine go ?_;rw[show IntKind.i64.wrap (2*v)=2*v from eU (by omega) (by omega)];refine go ?_;exact cF (by omega) zX
 ·have aU:=of_decide_eq_false A;refine gf ?_;rw[Ks (by omega)]
def abe:ah:=⟨0,0,0,0,0,0,0,0,0,0,0,0,0,0,0,0,0,0,0,0,0,0,0,0,0⟩
def EZ(c:o5):ah×Int:=if yu c then(gZ c,0) else(abe,1)
set_option maxHeartbeats 8000000 in
theorem SS(c:o5):bc prog 26 [Gg c] (.bd [dP (EZ c).1,E (EZ c).2]):=by
 generalize I:EZ c=aQ;unfold EZ yu at I;have hm:=acC c;cases Z:Ae c with
 |false=>
  rw[Z] at hm I;refine sP func26 ntmps26 λ w cl=>?_
  refine gA hm ?_;refine ez ?_;rw[<-I];rfl
 |true=>
  rw[Z] at hm I;have Eg:0<=c.maps/\c.maps<=8/\0<=c.bo/\c.bo<=8:=by simp only[Ae,Bool.and_eq_true,RE] at Z;omega
  have dH:=xS c.nodes (c.maps+c.bo) 1000;cases hn:nC c.nodes (c.maps+c.bo) 1000 with
  |false=>
   rw[hn] at dH I;refine sP func26 ntmps26 λ w cl=>?_
   refine gA hm ?_;refine cA dH ?_;refine gf ?_;rw[<-I];rfl
  |true=>
   rw[hn] at dH I;have hC:AM c:=Jq (by unfold yu;rw[Z,hn];rfl);have I:(gZ c,(0:Int))=aQ:=I;subst I;obtain⟨b0,⟨a1,a2⟩,⟨a3,a4⟩,⟨a5,a6⟩,⟨a7,a8⟩,⟨a9,Oe⟩,⟨Of,Og⟩,⟨Oh,Oi⟩,⟨Oj,Ok⟩⟩:=hC;have h0:=EH b0;have hr:=acL ⟨c.ar,c.nodes,c.buckets,c.bU,c.tasks,c.cells,c.maps,c.dl,c.bo,0,1,2,3,4,0,0,0,0,0,0,0,0,0,0,0⟩ a6;have aam:=acM (om c.tasks) (aev c.tasks).2;have A:=TW c.tasks;have F:c.ar*uM (om c.tasks)<=8*124:=Int.mul_le_mul (by omega) (by omega) (by omega) (by omega);have O:0<=c.ar*uM (om c.tasks):=Int.mul_nonneg (by omega) (by omega);have h4:c.maps*(c.buckets+2)<=8*66:=Int.mul_le_mul (by omega) (by omega) (by omega) (by omega);have h5:0<=c.maps*(c.buckets+2):=Int.mul_nonneg (by omega) (by omega);have h6:c.dl*(c.bU+1)<=8*9:=Int.mul_le_mul (by omega) (by omega) (by omega) (by omega);have h7:0<=c.dl*(c.bU+1):=Int.mul_nonneg (by omega) (by omega);show bc prog 26 [Gg c] (.bd [dP (gZ c),E 0]);unfold gZ;simp only at hr;generalize om c.tasks=rg at*;generalize uM rg=ahR at*;refine sP func26 ntmps26 λ w cl=>?_
   refine gA hm ?_;refine cA dH ?_;refine gA hr ?_;simp(disch:=omega) only[eU];refine dW 7 [] ?_;refine gQ aam ?_;simp(disch:=omega) only[eU];refine go ?_;simp(disch:=omega) only[eU];refine gf ?_
   rfl
section
variable{P:Program}{S:Nat->Option K}{B:Nat->Option (List K)}{o:Oper}
end
def kg(x:Int):Prop:=-9223372036854775808<=x/\x<=9223372036854775807
structure aga(l:ah):Prop where
 a:kg l.ar/\kg l.nodes/\kg l.buckets/\kg l.bU/\kg l.tasks/\kg l.cells/\kg l.maps/\kg l.dl/\kg l.bo
 b:kg l.done/\kg l.count/\kg l.era/\kg l.free/\kg l.alive/\kg l.owner/\kg l.mB/\kg l.sJ/\kg l.ring/\kg l.task/\kg l.cell/\kg l.map/\kg l.stack/\kg l.chan/\kg l.node/\kg l.size
end Go.Proofs.YtcnefjfboagbmaaGreat
namespace Go.Proofs.YtcnefjfboagbmaaGreat.Sg
open Go.Proofs.Tryz
open Go.RowKit
set_option maxRecDepth 100000
theorem qz(xs:List Int)(i:Int):bc prog 88 [jw xs,E i] (E (bE xs i)):=by
 generalize I:bE xs i=aQ;unfold bE at I;refine sP func88 ntmps88 λ w cl=>?_
 refine go ?_;generalize A:decide (i<0)=cc;cases cc
 ·have aU:=of_decide_eq_false A;refine go ?_;generalize F:decide ((xs.length:Int)<=i)=cc;cases cc
  ·have bB:=of_decide_eq_false F;rw[if_neg (by omega)] at I;have hg:=ys (xs:=xs) (i:=i) (by omega) (by omega);refine go ?_;refine ai [pI (dp xs i)] (jE hg) ?_;refine gf ?_;rw[<-I]
  ·rw[if_pos (.inr (of_decide_eq_true F))] at I;refine gf ?_;rw[<-I]
 ·rw[if_pos (.inl (of_decide_eq_true A))] at I;refine gf ?_;rw[<-I]
set_option maxHeartbeats 4000000 in
theorem xG(l:ah)(hL:cr l)(m:List Int)(s:Int)(hm:∀x∈m,x<9223372036854775808):bc prog 48 [dP l,jw m,E s] (bX (fF l m s)):=by
 generalize I:fF l m s=aQ;unfold fF at I;have hN:=hL.nodes;obtain⟨ml,gp⟩:=hN;have io:∀i,bE m i<9223372036854775808:=by
  intro i;unfold bE dp;split
  ·omega
  ·rename_i h;have bm:i.toNat<m.length:=by omega
   have:m.getD i.toNat 0=m[i.toNat]:=by simp[bm]
   rw[this];exact hm _ (List.getElem_mem bm)
 refine sP func48 ntmps48 λ w cl=>?_
 refine go ?_;refine cA (GV l hL s) ?_;refine im ?_;refine nI ?_;refine qA ?_;refine qA ?_;refine wN ?_;refine im ?_;refine nI ?_;refine Jg rfl ?_;generalize A:decide (gm l s<0)=cc;cases cc
 ·rw[if_neg (of_decide_eq_false A)] at I;refine Dk ?_;refine FT ?_;refine nI ?_;refine qA ?_;refine wN ?_;refine im ?_;refine nI ?_;refine ey (lu 8 0 3 1 rfl rfl rfl) ?_;refine Jh rfl rfl rfl rfl rfl rfl rfl rfl λ r=>?_
  refine r6 (pD λ aM bv cw hi=>?_);refine gA (qz m (gm l s)) ?_;refine cA (kV (bE m (gm l s))) ?_;refine go ?_;refine nF ?_;refine r6 (Cf ?_);generalize hn:(ae (bE m (gm l s))).idx=n0 at I;have Ei:n0<9223372036854775808:=by rw[<-hn];have:=(kU (bE m (gm l s))).2;omega
  refine LZ (λ p:Nat×List Int×Int=>p.1+p.2.1.length=l.nodes.toNat+1/\p.2.1.Nodup/\(∀x∈p.2.1,1<=x/\x<=l.nodes)/\p.2.2<9223372036854775808/\k8 (λ n=>bE m (aN l n 0)) l.nodes p.1 p.2.1 p.2.2=aQ) (λ p=>⟨[(9,.p (.raw (.map (some r)))),(10,E p.2.2),(8,.aW 0 p.2.1.length (cy p.2.1)),(3,.ptr 0 0),(4,.ptr 1 0)],[(1,[bX m]),(0,cG l)],[(0,⟨3,1,p.2.1.length⟩)]⟩) (λ p=>p.2.1) (λ p=>p.1) (l.nodes.toNat+1,[],n0) ⟨by simp,List.nodup_nil,by simp,Ei,I⟩ rfl (λ aM bv cw=>zX) ?_;rintro⟨k,acc,n⟩ ⟨J,hnd,dF,iX,I⟩;simp only at J hnd dF iX I;have cD:=v5 l.nodes.toNat acc hnd (λ x T=>by have:=dF x T;omega);obtain⟨k,rfl⟩:∃j,k=j+1:=⟨k-1,by omega⟩;rw[k8] at I;refine(show qv _ _ _ _ _ acc ⟨[(9,.p (.raw (.map (some r)))),(10,E n),(8,.aW 0 acc.length (cy acc)),(3,.ptr 0 0),(4,.ptr 1 0)],[(1,[bX m]),(0,cG l)],[(0,⟨3,1,acc.length⟩)]⟩ from ?_);refine r6 (pD λ aM bv cw hi=>?_);refine gA (kD l hL n 0 (by omega) (by omega)) ?_;have rT:=L4 hL (n:=n) (i:=0) (by omega);generalize F:decide (aN l n 0>=0)=cc;cases cc
  ·have bB:=of_decide_eq_false F;rw[if_neg (λ hh=>bB (rT.2 ⟨hh.1,hh.2.1⟩))] at I;refine go ?_;refine rZ (rZ (Cb (nF (pD λ aM bv cw hi=>?_))));refine gf ?_;rw[<-I]
  ·have bB:=rT.1 (of_decide_eq_true F);refine go ?_;refine Jc aD hi rfl underlying125 underlying3 rfl rfl rfl rfl rfl rfl rfl ?_;refine go ?_;generalize O:decide (n∈acc)=cc;cases cc
   ·have dt:=of_decide_eq_false O;rw[if_pos ⟨bB.1,bB.2,dt⟩] at I;refine go ?_;refine nF ?_;refine Cf (r6 (L0 ?_));refine B8 aD rfl rfl rfl rfl ?_;refine B8 aD rfl rfl rfl rfl ?_;refine LW rfl rfl underlying125 underlying3 rfl rfl rfl rfl dt ?_;refine LV (nF (pD λ aM bv cw hi=>?_));refine go ?_;refine pA rfl ?_;rw[oW,show acc.length+1=(acc++[n]).length by simp];refine go ?_;refine dQ [] ?_;refine gQ (kD l hL n 0 (by omega) (by omega)) ?_;refine cQ (qz m (aN l n 0)) ?_;refine qg ?_;refine LX (nF ?_);exact⟨(k,acc++[n],bE m (aN l n 0)),⟨by simp;omega,by
     rw[List.nodup_append];exact⟨hnd,by simp,λ a ha b Z=>by simp at Z;subst Z;exact λ e=>dt (e▸ha)⟩,λ x T=>by
     simp only[List.mem_append,List.mem_singleton] at T;rcases T with T|rfl
     ·exact dF x T
     ·exact bB,io _,I⟩,by simp only;omega,rfl,λ aM bv cw=>zX⟩
   ·rw[if_neg (λ hh=>hh.2.2 (of_decide_eq_true O))] at I;refine go ?_;refine rZ (rZ (Cb (nF (pD λ aM bv cw hi=>?_))));refine gf ?_;rw[<-I]
 ·rw[if_pos (of_decide_eq_true A)] at I;refine gf ?_;rw[<-I]
  rfl
theorem r7(l:ah)(m:List Int)(s:Int):(fF l m s).length<=l.nodes.toNat+1:=by
 unfold fF;split
 ·simp
 ·have:=Dj (nx:=λ n=>bE m (aN l n 0)) (N:=l.nodes) (l.nodes.toNat+1) [] (ae (bE m (gm l s))).idx
  simpa using this
theorem EX(l:ah)(m:List Int)(s:Int):∀x∈fF l m s,1<=x/\x<=l.nodes:=by
 unfold fF;split
 ·simp
 ·exact F8 _ _ _ (by simp)
def j6(aE:List Int):List Int:=(aE.filter λ v=>decide (1<v)).map λ v=>v-2
theorem MR(aE:List Int)(v:Int):j6 (aE++[v])=if 1<v then j6 aE++[v-2] else j6 aE:=by
 unfold j6;rw[List.filter_append]
 by_cases h:1<v
 ·rw[if_pos h];simp[h]
 ·rw[if_neg h];simp[h]
theorem MQ(aE:List Int):(j6 aE).length<=aE.length:=by unfold j6;rw[List.length_map];exact List.length_filter_le _ _
theorem adi(l:ah)(m:List Int)(n:Int):(lp l m n).length=5:=rfl
theorem XL(l:ah)(m:List Int)(aE:List Int):(aE.flatMap (lp l m)).length=5*aE.length:=by
 induction aE with
 |nil=>rfl
 |cons x aE ih=>rw[List.flatMap_cons,List.length_append,ih,adi];simp only[List.length_cons];omega
theorem adj(l:ah)(m:List Int)(n:Int)(k:Nat)(h:k<5):(lp l m n).take (k+1)=(lp l m n).take k++[bE m (aN l n (1+(k:Int)))]:=by
 match k,h with
 |0,_=>rfl
 |1,_=>rfl
 |2,_=>rfl
 |3,_=>rfl
 |4,_=>rfl
theorem Wj{m:List Int}(hm:∀x∈m,x<9223372036854775808)(i:Int):bE m i<9223372036854775808:=by
 unfold bE dp;split
 ·omega
 ·rename_i h;have bm:i.toNat<m.length:=by omega
  have:m.getD i.toNat 0=m[i.toNat]:=by simp[bm]
  rw[this];exact hm _ (List.getElem_mem bm)
set_option maxHeartbeats 4000000 in
theorem Fl(l:ah)(hL:cr l)(m:List Int)(c:Int)(hm:∀x∈m,x<9223372036854775808):bc prog 39 [dP l,jw m,E c] (bX (nJ l m c)):=by
 have vl:=EX l m c;have KU:=r7 l m c;have hC:=xG l hL m c hm;have I:nJ l m c=j6 ((fF l m c).flatMap (lp l m)):=rfl;rw[I];obtain⟨ml,gp⟩:=hL.nodes;generalize fF l m c=ns at*;refine sP func39 ntmps39 λ w cl=>?_
 refine gA hC ?_;refine ey (lu 7 0 3 1 rfl rfl rfl) ?_;refine cn (λ i:Nat=>i<=ns.length) (λ i=>⟨[(17,E i),(16,E ns.length),(15,bX ns),(7,.aW 0 (j6 ((ns.take i).flatMap (lp l m))).length (cy (j6 ((ns.take i).flatMap (lp l m))))),(3,.ptr 0 0),(4,.ptr 1 0)],[(1,[bX m]),(0,cG l)],[(0,⟨3,1,(j6 ((ns.take i).flatMap (lp l m))).length⟩)]⟩) (λ i=>ns.length-i) 0 (by omega) (zX) ?_;intro i hi;refine go ?_;refine dk (λ A=>?_) (λ A=>?_)<;>try rw[A]
 ·have aU:=of_decide_eq_true A;obtain⟨n,hn⟩:=nh (l:=ns) (i:=i) (by omega) aU;have lD:=hn;simp only[Int.toNat_natCast] at lD;have eo:=vl n (List.mem_of_getElem? lD);have ht:(ns.take (i+1)).flatMap (lp l m)=(ns.take i).flatMap (lp l m)++lp l m n:=by
   rw[List.take_add_one,lD];simp
  have Kv:=XL l m (ns.take i);rw[List.length_take] at Kv;generalize(ns.take i).flatMap (lp l m)=am at*;refine go ?_;refine ai [pI n] (jE hn) ?_;refine go ?_;refine cn (λ k:Nat=>k<=5) (λ k=>⟨[(21,E k),(9,E n),(17,E i),(16,E ns.length),(15,bX ns),(7,.aW 0 (j6 (am++(lp l m n).take k)).length (cy (j6 (am++(lp l m n).take k)))),(3,.ptr 0 0),(4,.ptr 1 0)],[(1,[bX m]),(0,cG l)],[(0,⟨3,1,(j6 (am++(lp l m n).take k)).length⟩)]⟩) (λ k=>5-k) 0 (by omega) (by rw[List.take_zero,List.append_nil];exact zX) ?_;intro k J;refine go ?_;refine dk (λ F=>?_) (λ F=>?_)<;>try rw[F]
  ·have bB:k<5:=by have:=of_decide_eq_true F;omega
   have hv:=Wj hm (aN l n (1+(k:Int)));have tf:=MQ (am++(lp l m n).take k);simp only[List.length_append,List.length_take] at tf;have hx:=MR (am++(lp l m n).take k) (bE m (aN l n (1+(k:Int))));rw[List.append_assoc,<-adj l m n k bB] at hx;generalize j6 (am++(lp l m n).take k)=aO at*;refine go ?_;refine dQ [] ?_;refine gQ (kD l hL n (1+(k:Int)) (by omega) (by omega)) ?_;refine cQ (qz m (aN l n (1+(k:Int)))) ?_;refine br ?_;generalize bE m (aN l n (1+(k:Int)))=v at*;refine go ?_;generalize O:decide (v>1)=cc;cases cc
   ·have dt:=of_decide_eq_false O;rw[if_neg (by omega)] at hx;refine go ?_;exact⟨k+1,by omega,by omega,by rw[hx];exact zX⟩
   ·have dt:=of_decide_eq_true O;rw[if_pos (by omega)] at hx;refine go ?_;refine pA rfl ?_;rw[oW,show aO.length+1=(aO++[v-2]).length by simp];refine go ?_;exact⟨k+1,by omega,by omega,by rw[hx];exact zX⟩
  ·have bB:k=5:=by have:=of_decide_eq_false F;omega
   subst bB;rw[show(lp l m n).take 5=lp l m n from rfl,<-ht];refine go ?_;exact⟨i+1,by omega,by omega,zX⟩
 ·have aU:i=ns.length:=by have:=of_decide_eq_false A;omega
  rw[aU,List.take_length];refine gf ?_
  rfl
theorem aeh(l:ah)(hL:cr l)(c:Int):bc prog 79 [dP l,E c] (E (gm l c)):=by
 obtain⟨a1,a2⟩:=hL.chan;obtain⟨b1,b2⟩:=hL.bo;have I:gm l c=if(decide (0<=c)&&decide (c<=l.bo-1)) then IntKind.i64.wrap (l.chan+IntKind.i64.wrap (2*c)) else-1:=by
  unfold gm kG;split
  ·rw[if_neg];simp only[Bool.and_eq_true,decide_eq_true_eq];omega
  ·rw[if_pos (by simp only[Bool.and_eq_true,decide_eq_true_eq];omega)];rw[eU (n:=2*c) (by omega) (by omega),eU (by omega) (by omega)];omega
 rw[I]
 by_cases h0:0<=c/\c<=l.bo-1
 ·have L:(decide (0<=c)&&decide (c<=l.bo-1))=true:=by simp only[Bool.and_eq_true,decide_eq_true_eq];exact h0
  have e1:=eU (n:=2*c) (by omega) (by omega);rw[L,e1];refine sP func79 ntmps79 λ w cl=>?_
  refine go ?_;refine gD [] ?_;rw[e1];refine br ?_;refine cQ (q9 c 0 (l.bo-1)) ?_;rw[L];refine gQ (wh _ true) ?_;refine gf ?_;rw[eU (n:=l.chan+2*c) (by omega) (by omega)]
 ·have L:(decide (0<=c)&&decide (c<=l.bo-1))=false:=by rw[Bool.eq_false_iff];simp only[ne_eq,Bool.and_eq_true,decide_eq_true_eq];omega
  rw[L];refine sP func79 ntmps79 λ w cl=>?_
  refine go ?_;refine gD [] ?_;refine cQ (q9 c 0 (l.bo-1)) ?_;rw[L];refine gQ (wh _ false) ?_;refine gf ?_
  rfl
theorem aem(l:ah)(hL:cr l)(c:Int):bc prog 81 [dP l,E c] (E (mY l c)):=by
 obtain⟨a1,a2⟩:=hL.chan;obtain⟨b1,b2⟩:=hL.bo;have I:mY l c=if(decide (0<=c)&&decide (c<=l.bo-1)) then IntKind.i64.wrap (IntKind.i64.wrap (l.chan+IntKind.i64.wrap (2*c))+1) else-1:=by
  unfold mY kG;split
  ·rw[if_neg];simp only[Bool.and_eq_true,decide_eq_true_eq];omega
  ·rw[if_pos (by simp only[Bool.and_eq_true,decide_eq_true_eq];omega)];rw[eU (n:=2*c) (by omega) (by omega),eU (n:=l.chan+2*c) (by omega) (by omega),eU (by omega) (by omega)];omega
 rw[I]
 by_cases h0:0<=c/\c<=l.bo-1
 ·have L:(decide (0<=c)&&decide (c<=l.bo-1))=true:=by simp only[Bool.and_eq_true,decide_eq_true_eq];exact h0
  have e1:=eU (n:=2*c) (by omega) (by omega);rw[L,e1];refine sP func81 ntmps81 λ w cl=>?_
  refine go ?_;refine gD [] ?_;rw[e1];refine br ?_;refine cQ (q9 c 0 (l.bo-1)) ?_;rw[L];refine gQ (wh _ true) ?_;refine gf ?_;rw[eU (n:=l.chan+2*c) (by omega) (by omega),eU (by omega) (by omega)]
 ·have L:(decide (0<=c)&&decide (c<=l.bo-1))=false:=by rw[Bool.eq_false_iff];simp only[ne_eq,Bool.and_eq_true,decide_eq_true_eq];omega
  rw[L];refine sP func81 ntmps81 λ w cl=>?_
  refine go ?_;refine gD [] ?_;refine cQ (q9 c 0 (l.bo-1)) ?_;rw[L];refine gQ (wh _ false) ?_;refine gf ?_
  rfl
def wm(l:ah)(node:Int):List aX:=(List.range 6).map λ(i:Nat)=>(⟨2,aN l node i,0,0⟩:aX)
theorem Ua(l:ah)(node:Int)(i:Nat)(h:i<6):(wm l node).take (i+1)=(wm l node).take i++[⟨2,aN l node i,0,0⟩]:=by
 rw[List.take_add_one]
 congr 1
 simp[wm,h]
set_option maxHeartbeats 4000000 in
theorem aeH(l:ah)(hL:cr l)(c node:Int)(hn:node<9223372036854775808):bc prog 32 [dP l,E c,E node] (m9 (mV l c node)):=by
 generalize I:mV l c node=aQ;unfold mV at I;refine sP func32 ntmps32 λ w cl=>?_
 refine go ?_;refine cA (GV l hL c) ?_;refine im ?_;generalize A:decide (gm l c<0)=cc;cases cc
 ·have aU:=of_decide_eq_false A;refine gA (kD l hL node 0 hn (by omega)) ?_;generalize F:decide (aN l node 0<0)=cc;cases cc
  ·have bB:=of_decide_eq_false F;rw[if_neg (by omega)] at I;refine go ?_;refine ey (lu 7 0 82 4 rfl rfl rfl) ?_;refine cn (λ i:Nat=>i<=6) (λ i=>⟨[(20,E i),(7,.aW 0 i (c9 ((wm l node).take i))),(1,E c),(2,E node),(3,.ptr 0 0)],[(0,cG l)],[(0,⟨82,4,i⟩)]⟩) (λ i=>6-i) 0 (by omega) (zX) ?_;intro i hi;refine go ?_;refine dk (λ O=>?_) (λ O=>?_)<;>try rw[O]
   ·have dt:i<6:=by have:=of_decide_eq_true O;omega
    refine gA (kD l hL node i hn (by omega)) ?_;refine pA rfl ?_;rw[show c9 ((wm l node).take i)++[pI 2,pI (aN l node i),pI 0,pI 0]=c9 ((wm l node).take (i+1)) by rw[Ua l node i dt,<-uF]];refine go ?_;exact⟨i+1,by omega,by omega,zX⟩
   ·have dt:i=6:=by have:=of_decide_eq_false O;omega
    subst dt;refine gA (my ⟨node,false,0⟩) ?_;refine dQ [] ?_;refine gQ (GV l hL c) ?_;refine cQ (UM l hL c) ?_;refine br ?_;refine tx (m:=2) aD rfl rfl rfl rfl rfl rfl rfl rfl rfl rfl rfl rfl rfl (by unfold maxLen;omega) (by show(_+_)*32<=_;omega) ?_;refine br ?_;refine gf ?_;rw[<-I]
    rfl
  ·have bB:=of_decide_eq_true F;rw[if_pos (.inr bB)] at I;refine gf ?_;rw[<-I]
   rfl
 ·have aU:=of_decide_eq_true A;rw[if_pos (.inl aU)] at I;refine gf ?_;rw[<-I]
  rfl
theorem M3(l:ah)(c node:Int):(mV l c node).length<=8:=by
 unfold mV;split
 ·simp
 ·simp
theorem MF(node:Int):bc prog 80 [yy ⟨node,false,0⟩] (E (bK ⟨node,false,0⟩)):=by
 have I:bK ⟨node,false,0⟩=node%65536:=by simp[bK]
 have h0:=Int.emod_nonneg node (show(65536:Int)≠0 by omega);have A:=Int.emod_lt_of_pos node (show(0:Int)<65536 by omega);rw[I];refine sP func80 ntmps80 λ w cl=>?_
 refine go ?_;refine dQ [] ?_;refine gQ (E9 node 65536 (by omega) (by omega)) ?_;refine cQ (E9 0 268435456 (by omega) (by omega)) ?_;refine br ?_;rw[show IntKind.i64.wrap (131072*(0%268435456))=0 from rfl];refine br ?_;refine gf ?_;simp only[Int.add_zero];rw[eU (by omega) (by omega)]
set_option maxHeartbeats 4000000 in
theorem aec(l:ah)(hL:cr l)(c node:Int):bc prog 35 [dP l,E c,E node] (m9 (mV l c node)):=by
 generalize I:mV l c node=aQ;unfold mV at I;refine sP func35 ntmps35 λ w cl=>?_
 refine gA (aeh l hL c) ?_;generalize A:decide (gm l c<0)=cc;cases cc
 ·have aU:=of_decide_eq_false A;refine gA (wj l hL node 0 (by omega)) ?_;generalize F:decide (aN l node 0<0)=cc;cases cc
  ·have bB:=of_decide_eq_false F;rw[if_neg (by omega)] at I;refine go ?_;refine ey (lu 8 0 82 4 rfl rfl rfl) ?_;refine cn (λ i:Nat=>i<=6) (λ i=>⟨[(9,E i),(8,.aW 0 i (c9 ((wm l node).take i))),(7,E (gm l c)),(1,E c),(2,E node),(3,.ptr 0 0)],[(0,cG l)],[(0,⟨82,4,i⟩)]⟩) (λ i=>6-i) 0 (by omega) (zX) ?_;intro i hi;refine go ?_;refine dk (λ O=>?_) (λ O=>?_)<;>try rw[O]
   ·have dt:i<6:=by have:=of_decide_eq_true O;omega
    refine gA (wj l hL node i (by omega)) ?_;refine pA rfl ?_;rw[show c9 ((wm l node).take i)++[pI 2,pI (aN l node i),pI 0,pI 0]=c9 ((wm l node).take (i+1)) by rw[Ua l node i dt,<-uF]];refine go ?_;exact⟨i+1,by omega,by omega,zX⟩
   ·have dt:i=6:=by have:=of_decide_eq_false O;omega
    subst dt;refine gA (MF node) ?_;refine pA rfl ?_;refine gA (aem l hL c) ?_;refine pA rfl ?_;refine gf ?_;rw[<-I]
    rfl
  ·have bB:=of_decide_eq_true F;rw[if_pos (.inr bB)] at I;refine gf ?_;rw[<-I]
   rfl
 ·have aU:=of_decide_eq_true A;rw[if_pos (.inl aU)] at I;refine gf ?_;rw[<-I]
  rfl
end Go.Proofs.YtcnefjfboagbmaaGreat.Sg
namespace Go.Proofs.YtcnefjfboagbmaaGreat
open Go.Proofs.Tryz
open Go.RowKit
set_option maxRecDepth 100000
abbrev C8(n c:Nat)(cs:List K):bJ:=[(71,[.arr 72 0 n c]),(72,cs)]
theorem VP(l:List aX):∀x∈c9 l,x.lf=true:=by intro x T;unfold c9 at T;rw[List.mem_flatMap] at T;obtain⟨c,_,L⟩:=T;simp only[E2,List.mem_cons,List.not_mem_nil,or_false] at L;rcases L with rfl|rfl|rfl|rfl<;>rfl
structure II(l:List aX)(c:Nat)(cs:List K):Prop where
 pl:fy cs
 len:cs.length=c*4
 le:l.length<=c
 c:c<=maxLen
 at_:cs.take (l.length*4)=(c9 l).map K.p
theorem aa3(ce v:Int):eI prog 72 [71] [E ce,E v,.ptr 71 0] [(71,[.p (.sl true 0 [])])] (λ d Y=>d=.bd []/\∃c cs,II [⟨2,ce,0,v⟩] c cs/\Y=C8 1 c cs):=by
 refine sI func72 ntmps72 λ w cl own kf=>?_
 refine go ?_;refine I9 (sz:=4) aD 72 rfl rfl rfl rfl rfl rfl rfl rfl rfl rfl rfl rfl rfl rfl (by omega) rfl (by unfold maxLen;omega) (by show 1*32<=_;omega) (λ aS cg k1 k2 k3 k4 k5=>?_);refine go ?_;refine km (d:=.bd []) (C8 1 cg aS) ?_ rfl (by exact⟨⟨rfl,rfl⟩,⟨rfl,k5 _ _⟩,trivial⟩) (by(repeat(first|exact trivial|refine⟨rfl,?_⟩))) ⟨rfl,cg,aS,⟨k5,k1,k3,k2,k4⟩,rfl⟩
 rfl
theorem BS(acc:List aX)(n c:Nat)(cs:List K)(hn:acc.length=n)(h:II acc c cs)(U:n<=1000)(ce v:Int):eI prog 72 [71] [E ce,E v,.ptr 71 0] (C8 n c cs) (λ d Y=>d=.bd []/\∃c cs,II (acc++[⟨2,ce,0,v⟩]) c cs/\Y=C8 (n+1) c cs):=by
 subst hn;refine sI func72 ntmps72 λ w cl own kf=>?_
 refine go ?_;refine Ja (sz:=4) aD (c9 acc) rfl rfl rfl rfl rfl rfl rfl rfl rfl rfl rfl rfl rfl rfl (Gf rfl (yw rfl rfl (Gd rfl rfl))) h.len h.le (xJ acc) h.at_ h.c (by omega) rfl (by unfold maxLen;omega) (by show(_+1)*32<=_;omega) (λ aS cg k1 k2 k3 k4 k5=>?_);refine go ?_;refine km (d:=.bd []) (C8 (acc.length+1) cg aS) ?_ rfl (by exact⟨⟨rfl,rfl⟩,⟨rfl,k5 _ _⟩,trivial⟩) (by(repeat(first|exact trivial|refine⟨rfl,?_⟩))) ⟨rfl,cg,aS,⟨k5,k1,by rw[List.length_append];exact k3,k2,by rw[List.length_append,<-uF];exact k4⟩,rfl⟩
 rfl
set_option maxHeartbeats 8000000 in
theorem afb(l:ah)(hL:cr l)(hM:kJ l)(m n:Int)(hn:n<9223372036854775808):bc prog 31 [dP l,E m,E n] (m9 (gM l m n)):=by
 refine sP func31 ntmps31 λ w cl=>?_
 refine gE ?_;refine bA 0 ?_;refine z2 ?_;refine kM ?_;refine gE ?_;refine nA 71 ?_;refine kM ?_;refine gA (kD l hL n 0 hn (by omega)) ?_;refine vI (aa3 (aN l n 0) 0) ?_;rintro d Y ⟨rfl,c0,lP,h0,rfl⟩;refine gA (kD l hL n 1 hn (by omega)) ?_;refine yp (BS [⟨2,aN l n 0,0,0⟩] 1 c0 lP rfl h0 (by omega) (aN l n 1) (0)) rfl (λ a w=>call72 a w) rfl rfl rfl (by exact⟨⟨rfl,rfl⟩,⟨rfl,h0.pl _ _⟩,trivial⟩) (by(repeat(first|exact trivial|refine⟨.inr rfl,?_⟩|refine⟨.inl rfl,?_⟩))) rfl rfl rfl rfl ?_ ?_
 ·rintro d Y ⟨rfl,c,cs,_,rfl⟩;exact⟨.inl rfl,.inl rfl,trivial⟩
 rintro d Y ⟨rfl,c1,lR,A,rfl⟩;refine gA (kD l hL n 2 hn (by omega)) ?_;refine yp (BS [⟨2,aN l n 0,0,0⟩,⟨2,aN l n 1,0,0⟩] 2 c1 lR rfl A (by omega) (aN l n 2) (0)) rfl (λ a w=>call72 a w) rfl rfl rfl (by exact⟨⟨rfl,rfl⟩,⟨rfl,A.pl _ _⟩,trivial⟩) (by(repeat(first|exact trivial|refine⟨.inr rfl,?_⟩|refine⟨.inl rfl,?_⟩))) rfl rfl rfl rfl ?_ ?_
 ·rintro d Y ⟨rfl,c,cs,_,rfl⟩;exact⟨.inl rfl,.inl rfl,trivial⟩
 rintro d Y ⟨rfl,c2,A9,F,rfl⟩;refine gA (kD l hL n 6 hn (by omega)) ?_;refine yp (BS [⟨2,aN l n 0,0,0⟩,⟨2,aN l n 1,0,0⟩,⟨2,aN l n 2,0,0⟩] 3 c2 A9 rfl F (by omega) (aN l n 6) (1)) rfl (λ a w=>call72 a w) rfl rfl rfl (by exact⟨⟨rfl,rfl⟩,⟨rfl,F.pl _ _⟩,trivial⟩) (by(repeat(first|exact trivial|refine⟨.inr rfl,?_⟩|refine⟨.inl rfl,?_⟩))) rfl rfl rfl rfl ?_ ?_
 ·rintro d Y ⟨rfl,c,cs,_,rfl⟩;exact⟨.inl rfl,.inl rfl,trivial⟩
 rintro d Y ⟨rfl,c3,W5,O,rfl⟩;refine gA (B9 l hL hM m 0 (by omega)) ?_;refine yp (BS [⟨2,aN l n 0,0,0⟩,⟨2,aN l n 1,0,0⟩,⟨2,aN l n 2,0,0⟩,⟨2,aN l n 6,0,1⟩] 4 c3 W5 rfl O (by omega) (i3 l m 0) (1)) rfl (λ a w=>call72 a w) rfl rfl rfl (by exact⟨⟨rfl,rfl⟩,⟨rfl,O.pl _ _⟩,trivial⟩) (by(repeat(first|exact trivial|refine⟨.inr rfl,?_⟩|refine⟨.inl rfl,?_⟩))) rfl rfl rfl rfl ?_ ?_
 ·rintro d Y ⟨rfl,c,cs,_,rfl⟩;exact⟨.inl rfl,.inl rfl,trivial⟩
 rintro d Y ⟨rfl,c4,W6,h4,rfl⟩;refine gA (B9 l hL hM m 1 (by omega)) ?_;refine yp (BS [⟨2,aN l n 0,0,0⟩,⟨2,aN l n 1,0,0⟩,⟨2,aN l n 2,0,0⟩,⟨2,aN l n 6,0,1⟩,⟨2,i3 l m 0,0,1⟩] 5 c4 W6 rfl h4 (by omega) (i3 l m 1) (0)) rfl (λ a w=>call72 a w) rfl rfl rfl (by exact⟨⟨rfl,rfl⟩,⟨rfl,h4.pl _ _⟩,trivial⟩) (by(repeat(first|exact trivial|refine⟨.inr rfl,?_⟩|refine⟨.inl rfl,?_⟩))) rfl rfl rfl rfl ?_ ?_
 ·rintro d Y ⟨rfl,c,cs,_,rfl⟩;exact⟨.inl rfl,.inl rfl,trivial⟩
 rintro d Y ⟨rfl,c5,W7,h5,rfl⟩;refine gA (De l hL hM m 0) ?_;refine cA (my ⟨n,false,0⟩) ?_;refine go ?_;refine yp (BS [⟨2,aN l n 0,0,0⟩,⟨2,aN l n 1,0,0⟩,⟨2,aN l n 2,0,0⟩,⟨2,aN l n 6,0,1⟩,⟨2,i3 l m 0,0,1⟩,⟨2,i3 l m 1,0,0⟩] 6 c5 W7 rfl h5 (by omega) (iS l m 0) (bK ⟨n,false,0⟩)) rfl (λ a w=>call72 a w) rfl rfl rfl (by exact⟨⟨rfl,rfl⟩,⟨rfl,h5.pl _ _⟩,trivial⟩) (by(repeat(first|exact trivial|refine⟨.inr rfl,?_⟩|refine⟨.inl rfl,?_⟩))) rfl rfl rfl rfl ?_ ?_
 ·rintro d Y ⟨rfl,c,cs,_,rfl⟩;exact⟨.inl rfl,.inl rfl,trivial⟩
 rintro d Y ⟨rfl,agm,ags,h6,rfl⟩;refine nT (JS (wu:=[(7,.ptr 71 0)]) (o0:=[]) (qt:=[]) 71 0 72 (c9 (gM l m n)) rfl rfl rfl rfl rfl (by exact⟨⟨rfl,rfl⟩,trivial⟩) (by exact⟨⟨rfl,rfl⟩,trivial⟩) trivial (by(repeat(first|exact trivial|refine⟨rfl,?_⟩))) rfl h6.len h6.le (xJ _) h6.at_ h6.c (VP _)) ?_;refine gf ?_
 rfl
theorem Cl(l m:List aX):c9 l++c9 m=c9 (l++m):=by simp[c9]
theorem OB(l:ah)(hL:cr l)(a:Nat):(pR l a).length<=1000001+1:=by
 have h:=hL.nodes.2;unfold pR;split
 ·simp
 ·unfold BT;rw[List.length_append,BU];simp;omega
set_option maxHeartbeats 4000000 in
theorem Wc(l:ah)(hL:cr l)(a:Nat)(A:1<=a)(F:a<=60000):bc prog 33 [dP l,E a] (m9 (pR l a)):=by
 obtain⟨ml,gp⟩:=hL.nodes;generalize hA:pR l a=am;unfold pR at hA;have Kc:∀i:Nat,i<l.nodes.toNat+1-a->(a:Int)+i<=l.nodes:=λ i hi=>by omega
 have Kb:∀i:Nat,¬(i<l.nodes.toNat+1-a)->l.nodes<(a:Int)+i:=λ i hi=>by omega
 generalize hN:l.nodes.toNat+1-a=N at*;refine sP func33 ntmps33 λ w cl=>?_
 refine go ?_;refine bh (HR rfl rfl rfl) rfl rfl rfl ?_;rw[if_neg (show¬((1:Int)>(a:Int)) by omega)];refine go ?_;refine ey (lu 6 0 82 4 rfl rfl rfl) ?_;refine cn (λ i:Nat=>i<=N) (λ i=>⟨[(7,E ((a:Int)+i)),(6,.aW 0 i (c9 ((lF l a N).take i))),(5,E (if i=0 then 0 else a)),(1,E a),(2,.ptr 0 0)],[(0,cG l)],[(0,⟨82,4,i⟩)]⟩) (λ i=>N-i) 0 (by omega) (by rw[show(a:Int)+((0:Nat):Int)=a by omega];exact zX) ?_;intro i hi;refine(show aP _ _ _ _ ⟨[(7,E ((a:Int)+i)),(6,.aW 0 i (c9 ((lF l a N).take i))),(5,E (if i=0 then 0 else a)),(1,E a),(2,.ptr 0 0)],[(0,cG l)],[(0,⟨82,4,i⟩)]⟩ from ?_);refine go ?_
 by_cases D7:i<N
 ·have iE:=Kc i D7;rw[show decide ((a:Int)+i<=l.nodes)=true by rw[decide_eq_true_eq];exact iE];have key:∀nx:Int,nx=(if(a:Int)+i=l.nodes then 0 else(a:Int)+i+1)->c9 ((lF l a N).take i)++[pI 2,pI (aN l ((a:Int)+i) 7),pI 0,pI nx]=c9 ((lF l a N).take (i+1)):=by
   intro nx vE;rw[RH l a N i (by omega),<-uF,vE]
  refine go ?_;generalize O:decide ((a:Int)+i=l.nodes)=cc;cases cc
  ·have dt:=of_decide_eq_false O;refine gA (kD l hL ((a:Int)+i) 7 (by omega) (by omega)) ?_;refine pA rfl ?_;rw[key _ (by rw[if_neg (by omega)])];refine go ?_;rw[show(a:Int)+i+1=(a:Int)+((i+1:Nat):Int) by omega];exact⟨i+1,by omega,by omega,zX⟩
  ·have dt:=of_decide_eq_true O;refine gA (kD l hL ((a:Int)+i) 7 (by omega) (by omega)) ?_;refine pA rfl ?_;rw[key _ (by rw[if_pos (by omega)])];refine go ?_;rw[show(a:Int)+i+1=(a:Int)+((i+1:Nat):Int) by omega];exact⟨i+1,by omega,by omega,zX⟩
 ·have qR:=Kb i D7;rw[show decide ((a:Int)+i<=l.nodes)=false by rw[decide_eq_false_iff_not];omega];have I:(lF l a N).take i++[⟨2,l.free,0,bK ⟨if i=0 then 0 else a,false,0⟩⟩]=am:=by
   rw[List.take_of_length_le (by rw[BU];omega)];rw[<-hA]
   by_cases h0:i=0
   ·rw[if_pos h0,if_pos (by omega),show N=0 by omega];rfl
   ·rw[if_neg h0,if_neg (by omega)];unfold BT;rw[hN]
    congr 3
    unfold bK;simp;omega
  have cD:am.length=i+1:=by rw[<-I];simp[BU];omega
  refine go ?_;refine dQ [] ?_;refine gQ (my ⟨if i=0 then 0 else a,false,0⟩) ?_;refine tx (m:=1) aD rfl rfl rfl rfl rfl rfl rfl rfl rfl rfl rfl rfl rfl (by unfold maxLen;omega) (by show(_+_)*32<=_;omega) ?_;refine br ?_;refine gf ?_;rw[show m9 am=.p (.sl false am.length (c9 am)) from rfl,cD,<-I,<-uF]
set_option maxHeartbeats 4000000 in
theorem aef(l:ah)(hL:cr l)(a:Nat)(A:1<=a)(F:a<=60000):bc prog 36 [dP l,E a] (m9 (pR l a)):=by
 obtain⟨ml,gp⟩:=hL.nodes;generalize hA:pR l a=am;unfold pR at hA;have Kc:∀i:Nat,i+1<l.nodes.toNat+1-a->(a:Int)+i<l.nodes:=λ i hi=>by omega
 have Kb:∀i:Nat,¬(i+1<l.nodes.toNat+1-a)->l.nodes<=(a:Int)+i:=λ i hi=>by omega
 have Ym:¬(l.nodes<a)->1<=l.nodes.toNat+1-a/\(a:Int)+(l.nodes.toNat+1-a:Nat)=l.nodes+1:=λ h=>by omega
 generalize hN:l.nodes.toNat+1-a=N at*;refine sP func36 ntmps36 λ w cl=>?_
 refine go ?_;rw[show decide ((a:Int)<1)=false by rw[decide_eq_false_iff_not];omega];refine go ?_;refine ey (lu 6 0 82 4 rfl rfl rfl) ?_;refine cn (λ i:Nat=>i=0\/i+1<=N) (λ i=>⟨[(7,E ((a:Int)+i)),(6,.aW 0 i (c9 ((lF l a N).take i))),(5,E l.nodes),(1,E a),(2,.ptr 0 0)],[(0,cG l)],[(0,⟨82,4,i⟩)]⟩) (λ i=>N-i) 0 (.inl rfl) (by rw[show(a:Int)+((0:Nat):Int)=a by omega];exact zX) ?_;intro i hi;refine(show aP _ _ _ _ ⟨[(7,E ((a:Int)+i)),(6,.aW 0 i (c9 ((lF l a N).take i))),(5,E l.nodes),(1,E a),(2,.ptr 0 0)],[(0,cG l)],[(0,⟨82,4,i⟩)]⟩ from ?_);have key:i<N->∀nx:Int,nx=(if(a:Int)+i=l.nodes then 0 else(a:Int)+i+1)->c9 ((lF l a N).take i)++[pI 2,pI (aN l ((a:Int)+i) 7),pI 0,pI nx]=c9 ((lF l a N).take (i+1)):=by intro bm nx vE;rw[RH l a N i bm,<-uF,vE]
 refine go ?_
 by_cases D7:i+1<N
 ·have iE:=Kc i D7;rw[show decide ((a:Int)+i<l.nodes)=true by rw[decide_eq_true_eq];exact iE];refine gA (wj l hL ((a:Int)+i) 7 (by omega)) ?_;refine pA rfl ?_;rw[key (by omega) _ (by rw[if_neg (by omega)])];refine go ?_;rw[show(a:Int)+i+1=(a:Int)+((i+1:Nat):Int) by omega];exact⟨i+1,by omega,by omega,zX⟩
 ·have qR:=Kb i D7;rw[show decide ((a:Int)+i<l.nodes)=false by rw[decide_eq_false_iff_not];omega];refine go ?_
  by_cases h0:l.nodes<a
  ·rw[show decide ((a:Int)>l.nodes)=true by rw[decide_eq_true_eq];omega];rw[if_pos h0] at hA;refine gf ?_;rw[<-hA]
   rfl
  ·rw[show decide ((a:Int)>l.nodes)=false by rw[decide_eq_false_iff_not];omega];rw[if_neg h0] at hA;obtain⟨ahd,ahe⟩:=Ym h0;have agY:i+1=N:=by omega
   refine gA (wj l hL l.nodes 7 (by omega)) ?_;have aa9:c9 ((lF l a N).take i)++[pI 2,pI (aN l l.nodes 7),pI 0,pI 0]=c9 (lF l a N):=by have:=key (by omega) 0 (by rw[if_pos (by omega)]);rw[show(a:Int)+i=l.nodes by omega,show(lF l a N).take (i+1)=lF l a N from List.take_of_length_le (by rw[BU];omega)] at this;exact this
   have I:lF l a N++[⟨2,l.free,0,a⟩]=am:=by rw[<-hA];unfold BT;rw[hN]
   have cD:am.length=i+1+1:=by rw[<-I];simp[BU];omega
   refine pA rfl ?_;rw[aa9];refine go ?_;refine pA rfl ?_;refine gf ?_;rw[show m9 am=.p (.sl false am.length (c9 am)) from rfl,cD,<-I,<-uF]
set_option maxHeartbeats 8000000 in
theorem ael(l:ah)(hL:cr l)(hM:kJ l)(m n:Int)(hm:0<=m/\m<=l.maps-1)(Z:1<=l.buckets)(hn:0<=n/\n<65536):bc prog 34 [dP l,E m,E n] (m9 (gM l m n)):=by
 have cD:(gM l m n).length=7:=rfl;refine sP func34 ntmps34 λ w cl=>?_
 refine go ?_;refine dQ [] ?_;refine gQ (wj l hL n 0 (by omega)) ?_;refine cQ (wj l hL n 1 (by omega)) ?_;refine gQ (wj l hL n 2 (by omega)) ?_;refine cQ (wj l hL n 6 (by omega)) ?_;refine gQ (TO l hL hM m 0 (by omega)) ?_;refine cQ (TO l hL hM m 1 (by omega)) ?_;refine gQ (aeg l hL hM m 0 (by omega) (by omega)) ?_;refine gA (MF n (by omega)) ?_;refine ey (lu 9 0 82 4 rfl rfl rfl) ?_;refine cn (λ i:Nat=>i<=7) (λ i=>⟨[(10,E i),(9,.aW 0 i (c9 ((gM l m n).take i))),(8,.p (.sl true 7 (cy ((gM l m n).map aX.new)))),(7,.p (.sl true 7 (cy ((gM l m n).map aX.cell))))],[],[(0,⟨82,4,i⟩)]⟩) (λ i=>7-i) 0 (by omega) (zX) ?_;intro i hi;refine(show aP _ _ _ _ ⟨[(10,E i),(9,.aW 0 i (c9 ((gM l m n).take i))),(8,.p (.sl true 7 (cy ((gM l m n).map aX.new)))),(7,.p (.sl true 7 (cy ((gM l m n).map aX.cell))))],[],[(0,⟨82,4,i⟩)]⟩ from ?_)
 by_cases A:i=7
 ·subst A;rw[show(gM l m n).take 7=gM l m n from rfl];refine go ?_;rw[show decide (((7:Nat):Int)<7)=false from rfl];refine gf ?_
  rfl
 ·obtain⟨a,ha⟩:∃a,(gM l m n)[i]?=some a:=⟨(gM l m n)[i]'(by omega),List.getElem?_eq_getElem _⟩;have J:=afa (List.mem_of_getElem? ha);have L:((gM l m n).map aX.cell)[(i:Int).toNat]?=some a.cell:=by simp[ha]
  have hv:((gM l m n).map aX.new)[(i:Int).toNat]?=some a.new:=by simp[ha]
  have key:c9 ((gM l m n).take i)++[pI 2,pI a.cell,pI 0,pI a.new]=c9 ((gM l m n).take (i+1)):=by rw[List.take_add_one,ha,Option.toList_some,<-uF,J.1,J.2]
  generalize(gM l m n).map aX.cell=cs at*;generalize(gM l m n).map aX.new=vs at*;refine go ?_;rw[show decide ((i:Int)<7)=true by rw[decide_eq_true_eq];omega];refine go ?_;refine gD [] ?_;refine ri [pI a.cell] (jE L) ?_;refine br ?_;refine ri [pI a.new] (jE hv) ?_;refine br ?_;refine tx (m:=1) aD rfl rfl rfl rfl rfl rfl rfl rfl rfl rfl rfl rfl rfl (by unfold maxLen;omega) (by show(_+_)*32<=_;omega) ?_;rw[key];refine qg ?_;exact⟨i+1,by omega,by omega,zX⟩
def cL(l:ah)(k:Nat):List aX:=(List.range k).flatMap (λ(m:Nat)=>gM l m ((m:Int)+1))
def eX(l:ah)(k:Nat):List aX:=(List.range k).flatMap (λ(c:Nat)=>Sg.mV l c (l.maps+c+1))
theorem EF(l:ah)(k:Nat):cL l (k+1)=cL l k++gM l k ((k:Int)+1):=by simp[cL,List.range_succ]
theorem EB(l:ah)(k:Nat):eX l (k+1)=eX l k++Sg.mV l k (l.maps+k+1):=by simp[eX,List.range_succ]
theorem Lq(l:ah)(k:Nat):(cL l k).length=k*7:=by
 induction k with
 |zero=>rfl
 |succ k ih=>rw[EF,List.length_append,ih,show(gM l k ((k:Int)+1)).length=7 from rfl];omega
theorem Lp(l:ah)(k:Nat):(eX l k).length<=k*8:=by
 induction k with
 |zero=>exact Nat.le_refl _
 |succ k ih=>rw[EB,List.length_append];have:=Sg.M3 l k (l.maps+k+1);omega
theorem Mb(l:ah):ol l=cL l l.maps.toNat++eX l l.bo.toNat++pR l (l.maps+l.bo+1).toNat++[⟨2,l.era,0,1⟩]:=rfl
set_option maxHeartbeats 8000000 in
theorem acA(l:ah)(hL:cr l)(hM:kJ l)(_:1<=l.buckets)(hm:0<=l.maps/\l.maps<=8)(L:0<=l.bo/\l.bo<=8):bc prog 11 [dP l] (m9 (ol l)):=by
 generalize hA:ol l=am;rw[Mb] at hA;have y4:=Lq l;have Ef:=Lp l;have ZL:=OB l hL (l.maps+l.bo+1).toNat;have ZV:(l.maps.toNat:Int)=l.maps:=by omega
 have YO:(l.bo.toNat:Int)=l.bo:=by omega
 refine sP func11 ntmps11 λ w cl=>?_
 refine go ?_;refine ey (lu 3 0 82 4 rfl rfl rfl) ?_;refine cn (λ i:Nat=>i<=l.maps.toNat) (λ i=>⟨[(9,E i),(8,E l.maps),(3,.aW 0 (cL l i).length (c9 (cL l i))),(1,.ptr 0 0)],[(0,cG l)],[(0,⟨82,4,(cL l i).length⟩)]⟩) (λ i=>l.maps.toNat-i) 0 (by omega) (zX) ?_;intro i hi;refine(show aP _ _ _ _ ⟨[(9,E i),(8,E l.maps),(3,.aW 0 (cL l i).length (c9 (cL l i))),(1,.ptr 0 0)],[(0,cG l)],[(0,⟨82,4,(cL l i).length⟩)]⟩ from ?_);refine go ?_
 by_cases A:i<l.maps.toNat
 ·rw[show decide ((i:Int)<l.maps)=true by rw[decide_eq_true_eq];omega];have jU:=y4 i;have kQ:bc prog 31 [dP l,E i,E ((i:Int)+1)] (m9 (gM l i ((i:Int)+1))):=afb l hL hM i ((i:Int)+1) (by omega);have key:c9 (cL l i)++c9 (gM l i ((i:Int)+1))=c9 (cL l (i+1)):=by rw[Cl,EF]
  have pC:(cL l i).length+(gM l i ((i:Int)+1)).length=(cL l (i+1)).length:=by rw[EF,List.length_append]
  have cF:∀{Γ:bN}{M:St},bY Γ M ⟨[(9,E ((i:Int)+1)),(8,E l.maps),(3,.aW 0 (cL l (i+1)).length (c9 (cL l (i+1)))),(1,.ptr 0 0)],[(0,cG l)],[(0,⟨82,4,(cL l (i+1)).length⟩)]⟩->∃j:Nat,j<=l.maps.toNat/\l.maps.toNat-j<l.maps.toNat-i/\bY Γ M ⟨[(9,E j),(8,E l.maps),(3,.aW 0 (cL l j).length (c9 (cL l j))),(1,.ptr 0 0)],[(0,cG l)],[(0,⟨82,4,(cL l j).length⟩)]⟩:=λ hg=>⟨i+1,by omega,by omega,by rw[show((i+1:Nat):Int)=(i:Int)+1 by omega];exact hg⟩
  have zg:(gM l i ((i:Int)+1)).length=7:=rfl;generalize gM l i ((i:Int)+1)=SI at kQ key pC zg;generalize cL l i=IM at*;generalize cL l (i+1)=IP at*;refine gA kQ ?_;refine oE (m:=SI.length) aD rfl rfl rfl rfl rfl rfl rfl rfl rfl rfl rfl rfl (xJ _) (by unfold maxLen;omega) (by show(_+_)*32<=_;omega) ?_;rw[key,pC];refine go ?_;exact cF zX
 ·have aU:i=l.maps.toNat:=by omega
  subst aU;rw[show decide (((l.maps.toNat:Nat):Int)<l.maps)=false by rw[decide_eq_false_iff_not];omega];clear hi A;refine go ?_;refine cn (λ i:Nat=>i<=l.bo.toNat) (λ i=>⟨[(23,E i),(22,E l.bo),(3,.aW 0 (cL l l.maps.toNat++eX l i).length (c9 (cL l l.maps.toNat++eX l i))),(1,.ptr 0 0)],[(0,cG l)],[(0,⟨82,4,(cL l l.maps.toNat++eX l i).length⟩)]⟩) (λ i=>l.bo.toNat-i) 0 (by omega) (by simp only[eX,List.range_zero,List.flatMap_nil,List.append_nil];exact zX) ?_;intro i hi;refine(show aP _ _ _ _ ⟨[(23,E i),(22,E l.bo),(3,.aW 0 (cL l l.maps.toNat++eX l i).length (c9 (cL l l.maps.toNat++eX l i))),(1,.ptr 0 0)],[(0,cG l)],[(0,⟨82,4,(cL l l.maps.toNat++eX l i).length⟩)]⟩ from ?_);refine go ?_
  by_cases A:i<l.bo.toNat
  ·rw[show decide ((i:Int)<l.bo)=true by rw[decide_eq_true_eq];omega];have jU:=y4 l.maps.toNat;have dX:=Ef i;have kQ:bc prog 32 [dP l,E i,E (l.maps+i+1)] (m9 (Sg.mV l i (l.maps+i+1))):=Sg.aeH l hL i (l.maps+i+1) (by omega);have key:c9 (cL l l.maps.toNat++eX l i)++c9 (Sg.mV l i (l.maps+i+1))=c9 (cL l l.maps.toNat++eX l (i+1)):=by rw[Cl,EB,List.append_assoc]
   have pC:(cL l l.maps.toNat++eX l i).length+(Sg.mV l i (l.maps+i+1)).length=(cL l l.maps.toNat++eX l (i+1)).length:=by rw[EB];simp only[List.length_append];omega
   have cF:∀{Γ:bN}{M:St},bY Γ M ⟨[(23,E ((i:Int)+1)),(22,E l.bo),(3,.aW 0 (cL l l.maps.toNat++eX l (i+1)).length (c9 (cL l l.maps.toNat++eX l (i+1)))),(1,.ptr 0 0)],[(0,cG l)],[(0,⟨82,4,(cL l l.maps.toNat++eX l (i+1)).length⟩)]⟩->∃j:Nat,j<=l.bo.toNat/\l.bo.toNat-j<l.bo.toNat-i/\bY Γ M ⟨[(23,E j),(22,E l.bo),(3,.aW 0 (cL l l.maps.toNat++eX l j).length (c9 (cL l l.maps.toNat++eX l j))),(1,.ptr 0 0)],[(0,cG l)],[(0,⟨82,4,(cL l l.maps.toNat++eX l j).length⟩)]⟩:=λ hg=>⟨i+1,by omega,by omega,by rw[show((i+1:Nat):Int)=(i:Int)+1 by omega];exact hg⟩
   have zg:=Sg.M3 l i (l.maps+i+1);have G8:(cL l l.maps.toNat++eX l i).length<=1000:=by rw[List.length_append];omega
   generalize Sg.mV l i (l.maps+i+1)=SI at kQ key pC zg;generalize cL l l.maps.toNat++eX l i=IM at*;generalize cL l l.maps.toNat++eX l (i+1)=IP at*;refine gA kQ ?_;refine oE (m:=SI.length) aD rfl rfl rfl rfl rfl rfl rfl rfl rfl rfl rfl rfl (xJ _) (by unfold maxLen;omega) (by show(_+_)*32<=_;omega) ?_;rw[key,pC];refine go ?_;exact cF zX
  ·have aU:i=l.bo.toNat:=by omega
   subst aU;rw[show decide (((l.bo.toNat:Nat):Int)<l.bo)=false by rw[decide_eq_false_iff_not];omega];have jU:=y4 l.maps.toNat;have dX:=Ef l.bo.toNat;have DS:=Wc l hL (l.maps+l.bo+1).toNat (by omega) (by omega);rw[show(((l.maps+l.bo+1).toNat:Nat):Int)=l.maps+l.bo+1 by omega] at DS;have G8:(cL l l.maps.toNat++eX l l.bo.toNat).length<=1000:=by rw[List.length_append];omega
   generalize cL l l.maps.toNat++eX l l.bo.toNat=IM at*;generalize pR l (l.maps+l.bo+1).toNat=AR at*;have key:(c9 IM++c9 AR)++[pI 2,pI l.era,pI 0,pI 1]=c9 am:=by rw[Cl,<-hA];exact uF (IM++AR) ⟨2,l.era,0,1⟩
   have pC:IM.length+AR.length+1=am.length:=by rw[<-hA];simp;omega
   refine gA DS ?_;refine oE (m:=AR.length) aD rfl rfl rfl rfl rfl rfl rfl rfl rfl rfl rfl rfl (xJ _) (by unfold maxLen;omega) (by show(_+_)*32<=_;omega) ?_;refine go ?_;refine pA rfl ?_;rw[key,pC];refine gf ?_
   rfl
set_option maxHeartbeats 8000000 in
theorem aek(l:ah)(hL:cr l)(hM:kJ l)(Z:1<=l.buckets)(hm:0<=l.maps/\l.maps<=8)(L:0<=l.bo/\l.bo<=8):bc prog 12 [dP l] (m9 (ol l)):=by
 generalize hA:ol l=am;rw[Mb] at hA;have y4:=Lq l;have Ef:=Lp l;have ZL:=OB l hL (l.maps+l.bo+1).toNat;have ZV:(l.maps.toNat:Int)=l.maps:=by omega
 have YO:(l.bo.toNat:Int)=l.bo:=by omega
 refine sP func12 ntmps12 λ w cl=>?_
 refine go ?_;refine ey (lu 3 0 82 4 rfl rfl rfl) ?_;refine cn (λ i:Nat=>i<=l.maps.toNat) (λ i=>⟨[(4,E i),(3,.aW 0 (cL l i).length (c9 (cL l i))),(1,.ptr 0 0)],[(0,cG l)],[(0,⟨82,4,(cL l i).length⟩)]⟩) (λ i=>l.maps.toNat-i) 0 (by omega) (zX) ?_;intro i hi;refine(show aP _ _ _ _ ⟨[(4,E i),(3,.aW 0 (cL l i).length (c9 (cL l i))),(1,.ptr 0 0)],[(0,cG l)],[(0,⟨82,4,(cL l i).length⟩)]⟩ from ?_);refine go ?_
 by_cases A:i<l.maps.toNat
 ·rw[show decide ((i:Int)<l.maps)=true by rw[decide_eq_true_eq];omega];have jU:=y4 i;have kQ:bc prog 34 [dP l,E i,E ((i:Int)+1)] (m9 (gM l i ((i:Int)+1))):=ael l hL hM i (i+1) (by omega) Z (by omega);have key:c9 (cL l i)++c9 (gM l i ((i:Int)+1))=c9 (cL l (i+1)):=by rw[Cl,EF]
  have pC:(cL l i).length+(gM l i ((i:Int)+1)).length=(cL l (i+1)).length:=by rw[EF,List.length_append]
  have cF:∀{Γ:bN}{M:St},bY Γ M ⟨[(4,E ((i:Int)+1)),(3,.aW 0 (cL l (i+1)).length (c9 (cL l (i+1)))),(1,.ptr 0 0)],[(0,cG l)],[(0,⟨82,4,(cL l (i+1)).length⟩)]⟩->∃j:Nat,j<=l.maps.toNat/\l.maps.toNat-j<l.maps.toNat-i/\bY Γ M ⟨[(4,E j),(3,.aW 0 (cL l j).length (c9 (cL l j))),(1,.ptr 0 0)],[(0,cG l)],[(0,⟨82,4,(cL l j).length⟩)]⟩:=λ hg=>⟨i+1,by omega,by omega,by rw[show((i+1:Nat):Int)=(i:Int)+1 by omega];exact hg⟩
  have zg:(gM l i ((i:Int)+1)).length=7:=rfl;generalize gM l i ((i:Int)+1)=SI at kQ key pC zg;generalize cL l i=IM at*;generalize cL l (i+1)=IP at*;refine gA kQ ?_;refine oE (m:=SI.length) aD rfl rfl rfl rfl rfl rfl rfl rfl rfl rfl rfl rfl (xJ _) (by unfold maxLen;omega) (by show(_+_)*32<=_;omega) ?_;rw[key,pC];refine go ?_;exact cF zX
 ·have aU:i=l.maps.toNat:=by omega
  subst aU;rw[show decide (((l.maps.toNat:Nat):Int)<l.maps)=false by rw[decide_eq_false_iff_not];omega];clear hi A;refine go ?_;refine cn (λ i:Nat=>i<=l.bo.toNat) (λ i=>⟨[(5,E i),(3,.aW 0 (cL l l.maps.toNat++eX l i).length (c9 (cL l l.maps.toNat++eX l i))),(1,.ptr 0 0)],[(0,cG l)],[(0,⟨82,4,(cL l l.maps.toNat++eX l i).length⟩)]⟩) (λ i=>l.bo.toNat-i) 0 (by omega) (by simp only[eX,List.range_zero,List.flatMap_nil,List.append_nil];exact zX) ?_;intro i hi;refine(show aP _ _ _ _ ⟨[(5,E i),(3,.aW 0 (cL l l.maps.toNat++eX l i).length (c9 (cL l l.maps.toNat++eX l i))),(1,.ptr 0 0)],[(0,cG l)],[(0,⟨82,4,(cL l l.maps.toNat++eX l i).length⟩)]⟩ from ?_);refine go ?_
  by_cases A:i<l.bo.toNat
  ·rw[show decide ((i:Int)<l.bo)=true by rw[decide_eq_true_eq];omega];have jU:=y4 l.maps.toNat;have dX:=Ef i;have kQ:bc prog 35 [dP l,E i,E (l.maps+i+1)] (m9 (Sg.mV l i (l.maps+i+1))):=Sg.aec l hL i (l.maps+i+1);have key:c9 (cL l l.maps.toNat++eX l i)++c9 (Sg.mV l i (l.maps+i+1))=c9 (cL l l.maps.toNat++eX l (i+1)):=by rw[Cl,EB,List.append_assoc]
   have pC:(cL l l.maps.toNat++eX l i).length+(Sg.mV l i (l.maps+i+1)).length=(cL l l.maps.toNat++eX l (i+1)).length:=by rw[EB];simp only[List.length_append];omega
   have cF:∀{Γ:bN}{M:St},bY Γ M ⟨[(5,E ((i:Int)+1)),(3,.aW 0 (cL l l.maps.toNat++eX l (i+1)).length (c9 (cL l l.maps.toNat++eX l (i+1)))),(1,.ptr 0 0)],[(0,cG l)],[(0,⟨82,4,(cL l l.maps.toNat++eX l (i+1)).length⟩)]⟩->∃j:Nat,j<=l.bo.toNat/\l.bo.toNat-j<l.bo.toNat-i/\bY Γ M ⟨[(5,E j),(3,.aW 0 (cL l l.maps.toNat++eX l j).length (c9 (cL l l.maps.toNat++eX l j))),(1,.ptr 0 0)],[(0,cG l)],[(0,⟨82,4,(cL l l.maps.toNat++eX l j).length⟩)]⟩:=λ hg=>⟨i+1,by omega,by omega,by rw[show((i+1:Nat):Int)=(i:Int)+1 by omega];exact hg⟩
   have zg:=Sg.M3 l i (l.maps+i+1);have G8:(cL l l.maps.toNat++eX l i).length<=1000:=by rw[List.length_append];omega
   generalize Sg.mV l i (l.maps+i+1)=SI at kQ key pC zg;generalize cL l l.maps.toNat++eX l i=IM at*;generalize cL l l.maps.toNat++eX l (i+1)=IP at*;refine gA kQ ?_;refine oE (m:=SI.length) aD rfl rfl rfl rfl rfl rfl rfl rfl rfl rfl rfl rfl (xJ _) (by unfold maxLen;omega) (by show(_+_)*32<=_;omega) ?_;rw[key,pC];refine go ?_;exact cF zX
  ·have aU:i=l.bo.toNat:=by omega
   subst aU;rw[show decide (((l.bo.toNat:Nat):Int)<l.bo)=false by rw[decide_eq_false_iff_not];omega];have jU:=y4 l.maps.toNat;have dX:=Ef l.bo.toNat;have DS:=aef l hL (l.maps+l.bo+1).toNat (by omega) (by omega);rw[show(((l.maps+l.bo+1).toNat:Nat):Int)=l.maps+l.bo+1 by omega] at DS;have G8:(cL l l.maps.toNat++eX l l.bo.toNat).length<=1000:=by rw[List.length_append];omega
   generalize cL l l.maps.toNat++eX l l.bo.toNat=IM at*;generalize pR l (l.maps+l.bo+1).toNat=AR at*;have key:(c9 IM++c9 AR)++[pI 2,pI l.era,pI 0,pI 1]=c9 am:=by rw[Cl,<-hA];exact uF (IM++AR) ⟨2,l.era,0,1⟩
   have pC:IM.length+AR.length+1=am.length:=by rw[<-hA];simp;omega
   refine gA DS ?_;refine oE (m:=AR.length) aD rfl rfl rfl rfl rfl rfl rfl rfl rfl rfl rfl rfl (xJ _) (by unfold maxLen;omega) (by show(_+_)*32<=_;omega) ?_;refine go ?_;refine pA rfl ?_;rw[key,pC];refine gf ?_
   rfl
theorem acw(l:ah):(uA l).length=l.size.toNat:=by unfold uA;rw[Ot _ _ _ _ rfl];simp
end Go.Proofs.YtcnefjfboagbmaaGreat
