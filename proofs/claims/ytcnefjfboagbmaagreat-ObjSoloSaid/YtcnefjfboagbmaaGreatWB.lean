/- Words by bits, buckets' parents: their walks. -/
import Derived.Test.YtcnefjfboagbmaaGreatWA
import Derived.Test.YtcnefjfboagbmaaGreatPA
import Derived.Test.YtcnefjfboagbmaaGreatLB
import Derived.ScopeJumps
namespace Go.Proofs.YtcnefjfboagbmaaGreat
open Go.Proofs.Tryz
open Go.RowKit
set_option maxRecDepth 100000
section
variable{P:Program}{ae:Nat->Option TI}{S:Nat->Option G}{B:Nat->Option (List G)}{o:Oper}
theorem adm{ty af:TypeId}{x y:Operand}{a i:Int}(n:Nat)(ho:o.op=.binOp .shr ty x y af)(O:ev S x=some (u a))(hy:ev S y=some (u i))(X:i=n)(hn:n<=63):dH P o S B (u (a/2^n)) none:=by
 subst X;refine jh λ ac e hs=>?_
 have bO:=cR (hs.1 x (by rw[ho];simp[Op.operands]) _ O);have ff:=cR (hs.1 y (by rw[ho];simp[Op.operands]) _ hy);refine⟨_,?_,.p (.raw _)⟩;obtain⟨dst,op,type,pos,after,guard⟩:=o;simp only at ho;subst ho;have A:min n 64=n:=by omega
 have T:(binOp .shr ty (.int .i64 a) (.int .i64 (n:Int))).run P e.w=.ok (.int .i64 (a/2^n)) e.w:=by show(Op.shift .shr .i64 a .i64 (n:Int)).run P e.w=_;rw[shift_shr_any _ _ _ _ (Int.natCast_nonneg n)];show Result.ok (Value.int .i64 (a/2^min ((n:Int).toNat) 64)) e.w=_;rw[Int.toNat_natCast,A]
 simp[execOp,bO,ff,eqGuard,T]
theorem adl{ty af:TypeId}{x y:Operand}{m:Nat}(n:Nat)(ho:o.op=.binOp .shr ty x y af)(O:ev S x=some (dU m))(hy:ev S y=some (.p (.raw (.int .u64 (n:Int)))))(hn:n<=63):dH P o S B (dU (m>>>n)) none:=by
 refine jh λ ac e hs=>?_
 have bO:=cR (hs.1 x (by rw[ho];simp[Op.operands]) _ O);have ff:=cR (hs.1 y (by rw[ho];simp[Op.operands]) _ hy);refine⟨_,?_,.p (.raw _)⟩;obtain⟨dst,op,type,pos,after,guard⟩:=o;simp only at ho;subst ho;have A:min n 64=n:=by omega
 have T:(binOp .shr ty (.int .u64 (m:Int)) (.int .u64 (n:Int))).run P e.w=.ok (.int .u64 ((m>>>n:Nat):Int)) e.w:=by
  show(Op.shift .shr .u64 (m:Int) .u64 (n:Int)).run P e.w=_;rw[shift_shr_any _ _ _ _ (Int.natCast_nonneg n)];show Result.ok (Value.int .u64 ((m:Int)/2^min ((n:Int).toNat) 64)) e.w=_;have hp:(2:Int)^n=((2^n:Nat):Int):=by norm_cast
  rw[Int.toNat_natCast,A,hp,Nat.shiftRight_eq_div_pow]
  congr 2
 simp[execOp,bO,ff,eqGuard,T]
theorem Uv{m n:Nat}(hn:n<=61)(h1:2^n<=m)(A:m<2^(n+1)):IntKind.i64.wrap (((BitVec.ofInt 64 (m:Int)&&&~~~BitVec.ofInt 64 (2^n:Int)).toNat:Nat):Int)=(m:Int)-2^n:=by
 have hp:(2:Int)^n=((2^n:Nat):Int):=by norm_cast
 have ae3:(2:Nat)^(n+1)<=2^62:=Nat.pow_le_pow_right (by omega) (by omega);obtain⟨r,rfl⟩:∃r,m=2^n+r:=⟨m-2^n,by omega⟩;have hr:r<2^n:=by rw[Nat.pow_succ] at A;omega
 have K:(BitVec.ofInt 64 ((2^n+r:Nat):Int)&&&~~~BitVec.ofInt 64 (2^n:Int)).toNat=r:=by
  rw[hp];have:(BitVec.ofInt 64 ((2^n+r:Nat):Int)&&&~~~BitVec.ofInt 64 ((2^n:Nat):Int)).toNat=iK (2^n+r) n:=by simp only[BitVec.ofInt_natCast,iK]
  rw[this];refine Nat.eq_of_testBit_eq λ j=>?_
  rw[Vl _ _ _ (by omega)];have h4:2^n+r=2^n*1+r:=by omega
  rw[h4,Nat.testBit_two_pow_mul_add _ hr]
  by_cases hj:j<n
  ·rw[if_pos hj];have:¬n=j:=by omega
   simp[this]
  ·rw[if_neg hj];have Y4:r.testBit j=false:=Nat.testBit_lt_two_pow (Nat.lt_of_lt_of_le hr (Nat.pow_le_pow_right (by omega) (by omega)));rw[Y4]
   by_cases Ym:n=j
   ·simp[Ym]
   ·have:(1:Nat).testBit (j-n)=false:=Nat.testBit_lt_two_pow (Nat.one_lt_two_pow (by omega));simp[this]
 rw[K,hp,y8 (Int.natCast_nonneg r) (by omega)];omega
theorem Uu{ty af:TypeId}{x y:Operand}{a c:Int}(n:Nat)(ho:o.op=.binOp .andNot ty x y af)(O:ev S x=some (u a))(hy:ev S y=some (u c))(L:c=2^n)(hn:n<=61)(h1:(2^n:Nat)<=a)(A:a<(2^(n+1):Nat)):dH P o S B (u (a-2^n)) none:=by
 subst L;obtain⟨m,rfl⟩:=Int.eq_ofNat_of_zero_le (show 0<=a by omega);refine jh λ ac e hs=>?_
 have bO:=cR (hs.1 x (by rw[ho];simp[Op.operands]) _ O);have ff:=cR (hs.1 y (by rw[ho];simp[Op.operands]) _ hy);refine⟨_,?_,.p (.raw _)⟩;obtain⟨dst,op,type,pos,after,guard⟩:=o;simp only at ho;subst ho;have T:(binOp .andNot ty (.int .i64 (m:Int)) (.int .i64 (2^n:Int))).run P e.w=.ok (.int .i64 ((m:Int)-2^n)) e.w:=by rw[<-Uv hn (by omega) (by omega)];rfl
 simp[execOp,bO,ff,eqGuard,T]
theorem S8{ty:TypeId}{x y:Operand}{k:IntKind}{i:Nat}{s:ByteArray}{c:UInt8}(ho:o.op=.index ty x y)(ht:P.underlying ty=some .string)(O:ev S x=some (.p (.raw (.string s))))(hy:ev S y=some (.p (.raw (.int k (i:Int)))))(X:s[i]?=some c):dH P o S B (.p (.raw (.int .u8 (c.toNat:Int)))) none:=by
 refine jh λ ac e hs=>?_
 have bO:=cR (hs.1 x (by rw[ho];simp[Op.operands]) _ O);have ff:=cR (hs.1 y (by rw[ho];simp[Op.operands]) _ hy);refine⟨_,?_,.p (.raw _)⟩;obtain⟨dst,op,type,pos,after,guard⟩:=o;simp only at ho;subst ho;simp[execOp,Instr.index,asIntOf,bO,ff,run_underlying ht,X]
theorem I9{ty af:TypeId}{x y:Operand}{m n:Nat}(ho:o.op=.binOp .geq ty x y af)(O:ev S x=some (dU m))(hy:ev S y=some (dU n)):dH P o S B (dB (decide (n<=m))) none:=by
 refine jh λ ac e hs=>?_
 have bO:=cR (hs.1 x (by rw[ho];simp[Op.operands]) _ O);have ff:=cR (hs.1 y (by rw[ho];simp[Op.operands]) _ hy);refine⟨_,?_,.p (.raw _)⟩;obtain⟨dst,op,type,pos,after,guard⟩:=o;simp only at ho;subst ho;have T:(binOp .geq ty (.int .u64 (m:Int)) (.int .u64 (n:Int))).run P e.w=.ok (.bool (decide ((n:Int)<=m))) e.w:=rfl;have F:decide ((n:Int)<=m)=decide (n<=m):=by rw[decide_eq_decide];omega
 rw[F] at T;simp[execOp,bO,ff,eqGuard,T]
theorem Tc(s:ByteArray)(f:Nat->Nat)(h:(List.range 256).all (λ i=>decide (s[i]?=some (UInt8.ofNat (f i))))=true){m:Nat}(hm:m<256):s[m]?=some (UInt8.ofNat (f m)):=by
 have:=List.all_eq_true.1 h m (List.mem_range.2 hm)
 simpa using this
end
def qB(n:Nat):Nat:=if n=0 then 0 else Nat.log2 n+1
theorem aak{n k:Nat}(h:2^k<=n):Nat.log2 (n/2^k)=Nat.log2 n-k:=by
 have I:0<2^k:=Nat.two_pow_pos k;have hq:n/2^k≠0:=by have:=Nat.div_pos h I;omega
 have hn:n≠0:=by omega
 have h1:k<=Nat.log2 n:=(Nat.le_log2 hn).2 h;have A:=Nat.log2_self_le hn;have K:n<2^(Nat.log2 n+1):=(Nat.log2_lt hn).1 (Nat.lt_succ_self _);have h4:2^(Nat.log2 n-k)<=n/2^k:=(Nat.le_div_iff_mul_le I).2 (by rw[<-Nat.pow_add];rwa [Nat.sub_add_cancel h1]);have h5:n/2^k<2^(Nat.log2 n-k+1):=(Nat.div_lt_iff_lt_mul I).2 (by rw[<-Nat.pow_add];rwa [show Nat.log2 n-k+1+k=Nat.log2 n+1 by omega]);have h6:=(Nat.le_log2 hq).2 h4;have h7:=(Nat.log2_lt hq).2 h5;omega
theorem Z4{n k:Nat}(h:2^k<=n):qB n=k+qB (n/2^k):=by have I:0<2^k:=Nat.two_pow_pos k;have hq:=Nat.div_pos h I;have h1:k<=Nat.log2 n:=(Nat.le_log2 (by omega)).2 h;unfold qB;rw[if_neg (by omega),if_neg (by omega),aak h];omega
theorem TD{m:Nat}(hm:m<256):IntKind.u8.wrap (m:Int)=(m:Int):=by simp only[IntKind.wrap,IntKind.signed,IntKind.bits];simp;omega
theorem Z5{m:Nat}(hm:m<256):qB m<=8:=by
 unfold qB;split
 ·omega
 ·have:=(Nat.log2_lt (n:=m) (k:=8) (by omega)).2 (by omega);omega
theorem Tf(m a:Nat)(hm:m<256)(ha:a<=16):((UInt8.ofNat (qB m)).toNat:Int)=qB m/\(a:Int)+qB m<=100:=by have:=Z5 hm;refine⟨?_,by omega⟩;rw[UInt8.toNat_ofNat'];omega
set_option maxHeartbeats 4000000 in
theorem Z1(n:Nat)(hn:n<65536):aX prog 202 [dU n] (u (qB n)):=by
 refine sP func202 ntmps202 λ w cl=>?_
 refine go ?_;refine bn (I9 rfl rfl rfl) rfl rfl rfl ?_;rw[show decide (4294967296<=n)=false by rw[decide_eq_false_iff_not];omega];refine go ?_;refine bn (I9 rfl rfl rfl) rfl rfl rfl ?_;rw[show decide (65536<=n)=false by rw[decide_eq_false_iff_not];omega];refine go ?_;refine bn (I9 rfl rfl rfl) rfl rfl rfl ?_;generalize h1:decide (256<=n)=cc;cases cc
 ·have aP:=of_decide_eq_false h1;obtain⟨A,K⟩:=Tf n 0 (by omega) (by omega);refine go ?_
  repeat refine nl aB rfl rfl rfl rfl ?_
  rw[show IntKind.u8.wrap ((n:Nat):Int)=((n:Nat):Int) from TD (by omega)];refine bn (S8 rfl underlying9 rfl rfl (Tc _ qB (by kernel_rfl) (by omega))) rfl rfl rfl ?_;refine bn (IG aB rfl rfl rfl rfl (by omega) (by omega)) rfl rfl rfl ?_;rw[A];refine go ?_;refine gf ?_;rw[Int.zero_add]
 ·have aP:=of_decide_eq_true h1;have h4:n/256<256:=by omega
  obtain⟨A,K⟩:=Tf (n/256) 8 h4 (by omega);have h5:=Z4 (n:=n) (k:=8) (by omega);refine go ?_;refine bn (adl 8 rfl rfl rfl (by omega)) rfl rfl rfl ?_;rw[show n>>>8=n/256 from Nat.shiftRight_eq_div_pow n 8];refine go ?_
  repeat refine nl aB rfl rfl rfl rfl ?_
  rw[show IntKind.u8.wrap ((n/256:Nat):Int)=((n/256:Nat):Int) from TD (by omega)];refine bn (S8 rfl underlying9 rfl rfl (Tc _ qB (by kernel_rfl) h4)) rfl rfl rfl ?_;refine bn (IG aB rfl rfl rfl rfl (by omega) (by omega)) rfl rfl rfl ?_;rw[A];refine go ?_;refine gf ?_;rw[h5];rfl
theorem Z3(n:Nat)(hn:n<65536):aX prog 184 [dU n] (u (qB n)):=by
 refine sP func184 ntmps184 λ w cl=>?_
 refine gA (Z1 n hn) ?_;refine d8 ?_
 rfl
theorem ael{b:Int}(h0:0<=b)(h1:b<65536):IntKind.u64.wrap b=((b.toNat:Nat):Int):=by obtain⟨n,rfl⟩:=Int.eq_ofNat_of_zero_le h0;rw[TE (by omega),Int.toNat_natCast]
theorem abF(b:Int)(T:b<65536):aX prog 146 [u b] (u (iU b)):=by
 generalize E:iU b=aJ;unfold iU at E;refine sP func146 ntmps146 λ w cl=>?_
 refine go ?_;generalize h1:decide (b<1)=cc;cases cc
 ·have aP:=of_decide_eq_false h1;rw[if_neg (by omega)] at E;have hn:b.toNat≠0:=by omega
  have R:qB b.toNat=Nat.log2 b.toNat+1:=if_neg hn;have A:=Nat.log2_self_le hn;have K:b.toNat<2^(Nat.log2 b.toNat+1):=(Nat.log2_lt hn).1 (Nat.lt_succ_self _);have h4:Nat.log2 b.toNat<16:=(Nat.log2_lt hn).2 (by omega);have h5:(2:Nat)^Nat.log2 b.toNat<=2^16:=Nat.pow_le_pow_right (by omega) (by omega);have h6:(2:Int)^Nat.log2 b.toNat=((2^Nat.log2 b.toNat:Nat):Int):=by norm_cast
  refine go ?_;rw[ael (by omega) T];refine cA (Z3 b.toNat (by omega)) ?_;rw[R];refine go ?_;refine bn (vp (Nat.log2 b.toNat) rfl rfl rfl (by omega) (by omega) (by omega) (by omega)) rfl rfl rfl ?_;refine bn (Uu (Nat.log2 b.toNat) rfl rfl rfl (by omega) (by omega) (by omega) (by omega)) rfl rfl rfl ?_;refine gf ?_;rw[E]
 ·rw[if_pos (of_decide_eq_true h1)] at E;refine gf ?_;rw[<-E]
structure kh(l:ag):Prop where
 b:0<=l.buckets/\l.buckets<=64
 m:lH l.maps
 d:lH l.done
def tY(k:Int):Nat->Int
 |0=>0
 |i+1=>tY k i+k/2^i%2*2^(15-i)
theorem Sr(k:Int):fW k=tY k 16:=by unfold fW;simp only[List.range,List.range.loop,List.map_cons,List.map_nil,List.sum_cons,List.sum_nil,tY];omega
theorem Nu(k:Int)(i:Nat):0<=k/2^i%2/\k/2^i%2<=1:=by have h1:=Int.emod_nonneg (k/2^i) (show(2:Int)≠0 by omega);have A:=Int.emod_lt_of_pos (k/2^i) (show(0:Int)<2 by omega);omega
theorem LQ(k:Int):∀i:Nat,i<=16->∃q:Int,tY k i=2^(16-i)*q/\0<=q/\q<2^i
 |0,_=>⟨0,by simp[tY],by omega,by simp⟩
 |i+1,X=>by
  obtain⟨q,h1,A,K⟩:=LQ k i (by omega);obtain⟨b0,b1⟩:=Nu k i;refine⟨2*q+k/2^i%2,?_,by omega,?_⟩
  ·rw[tY,h1,show 16-i=(15-i)+1 by omega,show 16-(i+1)=15-i by omega,Int.pow_succ,Int.mul_add,Int.mul_assoc,Int.mul_comm (2^(15-i)) (k/2^i%2)]
  ·rw[Int.pow_succ];omega
theorem Ss(k:Int)(i:Nat)(X:i<=16):0<=tY k i/\tY k i<65536:=by
 obtain⟨q,h1,A,K⟩:=LQ k i X;rw[h1];have hp:(0:Int)<2^(16-i):=Int.pow_pos (by omega);have h4:(2:Int)^(16-i)*2^i=65536:=by rw[<-Int.pow_add,Nat.sub_add_cancel X];rfl
 exact⟨Int.mul_nonneg (by omega) A,by rw[<-h4];exact Int.mul_lt_mul_of_pos_left K hp⟩
theorem Sq(k:Int):0<=fW k/\fW k<65536:=by rw[Sr];exact Ss k 16 (Nat.le_refl _)
theorem abj{P:Program}{S:Nat->Option G}{B:Nat->Option (List G)}{o:Oper}{ty af:TypeId}{x y:Operand}{a c:Int}(k:Nat)(q:Int)(ho:o.op=.binOp .or ty x y af)(O:ev S x=some (u a))(hy:ev S y=some (u c))(Xr:a=2^k*q)(h0:0<=c)(h1:c<2^k)(hq:0<=q)(L:a+c<9223372036854775808):dH P o S B (u (a+c)) none:=by
 subst Xr;refine jh λ ac e hs=>?_
 have bO:=cR (hs.1 x (by rw[ho];simp[Op.operands]) _ O);have ff:=cR (hs.1 y (by rw[ho];simp[Op.operands]) _ hy);refine⟨_,?_,.p (.raw _)⟩;obtain⟨dst,op,type,pos,after,guard⟩:=o;simp only at ho;subst ho;have T:(binOp .or ty (.int .i64 (2^k*q:Int)) (.int .i64 c)).run P e.w=.ok (.int .i64 (2^k*q+c)) e.w:=by rw[Int.add_comm,<-RF h0 h1 hq (by omega),BitVec.or_comm];rfl
 simp[execOp,bO,ff,eqGuard,T]
theorem LR(k:Int):aX prog 109 [u k] (u (fW k)):=by
 rw[Sr];refine sP func109 ntmps109 λ w cl=>?_
 refine go ?_;refine bW (λ i:Nat=>i<=16) (λ i=>⟨[(5,u i),(3,u (tY k i)),(0,u k)],[],[]⟩) (λ i=>16-i) 0 (Nat.zero_le _) (zX) ?_;intro i X;refine(show aK _ _ _ _ ⟨[(5,u i),(3,u (tY k i)),(0,u k)],[],[]⟩ from ?_);refine go ?_;generalize h1:decide ((i:Int)<16)=cc;cases cc
 ·have aP:=of_decide_eq_false h1;obtain rfl:i=16:=by omega
  refine gf ?_
  rfl
 ·have aP:=of_decide_eq_true h1;obtain⟨q,A,K,h4⟩:=LQ k i X;obtain⟨b0,b1⟩:=Nu k i;have afG:(0:Int)<2^(15-i):=Int.pow_pos (by omega);have afH:(2:Int)^(16-i)=2^(15-i)*2:=by rw[show 16-i=(15-i)+1 by omega,Int.pow_succ]
  have bF:(2:Int)^(15-i)<=32768:=by
   have:=Nat.pow_le_pow_right (n:=2) (by omega) (show 15-i<=15 by omega);have h6:(2:Int)^(15-i)=((2^(15-i):Nat):Int):=by norm_cast
   omega
  have afd:0<=k/2^i%2*2^(15-i)/\k/2^i%2*2^(15-i)<=2^(15-i):=by rcases(show k/2^i%2=0\/k/2^i%2=1 by omega) with h|h<;>rw[h]<;>omega
  have Qh:=Ss k i X;refine go ?_;refine bn (adm i rfl rfl rfl (by omega) (by omega)) rfl rfl rfl ?_;refine cA (yH (k/2^i) 1 (by omega)) ?_;rw[show k/2^i%2^1=k/2^i%2 from rfl];refine go ?_;refine bn (vp (15-i) rfl rfl rfl (by omega) (by omega) (by omega) (by omega)) rfl rfl rfl ?_;refine bn (abj (16-i) q rfl rfl rfl (by omega) (by omega) (by omega) (by omega) (by omega)) rfl rfl rfl ?_;refine go ?_;exact⟨i+1,by omega,by omega,zX⟩
theorem acw(k:Int):aX prog 122 [u k] (u (l4 k)):=by
 have h:=Sq k;refine sP func122 ntmps122 λ w cl=>?_
 refine gA (LR k) ?_;rw[show IntKind.i64.wrap (IntKind.i64.wrap (2*fW k)+1)=l4 k by rw[show IntKind.i64.wrap (2*fW k)=2*fW k from y8 (by omega) (by omega),y8 (by omega) (by omega)];rfl];refine gf ?_
 rfl
theorem VR(k:Int):aX prog 147 [u k] (u (gO k)):=by
 have h:=Sq k;refine sP func147 ntmps147 λ w cl=>?_
 refine gA (LR k) ?_;rw[show IntKind.i64.wrap (2*fW k)=gO k from y8 (by omega) (by omega)];refine gf ?_
 rfl
theorem QO(n:Int):aX prog 83 [u n] (u (yB n)):=by
 refine sP func83 ntmps83 λ w cl=>?_
 refine gA (yH n 17 (by omega)) ?_;refine bn (Es 1 rfl rfl rfl (by omega)) rfl rfl rfl ?_;refine cA (LR (n%2^17/2^1)) ?_;refine gf ?_
 rfl
theorem A9(l:ag)(Z:ca l)(hM:kh l)(m i:Int)(X:i<9223372036854775808):aX prog 73 [dD l,u m,u i] (u (hl l m i)):=by
 have e1:=Z.map;have e2:=hM.m;have e3:=hM.b;refine sP func73 ntmps73 λ w cl=>?_
 refine go ?_;generalize k1:decide (i>1)=cc;cases cc
 ·have qA:=of_decide_eq_false k1;refine gA (xj l.map l.maps (2+l.buckets) m i e1 e2 (by omega) X) ?_;refine d8 ?_;rw[hl,if_neg qA]
 ·refine gf ?_;rw[hl,if_pos (of_decide_eq_true k1)]
theorem Ci(l:ag)(Z:ca l)(hM:kh l)(m b:Int):aX prog 43 [dD l,u m,u b] (u (hL l m b)):=by
 have e1:=Z.map;have e2:=hM.m;have e3:=hM.b;refine sP func43 ntmps43 λ w cl=>?_
 refine go ?_;generalize k1:decide (b<0)=cc;cases cc
 ·have qA:=of_decide_eq_false k1;refine go ?_;generalize k2:decide (b>=l.buckets)=cc;cases cc
  ·have tN:=of_decide_eq_false k2;refine gA (xj l.map l.maps (2+l.buckets) m (2+b) e1 e2 (by omega) (by omega)) ?_;refine d8 ?_;rw[hL,if_neg (by omega)]
  ·refine gf ?_;rw[hL,if_pos (.inr (of_decide_eq_true k2))]
 ·refine gf ?_;rw[hL,if_pos (.inl (of_decide_eq_true k1))]
def QL(l:Nat)(EH:St->Prop)(Q:Exit->St->Prop):Exit->St->Prop
 |.goto iT,J=>iT=l/\EH J
 |ex,J=>Q ex J
theorem KK{p:Nat->Prop}:∀n,p n->∃k,p k/\∀m,p m->k<=m:=by
 intro n;induction n using Nat.strongRecOn with
 |_ n ih=>
  intro h
  by_cases hh:∃m,m<n/\p m
  ·obtain⟨m,h1,A⟩:=hh;exact ih m h1 A
  ·refine⟨n,h,λ m hm=>?_⟩;rcases Nat.lt_or_ge m n with h1|h1
   ·exact absurd ⟨m,h1,hm⟩ hh
   ·exact h1
section
variable{P:Program}{Γ:bI}{Q:Exit->St->Prop}{J:St}{r:Code}
theorem UO{dM:Type}(ok:dM->Prop)(jq:dM->St)(mB:dM->Nat){l:Nat}(i0:dM)(I:ok i0)(h0:bN Γ J (jq i0))(abH:∀i,ok i->aK P Γ r (QL l (λ bU=>∃j,ok j/\mB j<mB i/\bN Γ bU (jq j)) Q) (jq i)):aK P Γ (.scope (.seq (.label l) r)) Q J:=by
 classical
 refine⟨λ a e L=>?_⟩
 let at_:Act->World->Nat->Prop:=λ a w n=>∃i e,ok i/\bu Γ (jq i) e a/\e.w=w/\mB i=n
 let low:Act->World->Nat:=λ a w=>if h:∃n,at_ a w n then Classical.choose (KK (p:=at_ a w) h.choose h.choose_spec) else 0
 have Rc:∀a w n,at_ a w n->at_ a w (low a w)/\low a w<=n:=λ a w n hn=>by
  have h:∃n,at_ a w n:=⟨n,hn⟩;have hs:=Classical.choose_spec (KK (p:=at_ a w) h.choose h.choose_spec);have e:low a w=Classical.choose (KK (p:=at_ a w) h.choose h.choose_spec):=dif_pos h;rw[e];exact⟨hs.1,hs.2 n hn⟩
 have body:∀(a:Act)(w:World)(n:Nat),at_ a w n->r.wp P (Exit.jump l (λ br aI=>(∃m,at_ br aI m)/\low br aI<n) (jr Γ Q)) a w:=by
  rintro a w n ⟨i,e,h1,A,rfl,rfl⟩;refine Code.wp_mono (λ ex br aI hh=>?_) ((abH i h1).run a e A);obtain⟨bU,Y,rfl,K,h4⟩:=hh;cases ex with
  |goto iT=>obtain⟨rfl,j,h5,h6,h7⟩:=h4;obtain⟨e2,h8,h9⟩:=h7 br Y K;have hi:at_ br Y.w (mB j):=⟨j,e2,h5,h9,h8,rfl⟩;exact⟨rfl,⟨_,hi⟩,Nat.lt_of_le_of_lt (Rc _ _ _ hi).2 h6⟩
  |_=>exact⟨bU,Y,rfl,K,h4⟩
 obtain⟨e1,g1,g2⟩:=h0 a e L;have dg:at_ a e.w (mB i0):=⟨i0,e1,I,g2,g1,rfl⟩;refine wp_scope_jumps (rest:=.seq .skip r) l (λ a w=>∃n,at_ a w n) low (by simp[findLabel]) ?_ ?_
 ·refine wp_seq (wp_label ?_);exact Code.wp_mono (λ ex br aI hh=>by cases ex<;>first|exact⟨hh.1,hh.2.1⟩|exact hh) (body a e.w _ dg)
 ·rintro a w ⟨n,hn⟩;exact wp_seq (wp_skip (body a w _ (Rc a w n hn).1))
end
section
variable{P:Program}{Γ:bI}{Q:Exit->St->Prop}{aL:St->Prop}{EH:St->Prop}{J:St}{l id:Nat}
theorem Ni(h:Q (.goto l) J):aK P Γ (.goto l) Q J:=⟨λ _ e L=>wp_goto ⟨J,e,rfl,L,h⟩⟩
theorem Se(h:Q (.goto l) J):rG aL Q (.goto l) J:=h
theorem Sc(h:Q (.goto l) J):qi id Q (.goto l) J:=h
theorem Sd(h:EH J):QL l EH Q (.goto l) J:=⟨rfl,h⟩
end
abbrev Oh(F:Int)(f:kc):List G:=[.ptr 11 0,dB f.there,u f.prev,u f.cur,u f.next,u f.bS,u F]
abbrev mK(l:ag)(D:Int)(log:List aD)(F:Int)(f:kc)(s:ah):bE:=[(11,m9 l D s),(12,[.ptr 11 0]),(13,[gH log]),(14,Oh F f)]
structure hx(log:List aD)(s M:ah):Prop where
 made:s.made<=M.made
 le:M.made<=log.length
 ok:eu M.gone
 len:M.gone.length+s.made<=s.gone.length+M.made
def TM(l:ag)(D:Int)(log:List aD)(F:Int)(s:ah)(m:Except aT (kc×ah)):G->bE->Prop:=λ d U=>∃f M,m=.ok (f,M)/\hx log s M/\s.made<M.made/\0<=f.cur/\f.cur<65536/\d=.bg []/\U=mK l D log F f M
def TN(l:ag)(D:Int)(log:List aD)(F:Int)(m:Except aT (kc×ah)):Value->bE->Prop:=λ x U=>∃a M f,m=.error a/\x=iz a/\U=mK l D log F f M
theorem hx.same{log:List aD}{s t s1:ah}(h:hx log s t)(hg:s1.gone=t.gone)(h1:t.made<=s1.made)(A:s1.made<=log.length):hx log s s1:=by obtain⟨a1,a2,a3,a4⟩:=h;exact⟨by omega,A,by rw[hg];exact a3,by rw[hg];omega⟩
theorem Lz(x:ah)(i v:Int):(x.gp i v).made=x.made:=by
 unfold ah.gp;split
 ·rfl
 ·split<;>rfl
theorem CE{l:ag}{D i cell:Int}:∀{k:Nat}{log:List aD}{s M:ah}{p:Int×Int},kO l D i cell k log s=.ok (p,M)->s.made<=M.made/\(0<k->s.made<M.made)
 |0,log,s,M,p,h=>by cases h;exact⟨Nat.le_refl _,λ h=>absurd h (Nat.lt_irrefl _)⟩
 |k+1,log,s,M,p,h=>by
  rw[kO] at h;cases h1:cj cell log s with
  |error a=>rw[bl h1] at h;cases h
  |ok q=>
   obtain⟨v,s1⟩:=q;rw[aw h1,aw eT] at h;have g1:=iw h1;cases A:cj l.era log s1 with
   |error a=>rw[bl A] at h;cases h
   |ok q=>
    obtain⟨er,s2⟩:=q;rw[aw A] at h;have g2:=iw A;split at h
    ·cases h;exact⟨by omega,λ _=>by omega⟩
    ·cases K:eH (cg l D i) er log s2 with
     |error a=>rw[bl K] at h;cases h
     |ok q=>obtain⟨af,s3⟩:=q;rw[aw K] at h;have g3:=rE K;have g4:=(CE h).1;rw[Lz] at g4;exact⟨by omega,λ _=>by omega⟩
theorem Jc{l:ag}{D i cell:Int}{log:List aD}{s M:ah}{p:Int×Int}(hm:s.made<=log.length)(h:kP l D i cell log s=.ok (p,M)):s.made<M.made:=(CE h).2 (by omega)
theorem y1{l:ag}{aM:List Int}:∀{gs aY:List (Int×Int)}{log:List aD}{s M:ah}{r:List (Int×Int)},fa l aM gs aY log s=.ok (r,M)->eu gs->eu aY->eu r
 |[],aY,log,s,M,r,h,_,A=>by cases h;exact A
 |g::gs,aY,log,s,M,r,h,h1,A=>by
  have aP:eu gs:=λ p hp=>h1 p (List.mem_cons_of_mem _ hp)
  rw[fa] at h;cases k1:cj (aE l g.1 6) log s with
  |error a=>rw[bl k1] at h;cases h
  |ok q=>
   obtain⟨b,s1⟩:=q;rw[aw k1] at h;split at h
   ·exact y1 h aP (λ p hp=>by
     rw[List.mem_append,List.mem_singleton] at hp;rcases hp with hp|rfl
     ·exact A p hp
     ·exact h1 _ (by simp))
   ·cases k2:mM l g.1 log s1 with
    |error a=>rw[bl k2] at h;cases h
    |ok q=>obtain⟨af,s2⟩:=q;rw[aw k2] at h;exact y1 h aP A
theorem Ja{g:List (Int×Int)}{n e:Int}(h:eu g)(hn:n<9223372036854775808):eu (g++[(n,e)]):=by
 intro p hp;rw[List.mem_append,List.mem_singleton] at hp;rcases hp with hp|rfl
 ·exact h p hp
 ·exact hn
theorem Ek{l:ag}{n:Int}{log:List aD}{s M:ah}{af:Unit}(h:jF l n log s=.ok (af,M))(hg:eu s.gone)(hn:n<9223372036854775808):eu M.gone:=by
 unfold jF at h;cases h1:cj l.era log s with
 |error a=>rw[bl h1] at h;cases h
 |ok q=>
  obtain⟨er,s1⟩:=q;rw[aw h1] at h;have g1:s1.gone=s.gone:=by rw[(fE h1).1]
  cases A:fk ⟨4,l.era,0,1⟩ log s1 with
  |error a=>rw[bl A] at h;cases h
  |ok q=>
   obtain⟨r,s2⟩:=q;rw[aw A] at h;have g2:s2.gone=s.gone:=by rw[(un A).1];exact g1
   have hq:eu (s2.gone++[(n,er)]):=by rw[g2];exact Ja hg hn
   split at h
   ·cases h;exact hq
   ·unfold pR at h;cases K:j5 [] (jE l 0 l.az.toNat) log {s2 with gone:=s2.gone++[(n,er)]} with
    |error a=>rw[bl K] at h;cases h
    |ok q=>
     obtain⟨aM,s3⟩:=q;rw[aw K] at h;cases h4:fa l aM (s2.gone++[(n,er)]) [] log s3 with
     |error a=>rw[bl h4] at h;cases h
     |ok q=>obtain⟨aY,s4⟩:=q;rw[aw h4] at h;unfold ji at h;cases h;exact y1 h4 hq (λ p hp=>by simp at hp)
theorem sG(n:Int):aX prog 212 [u n] (u (fO n)):=by
 refine sP func212 ntmps212 λ w cl=>?_
 refine gA (lZ ⟨n,false,0⟩) ?_;refine d8 ?_
 rfl
theorem aaw(n:Int):aX prog 215 [u n] (u (ol n)):=by
 refine sP func215 ntmps215 λ w cl=>?_
 refine gA (lZ ⟨n,true,0⟩) ?_;refine d8 ?_
 rfl
set_option maxHeartbeats 16000000 in
theorem Fi(l:ag)(Z:ca l)(D:Int)(log:List aD)(F o:Int)(kp:kc)(s:ah)(fb:eu s.gone)(dp:s.gone.length+log.length<=10000+s.made)(hm:s.made<=log.length)(R:log.length<=1000000):
 fI prog 205 [11,12,13,14] [.ptr 14 0,u o] (mK l D log F kp s) (TM l D log F s (qU l D F o log s)) (TN l D log F (qU l D F o log s)):=by
 generalize E:qU l D F o log s=aJ;unfold qU at E;refine sX func205 ntmps205 λ w cl own kf=>?_
 refine UO (l:=0) (λ p:Nat×kc×ah=>hx log s p.2.2/\2*(log.length-p.2.2.made)+2<=p.1/\ju l D F o p.1 none log p.2.2=aJ) (λ p=>⟨[(0,.ptr 14 0),(1,u o)],mK l D log F p.2.1 p.2.2,[]⟩) (λ p=>p.1) (2*(log.length-s.made)+2,kp,s) ⟨⟨Nat.le_refl _,hm,fb,Nat.le_refl _⟩,Nat.le_refl _,E⟩ (zX) ?_;rintro⟨k,fd,t⟩ ⟨hG,I,E⟩;simp only at hG I E;obtain⟨k,rfl⟩:∃j,k=j+1:=⟨k-1,by omega⟩;refine(show aK _ _ _ _ ⟨[(0,.ptr 14 0),(1,u o)],mK l D log F fd t,[]⟩ from ?_);rw[ju] at E;refine go ?_;refine Ir 9 10 [] rfl rfl (by kernel_rfl) (by kernel_rfl) (by kernel_rfl) rfl rfl ?_;refine bh ?_;refine xX (Oy l Z D log t 0 F (.inl rfl) hG.le R) ?_ ?_
 ·rintro v U ⟨a,M,h,rfl,rfl⟩;refine gP ?_;exact fP _ ⟨a,M,fd,by rw[<-E];exact bl h,rfl,rfl⟩
 rintro d U ⟨p,s1,bG,fM,cP,rfl,rfl⟩;rw[aw bG] at E;have fU:=hG.same (Ai bG) fM cP;have ky:=Jc hG.le bG;obtain⟨w,mz⟩:=p;simp only at E;have bO:=lj w;refine hZ ?_;refine QT rfl rfl ?_;refine qg ?_;refine dW 11 [] ?_;refine gQ (kB w) ?_;refine go ?_;refine bW (λ p:Nat×EM×Int×ah=>hx log s p.2.2.2/\s.made<p.2.2.2.made/\2*(log.length-p.2.2.2.made)+1<=p.1/\p.1<=k/\(p.2.1.a=0\/p.2.1.a=1\/p.2.1.a=2)/\(p.2.1.b=0\/p.2.1.b=1\/p.2.1.b=2)/\p.2.1.a≠p.2.1.b/\p.2.2.1=3-p.2.1.a-p.2.1.b/\0<=p.2.1.cur/\p.2.1.cur<65536/\ju l D F o p.1 (some p.2.1) log p.2.2.2=aJ)
  (λ p=>⟨[(4,u p.2.1.a),(5,u p.2.1.b),(6,u p.2.2.1),(0,.ptr 14 0),(1,u o)],mK l D log F ⟨false,p.2.1.prev,p.2.1.cur,0,p.2.1.pt⟩ p.2.2.2,[]⟩) (λ p=>p.1) (k,⟨0,1,F,(ay w).idx,mz⟩,2,s1) ⟨fU,by have:=hG.made;simp only;omega,by simp only;omega,Nat.le_refl _,.inl rfl,.inr (.inl rfl),by simp,rfl,bO.1,bO.2,E⟩ (zX) ?_
 rintro⟨j,⟨xa,xb,pv,cu,pt⟩,xc,t2⟩ ⟨fJ,PZ,hj,mf,ha,T,r8,L,FK,FL,E⟩;simp only at fJ PZ hj mf ha T r8 L FK FL E;obtain⟨j,rfl⟩:∃i,j=i+1:=⟨j-1,by omega⟩;rw[ju] at E;simp only at E;rw[<-L] at E;refine(show aK _ _ _ _ ⟨[(4,u xa),(5,u xb),(6,u xc),(0,.ptr 14 0),(1,u o)],mK l D log F ⟨false,pv,cu,0,pt⟩ t2,[]⟩ from ?_);refine go ?_;generalize h1:decide (cu=0)=cc;cases cc
 ·rw[if_neg (of_decide_eq_false h1)] at E;refine go ?_;refine Ir 15 16 [] rfl rfl (by kernel_rfl) (by kernel_rfl) (by kernel_rfl) rfl rfl ?_;refine bh ?_;refine lQ (gB l Z D t2 cu 0 (by omega) (by omega)) ?_;refine bh ?_;refine xP (Oy l Z D log t2 xb (aE l cu 0) T fJ.le R) ?_;rintro d U ⟨p,s2,bm,e7,cy,rfl,rfl⟩;rw[aw bm] at E;have iO:=fJ.same (Ai bm) e7 cy;obtain⟨nw,tl⟩:=p;simp only at E;refine hZ ?_;refine QT rfl rfl ?_;refine qg ?_;refine gW 9 [] ?_;refine xP (eh l D log s2 pv cy R) ?_;rintro d U ⟨seen,s3,bT,fe,cw,rfl,rfl⟩;rw[aw bT,aw eT] at E;have lC:=iO.same (by rw[(fE bT).1]) fe cw;have yc:=iw bT;refine go ?_;refine lA (iV l D s3 (by omega)) ?_;refine gA (sG cu) ?_;generalize A:decide (seen=fO cu)=cc;cases cc
  ·rw[if_neg (of_decide_eq_false A)] at E;refine go ?_;refine Ni ?_
   repeat(first|refine Se ?_|refine Sc ?_)
   refine Sd ?_;exact⟨(j,⟨false,pv,cu,0,pt⟩,s3),⟨lC,by simp only;omega,E⟩,by simp only;omega,zX⟩
  ·rw[if_pos (of_decide_eq_true A)] at E;refine go ?_;refine gW 14 [] ?_;refine lQ (gB l Z D s3 cu 1 (by omega) (by omega)) ?_;refine bh ?_;refine xP (eh l D log s3 (aE l cu 1) cw R) ?_;rintro d U ⟨dX,s4,cB,jb,ez,rfl,rfl⟩;rw[aw cB] at E;have qW:=lC.same (by rw[(fE cB).1]) jb ez;have AD:=iw cB;have tM:=lj nw;refine gA (kB nw) ?_;generalize ye:(ay nw).mark=mk at*;cases mk
   ·rw[if_neg (by decide)] at E;refine go ?_;generalize K:decide (dX<o)=cc;cases cc
    ·rw[if_neg (of_decide_eq_false K)] at E;refine go ?_;generalize h4:decide (dX=o)=cc;cases cc
     ·rw[if_neg (of_decide_eq_false h4)] at E;refine go ?_;exact fX _ ⟨_,s4,E.symm,qW,by omega,FK,FL,rfl,rfl⟩
     ·rw[if_pos (of_decide_eq_true h4)] at E;refine go ?_;exact fX _ ⟨_,s4,E.symm,qW,by omega,FK,FL,rfl,rfl⟩
    ·rw[if_pos (of_decide_eq_true K)] at E;refine go ?_;refine gD [14] ?_;refine Sj aB rfl rfl rfl (by kernel_rfl) ?_;refine bh ?_;refine Sj aB rfl rfl rfl (by kernel_rfl) ?_;refine bh ?_;refine lQ (gB l Z D s4 cu 0 (by omega) (by omega)) ?_;refine bh ?_;refine wL ?_;refine bh ?_;refine wL ?_;refine qg ?_;exact⟨(j,⟨xb,xc,aE l cu 0,(ay nw).idx,tl⟩,xa,s4),⟨qW,by simp only;omega,by simp only;omega,by simp only;omega,T,by simp only;omega,by simp only;omega,by simp only;omega,tM.1,tM.2,E⟩,by simp only;omega,zX⟩
   ·rw[if_pos rfl] at E;refine go ?_;refine dW 18 [] ?_;refine gQ (sG cu) ?_;refine cQ (sG (ay nw).idx) ?_;refine bh ?_;refine xP (i3 l D log s4 pv (fO cu) (fO (ay nw).idx) ez R) ?_;rintro d U ⟨ok,s5,dt,kS,eK,rfl,rfl⟩;rw[aw dt] at E;have tp:=qW.same (by rw[(iZ dt).1]) kS eK;have Df:=lr dt;refine go ?_;cases ok
    ·rw[if_neg (by decide)] at E;refine go ?_;refine Ni ?_
     repeat(first|refine Se ?_|refine Sc ?_)
     refine Sd ?_;exact⟨(j,⟨false,pv,cu,0,pt⟩,s5),⟨tp,by simp only;omega,E⟩,by simp only;omega,zX⟩
    ·rw[if_pos rfl,aw eT] at E;refine go ?_;refine lA (iV l D s5 (by omega)) ?_;refine go ?_;refine gW 9 [] ?_;refine xX (yW l Z D log s5 cu (by omega) tp.ok (by have:=tp.len;have:=tp.le;omega) eK R) ?_ ?_
     ·rintro v U ⟨a,M,h,rfl,rfl⟩;refine gP ?_;refine fP (mK l D log F ⟨false,pv,cu,0,(s5.made:Int)-1⟩ M) ?_;exact⟨a,M,_,by rw[<-E];exact bl h,rfl,rfl⟩
     rintro d U ⟨af,s6,jX,uG,mU,rfl,rfl⟩;rw[aw jX] at E;have Ji:hx log s s6:=by
      have e1:=Ej jX;have e2:s5.gone=s4.gone:=by rw[(iZ dt).1]
      rw[e2] at e1;have:=qW.len;have:=tp.made;exact⟨by omega,mU,Ek jX tp.ok (by omega),by omega⟩
     refine go ?_;exact⟨(j,⟨xb,xa,pv,(ay nw).idx,(s5.made:Int)-1⟩,xc,s6),⟨Ji,by simp only;omega,by simp only;omega,by simp only;omega,T,ha,by simp only;omega,by simp only;omega,tM.1,tM.2,E⟩,by simp only;omega,zX⟩
 ·rw[if_pos (of_decide_eq_true h1)] at E;have JA:cu=0:=of_decide_eq_true h1;refine go ?_;refine fX (mK l D log F ⟨false,pv,cu,0,pt⟩ t2) ?_;exact⟨_,t2,by rw[<-E,JA];rfl,fJ,PZ,FK,FL,rfl,rfl⟩
def H0(l:ag)(D:Int)(log:List aD)(F:Int)(s:ah)(m:Except aT (bf×ah)):G->bE->Prop:=λ d U=>∃x M f,m=.ok (x,M)/\hx log s M/\d=lz x/\U=mK l D log F f M
def H1(l:ag)(D:Int)(log:List aD)(F:Int)(m:Except aT (bf×ah)):Value->bE->Prop:=λ x U=>∃a M f,m=.error a/\x=iz a/\U=mK l D log F f M
theorem hx.trans{log:List aD}{s t af:ah}(h:hx log s t)(A:hx log t af):hx log s af:=by obtain⟨a1,a2,a3,a4⟩:=h;obtain⟨b1,b2,b3,b4⟩:=A;exact⟨by omega,b2,b3,by omega⟩
theorem v9{l:ag}{n:Int}:∀{k:Nat}{log:List aD}{s M:ah}{af:Unit},l9 l n k log s=.ok (af,M)->M.gone=s.gone
 |0,log,s,M,af,h=>by cases h;rfl
 |k+1,log,s,M,af,h=>by
  rw[l9] at h;cases h1:cj l.free log s with
  |error a=>rw[bl h1] at h;cases h
  |ok q=>
   obtain⟨fr,s1⟩:=q;rw[aw h1] at h;have g1:s1.gone=s.gone:=by rw[(fE h1).1]
   cases A:eH (aE l n 7) (ay fr).idx log s1 with
   |error a=>rw[bl A] at h;cases h
   |ok q=>
    obtain⟨lk,s2⟩:=q;rw[aw A] at h;have g2:s2.gone=s.gone:=by rw[(nK A).1];exact g1
    cases K:eZ l.free fr (cf (co (ay fr) n)) log s2 with
    |error a=>rw[bl K] at h;cases h
    |ok q=>
     obtain⟨ok,s3⟩:=q;rw[aw K] at h;have g3:s3.gone=s.gone:=by rw[(iZ K).1];exact g2
     split at h
     ·cases h;exact g3
     ·exact(v9 h).trans g3
theorem Ez{l:ag}:∀{k:Nat}{log:List aD}{s M:ah}{p:Int×Int×Bool},nM l k log s=.ok (p,M)->0<=p.1
 |0,log,s,M,p,h=>by cases h;simp
 |k+1,log,s,M,p,h=>by
  rw[nM] at h;cases h1:cj l.free log s with
  |error a=>rw[bl h1] at h;cases h
  |ok q=>
   obtain⟨fr,s1⟩:=q;rw[aw h1] at h;split at h
   ·rw[aw eT] at h;cases h;simp
   ·cases A:cj (aE l (ay fr).idx 7) log s1 with
    |error a=>rw[bl A] at h;cases h
    |ok q=>
     obtain⟨lk,s2⟩:=q;rw[aw A] at h;cases K:eZ l.free fr (cf (co (ay fr) lk)) log s2 with
     |error a=>rw[bl K] at h;cases h
     |ok q=>
      obtain⟨ok,s3⟩:=q;rw[aw K] at h;split at h
      ·rw[aw eT] at h;cases h4:cj l.era log s3 with
       |error a=>rw[bl h4] at h;cases h
       |ok q=>
        obtain⟨bi,s4⟩:=q;rw[aw h4] at h;cases h5:eH (aE l (ay fr).idx 6) bi log s4 with
        |error a=>rw[bl h5] at h;cases h
        |ok q=>obtain⟨af,s5⟩:=q;rw[aw h5] at h;cases h;exact(lj fr).1
      ·exact Ez h
set_option maxHeartbeats 8000000 in
theorem WI(l:ag)(Z:ca l)(D:Int)(log:List aD)(F o:Int)(kp:kc)(s:ah)(fb:eu s.gone)(dp:s.gone.length+log.length<=10000+s.made)(hm:s.made<=log.length)(R:log.length<=1000000):
 fI prog 189 [11,12,13,14] [.ptr 14 0,u o] (mK l D log F kp s) (H0 l D log F s (getM l D F o log s)) (H1 l D log F (getM l D F o log s)):=by
 generalize E:getM l D F o log s=aJ;unfold getM at E;have hG:hx log s s:=⟨Nat.le_refl _,hm,fb,Nat.le_refl _⟩;refine sX func189 ntmps189 λ w cl own kf=>?_
 refine go ?_;refine xP (Fi l Z D log F o kp s hG.ok (by have:=hG.len;have:=hG.le;omega) hG.le R) ?_;rintro d U ⟨qT,s1,bG,Ar,PV,bR,kr,rfl,rfl⟩;rw[aw bG] at E;have fU:=hG.trans Ar;obtain⟨th,pv,cu,nx,pt⟩:=qT;simp only at E bR kr;refine go ?_;refine gW 12 [] ?_;refine go ?_;cases th
 ·rw[if_neg (by decide),jC] at E;refine go ?_;refine xP (jP l Z D log s1 fU.le R) ?_;rintro d U ⟨af,s2,bm,e7,cy,rfl,rfl⟩;rw[aw bm] at E;have fJ:=fU.same (jt bm) e7 cy;refine go ?_;exact fX _ ⟨_,s2,_,E.symm,fJ,rfl,rfl⟩
 ·rw[if_pos rfl] at E;refine go ?_;refine gW 14 [] ?_;refine lQ (gB l Z D s1 cu 2 (by omega) (by omega)) ?_;refine bh ?_;refine xP (eh l D log s1 (aE l cu 2) fU.le R) ?_;rintro d U ⟨v,s2,bm,e7,cy,rfl,rfl⟩;rw[aw bm,jC] at E;have fJ:=fU.same (by rw[(fE bm).1]) e7 cy;refine go ?_;refine xP (jP l Z D log s2 fJ.le R) ?_;rintro d U ⟨af,s3,bT,fe,cw,rfl,rfl⟩;rw[aw bT] at E;have iO:=fJ.same (jt bT) fe cw;refine go ?_;exact fX _ ⟨_,s3,_,E.symm,iO,rfl,rfl⟩
set_option maxHeartbeats 16000000 in
theorem aca(l:ag)(Z:ca l)(D:Int)(log:List aD)(F o v:Int)(kp:kc)(s:ah)(fb:eu s.gone)(dp:s.gone.length+log.length<=10000+s.made)(hm:s.made<=log.length)(R:log.length<=1000000):
 fI prog 191 [11,12,13,14] [.ptr 14 0,u o,u v] (mK l D log F kp s) (H0 l D log F s (rA l D F o v log s)) (H1 l D log F (rA l D F o v log s)):=by
 generalize E:rA l D F o v log s=aJ;unfold rA at E;have hG:hx log s s:=⟨Nat.le_refl _,hm,fb,Nat.le_refl _⟩;refine sX func191 ntmps191 λ w cl own kf=>?_
 refine go ?_;refine bW (λ p:Nat×Int×kc×ah=>hx log s p.2.2.2/\log.length-p.2.2.2.made<p.1/\0<=p.2.1/\p.2.1<65536/\tV l D F o v p.1 p.2.1 log p.2.2.2=aJ) (λ p=>⟨[(7,u p.2.1),(6,.ptr 4 0),(0,.ptr 14 0),(1,u o),(2,u v)],(4,[u 0,dB false,u 0,u 0,.p (.sl true 0 [])])::mK l D log F p.2.2.1 p.2.2.2,[]⟩) (λ p=>p.1) (log.length+1-s.made,0,kp,s) ⟨hG,by simp only;omega,by simp,by simp,E⟩ (zX) ?_;rintro⟨k,n,fd,t⟩ ⟨hG,I,lR,ib,E⟩;simp only at hG I lR ib E;obtain⟨k,rfl⟩:∃j,k=j+1:=⟨k-1,by omega⟩;refine(show aK _ _ _ _ ⟨[(7,u n),(6,.ptr 4 0),(0,.ptr 14 0),(1,u o),(2,u v)],(4,[u 0,dB false,u 0,u 0,.p (.sl true 0 [])])::mK l D log F fd t,[]⟩ from ?_);rw[tV] at E;refine go ?_;refine xP (Fi l Z D log F o fd t hG.ok (by have:=hG.len;have:=hG.le;omega) hG.le R) ?_;rintro d U ⟨qT,s1,bG,Ar,PV,bR,kr,rfl,rfl⟩;rw[aw bG] at E;have fU:=hG.trans Ar;obtain⟨th,pv,cu,nx,pt⟩:=qT;simp only at E bR kr;refine go ?_;cases th
 ·rw[if_neg (by decide)] at E;refine go ?_;generalize A:decide (n=0)=cc;cases cc
  ·rw[if_neg (of_decide_eq_false A),vf,bind_assoc] at E;refine go ?_;refine gW 16 [] ?_;refine lQ (gB l Z D s1 n 0 (by omega) (by omega)) ?_;refine gQ (sG cu) ?_;refine xP (ii l D log s1 (aE l n 0) (fO cu) fU.le R) ?_;rintro d U ⟨af,s2,bm,e7,cy,rfl,rfl⟩;rw[aw bm,bind_assoc] at E;have fJ:=fU.same (by rw[(nK bm).1]) e7 cy;have n4:=rE bm;refine go ?_;refine dW 17 [] ?_;refine gQ (sG cu) ?_;refine cQ (sG n) ?_;refine bh ?_;refine xP (i3 l D log s2 pv (fO cu) (fO n) fJ.le R) ?_;rintro d U ⟨ok,s3,bT,fe,cw,rfl,rfl⟩;rw[aw bT] at E;have iO:=fJ.same (by rw[(iZ bT).1]) fe cw;have yc:=lr bT;refine go ?_;cases ok
   ·rw[if_neg (by decide)] at E;refine go ?_;exact⟨(k,n,⟨false,pv,cu,nx,pt⟩,s3),⟨iO,by simp only;omega,by simp only;omega,by simp only;omega,E⟩,by simp only;omega,zX⟩
   ·rw[if_pos rfl,bind_assoc,aw eT] at E;have E:jC l D ⟨0,true,0,(s3.made:Int)-1,[]⟩ log s3=aJ:=E;rw[jC] at E;refine go ?_;refine lA (iV l D s3 (by omega)) ?_;refine go ?_;refine xP (jP l Z D log s3 iO.le R) ?_;rintro d U ⟨af,s4,cB,jb,ez,rfl,rfl⟩;rw[aw cB] at E;have lC:=iO.same (jt cB) jb ez;refine go ?_;exact fX _ ⟨_,s4,_,E.symm,lC,rfl,rfl⟩
  ·rw[if_pos (of_decide_eq_true A)] at E;refine go ?_;refine xP (EB l Z D log s1 fU.le R) ?_;rintro d U ⟨p,s2,bm,e7,cy,rfl,rfl⟩;rw[aw bm] at E;have n8:=Ey bm;have Ds:=Ez bm;have fJ:=fU.same n8.2 e7 cy;obtain⟨n2,UG,RA⟩:=p;simp only at E n8 Ds;refine go ?_;cases RA
   ·rw[if_neg (by decide),jC] at E;refine go ?_;refine xP (jP l Z D log s2 fJ.le R) ?_;rintro d U ⟨af,s3,bT,fe,cw,rfl,rfl⟩;rw[aw bT] at E;have iO:=fJ.same (jt bT) fe cw;refine go ?_;exact fX _ ⟨_,s3,_,E.symm,iO,rfl,rfl⟩
   ·rw[if_pos rfl] at E;refine go ?_;refine gW 11 [] ?_;refine lQ (gB l Z D s2 n2 1 (by omega) (by omega)) ?_;refine bh ?_;refine xP (ii l D log s2 (aE l n2 1) o fJ.le R) ?_;rintro d U ⟨af,s3,bT,fe,cw,rfl,rfl⟩;rw[aw bT] at E;have iO:=fJ.same (by rw[(nK bT).1]) fe cw;refine go ?_;refine gW 11 [] ?_;refine lQ (gB l Z D s3 n2 2 (by omega) (by omega)) ?_;refine bh ?_;refine xP (ii l D log s3 (aE l n2 2) v iO.le R) ?_;rintro d U ⟨af,s4,cB,jb,ez,rfl,rfl⟩;rw[aw cB,vf,bind_assoc] at E;have lC:=iO.same (by rw[(nK cB).1]) jb ez;refine go ?_;refine gW 16 [] ?_;refine lQ (gB l Z D s4 n2 0 (by omega) (by omega)) ?_;refine gQ (sG cu) ?_;refine xP (ii l D log s4 (aE l n2 0) (fO cu) lC.le R) ?_;rintro d U ⟨af,s5,dt,kS,eK,rfl,rfl⟩;rw[aw dt,bind_assoc] at E;have qW:=lC.same (by rw[(nK dt).1]) kS eK;have Df:=rE dt;refine go ?_;refine dW 17 [] ?_;refine gQ (sG cu) ?_;refine cQ (sG n2) ?_;refine bh ?_;refine xP (i3 l D log s5 pv (fO cu) (fO n2) qW.le R) ?_;rintro d U ⟨ok,s6,jX,uG,mU,rfl,rfl⟩;rw[aw jX] at E;have tp:=qW.same (by rw[(iZ jX).1]) uG mU;have PX:=lr jX;refine go ?_;cases ok
    ·rw[if_neg (by decide)] at E;refine go ?_;exact⟨(k,n2,⟨false,pv,cu,nx,pt⟩,s6),⟨tp,by simp only;omega,by simp only;omega,by simp only;omega,E⟩,by simp only;omega,zX⟩
    ·rw[if_pos rfl,bind_assoc,aw eT] at E;have E:jC l D ⟨0,true,0,(s6.made:Int)-1,[]⟩ log s6=aJ:=E;rw[jC] at E;refine go ?_;refine lA (iV l D s6 (by omega)) ?_;refine go ?_;refine xP (jP l Z D log s6 tp.le R) ?_;rintro d U ⟨af,s7,oW,Dc,uH,rfl,rfl⟩;rw[aw oW] at E;have Ji:=tp.same (jt oW) Dc uH;refine go ?_;exact fX _ ⟨_,s7,_,E.symm,Ji,rfl,rfl⟩
 ·rw[if_pos rfl] at E;refine go ?_;generalize A:decide (n=0)=cc;cases cc
  ·rw[if_neg (of_decide_eq_false A)] at E;refine go ?_;refine xP (wa l Z D log s1 n (by omega) fU.le R) ?_;rintro d U ⟨af,s2,bm,e7,cy,rfl,rfl⟩;rw[aw bm,jC] at E;have fJ:=fU.same (v9 bm) e7 cy;refine go ?_;refine xP (jP l Z D log s2 fJ.le R) ?_;rintro d U ⟨af,s3,bT,fe,cw,rfl,rfl⟩;rw[aw bT] at E;have iO:=fJ.same (jt bT) fe cw;refine go ?_;exact fX _ ⟨_,s3,_,E.symm,iO,rfl,rfl⟩
  ·rw[if_pos (of_decide_eq_true A),jC] at E;refine go ?_;refine xP (jP l Z D log s1 fU.le R) ?_;rintro d U ⟨af,s2,bm,e7,cy,rfl,rfl⟩;rw[aw bm] at E;have fJ:=fU.same (jt bm) e7 cy;refine go ?_;exact fX _ ⟨_,s2,_,E.symm,fJ,rfl,rfl⟩
set_option maxHeartbeats 16000000 in
theorem VE(l:ag)(Z:ca l)(D:Int)(log:List aD)(F o:Int)(kp:kc)(s:ah)(fb:eu s.gone)(dp:s.gone.length+log.length<=10000+s.made)(hm:s.made<=log.length)(R:log.length<=1000000):
 fI prog 193 [11,12,13,14] [.ptr 14 0,u o] (mK l D log F kp s) (H0 l D log F s (qR l D F o log s)) (H1 l D log F (qR l D F o log s)):=by
 generalize E:qR l D F o log s=aJ;unfold qR at E;have hG:hx log s s:=⟨Nat.le_refl _,hm,fb,Nat.le_refl _⟩;refine sX func193 ntmps193 λ w cl own kf=>?_
 refine go ?_;refine bW (λ p:Nat×kc×ah=>hx log s p.2.2/\log.length-p.2.2.made<p.1/\vT l D F o p.1 log p.2.2=aJ) (λ p=>⟨[(4,.ptr 4 0),(0,.ptr 14 0),(1,u o)],(4,[u 0,dB false,u 0,u 0,.p (.sl true 0 [])])::mK l D log F p.2.1 p.2.2,[]⟩) (λ p=>p.1) (log.length+1-s.made,kp,s) ⟨hG,by simp only;omega,E⟩ (zX) ?_;rintro⟨k,fd,t⟩ ⟨hG,I,E⟩;simp only at hG I E;obtain⟨k,rfl⟩:∃j,k=j+1:=⟨k-1,by omega⟩;refine(show aK _ _ _ _ ⟨[(4,.ptr 4 0),(0,.ptr 14 0),(1,u o)],(4,[u 0,dB false,u 0,u 0,.p (.sl true 0 [])])::mK l D log F fd t,[]⟩ from ?_);rw[vT] at E;refine go ?_;refine xP (Fi l Z D log F o fd t hG.ok (by have:=hG.len;have:=hG.le;omega) hG.le R) ?_;rintro d U ⟨qT,s1,bG,Ar,PV,bR,kr,rfl,rfl⟩;rw[aw bG] at E;have fU:=hG.trans Ar;obtain⟨th,pv,cu,nx,pt⟩:=qT;simp only at E bR kr;refine go ?_;cases th
 ·rw[if_neg (by decide),jC] at E;refine go ?_;refine xP (jP l Z D log s1 fU.le R) ?_;rintro d U ⟨af,s2,bm,e7,cy,rfl,rfl⟩;rw[aw bm] at E;have fJ:=fU.same (jt bm) e7 cy;refine go ?_;exact fX _ ⟨_,s2,_,E.symm,fJ,rfl,rfl⟩
 ·rw[if_pos rfl] at E;have tM:=lj nx;refine gA (kB nx) ?_;refine gW 21 [] ?_;refine lQ (gB l Z D s1 cu 0 (by omega) (by omega)) ?_;refine gQ (aaw (ay nx).idx) ?_;refine xP (i3 l D log s1 (aE l cu 0) nx (ol (ay nx).idx) fU.le R) ?_;rintro d U ⟨ok,s2,bm,e7,cy,rfl,rfl⟩;rw[aw bm] at E;have fJ:=fU.same (by rw[(iZ bm).1]) e7 cy;have n4:=lr bm;refine go ?_;cases ok
  ·rw[if_neg (by decide)] at E;refine go ?_;exact⟨(k,⟨true,pv,cu,nx,pt⟩,s2),⟨fJ,by simp only;omega,E⟩,by simp only;omega,zX⟩
  ·rw[if_pos rfl,aw eT] at E;refine go ?_;refine lA (iV l D s2 (by omega)) ?_;refine go ?_;refine dW 17 [] ?_;refine gQ (sG cu) ?_;refine cQ (sG (ay nx).idx) ?_;refine bh ?_;refine xP (i3 l D log s2 pv (fO cu) (fO (ay nx).idx) fJ.le R) ?_;rintro d U ⟨ok,s3,bT,fe,cw,rfl,rfl⟩;rw[aw bT] at E;have iO:=fJ.same (by rw[(iZ bT).1]) fe cw;have yc:=lr bT;refine go ?_;cases ok
   ·rw[if_neg (by decide)] at E;refine go ?_;refine xP (Fi l Z D log F o ⟨true,pv,cu,nx,pt⟩ s3 iO.ok (by have:=iO.len;have:=iO.le;omega) iO.le R) ?_;rintro d U ⟨f4,s4,cB,W3,afv,bY,O8,rfl,rfl⟩;rw[aw cB] at E;have lC:=iO.trans W3;obtain⟨af4,afX,aeS,afV,afW⟩:=f4;rw[jC] at E;refine go ?_;refine xP (jP l Z D log s4 lC.le R) ?_;rintro d U ⟨af,s5,dt,kS,eK,rfl,rfl⟩;rw[aw dt] at E;have qW:=lC.same (jt dt) kS eK;refine go ?_;exact fX _ ⟨_,s5,_,E.symm,qW,rfl,rfl⟩
   ·rw[if_pos rfl] at E;refine go ?_;refine xP (jP l Z D log s3 iO.le R) ?_;rintro d U ⟨af,s4,cB,jb,ez,rfl,rfl⟩;rw[aw cB] at E;have lC:=iO.same (jt cB) jb ez;refine go ?_;refine gW 9 [] ?_;refine xP (yW l Z D log s4 cu (by omega) lC.ok (by have:=lC.len;have:=lC.le;omega) lC.le R) ?_;rintro d U ⟨af,s5,dt,kS,eK,rfl,rfl⟩;rw[aw dt] at E;have qW:hx log s s5:=by
     have e1:=Ej dt;have e2:s4.gone=s2.gone:=(jt cB).trans (by rw[(iZ bT).1]);rw[e2] at e1;have:=fJ.len;have:=fJ.made;have:=lC.made;exact⟨by omega,eK,Ek dt lC.ok (by omega),by omega⟩
    refine go ?_;exact fX _ ⟨_,s5,_,E.symm,qW,rfl,rfl⟩
def ub(m:Except aT (bf×ah)):G->bE->Prop:=λ d U=>U=[]/\((∃x M,m=.ok (x,M)/\d=.bg [fy eN,jQ {x with gone:=M.gone},dB true])\/∃a,m=.error a/\d=.bg [fy a,lz j8,dB false])
abbrev vW(a:aT)(od:List G)(dn:Bool):St:=⟨[(4,.ptr 22 0),(5,.ptr 23 0),(6,.ptr 24 0)],jg a od dn,[]⟩
def xq(m:Except aT (bf×ah))(Γ:bI):Exit->St->Prop:=λ ex J=>(ex=.ret/\∃x M,m=.ok (x,M)/\bN Γ J (vW eN (ot {x with gone:=M.gone}) true))\/∃a,ex=.panic [pe (iz a)]/\m=.error a/\bN Γ J (vW eN [u 0,dB false,u 0,u 0,.p (.sl true 0 [])] false)
abbrev wO(l:ag)(D:Int)(log:List aD)(op:bt)(f:kc)(s:ah):bE:=[(11,m9 l D s),(12,[.ptr 11 0]),(13,[gH log]),(14,Oh op.obj f),(15,[.ptr 14 0]),(16,[u op.kind,u op.obj,u op.a,u op.b])]
def t9(l:ag)(D:Int)(log:List aD)(op:bt)(s:ah)(m:Except aT (bf×ah)):G->bE->Prop:=λ d U=>∃x M f,m=.ok (x,M)/\hx log s M/\d=lz x/\U=wO l D log op f M
def ua(l:ag)(D:Int)(log:List aD)(op:bt)(m:Except aT (bf×ah)):Value->bE->Prop:=λ x U=>∃a M f,m=.error a/\x=iz a/\U=wO l D log op f M
theorem aaV(l:ag)(Z:ca l)(D:Int)(log:List aD)(op:bt)(kp:kc)(s:ah)(fb:eu s.gone)(dp:s.gone.length+log.length<=10000+s.made)(hm:s.made<=log.length)(R:log.length<=1000000):
 fI prog 188 [11,12,13,14,15,16] [.ptr 15 0,.ptr 16 0] (wO l D log op kp s) (t9 l D log op s (getM l D op.obj op.a log s)) (ua l D log op (getM l D op.obj op.a log s)):=by
 generalize E:getM l D op.obj op.a log s=aJ;refine sX func188 ntmps188 λ w cl own kf=>?_
 refine go ?_;refine xP (WI l Z D log op.obj op.a kp s fb dp hm R) ?_;rintro d U ⟨x,M,iM,h,hG,rfl,rfl⟩;refine go ?_;exact fX _ ⟨x,M,iM,E.symm.trans h,hG,rfl,rfl⟩
theorem aa1(l:ag)(Z:ca l)(D:Int)(log:List aD)(op:bt)(kp:kc)(s:ah)(fb:eu s.gone)(dp:s.gone.length+log.length<=10000+s.made)(hm:s.made<=log.length)(R:log.length<=1000000):
 fI prog 190 [11,12,13,14,15,16] [.ptr 15 0,.ptr 16 0] (wO l D log op kp s) (t9 l D log op s (rA l D op.obj op.a op.b log s)) (ua l D log op (rA l D op.obj op.a op.b log s)):=by
 generalize E:rA l D op.obj op.a op.b log s=aJ;refine sX func190 ntmps190 λ w cl own kf=>?_
 refine go ?_;refine xP (aca l Z D log op.obj op.a op.b kp s fb dp hm R) ?_;rintro d U ⟨x,M,iM,h,hG,rfl,rfl⟩;refine go ?_;exact fX _ ⟨x,M,iM,E.symm.trans h,hG,rfl,rfl⟩
theorem aaI(l:ag)(Z:ca l)(D:Int)(log:List aD)(op:bt)(kp:kc)(s:ah)(fb:eu s.gone)(dp:s.gone.length+log.length<=10000+s.made)(hm:s.made<=log.length)(R:log.length<=1000000):
 fI prog 192 [11,12,13,14,15,16] [.ptr 15 0,.ptr 16 0] (wO l D log op kp s) (t9 l D log op s (qR l D op.obj op.a log s)) (ua l D log op (qR l D op.obj op.a log s)):=by
 generalize E:qR l D op.obj op.a log s=aJ;refine sX func192 ntmps192 λ w cl own kf=>?_
 refine go ?_;refine xP (VE l Z D log op.obj op.a kp s fb dp hm R) ?_;rintro d U ⟨x,M,iM,h,hG,rfl,rfl⟩;refine go ?_;exact fX _ ⟨x,M,iM,E.symm.trans h,hG,rfl,rfl⟩
set_option maxHeartbeats 4000000 in
theorem Lu(am:FuncId)(hF:jN prog am)(l:ag)(D:Int)(log:List aD)(op:bt)(kp:kc)(s:ah)(m:Except aT (bf×ah))(tC:s.gone.length+log.length<=100000)(hC:fI prog am [11,12,13,14,15,16] [.ptr 15 0,.ptr 16 0] (wO l D log op kp s) (t9 l D log op s m) (ua l D log op m)):
 eo prog 187 [] [.ptr 11 0,.fn (.func am) [] [.ptr 15 0,.ptr 16 0]] (wO l D log op kp s) (ub m):=by
 intro e vs hI hv;refine calls_of_wp_defers func187 rfl ?_;have h2:=uT (fn:=f187) (f:=39) (aU:=[]) [] (Nat.le_of_ble_eq_true (by kernel_rfl)) trivial hI hv rfl;refine wp_seq (Code.wp_mono (λ ex a1 w1 hh=>?_) (aK.run (Q:=λ ex J=>ex=.normal/\J=⟨[(6,.ptr 24 0),(5,.ptr 23 0),(4,.ptr 22 0),(2,.ptr 21 0),(0,.ptr 11 0),(1,.fn (.func am) [] [.ptr 15 0,.ptr 16 0])],(24,[dB false])::(23,[u 0,dB false,u 0,u 0,.p (.sl true 0 [])])::(22,[u 0,u 0,u 0,u 0])::(21,[.ptr 11 0])::wO l D log op kp s,[]⟩) ?_ _ e h2))
 ·obtain⟨nN,e1,rfl,bR,rfl,rfl⟩:=hh;obtain⟨k1,_,_,b1,_,_⟩:=bR.boxes 21 _ rfl;obtain⟨k2,_,_,b2,_,_⟩:=bR.boxes 22 _ rfl;obtain⟨k3,_,_,b3,_,_⟩:=bR.boxes 23 _ rfl;obtain⟨k4,_,_,b4,_,_⟩:=bR.boxes 24 _ rfl;refine wp_seq (BJ bR rfl rfl rfl rfl rfl rfl rfl rfl [(21,k1),(22,k2),(23,k3),(24,k4)] (λ b k I=>?_) (λ a2 cG cY eE=>?_))
  ·simp only[cM] at I;split at I
   ·rename_i q;cases I;rw[<-q];exact b1
   ·split at I
    ·rename_i q;cases I;rw[<-q];exact b2
    ·split at I
     ·rename_i q;cases I;rw[<-q];exact b3
     ·split at I
      ·rename_i q;cases I;rw[<-q];exact b4
      ·cases I
  ·refine Code.wp_mono (λ ex a3 w3 hh=>?_) (aK.run (Γ:=⟨18,e.w,e.cl,λ k=>∃b,e.bx b=some k,[(21,k1),(22,k2),(23,k3),(24,k4)],[{target:=.fn (.func 204) cG.toArray,args:=#[]}]⟩) (Q:=xq m ⟨18,e.w,e.cl,λ k=>∃b,e.bx b=some k,[(21,k1),(22,k2),(23,k3),(24,k4)],[{target:=.fn (.func 204) cG.toArray,args:=#[]}]⟩) ?_ a2 e1 eE)
   ·obtain⟨ED,e3,rfl,io,hq⟩:=hh;rcases hq with⟨rfl,x,M,hm,eQ⟩|⟨a,rfl,hm,eQ⟩
    ·skip
     obtain⟨e4,kT,bY⟩:=eQ a3 e3 io;show Leaves prog f187 a3.tmps _ a3.defers .returning e3.w;rw[bY.df,<-kT];have kQ:DReps e4 cG [.ptr 22 0,.ptr 21 0,.ptr 23 0,.ptr 24 0]:=⟨cY.1,λ i v d hv F=>by
      match i,hv,F with
      |0,hv,F=>cases F;exact eU (cY.2 0 v _ hv rfl) b2 (bY.env.kb 22 k2 rfl)
      |1,hv,F=>cases F;exact eU (cY.2 1 v _ hv rfl) b1 (bY.env.kb 21 k1 rfl)
      |2,hv,F=>cases F;exact eU (cY.2 2 v _ hv rfl) b3 (bY.env.kb 23 k3 rfl)
      |3,hv,F=>cases F;exact eU (cY.2 3 v _ hv rfl) b4 (bY.env.kb 24 k4 rfl)⟩
     refine rh bY (λ a w=>call204 a w) kQ rfl (by(repeat(first|exact trivial|refine⟨⟨rfl,rfl⟩,?_⟩))) ⟨.inr rfl,.inr rfl,.inr rfl,.inr rfl,trivial⟩ rfl (by simp) rfl (λ e0 pW h1 A=>yR eN {x with gone:=M.gone} true h1 A) (λ aq T=>by subst T;exact⟨.inl rfl,.inl rfl,.inl rfl,.inl rfl,trivial⟩) (λ aq e5 T dE=>?_);subst T;obtain⟨v,hr,jZ⟩:=pd aB (fn:=f187) (d:=.bg [fy eN,jQ {x with gone:=M.gone},dB true]) dE rfl;refine⟨v,hr,v,_,[],e5.cut (aF []) λ _=>false,rfl,rfl,⟨rfl,.inl ⟨x,M,hm,rfl⟩⟩,ly dE trivial,jZ.cut rfl,⟨dE.env.kept,dE.env.cl,λ b k I=>?_,λ b T=>by cases T⟩⟩;cases I
    ·skip
     obtain⟨e4,kT,bY⟩:=eQ a3 e3 io;show Leaves prog f187 a3.tmps _ a3.defers (.panicking [pe (iz a)]) e3.w;rw[bY.df,<-kT];have kQ:DReps e4 cG [.ptr 22 0,.ptr 21 0,.ptr 23 0,.ptr 24 0]:=⟨cY.1,λ i v d hv F=>by
      match i,hv,F with
      |0,hv,F=>cases F;exact eU (cY.2 0 v _ hv rfl) b2 (bY.env.kb 22 k2 rfl)
      |1,hv,F=>cases F;exact eU (cY.2 1 v _ hv rfl) b1 (bY.env.kb 21 k1 rfl)
      |2,hv,F=>cases F;exact eU (cY.2 2 v _ hv rfl) b3 (bY.env.kb 23 k3 rfl)
      |3,hv,F=>cases F;exact eU (cY.2 3 v _ hv rfl) b4 (bY.env.kb 24 k4 rfl)⟩
     refine rh bY (λ a w=>call204 a w) kQ rfl (by(repeat(first|exact trivial|refine⟨⟨rfl,rfl⟩,?_⟩))) ⟨.inr rfl,.inr rfl,.inr rfl,.inr rfl,trivial⟩ rfl (by simp) rfl (λ e0 pW h1 A=>yS eN a _ rfl false h1 A) (λ aq T=>by subst T;exact⟨.inl rfl,.inl rfl,.inl rfl,.inl rfl,trivial⟩) (λ aq e5 T dE=>?_);subst T;obtain⟨v,hr,jZ⟩:=pd aB (fn:=f187) (d:=.bg [fy a,lz j8,dB false]) dE rfl;refine⟨v,hr,v,_,[],e5.cut (aF []) λ _=>false,rfl,rfl,⟨rfl,.inr ⟨a,hm,rfl⟩⟩,ly dE trivial,jZ.cut rfl,⟨dE.env.kept,dE.env.cl,λ b k I=>?_,λ b T=>by cases T⟩⟩;cases I
   ·refine go ?_;refine MW hC rfl hF rfl rfl rfl (by(repeat(first|exact trivial|refine⟨⟨rfl,rfl⟩,?_⟩))) (by(repeat(first|exact trivial|refine⟨.inr rfl,?_⟩|refine⟨.inl rfl,?_⟩))) rfl rfl rfl rfl ?_ ?_ ?_ ?_
    ·rintro d U ⟨x,M,iM,_,_,rfl,rfl⟩;exact⟨.inl rfl,.inl rfl,.inl rfl,.inl rfl,.inl rfl,.inl rfl,trivial⟩
    ·rintro v U ⟨a,M,iM,_,rfl,rfl⟩;exact⟨.inl rfl,.inl rfl,.inl rfl,.inl rfl,.inl rfl,.inl rfl,trivial⟩
    ·rintro v U ⟨a,M,iM,h,rfl,rfl⟩;refine gP ?_;exact .inr ⟨a,rfl,h,bN.trans (qN 21 rfl rfl) (zX)⟩
    rintro d U ⟨x,M,iM,h,nE,rfl,rfl⟩;have X8:=nE.len;have X9:=nE.le;refine gA ((pq M.gone (by omega)).pure) ?_;refine gW 3 [22] ?_;refine go ?_;exact .inl ⟨rfl,x,M,h,bN.trans (qN 21 rfl rfl) (zX)⟩
 ·refine gS ?_;refine bA 21 ?_;refine nA 22 ?_;refine nA 23 ?_;refine nA 24 ?_;exact kl ⟨rfl,rfl⟩
abbrev rT(r:aT×bf×Bool):G:=.bg [fy r.1,jQ r.2.1,dB r.2.2]
set_option maxHeartbeats 8000000 in
theorem DZ(l:ag)(Z:ca l)(D:Int)(gone:List (Int×Int))(op:bt)(log:List aD)(fb:eu gone)(dp:gone.length+log.length<=10000):aX prog 150 [dD l,u D,d7 gone,zv op,gH log] (rT (dw l D gone op log)):=by
 generalize E:dw l D gone op log=aJ;unfold dw at E;have R:log.length<=1000000:=by omega
 refine sP func150 ntmps150 λ w cl=>?_
 refine gS ?_;refine bA 0 ?_;refine bA 16 ?_;refine nA 2 ?_;refine nA 3 ?_;refine go ?_;generalize h1:decide (op.obj<0)=cc;cases cc
 ·have aP:=of_decide_eq_false h1;refine go ?_;generalize A:decide (op.obj>=l.size)=cc;cases cc
  ·have bs:=of_decide_eq_false A;rw[if_neg (by omega)] at E;refine go ?_;refine UR 4 10 rfl rfl (by kernel_rfl) (by kernel_rfl) (by kernel_rfl) (by kernel_rfl) rfl ?_;refine bh ?_;refine Vc (Ce l D gone log) (λ d U h=>h) rfl (λ a w=>call186 a w) rfl rfl rfl rfl rfl (by(repeat(first|exact trivial|refine⟨rfl,rfl,?_⟩))) ?_;refine w3 ?_;refine w3 ?_;refine w6 ?_;refine rB (EW 14 rfl rfl rfl rfl) rfl rfl rfl rfl ?_;refine rB (vF aB 15 rfl rfl rfl rfl) rfl rfl rfl rfl ?_;refine w5 ?_;refine go ?_;generalize K:decide (op.kind=1)=cc;cases cc
   ·rw[if_neg (of_decide_eq_false K)] at E;refine go ?_;generalize h4:decide (op.kind=2)=cc;cases cc
    ·rw[if_neg (of_decide_eq_false h4)] at E;refine go ?_;generalize h5:decide (op.kind=3)=cc;cases cc
     ·rw[if_neg (of_decide_eq_false h5)] at E;refine gA (sH gone (by omega)) ?_;refine d8 ?_;rw[<-E]
     ·rw[if_pos (of_decide_eq_true h5)] at E;refine go ?_;refine hJ (Lu _ (λ a w=>call192 a w) l D log op xK ⟨0,gone,0,0,0⟩ _ (by simp only;omega) (aaI l Z D log op xK ⟨0,gone,0,0,0⟩ fb (by simp only;omega) (Nat.zero_le _) R)) rfl (λ a w=>call187 a w) rfl rfl (by(repeat(first|exact trivial|refine⟨⟨rfl,rfl⟩,?_⟩))) trivial rfl rfl rfl rfl ?_ ?_
      ·rintro d U ⟨rfl,_⟩;exact trivial
      rintro d U ⟨rfl,⟨x,M,hm,rfl⟩|⟨a,hm,rfl⟩⟩
      ·rw[hm] at E;refine gf ?_;rw[<-E];rfl
      ·rw[hm] at E;refine gf ?_;rw[<-E];rfl
    ·rw[if_pos (of_decide_eq_true h4)] at E;refine go ?_;refine hJ (Lu _ (λ a w=>call190 a w) l D log op xK ⟨0,gone,0,0,0⟩ _ (by simp only;omega) (aa1 l Z D log op xK ⟨0,gone,0,0,0⟩ fb (by simp only;omega) (Nat.zero_le _) R)) rfl (λ a w=>call187 a w) rfl rfl (by(repeat(first|exact trivial|refine⟨⟨rfl,rfl⟩,?_⟩))) trivial rfl rfl rfl rfl ?_ ?_
     ·rintro d U ⟨rfl,_⟩;exact trivial
     rintro d U ⟨rfl,⟨x,M,hm,rfl⟩|⟨a,hm,rfl⟩⟩
     ·rw[hm] at E;refine gf ?_;rw[<-E];rfl
     ·rw[hm] at E;refine gf ?_;rw[<-E];rfl
   ·rw[if_pos (of_decide_eq_true K)] at E;refine go ?_;refine hJ (Lu _ (λ a w=>call188 a w) l D log op xK ⟨0,gone,0,0,0⟩ _ (by simp only;omega) (aaV l Z D log op xK ⟨0,gone,0,0,0⟩ fb (by simp only;omega) (Nat.zero_le _) R)) rfl (λ a w=>call187 a w) rfl rfl (by(repeat(first|exact trivial|refine⟨⟨rfl,rfl⟩,?_⟩))) trivial rfl rfl rfl rfl ?_ ?_
    ·rintro d U ⟨rfl,_⟩;exact trivial
    rintro d U ⟨rfl,⟨x,M,hm,rfl⟩|⟨a,hm,rfl⟩⟩
    ·rw[hm] at E;refine gf ?_;rw[<-E];rfl
    ·rw[hm] at E;refine gf ?_;rw[<-E];rfl
  ·have bs:=of_decide_eq_true A;rw[if_pos (by omega)] at E;refine gA (sH gone (by omega)) ?_;refine d8 ?_;rw[<-E]
 ·have aP:=of_decide_eq_true h1;rw[if_pos (by omega)] at E;refine gA (sH gone (by omega)) ?_;refine d8 ?_;rw[<-E]
end Go.Proofs.YtcnefjfboagbmaaGreat
