/- Words by bits, buckets' parents: their walks. -/
import Derived.Test.YtcnefjfboagbmaaGreatWA
import Derived.Test.YtcnefjfboagbmaaGreatPA
import Derived.Test.YtcnefjfboagbmaaGreatLB
import Derived.ScopeJumps
namespace Go.Proofs.YtcnefjfboagbmaaGreat
open Go.Proofs.Tryz
open Go.RowKit
set_option maxRecDepth 100000
section
variable{P:Program}{ah:Nat->Option TI}{S:Nat->Option F}{B:Nat->Option (List F)}{o:Oper}
theorem YC{ty aa:TypeId}{x y:Operand}{a i:Int}(n:Nat)(X:o.op=.binOp .shr ty x y aa)(T:ev S x=some (z a))(hy:ev S y=some (z i))(Z:i=n)(hn:n<=63):dm P o S B (z (a/2^n)) none:=by
 subst Z;refine hZ λ ac e hs=>?_
 have bV:=cE (hs.1 x (by rw[X];simp[Op.operands]) _ T);have eR:=cE (hs.1 y (by rw[X];simp[Op.operands]) _ hy);refine⟨_,?_,.p (.raw _)⟩;obtain⟨dst,op,type,pos,after,guard⟩:=o;simp only at X;subst X;have D:min n 64=n:=by omega
 have R:(binOp .shr ty (.int .i64 a) (.int .i64 (n:Int))).run P e.w=.ok (.int .i64 (a/2^n)) e.w:=by show(Op.shift .shr .i64 a .i64 (n:Int)).run P e.w=_;rw[shift_shr_any _ _ _ _ (Int.natCast_nonneg n)];show Result.ok (Value.int .i64 (a/2^min ((n:Int).toNat) 64)) e.w=_;rw[Int.toNat_natCast,D]
 simp[execOp,bV,eR,eqGuard,R]
theorem YB{ty aa:TypeId}{x y:Operand}{m:Nat}(n:Nat)(X:o.op=.binOp .shr ty x y aa)(T:ev S x=some (dU m))(hy:ev S y=some (.p (.raw (.int .u64 (n:Int)))))(hn:n<=63):dm P o S B (dU (m>>>n)) none:=by
 refine hZ λ ac e hs=>?_
 have bV:=cE (hs.1 x (by rw[X];simp[Op.operands]) _ T);have eR:=cE (hs.1 y (by rw[X];simp[Op.operands]) _ hy);refine⟨_,?_,.p (.raw _)⟩;obtain⟨dst,op,type,pos,after,guard⟩:=o;simp only at X;subst X;have D:min n 64=n:=by omega
 have R:(binOp .shr ty (.int .u64 (m:Int)) (.int .u64 (n:Int))).run P e.w=.ok (.int .u64 ((m>>>n:Nat):Int)) e.w:=by
  show(Op.shift .shr .u64 (m:Int) .u64 (n:Int)).run P e.w=_;rw[shift_shr_any _ _ _ _ (Int.natCast_nonneg n)];show Result.ok (Value.int .u64 ((m:Int)/2^min ((n:Int).toNat) 64)) e.w=_;have hp:(2:Int)^n=((2^n:Nat):Int):=by norm_cast
  rw[Int.toNat_natCast,D,hp,Nat.shiftRight_eq_div_pow]
  congr 2
 simp[execOp,bV,eR,eqGuard,R]
theorem QM{m n:Nat}(hn:n<=61)(u:2^n<=m)(D:m<2^(n+1)):IntKind.i64.wrap (((BitVec.ofInt 64 (m:Int)&&&~~~BitVec.ofInt 64 (2^n:Int)).toNat:Nat):Int)=(m:Int)-2^n:=by
 have hp:(2:Int)^n=((2^n:Nat):Int):=by norm_cast
 have ZJ:(2:Nat)^(n+1)<=2^62:=Nat.pow_le_pow_right (by omega) (by omega);obtain⟨r,rfl⟩:∃r,m=2^n+r:=⟨m-2^n,by omega⟩;have hr:r<2^n:=by rw[Nat.pow_succ] at D;omega
 have K:(BitVec.ofInt 64 ((2^n+r:Nat):Int)&&&~~~BitVec.ofInt 64 (2^n:Int)).toNat=r:=by
  rw[hp];have:(BitVec.ofInt 64 ((2^n+r:Nat):Int)&&&~~~BitVec.ofInt 64 ((2^n:Nat):Int)).toNat=h3 (2^n+r) n:=by simp only[BitVec.ofInt_natCast,h3]
  rw[this];refine Nat.eq_of_testBit_eq λ j=>?_
  rw[Rr _ _ _ (by omega)];have h4:2^n+r=2^n*1+r:=by omega
  rw[h4,Nat.testBit_two_pow_mul_add _ hr]
  by_cases hj:j<n
  ·rw[if_pos hj];have:¬n=j:=by omega
   simp[this]
  ·rw[if_neg hj];have Uz:r.testBit j=false:=Nat.testBit_lt_two_pow (Nat.lt_of_lt_of_le hr (Nat.pow_le_pow_right (by omega) (by omega)));rw[Uz]
   by_cases TJ:n=j
   ·simp[TJ]
   ·have:(1:Nat).testBit (j-n)=false:=Nat.testBit_lt_two_pow (Nat.one_lt_two_pow (by omega));simp[this]
 rw[K,hp,xG (Int.natCast_nonneg r) (by omega)];omega
theorem QL{ty aa:TypeId}{x y:Operand}{a c:Int}(n:Nat)(X:o.op=.binOp .andNot ty x y aa)(T:ev S x=some (z a))(hy:ev S y=some (z c))(L:c=2^n)(hn:n<=61)(u:(2^n:Nat)<=a)(D:a<(2^(n+1):Nat)):dm P o S B (z (a-2^n)) none:=by
 subst L;obtain⟨m,rfl⟩:=Int.eq_ofNat_of_zero_le (show 0<=a by omega);refine hZ λ ac e hs=>?_
 have bV:=cE (hs.1 x (by rw[X];simp[Op.operands]) _ T);have eR:=cE (hs.1 y (by rw[X];simp[Op.operands]) _ hy);refine⟨_,?_,.p (.raw _)⟩;obtain⟨dst,op,type,pos,after,guard⟩:=o;simp only at X;subst X;have R:(binOp .andNot ty (.int .i64 (m:Int)) (.int .i64 (2^n:Int))).run P e.w=.ok (.int .i64 ((m:Int)-2^n)) e.w:=by rw[<-QM hn (by omega) (by omega)];rfl
 simp[execOp,bV,eR,eqGuard,R]
theorem PB{ty:TypeId}{x y:Operand}{k:IntKind}{i:Nat}{s:ByteArray}{c:UInt8}(X:o.op=.index ty x y)(ht:P.underlying ty=some .string)(T:ev S x=some (.p (.raw (.string s))))(hy:ev S y=some (.p (.raw (.int k (i:Int)))))(Z:s[i]?=some c):dm P o S B (.p (.raw (.int .u8 (c.toNat:Int)))) none:=by
 refine hZ λ ac e hs=>?_
 have bV:=cE (hs.1 x (by rw[X];simp[Op.operands]) _ T);have eR:=cE (hs.1 y (by rw[X];simp[Op.operands]) _ hy);refine⟨_,?_,.p (.raw _)⟩;obtain⟨dst,op,type,pos,after,guard⟩:=o;simp only at X;subst X;simp[execOp,Instr.index,asIntOf,bV,eR,run_underlying ht,Z]
theorem GP{ty aa:TypeId}{x y:Operand}{m n:Nat}(X:o.op=.binOp .geq ty x y aa)(T:ev S x=some (dU m))(hy:ev S y=some (dU n)):dm P o S B (dB (decide (n<=m))) none:=by
 refine hZ λ ac e hs=>?_
 have bV:=cE (hs.1 x (by rw[X];simp[Op.operands]) _ T);have eR:=cE (hs.1 y (by rw[X];simp[Op.operands]) _ hy);refine⟨_,?_,.p (.raw _)⟩;obtain⟨dst,op,type,pos,after,guard⟩:=o;simp only at X;subst X;have R:(binOp .geq ty (.int .u64 (m:Int)) (.int .u64 (n:Int))).run P e.w=.ok (.bool (decide ((n:Int)<=m))) e.w:=rfl;have G:decide ((n:Int)<=m)=decide (n<=m):=by rw[decide_eq_decide];omega
 rw[G] at R;simp[execOp,bV,eR,eqGuard,R]
theorem PF(s:ByteArray)(f:Nat->Nat)(h:(List.range 256).all (λ i=>decide (s[i]?=some (UInt8.ofNat (f i))))=true){m:Nat}(hm:m<256):s[m]?=some (UInt8.ofNat (f m)):=by
 have:=List.all_eq_true.1 h m (List.mem_range.2 hm)
 simpa using this
end
def pm(n:Nat):Nat:=if n=0 then 0 else Nat.log2 n+1
theorem VJ{n k:Nat}(h:2^k<=n):Nat.log2 (n/2^k)=Nat.log2 n-k:=by
 have J:0<2^k:=Nat.two_pow_pos k;have hq:n/2^k≠0:=by have:=Nat.div_pos h J;omega
 have hn:n≠0:=by omega
 have u:k<=Nat.log2 n:=(Nat.le_log2 hn).2 h;have D:=Nat.log2_self_le hn;have K:n<2^(Nat.log2 n+1):=(Nat.log2_lt hn).1 (Nat.lt_succ_self _);have h4:2^(Nat.log2 n-k)<=n/2^k:=(Nat.le_div_iff_mul_le J).2 (by rw[<-Nat.pow_add];rwa [Nat.sub_add_cancel u]);have h5:n/2^k<2^(Nat.log2 n-k+1):=(Nat.div_lt_iff_lt_mul J).2 (by rw[<-Nat.pow_add];rwa [show Nat.log2 n-k+1+k=Nat.log2 n+1 by omega]);have h6:=(Nat.le_log2 hq).2 h4;have h7:=(Nat.log2_lt hq).2 h5;omega
theorem Vv{n k:Nat}(h:2^k<=n):pm n=k+pm (n/2^k):=by have J:0<2^k:=Nat.two_pow_pos k;have hq:=Nat.div_pos h J;have u:k<=Nat.log2 n:=(Nat.le_log2 (by omega)).2 h;unfold pm;rw[if_neg (by omega),if_neg (by omega),VJ h];omega
theorem P3{m:Nat}(hm:m<256):IntKind.u8.wrap (m:Int)=(m:Int):=by simp only[IntKind.wrap,IntKind.signed,IntKind.bits];simp;omega
theorem Vx{m:Nat}(hm:m<256):pm m<=8:=by
 unfold pm;split
 ·omega
 ·have:=(Nat.log2_lt (n:=m) (k:=8) (by omega)).2 (by omega);omega
theorem PI(m a:Nat)(hm:m<256)(ha:a<=16):((UInt8.ofNat (pm m)).toNat:Int)=pm m/\(a:Int)+pm m<=100:=by have:=Vx hm;refine⟨?_,by omega⟩;rw[UInt8.toNat_ofNat'];omega
set_option maxHeartbeats 4000000 in
theorem Vs(n:Nat)(hn:n<65536):aW prog 202 [dU n] (z (pm n)):=by
 refine sP func202 ntmps202 λ w cl=>?_
 refine go ?_;refine bf (GP rfl rfl rfl) rfl rfl rfl ?_;rw[show decide (4294967296<=n)=false by rw[decide_eq_false_iff_not];omega];refine go ?_;refine bf (GP rfl rfl rfl) rfl rfl rfl ?_;rw[show decide (65536<=n)=false by rw[decide_eq_false_iff_not];omega];refine go ?_;refine bf (GP rfl rfl rfl) rfl rfl rfl ?_;generalize u:decide (256<=n)=cc;cases cc
 ·have aN:=of_decide_eq_false u;obtain⟨D,K⟩:=PI n 0 (by omega) (by omega);refine go ?_
  repeat refine mq aw rfl rfl rfl rfl ?_
  rw[show IntKind.u8.wrap ((n:Nat):Int)=((n:Nat):Int) from P3 (by omega)];refine bf (PB rfl underlying9 rfl rfl (PF _ pm (by kernel_rfl) (by omega))) rfl rfl rfl ?_;refine bf (Gt aw rfl rfl rfl rfl (by omega) (by omega)) rfl rfl rfl ?_;rw[D];refine go ?_;refine gf ?_;rw[Int.zero_add]
 ·have aN:=of_decide_eq_true u;have h4:n/256<256:=by omega
  obtain⟨D,K⟩:=PI (n/256) 8 h4 (by omega);have h5:=Vv (n:=n) (k:=8) (by omega);refine go ?_;refine bf (YB 8 rfl rfl rfl (by omega)) rfl rfl rfl ?_;rw[show n>>>8=n/256 from Nat.shiftRight_eq_div_pow n 8];refine go ?_
  repeat refine mq aw rfl rfl rfl rfl ?_
  rw[show IntKind.u8.wrap ((n/256:Nat):Int)=((n/256:Nat):Int) from P3 (by omega)];refine bf (PB rfl underlying9 rfl rfl (PF _ pm (by kernel_rfl) h4)) rfl rfl rfl ?_;refine bf (Gt aw rfl rfl rfl rfl (by omega) (by omega)) rfl rfl rfl ?_;rw[D];refine go ?_;refine gf ?_;rw[h5];rfl
theorem Vu(n:Nat)(hn:n<65536):aW prog 184 [dU n] (z (pm n)):=by
 refine sP func184 ntmps184 λ w cl=>?_
 refine gA (Vs n hn) ?_;refine dt ?_
 rfl
theorem Zc{b:Int}(h0:0<=b)(u:b<65536):IntKind.u64.wrap b=((b.toNat:Nat):Int):=by obtain⟨n,rfl⟩:=Int.eq_ofNat_of_zero_le h0;rw[P4 (by omega),Int.toNat_natCast]
theorem W3(b:Int)(R:b<65536):aW prog 146 [z b] (z (lj b)):=by
 generalize A:lj b=aK;unfold lj at A;refine sP func146 ntmps146 λ w cl=>?_
 refine go ?_;generalize u:decide (b<1)=cc;cases cc
 ·have aN:=of_decide_eq_false u;rw[if_neg (by omega)] at A;have hn:b.toNat≠0:=by omega
  have M:pm b.toNat=Nat.log2 b.toNat+1:=if_neg hn;have D:=Nat.log2_self_le hn;have K:b.toNat<2^(Nat.log2 b.toNat+1):=(Nat.log2_lt hn).1 (Nat.lt_succ_self _);have h4:Nat.log2 b.toNat<16:=(Nat.log2_lt hn).2 (by omega);have h5:(2:Nat)^Nat.log2 b.toNat<=2^16:=Nat.pow_le_pow_right (by omega) (by omega);have h6:(2:Int)^Nat.log2 b.toNat=((2^Nat.log2 b.toNat:Nat):Int):=by norm_cast
  refine go ?_;rw[Zc (by omega) R];refine cA (Vu b.toNat (by omega)) ?_;rw[M];refine go ?_;refine bf (tL (Nat.log2 b.toNat) rfl rfl rfl (by omega) (by omega) (by omega) (by omega)) rfl rfl rfl ?_;refine bf (QL (Nat.log2 b.toNat) rfl rfl rfl (by omega) (by omega) (by omega) (by omega)) rfl rfl rfl ?_;refine gf ?_;rw[A]
 ·rw[if_pos (of_decide_eq_true u)] at A;refine gf ?_;rw[<-A]
structure iY(l:ab):Prop where
 b:0<=l.buckets/\l.buckets<=64
 m:kM l.maps
 d:kM l.done
def sh(k:Int):Nat->Int
 |0=>0
 |i+1=>sh k i+k/2^i%2*2^(15-i)
theorem OX(k:Int):ny k=sh k 16:=by unfold ny;simp only[List.range,List.range.loop,List.map_cons,List.map_nil,List.sum_cons,List.sum_nil,sh];omega
theorem Kq(k:Int)(i:Nat):0<=k/2^i%2/\k/2^i%2<=1:=by have u:=Int.emod_nonneg (k/2^i) (show(2:Int)≠0 by omega);have D:=Int.emod_lt_of_pos (k/2^i) (show(0:Int)<2 by omega);omega
theorem Jh(k:Int):∀i:Nat,i<=16->∃q:Int,sh k i=2^(16-i)*q/\0<=q/\q<2^i
 |0,_=>⟨0,by simp[sh],by omega,by simp⟩
 |i+1,Z=>by
  obtain⟨q,u,D,K⟩:=Jh k i (by omega);obtain⟨b0,b1⟩:=Kq k i;refine⟨2*q+k/2^i%2,?_,by omega,?_⟩
  ·rw[sh,u,show 16-i=(15-i)+1 by omega,show 16-(i+1)=15-i by omega,Int.pow_succ,Int.mul_add,Int.mul_assoc,Int.mul_comm (2^(15-i)) (k/2^i%2)]
  ·rw[Int.pow_succ];omega
theorem OY(k:Int)(i:Nat)(Z:i<=16):0<=sh k i/\sh k i<65536:=by
 obtain⟨q,u,D,K⟩:=Jh k i Z;rw[u];have hp:(0:Int)<2^(16-i):=Int.pow_pos (by omega);have h4:(2:Int)^(16-i)*2^i=65536:=by rw[<-Int.pow_add,Nat.sub_add_cancel Z];rfl
 exact⟨Int.mul_nonneg (by omega) D,by rw[<-h4];exact Int.mul_lt_mul_of_pos_left K hp⟩
theorem OW(k:Int):0<=ny k/\ny k<65536:=by rw[OX];exact OY k 16 (Nat.le_refl _)
theorem WO{P:Program}{S:Nat->Option F}{B:Nat->Option (List F)}{o:Oper}{ty aa:TypeId}{x y:Operand}{a c:Int}(k:Nat)(q:Int)(X:o.op=.binOp .or ty x y aa)(T:ev S x=some (z a))(hy:ev S y=some (z c))(SQ:a=2^k*q)(h0:0<=c)(u:c<2^k)(hq:0<=q)(L:a+c<9223372036854775808):dm P o S B (z (a+c)) none:=by
 subst SQ;refine hZ λ ac e hs=>?_
 have bV:=cE (hs.1 x (by rw[X];simp[Op.operands]) _ T);have eR:=cE (hs.1 y (by rw[X];simp[Op.operands]) _ hy);refine⟨_,?_,.p (.raw _)⟩;obtain⟨dst,op,type,pos,after,guard⟩:=o;simp only at X;subst X;have R:(binOp .or ty (.int .i64 (2^k*q:Int)) (.int .i64 c)).run P e.w=.ok (.int .i64 (2^k*q+c)) e.w:=by rw[Int.add_comm,<-N4 h0 u hq (by omega),BitVec.or_comm];rfl
 simp[execOp,bV,eR,eqGuard,R]
theorem Ji(k:Int):aW prog 109 [z k] (z (ny k)):=by
 rw[OX];refine sP func109 ntmps109 λ w cl=>?_
 refine go ?_;refine bL (λ i:Nat=>i<=16) (λ i=>⟨[(5,z i),(3,z (sh k i)),(0,z k)],[],[]⟩) (λ i=>16-i) 0 (Nat.zero_le _) (zX) ?_;intro i Z;refine(show aJ _ _ _ _ ⟨[(5,z i),(3,z (sh k i)),(0,z k)],[],[]⟩ from ?_);refine go ?_;generalize u:decide ((i:Int)<16)=cc;cases cc
 ·have aN:=of_decide_eq_false u;obtain rfl:i=16:=by omega
  refine gf ?_
  rfl
 ·have aN:=of_decide_eq_true u;obtain⟨q,D,K,h4⟩:=Jh k i Z;obtain⟨b0,b1⟩:=Kq k i;have aak:(0:Int)<2^(15-i):=Int.pow_pos (by omega);have aal:(2:Int)^(16-i)=2^(15-i)*2:=by rw[show 16-i=(15-i)+1 by omega,Int.pow_succ]
  have bG:(2:Int)^(15-i)<=32768:=by
   have:=Nat.pow_le_pow_right (n:=2) (by omega) (show 15-i<=15 by omega);have h6:(2:Int)^(15-i)=((2^(15-i):Nat):Int):=by norm_cast
   omega
  have ZR:0<=k/2^i%2*2^(15-i)/\k/2^i%2*2^(15-i)<=2^(15-i):=by rcases(show k/2^i%2=0\/k/2^i%2=1 by omega) with h|h<;>rw[h]<;>omega
  have aam:=OY k i Z;refine go ?_;refine bf (YC i rfl rfl rfl (by omega) (by omega)) rfl rfl rfl ?_;refine cA (wW (k/2^i) 1 (by omega)) ?_;rw[show k/2^i%2^1=k/2^i%2 from rfl];refine go ?_;refine bf (tL (15-i) rfl rfl rfl (by omega) (by omega) (by omega) (by omega)) rfl rfl rfl ?_;refine bf (WO (16-i) q rfl rfl rfl (by omega) (by omega) (by omega) (by omega) (by omega)) rfl rfl rfl ?_;refine go ?_;exact⟨i+1,by omega,by omega,zX⟩
theorem XO(k:Int):aW prog 122 [z k] (z (E4 k)):=by
 have h:=OW k;refine sP func122 ntmps122 λ w cl=>?_
 refine gA (Ji k) ?_;rw[show IntKind.i64.wrap (IntKind.i64.wrap (2*ny k)+1)=E4 k by rw[show IntKind.i64.wrap (2*ny k)=2*ny k from xG (by omega) (by omega),xG (by omega) (by omega)];rfl];refine gf ?_
 rfl
theorem RN(k:Int):aW prog 147 [z k] (z (yj k)):=by
 have h:=OW k;refine sP func147 ntmps147 λ w cl=>?_
 refine gA (Ji k) ?_;rw[show IntKind.i64.wrap (2*ny k)=yj k from xG (by omega) (by omega)];refine gf ?_
 rfl
theorem MY(n:Int):aW prog 83 [z n] (z (uF n)):=by
 refine sP func83 ntmps83 λ w cl=>?_
 refine gA (wW n 17 (by omega)) ?_;refine bf (CG 1 rfl rfl rfl (by omega)) rfl rfl rfl ?_;refine cA (Ji (n%2^17/2^1)) ?_;refine gf ?_
 rfl
theorem ze(l:ab)(hL:bQ l)(hM:iY l)(m i:Int)(Z:i<9223372036854775808):aW prog 73 [cF l,z m,z i] (z (hb l m i)):=by
 have e1:=hL.map;have e2:=hM.m;have e3:=hM.b;refine sP func73 ntmps73 λ w cl=>?_
 refine go ?_;generalize k1:decide (i>1)=cc;cases cc
 ·have qX:=of_decide_eq_false k1;refine gA (vi l.map l.maps (2+l.buckets) m i e1 e2 (by omega) Z) ?_;refine dt ?_;rw[hb,if_neg qX]
 ·refine gf ?_;rw[hb,if_pos (of_decide_eq_true k1)]
theorem AK(l:ab)(hL:bQ l)(hM:iY l)(m b:Int):aW prog 43 [cF l,z m,z b] (z (fA l m b)):=by
 have e1:=hL.map;have e2:=hM.m;have e3:=hM.b;refine sP func43 ntmps43 λ w cl=>?_
 refine go ?_;generalize k1:decide (b<0)=cc;cases cc
 ·have qX:=of_decide_eq_false k1;refine go ?_;generalize k2:decide (b>=l.buckets)=cc;cases cc
  ·have uE:=of_decide_eq_false k2;refine gA (vi l.map l.maps (2+l.buckets) m (2+b) e1 e2 (by omega) (by omega)) ?_;refine dt ?_;rw[fA,if_neg (by omega)]
  ·refine gf ?_;rw[fA,if_pos (.inr (of_decide_eq_true k2))]
 ·refine gf ?_;rw[fA,if_pos (.inl (of_decide_eq_true k1))]
def Ib(l:Nat)(Au:St->Prop)(Q:Exit->St->Prop):Exit->St->Prop
 |.goto ik,I=>ik=l/\Au I
 |ex,I=>Q ex I
theorem Ik{p:Nat->Prop}:∀n,p n->∃k,p k/\∀m,p m->k<=m:=by
 intro n;induction n using Nat.strongRecOn with
 |_ n ih=>
  intro h
  by_cases hh:∃m,m<n/\p m
  ·obtain⟨m,u,D⟩:=hh;exact ih m u D
  ·refine⟨n,h,λ m hm=>?_⟩;rcases Nat.lt_or_ge m n with u|u
   ·exact absurd ⟨m,u,hm⟩ hh
   ·exact u
section
variable{P:Program}{Γ:bE}{Q:Exit->St->Prop}{I:St}{r:Code}
theorem Q0{dE:Type}(ok:dE->Prop)(iX:dE->St)(lM:dE->Nat){l:Nat}(i0:dE)(J:ok i0)(h0:bF Γ I (iX i0))(W5:∀i,ok i->aJ P Γ r (Ib l (λ bS=>∃j,ok j/\lM j<lM i/\bF Γ bS (iX j)) Q) (iX i)):aJ P Γ (.scope (.seq (.label l) r)) Q I:=by
 classical
 refine⟨λ a e L=>?_⟩
 let at_:Act->World->Nat->Prop:=λ a w n=>∃i e,ok i/\bw Γ (iX i) e a/\e.w=w/\lM i=n
 let low:Act->World->Nat:=λ a w=>if h:∃n,at_ a w n then Classical.choose (Ik (p:=at_ a w) h.choose h.choose_spec) else 0
 have Nt:∀a w n,at_ a w n->at_ a w (low a w)/\low a w<=n:=λ a w n hn=>by
  have h:∃n,at_ a w n:=⟨n,hn⟩;have hs:=Classical.choose_spec (Ik (p:=at_ a w) h.choose h.choose_spec);have e:low a w=Classical.choose (Ik (p:=at_ a w) h.choose h.choose_spec):=dif_pos h;rw[e];exact⟨hs.1,hs.2 n hn⟩
 have body:∀(a:Act)(w:World)(n:Nat),at_ a w n->r.wp P (Exit.jump l (λ bu aH=>(∃m,at_ bu aH m)/\low bu aH<n) (iZ Γ Q)) a w:=by
  rintro a w n ⟨i,e,u,D,rfl,rfl⟩;refine Code.wp_mono (λ ex bu aH hh=>?_) ((W5 i u).run a e D);obtain⟨bS,V,rfl,K,h4⟩:=hh;cases ex with
  |goto ik=>obtain⟨rfl,j,h5,h6,h7⟩:=h4;obtain⟨e2,h8,h9⟩:=h7 bu V K;have mJ:at_ bu V.w (lM j):=⟨j,e2,h5,h9,h8,rfl⟩;exact⟨rfl,⟨_,mJ⟩,Nat.lt_of_le_of_lt (Nt _ _ _ mJ).2 h6⟩
  |_=>exact⟨bS,V,rfl,K,h4⟩
 obtain⟨e1,g1,g2⟩:=h0 a e L;have b8:at_ a e.w (lM i0):=⟨i0,e1,J,g2,g1,rfl⟩;refine wp_scope_jumps (rest:=.seq .skip r) l (λ a w=>∃n,at_ a w n) low (by simp[findLabel]) ?_ ?_
 ·refine wp_seq (wp_label ?_);exact Code.wp_mono (λ ex bu aH hh=>by cases ex<;>first|exact⟨hh.1,hh.2.1⟩|exact hh) (body a e.w _ b8)
 ·rintro a w ⟨n,hn⟩;exact wp_seq (wp_skip (body a w _ (Nt a w n hn).1))
end
section
variable{P:Program}{Γ:bE}{Q:Exit->St->Prop}{bC:St->Prop}{Au:St->Prop}{I:St}{l id:Nat}
theorem Kl(h:Q (.goto l) I):aJ P Γ (.goto l) Q I:=⟨λ _ e L=>wp_goto ⟨I,e,rfl,L,h⟩⟩
theorem OC(h:Q (.goto l) I):ql bC Q (.goto l) I:=h
theorem OA(h:Q (.goto l) I):oR id Q (.goto l) I:=h
theorem OB(h:Au I):Ib l Au Q (.goto l) I:=⟨rfl,h⟩
theorem XA{ep:bE}{l1 l3:List Oper}{m:Nat}{ch:List PanicEntry}(h:Q (.panic ch) I):BY P ep l1 l3 m Q (.panic ch) I:=h
theorem Xz{ch:List PanicEntry}(h:Q (.panic ch) I):Ib l Au Q (.panic ch) I:=h
end
abbrev K8(G:Int)(f:jU):List F:=[.ptr 11 0,dB f.there,z f.prev,z f.cur,z f.next,z f.cJ,z G]
abbrev lU(l:ab)(E:Int)(log:List aB)(G:Int)(f:jU)(s:af):bH:=[(11,me l E s),(12,[.ptr 11 0]),(13,[fS log]),(14,K8 G f)]
structure gF(log:List aB)(s U:af):Prop where
 made:s.made<=U.made
 le:U.made<=log.length
 ok:ee U.gone
 len:U.gone.length+s.made<=s.gone.length+U.made
def P9(l:ab)(E:Int)(log:List aB)(G:Int)(s:af)(m:Except aS (jU×af)):F->bH->Prop:=λ d O=>∃f U,m=.ok (f,U)/\gF log s U/\s.made<U.made/\0<=f.cur/\f.cur<65536/\d=.bc []/\O=lU l E log G f U
def Qa(l:ab)(E:Int)(log:List aB)(G:Int)(m:Except aS (jU×af)):Value->bH->Prop:=λ x O=>∃a U f,m=.error a/\x=hk a/\O=lU l E log G f U
theorem gF.same{log:List aB}{s t s1:af}(h:gF log s t)(hg:s1.gone=t.gone)(u:t.made<=s1.made)(D:s1.made<=log.length):gF log s s1:=by obtain⟨a1,a2,a3,a4⟩:=h;exact⟨by omega,D,by rw[hg];exact a3,by rw[hg];omega⟩
theorem I6(x:af)(i v:Int):(x.mf i v).made=x.made:=by
 unfold af.mf;split
 ·rfl
 ·split<;>rfl
theorem A8{l:ab}{E i cell:Int}:∀{k:Nat}{log:List aB}{s U:af}{p:Int×Int},kq l E i cell k log s=.ok (p,U)->s.made<=U.made/\(0<k->s.made<U.made)
 |0,log,s,U,p,h=>by cases h;exact⟨Nat.le_refl _,λ h=>absurd h (Nat.lt_irrefl _)⟩
 |k+1,log,s,U,p,h=>by
  rw[kq] at h;cases u:cy cell log s with
  |error a=>rw[bl u] at h;cases h
  |ok q=>
   obtain⟨v,s1⟩:=q;rw[au u,au eC] at h;have g1:=g9 u;cases D:cy l.era log s1 with
   |error a=>rw[bl D] at h;cases h
   |ok q=>
    obtain⟨er,s2⟩:=q;rw[au D] at h;have g2:=g9 D;split at h
    ·cases h;exact⟨by omega,λ _=>by omega⟩
    ·cases K:fa (b7 l E i) er log s2 with
     |error a=>rw[bl K] at h;cases h
     |ok q=>obtain⟨aa,s3⟩:=q;rw[au K] at h;have g3:=qi K;have g4:=(A8 h).1;rw[I6] at g4;exact⟨by omega,λ _=>by omega⟩
theorem GS{l:ab}{E i cell:Int}{log:List aB}{s U:af}{p:Int×Int}(hm:s.made<=log.length)(h:kT l E i cell log s=.ok (p,U)):s.made<U.made:=(A8 h).2 (by omega)
theorem xA{l:ab}{aM:List Int}:∀{gs aY:List (Int×Int)}{log:List aB}{s U:af}{r:List (Int×Int)},eU l aM gs aY log s=.ok (r,U)->ee gs->ee aY->ee r
 |[],aY,log,s,U,r,h,_,D=>by cases h;exact D
 |g::gs,aY,log,s,U,r,h,u,D=>by
  have aN:ee gs:=λ p hp=>u p (List.mem_cons_of_mem _ hp)
  rw[eU] at h;cases k1:cy (am l g.1 6) log s with
  |error a=>rw[bl k1] at h;cases h
  |ok q=>
   obtain⟨b,s1⟩:=q;rw[au k1] at h;split at h
   ·exact xA h aN (λ p hp=>by
     rw[List.mem_append,List.mem_singleton] at hp;rcases hp with hp|rfl
     ·exact D p hp
     ·exact u _ (by simp))
   ·cases k2:m8 l g.1 log s1 with
    |error a=>rw[bl k2] at h;cases h
    |ok q=>obtain⟨aa,s2⟩:=q;rw[au k2] at h;exact xA h aN D
theorem GQ{g:List (Int×Int)}{n e:Int}(h:ee g)(hn:n<9223372036854775808):ee (g++[(n,e)]):=by
 intro p hp;rw[List.mem_append,List.mem_singleton] at hp;rcases hp with hp|rfl
 ·exact h p hp
 ·exact hn
theorem Cy{l:ab}{n:Int}{log:List aB}{s U:af}{aa:Unit}(h:kg l n log s=.ok (aa,U))(hg:ee s.gone)(hn:n<9223372036854775808):ee U.gone:=by
 unfold kg at h;cases u:cy l.era log s with
 |error a=>rw[bl u] at h;cases h
 |ok q=>
  obtain⟨er,s1⟩:=q;rw[au u] at h;have g1:s1.gone=s.gone:=by rw[(fm u).1]
  cases D:fw ⟨4,l.era,0,1⟩ log s1 with
  |error a=>rw[bl D] at h;cases h
  |ok q=>
   obtain⟨r,s2⟩:=q;rw[au D] at h;have g2:s2.gone=s.gone:=by rw[(sF D).1];exact g1
   have hq:ee (s2.gone++[(n,er)]):=by rw[g2];exact GQ hg hn
   split at h
   ·cases h;exact hq
   ·unfold rc at h;cases K:jy [] (je l 0 l.aA.toNat) log {s2 with gone:=s2.gone++[(n,er)]} with
    |error a=>rw[bl K] at h;cases h
    |ok q=>
     obtain⟨aM,s3⟩:=q;rw[au K] at h;cases h4:eU l aM (s2.gone++[(n,er)]) [] log s3 with
     |error a=>rw[bl h4] at h;cases h
     |ok q=>obtain⟨aY,s4⟩:=q;rw[au h4] at h;unfold iG at h;cases h;exact xA h4 hq (λ p hp=>by simp at hp)
theorem q8(n:Int):aW prog 212 [z n] (z (hJ n)):=by
 refine sP func212 ntmps212 λ w cl=>?_
 refine gA (li ⟨n,false,0⟩) ?_;refine dt ?_
 rfl
theorem VX(n:Int):aW prog 215 [z n] (z (EC n)):=by
 refine sP func215 ntmps215 λ w cl=>?_
 refine gA (li ⟨n,true,0⟩) ?_;refine dt ?_
 rfl
set_option maxHeartbeats 16000000 in
theorem Dr(l:ab)(hL:bQ l)(E:Int)(log:List aB)(G o:Int)(iM:jU)(s:af)(eO:ee s.gone)(gz:s.gone.length+log.length<=10000+s.made)(hm:s.made<=log.length)(M:log.length<=1000000):
 fu prog 205 [11,12,13,14] [.ptr 14 0,z o] (lU l E log G iM s) (P9 l E log G s (rD l E G o log s)) (Qa l E log G (rD l E G o log s)):=by
 generalize A:rD l E G o log s=aK;unfold rD at A;refine sX func205 ntmps205 λ w cl own kf=>?_
 refine Q0 (l:=0) (λ p:Nat×jU×af=>gF log s p.2.2/\2*(log.length-p.2.2.made)+2<=p.1/\nF l E G o p.1 none log p.2.2=aK) (λ p=>⟨[(0,.ptr 14 0),(1,z o)],lU l E log G p.2.1 p.2.2,[]⟩) (λ p=>p.1) (2*(log.length-s.made)+2,iM,s) ⟨⟨Nat.le_refl _,hm,eO,Nat.le_refl _⟩,Nat.le_refl _,A⟩ (zX) ?_;rintro⟨k,fd,t⟩ ⟨hG,J,A⟩;simp only at hG J A;obtain⟨k,rfl⟩:∃j,k=j+1:=⟨k-1,by omega⟩;refine(show aJ _ _ _ _ ⟨[(0,.ptr 14 0),(1,z o)],lU l E log G fd t,[]⟩ from ?_);rw[nF] at A;refine go ?_;refine Gf 9 10 [] rfl rfl (by kernel_rfl) (by kernel_rfl) (by kernel_rfl) rfl rfl ?_;refine ba ?_;refine xX (Lg l hL E log t 0 G (.inl rfl) hG.le M) ?_ ?_
 ·rintro v O ⟨a,U,h,rfl,rfl⟩;refine gP ?_;exact fP _ ⟨a,U,fd,by rw[<-A];exact bl h,rfl,rfl⟩
 rintro d O ⟨p,s1,bJ,fB,cN,rfl,rfl⟩;rw[au bJ] at A;have fI:=hG.same (yu bJ) fB cN;have lD:=GS hG.le bJ;obtain⟨w,gE⟩:=p;simp only at A;have bV:=j8 w;refine gG ?_;refine M6 rfl rfl ?_;refine qg ?_;refine dW 11 [] ?_;refine gQ (jS w) ?_;refine go ?_;refine bL (λ p:Nat×FT×Int×af=>gF log s p.2.2.2/\s.made<p.2.2.2.made/\2*(log.length-p.2.2.2.made)+1<=p.1/\p.1<=k/\(p.2.1.a=0\/p.2.1.a=1\/p.2.1.a=2)/\(p.2.1.b=0\/p.2.1.b=1\/p.2.1.b=2)/\p.2.1.a≠p.2.1.b/\p.2.2.1=3-p.2.1.a-p.2.1.b/\0<=p.2.1.cur/\p.2.1.cur<65536/\nF l E G o p.1 (some p.2.1) log p.2.2.2=aK)
  (λ p=>⟨[(4,z p.2.1.a),(5,z p.2.1.b),(6,z p.2.2.1),(0,.ptr 14 0),(1,z o)],lU l E log G ⟨false,p.2.1.prev,p.2.1.cur,0,p.2.1.pt⟩ p.2.2.2,[]⟩) (λ p=>p.1) (k,⟨0,1,G,(az w).idx,gE⟩,2,s1) ⟨fI,by have:=hG.made;simp only;omega,by simp only;omega,Nat.le_refl _,.inl rfl,.inr (.inl rfl),by simp,rfl,bV.1,bV.2,A⟩ (zX) ?_
 rintro⟨j,⟨xa,xb,pv,cu,pt⟩,xc,t2⟩ ⟨fx,pX,hj,lB,ha,R,v9,L,DF,DG,A⟩;simp only at fx pX hj lB ha R v9 L DF DG A;obtain⟨j,rfl⟩:∃i,j=i+1:=⟨j-1,by omega⟩;rw[nF] at A;simp only at A;rw[<-L] at A;refine(show aJ _ _ _ _ ⟨[(4,z xa),(5,z xb),(6,z xc),(0,.ptr 14 0),(1,z o)],lU l E log G ⟨false,pv,cu,0,pt⟩ t2,[]⟩ from ?_);refine go ?_;generalize u:decide (cu=0)=cc;cases cc
 ·rw[if_neg (of_decide_eq_false u)] at A;refine go ?_;refine Gf 15 16 [] rfl rfl (by kernel_rfl) (by kernel_rfl) (by kernel_rfl) rfl rfl ?_;refine ba ?_;refine lQ (fY l hL E t2 cu 0 (by omega) (by omega)) ?_;refine ba ?_;refine xP (Lg l hL E log t2 xb (am l cu 0) R fx.le M) ?_;rintro d O ⟨p,s2,bg,eK,cn,rfl,rfl⟩;rw[au bg] at A;have ia:=fx.same (yu bg) eK cn;obtain⟨nw,tl⟩:=p;simp only at A;refine gG ?_;refine M6 rfl rfl ?_;refine qg ?_;refine gW 9 [] ?_;refine xP (dV l E log s2 pv cn M) ?_;rintro d O ⟨seen,s3,bR,eQ,ci,rfl,rfl⟩;rw[au bR,au eC] at A;have kD:=ia.same (by rw[(fm bR).1]) eQ ci;have Mn:=g9 bR;refine go ?_;refine lA (im l E s3 (by omega)) ?_;refine gA (q8 cu) ?_;generalize D:decide (seen=hJ cu)=cc;cases cc
  ·rw[if_neg (of_decide_eq_false D)] at A;refine go ?_;refine Kl ?_
   repeat(first|refine OC ?_|refine OA ?_)
   refine OB ?_;exact⟨(j,⟨false,pv,cu,0,pt⟩,s3),⟨kD,by simp only;omega,A⟩,by simp only;omega,zX⟩
  ·rw[if_pos (of_decide_eq_true D)] at A;refine go ?_;refine gW 14 [] ?_;refine lQ (fY l hL E s3 cu 1 (by omega) (by omega)) ?_;refine ba ?_;refine xP (dV l E log s3 (am l cu 1) ci M) ?_;rintro d O ⟨dY,s4,ct,iB,ef,rfl,rfl⟩;rw[au ct] at A;have pO:=kD.same (by rw[(fm ct).1]) iB ef;have Z7:=g9 ct;have uz:=j8 nw;refine gA (jS nw) ?_;generalize l6:(az nw).mark=mk at*;cases mk
   ·rw[if_neg (by decide)] at A;refine go ?_;generalize K:decide (dY<o)=cc;cases cc
    ·rw[if_neg (of_decide_eq_false K)] at A;refine go ?_;generalize h4:decide (dY=o)=cc;cases cc
     ·rw[if_neg (of_decide_eq_false h4)] at A;refine go ?_;exact fX _ ⟨_,s4,A.symm,pO,by omega,DF,DG,rfl,rfl⟩
     ·rw[if_pos (of_decide_eq_true h4)] at A;refine go ?_;exact fX _ ⟨_,s4,A.symm,pO,by omega,DF,DG,rfl,rfl⟩
    ·rw[if_pos (of_decide_eq_true K)] at A;refine go ?_;refine gD [14] ?_;refine zv aw rfl rfl rfl (by kernel_rfl) ?_;refine ba ?_;refine zv aw rfl rfl rfl (by kernel_rfl) ?_;refine ba ?_;refine lQ (fY l hL E s4 cu 0 (by omega) (by omega)) ?_;refine ba ?_;refine wL ?_;refine ba ?_;refine wL ?_;refine qg ?_;exact⟨(j,⟨xb,xc,am l cu 0,(az nw).idx,tl⟩,xa,s4),⟨pO,by simp only;omega,by simp only;omega,by simp only;omega,R,by simp only;omega,by simp only;omega,by simp only;omega,uz.1,uz.2,A⟩,by simp only;omega,zX⟩
   ·rw[if_pos rfl] at A;refine go ?_;refine dW 18 [] ?_;refine gQ (q8 cu) ?_;refine cQ (q8 (az nw).idx) ?_;refine ba ?_;refine xP (iu l E log s4 pv (hJ cu) (hJ (az nw).idx) ef M) ?_;rintro d O ⟨ok,s5,di,j6,ej,rfl,rfl⟩;rw[au di] at A;have rH:=pO.same (by rw[(ir di).1]) j6 ej;have T4:=ky di;refine go ?_;cases ok
    ·rw[if_neg (by decide)] at A;refine go ?_;refine Kl ?_
     repeat(first|refine OC ?_|refine OA ?_)
     refine OB ?_;exact⟨(j,⟨false,pv,cu,0,pt⟩,s5),⟨rH,by simp only;omega,A⟩,by simp only;omega,zX⟩
    ·rw[if_pos rfl,au eC] at A;refine go ?_;refine lA (im l E s5 (by omega)) ?_;refine go ?_;refine gW 9 [] ?_;refine xX (xu l hL E log s5 cu (by omega) rH.ok (by have:=rH.len;have:=rH.le;omega) ej M) ?_ ?_
     ·rintro v O ⟨a,U,h,rfl,rfl⟩;refine gP ?_;refine fP (lU l E log G ⟨false,pv,cu,0,(s5.made:Int)-1⟩ U) ?_;exact⟨a,U,_,by rw[<-A];exact bl h,rfl,rfl⟩
     rintro d O ⟨aa,s6,jv,sW,l4,rfl,rfl⟩;rw[au jv] at A;have G4:gF log s s6:=by
      have e1:=Cx jv;have e2:s5.gone=s4.gone:=by rw[(ir di).1]
      rw[e2] at e1;have:=pO.len;have:=rH.made;exact⟨by omega,l4,Cy jv rH.ok (by omega),by omega⟩
     refine go ?_;exact⟨(j,⟨xb,xa,pv,(az nw).idx,(s5.made:Int)-1⟩,xc,s6),⟨G4,by simp only;omega,by simp only;omega,by simp only;omega,R,ha,by simp only;omega,by simp only;omega,uz.1,uz.2,A⟩,by simp only;omega,zX⟩
 ·rw[if_pos (of_decide_eq_true u)] at A;have Hk:cu=0:=of_decide_eq_true u;refine go ?_;refine fX (lU l E log G ⟨false,pv,cu,0,pt⟩ t2) ?_;exact⟨_,t2,by rw[<-A,Hk];rfl,fx,pX,DF,DG,rfl,rfl⟩
def FK(l:ab)(E:Int)(log:List aB)(G:Int)(s:af)(m:Except aS (br×af)):F->bH->Prop:=λ d O=>∃x U f,m=.ok (x,U)/\gF log s U/\d=kC x/\O=lU l E log G f U
def FL(l:ab)(E:Int)(log:List aB)(G:Int)(m:Except aS (br×af)):Value->bH->Prop:=λ x O=>∃a U f,m=.error a/\x=hk a/\O=lU l E log G f U
theorem gF.trans{log:List aB}{s t aa:af}(h:gF log s t)(D:gF log t aa):gF log s aa:=by obtain⟨a1,a2,a3,a4⟩:=h;obtain⟨b1,b2,b3,b4⟩:=D;exact⟨by omega,b2,b3,by omega⟩
theorem ue{l:ab}{n:Int}:∀{k:Nat}{log:List aB}{s U:af}{aa:Unit},lu l n k log s=.ok (aa,U)->U.gone=s.gone
 |0,log,s,U,aa,h=>by cases h;rfl
 |k+1,log,s,U,aa,h=>by
  rw[lu] at h;cases u:cy l.free log s with
  |error a=>rw[bl u] at h;cases h
  |ok q=>
   obtain⟨fr,s1⟩:=q;rw[au u] at h;have g1:s1.gone=s.gone:=by rw[(fm u).1]
   cases D:fa (am l n 7) (az fr).idx log s1 with
   |error a=>rw[bl D] at h;cases h
   |ok q=>
    obtain⟨lk,s2⟩:=q;rw[au D] at h;have g2:s2.gone=s.gone:=by rw[(mT D).1];exact g1
    cases K:fv l.free fr (dJ (eo (az fr) n)) log s2 with
    |error a=>rw[bl K] at h;cases h
    |ok q=>
     obtain⟨ok,s3⟩:=q;rw[au K] at h;have g3:s3.gone=s.gone:=by rw[(ir K).1];exact g2
     split at h
     ·cases h;exact g3
     ·exact(ue h).trans g3
theorem CO{l:ab}:∀{k:Nat}{log:List aB}{s U:af}{p:Int×Int×Bool},mV l k log s=.ok (p,U)->0<=p.1
 |0,log,s,U,p,h=>by cases h;simp
 |k+1,log,s,U,p,h=>by
  rw[mV] at h;cases u:cy l.free log s with
  |error a=>rw[bl u] at h;cases h
  |ok q=>
   obtain⟨fr,s1⟩:=q;rw[au u] at h;split at h
   ·rw[au eC] at h;cases h;simp
   ·cases D:cy (am l (az fr).idx 7) log s1 with
    |error a=>rw[bl D] at h;cases h
    |ok q=>
     obtain⟨lk,s2⟩:=q;rw[au D] at h;cases K:fv l.free fr (dJ (eo (az fr) lk)) log s2 with
     |error a=>rw[bl K] at h;cases h
     |ok q=>
      obtain⟨ok,s3⟩:=q;rw[au K] at h;split at h
      ·rw[au eC] at h;cases h4:cy l.era log s3 with
       |error a=>rw[bl h4] at h;cases h
       |ok q=>
        obtain⟨bi,s4⟩:=q;rw[au h4] at h;cases h5:fa (am l (az fr).idx 6) bi log s4 with
        |error a=>rw[bl h5] at h;cases h
        |ok q=>obtain⟨aa,s5⟩:=q;rw[au h5] at h;cases h;exact(j8 fr).1
      ·exact CO h
set_option maxHeartbeats 8000000 in
theorem Sf(l:ab)(hL:bQ l)(E:Int)(log:List aB)(G o:Int)(iM:jU)(s:af)(eO:ee s.gone)(gz:s.gone.length+log.length<=10000+s.made)(hm:s.made<=log.length)(M:log.length<=1000000):
 fu prog 189 [11,12,13,14] [.ptr 14 0,z o] (lU l E log G iM s) (FK l E log G s (getM l E G o log s)) (FL l E log G (getM l E G o log s)):=by
 generalize A:getM l E G o log s=aK;unfold getM at A;have hG:gF log s s:=⟨Nat.le_refl _,hm,eO,Nat.le_refl _⟩;refine sX func189 ntmps189 λ w cl own kf=>?_
 refine go ?_;refine xP (Dr l hL E log G o iM s hG.ok (by have:=hG.len;have:=hG.le;omega) hG.le M) ?_;rintro d O ⟨gT,s1,bJ,yz,Ml,cb,kE,rfl,rfl⟩;rw[au bJ] at A;have fI:=hG.trans yz;obtain⟨th,pv,cu,nx,pt⟩:=gT;simp only at A cb kE;refine go ?_;refine gW 12 [] ?_;refine go ?_;cases th
 ·rw[if_neg (by decide),kc] at A;refine go ?_;refine xP (jk l hL E log s1 fI.le M) ?_;rintro d O ⟨aa,s2,bg,eK,cn,rfl,rfl⟩;rw[au bg] at A;have fx:=fI.same (i6 bg) eK cn;refine go ?_;exact fX _ ⟨_,s2,_,A.symm,fx,rfl,rfl⟩
 ·rw[if_pos rfl] at A;refine go ?_;refine gW 14 [] ?_;refine lQ (fY l hL E s1 cu 2 (by omega) (by omega)) ?_;refine ba ?_;refine xP (dV l E log s1 (am l cu 2) fI.le M) ?_;rintro d O ⟨v,s2,bg,eK,cn,rfl,rfl⟩;rw[au bg,kc] at A;have fx:=fI.same (by rw[(fm bg).1]) eK cn;refine go ?_;refine xP (jk l hL E log s2 fx.le M) ?_;rintro d O ⟨aa,s3,bR,eQ,ci,rfl,rfl⟩;rw[au bR] at A;have ia:=fx.same (i6 bR) eQ ci;refine go ?_;exact fX _ ⟨_,s3,_,A.symm,ia,rfl,rfl⟩
set_option maxHeartbeats 16000000 in
theorem Xv(l:ab)(hL:bQ l)(E:Int)(log:List aB)(G o v:Int)(iM:jU)(s:af)(eO:ee s.gone)(gz:s.gone.length+log.length<=10000+s.made)(hm:s.made<=log.length)(M:log.length<=1000000):
 fu prog 191 [11,12,13,14] [.ptr 14 0,z o,z v] (lU l E log G iM s) (FK l E log G s (tI l E G o v log s)) (FL l E log G (tI l E G o v log s)):=by
 generalize A:tI l E G o v log s=aK;unfold tI at A;have hG:gF log s s:=⟨Nat.le_refl _,hm,eO,Nat.le_refl _⟩;refine sX func191 ntmps191 λ w cl own kf=>?_
 refine go ?_;refine bL (λ p:Nat×Int×jU×af=>gF log s p.2.2.2/\log.length-p.2.2.2.made<p.1/\0<=p.2.1/\p.2.1<65536/\tH l E G o v p.1 p.2.1 log p.2.2.2=aK) (λ p=>⟨[(7,z p.2.1),(6,.ptr 4 0),(0,.ptr 14 0),(1,z o),(2,z v)],(4,[z 0,dB false,z 0,z 0,.p (.sl true 0 [])])::lU l E log G p.2.2.1 p.2.2.2,[]⟩) (λ p=>p.1) (log.length+1-s.made,0,iM,s) ⟨hG,by simp only;omega,by simp,by simp,A⟩ (zX) ?_;rintro⟨k,n,fd,t⟩ ⟨hG,J,iP,fk,A⟩;simp only at hG J iP fk A;obtain⟨k,rfl⟩:∃j,k=j+1:=⟨k-1,by omega⟩;refine(show aJ _ _ _ _ ⟨[(7,z n),(6,.ptr 4 0),(0,.ptr 14 0),(1,z o),(2,z v)],(4,[z 0,dB false,z 0,z 0,.p (.sl true 0 [])])::lU l E log G fd t,[]⟩ from ?_);rw[tH] at A;refine go ?_;refine xP (Dr l hL E log G o fd t hG.ok (by have:=hG.len;have:=hG.le;omega) hG.le M) ?_;rintro d O ⟨gT,s1,bJ,yz,Ml,cb,kE,rfl,rfl⟩;rw[au bJ] at A;have fI:=hG.trans yz;obtain⟨th,pv,cu,nx,pt⟩:=gT;simp only at A cb kE;refine go ?_;cases th
 ·rw[if_neg (by decide)] at A;refine go ?_;generalize D:decide (n=0)=cc;cases cc
  ·rw[if_neg (of_decide_eq_false D),uR,bind_assoc] at A;refine go ?_;refine gW 16 [] ?_;refine lQ (fY l hL E s1 n 0 (by omega) (by omega)) ?_;refine gQ (q8 cu) ?_;refine xP (gM l E log s1 (am l n 0) (hJ cu) fI.le M) ?_;rintro d O ⟨aa,s2,bg,eK,cn,rfl,rfl⟩;rw[au bg,bind_assoc] at A;have fx:=fI.same (by rw[(mT bg).1]) eK cn;have rX:=qi bg;refine go ?_;refine dW 17 [] ?_;refine gQ (q8 cu) ?_;refine cQ (q8 n) ?_;refine ba ?_;refine xP (iu l E log s2 pv (hJ cu) (hJ n) fx.le M) ?_;rintro d O ⟨ok,s3,bR,eQ,ci,rfl,rfl⟩;rw[au bR] at A;have ia:=fx.same (by rw[(ir bR).1]) eQ ci;have Mn:=ky bR;refine go ?_;cases ok
   ·rw[if_neg (by decide)] at A;refine go ?_;exact⟨(k,n,⟨false,pv,cu,nx,pt⟩,s3),⟨ia,by simp only;omega,by simp only;omega,by simp only;omega,A⟩,by simp only;omega,zX⟩
   ·rw[if_pos rfl,bind_assoc,au eC] at A;have A:kc l E ⟨0,true,0,(s3.made:Int)-1,[]⟩ log s3=aK:=A;rw[kc] at A;refine go ?_;refine lA (im l E s3 (by omega)) ?_;refine go ?_;refine xP (jk l hL E log s3 ia.le M) ?_;rintro d O ⟨aa,s4,ct,iB,ef,rfl,rfl⟩;rw[au ct] at A;have kD:=ia.same (i6 ct) iB ef;refine go ?_;exact fX _ ⟨_,s4,_,A.symm,kD,rfl,rfl⟩
  ·rw[if_pos (of_decide_eq_true D)] at A;refine go ?_;refine xP (CP l hL E log s1 fI.le M) ?_;rintro d O ⟨p,s2,bg,eK,cn,rfl,rfl⟩;rw[au bg] at A;have uw:=CN bg;have BK:=CO bg;have fx:=fI.same uw.2 eK cn;obtain⟨n2,QV,NZ⟩:=p;simp only at A uw BK;refine go ?_;cases NZ
   ·rw[if_neg (by decide),kc] at A;refine go ?_;refine xP (jk l hL E log s2 fx.le M) ?_;rintro d O ⟨aa,s3,bR,eQ,ci,rfl,rfl⟩;rw[au bR] at A;have ia:=fx.same (i6 bR) eQ ci;refine go ?_;exact fX _ ⟨_,s3,_,A.symm,ia,rfl,rfl⟩
   ·rw[if_pos rfl] at A;refine go ?_;refine gW 11 [] ?_;refine lQ (fY l hL E s2 n2 1 (by omega) (by omega)) ?_;refine ba ?_;refine xP (gM l E log s2 (am l n2 1) o fx.le M) ?_;rintro d O ⟨aa,s3,bR,eQ,ci,rfl,rfl⟩;rw[au bR] at A;have ia:=fx.same (by rw[(mT bR).1]) eQ ci;refine go ?_;refine gW 11 [] ?_;refine lQ (fY l hL E s3 n2 2 (by omega) (by omega)) ?_;refine ba ?_;refine xP (gM l E log s3 (am l n2 2) v ia.le M) ?_;rintro d O ⟨aa,s4,ct,iB,ef,rfl,rfl⟩;rw[au ct,uR,bind_assoc] at A;have kD:=ia.same (by rw[(mT ct).1]) iB ef;refine go ?_;refine gW 16 [] ?_;refine lQ (fY l hL E s4 n2 0 (by omega) (by omega)) ?_;refine gQ (q8 cu) ?_;refine xP (gM l E log s4 (am l n2 0) (hJ cu) kD.le M) ?_;rintro d O ⟨aa,s5,di,j6,ej,rfl,rfl⟩;rw[au di,bind_assoc] at A;have pO:=kD.same (by rw[(mT di).1]) j6 ej;have T4:=qi di;refine go ?_;refine dW 17 [] ?_;refine gQ (q8 cu) ?_;refine cQ (q8 n2) ?_;refine ba ?_;refine xP (iu l E log s5 pv (hJ cu) (hJ n2) pO.le M) ?_;rintro d O ⟨ok,s6,jv,sW,l4,rfl,rfl⟩;rw[au jv] at A;have rH:=pO.same (by rw[(ir jv).1]) sW l4;have Z8:=ky jv;refine go ?_;cases ok
    ·rw[if_neg (by decide)] at A;refine go ?_;exact⟨(k,n2,⟨false,pv,cu,nx,pt⟩,s6),⟨rH,by simp only;omega,by simp only;omega,by simp only;omega,A⟩,by simp only;omega,zX⟩
    ·rw[if_pos rfl,bind_assoc,au eC] at A;have A:kc l E ⟨0,true,0,(s6.made:Int)-1,[]⟩ log s6=aK:=A;rw[kc] at A;refine go ?_;refine lA (im l E s6 (by omega)) ?_;refine go ?_;refine xP (jk l hL E log s6 rH.le M) ?_;rintro d O ⟨aa,s7,nQ,Bz,sY,rfl,rfl⟩;rw[au nQ] at A;have G4:=rH.same (i6 nQ) Bz sY;refine go ?_;exact fX _ ⟨_,s7,_,A.symm,G4,rfl,rfl⟩
 ·rw[if_pos rfl] at A;refine go ?_;generalize D:decide (n=0)=cc;cases cc
  ·rw[if_neg (of_decide_eq_false D)] at A;refine go ?_;refine xP (uf l hL E log s1 n (by omega) fI.le M) ?_;rintro d O ⟨aa,s2,bg,eK,cn,rfl,rfl⟩;rw[au bg,kc] at A;have fx:=fI.same (ue bg) eK cn;refine go ?_;refine xP (jk l hL E log s2 fx.le M) ?_;rintro d O ⟨aa,s3,bR,eQ,ci,rfl,rfl⟩;rw[au bR] at A;have ia:=fx.same (i6 bR) eQ ci;refine go ?_;exact fX _ ⟨_,s3,_,A.symm,ia,rfl,rfl⟩
  ·rw[if_pos (of_decide_eq_true D),kc] at A;refine go ?_;refine xP (jk l hL E log s1 fI.le M) ?_;rintro d O ⟨aa,s2,bg,eK,cn,rfl,rfl⟩;rw[au bg] at A;have fx:=fI.same (i6 bg) eK cn;refine go ?_;exact fX _ ⟨_,s2,_,A.symm,fx,rfl,rfl⟩
set_option maxHeartbeats 16000000 in
theorem RG(l:ab)(hL:bQ l)(E:Int)(log:List aB)(G o:Int)(iM:jU)(s:af)(eO:ee s.gone)(gz:s.gone.length+log.length<=10000+s.made)(hm:s.made<=log.length)(M:log.length<=1000000):
 fu prog 193 [11,12,13,14] [.ptr 14 0,z o] (lU l E log G iM s) (FK l E log G s (sE l E G o log s)) (FL l E log G (sE l E G o log s)):=by
 generalize A:sE l E G o log s=aK;unfold sE at A;have hG:gF log s s:=⟨Nat.le_refl _,hm,eO,Nat.le_refl _⟩;refine sX func193 ntmps193 λ w cl own kf=>?_
 refine go ?_;refine bL (λ p:Nat×jU×af=>gF log s p.2.2/\log.length-p.2.2.made<p.1/\vQ l E G o p.1 log p.2.2=aK) (λ p=>⟨[(4,.ptr 4 0),(0,.ptr 14 0),(1,z o)],(4,[z 0,dB false,z 0,z 0,.p (.sl true 0 [])])::lU l E log G p.2.1 p.2.2,[]⟩) (λ p=>p.1) (log.length+1-s.made,iM,s) ⟨hG,by simp only;omega,A⟩ (zX) ?_;rintro⟨k,fd,t⟩ ⟨hG,J,A⟩;simp only at hG J A;obtain⟨k,rfl⟩:∃j,k=j+1:=⟨k-1,by omega⟩;refine(show aJ _ _ _ _ ⟨[(4,.ptr 4 0),(0,.ptr 14 0),(1,z o)],(4,[z 0,dB false,z 0,z 0,.p (.sl true 0 [])])::lU l E log G fd t,[]⟩ from ?_);rw[vQ] at A;refine go ?_;refine xP (Dr l hL E log G o fd t hG.ok (by have:=hG.len;have:=hG.le;omega) hG.le M) ?_;rintro d O ⟨gT,s1,bJ,yz,Ml,cb,kE,rfl,rfl⟩;rw[au bJ] at A;have fI:=hG.trans yz;obtain⟨th,pv,cu,nx,pt⟩:=gT;simp only at A cb kE;refine go ?_;cases th
 ·rw[if_neg (by decide),kc] at A;refine go ?_;refine xP (jk l hL E log s1 fI.le M) ?_;rintro d O ⟨aa,s2,bg,eK,cn,rfl,rfl⟩;rw[au bg] at A;have fx:=fI.same (i6 bg) eK cn;refine go ?_;exact fX _ ⟨_,s2,_,A.symm,fx,rfl,rfl⟩
 ·rw[if_pos rfl] at A;have uz:=j8 nx;refine gA (jS nx) ?_;refine gW 21 [] ?_;refine lQ (fY l hL E s1 cu 0 (by omega) (by omega)) ?_;refine gQ (VX (az nx).idx) ?_;refine xP (iu l E log s1 (am l cu 0) nx (EC (az nx).idx) fI.le M) ?_;rintro d O ⟨ok,s2,bg,eK,cn,rfl,rfl⟩;rw[au bg] at A;have fx:=fI.same (by rw[(ir bg).1]) eK cn;have rX:=ky bg;refine go ?_;cases ok
  ·rw[if_neg (by decide)] at A;refine go ?_;exact⟨(k,⟨true,pv,cu,nx,pt⟩,s2),⟨fx,by simp only;omega,A⟩,by simp only;omega,zX⟩
  ·rw[if_pos rfl,au eC] at A;refine go ?_;refine lA (im l E s2 (by omega)) ?_;refine go ?_;refine dW 17 [] ?_;refine gQ (q8 cu) ?_;refine cQ (q8 (az nx).idx) ?_;refine ba ?_;refine xP (iu l E log s2 pv (hJ cu) (hJ (az nx).idx) fx.le M) ?_;rintro d O ⟨ok,s3,bR,eQ,ci,rfl,rfl⟩;rw[au bR] at A;have ia:=fx.same (by rw[(ir bR).1]) eQ ci;have Mn:=ky bR;refine go ?_;cases ok
   ·rw[if_neg (by decide)] at A;refine go ?_;refine xP (Dr l hL E log G o ⟨true,pv,cu,nx,pt⟩ s3 ia.ok (by have:=ia.len;have:=ia.le;omega) ia.le M) ?_;rintro d O ⟨i7,s4,ct,Sy,Z6,bY,ZW,rfl,rfl⟩;rw[au ct] at A;have kD:=ia.trans Sy;obtain⟨aaM,aaF,Zz,aaC,aaE⟩:=i7;rw[kc] at A;refine go ?_;refine xP (jk l hL E log s4 kD.le M) ?_;rintro d O ⟨aa,s5,di,j6,ej,rfl,rfl⟩;rw[au di] at A;have pO:=kD.same (i6 di) j6 ej;refine go ?_;exact fX _ ⟨_,s5,_,A.symm,pO,rfl,rfl⟩
   ·rw[if_pos rfl] at A;refine go ?_;refine xP (jk l hL E log s3 ia.le M) ?_;rintro d O ⟨aa,s4,ct,iB,ef,rfl,rfl⟩;rw[au ct] at A;have kD:=ia.same (i6 ct) iB ef;refine go ?_;refine gW 9 [] ?_;refine xP (xu l hL E log s4 cu (by omega) kD.ok (by have:=kD.len;have:=kD.le;omega) kD.le M) ?_;rintro d O ⟨aa,s5,di,j6,ej,rfl,rfl⟩;rw[au di] at A;have pO:gF log s s5:=by
     have e1:=Cx di;have e2:s4.gone=s2.gone:=(i6 ct).trans (by rw[(ir bR).1]);rw[e2] at e1;have:=fx.len;have:=fx.made;have:=kD.made;exact⟨by omega,ej,Cy di kD.ok (by omega),by omega⟩
    refine go ?_;exact fX _ ⟨_,s5,_,A.symm,pO,rfl,rfl⟩
def sq(m:Except aS (br×af)):F->bH->Prop:=λ d O=>O=[]/\((∃x U,m=.ok (x,U)/\d=.bc [eW eF,jm {x with gone:=U.gone},dB true])\/∃a,m=.error a/\d=.bc [eW a,kC lH,dB false])
abbrev t7(a:aS)(od:List F)(dn:Bool):St:=⟨[(4,.ptr 22 0),(5,.ptr 23 0),(6,.ptr 24 0)],iF a od dn,[]⟩
def vr(m:Except aS (br×af))(Γ:bE):Exit->St->Prop:=λ ex I=>(ex=.ret/\∃x U,m=.ok (x,U)/\bF Γ I (t7 eF (nn {x with gone:=U.gone}) true))\/∃a,ex=.panic [pe (hk a)]/\m=.error a/\bF Γ I (t7 eF [z 0,dB false,z 0,z 0,.p (.sl true 0 [])] false)
abbrev uM(l:ab)(E:Int)(log:List aB)(op:cq)(f:jU)(s:af):bH:=[(11,me l E s),(12,[.ptr 11 0]),(13,[fS log]),(14,K8 op.obj f),(15,[.ptr 14 0]),(16,[z op.kind,z op.obj,z op.a,z op.b])]
def sn(l:ab)(E:Int)(log:List aB)(op:cq)(s:af)(m:Except aS (br×af)):F->bH->Prop:=λ d O=>∃x U f,m=.ok (x,U)/\gF log s U/\d=kC x/\O=uM l E log op f U
def so(l:ab)(E:Int)(log:List aB)(op:cq)(m:Except aS (br×af)):Value->bH->Prop:=λ x O=>∃a U f,m=.error a/\x=hk a/\O=uM l E log op f U
theorem Wk(l:ab)(hL:bQ l)(E:Int)(log:List aB)(op:cq)(iM:jU)(s:af)(eO:ee s.gone)(gz:s.gone.length+log.length<=10000+s.made)(hm:s.made<=log.length)(M:log.length<=1000000):
 fu prog 188 [11,12,13,14,15,16] [.ptr 15 0,.ptr 16 0] (uM l E log op iM s) (sn l E log op s (getM l E op.obj op.a log s)) (so l E log op (getM l E op.obj op.a log s)):=by
 generalize A:getM l E op.obj op.a log s=aK;refine sX func188 ntmps188 λ w cl own kf=>?_
 refine go ?_;refine xP (Sf l hL E log op.obj op.a iM s eO gz hm M) ?_;rintro d O ⟨x,U,m7,h,hG,rfl,rfl⟩;refine go ?_;exact fX _ ⟨x,U,m7,A.symm.trans h,hG,rfl,rfl⟩
theorem Wp(l:ab)(hL:bQ l)(E:Int)(log:List aB)(op:cq)(iM:jU)(s:af)(eO:ee s.gone)(gz:s.gone.length+log.length<=10000+s.made)(hm:s.made<=log.length)(M:log.length<=1000000):
 fu prog 190 [11,12,13,14,15,16] [.ptr 15 0,.ptr 16 0] (uM l E log op iM s) (sn l E log op s (tI l E op.obj op.a op.b log s)) (so l E log op (tI l E op.obj op.a op.b log s)):=by
 generalize A:tI l E op.obj op.a op.b log s=aK;refine sX func190 ntmps190 λ w cl own kf=>?_
 refine go ?_;refine xP (Xv l hL E log op.obj op.a op.b iM s eO gz hm M) ?_;rintro d O ⟨x,U,m7,h,hG,rfl,rfl⟩;refine go ?_;exact fX _ ⟨x,U,m7,A.symm.trans h,hG,rfl,rfl⟩
theorem V7(l:ab)(hL:bQ l)(E:Int)(log:List aB)(op:cq)(iM:jU)(s:af)(eO:ee s.gone)(gz:s.gone.length+log.length<=10000+s.made)(hm:s.made<=log.length)(M:log.length<=1000000):
 fu prog 192 [11,12,13,14,15,16] [.ptr 15 0,.ptr 16 0] (uM l E log op iM s) (sn l E log op s (sE l E op.obj op.a log s)) (so l E log op (sE l E op.obj op.a log s)):=by
 generalize A:sE l E op.obj op.a log s=aK;refine sX func192 ntmps192 λ w cl own kf=>?_
 refine go ?_;refine xP (RG l hL E log op.obj op.a iM s eO gz hm M) ?_;rintro d O ⟨x,U,m7,h,hG,rfl,rfl⟩;refine go ?_;exact fX _ ⟨x,U,m7,A.symm.trans h,hG,rfl,rfl⟩
set_option maxHeartbeats 4000000 in
theorem I3(bq:FuncId)(hF:jj prog bq)(l:ab)(E:Int)(log:List aB)(op:cq)(iM:jU)(s:af)(m:Except aS (br×af))(rT:s.gone.length+log.length<=100000)(hC:fu prog bq [11,12,13,14,15,16] [.ptr 15 0,.ptr 16 0] (uM l E log op iM s) (sn l E log op s m) (so l E log op m)):
 d8 prog 187 [] [.ptr 11 0,.fn (.func bq) [] [.ptr 15 0,.ptr 16 0]] (uM l E log op iM s) (sq m):=by
 intro e vs hI hv;refine calls_of_wp_defers func187 rfl ?_;have ho:=tg (fn:=f187) (f:=39) (aX:=[]) [] (Nat.le_of_ble_eq_true (by kernel_rfl)) trivial hI hv rfl;refine wp_seq (Code.wp_mono (λ ex a1 w1 hh=>?_) (aJ.run (Q:=λ ex I=>ex=.normal/\I=⟨[(6,.ptr 24 0),(5,.ptr 23 0),(4,.ptr 22 0),(2,.ptr 21 0),(0,.ptr 11 0),(1,.fn (.func bq) [] [.ptr 15 0,.ptr 16 0])],(24,[dB false])::(23,[z 0,dB false,z 0,z 0,.p (.sl true 0 [])])::(22,[z 0,z 0,z 0,z 0])::(21,[.ptr 11 0])::uM l E log op iM s,[]⟩) ?_ _ e ho))
 ·obtain⟨mX,e1,rfl,cb,rfl,rfl⟩:=hh;obtain⟨k1,_,_,b1,_,_⟩:=cb.boxes 21 _ rfl;obtain⟨k2,_,_,b2,_,_⟩:=cb.boxes 22 _ rfl;obtain⟨k3,_,_,b3,_,_⟩:=cb.boxes 23 _ rfl;obtain⟨k4,_,_,b4,_,_⟩:=cb.boxes 24 _ rfl;refine wp_seq (Ao cb rfl rfl rfl rfl rfl rfl rfl rfl [(21,k1),(22,k2),(23,k3),(24,k4)] (λ b k J=>?_) (λ a2 cC cS ez=>?_))
  ·simp only[cL] at J;split at J
   ·rename_i q;cases J;rw[<-q];exact b1
   ·split at J
    ·rename_i q;cases J;rw[<-q];exact b2
    ·split at J
     ·rename_i q;cases J;rw[<-q];exact b3
     ·split at J
      ·rename_i q;cases J;rw[<-q];exact b4
      ·cases J
  ·refine Code.wp_mono (λ ex a3 w3 hh=>?_) (aJ.run (Γ:=⟨18,e.w,e.cl,λ k=>∃b,e.bx b=some k,[(21,k1),(22,k2),(23,k3),(24,k4)],[{target:=.fn (.func 204) cC.toArray,args:=#[]}]⟩) (Q:=vr m ⟨18,e.w,e.cl,λ k=>∃b,e.bx b=some k,[(21,k1),(22,k2),(23,k3),(24,k4)],[{target:=.fn (.func 204) cC.toArray,args:=#[]}]⟩) ?_ a2 e1 ez)
   ·obtain⟨CQ,e3,rfl,ib,hq⟩:=hh;rcases hq with⟨rfl,x,U,hm,eA⟩|⟨a,rfl,hm,eA⟩
    ·skip
     obtain⟨e4,j7,bY⟩:=eA a3 e3 ib;show Leaves prog f187 a3.tmps _ a3.defers .returning e3.w;rw[bY.df,<-j7];have j4:DReps e4 cC [.ptr 22 0,.ptr 21 0,.ptr 23 0,.ptr 24 0]:=⟨cS.1,λ i v d hv G=>by
      match i,hv,G with
      |0,hv,G=>cases G;exact eE (cS.2 0 v _ hv rfl) b2 (bY.env.kb 22 k2 rfl)
      |1,hv,G=>cases G;exact eE (cS.2 1 v _ hv rfl) b1 (bY.env.kb 21 k1 rfl)
      |2,hv,G=>cases G;exact eE (cS.2 2 v _ hv rfl) b3 (bY.env.kb 23 k3 rfl)
      |3,hv,G=>cases G;exact eE (cS.2 3 v _ hv rfl) b4 (bY.env.kb 24 k4 rfl)⟩
     refine p3 bY (λ a w=>call204 a w) j4 rfl (by(repeat(first|exact trivial|refine⟨⟨rfl,rfl⟩,?_⟩))) ⟨.inr rfl,.inr rfl,.inr rfl,.inr rfl,trivial⟩ rfl (by simp) rfl (λ e0 oK u D=>xl eF {x with gone:=U.gone} true u D) (λ ag R=>by subst R;exact⟨.inl rfl,.inl rfl,.inl rfl,.inl rfl,trivial⟩) (λ ag e5 R du=>?_);subst R;obtain⟨v,hr,jx⟩:=n5 aw (fn:=f187) (d:=.bc [eW eF,jm {x with gone:=U.gone},dB true]) du rfl;refine⟨v,hr,v,_,[],e5.cut (aC []) λ _=>false,rfl,rfl,⟨rfl,.inl ⟨x,U,hm,rfl⟩⟩,kB du trivial,jx.cut rfl,⟨du.env.kept,du.env.cl,λ b k J=>?_,λ b R=>by cases R⟩⟩;cases J
    ·skip
     obtain⟨e4,j7,bY⟩:=eA a3 e3 ib;show Leaves prog f187 a3.tmps _ a3.defers (.panicking [pe (hk a)]) e3.w;rw[bY.df,<-j7];have j4:DReps e4 cC [.ptr 22 0,.ptr 21 0,.ptr 23 0,.ptr 24 0]:=⟨cS.1,λ i v d hv G=>by
      match i,hv,G with
      |0,hv,G=>cases G;exact eE (cS.2 0 v _ hv rfl) b2 (bY.env.kb 22 k2 rfl)
      |1,hv,G=>cases G;exact eE (cS.2 1 v _ hv rfl) b1 (bY.env.kb 21 k1 rfl)
      |2,hv,G=>cases G;exact eE (cS.2 2 v _ hv rfl) b3 (bY.env.kb 23 k3 rfl)
      |3,hv,G=>cases G;exact eE (cS.2 3 v _ hv rfl) b4 (bY.env.kb 24 k4 rfl)⟩
     refine p3 bY (λ a w=>call204 a w) j4 rfl (by(repeat(first|exact trivial|refine⟨⟨rfl,rfl⟩,?_⟩))) ⟨.inr rfl,.inr rfl,.inr rfl,.inr rfl,trivial⟩ rfl (by simp) rfl (λ e0 oK u D=>xm eF a _ rfl false u D) (λ ag R=>by subst R;exact⟨.inl rfl,.inl rfl,.inl rfl,.inl rfl,trivial⟩) (λ ag e5 R du=>?_);subst R;obtain⟨v,hr,jx⟩:=n5 aw (fn:=f187) (d:=.bc [eW a,kC lH,dB false]) du rfl;refine⟨v,hr,v,_,[],e5.cut (aC []) λ _=>false,rfl,rfl,⟨rfl,.inr ⟨a,hm,rfl⟩⟩,kB du trivial,jx.cut rfl,⟨du.env.kept,du.env.cl,λ b k J=>?_,λ b R=>by cases R⟩⟩;cases J
   ·refine go ?_;refine J9 hC rfl hF rfl rfl rfl (by(repeat(first|exact trivial|refine⟨⟨rfl,rfl⟩,?_⟩))) (by(repeat(first|exact trivial|refine⟨.inr rfl,?_⟩|refine⟨.inl rfl,?_⟩))) rfl rfl rfl rfl ?_ ?_ ?_ ?_
    ·rintro d O ⟨x,U,m7,_,_,rfl,rfl⟩;exact⟨.inl rfl,.inl rfl,.inl rfl,.inl rfl,.inl rfl,.inl rfl,trivial⟩
    ·rintro v O ⟨a,U,m7,_,rfl,rfl⟩;exact⟨.inl rfl,.inl rfl,.inl rfl,.inl rfl,.inl rfl,.inl rfl,trivial⟩
    ·rintro v O ⟨a,U,m7,h,rfl,rfl⟩;refine gP ?_;exact .inr ⟨a,rfl,h,bF.trans (pF 21 rfl rfl) (zX)⟩
    rintro d O ⟨x,U,m7,h,nK,rfl,rfl⟩;have Tw:=nK.len;have Tx:=nK.le;refine gA ((ol U.gone (by omega)).pure) ?_;refine gW 3 [22] ?_;refine go ?_;exact .inl ⟨rfl,x,U,h,bF.trans (pF 21 rfl rfl) (zX)⟩
 ·refine gm ?_;refine bA 21 ?_;refine nA 22 ?_;refine nA 23 ?_;refine nA 24 ?_;exact jK ⟨rfl,rfl⟩
abbrev qx(r:aS×br×Bool):F:=.bc [eW r.1,jm r.2.1,dB r.2.2]
set_option maxHeartbeats 8000000 in
theorem Cd(l:ab)(hL:bQ l)(E:Int)(gone:List (Int×Int))(op:cq)(log:List aB)(eO:ee gone)(gz:gone.length+log.length<=10000):aW prog 150 [cF l,z E,cT gone,Gy op,fS log] (qx (dC l E gone op log)):=by
 generalize A:dC l E gone op log=aK;unfold dC at A;have M:log.length<=1000000:=by omega
 refine sP func150 ntmps150 λ w cl=>?_
 refine gm ?_;refine bA 0 ?_;refine bA 16 ?_;refine nA 2 ?_;refine nA 3 ?_;refine go ?_;generalize u:decide (op.obj<0)=cc;cases cc
 ·have aN:=of_decide_eq_false u;refine go ?_;generalize D:decide (op.obj>=l.size)=cc;cases cc
  ·have bd:=of_decide_eq_false D;rw[if_neg (by omega)] at A;refine go ?_;refine Q3 4 10 rfl rfl (by kernel_rfl) (by kernel_rfl) (by kernel_rfl) (by kernel_rfl) rfl ?_;refine ba ?_;refine Rl (AH l E gone log) (λ d O h=>h) rfl (λ a w=>call186 a w) rfl rfl rfl rfl rfl (by(repeat(first|exact trivial|refine⟨rfl,rfl,?_⟩))) ?_;refine w3 ?_;refine w3 ?_;refine w6 ?_;refine qe (C8 14 rfl rfl rfl rfl) rfl rfl rfl rfl ?_;refine qe (tQ aw 15 rfl rfl rfl rfl) rfl rfl rfl rfl ?_;refine w5 ?_;refine go ?_;generalize K:decide (op.kind=1)=cc;cases cc
   ·rw[if_neg (of_decide_eq_false K)] at A;refine go ?_;generalize h4:decide (op.kind=2)=cc;cases cc
    ·rw[if_neg (of_decide_eq_false h4)] at A;refine go ?_;generalize h5:decide (op.kind=3)=cc;cases cc
     ·rw[if_neg (of_decide_eq_false h5)] at A;refine gA (ra gone (by omega)) ?_;refine dt ?_;rw[<-A]
     ·rw[if_pos (of_decide_eq_true h5)] at A;refine go ?_;refine gk (I3 _ (λ a w=>call192 a w) l E log op vV ⟨0,gone,0,0,0⟩ _ (by simp only;omega) (V7 l hL E log op vV ⟨0,gone,0,0,0⟩ eO (by simp only;omega) (Nat.zero_le _) M)) rfl (λ a w=>call187 a w) rfl rfl (by(repeat(first|exact trivial|refine⟨⟨rfl,rfl⟩,?_⟩))) trivial rfl rfl rfl rfl ?_ ?_
      ·rintro d O ⟨rfl,_⟩;exact trivial
      rintro d O ⟨rfl,⟨x,U,hm,rfl⟩|⟨a,hm,rfl⟩⟩
      ·rw[hm] at A;refine gf ?_;rw[<-A];rfl
      ·rw[hm] at A;refine gf ?_;rw[<-A];rfl
    ·rw[if_pos (of_decide_eq_true h4)] at A;refine go ?_;refine gk (I3 _ (λ a w=>call190 a w) l E log op vV ⟨0,gone,0,0,0⟩ _ (by simp only;omega) (Wp l hL E log op vV ⟨0,gone,0,0,0⟩ eO (by simp only;omega) (Nat.zero_le _) M)) rfl (λ a w=>call187 a w) rfl rfl (by(repeat(first|exact trivial|refine⟨⟨rfl,rfl⟩,?_⟩))) trivial rfl rfl rfl rfl ?_ ?_
     ·rintro d O ⟨rfl,_⟩;exact trivial
     rintro d O ⟨rfl,⟨x,U,hm,rfl⟩|⟨a,hm,rfl⟩⟩
     ·rw[hm] at A;refine gf ?_;rw[<-A];rfl
     ·rw[hm] at A;refine gf ?_;rw[<-A];rfl
   ·rw[if_pos (of_decide_eq_true K)] at A;refine go ?_;refine gk (I3 _ (λ a w=>call188 a w) l E log op vV ⟨0,gone,0,0,0⟩ _ (by simp only;omega) (Wk l hL E log op vV ⟨0,gone,0,0,0⟩ eO (by simp only;omega) (Nat.zero_le _) M)) rfl (λ a w=>call187 a w) rfl rfl (by(repeat(first|exact trivial|refine⟨⟨rfl,rfl⟩,?_⟩))) trivial rfl rfl rfl rfl ?_ ?_
    ·rintro d O ⟨rfl,_⟩;exact trivial
    rintro d O ⟨rfl,⟨x,U,hm,rfl⟩|⟨a,hm,rfl⟩⟩
    ·rw[hm] at A;refine gf ?_;rw[<-A];rfl
    ·rw[hm] at A;refine gf ?_;rw[<-A];rfl
  ·have bd:=of_decide_eq_true D;rw[if_pos (by omega)] at A;refine gA (ra gone (by omega)) ?_;refine dt ?_;rw[<-A]
 ·have aN:=of_decide_eq_true u;rw[if_pos (by omega)] at A;refine gA (ra gone (by omega)) ?_;refine dt ?_;rw[<-A]
end Go.Proofs.YtcnefjfboagbmaaGreat
