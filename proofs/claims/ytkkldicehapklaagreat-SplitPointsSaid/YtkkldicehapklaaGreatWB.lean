/- Words by bits, buckets' parents: their walks. -/
import Derived.Test.YtkkldicehapklaaGreatWA
import Derived.Test.YtkkldicehapklaaGreatPA
import Derived.Test.YtkkldicehapklaaGreatLB
import Derived.ScopeJumps
namespace Go.Proofs.YtkkldicehapklaaGreat
open Go.Proofs.Tryz
open Go.RowKit
set_option maxRecDepth 100000
section
variable{P:Program}{aq:Nat->Option TI}{S:Nat->Option I}{B:Nat->Option (List I)}{o:Oper}
theorem ajZ{ty aH:TypeId}{x y:Operand}{a i:Int}(n:Nat)(ho:o.op=.binOp .shr ty x y aH)(hx:ev S x=some (M a))(hy:ev S y=some (M i))(hi:i=n)(hn:n<=63):dM P o S B (M (a/2^n)) none:=by
 subst hi;refine jZ λ ac e T=>?_
 have di:=dg (T.1 x (by rw[ho];simp[Op.operands]) _ hx);have fp:=dg (T.1 y (by rw[ho];simp[Op.operands]) _ hy);refine⟨_,?_,.p (.raw _)⟩;obtain⟨dst,op,type,pos,after,guard⟩:=o;simp only at ho;subst ho;have u:min n 64=n:=by omega
 have hb:(binOp .shr ty (.int .i64 a) (.int .i64 (n:Int))).run P e.w=.ok (.int .i64 (a/2^n)) e.w:=by show(Op.shift .shr .i64 a .i64 (n:Int)).run P e.w=_;rw[shift_shr_any _ _ _ _ (Int.natCast_nonneg n)];show Result.ok (Value.int .i64 (a/2^min ((n:Int).toNat) 64)) e.w=_;rw[Int.toNat_natCast,u]
 simp[execOp,di,fp,eqGuard,hb]
theorem ajY{ty aH:TypeId}{x y:Operand}{m:Nat}(n:Nat)(ho:o.op=.binOp .shr ty x y aH)(hx:ev S x=some (dU m))(hy:ev S y=some (.p (.raw (.int .u64 (n:Int)))))(hn:n<=63):dM P o S B (dU (m>>>n)) none:=by
 refine jZ λ ac e T=>?_
 have di:=dg (T.1 x (by rw[ho];simp[Op.operands]) _ hx);have fp:=dg (T.1 y (by rw[ho];simp[Op.operands]) _ hy);refine⟨_,?_,.p (.raw _)⟩;obtain⟨dst,op,type,pos,after,guard⟩:=o;simp only at ho;subst ho;have u:min n 64=n:=by omega
 have hb:(binOp .shr ty (.int .u64 (m:Int)) (.int .u64 (n:Int))).run P e.w=.ok (.int .u64 ((m>>>n:Nat):Int)) e.w:=by
  show(Op.shift .shr .u64 (m:Int) .u64 (n:Int)).run P e.w=_;rw[shift_shr_any _ _ _ _ (Int.natCast_nonneg n)];show Result.ok (Value.int .u64 ((m:Int)/2^min ((n:Int).toNat) 64)) e.w=_;have G:(2:Int)^n=((2^n:Nat):Int):=by norm_cast
  rw[Int.toNat_natCast,u,G,Nat.shiftRight_eq_div_pow]
  congr 2
 simp[execOp,di,fp,eqGuard,hb]
theorem Z8{m n:Nat}(hn:n<=61)(h1:2^n<=m)(u:m<2^(n+1)):IntKind.i64.wrap (((BitVec.ofInt 64 (m:Int)&&&~~~BitVec.ofInt 64 (2^n:Int)).toNat:Nat):Int)=(m:Int)-2^n:=by
 have G:(2:Int)^n=((2^n:Nat):Int):=by norm_cast
 have alC:(2:Nat)^(n+1)<=2^62:=Nat.pow_le_pow_right (by omega) (by omega);obtain⟨r,rfl⟩:∃r,m=2^n+r:=⟨m-2^n,by omega⟩;have hr:r<2^n:=by rw[Nat.pow_succ] at u;omega
 have J:(BitVec.ofInt 64 ((2^n+r:Nat):Int)&&&~~~BitVec.ofInt 64 (2^n:Int)).toNat=r:=by
  rw[G];have:(BitVec.ofInt 64 ((2^n+r:Nat):Int)&&&~~~BitVec.ofInt 64 ((2^n:Nat):Int)).toNat=bn (2^n+r) n:=by simp only[BitVec.ofInt_natCast,bn]
  rw[this];refine Nat.eq_of_testBit_eq λ j=>?_
  rw[abg _ _ _ (by omega)];have h4:2^n+r=2^n*1+r:=by omega
  rw[h4,Nat.testBit_two_pow_mul_add _ hr]
  by_cases hj:j<n
  ·rw[if_pos hj];have:¬n=j:=by omega
   simp[this]
  ·rw[if_neg hj];have afo:r.testBit j=false:=Nat.testBit_lt_two_pow (Nat.lt_of_lt_of_le hr (Nat.pow_le_pow_right (by omega) (by omega)));rw[afo]
   by_cases aez:n=j
   ·simp[aez]
   ·have:(1:Nat).testBit (j-n)=false:=Nat.testBit_lt_two_pow (Nat.one_lt_two_pow (by omega));simp[this]
 rw[J,G,B8 (Int.natCast_nonneg r) (by omega)];omega
theorem Z7{ty aH:TypeId}{x y:Operand}{a c:Int}(n:Nat)(ho:o.op=.binOp .andNot ty x y aH)(hx:ev S x=some (M a))(hy:ev S y=some (M c))(F:c=2^n)(hn:n<=61)(h1:(2^n:Nat)<=a)(u:a<(2^(n+1):Nat)):dM P o S B (M (a-2^n)) none:=by
 subst F;obtain⟨m,rfl⟩:=Int.eq_ofNat_of_zero_le (show 0<=a by omega);refine jZ λ ac e T=>?_
 have di:=dg (T.1 x (by rw[ho];simp[Op.operands]) _ hx);have fp:=dg (T.1 y (by rw[ho];simp[Op.operands]) _ hy);refine⟨_,?_,.p (.raw _)⟩;obtain⟨dst,op,type,pos,after,guard⟩:=o;simp only at ho;subst ho;have hb:(binOp .andNot ty (.int .i64 (m:Int)) (.int .i64 (2^n:Int))).run P e.w=.ok (.int .i64 ((m:Int)-2^n)) e.w:=by rw[<-Z8 hn (by omega) (by omega)];rfl
 simp[execOp,di,fp,eqGuard,hb]
theorem YF{ty:TypeId}{x y:Operand}{k:IntKind}{i:Nat}{s:ByteArray}{c:UInt8}(ho:o.op=.index ty x y)(ht:P.underlying ty=some .string)(hx:ev S x=some (.p (.raw (.string s))))(hy:ev S y=some (.p (.raw (.int k (i:Int)))))(hi:s[i]?=some c):dM P o S B (.p (.raw (.int .u8 (c.toNat:Int)))) none:=by
 refine jZ λ ac e T=>?_
 have di:=dg (T.1 x (by rw[ho];simp[Op.operands]) _ hx);have fp:=dg (T.1 y (by rw[ho];simp[Op.operands]) _ hy);refine⟨_,?_,.p (.raw _)⟩;obtain⟨dst,op,type,pos,after,guard⟩:=o;simp only at ho;subst ho;simp[execOp,Instr.index,asIntOf,di,fp,run_underlying ht,hi]
theorem MF{ty aH:TypeId}{x y:Operand}{m n:Nat}(ho:o.op=.binOp .geq ty x y aH)(hx:ev S x=some (dU m))(hy:ev S y=some (dU n)):dM P o S B (dB (decide (n<=m))) none:=by
 refine jZ λ ac e T=>?_
 have di:=dg (T.1 x (by rw[ho];simp[Op.operands]) _ hx);have fp:=dg (T.1 y (by rw[ho];simp[Op.operands]) _ hy);refine⟨_,?_,.p (.raw _)⟩;obtain⟨dst,op,type,pos,after,guard⟩:=o;simp only at ho;subst ho;have hb:(binOp .geq ty (.int .u64 (m:Int)) (.int .u64 (n:Int))).run P e.w=.ok (.bool (decide ((n:Int)<=m))) e.w:=rfl;have K:decide ((n:Int)<=m)=decide (n<=m):=by rw[decide_eq_decide];omega
 rw[K] at hb;simp[execOp,di,fp,eqGuard,hb]
theorem YK(s:ByteArray)(f:Nat->Nat)(h:(List.range 256).all (λ i=>decide (s[i]?=some (UInt8.ofNat (f i))))=true){m:Nat}(hm:m<256):s[m]?=some (UInt8.ofNat (f m)):=by
 have:=List.all_eq_true.1 h m (List.mem_range.2 hm)
 simpa using this
end
def rT(n:Nat):Nat:=if n=0 then 0 else Nat.log2 n+1
theorem agL{n k:Nat}(h:2^k<=n):Nat.log2 (n/2^k)=Nat.log2 n-k:=by
 have hk:0<2^k:=Nat.two_pow_pos k;have hq:n/2^k≠0:=by have:=Nat.div_pos h hk;omega
 have hn:n≠0:=by omega
 have h1:k<=Nat.log2 n:=(Nat.le_log2 hn).2 h;have u:=Nat.log2_self_le hn;have J:n<2^(Nat.log2 n+1):=(Nat.log2_lt hn).1 (Nat.lt_succ_self _);have h4:2^(Nat.log2 n-k)<=n/2^k:=(Nat.le_div_iff_mul_le hk).2 (by rw[<-Nat.pow_add];rwa [Nat.sub_add_cancel h1]);have h5:n/2^k<2^(Nat.log2 n-k+1):=(Nat.div_lt_iff_lt_mul hk).2 (by rw[<-Nat.pow_add];rwa [show Nat.log2 n-k+1+k=Nat.log2 n+1 by omega]);have h6:=(Nat.le_log2 hq).2 h4;have h7:=(Nat.log2_lt hq).2 h5;omega
theorem agu{n k:Nat}(h:2^k<=n):rT n=k+rT (n/2^k):=by have hk:0<2^k:=Nat.two_pow_pos k;have hq:=Nat.div_pos h hk;have h1:k<=Nat.log2 n:=(Nat.le_log2 (by omega)).2 h;unfold rT;rw[if_neg (by omega),if_neg (by omega),agL h];omega
theorem Ze{m:Nat}(hm:m<256):IntKind.u8.wrap (m:Int)=(m:Int):=by simp only[IntKind.wrap,IntKind.signed,IntKind.bits];simp;omega
theorem agv{m:Nat}(hm:m<256):rT m<=8:=by
 unfold rT;split
 ·omega
 ·have:=(Nat.log2_lt (n:=m) (k:=8) (by omega)).2 (by omega);omega
theorem YM(m a:Nat)(hm:m<256)(ha:a<=16):((UInt8.ofNat (rT m)).toNat:Int)=rT m/\(a:Int)+rT m<=100:=by have:=agv hm;refine⟨?_,by omega⟩;rw[UInt8.toNat_ofNat'];omega
set_option maxHeartbeats 4000000 in
theorem agr(n:Nat)(hn:n<65536):bH prog 49 [dU n] (M (rT n)):=by
 refine sP func49 ntmps49 λ w cl=>?_
 refine go ?_;refine cy (MF rfl rfl rfl) rfl rfl rfl ?_;rw[show decide (4294967296<=n)=false by rw[decide_eq_false_iff_not];omega];refine go ?_;refine cy (MF rfl rfl rfl) rfl rfl rfl ?_;rw[show decide (65536<=n)=false by rw[decide_eq_false_iff_not];omega];refine go ?_;refine cy (MF rfl rfl rfl) rfl rfl rfl ?_;generalize h1:decide (256<=n)=cc;cases cc
 ·have bB:=of_decide_eq_false h1;obtain⟨u,J⟩:=YM n 0 (by omega) (by omega);refine go ?_
  repeat refine zq aX rfl rfl rfl rfl ?_
  rw[show IntKind.u8.wrap ((n:Nat):Int)=((n:Nat):Int) from Ze (by omega)];refine cy (YF rfl underlying9 rfl rfl (YK _ rT (by kernel_rfl) (by omega))) rfl rfl rfl ?_;refine cy (L2 aX rfl rfl rfl rfl (by omega) (by omega)) rfl rfl rfl ?_;rw[u];refine go ?_;refine gf ?_;rw[Int.zero_add]
 ·have bB:=of_decide_eq_true h1;have h4:n/256<256:=by omega
  obtain⟨u,J⟩:=YM (n/256) 8 h4 (by omega);have h5:=agu (n:=n) (k:=8) (by omega);refine go ?_;refine cy (ajY 8 rfl rfl rfl (by omega)) rfl rfl rfl ?_;rw[show n>>>8=n/256 from Nat.shiftRight_eq_div_pow n 8];refine go ?_
  repeat refine zq aX rfl rfl rfl rfl ?_
  rw[show IntKind.u8.wrap ((n/256:Nat):Int)=((n/256:Nat):Int) from Ze (by omega)];refine cy (YF rfl underlying9 rfl rfl (YK _ rT (by kernel_rfl) h4)) rfl rfl rfl ?_;refine cy (L2 aX rfl rfl rfl rfl (by omega) (by omega)) rfl rfl rfl ?_;rw[u];refine go ?_;refine gf ?_;rw[h5];rfl
theorem agt(n:Nat)(hn:n<65536):bH prog 20 [dU n] (M (rT n)):=by
 refine sP func20 ntmps20 λ w cl=>?_
 refine gA (agr n hn) ?_;refine hp ?_
 rfl
theorem akK{b:Int}(h0:0<=b)(h1:b<65536):IntKind.u64.wrap b=((b.toNat:Nat):Int):=by obtain⟨n,rfl⟩:=Int.eq_ofNat_of_zero_le h0;rw[akJ (by omega),Int.toNat_natCast]
theorem WW(b:Int)(hb:b<65536):bH prog 8 [M b] (M (eH b)):=by
 generalize Y:eH b=E;unfold eH at Y;refine sP func8 ntmps8 λ w cl=>?_
 refine go ?_;generalize h1:decide (b<1)=cc;cases cc
 ·have bB:=of_decide_eq_false h1;rw[if_neg (by omega)] at Y;have hn:b.toNat≠0:=by omega
  have Z:rT b.toNat=Nat.log2 b.toNat+1:=if_neg hn;have u:=Nat.log2_self_le hn;have J:b.toNat<2^(Nat.log2 b.toNat+1):=(Nat.log2_lt hn).1 (Nat.lt_succ_self _);have h4:Nat.log2 b.toNat<16:=(Nat.log2_lt hn).2 (by omega);have h5:(2:Nat)^Nat.log2 b.toNat<=2^16:=Nat.pow_le_pow_right (by omega) (by omega);have h6:(2:Int)^Nat.log2 b.toNat=((2^Nat.log2 b.toNat:Nat):Int):=by norm_cast
  refine go ?_;rw[akK (by omega) hb];refine cA (agt b.toNat (by omega)) ?_;rw[Z];refine go ?_;refine cy (DR (Nat.log2 b.toNat) rfl rfl rfl (by omega) (by omega) (by omega) (by omega)) rfl rfl rfl ?_;refine cy (Z7 (Nat.log2 b.toNat) rfl rfl rfl (by omega) (by omega) (by omega) (by omega)) rfl rfl rfl ?_;refine gf ?_;rw[Y]
 ·rw[if_pos (of_decide_eq_true h1)] at Y;refine gf ?_;rw[<-Y]
structure lN(l:aI):Prop where
 b:0<=l.buckets/\l.buckets<=64
 m:mZ l.maps
 d:mZ l.done
def vS(k:Int):Nat->Int
 |0=>0
 |i+1=>vS k i+k/2^i%2*2^(15-i)
theorem XT(k:Int):gF k=vS k 16:=by unfold gF;simp only[List.range,List.range.loop,List.map_cons,List.map_nil,List.sum_cons,List.sum_nil,vS];omega
theorem RG(k:Int)(i:Nat):0<=k/2^i%2/\k/2^i%2<=1:=by have h1:=Int.emod_nonneg (k/2^i) (show(2:Int)≠0 by omega);have u:=Int.emod_lt_of_pos (k/2^i) (show(0:Int)<2 by omega);omega
theorem P1(k:Int):∀i:Nat,i<=16->∃q:Int,vS k i=2^(16-i)*q/\0<=q/\q<2^i
 |0,_=>⟨0,by simp[vS],by omega,by simp⟩
 |i+1,hi=>by
  obtain⟨q,h1,u,J⟩:=P1 k i (by omega);obtain⟨b0,b1⟩:=RG k i;refine⟨2*q+k/2^i%2,?_,by omega,?_⟩
  ·rw[vS,h1,show 16-i=(15-i)+1 by omega,show 16-(i+1)=15-i by omega,Int.pow_succ,Int.mul_add,Int.mul_assoc,Int.mul_comm (2^(15-i)) (k/2^i%2)]
  ·rw[Int.pow_succ];omega
theorem XU(k:Int)(i:Nat)(hi:i<=16):0<=vS k i/\vS k i<65536:=by
 obtain⟨q,h1,u,J⟩:=P1 k i hi;rw[h1];have G:(0:Int)<2^(16-i):=Int.pow_pos (by omega);have h4:(2:Int)^(16-i)*2^i=65536:=by rw[<-Int.pow_add,Nat.sub_add_cancel hi];rfl
 exact⟨Int.mul_nonneg (by omega) u,by rw[<-h4];exact Int.mul_lt_mul_of_pos_left J G⟩
theorem XS(k:Int):0<=gF k/\gF k<65536:=by rw[XT];exact XU k 16 (Nat.le_refl _)
theorem aib{P:Program}{S:Nat->Option I}{B:Nat->Option (List I)}{o:Oper}{ty aH:TypeId}{x y:Operand}{a c:Int}(k:Nat)(q:Int)(ho:o.op=.binOp .or ty x y aH)(hx:ev S x=some (M a))(hy:ev S y=some (M c))(adO:a=2^k*q)(h0:0<=c)(h1:c<2^k)(hq:0<=q)(F:a+c<9223372036854775808):dM P o S B (M (a+c)) none:=by
 subst adO;refine jZ λ ac e T=>?_
 have di:=dg (T.1 x (by rw[ho];simp[Op.operands]) _ hx);have fp:=dg (T.1 y (by rw[ho];simp[Op.operands]) _ hy);refine⟨_,?_,.p (.raw _)⟩;obtain⟨dst,op,type,pos,after,guard⟩:=o;simp only at ho;subst ho;have hb:(binOp .or ty (.int .i64 (2^k*q:Int)) (.int .i64 c)).run P e.w=.ok (.int .i64 (2^k*q+c)) e.w:=by rw[Int.add_comm,<-WH h0 h1 hq (by omega),BitVec.or_comm];rfl
 simp[execOp,di,fp,eqGuard,hb]
theorem P3(k:Int):bH prog 65 [M k] (M (gF k)):=by
 rw[XT];refine sP func65 ntmps65 λ w cl=>?_
 refine go ?_;refine d7 (λ i:Nat=>i<=16) (λ i=>⟨[(5,M i),(3,M (vS k i)),(0,M k)],[],[]⟩) (λ i=>16-i) 0 (Nat.zero_le _) (zX) ?_;intro i hi;refine(show a8 _ _ _ _ ⟨[(5,M i),(3,M (vS k i)),(0,M k)],[],[]⟩ from ?_);refine go ?_;generalize h1:decide ((i:Int)<16)=cc;cases cc
 ·have bB:=of_decide_eq_false h1;obtain rfl:i=16:=by omega
  refine gf ?_
  rfl
 ·have bB:=of_decide_eq_true h1;obtain⟨q,u,J,h4⟩:=P1 k i hi;obtain⟨b0,b1⟩:=RG k i;have amm:(0:Int)<2^(15-i):=Int.pow_pos (by omega);have amn:(2:Int)^(16-i)=2^(15-i)*2:=by rw[show 16-i=(15-i)+1 by omega,Int.pow_succ]
  have cV:(2:Int)^(15-i)<=32768:=by
   have:=Nat.pow_le_pow_right (n:=2) (by omega) (show 15-i<=15 by omega);have h6:(2:Int)^(15-i)=((2^(15-i):Nat):Int):=by norm_cast
   omega
  have alN:0<=k/2^i%2*2^(15-i)/\k/2^i%2*2^(15-i)<=2^(15-i):=by rcases(show k/2^i%2=0\/k/2^i%2=1 by omega) with h|h<;>rw[h]<;>omega
  have amp:=XU k i hi;refine go ?_;refine cy (ajZ i rfl rfl rfl (by omega) (by omega)) rfl rfl rfl ?_;refine cA (Gt (k/2^i) 1 (by omega)) ?_;rw[show k/2^i%2^1=k/2^i%2 from rfl];refine go ?_;refine cy (DR (15-i) rfl rfl rfl (by omega) (by omega) (by omega) (by omega)) rfl rfl rfl ?_;refine cy (aib (16-i) q rfl rfl rfl (by omega) (by omega) (by omega) (by omega) (by omega)) rfl rfl rfl ?_;refine go ?_;exact⟨i+1,by omega,by omega,zX⟩
theorem ajf(k:Int):bH prog 45 [M k] (M (lH k)):=by
 have h:=XS k;refine sP func45 ntmps45 λ w cl=>?_
 refine gA (P3 k) ?_;rw[show IntKind.i64.wrap (IntKind.i64.wrap (2*gF k)+1)=lH k by rw[show IntKind.i64.wrap (2*gF k)=2*gF k from B8 (by omega) (by omega),B8 (by omega) (by omega)];rfl];refine gf ?_
 rfl
theorem abO(k:Int):bH prog 74 [M k] (M (fv k)):=by
 have h:=XS k;refine sP func74 ntmps74 λ w cl=>?_
 refine gA (P3 k) ?_;rw[show IntKind.i64.wrap (2*gF k)=fv k from B8 (by omega) (by omega)];refine gf ?_
 rfl
theorem Vs(n:Int):bH prog 29 [M n] (M (xg n)):=by
 refine sP func29 ntmps29 λ w cl=>?_
 refine gA (Gt n 17 (by omega)) ?_;refine cy (Qe 1 rfl rfl rfl (by omega)) rfl rfl rfl ?_;refine cA (P3 (n%2^17/2^1)) ?_;refine gf ?_
 rfl
theorem Do(l:aI)(hL:eT l)(hM:lN l)(m i:Int)(hi:i<9223372036854775808):bH prog 38 [iZ l,M m,M i] (M (fq l m i)):=by
 have e1:=hL.map;have e2:=hM.m;have e3:=hM.b;refine sP func38 ntmps38 λ w cl=>?_
 refine go ?_;generalize k1:decide (i>1)=cc;cases cc
 ·have rS:=of_decide_eq_false k1;refine gA (KO l.map l.maps (2+l.buckets) m i e1 e2 (by omega) hi) ?_;refine hp ?_;rw[fq,if_neg rS]
 ·refine gf ?_;rw[fq,if_pos (of_decide_eq_true k1)]
theorem HN(l:aI)(hL:eT l)(hM:lN l)(m b:Int):bH prog 25 [iZ l,M m,M b] (M (il l m b)):=by
 have e1:=hL.map;have e2:=hM.m;have e3:=hM.b;refine sP func25 ntmps25 λ w cl=>?_
 refine go ?_;generalize k1:decide (b<0)=cc;cases cc
 ·have rS:=of_decide_eq_false k1;refine go ?_;generalize k2:decide (b>=l.buckets)=cc;cases cc
  ·have xe:=of_decide_eq_false k2;refine gA (KO l.map l.maps (2+l.buckets) m (2+b) e1 e2 (by omega) (by omega)) ?_;refine hp ?_;rw[il,if_neg (by omega)]
  ·refine gf ?_;rw[il,if_pos (.inr (of_decide_eq_true k2))]
 ·refine gf ?_;rw[il,if_pos (.inl (of_decide_eq_true k1))]
def Oz(l:Nat)(tm:St->Prop)(Q:Exit->St->Prop):Exit->St->Prop
 |.goto jm,L=>jm=l/\tm L
 |ex,L=>Q ex L
theorem OH{p:Nat->Prop}:∀n,p n->∃k,p k/\∀m,p m->k<=m:=by
 intro n;induction n using Nat.strongRecOn with
 |_ n ih=>
  intro h
  by_cases hh:∃m,m<n/\p m
  ·obtain⟨m,h1,u⟩:=hh;exact ih m h1 u
  ·refine⟨n,h,λ m hm=>?_⟩;rcases Nat.lt_or_ge m n with h1|h1
   ·exact absurd ⟨m,h1,hm⟩ hh
   ·exact h1
section
variable{P:Program}{Γ:bX}{Q:Exit->St->Prop}{L:St}{r:Code}
theorem aaw{fg:Type}(ok:fg->Prop)(jN:fg->St)(m8:fg->Nat){l:Nat}(i0:fg)(hk:ok i0)(h0:eI Γ L (jN i0))(aiz:∀i,ok i->a8 P Γ r (Oz l (λ bQ=>∃j,ok j/\m8 j<m8 i/\eI Γ bQ (jN j)) Q) (jN i)):a8 P Γ (.scope (.seq (.label l) r)) Q L:=by
 classical
 refine⟨λ a e F=>?_⟩
 let at_:Act->World->Nat->Prop:=λ a w n=>∃i e,ok i/\bE Γ (jN i) e a/\e.w=w/\m8 i=n
 let low:Act->World->Nat:=λ a w=>if h:∃n,at_ a w n then Classical.choose (OH (p:=at_ a w) h.choose h.choose_spec) else 0
 have VY:∀a w n,at_ a w n->at_ a w (low a w)/\low a w<=n:=λ a w n hn=>by
  have h:∃n,at_ a w n:=⟨n,hn⟩;have T:=Classical.choose_spec (OH (p:=at_ a w) h.choose h.choose_spec);have e:low a w=Classical.choose (OH (p:=at_ a w) h.choose h.choose_spec):=dif_pos h;rw[e];exact⟨T.1,T.2 n hn⟩
 have body:∀(a:Act)(w:World)(n:Nat),at_ a w n->r.wp P (Exit.jump l (λ bF aA=>(∃m,at_ bF aA m)/\low bF aA<n) (jP Γ Q)) a w:=by
  rintro a w n ⟨i,e,h1,u,rfl,rfl⟩;refine Code.wp_mono (λ ex bF aA hh=>?_) ((aiz i h1).run a e u);obtain⟨bQ,ae,rfl,J,h4⟩:=hh;cases ex with
  |goto jm=>obtain⟨rfl,j,h5,h6,h7⟩:=h4;obtain⟨e2,h8,h9⟩:=h7 bF ae J;have iC:at_ bF ae.w (m8 j):=⟨j,e2,h5,h9,h8,rfl⟩;exact⟨rfl,⟨_,iC⟩,Nat.lt_of_le_of_lt (VY _ _ _ iC).2 h6⟩
  |_=>exact⟨bQ,ae,rfl,J,h4⟩
 obtain⟨e1,g1,g2⟩:=h0 a e F;have bY:at_ a e.w (m8 i0):=⟨i0,e1,hk,g2,g1,rfl⟩;refine wp_scope_jumps (rest:=.seq .skip r) l (λ a w=>∃n,at_ a w n) low (by simp[findLabel]) ?_ ?_
 ·refine wp_seq (wp_label ?_);exact Code.wp_mono (λ ex bF aA hh=>by cases ex<;>first|exact⟨hh.1,hh.2.1⟩|exact hh) (body a e.w _ bY)
 ·rintro a w ⟨n,hn⟩;exact wp_seq (wp_skip (body a w _ (VY a w n hn).1))
end
section
variable{P:Program}{Γ:bX}{Q:Exit->St->Prop}{aB:St->Prop}{tm:St->Prop}{L:St}{l id:Nat}
theorem Ry(h:Q (.goto l) L):a8 P Γ (.goto l) Q L:=⟨λ _ e F=>wp_goto ⟨L,e,rfl,F,h⟩⟩
theorem Xo(h:Q (.goto l) L):uK aB Q (.goto l) L:=h
theorem Xm(h:Q (.goto l) L):re id Q (.goto l) L:=h
theorem Xn(h:tm L):Oz l tm Q (.goto l) L:=⟨rfl,h⟩
theorem aiY{eR:bX}{l1 l3:List Oper}{m:Nat}{ch:List PanicEntry}(h:Q (.panic ch) L):Gk P eR l1 l3 m Q (.panic ch) L:=h
theorem aiX{ch:List PanicEntry}(h:Q (.panic ch) L):Oz l tm Q (.panic ch) L:=h
end
abbrev Ta(K:Int)(f:j6):List I:=[.ptr 11 0,dB f.there,M f.prev,M f.cur,M f.next,M f.aD,M K]
abbrev np(l:aI)(O:Int)(log:List aJ)(K:Int)(f:j6)(s:ag):cn:=[(11,GV l O s),(12,[.ptr 11 0]),(13,[nZ log]),(14,Ta K f)]
structure iy(log:List aJ)(s ah:ag):Prop where
 made:s.made<=ah.made
 le:ah.made<=log.length
 ok:js ah.gone
 len:ah.gone.length+s.made<=s.gone.length+ah.made
def Zp(l:aI)(O:Int)(log:List aJ)(K:Int)(s:ag)(m:Except bz (j6×ag)):I->cn->Prop:=λ d bs=>∃f ah,m=.ok (f,ah)/\iy log s ah/\s.made<ah.made/\0<=f.cur/\f.cur<65536/\d=.ca []/\bs=np l O log K f ah
def Zq(l:aI)(O:Int)(log:List aJ)(K:Int)(m:Except bz (j6×ag)):Value->cn->Prop:=λ x bs=>∃a ah f,m=.error a/\x=v9 a/\bs=np l O log K f ah
theorem iy.same{log:List aJ}{s t s1:ag}(h:iy log s t)(hg:s1.gone=t.gone)(h1:t.made<=s1.made)(u:s1.made<=log.length):iy log s s1:=by obtain⟨a1,a2,a3,a4⟩:=h;exact⟨by omega,u,by rw[hg];exact a3,by rw[hg];omega⟩
theorem aiQ(x:ag)(i v:Int):(x.ej i v).made=x.made:=by
 unfold ag.ej;split
 ·rfl
 ·split<;>rfl
theorem Tv{l:aI}{O i cell:Int}:∀{k:Nat}{log:List aJ}{s ah:ag}{p:Int×Int},oV l O i cell k log s=.ok (p,ah)->s.made<=ah.made/\(0<k->s.made<ah.made)
 |0,log,s,ah,p,h=>by cases h;exact⟨Nat.le_refl _,λ h=>absurd h (Nat.lt_irrefl _)⟩
 |k+1,log,s,ah,p,h=>by
  rw[oV] at h;cases h1:gR cell log s with
  |error a=>rw[eA h1] at h;cases h
  |ok q=>
   obtain⟨v,s1⟩:=q;rw[bl h1,bl jI] at h;have g1:=rU h1;cases u:gR l.era log s1 with
   |error a=>rw[eA u] at h;cases h
   |ok q=>
    obtain⟨er,s2⟩:=q;rw[bl u] at h;have g2:=rU u;split at h
    ·cases h;exact⟨by omega,λ _=>by omega⟩
    ·cases J:kj (fU l O i) er log s2 with
     |error a=>rw[eA J] at h;cases h
     |ok q=>obtain⟨aH,s3⟩:=q;rw[bl J] at h;have g3:=B4 J;have g4:=(Tv h).1;rw[aiQ] at g4;exact⟨by omega,λ _=>by omega⟩
theorem ac3{l:aI}{O i cell:Int}{log:List aJ}{s ah:ag}{p:Int×Int}(hm:s.made<=log.length)(h:tO l O i cell log s=.ok (p,ah)):s.made<ah.made:=(Tv h).2 (by omega)
theorem Qg{l:aI}{held:List Int}:∀{gs stay:List (Int×Int)}{log:List aJ}{s ah:ag}{r:List (Int×Int)},kQ l held gs stay log s=.ok (r,ah)->js gs->js stay->js r
 |[],stay,log,s,ah,r,h,_,u=>by cases h;exact u
 |g::gs,stay,log,s,ah,r,h,h1,u=>by
  have bB:js gs:=λ p G=>h1 p (List.mem_cons_of_mem _ G)
  rw[kQ] at h;cases k1:gR (bf l g.1 6) log s with
  |error a=>rw[eA k1] at h;cases h
  |ok q=>
   obtain⟨b,s1⟩:=q;rw[bl k1] at h;split at h
   ·exact Qg h bB (λ p G=>by
     rw[List.mem_append,List.mem_singleton] at G;rcases G with G|rfl
     ·exact u p G
     ·exact h1 _ (by simp))
   ·cases k2:Ay l g.1 log s1 with
    |error a=>rw[eA k2] at h;cases h
    |ok q=>obtain⟨aH,s2⟩:=q;rw[bl k2] at h;exact Qg h bB u
theorem acT{g:List (Int×Int)}{n e:Int}(h:js g)(hn:n<9223372036854775808):js (g++[(n,e)]):=by
 intro p G;rw[List.mem_append,List.mem_singleton] at G;rcases G with G|rfl
 ·exact h p G
 ·exact hn
theorem XQ{l:aI}{n:Int}{log:List aJ}{s ah:ag}{aH:Unit}(h:s7 l n log s=.ok (aH,ah))(hg:js s.gone)(hn:n<9223372036854775808):js ah.gone:=by
 unfold s7 at h;cases h1:gR l.era log s with
 |error a=>rw[eA h1] at h;cases h
 |ok q=>
  obtain⟨er,s1⟩:=q;rw[bl h1] at h;have g1:s1.gone=s.gone:=by rw[(pi h1).1]
  cases u:h2 ⟨4,l.era,0,1⟩ log s1 with
  |error a=>rw[eA u] at h;cases h
  |ok q=>
   obtain⟨r,s2⟩:=q;rw[bl u] at h;have g2:s2.gone=s.gone:=by rw[(Cu u).1];exact g1
   have hq:js (s2.gone++[(n,er)]):=by rw[g2];exact acT hg hn
   split at h
   ·cases h;exact hq
   ·unfold yU at h;cases J:qM [] (sa l 0 l.ar.toNat) log {s2 with gone:=s2.gone++[(n,er)]} with
    |error a=>rw[eA J] at h;cases h
    |ok q=>
     obtain⟨held,s3⟩:=q;rw[bl J] at h;cases h4:kQ l held (s2.gone++[(n,er)]) [] log s3 with
     |error a=>rw[eA h4] at h;cases h
     |ok q=>obtain⟨stay,s4⟩:=q;rw[bl h4] at h;unfold sb at h;cases h;exact Qg h4 hq (λ p G=>by simp at G)
theorem uB(n:Int):bH prog 117 [M n] (M (bt n)):=by
 refine sP func117 ntmps117 λ w cl=>?_
 refine gA (DD ⟨n,false,0⟩) ?_;refine hp ?_
 rfl
theorem ag2(n:Int):bH prog 120 [M n] (M (pk n)):=by
 refine sP func120 ntmps120 λ w cl=>?_
 refine gA (DD ⟨n,true,0⟩) ?_;refine hp ?_
 rfl
set_option maxHeartbeats 16000000 in
theorem Ia(l:aI)(hL:eT l)(O:Int)(log:List aJ)(K o:Int)(ky:j6)(s:ag)(mQ:js s.gone)(o7:s.gone.length+log.length<=10000+s.made)(hm:s.made<=log.length)(Z:log.length<=1000000):
 jt prog 110 [11,12,13,14] [.ptr 14 0,M o] (np l O log K ky s) (Zp l O log K s (tL l O K o log s)) (Zq l O log K (tL l O K o log s)):=by
 generalize Y:tL l O K o log s=E;unfold tL at Y;refine sX func110 ntmps110 λ w cl own kf=>?_
 refine aaw (l:=0) (λ p:Nat×j6×ag=>iy log s p.2.2/\2*(log.length-p.2.2.made)+2<=p.1/\mJ l O K o p.1 none log p.2.2=E) (λ p=>⟨[(0,.ptr 14 0),(1,M o)],np l O log K p.2.1 p.2.2,[]⟩) (λ p=>p.1) (2*(log.length-s.made)+2,ky,s) ⟨⟨Nat.le_refl _,hm,mQ,Nat.le_refl _⟩,Nat.le_refl _,Y⟩ (zX) ?_;rintro⟨k,fd,t⟩ ⟨hG,hk,Y⟩;simp only at hG hk Y;obtain⟨k,rfl⟩:∃j,k=j+1:=⟨k-1,by omega⟩;refine(show a8 _ _ _ _ ⟨[(0,.ptr 14 0),(1,M o)],np l O log K fd t,[]⟩ from ?_);rw[mJ] at Y;refine go ?_;refine Lz 9 10 [] rfl rfl (by kernel_rfl) (by kernel_rfl) (by kernel_rfl) rfl rfl ?_;refine bJ ?_;refine xX (Tw l hL O log t 0 K (.inl rfl) hG.le Z) ?_ ?_
 ·rintro v bs ⟨a,ah,h,rfl,rfl⟩;refine gP ?_;exact fP _ ⟨a,ah,fd,by rw[<-Y];exact eA h,rfl,rfl⟩
 rintro d bs ⟨p,s1,fE,ub,nF,rfl,rfl⟩;rw[bl fE] at Y;have gC:=hG.same (MV fE) ub nF;have wR:=ac3 hG.le fE;obtain⟨w,m5⟩:=p;simp only at Y;have di:=jb w;refine qv ?_;refine VC rfl rfl ?_;refine qg ?_;refine dW 11 [] ?_;refine gQ (rY w) ?_;refine go ?_;refine d7 (λ p:Nat×Lh×Int×ag=>iy log s p.2.2.2/\s.made<p.2.2.2.made/\2*(log.length-p.2.2.2.made)+1<=p.1/\p.1<=k/\(p.2.1.a=0\/p.2.1.a=1\/p.2.1.a=2)/\(p.2.1.b=0\/p.2.1.b=1\/p.2.1.b=2)/\p.2.1.a≠p.2.1.b/\p.2.2.1=3-p.2.1.a-p.2.1.b/\0<=p.2.1.cur/\p.2.1.cur<65536/\mJ l O K o p.1 (some p.2.1) log p.2.2.2=E)
  (λ p=>⟨[(4,M p.2.1.a),(5,M p.2.1.b),(6,M p.2.2.1),(0,.ptr 14 0),(1,M o)],np l O log K ⟨false,p.2.1.prev,p.2.1.cur,0,p.2.1.pt⟩ p.2.2.2,[]⟩) (λ p=>p.1) (k,⟨0,1,K,(av w).idx,m5⟩,2,s1) ⟨gC,by have:=hG.made;simp only;omega,by simp only;omega,Nat.le_refl _,.inl rfl,.inr (.inl rfl),by simp,rfl,di.1,di.2,Y⟩ (zX) ?_
 rintro⟨j,⟨xa,xb,pv,cu,pt⟩,xc,t2⟩ ⟨fW,UG,hj,kF,ha,hb,sE,F,Iy,Iz,Y⟩;simp only at fW UG hj kF ha hb sE F Iy Iz Y;obtain⟨j,rfl⟩:∃i,j=i+1:=⟨j-1,by omega⟩;rw[mJ] at Y;simp only at Y;rw[<-F] at Y;refine(show a8 _ _ _ _ ⟨[(4,M xa),(5,M xb),(6,M xc),(0,.ptr 14 0),(1,M o)],np l O log K ⟨false,pv,cu,0,pt⟩ t2,[]⟩ from ?_);refine go ?_;generalize h1:decide (cu=0)=cc;cases cc
 ·rw[if_neg (of_decide_eq_false h1)] at Y;refine go ?_;refine Lz 15 16 [] rfl rfl (by kernel_rfl) (by kernel_rfl) (by kernel_rfl) rfl rfl ?_;refine bJ ?_;refine lQ (r8 l hL O t2 cu 0 (by omega) (by omega)) ?_;refine bJ ?_;refine xP (Tw l hL O log t2 xb (bf l cu 0) hb fW.le Z) ?_;rintro d bs ⟨p,s2,cL,jU,ib,rfl,rfl⟩;rw[bl cL] at Y;have ji:=fW.same (MV cL) jU ib;obtain⟨nw,tl⟩:=p;simp only at Y;refine qv ?_;refine VC rfl rfl ?_;refine qg ?_;refine gW 9 [] ?_;refine xP (nJ l O log s2 pv ib Z) ?_;rintro d bs ⟨seen,s3,fx,lX,jV,rfl,rfl⟩;rw[bl fx,bl jI] at Y;have lU:=ji.same (by rw[(pi fx).1]) lX jV;have UD:=rU fx;refine go ?_;refine lA (vQ l O s3 (by omega)) ?_;refine gA (uB cu) ?_;generalize u:decide (seen=bt cu)=cc;cases cc
  ·rw[if_neg (of_decide_eq_false u)] at Y;refine go ?_;refine Ry ?_
   repeat(first|refine Xo ?_|refine Xm ?_)
   refine Xn ?_;exact⟨(j,⟨false,pv,cu,0,pt⟩,s3),⟨lU,by simp only;omega,Y⟩,by simp only;omega,zX⟩
  ·rw[if_pos (of_decide_eq_true u)] at Y;refine go ?_;refine gW 14 [] ?_;refine lQ (r8 l hL O s3 cu 1 (by omega) (by omega)) ?_;refine bJ ?_;refine xP (nJ l O log s3 (bf l cu 1) jV Z) ?_;rintro d bs ⟨eE,s4,i9,uc,pa,rfl,rfl⟩;rw[bl i9] at Y;have sC:=lU.same (by rw[(pi i9).1]) uc pa;have al9:=rU i9;have yC:=jb nw;refine gA (rY nw) ?_;generalize A6:(av nw).mark=mk at*;cases mk
   ·rw[if_neg (by decide)] at Y;refine go ?_;generalize J:decide (eE<o)=cc;cases cc
    ·rw[if_neg (of_decide_eq_false J)] at Y;refine go ?_;generalize h4:decide (eE=o)=cc;cases cc
     ·rw[if_neg (of_decide_eq_false h4)] at Y;refine go ?_;exact fX _ ⟨_,s4,Y.symm,sC,by omega,Iy,Iz,rfl,rfl⟩
     ·rw[if_pos (of_decide_eq_true h4)] at Y;refine go ?_;exact fX _ ⟨_,s4,Y.symm,sC,by omega,Iy,Iz,rfl,rfl⟩
    ·rw[if_pos (of_decide_eq_true J)] at Y;refine go ?_;refine gD [14] ?_;refine Xr aX rfl rfl rfl (by kernel_rfl) ?_;refine bJ ?_;refine Xr aX rfl rfl rfl (by kernel_rfl) ?_;refine bJ ?_;refine lQ (r8 l hL O s4 cu 0 (by omega) (by omega)) ?_;refine bJ ?_;refine wL ?_;refine bJ ?_;refine wL ?_;refine qg ?_;exact⟨(j,⟨xb,xc,bf l cu 0,(av nw).idx,tl⟩,xa,s4),⟨sC,by simp only;omega,by simp only;omega,by simp only;omega,hb,by simp only;omega,by simp only;omega,by simp only;omega,yC.1,yC.2,Y⟩,by simp only;omega,zX⟩
   ·rw[if_pos rfl] at Y;refine go ?_;refine dW 18 [] ?_;refine gQ (uB cu) ?_;refine cQ (uB (av nw).idx) ?_;refine bJ ?_;refine xP (zw l O log s4 pv (bt cu) (bt (av nw).idx) pa Z) ?_;rintro d bs ⟨ok,s5,mV,yp,rI,rfl,rfl⟩;rw[bl mV] at Y;have vb:=sC.same (by rw[(uY mV).1]) yp rI;have aeQ:=zv mV;refine go ?_;cases ok
    ·rw[if_neg (by decide)] at Y;refine go ?_;refine Ry ?_
     repeat(first|refine Xo ?_|refine Xm ?_)
     refine Xn ?_;exact⟨(j,⟨false,pv,cu,0,pt⟩,s5),⟨vb,by simp only;omega,Y⟩,by simp only;omega,zX⟩
    ·rw[if_pos rfl,bl jI] at Y;refine go ?_;refine lA (vQ l O s5 (by omega)) ?_;refine go ?_;refine gW 9 [] ?_;refine xX (XR l hL O log s5 cu (by omega) vb.ok (by have:=vb.len;have:=vb.le;omega) rI Z) ?_ ?_
     ·rintro v bs ⟨a,ah,h,rfl,rfl⟩;refine gP ?_;refine fP (np l O log K ⟨false,pv,cu,0,(s5.made:Int)-1⟩ ah) ?_;exact⟨a,ah,_,by rw[<-Y];exact eA h,rfl,rfl⟩
     rintro d bs ⟨aH,s6,wU,N0,FC,rfl,rfl⟩;rw[bl wU] at Y;have M8:iy log s s6:=by
      have e1:=XP wU;have e2:s5.gone=s4.gone:=by rw[(uY mV).1]
      rw[e2] at e1;have:=sC.len;have:=vb.made;exact⟨by omega,FC,XQ wU vb.ok (by omega),by omega⟩
     refine go ?_;exact⟨(j,⟨xb,xa,pv,(av nw).idx,(s5.made:Int)-1⟩,xc,s6),⟨M8,by simp only;omega,by simp only;omega,by simp only;omega,hb,ha,by simp only;omega,by simp only;omega,yC.1,yC.2,Y⟩,by simp only;omega,zX⟩
 ·rw[if_pos (of_decide_eq_true h1)] at Y;have NA:cu=0:=of_decide_eq_true h1;refine go ?_;refine fX (np l O log K ⟨false,pv,cu,0,pt⟩ t2) ?_;exact⟨_,t2,by rw[<-Y,NA];rfl,fW,UG,Iy,Iz,rfl,rfl⟩
def K5(l:aI)(O:Int)(log:List aJ)(K:Int)(s:ag)(m:Except bz (bd×ag)):I->cn->Prop:=λ d bs=>∃x ah f,m=.ok (x,ah)/\iy log s ah/\d=Ez x/\bs=np l O log K f ah
def K6(l:aI)(O:Int)(log:List aJ)(K:Int)(m:Except bz (bd×ag)):Value->cn->Prop:=λ x bs=>∃a ah f,m=.error a/\x=v9 a/\bs=np l O log K f ah
theorem iy.trans{log:List aJ}{s t aH:ag}(h:iy log s t)(u:iy log t aH):iy log s aH:=by obtain⟨a1,a2,a3,a4⟩:=h;obtain⟨b1,b2,b3,b4⟩:=u;exact⟨by omega,b2,b3,by omega⟩
theorem To{l:aI}{n:Int}:∀{k:Nat}{log:List aJ}{s ah:ag}{aH:Unit},tN l n k log s=.ok (aH,ah)->ah.gone=s.gone
 |0,log,s,ah,aH,h=>by cases h;rfl
 |k+1,log,s,ah,aH,h=>by
  rw[tN] at h;cases h1:gR l.free log s with
  |error a=>rw[eA h1] at h;cases h
  |ok q=>
   obtain⟨fr,s1⟩:=q;rw[bl h1] at h;have g1:s1.gone=s.gone:=by rw[(pi h1).1]
   cases u:kj (bf l n 7) (av fr).idx log s1 with
   |error a=>rw[eA u] at h;cases h
   |ok q=>
    obtain⟨lk,s2⟩:=q;rw[bl u] at h;have g2:s2.gone=s.gone:=by rw[(xE u).1];exact g1
    cases J:oS l.free fr (eh (ii (av fr) n)) log s2 with
    |error a=>rw[eA J] at h;cases h
    |ok q=>
     obtain⟨ok,s3⟩:=q;rw[bl J] at h;have g3:s3.gone=s.gone:=by rw[(uY J).1];exact g2
     split at h
     ·cases h;exact g3
     ·exact(To h).trans g3
theorem YO{l:aI}:∀{k:Nat}{log:List aJ}{s ah:ag}{p:Int×Int×Bool},uJ l k log s=.ok (p,ah)->0<=p.1
 |0,log,s,ah,p,h=>by cases h;simp
 |k+1,log,s,ah,p,h=>by
  rw[uJ] at h;cases h1:gR l.free log s with
  |error a=>rw[eA h1] at h;cases h
  |ok q=>
   obtain⟨fr,s1⟩:=q;rw[bl h1] at h;split at h
   ·rw[bl jI] at h;cases h;simp
   ·cases u:gR (bf l (av fr).idx 7) log s1 with
    |error a=>rw[eA u] at h;cases h
    |ok q=>
     obtain⟨lk,s2⟩:=q;rw[bl u] at h;cases J:oS l.free fr (eh (ii (av fr) lk)) log s2 with
     |error a=>rw[eA J] at h;cases h
     |ok q=>
      obtain⟨ok,s3⟩:=q;rw[bl J] at h;split at h
      ·rw[bl jI] at h;cases h4:gR l.era log s3 with
       |error a=>rw[eA h4] at h;cases h
       |ok q=>
        obtain⟨bi,s4⟩:=q;rw[bl h4] at h;cases h5:kj (bf l (av fr).idx 6) bi log s4 with
        |error a=>rw[eA h5] at h;cases h
        |ok q=>obtain⟨aH,s5⟩:=q;rw[bl h5] at h;cases h;exact(jb fr).1
      ·exact YO h
set_option maxHeartbeats 8000000 in
theorem acQ(l:aI)(hL:eT l)(O:Int)(log:List aJ)(K o:Int)(ky:j6)(s:ag)(mQ:js s.gone)(o7:s.gone.length+log.length<=10000+s.made)(hm:s.made<=log.length)(Z:log.length<=1000000):
 jt prog 95 [11,12,13,14] [.ptr 14 0,M o] (np l O log K ky s) (K5 l O log K s (getM l O K o log s)) (K6 l O log K (getM l O K o log s)):=by
 generalize Y:getM l O K o log s=E;unfold getM at Y;have hG:iy log s s:=⟨Nat.le_refl _,hm,mQ,Nat.le_refl _⟩;refine sX func95 ntmps95 λ w cl own kf=>?_
 refine go ?_;refine xP (Ia l hL O log K o ky s hG.ok (by have:=hG.len;have:=hG.le;omega) hG.le Z) ?_;rintro d bs ⟨kZ,s1,fE,CF,UB,c7,oh,rfl,rfl⟩;rw[bl fE] at Y;have gC:=hG.trans CF;obtain⟨th,pv,cu,nx,pt⟩:=kZ;simp only at Y c7 oh;refine go ?_;refine gW 12 [] ?_;refine go ?_;cases th
 ·rw[if_neg (by decide),ki] at Y;refine go ?_;refine xP (u0 l hL O log s1 gC.le Z) ?_;rintro d bs ⟨aH,s2,cL,jU,ib,rfl,rfl⟩;rw[bl cL] at Y;have fW:=gC.same (su cL) jU ib;refine go ?_;exact fX _ ⟨_,s2,_,Y.symm,fW,rfl,rfl⟩
 ·rw[if_pos rfl] at Y;refine go ?_;refine gW 14 [] ?_;refine lQ (r8 l hL O s1 cu 2 (by omega) (by omega)) ?_;refine bJ ?_;refine xP (nJ l O log s1 (bf l cu 2) gC.le Z) ?_;rintro d bs ⟨v,s2,cL,jU,ib,rfl,rfl⟩;rw[bl cL,ki] at Y;have fW:=gC.same (by rw[(pi cL).1]) jU ib;refine go ?_;refine xP (u0 l hL O log s2 fW.le Z) ?_;rintro d bs ⟨aH,s3,fx,lX,jV,rfl,rfl⟩;rw[bl fx] at Y;have ji:=fW.same (su fx) lX jV;refine go ?_;exact fX _ ⟨_,s3,_,Y.symm,ji,rfl,rfl⟩
set_option maxHeartbeats 16000000 in
theorem aiT(l:aI)(hL:eT l)(O:Int)(log:List aJ)(K o v:Int)(ky:j6)(s:ag)(mQ:js s.gone)(o7:s.gone.length+log.length<=10000+s.made)(hm:s.made<=log.length)(Z:log.length<=1000000):
 jt prog 97 [11,12,13,14] [.ptr 14 0,M o,M v] (np l O log K ky s) (K5 l O log K s (xt l O K o v log s)) (K6 l O log K (xt l O K o v log s)):=by
 generalize Y:xt l O K o v log s=E;unfold xt at Y;have hG:iy log s s:=⟨Nat.le_refl _,hm,mQ,Nat.le_refl _⟩;refine sX func97 ntmps97 λ w cl own kf=>?_
 refine go ?_;refine d7 (λ p:Nat×Int×j6×ag=>iy log s p.2.2.2/\log.length-p.2.2.2.made<p.1/\0<=p.2.1/\p.2.1<65536/\sZ l O K o v p.1 p.2.1 log p.2.2.2=E) (λ p=>⟨[(7,M p.2.1),(6,.ptr 4 0),(0,.ptr 14 0),(1,M o),(2,M v)],(4,[M 0,dB false,M 0,M 0,.p (.sl true 0 [])])::np l O log K p.2.2.1 p.2.2.2,[]⟩) (λ p=>p.1) (log.length+1-s.made,0,ky,s) ⟨hG,by simp only;omega,by simp,by simp,Y⟩ (zX) ?_;rintro⟨k,n,fd,t⟩ ⟨hG,hk,mT,pN,Y⟩;simp only at hG hk mT pN Y;obtain⟨k,rfl⟩:∃j,k=j+1:=⟨k-1,by omega⟩;refine(show a8 _ _ _ _ ⟨[(7,M n),(6,.ptr 4 0),(0,.ptr 14 0),(1,M o),(2,M v)],(4,[M 0,dB false,M 0,M 0,.p (.sl true 0 [])])::np l O log K fd t,[]⟩ from ?_);rw[sZ] at Y;refine go ?_;refine xP (Ia l hL O log K o fd t hG.ok (by have:=hG.len;have:=hG.le;omega) hG.le Z) ?_;rintro d bs ⟨kZ,s1,fE,CF,UB,c7,oh,rfl,rfl⟩;rw[bl fE] at Y;have gC:=hG.trans CF;obtain⟨th,pv,cu,nx,pt⟩:=kZ;simp only at Y c7 oh;refine go ?_;cases th
 ·rw[if_neg (by decide)] at Y;refine go ?_;generalize u:decide (n=0)=cc;cases cc
  ·rw[if_neg (of_decide_eq_false u),uD,bind_assoc] at Y;refine go ?_;refine gW 16 [] ?_;refine lQ (r8 l hL O s1 n 0 (by omega) (by omega)) ?_;refine gQ (uB cu) ?_;refine xP (ta l O log s1 (bf l n 0) (bt cu) gC.le Z) ?_;rintro d bs ⟨aH,s2,cL,jU,ib,rfl,rfl⟩;rw[bl cL,bind_assoc] at Y;have fW:=gC.same (by rw[(xE cL).1]) jU ib;have A4:=B4 cL;refine go ?_;refine dW 17 [] ?_;refine gQ (uB cu) ?_;refine cQ (uB n) ?_;refine bJ ?_;refine xP (zw l O log s2 pv (bt cu) (bt n) fW.le Z) ?_;rintro d bs ⟨ok,s3,fx,lX,jV,rfl,rfl⟩;rw[bl fx] at Y;have ji:=fW.same (by rw[(uY fx).1]) lX jV;have UD:=zv fx;refine go ?_;cases ok
   ·rw[if_neg (by decide)] at Y;refine go ?_;exact⟨(k,n,⟨false,pv,cu,nx,pt⟩,s3),⟨ji,by simp only;omega,by simp only;omega,by simp only;omega,Y⟩,by simp only;omega,zX⟩
   ·rw[if_pos rfl,bind_assoc,bl jI] at Y;have Y:ki l O ⟨0,true,0,(s3.made:Int)-1,[]⟩ log s3=E:=Y;rw[ki] at Y;refine go ?_;refine lA (vQ l O s3 (by omega)) ?_;refine go ?_;refine xP (u0 l hL O log s3 ji.le Z) ?_;rintro d bs ⟨aH,s4,i9,uc,pa,rfl,rfl⟩;rw[bl i9] at Y;have lU:=ji.same (su i9) uc pa;refine go ?_;exact fX _ ⟨_,s4,_,Y.symm,lU,rfl,rfl⟩
  ·rw[if_pos (of_decide_eq_true u)] at Y;refine go ?_;refine xP (akk l hL O log s1 gC.le Z) ?_;rintro d bs ⟨p,s2,cL,jU,ib,rfl,rfl⟩;rw[bl cL] at Y;have sO:=YN cL;have afb:=YO cL;have fW:=gC.same sO.2 jU ib;obtain⟨n2,alc,ah9⟩:=p;simp only at Y sO afb;refine go ?_;cases ah9
   ·rw[if_neg (by decide),ki] at Y;refine go ?_;refine xP (u0 l hL O log s2 fW.le Z) ?_;rintro d bs ⟨aH,s3,fx,lX,jV,rfl,rfl⟩;rw[bl fx] at Y;have ji:=fW.same (su fx) lX jV;refine go ?_;exact fX _ ⟨_,s3,_,Y.symm,ji,rfl,rfl⟩
   ·rw[if_pos rfl] at Y;refine go ?_;refine gW 11 [] ?_;refine lQ (r8 l hL O s2 n2 1 (by omega) (by omega)) ?_;refine bJ ?_;refine xP (ta l O log s2 (bf l n2 1) o fW.le Z) ?_;rintro d bs ⟨aH,s3,fx,lX,jV,rfl,rfl⟩;rw[bl fx] at Y;have ji:=fW.same (by rw[(xE fx).1]) lX jV;refine go ?_;refine gW 11 [] ?_;refine lQ (r8 l hL O s3 n2 2 (by omega) (by omega)) ?_;refine bJ ?_;refine xP (ta l O log s3 (bf l n2 2) v ji.le Z) ?_;rintro d bs ⟨aH,s4,i9,uc,pa,rfl,rfl⟩;rw[bl i9,uD,bind_assoc] at Y;have lU:=ji.same (by rw[(xE i9).1]) uc pa;refine go ?_;refine gW 16 [] ?_;refine lQ (r8 l hL O s4 n2 0 (by omega) (by omega)) ?_;refine gQ (uB cu) ?_;refine xP (ta l O log s4 (bf l n2 0) (bt cu) lU.le Z) ?_;rintro d bs ⟨aH,s5,mV,yp,rI,rfl,rfl⟩;rw[bl mV,bind_assoc] at Y;have sC:=lU.same (by rw[(xE mV).1]) yp rI;have aeQ:=B4 mV;refine go ?_;refine dW 17 [] ?_;refine gQ (uB cu) ?_;refine cQ (uB n2) ?_;refine bJ ?_;refine xP (zw l O log s5 pv (bt cu) (bt n2) sC.le Z) ?_;rintro d bs ⟨ok,s6,wU,N0,FC,rfl,rfl⟩;rw[bl wU] at Y;have vb:=sC.same (by rw[(uY wU).1]) N0 FC;have ama:=zv wU;refine go ?_;cases ok
    ·rw[if_neg (by decide)] at Y;refine go ?_;exact⟨(k,n2,⟨false,pv,cu,nx,pt⟩,s6),⟨vb,by simp only;omega,by simp only;omega,by simp only;omega,Y⟩,by simp only;omega,zX⟩
    ·rw[if_pos rfl,bind_assoc,bl jI] at Y;have Y:ki l O ⟨0,true,0,(s6.made:Int)-1,[]⟩ log s6=E:=Y;rw[ki] at Y;refine go ?_;refine lA (vQ l O s6 (by omega)) ?_;refine go ?_;refine xP (u0 l hL O log s6 vb.le Z) ?_;rintro d bs ⟨aH,ajL,UX,aeJ,aeN,rfl,rfl⟩;rw[bl UX] at Y;have M8:=vb.same (su UX) aeJ aeN;refine go ?_;exact fX _ ⟨_,ajL,_,Y.symm,M8,rfl,rfl⟩
 ·rw[if_pos rfl] at Y;refine go ?_;generalize u:decide (n=0)=cc;cases cc
  ·rw[if_neg (of_decide_eq_false u)] at Y;refine go ?_;refine xP (Tp l hL O log s1 n (by omega) gC.le Z) ?_;rintro d bs ⟨aH,s2,cL,jU,ib,rfl,rfl⟩;rw[bl cL,ki] at Y;have fW:=gC.same (To cL) jU ib;refine go ?_;refine xP (u0 l hL O log s2 fW.le Z) ?_;rintro d bs ⟨aH,s3,fx,lX,jV,rfl,rfl⟩;rw[bl fx] at Y;have ji:=fW.same (su fx) lX jV;refine go ?_;exact fX _ ⟨_,s3,_,Y.symm,ji,rfl,rfl⟩
  ·rw[if_pos (of_decide_eq_true u),ki] at Y;refine go ?_;refine xP (u0 l hL O log s1 gC.le Z) ?_;rintro d bs ⟨aH,s2,cL,jU,ib,rfl,rfl⟩;rw[bl cL] at Y;have fW:=gC.same (su cL) jU ib;refine go ?_;exact fX _ ⟨_,s2,_,Y.symm,fW,rfl,rfl⟩
set_option maxHeartbeats 16000000 in
theorem abA(l:aI)(hL:eT l)(O:Int)(log:List aJ)(K o:Int)(ky:j6)(s:ag)(mQ:js s.gone)(o7:s.gone.length+log.length<=10000+s.made)(hm:s.made<=log.length)(Z:log.length<=1000000):
 jt prog 99 [11,12,13,14] [.ptr 14 0,M o] (np l O log K ky s) (K5 l O log K s (wl l O K o log s)) (K6 l O log K (wl l O K o log s)):=by
 generalize Y:wl l O K o log s=E;unfold wl at Y;have hG:iy log s s:=⟨Nat.le_refl _,hm,mQ,Nat.le_refl _⟩;refine sX func99 ntmps99 λ w cl own kf=>?_
 refine go ?_;refine d7 (λ p:Nat×j6×ag=>iy log s p.2.2/\log.length-p.2.2.made<p.1/\wk l O K o p.1 log p.2.2=E) (λ p=>⟨[(4,.ptr 4 0),(0,.ptr 14 0),(1,M o)],(4,[M 0,dB false,M 0,M 0,.p (.sl true 0 [])])::np l O log K p.2.1 p.2.2,[]⟩) (λ p=>p.1) (log.length+1-s.made,ky,s) ⟨hG,by simp only;omega,Y⟩ (zX) ?_;rintro⟨k,fd,t⟩ ⟨hG,hk,Y⟩;simp only at hG hk Y;obtain⟨k,rfl⟩:∃j,k=j+1:=⟨k-1,by omega⟩;refine(show a8 _ _ _ _ ⟨[(4,.ptr 4 0),(0,.ptr 14 0),(1,M o)],(4,[M 0,dB false,M 0,M 0,.p (.sl true 0 [])])::np l O log K fd t,[]⟩ from ?_);rw[wk] at Y;refine go ?_;refine xP (Ia l hL O log K o fd t hG.ok (by have:=hG.len;have:=hG.le;omega) hG.le Z) ?_;rintro d bs ⟨kZ,s1,fE,CF,UB,c7,oh,rfl,rfl⟩;rw[bl fE] at Y;have gC:=hG.trans CF;obtain⟨th,pv,cu,nx,pt⟩:=kZ;simp only at Y c7 oh;refine go ?_;cases th
 ·rw[if_neg (by decide),ki] at Y;refine go ?_;refine xP (u0 l hL O log s1 gC.le Z) ?_;rintro d bs ⟨aH,s2,cL,jU,ib,rfl,rfl⟩;rw[bl cL] at Y;have fW:=gC.same (su cL) jU ib;refine go ?_;exact fX _ ⟨_,s2,_,Y.symm,fW,rfl,rfl⟩
 ·rw[if_pos rfl] at Y;have yC:=jb nx;refine gA (rY nx) ?_;refine gW 21 [] ?_;refine lQ (r8 l hL O s1 cu 0 (by omega) (by omega)) ?_;refine gQ (ag2 (av nx).idx) ?_;refine xP (zw l O log s1 (bf l cu 0) nx (pk (av nx).idx) gC.le Z) ?_;rintro d bs ⟨ok,s2,cL,jU,ib,rfl,rfl⟩;rw[bl cL] at Y;have fW:=gC.same (by rw[(uY cL).1]) jU ib;have A4:=zv cL;refine go ?_;cases ok
  ·rw[if_neg (by decide)] at Y;refine go ?_;exact⟨(k,⟨true,pv,cu,nx,pt⟩,s2),⟨fW,by simp only;omega,Y⟩,by simp only;omega,zX⟩
  ·rw[if_pos rfl,bl jI] at Y;refine go ?_;refine lA (vQ l O s2 (by omega)) ?_;refine go ?_;refine dW 17 [] ?_;refine gQ (uB cu) ?_;refine cQ (uB (av nx).idx) ?_;refine bJ ?_;refine xP (zw l O log s2 pv (bt cu) (bt (av nx).idx) fW.le Z) ?_;rintro d bs ⟨ok,s3,fx,lX,jV,rfl,rfl⟩;rw[bl fx] at Y;have ji:=fW.same (by rw[(uY fx).1]) lX jV;have UD:=zv fx;refine go ?_;cases ok
   ·rw[if_neg (by decide)] at Y;refine go ?_;refine xP (Ia l hL O log K o ⟨true,pv,cu,nx,pt⟩ s3 ji.ok (by have:=ji.len;have:=ji.le;omega) ji.le Z) ?_;rintro d bs ⟨f4,s4,i9,adj,al8,gJ,alS,rfl,rfl⟩;rw[bl i9] at Y;have lU:=ji.trans adj;obtain⟨amM,amG,alo,amD,amF⟩:=f4;rw[ki] at Y;refine go ?_;refine xP (u0 l hL O log s4 lU.le Z) ?_;rintro d bs ⟨aH,s5,mV,yp,rI,rfl,rfl⟩;rw[bl mV] at Y;have sC:=lU.same (su mV) yp rI;refine go ?_;exact fX _ ⟨_,s5,_,Y.symm,sC,rfl,rfl⟩
   ·rw[if_pos rfl] at Y;refine go ?_;refine xP (u0 l hL O log s3 ji.le Z) ?_;rintro d bs ⟨aH,s4,i9,uc,pa,rfl,rfl⟩;rw[bl i9] at Y;have lU:=ji.same (su i9) uc pa;refine go ?_;refine gW 9 [] ?_;refine xP (XR l hL O log s4 cu (by omega) lU.ok (by have:=lU.len;have:=lU.le;omega) lU.le Z) ?_;rintro d bs ⟨aH,s5,mV,yp,rI,rfl,rfl⟩;rw[bl mV] at Y;have sC:iy log s s5:=by
     have e1:=XP mV;have e2:s4.gone=s2.gone:=(su i9).trans (by rw[(uY fx).1]);rw[e2] at e1;have:=fW.len;have:=fW.made;have:=lU.made;exact⟨by omega,rI,XQ mV lU.ok (by omega),by omega⟩
    refine go ?_;exact fX _ ⟨_,s5,_,Y.symm,sC,rfl,rfl⟩
def La(m:Except bz (bd×ag)):I->cn->Prop:=λ d bs=>bs=[]/\((∃x ah,m=.ok (x,ah)/\d=.ca [kx iB,pG {x with gone:=ah.gone},dB true])\/∃a,m=.error a/\d=.ca [kx a,Ez gl,dB false])
abbrev SB(a:bz)(od:List I)(dn:Bool):St:=⟨[(4,.ptr 22 0),(5,.ptr 23 0),(6,.ptr 24 0)],qQ a od dn,[]⟩
def Zz(m:Except bz (bd×ag))(Γ:bX):Exit->St->Prop:=λ ex L=>(ex=.ret/\∃x ah,m=.ok (x,ah)/\eI Γ L (SB iB (yP {x with gone:=ah.gone}) true))\/∃a,ex=.panic [pe (v9 a)]/\m=.error a/\eI Γ L (SB iB [M 0,dB false,M 0,M 0,.p (.sl true 0 [])] false)
abbrev yN(l:aI)(O:Int)(log:List aJ)(op:a9)(f:j6)(s:ag):cn:=[(11,GV l O s),(12,[.ptr 11 0]),(13,[nZ log]),(14,Ta op.obj f),(15,[.ptr 14 0]),(16,[M op.kind,M op.obj,M op.a,M op.b])]
def Ht(l:aI)(O:Int)(log:List aJ)(op:a9)(s:ag)(m:Except bz (bd×ag)):I->cn->Prop:=λ d bs=>∃x ah f,m=.ok (x,ah)/\iy log s ah/\d=Ez x/\bs=yN l O log op f ah
def Hu(l:aI)(O:Int)(log:List aJ)(op:a9)(m:Except bz (bd×ag)):Value->cn->Prop:=λ x bs=>∃a ah f,m=.error a/\x=v9 a/\bs=yN l O log op f ah
theorem ahx(l:aI)(hL:eT l)(O:Int)(log:List aJ)(op:a9)(ky:j6)(s:ag)(mQ:js s.gone)(o7:s.gone.length+log.length<=10000+s.made)(hm:s.made<=log.length)(Z:log.length<=1000000):
 jt prog 94 [11,12,13,14,15,16] [.ptr 15 0,.ptr 16 0] (yN l O log op ky s) (Ht l O log op s (getM l O op.obj op.a log s)) (Hu l O log op (getM l O op.obj op.a log s)):=by
 generalize Y:getM l O op.obj op.a log s=E;refine sX func94 ntmps94 λ w cl own kf=>?_
 refine go ?_;refine xP (acQ l hL O log op.obj op.a ky s mQ o7 hm Z) ?_;rintro d bs ⟨x,ah,ml,h,hG,rfl,rfl⟩;refine go ?_;exact fX _ ⟨x,ah,ml,Y.symm.trans h,hG,rfl,rfl⟩
theorem ahN(l:aI)(hL:eT l)(O:Int)(log:List aJ)(op:a9)(ky:j6)(s:ag)(mQ:js s.gone)(o7:s.gone.length+log.length<=10000+s.made)(hm:s.made<=log.length)(Z:log.length<=1000000):
 jt prog 96 [11,12,13,14,15,16] [.ptr 15 0,.ptr 16 0] (yN l O log op ky s) (Ht l O log op s (xt l O op.obj op.a op.b log s)) (Hu l O log op (xt l O op.obj op.a op.b log s)):=by
 generalize Y:xt l O op.obj op.a op.b log s=E;refine sX func96 ntmps96 λ w cl own kf=>?_
 refine go ?_;refine xP (aiT l hL O log op.obj op.a op.b ky s mQ o7 hm Z) ?_;rintro d bs ⟨x,ah,ml,h,hG,rfl,rfl⟩;refine go ?_;exact fX _ ⟨x,ah,ml,Y.symm.trans h,hG,rfl,rfl⟩
theorem ahl(l:aI)(hL:eT l)(O:Int)(log:List aJ)(op:a9)(ky:j6)(s:ag)(mQ:js s.gone)(o7:s.gone.length+log.length<=10000+s.made)(hm:s.made<=log.length)(Z:log.length<=1000000):
 jt prog 98 [11,12,13,14,15,16] [.ptr 15 0,.ptr 16 0] (yN l O log op ky s) (Ht l O log op s (wl l O op.obj op.a log s)) (Hu l O log op (wl l O op.obj op.a log s)):=by
 generalize Y:wl l O op.obj op.a log s=E;refine sX func98 ntmps98 λ w cl own kf=>?_
 refine go ?_;refine xP (abA l hL O log op.obj op.a ky s mQ o7 hm Z) ?_;rintro d bs ⟨x,ah,ml,h,hG,rfl,rfl⟩;refine go ?_;exact fX _ ⟨x,ah,ml,Y.symm.trans h,hG,rfl,rfl⟩
set_option maxHeartbeats 4000000 in
theorem PA(aw:FuncId)(hF:jM prog aw)(l:aI)(O:Int)(log:List aJ)(op:a9)(ky:j6)(s:ag)(m:Except bz (bd×ag))(AV:s.gone.length+log.length<=100000)(hC:jt prog aw [11,12,13,14,15,16] [.ptr 15 0,.ptr 16 0] (yN l O log op ky s) (Ht l O log op s m) (Hu l O log op m)):
 gt prog 93 [] [.ptr 11 0,.fn (.func aw) [] [.ptr 15 0,.ptr 16 0]] (yN l O log op ky s) (La m):=by
 intro e vs hI hv;refine calls_of_wp_defers func93 rfl ?_;have lx:=Gb (fn:=f93) (f:=39) (bc:=[]) [] (Nat.le_of_ble_eq_true (by kernel_rfl)) trivial hI hv rfl;refine wp_seq (Code.wp_mono (λ ex a1 w1 hh=>?_) (a8.run (Q:=λ ex L=>ex=.normal/\L=⟨[(6,.ptr 24 0),(5,.ptr 23 0),(4,.ptr 22 0),(2,.ptr 21 0),(0,.ptr 11 0),(1,.fn (.func aw) [] [.ptr 15 0,.ptr 16 0])],(24,[dB false])::(23,[M 0,dB false,M 0,M 0,.p (.sl true 0 [])])::(22,[M 0,M 0,M 0,M 0])::(21,[.ptr 11 0])::yN l O log op ky s,[]⟩) ?_ _ e lx))
 ·obtain⟨sk,e1,rfl,c7,rfl,rfl⟩:=hh;obtain⟨k1,_,_,b1,_,_⟩:=c7.boxes 21 _ rfl;obtain⟨k2,_,_,b2,_,_⟩:=c7.boxes 22 _ rfl;obtain⟨k3,_,_,b3,_,_⟩:=c7.boxes 23 _ rfl;obtain⟨k4,_,_,b4,_,_⟩:=c7.boxes 24 _ rfl;refine wp_seq (Zc c7 rfl rfl rfl rfl rfl rfl rfl rfl [(21,k1),(22,k2),(23,k3),(24,k4)] (λ b k hk=>?_) (λ a2 dX kE fI=>?_))
  ·simp only[dc] at hk;split at hk
   ·rename_i q;cases hk;rw[<-q];exact b1
   ·split at hk
    ·rename_i q;cases hk;rw[<-q];exact b2
    ·split at hk
     ·rename_i q;cases hk;rw[<-q];exact b3
     ·split at hk
      ·rename_i q;cases hk;rw[<-q];exact b4
      ·cases hk
  ·refine Code.wp_mono (λ ex a3 w3 hh=>?_) (a8.run (Γ:=⟨18,e.w,e.cl,λ k=>∃b,e.bx b=some k,[(21,k1),(22,k2),(23,k3),(24,k4)],[{target:=.fn (.func 109) dX.toArray,args:=#[]}]⟩) (Q:=Zz m ⟨18,e.w,e.cl,λ k=>∃b,e.bx b=some k,[(21,k1),(22,k2),(23,k3),(24,k4)],[{target:=.fn (.func 109) dX.toArray,args:=#[]}]⟩) ?_ a2 e1 fI)
   ·obtain⟨akX,e3,rfl,n9,hq⟩:=hh;rcases hq with⟨rfl,x,ah,hm,ip⟩|⟨a,rfl,hm,ip⟩
    ·skip
     obtain⟨e4,Br,gJ⟩:=ip a3 e3 n9;show Leaves prog f93 a3.tmps _ a3.defers .returning e3.w;rw[gJ.df,<-Br];have AN:DReps e4 dX [.ptr 22 0,.ptr 21 0,.ptr 23 0,.ptr 24 0]:=⟨kE.1,λ i v d hv K=>by
      match i,hv,K with
      |0,hv,K=>cases K;exact pu (kE.2 0 v _ hv rfl) b2 (gJ.env.kb 22 k2 rfl)
      |1,hv,K=>cases K;exact pu (kE.2 1 v _ hv rfl) b1 (gJ.env.kb 21 k1 rfl)
      |2,hv,K=>cases K;exact pu (kE.2 2 v _ hv rfl) b3 (gJ.env.kb 23 k3 rfl)
      |3,hv,K=>cases K;exact pu (kE.2 3 v _ hv rfl) b4 (gJ.env.kb 24 k4 rfl)⟩
     refine Js gJ (λ a w=>call109 a w) AN rfl (by(repeat(first|exact trivial|refine⟨⟨rfl,rfl⟩,?_⟩))) ⟨.inr rfl,.inr rfl,.inr rfl,.inr rfl,trivial⟩ rfl (by simp) rfl (λ e0 D0 h1 u=>aiD iB {x with gone:=ah.gone} true h1 u) (λ ay hb=>by subst hb;exact⟨.inl rfl,.inl rfl,.inl rfl,.inl rfl,trivial⟩) (λ ay e5 hb mO=>?_);subst hb;obtain⟨v,hr,w7⟩:=BU aX (fn:=f93) (d:=.ca [kx iB,pG {x with gone:=ah.gone},dB true]) mO rfl;refine⟨v,hr,v,_,[],e5.cut (aL []) λ _=>false,rfl,rfl,⟨rfl,.inl ⟨x,ah,hm,rfl⟩⟩,rg mO trivial,w7.cut rfl,⟨mO.env.kept,mO.env.cl,λ b k hk=>?_,λ b hb=>by cases hb⟩⟩;cases hk
    ·skip
     obtain⟨e4,Br,gJ⟩:=ip a3 e3 n9;show Leaves prog f93 a3.tmps _ a3.defers (.panicking [pe (v9 a)]) e3.w;rw[gJ.df,<-Br];have AN:DReps e4 dX [.ptr 22 0,.ptr 21 0,.ptr 23 0,.ptr 24 0]:=⟨kE.1,λ i v d hv K=>by
      match i,hv,K with
      |0,hv,K=>cases K;exact pu (kE.2 0 v _ hv rfl) b2 (gJ.env.kb 22 k2 rfl)
      |1,hv,K=>cases K;exact pu (kE.2 1 v _ hv rfl) b1 (gJ.env.kb 21 k1 rfl)
      |2,hv,K=>cases K;exact pu (kE.2 2 v _ hv rfl) b3 (gJ.env.kb 23 k3 rfl)
      |3,hv,K=>cases K;exact pu (kE.2 3 v _ hv rfl) b4 (gJ.env.kb 24 k4 rfl)⟩
     refine Js gJ (λ a w=>call109 a w) AN rfl (by(repeat(first|exact trivial|refine⟨⟨rfl,rfl⟩,?_⟩))) ⟨.inr rfl,.inr rfl,.inr rfl,.inr rfl,trivial⟩ rfl (by simp) rfl (λ e0 D0 h1 u=>aiE iB a _ rfl false h1 u) (λ ay hb=>by subst hb;exact⟨.inl rfl,.inl rfl,.inl rfl,.inl rfl,trivial⟩) (λ ay e5 hb mO=>?_);subst hb;obtain⟨v,hr,w7⟩:=BU aX (fn:=f93) (d:=.ca [kx a,Ez gl,dB false]) mO rfl;refine⟨v,hr,v,_,[],e5.cut (aL []) λ _=>false,rfl,rfl,⟨rfl,.inr ⟨a,hm,rfl⟩⟩,rg mO trivial,w7.cut rfl,⟨mO.env.kept,mO.env.cl,λ b k hk=>?_,λ b hb=>by cases hb⟩⟩;cases hk
   ·refine go ?_;refine Rd hC rfl hF rfl rfl rfl (by(repeat(first|exact trivial|refine⟨⟨rfl,rfl⟩,?_⟩))) (by(repeat(first|exact trivial|refine⟨.inr rfl,?_⟩|refine⟨.inl rfl,?_⟩))) rfl rfl rfl rfl ?_ ?_ ?_ ?_
    ·rintro d bs ⟨x,ah,ml,_,_,rfl,rfl⟩;exact⟨.inl rfl,.inl rfl,.inl rfl,.inl rfl,.inl rfl,.inl rfl,trivial⟩
    ·rintro v bs ⟨a,ah,ml,_,rfl,rfl⟩;exact⟨.inl rfl,.inl rfl,.inl rfl,.inl rfl,.inl rfl,.inl rfl,trivial⟩
    ·rintro v bs ⟨a,ah,ml,h,rfl,rfl⟩;refine gP ?_;exact .inr ⟨a,rfl,h,eI.trans (HD 21 rfl rfl) (zX)⟩
    rintro d bs ⟨x,ah,ml,h,qB,rfl,rfl⟩;have aeo:=qB.len;have aep:=qB.le;refine gA ((Ev ah.gone (by omega)).pure) ?_;refine gW 3 [22] ?_;refine go ?_;exact .inl ⟨rfl,x,ah,h,eI.trans (HD 21 rfl rfl) (zX)⟩
 ·refine mK ?_;refine bA 21 ?_;refine nA 22 ?_;refine nA 23 ?_;refine nA 24 ?_;exact oR ⟨rfl,rfl⟩
abbrev Ey(r:bz×bd×Bool):I:=.ca [kx r.1,pG r.2.1,dB r.2.2]
set_option maxHeartbeats 8000000 in
theorem ahr(l:aI)(hL:eT l)(O:Int)(gone:List (Int×Int))(op:a9)(log:List aJ)(mQ:js gone)(o7:gone.length+log.length<=10000):bH prog 77 [iZ l,M O,im gone,Sb op,nZ log] (Ey (fJ l O gone op log)):=by
 generalize Y:fJ l O gone op log=E;unfold fJ at Y;have Z:log.length<=1000000:=by omega
 refine sP func77 ntmps77 λ w cl=>?_
 refine mK ?_;refine bA 0 ?_;refine bA 16 ?_;refine nA 2 ?_;refine nA 3 ?_;refine go ?_;generalize h1:decide (op.obj<0)=cc;cases cc
 ·have bB:=of_decide_eq_false h1;refine go ?_;generalize u:decide (op.obj>=l.size)=cc;cases cc
  ·have cj:=of_decide_eq_false u;rw[if_neg (by omega)] at Y;refine go ?_;refine aaA 4 10 rfl rfl (by kernel_rfl) (by kernel_rfl) (by kernel_rfl) (by kernel_rfl) rfl ?_;refine bJ ?_;refine aa3 (aaK l O gone log) (λ d bs h=>h) rfl (λ a w=>call92 a w) rfl rfl rfl rfl rfl (by(repeat(first|exact trivial|refine⟨rfl,rfl,?_⟩))) ?_;refine w3 ?_;refine w3 ?_;refine w6 ?_;refine s0 (HM 14 rfl rfl rfl rfl) rfl rfl rfl rfl ?_;refine s0 (xM aX 15 rfl rfl rfl rfl) rfl rfl rfl rfl ?_;refine w5 ?_;refine go ?_;generalize J:decide (op.kind=1)=cc;cases cc
   ·rw[if_neg (of_decide_eq_false J)] at Y;refine go ?_;generalize h4:decide (op.kind=2)=cc;cases cc
    ·rw[if_neg (of_decide_eq_false h4)] at Y;refine go ?_;generalize h5:decide (op.kind=3)=cc;cases cc
     ·rw[if_neg (of_decide_eq_false h5)] at Y;refine gA (PU gone (by omega)) ?_;refine hp ?_;rw[<-Y]
     ·rw[if_pos (of_decide_eq_true h5)] at Y;refine go ?_;refine nf (PA 98 (λ a w=>call98 a w) l O log op Aw ⟨0,gone,0,0,0⟩ _ (by simp only;omega) (ahl l hL O log op Aw ⟨0,gone,0,0,0⟩ mQ (by simp only;omega) (Nat.zero_le _) Z)) rfl (λ a w=>call93 a w) rfl rfl (by(repeat(first|exact trivial|refine⟨⟨rfl,rfl⟩,?_⟩))) trivial rfl rfl rfl rfl ?_ ?_
      ·rintro d bs ⟨rfl,_⟩;exact trivial
      rintro d bs ⟨rfl,⟨x,ah,hm,rfl⟩|⟨a,hm,rfl⟩⟩
      ·rw[hm] at Y;refine gf ?_;rw[<-Y];rfl
      ·rw[hm] at Y;refine gf ?_;rw[<-Y];rfl
    ·rw[if_pos (of_decide_eq_true h4)] at Y;refine go ?_;refine nf (PA 96 (λ a w=>call96 a w) l O log op Aw ⟨0,gone,0,0,0⟩ _ (by simp only;omega) (ahN l hL O log op Aw ⟨0,gone,0,0,0⟩ mQ (by simp only;omega) (Nat.zero_le _) Z)) rfl (λ a w=>call93 a w) rfl rfl (by(repeat(first|exact trivial|refine⟨⟨rfl,rfl⟩,?_⟩))) trivial rfl rfl rfl rfl ?_ ?_
     ·rintro d bs ⟨rfl,_⟩;exact trivial
     rintro d bs ⟨rfl,⟨x,ah,hm,rfl⟩|⟨a,hm,rfl⟩⟩
     ·rw[hm] at Y;refine gf ?_;rw[<-Y];rfl
     ·rw[hm] at Y;refine gf ?_;rw[<-Y];rfl
   ·rw[if_pos (of_decide_eq_true J)] at Y;refine go ?_;refine nf (PA 94 (λ a w=>call94 a w) l O log op Aw ⟨0,gone,0,0,0⟩ _ (by simp only;omega) (ahx l hL O log op Aw ⟨0,gone,0,0,0⟩ mQ (by simp only;omega) (Nat.zero_le _) Z)) rfl (λ a w=>call93 a w) rfl rfl (by(repeat(first|exact trivial|refine⟨⟨rfl,rfl⟩,?_⟩))) trivial rfl rfl rfl rfl ?_ ?_
    ·rintro d bs ⟨rfl,_⟩;exact trivial
    rintro d bs ⟨rfl,⟨x,ah,hm,rfl⟩|⟨a,hm,rfl⟩⟩
    ·rw[hm] at Y;refine gf ?_;rw[<-Y];rfl
    ·rw[hm] at Y;refine gf ?_;rw[<-Y];rfl
  ·have cj:=of_decide_eq_true u;rw[if_pos (by omega)] at Y;refine gA (PU gone (by omega)) ?_;refine hp ?_;rw[<-Y]
 ·have bB:=of_decide_eq_true h1;rw[if_pos (by omega)] at Y;refine gA (PU gone (by omega)) ?_;refine hp ?_;rw[<-Y]
end Go.Proofs.YtkkldicehapklaaGreat
