/- Words by bits, buckets' parents: their walks. -/
import Derived.Test.YtcnefjfboagbmaaGreatWA
import Derived.Test.YtcnefjfboagbmaaGreatPA
import Derived.Test.YtcnefjfboagbmaaGreatLB
import Derived.ScopeJumps
namespace Go.Proofs.YtcnefjfboagbmaaGreat
open Go.Proofs.Tryz
open Go.RowKit
set_option maxRecDepth 100000
section
variable{P:Program}{ap:Nat->Option TI}{S:Nat->Option K}{B:Nat->Option (List K)}{o:Oper}
theorem ae4{ty u:TypeId}{x y:Operand}{a i:Int}(n:Nat)(ho:o.op=.binOp .shr ty x y u)(T:ev S x=some (E a))(hy:ev S y=some (E i))(hi:i=n)(hn:n<=63):dN P o S B (E (a/2^n)) none:=by
 subst hi;refine jp λ ac e hs=>?_
 have cj:=dh (hs.1 x (by rw[ho];simp[Op.operands]) _ T);have fw:=dh (hs.1 y (by rw[ho];simp[Op.operands]) _ hy);refine⟨_,?_,.p (.raw _)⟩;obtain⟨dst,op,type,pos,after,guard⟩:=o;simp only at ho;subst ho;have F:min n 64=n:=by omega
 have Z:(binOp .shr ty (.int .i64 a) (.int .i64 (n:Int))).run P e.w=.ok (.int .i64 (a/2^n)) e.w:=by show(Op.shift .shr .i64 a .i64 (n:Int)).run P e.w=_;rw[shift_shr_any _ _ _ _ (Int.natCast_nonneg n)];show Result.ok (Value.int .i64 (a/2^min ((n:Int).toNat) 64)) e.w=_;rw[Int.toNat_natCast,F]
 simp[execOp,cj,fw,eqGuard,Z]
theorem ae3{ty u:TypeId}{x y:Operand}{m:Nat}(n:Nat)(ho:o.op=.binOp .shr ty x y u)(T:ev S x=some (dU m))(hy:ev S y=some (.p (.raw (.int .u64 (n:Int)))))(hn:n<=63):dN P o S B (dU (m>>>n)) none:=by
 refine jp λ ac e hs=>?_
 have cj:=dh (hs.1 x (by rw[ho];simp[Op.operands]) _ T);have fw:=dh (hs.1 y (by rw[ho];simp[Op.operands]) _ hy);refine⟨_,?_,.p (.raw _)⟩;obtain⟨dst,op,type,pos,after,guard⟩:=o;simp only at ho;subst ho;have F:min n 64=n:=by omega
 have Z:(binOp .shr ty (.int .u64 (m:Int)) (.int .u64 (n:Int))).run P e.w=.ok (.int .u64 ((m>>>n:Nat):Int)) e.w:=by
  show(Op.shift .shr .u64 (m:Int) .u64 (n:Int)).run P e.w=_;rw[shift_shr_any _ _ _ _ (Int.natCast_nonneg n)];show Result.ok (Value.int .u64 ((m:Int)/2^min ((n:Int).toNat) 64)) e.w=_;have hp:(2:Int)^n=((2^n:Nat):Int):=by norm_cast
  rw[Int.toNat_natCast,F,hp,Nat.shiftRight_eq_div_pow]
  congr 2
 simp[execOp,cj,fw,eqGuard,Z]
theorem V3{m n:Nat}(hn:n<=61)(A:2^n<=m)(F:m<2^(n+1)):IntKind.i64.wrap (((BitVec.ofInt 64 (m:Int)&&&~~~BitVec.ofInt 64 (2^n:Int)).toNat:Nat):Int)=(m:Int)-2^n:=by
 have hp:(2:Int)^n=((2^n:Nat):Int):=by norm_cast
 have agF:(2:Nat)^(n+1)<=2^62:=Nat.pow_le_pow_right (by omega) (by omega);obtain⟨r,rfl⟩:∃r,m=2^n+r:=⟨m-2^n,by omega⟩;have hr:r<2^n:=by rw[Nat.pow_succ] at F;omega
 have O:(BitVec.ofInt 64 ((2^n+r:Nat):Int)&&&~~~BitVec.ofInt 64 (2^n:Int)).toNat=r:=by
  rw[hp];have:(BitVec.ofInt 64 ((2^n+r:Nat):Int)&&&~~~BitVec.ofInt 64 ((2^n:Nat):Int)).toNat=bG (2^n+r) n:=by simp only[BitVec.ofInt_natCast,bG]
  rw[this];refine Nat.eq_of_testBit_eq λ j=>?_
  rw[W0 _ _ _ (by omega)];have h4:2^n+r=2^n*1+r:=by omega
  rw[h4,Nat.testBit_two_pow_mul_add _ hr]
  by_cases hj:j<n
  ·rw[if_pos hj];have:¬n=j:=by omega
   simp[this]
  ·rw[if_neg hj];have aak:r.testBit j=false:=Nat.testBit_lt_two_pow (Nat.lt_of_lt_of_le hr (Nat.pow_le_pow_right (by omega) (by omega)));rw[aak]
   by_cases Zw:n=j
   ·simp[Zw]
   ·have:(1:Nat).testBit (j-n)=false:=Nat.testBit_lt_two_pow (Nat.one_lt_two_pow (by omega));simp[this]
 rw[O,hp,AL (Int.natCast_nonneg r) (by omega)];omega
theorem V0{ty u:TypeId}{x y:Operand}{a c:Int}(n:Nat)(ho:o.op=.binOp .andNot ty x y u)(T:ev S x=some (E a))(hy:ev S y=some (E c))(L:c=2^n)(hn:n<=61)(A:(2^n:Nat)<=a)(F:a<(2^(n+1):Nat)):dN P o S B (E (a-2^n)) none:=by
 subst L;obtain⟨m,rfl⟩:=Int.eq_ofNat_of_zero_le (show 0<=a by omega);refine jp λ ac e hs=>?_
 have cj:=dh (hs.1 x (by rw[ho];simp[Op.operands]) _ T);have fw:=dh (hs.1 y (by rw[ho];simp[Op.operands]) _ hy);refine⟨_,?_,.p (.raw _)⟩;obtain⟨dst,op,type,pos,after,guard⟩:=o;simp only at ho;subst ho;have Z:(binOp .andNot ty (.int .i64 (m:Int)) (.int .i64 (2^n:Int))).run P e.w=.ok (.int .i64 ((m:Int)-2^n)) e.w:=by rw[<-V3 hn (by omega) (by omega)];rfl
 simp[execOp,cj,fw,eqGuard,Z]
theorem UF{ty:TypeId}{x y:Operand}{k:IntKind}{i:Nat}{s:ByteArray}{c:UInt8}(ho:o.op=.index ty x y)(ht:P.underlying ty=some .string)(T:ev S x=some (.p (.raw (.string s))))(hy:ev S y=some (.p (.raw (.int k (i:Int)))))(hi:s[i]?=some c):dN P o S B (.p (.raw (.int .u8 (c.toNat:Int)))) none:=by
 refine jp λ ac e hs=>?_
 have cj:=dh (hs.1 x (by rw[ho];simp[Op.operands]) _ T);have fw:=dh (hs.1 y (by rw[ho];simp[Op.operands]) _ hy);refine⟨_,?_,.p (.raw _)⟩;obtain⟨dst,op,type,pos,after,guard⟩:=o;simp only at ho;subst ho;simp[execOp,Instr.index,asIntOf,cj,fw,run_underlying ht,hi]
theorem JU{ty u:TypeId}{x y:Operand}{m n:Nat}(ho:o.op=.binOp .geq ty x y u)(T:ev S x=some (dU m))(hy:ev S y=some (dU n)):dN P o S B (dB (decide (n<=m))) none:=by
 refine jp λ ac e hs=>?_
 have cj:=dh (hs.1 x (by rw[ho];simp[Op.operands]) _ T);have fw:=dh (hs.1 y (by rw[ho];simp[Op.operands]) _ hy);refine⟨_,?_,.p (.raw _)⟩;obtain⟨dst,op,type,pos,after,guard⟩:=o;simp only at ho;subst ho;have Z:(binOp .geq ty (.int .u64 (m:Int)) (.int .u64 (n:Int))).run P e.w=.ok (.bool (decide ((n:Int)<=m))) e.w:=rfl;have D:decide ((n:Int)<=m)=decide (n<=m):=by rw[decide_eq_decide];omega
 rw[D] at Z;simp[execOp,cj,fw,eqGuard,Z]
theorem UK(s:ByteArray)(f:Nat->Nat)(h:(List.range 256).all (λ i=>decide (s[i]?=some (UInt8.ofNat (f i))))=true){m:Nat}(hm:m<256):s[m]?=some (UInt8.ofNat (f m)):=by
 have:=List.all_eq_true.1 h m (List.mem_range.2 hm)
 simpa using this
end
def qZ(n:Nat):Nat:=if n=0 then 0 else Nat.log2 n+1
theorem aby{n k:Nat}(h:2^k<=n):Nat.log2 (n/2^k)=Nat.log2 n-k:=by
 have J:0<2^k:=Nat.two_pow_pos k;have hq:n/2^k≠0:=by have:=Nat.div_pos h J;omega
 have hn:n≠0:=by omega
 have A:k<=Nat.log2 n:=(Nat.le_log2 hn).2 h;have F:=Nat.log2_self_le hn;have O:n<2^(Nat.log2 n+1):=(Nat.log2_lt hn).1 (Nat.lt_succ_self _);have h4:2^(Nat.log2 n-k)<=n/2^k:=(Nat.le_div_iff_mul_le J).2 (by rw[<-Nat.pow_add];rwa [Nat.sub_add_cancel A]);have h5:n/2^k<2^(Nat.log2 n-k+1):=(Nat.div_lt_iff_lt_mul J).2 (by rw[<-Nat.pow_add];rwa [show Nat.log2 n-k+1+k=Nat.log2 n+1 by omega]);have h6:=(Nat.le_log2 hq).2 h4;have h7:=(Nat.log2_lt hq).2 h5;omega
theorem abk{n k:Nat}(h:2^k<=n):qZ n=k+qZ (n/2^k):=by have J:0<2^k:=Nat.two_pow_pos k;have hq:=Nat.div_pos h J;have A:k<=Nat.log2 n:=(Nat.le_log2 (by omega)).2 h;unfold qZ;rw[if_neg (by omega),if_neg (by omega),aby h];omega
theorem Ve{m:Nat}(hm:m<256):IntKind.u8.wrap (m:Int)=(m:Int):=by simp only[IntKind.wrap,IntKind.signed,IntKind.bits];simp;omega
theorem abl{m:Nat}(hm:m<256):qZ m<=8:=by
 unfold qZ;split
 ·omega
 ·have:=(Nat.log2_lt (n:=m) (k:=8) (by omega)).2 (by omega);omega
theorem UN(m a:Nat)(hm:m<256)(ha:a<=16):((UInt8.ofNat (qZ m)).toNat:Int)=qZ m/\(a:Int)+qZ m<=100:=by have:=abl hm;refine⟨?_,by omega⟩;rw[UInt8.toNat_ofNat'];omega
set_option maxHeartbeats 4000000 in
theorem abh(n:Nat)(hn:n<65536):bc prog 202 [dU n] (E (qZ n)):=by
 refine sP func202 ntmps202 λ w cl=>?_
 refine go ?_;refine bh (JU rfl rfl rfl) rfl rfl rfl ?_;rw[show decide (4294967296<=n)=false by rw[decide_eq_false_iff_not];omega];refine go ?_;refine bh (JU rfl rfl rfl) rfl rfl rfl ?_;rw[show decide (65536<=n)=false by rw[decide_eq_false_iff_not];omega];refine go ?_;refine bh (JU rfl rfl rfl) rfl rfl rfl ?_;generalize A:decide (256<=n)=cc;cases cc
 ·have aU:=of_decide_eq_false A;obtain⟨F,O⟩:=UN n 0 (by omega) (by omega);refine go ?_
  repeat refine nP aD rfl rfl rfl rfl ?_
  rw[show IntKind.u8.wrap ((n:Nat):Int)=((n:Nat):Int) from Ve (by omega)];refine bh (UF rfl underlying9 rfl rfl (UK _ qZ (by kernel_rfl) (by omega))) rfl rfl rfl ?_;refine bh (Jy aD rfl rfl rfl rfl (by omega) (by omega)) rfl rfl rfl ?_;rw[F];refine go ?_;refine gf ?_;rw[Int.zero_add]
 ·have aU:=of_decide_eq_true A;have h4:n/256<256:=by omega
  obtain⟨F,O⟩:=UN (n/256) 8 h4 (by omega);have h5:=abk (n:=n) (k:=8) (by omega);refine go ?_;refine bh (ae3 8 rfl rfl rfl (by omega)) rfl rfl rfl ?_;rw[show n>>>8=n/256 from Nat.shiftRight_eq_div_pow n 8];refine go ?_
  repeat refine nP aD rfl rfl rfl rfl ?_
  rw[show IntKind.u8.wrap ((n/256:Nat):Int)=((n/256:Nat):Int) from Ve (by omega)];refine bh (UF rfl underlying9 rfl rfl (UK _ qZ (by kernel_rfl) h4)) rfl rfl rfl ?_;refine bh (Jy aD rfl rfl rfl rfl (by omega) (by omega)) rfl rfl rfl ?_;rw[F];refine go ?_;refine gf ?_;rw[h5];rfl
theorem abj(n:Nat)(hn:n<65536):bc prog 184 [dU n] (E (qZ n)):=by
 refine sP func184 ntmps184 λ w cl=>?_
 refine gA (abh n hn) ?_;refine ez ?_
 rfl
theorem afV{b:Int}(h0:0<=b)(A:b<65536):IntKind.u64.wrap b=((b.toNat:Nat):Int):=by obtain⟨n,rfl⟩:=Int.eq_ofNat_of_zero_le h0;rw[Vf (by omega),Int.toNat_natCast]
theorem ac5(b:Int)(Z:b<65536):bc prog 146 [E b] (E (mz b)):=by
 generalize I:mz b=aQ;unfold mz at I;refine sP func146 ntmps146 λ w cl=>?_
 refine go ?_;generalize A:decide (b<1)=cc;cases cc
 ·have aU:=of_decide_eq_false A;rw[if_neg (by omega)] at I;have hn:b.toNat≠0:=by omega
  have U:qZ b.toNat=Nat.log2 b.toNat+1:=if_neg hn;have F:=Nat.log2_self_le hn;have O:b.toNat<2^(Nat.log2 b.toNat+1):=(Nat.log2_lt hn).1 (Nat.lt_succ_self _);have h4:Nat.log2 b.toNat<16:=(Nat.log2_lt hn).2 (by omega);have h5:(2:Nat)^Nat.log2 b.toNat<=2^16:=Nat.pow_le_pow_right (by omega) (by omega);have h6:(2:Int)^Nat.log2 b.toNat=((2^Nat.log2 b.toNat:Nat):Int):=by norm_cast
  refine go ?_;rw[afV (by omega) Z];refine cA (abj b.toNat (by omega)) ?_;rw[U];refine go ?_;refine bh (wo (Nat.log2 b.toNat) rfl rfl rfl (by omega) (by omega) (by omega) (by omega)) rfl rfl rfl ?_;refine bh (V0 (Nat.log2 b.toNat) rfl rfl rfl (by omega) (by omega) (by omega) (by omega)) rfl rfl rfl ?_;refine gf ?_;rw[I]
 ·rw[if_pos (of_decide_eq_true A)] at I;refine gf ?_;rw[<-I]
structure kJ(l:ah):Prop where
 b:0<=l.buckets/\l.buckets<=64
 m:mb l.maps
 d:mb l.done
def uL(k:Int):Nat->Int
 |0=>0
 |i+1=>uL k i+k/2^i%2*2^(15-i)
theorem TU(k:Int):sk k=uL k 16:=by unfold sk;simp only[List.range,List.range.loop,List.map_cons,List.map_nil,List.sum_cons,List.sum_nil,uL];omega
theorem OM(k:Int)(i:Nat):0<=k/2^i%2/\k/2^i%2<=1:=by have A:=Int.emod_nonneg (k/2^i) (show(2:Int)≠0 by omega);have F:=Int.emod_lt_of_pos (k/2^i) (show(0:Int)<2 by omega);omega
theorem MO(k:Int):∀i:Nat,i<=16->∃q:Int,uL k i=2^(16-i)*q/\0<=q/\q<2^i
 |0,_=>⟨0,by simp[uL],by omega,by simp⟩
 |i+1,hi=>by
  obtain⟨q,A,F,O⟩:=MO k i (by omega);obtain⟨b0,b1⟩:=OM k i;refine⟨2*q+k/2^i%2,?_,by omega,?_⟩
  ·rw[uL,A,show 16-i=(15-i)+1 by omega,show 16-(i+1)=15-i by omega,Int.pow_succ,Int.mul_add,Int.mul_assoc,Int.mul_comm (2^(15-i)) (k/2^i%2)]
  ·rw[Int.pow_succ];omega
theorem TV(k:Int)(i:Nat)(hi:i<=16):0<=uL k i/\uL k i<65536:=by
 obtain⟨q,A,F,O⟩:=MO k i hi;rw[A];have hp:(0:Int)<2^(16-i):=Int.pow_pos (by omega);have h4:(2:Int)^(16-i)*2^i=65536:=by rw[<-Int.pow_add,Nat.sub_add_cancel hi];rfl
 exact⟨Int.mul_nonneg (by omega) F,by rw[<-h4];exact Int.mul_lt_mul_of_pos_left O hp⟩
theorem TT(k:Int):0<=sk k/\sk k<65536:=by rw[TU];exact TV k 16 (Nat.le_refl _)
theorem acK{P:Program}{S:Nat->Option K}{B:Nat->Option (List K)}{o:Oper}{ty u:TypeId}{x y:Operand}{a c:Int}(k:Nat)(q:Int)(ho:o.op=.binOp .or ty x y u)(T:ev S x=some (E a))(hy:ev S y=some (E c))(YC:a=2^k*q)(h0:0<=c)(A:c<2^k)(hq:0<=q)(L:a+c<9223372036854775808):dN P o S B (E (a+c)) none:=by
 subst YC;refine jp λ ac e hs=>?_
 have cj:=dh (hs.1 x (by rw[ho];simp[Op.operands]) _ T);have fw:=dh (hs.1 y (by rw[ho];simp[Op.operands]) _ hy);refine⟨_,?_,.p (.raw _)⟩;obtain⟨dst,op,type,pos,after,guard⟩:=o;simp only at ho;subst ho;have Z:(binOp .or ty (.int .i64 (2^k*q:Int)) (.int .i64 c)).run P e.w=.ok (.int .i64 (2^k*q+c)) e.w:=by rw[Int.add_comm,<-SZ h0 A hq (by omega),BitVec.or_comm];rfl
 simp[execOp,cj,fw,eqGuard,Z]
theorem MP(k:Int):bc prog 109 [E k] (E (sk k)):=by
 rw[TU];refine sP func109 ntmps109 λ w cl=>?_
 refine go ?_;refine cn (λ i:Nat=>i<=16) (λ i=>⟨[(5,E i),(3,E (uL k i)),(0,E k)],[],[]⟩) (λ i=>16-i) 0 (Nat.zero_le _) (zX) ?_;intro i hi;refine(show aP _ _ _ _ ⟨[(5,E i),(3,E (uL k i)),(0,E k)],[],[]⟩ from ?_);refine go ?_;generalize A:decide ((i:Int)<16)=cc;cases cc
 ·have aU:=of_decide_eq_false A;obtain rfl:i=16:=by omega
  refine gf ?_
  rfl
 ·have aU:=of_decide_eq_true A;obtain⟨q,F,O,h4⟩:=MO k i hi;obtain⟨b0,b1⟩:=OM k i;have ahm:(0:Int)<2^(15-i):=Int.pow_pos (by omega);have ahn:(2:Int)^(16-i)=2^(15-i)*2:=by rw[show 16-i=(15-i)+1 by omega,Int.pow_succ]
  have bH:(2:Int)^(15-i)<=32768:=by
   have:=Nat.pow_le_pow_right (n:=2) (by omega) (show 15-i<=15 by omega);have h6:(2:Int)^(15-i)=((2^(15-i):Nat):Int):=by norm_cast
   omega
  have agR:0<=k/2^i%2*2^(15-i)/\k/2^i%2*2^(15-i)<=2^(15-i):=by rcases(show k/2^i%2=0\/k/2^i%2=1 by omega) with h|h<;>rw[h]<;>omega
  have ahq:=TV k i hi;refine go ?_;refine bh (ae4 i rfl rfl rfl (by omega) (by omega)) rfl rfl rfl ?_;refine cA (Aa (k/2^i) 1 (by omega)) ?_;rw[show k/2^i%2^1=k/2^i%2 from rfl];refine go ?_;refine bh (wo (15-i) rfl rfl rfl (by omega) (by omega) (by omega) (by omega)) rfl rfl rfl ?_;refine bh (acK (16-i) q rfl rfl rfl (by omega) (by omega) (by omega) (by omega) (by omega)) rfl rfl rfl ?_;refine go ?_;exact⟨i+1,by omega,by omega,zX⟩
theorem ad7(k:Int):bc prog 122 [E k] (E (Ic k)):=by
 have h:=TT k;refine sP func122 ntmps122 λ w cl=>?_
 refine gA (MP k) ?_;rw[show IntKind.i64.wrap (IntKind.i64.wrap (2*sk k)+1)=Ic k by rw[show IntKind.i64.wrap (2*sk k)=2*sk k from AL (by omega) (by omega),AL (by omega) (by omega)];rfl];refine gf ?_
 rfl
theorem Xl(k:Int):bc prog 147 [E k] (E (Bc k)):=by
 have h:=TT k;refine sP func147 ntmps147 λ w cl=>?_
 refine gA (MP k) ?_;rw[show IntKind.i64.wrap (2*sk k)=Bc k from AL (by omega) (by omega)];refine gf ?_
 rfl
theorem RR(n:Int):bc prog 83 [E n] (E (Ly n)):=by
 refine sP func83 ntmps83 λ w cl=>?_
 refine gA (Aa n 17 (by omega)) ?_;refine bh (Fq 1 rfl rfl rfl (by omega)) rfl rfl rfl ?_;refine cA (MP (n%2^17/2^1)) ?_;refine gf ?_
 rfl
theorem B9(l:ah)(hL:cr l)(hM:kJ l)(m i:Int)(hi:i<9223372036854775808):bc prog 73 [dP l,E m,E i] (E (i3 l m i)):=by
 have e1:=hL.map;have e2:=hM.m;have e3:=hM.b;refine sP func73 ntmps73 λ w cl=>?_
 refine go ?_;generalize k1:decide (i>1)=cc;cases cc
 ·have qh:=of_decide_eq_false k1;refine gA (yf l.map l.maps (2+l.buckets) m i e1 e2 (by omega) hi) ?_;refine ez ?_;rw[i3,if_neg qh]
 ·refine gf ?_;rw[i3,if_pos (of_decide_eq_true k1)]
theorem De(l:ah)(hL:cr l)(hM:kJ l)(m b:Int):bc prog 43 [dP l,E m,E b] (E (iS l m b)):=by
 have e1:=hL.map;have e2:=hM.m;have e3:=hM.b;refine sP func43 ntmps43 λ w cl=>?_
 refine go ?_;generalize k1:decide (b<0)=cc;cases cc
 ·have qh:=of_decide_eq_false k1;refine go ?_;generalize k2:decide (b>=l.buckets)=cc;cases cc
  ·have xD:=of_decide_eq_false k2;refine gA (yf l.map l.maps (2+l.buckets) m (2+b) e1 e2 (by omega) (by omega)) ?_;refine ez ?_;rw[iS,if_neg (by omega)]
  ·refine gf ?_;rw[iS,if_pos (.inr (of_decide_eq_true k2))]
 ·refine gf ?_;rw[iS,if_pos (.inl (of_decide_eq_true k1))]
def RN(l:Nat)(FI:St->Prop)(Q:Exit->St->Prop):Exit->St->Prop
 |.goto iM,M=>iM=l/\FI M
 |ex,M=>Q ex M
theorem LG{p:Nat->Prop}:∀n,p n->∃k,p k/\∀m,p m->k<=m:=by
 intro n;induction n using Nat.strongRecOn with
 |_ n ih=>
  intro h
  by_cases hh:∃m,m<n/\p m
  ·obtain⟨m,A,F⟩:=hh;exact ih m A F
  ·refine⟨n,h,λ m hm=>?_⟩;rcases Nat.lt_or_ge m n with A|A
   ·exact absurd ⟨m,A,hm⟩ hh
   ·exact A
section
variable{P:Program}{Γ:bN}{Q:Exit->St->Prop}{M:St}{r:Code}
theorem Wq{d7:Type}(ok:d7->Prop)(jK:d7->St)(m5:d7->Nat){l:Nat}(i0:d7)(J:ok i0)(h0:bY Γ M (jK i0))(ac7:∀i,ok i->aP P Γ r (RN l (λ cb=>∃j,ok j/\m5 j<m5 i/\bY Γ cb (jK j)) Q) (jK i)):aP P Γ (.scope (.seq (.label l) r)) Q M:=by
 classical
 refine⟨λ a e L=>?_⟩
 let at_:Act->World->Nat->Prop:=λ a w n=>∃i e,ok i/\bu Γ (jK i) e a/\e.w=w/\m5 i=n
 let low:Act->World->Nat:=λ a w=>if h:∃n,at_ a w n then Classical.choose (LG (p:=at_ a w) h.choose h.choose_spec) else 0
 have Sm:∀a w n,at_ a w n->at_ a w (low a w)/\low a w<=n:=λ a w n hn=>by
  have h:∃n,at_ a w n:=⟨n,hn⟩;have hs:=Classical.choose_spec (LG (p:=at_ a w) h.choose h.choose_spec);have e:low a w=Classical.choose (LG (p:=at_ a w) h.choose h.choose_spec):=dif_pos h;rw[e];exact⟨hs.1,hs.2 n hn⟩
 have body:∀(a:Act)(w:World)(n:Nat),at_ a w n->r.wp P (Exit.jump l (λ bs aM=>(∃m,at_ bs aM m)/\low bs aM<n) (jM Γ Q)) a w:=by
  rintro a w n ⟨i,e,A,F,rfl,rfl⟩;refine Code.wp_mono (λ ex bs aM hh=>?_) ((ac7 i A).run a e F);obtain⟨cb,ab,rfl,O,h4⟩:=hh;cases ex with
  |goto iM=>obtain⟨rfl,j,h5,h6,h7⟩:=h4;obtain⟨e2,h8,h9⟩:=h7 bs ab O;have io:at_ bs ab.w (m5 j):=⟨j,e2,h5,h9,h8,rfl⟩;exact⟨rfl,⟨_,io⟩,Nat.lt_of_le_of_lt (Sm _ _ _ io).2 h6⟩
  |_=>exact⟨cb,ab,rfl,O,h4⟩
 obtain⟨e1,g1,g2⟩:=h0 a e L;have cF:at_ a e.w (m5 i0):=⟨i0,e1,J,g2,g1,rfl⟩;refine wp_scope_jumps (rest:=.seq .skip r) l (λ a w=>∃n,at_ a w n) low (by simp[findLabel]) ?_ ?_
 ·refine wp_seq (wp_label ?_);exact Code.wp_mono (λ ex bs aM hh=>by cases ex<;>first|exact⟨hh.1,hh.2.1⟩|exact hh) (body a e.w _ cF)
 ·rintro a w ⟨n,hn⟩;exact wp_seq (wp_skip (body a w _ (Sm a w n hn).1))
end
section
variable{P:Program}{Γ:bN}{Q:Exit->St->Prop}{aG:St->Prop}{FI:St->Prop}{M:St}{l id:Nat}
theorem OF(h:Q (.goto l) M):aP P Γ (.goto l) Q M:=⟨λ _ e L=>wp_goto ⟨M,e,rfl,L,h⟩⟩
theorem Ty(h:Q (.goto l) M):su aG Q (.goto l) M:=h
theorem Tw(h:Q (.goto l) M):qB id Q (.goto l) M:=h
theorem Tx(h:FI M):RN l FI Q (.goto l) M:=⟨rfl,h⟩
end
abbrev PD(D:Int)(f:kX):List K:=[.ptr 11 0,dB f.there,E f.prev,E f.cur,E f.next,E f.c6,E D]
abbrev nf(l:ah)(G:Int)(log:List aF)(D:Int)(f:kX)(s:af):bJ:=[(11,nH l G s),(12,[.ptr 11 0]),(13,[gT log]),(14,PD D f)]
structure ik(log:List aF)(s aa:af):Prop where
 made:s.made<=aa.made
 le:aa.made<=log.length
 ok:eN aa.gone
 len:aa.gone.length+s.made<=s.gone.length+aa.made
def Vj(l:ah)(G:Int)(log:List aF)(D:Int)(s:af)(m:Except aX (kX×af)):K->bJ->Prop:=λ d Y=>∃f aa,m=.ok (f,aa)/\ik log s aa/\s.made<aa.made/\0<=f.cur/\f.cur<65536/\d=.bd []/\Y=nf l G log D f aa
def Vk(l:ah)(G:Int)(log:List aF)(D:Int)(m:Except aX (kX×af)):Value->bJ->Prop:=λ x Y=>∃a aa f,m=.error a/\x=iK a/\Y=nf l G log D f aa
theorem ik.same{log:List aF}{s t s1:af}(h:ik log s t)(hg:s1.gone=t.gone)(A:t.made<=s1.made)(F:s1.made<=log.length):ik log s s1:=by obtain⟨a1,a2,a3,a4⟩:=h;exact⟨by omega,F,by rw[hg];exact a3,by rw[hg];omega⟩
theorem Mw(x:af)(i v:Int):(x.fb i v).made=x.made:=by
 unfold af.fb;split
 ·rfl
 ·split<;>rfl
theorem Dz{l:ah}{G i cell:Int}:∀{k:Nat}{log:List aF}{s aa:af}{p:Int×Int},lC l G i cell k log s=.ok (p,aa)->s.made<=aa.made/\(0<k->s.made<aa.made)
 |0,log,s,aa,p,h=>by cases h;exact⟨Nat.le_refl _,λ h=>absurd h (Nat.lt_irrefl _)⟩
 |k+1,log,s,aa,p,h=>by
  rw[lC] at h;cases A:cZ cell log s with
  |error a=>rw[bj A] at h;cases h
  |ok q=>
   obtain⟨v,s1⟩:=q;rw[az A,az eu] at h;have g1:=iH A;cases F:cZ l.era log s1 with
   |error a=>rw[bj F] at h;cases h
   |ok q=>
    obtain⟨er,s2⟩:=q;rw[az F] at h;have g2:=iH F;split at h
    ·cases h;exact⟨by omega,λ _=>by omega⟩
    ·cases O:fA (cE l G i) er log s2 with
     |error a=>rw[bj O] at h;cases h
     |ok q=>obtain⟨u,s3⟩:=q;rw[az O] at h;have g3:=so O;have g4:=(Dz h).1;rw[Mw] at g4;exact⟨by omega,λ _=>by omega⟩
theorem J0{l:ah}{G i cell:Int}{log:List aF}{s aa:af}{p:Int×Int}(hm:s.made<=log.length)(h:mg l G i cell log s=.ok (p,aa)):s.made<aa.made:=(Dz h).2 (by omega)
theorem AF{l:ah}{aw:List Int}:∀{gs aL:List (Int×Int)}{log:List aF}{s aa:af}{r:List (Int×Int)},fx l aw gs aL log s=.ok (r,aa)->eN gs->eN aL->eN r
 |[],aL,log,s,aa,r,h,_,F=>by cases h;exact F
 |g::gs,aL,log,s,aa,r,h,A,F=>by
  have aU:eN gs:=λ p hp=>A p (List.mem_cons_of_mem _ hp)
  rw[fx] at h;cases k1:cZ (aN l g.1 6) log s with
  |error a=>rw[bj k1] at h;cases h
  |ok q=>
   obtain⟨b,s1⟩:=q;rw[az k1] at h;split at h
   ·exact AF h aU (λ p hp=>by
     rw[List.mem_append,List.mem_singleton] at hp;rcases hp with hp|rfl
     ·exact F p hp
     ·exact A _ (by simp))
   ·cases k2:oI l g.1 log s1 with
    |error a=>rw[bj k2] at h;cases h
    |ok q=>obtain⟨u,s2⟩:=q;rw[az k2] at h;exact AF h aU F
theorem JY{g:List (Int×Int)}{n e:Int}(h:eN g)(hn:n<9223372036854775808):eN (g++[(n,e)]):=by
 intro p hp;rw[List.mem_append,List.mem_singleton] at hp;rcases hp with hp|rfl
 ·exact h p hp
 ·exact hn
theorem Fg{l:ah}{n:Int}{log:List aF}{s aa:af}{u:Unit}(h:lr l n log s=.ok (u,aa))(hg:eN s.gone)(hn:n<9223372036854775808):eN aa.gone:=by
 unfold lr at h;cases A:cZ l.era log s with
 |error a=>rw[bj A] at h;cases h
 |ok q=>
  obtain⟨er,s1⟩:=q;rw[az A] at h;have g1:s1.gone=s.gone:=by rw[(fK A).1]
  cases F:fO ⟨4,l.era,0,1⟩ log s1 with
  |error a=>rw[bj F] at h;cases h
  |ok q=>
   obtain⟨r,s2⟩:=q;rw[az F] at h;have g2:s2.gone=s.gone:=by rw[(vc F).1];exact g1
   have hq:eN (s2.gone++[(n,er)]):=by rw[g2];exact JY hg hn
   split at h
   ·cases h;exact hq
   ·unfold tB at h;cases O:kz [] (j4 l 0 l.ar.toNat) log {s2 with gone:=s2.gone++[(n,er)]} with
    |error a=>rw[bj O] at h;cases h
    |ok q=>
     obtain⟨aw,s3⟩:=q;rw[az O] at h;cases h4:fx l aw (s2.gone++[(n,er)]) [] log s3 with
     |error a=>rw[bj h4] at h;cases h
     |ok q=>obtain⟨aL,s4⟩:=q;rw[az h4] at h;unfold jq at h;cases h;exact AF h4 hq (λ p hp=>by simp at hp)
theorem tv(n:Int):bc prog 212 [E n] (E (iO n)):=by
 refine sP func212 ntmps212 λ w cl=>?_
 refine gA (my ⟨n,false,0⟩) ?_;refine ez ?_
 rfl
theorem abJ(n:Int):bc prog 215 [E n] (E (HQ n)):=by
 refine sP func215 ntmps215 λ w cl=>?_
 refine gA (my ⟨n,true,0⟩) ?_;refine ez ?_
 rfl
set_option maxHeartbeats 16000000 in
theorem Gu(l:ah)(hL:cr l)(G:Int)(log:List aF)(D o:Int)(f0:kX)(s:af)(fp:eN s.gone)(gU:s.gone.length+log.length<=10000+s.made)(hm:s.made<=log.length)(U:log.length<=1000000):
 fM prog 205 [11,12,13,14] [.ptr 14 0,E o] (nf l G log D f0 s) (Vj l G log D s (tZ l G D o log s)) (Vk l G log D (tZ l G D o log s)):=by
 generalize I:tZ l G D o log s=aQ;unfold tZ at I;refine sX func205 ntmps205 λ w cl own kf=>?_
 refine Wq (l:=0) (λ p:Nat×kX×af=>ik log s p.2.2/\2*(log.length-p.2.2.made)+2<=p.1/\ph l G D o p.1 none log p.2.2=aQ) (λ p=>⟨[(0,.ptr 14 0),(1,E o)],nf l G log D p.2.1 p.2.2,[]⟩) (λ p=>p.1) (2*(log.length-s.made)+2,f0,s) ⟨⟨Nat.le_refl _,hm,fp,Nat.le_refl _⟩,Nat.le_refl _,I⟩ (zX) ?_;rintro⟨k,fd,t⟩ ⟨hG,J,I⟩;simp only at hG J I;obtain⟨k,rfl⟩:∃j,k=j+1:=⟨k-1,by omega⟩;refine(show aP _ _ _ _ ⟨[(0,.ptr 14 0),(1,E o)],nf l G log D fd t,[]⟩ from ?_);rw[ph] at I;refine go ?_;refine Ji 9 10 [] rfl rfl (by kernel_rfl) (by kernel_rfl) (by kernel_rfl) rfl rfl ?_;refine br ?_;refine xX (PP l hL G log t 0 D (.inl rfl) hG.le U) ?_ ?_
 ·rintro v Y ⟨a,aa,h,rfl,rfl⟩;refine gP ?_;exact fP _ ⟨a,aa,fd,by rw[<-I];exact bj h,rfl,rfl⟩
 rintro d Y ⟨p,s1,bO,fT,dc,rfl,rfl⟩;rw[az bO] at I;have gk:=hG.same (Bm bO) fT dc;have mj:=J0 hG.le bO;obtain⟨w,told⟩:=p;simp only at I;have cj:=kU w;refine im ?_;refine RX rfl rfl ?_;refine qg ?_;refine dW 11 [] ?_;refine gQ (kV w) ?_;refine go ?_;refine cn (λ p:Nat×I7×Int×af=>ik log s p.2.2.2/\s.made<p.2.2.2.made/\2*(log.length-p.2.2.2.made)+1<=p.1/\p.1<=k/\(p.2.1.a=0\/p.2.1.a=1\/p.2.1.a=2)/\(p.2.1.b=0\/p.2.1.b=1\/p.2.1.b=2)/\p.2.1.a≠p.2.1.b/\p.2.2.1=3-p.2.1.a-p.2.1.b/\0<=p.2.1.cur/\p.2.1.cur<65536/\ph l G D o p.1 (some p.2.1) log p.2.2.2=aQ)
  (λ p=>⟨[(4,E p.2.1.a),(5,E p.2.1.b),(6,E p.2.2.1),(0,.ptr 14 0),(1,E o)],nf l G log D ⟨false,p.2.1.prev,p.2.1.cur,0,p.2.1.pt⟩ p.2.2.2,[]⟩) (λ p=>p.1) (k,⟨0,1,D,(ae w).idx,told⟩,2,s1) ⟨gk,by have:=hG.made;simp only;omega,by simp only;omega,Nat.le_refl _,.inl rfl,.inr (.inl rfl),by simp,rfl,cj.1,cj.2,I⟩ (zX) ?_
 rintro⟨j,⟨xa,xb,pv,cu,pt⟩,xc,t2⟩ ⟨fQ,s0,hj,mN,ha,Z,yS,L,GS,GU,I⟩;simp only at fQ s0 hj mN ha Z yS L GS GU I;obtain⟨j,rfl⟩:∃i,j=i+1:=⟨j-1,by omega⟩;rw[ph] at I;simp only at I;rw[<-L] at I;refine(show aP _ _ _ _ ⟨[(4,E xa),(5,E xb),(6,E xc),(0,.ptr 14 0),(1,E o)],nf l G log D ⟨false,pv,cu,0,pt⟩ t2,[]⟩ from ?_);refine go ?_;generalize A:decide (cu=0)=cc;cases cc
 ·rw[if_neg (of_decide_eq_false A)] at I;refine go ?_;refine Ji 15 16 [] rfl rfl (by kernel_rfl) (by kernel_rfl) (by kernel_rfl) rfl rfl ?_;refine br ?_;refine lQ (gJ l hL G t2 cu 0 (by omega) (by omega)) ?_;refine br ?_;refine xP (PP l hL G log t2 xb (aN l cu 0) Z fQ.le U) ?_;rintro d Y ⟨p,s2,bg,fj,cN,rfl,rfl⟩;rw[az bg] at I;have iV:=fQ.same (Bm bg) fj cN;obtain⟨nw,R⟩:=p;simp only at I;refine im ?_;refine RX rfl rfl ?_;refine qg ?_;refine gW 9 [] ?_;refine xP (eC l G log s2 pv cN U) ?_;rintro d Y ⟨seen,s3,bV,fv,cS,rfl,rfl⟩;rw[az bV,az eu] at I;have lY:=iV.same (by rw[(fK bV).1]) fv cS;have Q0:=iH bV;refine go ?_;refine lA (i6 l G s3 (by omega)) ?_;refine gA (tv cu) ?_;generalize F:decide (seen=iO cu)=cc;cases cc
  ·rw[if_neg (of_decide_eq_false F)] at I;refine go ?_;refine OF ?_
   repeat(first|refine Ty ?_|refine Tw ?_)
   refine Tx ?_;exact⟨(j,⟨false,pv,cu,0,pt⟩,s3),⟨lY,by simp only;omega,I⟩,by simp only;omega,zX⟩
  ·rw[if_pos (of_decide_eq_true F)] at I;refine go ?_;refine gW 14 [] ?_;refine lQ (gJ l hL G s3 cu 1 (by omega) (by omega)) ?_;refine br ?_;refine xP (eC l G log s3 (aN l cu 1) cS U) ?_;rintro d Y ⟨eF,s4,cX,jf,eQ,rfl,rfl⟩;rw[az cX] at I;have rK:=lY.same (by rw[(fK cX).1]) jf eQ;have aha:=iH cX;have xB:=kU nw;refine gA (kV nw) ?_;generalize y5:(ae nw).mark=mk at*;cases mk
   ·rw[if_neg (by decide)] at I;refine go ?_;generalize O:decide (eF<o)=cc;cases cc
    ·rw[if_neg (of_decide_eq_false O)] at I;refine go ?_;generalize h4:decide (eF=o)=cc;cases cc
     ·rw[if_neg (of_decide_eq_false h4)] at I;refine go ?_;exact fX _ ⟨_,s4,I.symm,rK,by omega,GS,GU,rfl,rfl⟩
     ·rw[if_pos (of_decide_eq_true h4)] at I;refine go ?_;exact fX _ ⟨_,s4,I.symm,rK,by omega,GS,GU,rfl,rfl⟩
    ·rw[if_pos (of_decide_eq_true O)] at I;refine go ?_;refine gD [14] ?_;refine TD aD rfl rfl rfl (by kernel_rfl) ?_;refine br ?_;refine TD aD rfl rfl rfl (by kernel_rfl) ?_;refine br ?_;refine lQ (gJ l hL G s4 cu 0 (by omega) (by omega)) ?_;refine br ?_;refine wL ?_;refine br ?_;refine wL ?_;refine qg ?_;exact⟨(j,⟨xb,xc,aN l cu 0,(ae nw).idx,R⟩,xa,s4),⟨rK,by simp only;omega,by simp only;omega,by simp only;omega,Z,by simp only;omega,by simp only;omega,by simp only;omega,xB.1,xB.2,I⟩,by simp only;omega,zX⟩
   ·rw[if_pos rfl] at I;refine go ?_;refine dW 18 [] ?_;refine gQ (tv cu) ?_;refine cQ (tv (ae nw).idx) ?_;refine br ?_;refine xP (jb l G log s4 pv (iO cu) (iO (ae nw).idx) eQ U) ?_;rintro d Y ⟨ok,s5,dD,li,eW,rfl,rfl⟩;rw[az dD] at I;have t9:=rK.same (by rw[(ja dD).1]) li eW;have ZN:=lO dD;refine go ?_;cases ok
    ·rw[if_neg (by decide)] at I;refine go ?_;refine OF ?_
     repeat(first|refine Ty ?_|refine Tw ?_)
     refine Tx ?_;exact⟨(j,⟨false,pv,cu,0,pt⟩,s5),⟨t9,by simp only;omega,I⟩,by simp only;omega,zX⟩
    ·rw[if_pos rfl,az eu] at I;refine go ?_;refine lA (i6 l G s5 (by omega)) ?_;refine go ?_;refine gW 9 [] ?_;refine xX (Ay l hL G log s5 cu (by omega) t9.ok (by have:=t9.len;have:=t9.le;omega) eW U) ?_ ?_
     ·rintro v Y ⟨a,aa,h,rfl,rfl⟩;refine gP ?_;refine fP (nf l G log D ⟨false,pv,cu,0,(s5.made:Int)-1⟩ aa) ?_;exact⟨a,aa,_,by rw[<-I];exact bj h,rfl,rfl⟩
     rintro d Y ⟨u,s6,kw,vC,nt,rfl,rfl⟩;rw[az kw] at I;have J9:ik log s s6:=by
      have e1:=Ff kw;have e2:s5.gone=s4.gone:=by rw[(ja dD).1]
      rw[e2] at e1;have:=rK.len;have:=t9.made;exact⟨by omega,nt,Fg kw t9.ok (by omega),by omega⟩
     refine go ?_;exact⟨(j,⟨xb,xa,pv,(ae nw).idx,(s5.made:Int)-1⟩,xc,s6),⟨J9,by simp only;omega,by simp only;omega,by simp only;omega,Z,ha,by simp only;omega,by simp only;omega,xB.1,xB.2,I⟩,by simp only;omega,zX⟩
 ·rw[if_pos (of_decide_eq_true A)] at I;have Ko:cu=0:=of_decide_eq_true A;refine go ?_;refine fX (nf l G log D ⟨false,pv,cu,0,pt⟩ t2) ?_;exact⟨_,t2,by rw[<-I,Ko];rfl,fQ,s0,GS,GU,rfl,rfl⟩
def IU(l:ah)(G:Int)(log:List aF)(D:Int)(s:af)(m:Except aX (aY×af)):K->bJ->Prop:=λ d Y=>∃x aa f,m=.ok (x,aa)/\ik log s aa/\d=lU x/\Y=nf l G log D f aa
def IV(l:ah)(G:Int)(log:List aF)(D:Int)(m:Except aX (aY×af)):Value->bJ->Prop:=λ x Y=>∃a aa f,m=.error a/\x=iK a/\Y=nf l G log D f aa
theorem ik.trans{log:List aF}{s t u:af}(h:ik log s t)(F:ik log t u):ik log s u:=by obtain⟨a1,a2,a3,a4⟩:=h;obtain⟨b1,b2,b3,b4⟩:=F;exact⟨by omega,b2,b3,by omega⟩
theorem w8{l:ah}{n:Int}:∀{k:Nat}{log:List aF}{s aa:af}{u:Unit},mH l n k log s=.ok (u,aa)->aa.gone=s.gone
 |0,log,s,aa,u,h=>by cases h;rfl
 |k+1,log,s,aa,u,h=>by
  rw[mH] at h;cases A:cZ l.free log s with
  |error a=>rw[bj A] at h;cases h
  |ok q=>
   obtain⟨fr,s1⟩:=q;rw[az A] at h;have g1:s1.gone=s.gone:=by rw[(fK A).1]
   cases F:fA (aN l n 7) (ae fr).idx log s1 with
   |error a=>rw[bj F] at h;cases h
   |ok q=>
    obtain⟨lk,s2⟩:=q;rw[az F] at h;have g2:s2.gone=s.gone:=by rw[(ot F).1];exact g1
    cases O:fN l.free fr (bK (ca (ae fr) n)) log s2 with
    |error a=>rw[bj O] at h;cases h
    |ok q=>
     obtain⟨ok,s3⟩:=q;rw[az O] at h;have g3:s3.gone=s.gone:=by rw[(ja O).1];exact g2
     split at h
     ·cases h;exact g3
     ·exact(w8 h).trans g3
theorem Fz{l:ah}:∀{k:Nat}{log:List aF}{s aa:af}{p:Int×Int×Bool},ou l k log s=.ok (p,aa)->0<=p.1
 |0,log,s,aa,p,h=>by cases h;simp
 |k+1,log,s,aa,p,h=>by
  rw[ou] at h;cases A:cZ l.free log s with
  |error a=>rw[bj A] at h;cases h
  |ok q=>
   obtain⟨fr,s1⟩:=q;rw[az A] at h;split at h
   ·rw[az eu] at h;cases h;simp
   ·cases F:cZ (aN l (ae fr).idx 7) log s1 with
    |error a=>rw[bj F] at h;cases h
    |ok q=>
     obtain⟨lk,s2⟩:=q;rw[az F] at h;cases O:fN l.free fr (bK (ca (ae fr) lk)) log s2 with
     |error a=>rw[bj O] at h;cases h
     |ok q=>
      obtain⟨ok,s3⟩:=q;rw[az O] at h;split at h
      ·rw[az eu] at h;cases h4:cZ l.era log s3 with
       |error a=>rw[bj h4] at h;cases h
       |ok q=>
        obtain⟨bi,s4⟩:=q;rw[az h4] at h;cases h5:fA (aN l (ae fr).idx 6) bi log s4 with
        |error a=>rw[bj h5] at h;cases h
        |ok q=>obtain⟨u,s5⟩:=q;rw[az h5] at h;cases h;exact(kU fr).1
      ·exact Fz h
set_option maxHeartbeats 8000000 in
theorem XU(l:ah)(hL:cr l)(G:Int)(log:List aF)(D o:Int)(f0:kX)(s:af)(fp:eN s.gone)(gU:s.gone.length+log.length<=10000+s.made)(hm:s.made<=log.length)(U:log.length<=1000000):
 fM prog 189 [11,12,13,14] [.ptr 14 0,E o] (nf l G log D f0 s) (IU l G log D s (getM l G D o log s)) (IV l G log D (getM l G D o log s)):=by
 generalize I:getM l G D o log s=aQ;unfold getM at I;have hG:ik log s s:=⟨Nat.le_refl _,hm,fp,Nat.le_refl _⟩;refine sX func189 ntmps189 λ w cl own kf=>?_
 refine go ?_;refine xP (Gu l hL G log D o f0 s hG.ok (by have:=hG.len;have:=hG.le;omega) hG.le U) ?_;rintro d Y ⟨f1,s1,bO,Br,QY,cM,mL,rfl,rfl⟩;rw[az bO] at I;have gk:=hG.trans Br;obtain⟨th,pv,cu,nx,pt⟩:=f1;simp only at I cM mL;refine go ?_;refine gW 12 [] ?_;refine go ?_;cases th
 ·rw[if_neg (by decide),ln] at I;refine go ?_;refine xP (kh l hL G log s1 gk.le U) ?_;rintro d Y ⟨u,s2,bg,fj,cN,rfl,rfl⟩;rw[az bg] at I;have fQ:=gk.same (jP bg) fj cN;refine go ?_;exact fX _ ⟨_,s2,_,I.symm,fQ,rfl,rfl⟩
 ·rw[if_pos rfl] at I;refine go ?_;refine gW 14 [] ?_;refine lQ (gJ l hL G s1 cu 2 (by omega) (by omega)) ?_;refine br ?_;refine xP (eC l G log s1 (aN l cu 2) gk.le U) ?_;rintro d Y ⟨v,s2,bg,fj,cN,rfl,rfl⟩;rw[az bg,ln] at I;have fQ:=gk.same (by rw[(fK bg).1]) fj cN;refine go ?_;refine xP (kh l hL G log s2 fQ.le U) ?_;rintro d Y ⟨u,s3,bV,fv,cS,rfl,rfl⟩;rw[az bV] at I;have iV:=fQ.same (jP bV) fv cS;refine go ?_;exact fX _ ⟨_,s3,_,I.symm,iV,rfl,rfl⟩
set_option maxHeartbeats 16000000 in
theorem adQ(l:ah)(hL:cr l)(G:Int)(log:List aF)(D o v:Int)(f0:kX)(s:af)(fp:eN s.gone)(gU:s.gone.length+log.length<=10000+s.made)(hm:s.made<=log.length)(U:log.length<=1000000):
 fM prog 191 [11,12,13,14] [.ptr 14 0,E o,E v] (nf l G log D f0 s) (IU l G log D s (wg l G D o v log s)) (IV l G log D (wg l G D o v log s)):=by
 generalize I:wg l G D o v log s=aQ;unfold wg at I;have hG:ik log s s:=⟨Nat.le_refl _,hm,fp,Nat.le_refl _⟩;refine sX func191 ntmps191 λ w cl own kf=>?_
 refine go ?_;refine cn (λ p:Nat×Int×kX×af=>ik log s p.2.2.2/\log.length-p.2.2.2.made<p.1/\0<=p.2.1/\p.2.1<65536/\wf l G D o v p.1 p.2.1 log p.2.2.2=aQ) (λ p=>⟨[(7,E p.2.1),(6,.ptr 4 0),(0,.ptr 14 0),(1,E o),(2,E v)],(4,[E 0,dB false,E 0,E 0,.p (.sl true 0 [])])::nf l G log D p.2.2.1 p.2.2.2,[]⟩) (λ p=>p.1) (log.length+1-s.made,0,f0,s) ⟨hG,by simp only;omega,by simp,by simp,I⟩ (zX) ?_;rintro⟨k,n,fd,t⟩ ⟨hG,J,ml,gp,I⟩;simp only at hG J ml gp I;obtain⟨k,rfl⟩:∃j,k=j+1:=⟨k-1,by omega⟩;refine(show aP _ _ _ _ ⟨[(7,E n),(6,.ptr 4 0),(0,.ptr 14 0),(1,E o),(2,E v)],(4,[E 0,dB false,E 0,E 0,.p (.sl true 0 [])])::nf l G log D fd t,[]⟩ from ?_);rw[wf] at I;refine go ?_;refine xP (Gu l hL G log D o fd t hG.ok (by have:=hG.len;have:=hG.le;omega) hG.le U) ?_;rintro d Y ⟨f1,s1,bO,Br,QY,cM,mL,rfl,rfl⟩;rw[az bO] at I;have gk:=hG.trans Br;obtain⟨th,pv,cu,nx,pt⟩:=f1;simp only at I cM mL;refine go ?_;cases th
 ·rw[if_neg (by decide)] at I;refine go ?_;generalize F:decide (n=0)=cc;cases cc
  ·rw[if_neg (of_decide_eq_false F),xM,bind_assoc] at I;refine go ?_;refine gW 16 [] ?_;refine lQ (gJ l hL G s1 n 0 (by omega) (by omega)) ?_;refine gQ (tv cu) ?_;refine xP (iy l G log s1 (aN l n 0) (iO cu) gk.le U) ?_;rintro d Y ⟨u,s2,bg,fj,cN,rfl,rfl⟩;rw[az bg,bind_assoc] at I;have fQ:=gk.same (by rw[(ot bg).1]) fj cN;have un:=so bg;refine go ?_;refine dW 17 [] ?_;refine gQ (tv cu) ?_;refine cQ (tv n) ?_;refine br ?_;refine xP (jb l G log s2 pv (iO cu) (iO n) fQ.le U) ?_;rintro d Y ⟨ok,s3,bV,fv,cS,rfl,rfl⟩;rw[az bV] at I;have iV:=fQ.same (by rw[(ja bV).1]) fv cS;have Q0:=lO bV;refine go ?_;cases ok
   ·rw[if_neg (by decide)] at I;refine go ?_;exact⟨(k,n,⟨false,pv,cu,nx,pt⟩,s3),⟨iV,by simp only;omega,by simp only;omega,by simp only;omega,I⟩,by simp only;omega,zX⟩
   ·rw[if_pos rfl,bind_assoc,az eu] at I;have I:ln l G ⟨0,true,0,(s3.made:Int)-1,[]⟩ log s3=aQ:=I;rw[ln] at I;refine go ?_;refine lA (i6 l G s3 (by omega)) ?_;refine go ?_;refine xP (kh l hL G log s3 iV.le U) ?_;rintro d Y ⟨u,s4,cX,jf,eQ,rfl,rfl⟩;rw[az cX] at I;have lY:=iV.same (jP cX) jf eQ;refine go ?_;exact fX _ ⟨_,s4,_,I.symm,lY,rfl,rfl⟩
  ·rw[if_pos (of_decide_eq_true F)] at I;refine go ?_;refine xP (FA l hL G log s1 gk.le U) ?_;rintro d Y ⟨p,s2,bg,fj,cN,rfl,rfl⟩;rw[az bg] at I;have xu:=Fy bg;have Eu:=Fz bg;have fQ:=gk.same xu.2 fj cN;obtain⟨n2,Wh,SQ⟩:=p;simp only at I xu Eu;refine go ?_;cases SQ
   ·rw[if_neg (by decide),ln] at I;refine go ?_;refine xP (kh l hL G log s2 fQ.le U) ?_;rintro d Y ⟨u,s3,bV,fv,cS,rfl,rfl⟩;rw[az bV] at I;have iV:=fQ.same (jP bV) fv cS;refine go ?_;exact fX _ ⟨_,s3,_,I.symm,iV,rfl,rfl⟩
   ·rw[if_pos rfl] at I;refine go ?_;refine gW 11 [] ?_;refine lQ (gJ l hL G s2 n2 1 (by omega) (by omega)) ?_;refine br ?_;refine xP (iy l G log s2 (aN l n2 1) o fQ.le U) ?_;rintro d Y ⟨u,s3,bV,fv,cS,rfl,rfl⟩;rw[az bV] at I;have iV:=fQ.same (by rw[(ot bV).1]) fv cS;refine go ?_;refine gW 11 [] ?_;refine lQ (gJ l hL G s3 n2 2 (by omega) (by omega)) ?_;refine br ?_;refine xP (iy l G log s3 (aN l n2 2) v iV.le U) ?_;rintro d Y ⟨u,s4,cX,jf,eQ,rfl,rfl⟩;rw[az cX,xM,bind_assoc] at I;have lY:=iV.same (by rw[(ot cX).1]) jf eQ;refine go ?_;refine gW 16 [] ?_;refine lQ (gJ l hL G s4 n2 0 (by omega) (by omega)) ?_;refine gQ (tv cu) ?_;refine xP (iy l G log s4 (aN l n2 0) (iO cu) lY.le U) ?_;rintro d Y ⟨u,s5,dD,li,eW,rfl,rfl⟩;rw[az dD,bind_assoc] at I;have rK:=lY.same (by rw[(ot dD).1]) li eW;have ZN:=so dD;refine go ?_;refine dW 17 [] ?_;refine gQ (tv cu) ?_;refine cQ (tv n2) ?_;refine br ?_;refine xP (jb l G log s5 pv (iO cu) (iO n2) rK.le U) ?_;rintro d Y ⟨ok,s6,kw,vC,nt,rfl,rfl⟩;rw[az kw] at I;have t9:=rK.same (by rw[(ja kw).1]) vC nt;have ZO:=lO kw;refine go ?_;cases ok
    ·rw[if_neg (by decide)] at I;refine go ?_;exact⟨(k,n2,⟨false,pv,cu,nx,pt⟩,s6),⟨t9,by simp only;omega,by simp only;omega,by simp only;omega,I⟩,by simp only;omega,zX⟩
    ·rw[if_pos rfl,bind_assoc,az eu] at I;have I:ln l G ⟨0,true,0,(s6.made:Int)-1,[]⟩ log s6=aQ:=I;rw[ln] at I;refine go ?_;refine lA (i6 l G s6 (by omega)) ?_;refine go ?_;refine xP (kh l hL G log s6 t9.le U) ?_;rintro d Y ⟨u,s7,pu,Ed,vD,rfl,rfl⟩;rw[az pu] at I;have J9:=t9.same (jP pu) Ed vD;refine go ?_;exact fX _ ⟨_,s7,_,I.symm,J9,rfl,rfl⟩
 ·rw[if_pos rfl] at I;refine go ?_;generalize F:decide (n=0)=cc;cases cc
  ·rw[if_neg (of_decide_eq_false F)] at I;refine go ?_;refine xP (w9 l hL G log s1 n (by omega) gk.le U) ?_;rintro d Y ⟨u,s2,bg,fj,cN,rfl,rfl⟩;rw[az bg,ln] at I;have fQ:=gk.same (w8 bg) fj cN;refine go ?_;refine xP (kh l hL G log s2 fQ.le U) ?_;rintro d Y ⟨u,s3,bV,fv,cS,rfl,rfl⟩;rw[az bV] at I;have iV:=fQ.same (jP bV) fv cS;refine go ?_;exact fX _ ⟨_,s3,_,I.symm,iV,rfl,rfl⟩
  ·rw[if_pos (of_decide_eq_true F),ln] at I;refine go ?_;refine xP (kh l hL G log s1 gk.le U) ?_;rintro d Y ⟨u,s2,bg,fj,cN,rfl,rfl⟩;rw[az bg] at I;have fQ:=gk.same (jP bg) fj cN;refine go ?_;exact fX _ ⟨_,s2,_,I.symm,fQ,rfl,rfl⟩
set_option maxHeartbeats 16000000 in
theorem Xd(l:ah)(hL:cr l)(G:Int)(log:List aF)(D o:Int)(f0:kX)(s:af)(fp:eN s.gone)(gU:s.gone.length+log.length<=10000+s.made)(hm:s.made<=log.length)(U:log.length<=1000000):
 fM prog 193 [11,12,13,14] [.ptr 14 0,E o] (nf l G log D f0 s) (IU l G log D s (vb l G D o log s)) (IV l G log D (vb l G D o log s)):=by
 generalize I:vb l G D o log s=aQ;unfold vb at I;have hG:ik log s s:=⟨Nat.le_refl _,hm,fp,Nat.le_refl _⟩;refine sX func193 ntmps193 λ w cl own kf=>?_
 refine go ?_;refine cn (λ p:Nat×kX×af=>ik log s p.2.2/\log.length-p.2.2.made<p.1/\yA l G D o p.1 log p.2.2=aQ) (λ p=>⟨[(4,.ptr 4 0),(0,.ptr 14 0),(1,E o)],(4,[E 0,dB false,E 0,E 0,.p (.sl true 0 [])])::nf l G log D p.2.1 p.2.2,[]⟩) (λ p=>p.1) (log.length+1-s.made,f0,s) ⟨hG,by simp only;omega,I⟩ (zX) ?_;rintro⟨k,fd,t⟩ ⟨hG,J,I⟩;simp only at hG J I;obtain⟨k,rfl⟩:∃j,k=j+1:=⟨k-1,by omega⟩;refine(show aP _ _ _ _ ⟨[(4,.ptr 4 0),(0,.ptr 14 0),(1,E o)],(4,[E 0,dB false,E 0,E 0,.p (.sl true 0 [])])::nf l G log D fd t,[]⟩ from ?_);rw[yA] at I;refine go ?_;refine xP (Gu l hL G log D o fd t hG.ok (by have:=hG.len;have:=hG.le;omega) hG.le U) ?_;rintro d Y ⟨f1,s1,bO,Br,QY,cM,mL,rfl,rfl⟩;rw[az bO] at I;have gk:=hG.trans Br;obtain⟨th,pv,cu,nx,pt⟩:=f1;simp only at I cM mL;refine go ?_;cases th
 ·rw[if_neg (by decide),ln] at I;refine go ?_;refine xP (kh l hL G log s1 gk.le U) ?_;rintro d Y ⟨u,s2,bg,fj,cN,rfl,rfl⟩;rw[az bg] at I;have fQ:=gk.same (jP bg) fj cN;refine go ?_;exact fX _ ⟨_,s2,_,I.symm,fQ,rfl,rfl⟩
 ·rw[if_pos rfl] at I;have xB:=kU nx;refine gA (kV nx) ?_;refine gW 21 [] ?_;refine lQ (gJ l hL G s1 cu 0 (by omega) (by omega)) ?_;refine gQ (abJ (ae nx).idx) ?_;refine xP (jb l G log s1 (aN l cu 0) nx (HQ (ae nx).idx) gk.le U) ?_;rintro d Y ⟨ok,s2,bg,fj,cN,rfl,rfl⟩;rw[az bg] at I;have fQ:=gk.same (by rw[(ja bg).1]) fj cN;have un:=lO bg;refine go ?_;cases ok
  ·rw[if_neg (by decide)] at I;refine go ?_;exact⟨(k,⟨true,pv,cu,nx,pt⟩,s2),⟨fQ,by simp only;omega,I⟩,by simp only;omega,zX⟩
  ·rw[if_pos rfl,az eu] at I;refine go ?_;refine lA (i6 l G s2 (by omega)) ?_;refine go ?_;refine dW 17 [] ?_;refine gQ (tv cu) ?_;refine cQ (tv (ae nx).idx) ?_;refine br ?_;refine xP (jb l G log s2 pv (iO cu) (iO (ae nx).idx) fQ.le U) ?_;rintro d Y ⟨ok,s3,bV,fv,cS,rfl,rfl⟩;rw[az bV] at I;have iV:=fQ.same (by rw[(ja bV).1]) fv cS;have Q0:=lO bV;refine go ?_;cases ok
   ·rw[if_neg (by decide)] at I;refine go ?_;refine xP (Gu l hL G log D o ⟨true,pv,cu,nx,pt⟩ s3 iV.ok (by have:=iV.len;have:=iV.le;omega) iV.le U) ?_;rintro d Y ⟨ve,s4,cX,Yh,ag9,cq,agV,rfl,rfl⟩;rw[az cX] at I;have lY:=iV.trans Yh;obtain⟨ahV,ahM,agt,ahK,ahL⟩:=ve;rw[ln] at I;refine go ?_;refine xP (kh l hL G log s4 lY.le U) ?_;rintro d Y ⟨u,s5,dD,li,eW,rfl,rfl⟩;rw[az dD] at I;have rK:=lY.same (jP dD) li eW;refine go ?_;exact fX _ ⟨_,s5,_,I.symm,rK,rfl,rfl⟩
   ·rw[if_pos rfl] at I;refine go ?_;refine xP (kh l hL G log s3 iV.le U) ?_;rintro d Y ⟨u,s4,cX,jf,eQ,rfl,rfl⟩;rw[az cX] at I;have lY:=iV.same (jP cX) jf eQ;refine go ?_;refine gW 9 [] ?_;refine xP (Ay l hL G log s4 cu (by omega) lY.ok (by have:=lY.len;have:=lY.le;omega) lY.le U) ?_;rintro d Y ⟨u,s5,dD,li,eW,rfl,rfl⟩;rw[az dD] at I;have rK:ik log s s5:=by
     have e1:=Ff dD;have e2:s4.gone=s2.gone:=(jP cX).trans (by rw[(ja bV).1]);rw[e2] at e1;have:=fQ.len;have:=fQ.made;have:=lY.made;exact⟨by omega,eW,Fg dD lY.ok (by omega),by omega⟩
    refine go ?_;exact fX _ ⟨_,s5,_,I.symm,rK,rfl,rfl⟩
def uT(m:Except aX (aY×af)):K->bJ->Prop:=λ d Y=>Y=[]/\((∃x aa,m=.ok (x,aa)/\d=.bd [fC eZ,kj {x with gone:=aa.gone},dB true])\/∃a,m=.error a/\d=.bd [fC a,lU mw,dB false])
abbrev wU(a:aX)(od:List K)(dn:Bool):St:=⟨[(4,.ptr 22 0),(5,.ptr 23 0),(6,.ptr 24 0)],jo a od dn,[]⟩
def ym(m:Except aX (aY×af))(Γ:bN):Exit->St->Prop:=λ ex M=>(ex=.ret/\∃x aa,m=.ok (x,aa)/\bY Γ M (wU eZ (oU {x with gone:=aa.gone}) true))\/∃a,ex=.panic [pe (iK a)]/\m=.error a/\bY Γ M (wU eZ [E 0,dB false,E 0,E 0,.p (.sl true 0 [])] false)
abbrev xI(l:ah)(G:Int)(log:List aF)(op:bl)(f:kX)(s:af):bJ:=[(11,nH l G s),(12,[.ptr 11 0]),(13,[gT log]),(14,PD op.obj f),(15,[.ptr 14 0]),(16,[E op.kind,E op.obj,E op.a,E op.b])]
def uR(l:ah)(G:Int)(log:List aF)(op:bl)(s:af)(m:Except aX (aY×af)):K->bJ->Prop:=λ d Y=>∃x aa f,m=.ok (x,aa)/\ik log s aa/\d=lU x/\Y=xI l G log op f aa
def uS(l:ah)(G:Int)(log:List aF)(op:bl)(m:Except aX (aY×af)):Value->bJ->Prop:=λ x Y=>∃a aa f,m=.error a/\x=iK a/\Y=xI l G log op f aa
theorem aca(l:ah)(hL:cr l)(G:Int)(log:List aF)(op:bl)(f0:kX)(s:af)(fp:eN s.gone)(gU:s.gone.length+log.length<=10000+s.made)(hm:s.made<=log.length)(U:log.length<=1000000):
 fM prog 188 [11,12,13,14,15,16] [.ptr 15 0,.ptr 16 0] (xI l G log op f0 s) (uR l G log op s (getM l G op.obj op.a log s)) (uS l G log op (getM l G op.obj op.a log s)):=by
 generalize I:getM l G op.obj op.a log s=aQ;refine sX func188 ntmps188 λ w cl own kf=>?_
 refine go ?_;refine xP (XU l hL G log op.obj op.a f0 s fp gU hm U) ?_;rintro d Y ⟨x,aa,oG,h,hG,rfl,rfl⟩;refine go ?_;exact fX _ ⟨x,aa,oG,I.symm.trans h,hG,rfl,rfl⟩
theorem acl(l:ah)(hL:cr l)(G:Int)(log:List aF)(op:bl)(f0:kX)(s:af)(fp:eN s.gone)(gU:s.gone.length+log.length<=10000+s.made)(hm:s.made<=log.length)(U:log.length<=1000000):
 fM prog 190 [11,12,13,14,15,16] [.ptr 15 0,.ptr 16 0] (xI l G log op f0 s) (uR l G log op s (wg l G op.obj op.a op.b log s)) (uS l G log op (wg l G op.obj op.a op.b log s)):=by
 generalize I:wg l G op.obj op.a op.b log s=aQ;refine sX func190 ntmps190 λ w cl own kf=>?_
 refine go ?_;refine xP (adQ l hL G log op.obj op.a op.b f0 s fp gU hm U) ?_;rintro d Y ⟨x,aa,oG,h,hG,rfl,rfl⟩;refine go ?_;exact fX _ ⟨x,aa,oG,I.symm.trans h,hG,rfl,rfl⟩
theorem abX(l:ah)(hL:cr l)(G:Int)(log:List aF)(op:bl)(f0:kX)(s:af)(fp:eN s.gone)(gU:s.gone.length+log.length<=10000+s.made)(hm:s.made<=log.length)(U:log.length<=1000000):
 fM prog 192 [11,12,13,14,15,16] [.ptr 15 0,.ptr 16 0] (xI l G log op f0 s) (uR l G log op s (vb l G op.obj op.a log s)) (uS l G log op (vb l G op.obj op.a log s)):=by
 generalize I:vb l G op.obj op.a log s=aQ;refine sX func192 ntmps192 λ w cl own kf=>?_
 refine go ?_;refine xP (Xd l hL G log op.obj op.a f0 s fp gU hm U) ?_;rintro d Y ⟨x,aa,oG,h,hG,rfl,rfl⟩;refine go ?_;exact fX _ ⟨x,aa,oG,I.symm.trans h,hG,rfl,rfl⟩
set_option maxHeartbeats 4000000 in
theorem Ms(aA:FuncId)(hF:ke prog aA)(l:ah)(G:Int)(log:List aF)(op:bl)(f0:kX)(s:af)(m:Except aX (aY×af))(ui:s.gone.length+log.length<=100000)(hC:fM prog aA [11,12,13,14,15,16] [.ptr 15 0,.ptr 16 0] (xI l G log op f0 s) (uR l G log op s m) (uS l G log op m)):
 eI prog 187 [] [.ptr 11 0,.fn (.func aA) [] [.ptr 15 0,.ptr 16 0]] (xI l G log op f0 s) (uT m):=by
 intro e vs hI hv;refine calls_of_wp_defers func187 rfl ?_;have ip:=vS (fn:=f187) (f:=39) (aV:=[]) [] (Nat.le_of_ble_eq_true (by kernel_rfl)) trivial hI hv rfl;refine wp_seq (Code.wp_mono (λ ex a1 w1 hh=>?_) (aP.run (Q:=λ ex M=>ex=.normal/\M=⟨[(6,.ptr 24 0),(5,.ptr 23 0),(4,.ptr 22 0),(2,.ptr 21 0),(0,.ptr 11 0),(1,.fn (.func aA) [] [.ptr 15 0,.ptr 16 0])],(24,[dB false])::(23,[E 0,dB false,E 0,E 0,.p (.sl true 0 [])])::(22,[E 0,E 0,E 0,E 0])::(21,[.ptr 11 0])::xI l G log op f0 s,[]⟩) ?_ _ e ip))
 ·obtain⟨ow,e1,rfl,cM,rfl,rfl⟩:=hh;obtain⟨k1,_,_,b1,_,_⟩:=cM.boxes 21 _ rfl;obtain⟨k2,_,_,b2,_,_⟩:=cM.boxes 22 _ rfl;obtain⟨k3,_,_,b3,_,_⟩:=cM.boxes 23 _ rfl;obtain⟨k4,_,_,b4,_,_⟩:=cM.boxes 24 _ rfl;refine wp_seq (CL cM rfl rfl rfl rfl rfl rfl rfl rfl [(21,k1),(22,k2),(23,k3),(24,k4)] (λ b k J=>?_) (λ a2 c7 dj e9=>?_))
  ·simp only[da] at J;split at J
   ·rename_i q;cases J;rw[<-q];exact b1
   ·split at J
    ·rename_i q;cases J;rw[<-q];exact b2
    ·split at J
     ·rename_i q;cases J;rw[<-q];exact b3
     ·split at J
      ·rename_i q;cases J;rw[<-q];exact b4
      ·cases J
  ·refine Code.wp_mono (λ ex a3 w3 hh=>?_) (aP.run (Γ:=⟨18,e.w,e.cl,λ k=>∃b,e.bx b=some k,[(21,k1),(22,k2),(23,k3),(24,k4)],[{target:=.fn (.func 204) c7.toArray,args:=#[]}]⟩) (Q:=ym m ⟨18,e.w,e.cl,λ k=>∃b,e.bx b=some k,[(21,k1),(22,k2),(23,k3),(24,k4)],[{target:=.fn (.func 204) c7.toArray,args:=#[]}]⟩) ?_ a2 e1 e9)
   ·obtain⟨FG,e3,rfl,iW,hq⟩:=hh;rcases hq with⟨rfl,x,aa,hm,fm⟩|⟨a,rfl,hm,fm⟩
    ·skip
     obtain⟨e4,lj,cq⟩:=fm a3 e3 iW;show Leaves prog f187 a3.tmps _ a3.defers .returning e3.w;rw[cq.df,<-lj];have lb:DReps e4 c7 [.ptr 22 0,.ptr 21 0,.ptr 23 0,.ptr 24 0]:=⟨dj.1,λ i v d hv D=>by
      match i,hv,D with
      |0,hv,D=>cases D;exact fa (dj.2 0 v _ hv rfl) b2 (cq.env.kb 22 k2 rfl)
      |1,hv,D=>cases D;exact fa (dj.2 1 v _ hv rfl) b1 (cq.env.kb 21 k1 rfl)
      |2,hv,D=>cases D;exact fa (dj.2 2 v _ hv rfl) b3 (cq.env.kb 23 k3 rfl)
      |3,hv,D=>cases D;exact fa (dj.2 3 v _ hv rfl) b4 (cq.env.kb 24 k4 rfl)⟩
     refine rX cq (λ a w=>call204 a w) lb rfl (by(repeat(first|exact trivial|refine⟨⟨rfl,rfl⟩,?_⟩))) ⟨.inr rfl,.inr rfl,.inr rfl,.inr rfl,trivial⟩ rfl (by simp) rfl (λ e0 qr A F=>Ar eZ {x with gone:=aa.gone} true A F) (λ aq Z=>by subst Z;exact⟨.inl rfl,.inl rfl,.inl rfl,.inl rfl,trivial⟩) (λ aq e5 Z dS=>?_);subst Z;obtain⟨v,hr,ky⟩:=pJ aD (fn:=f187) (d:=.bd [fC eZ,kj {x with gone:=aa.gone},dB true]) dS rfl;refine⟨v,hr,v,_,[],e5.cut (aI []) λ _=>false,rfl,rfl,⟨rfl,.inl ⟨x,aa,hm,rfl⟩⟩,lT dS trivial,ky.cut rfl,⟨dS.env.kept,dS.env.cl,λ b k J=>?_,λ b Z=>by cases Z⟩⟩;cases J
    ·skip
     obtain⟨e4,lj,cq⟩:=fm a3 e3 iW;show Leaves prog f187 a3.tmps _ a3.defers (.panicking [pe (iK a)]) e3.w;rw[cq.df,<-lj];have lb:DReps e4 c7 [.ptr 22 0,.ptr 21 0,.ptr 23 0,.ptr 24 0]:=⟨dj.1,λ i v d hv D=>by
      match i,hv,D with
      |0,hv,D=>cases D;exact fa (dj.2 0 v _ hv rfl) b2 (cq.env.kb 22 k2 rfl)
      |1,hv,D=>cases D;exact fa (dj.2 1 v _ hv rfl) b1 (cq.env.kb 21 k1 rfl)
      |2,hv,D=>cases D;exact fa (dj.2 2 v _ hv rfl) b3 (cq.env.kb 23 k3 rfl)
      |3,hv,D=>cases D;exact fa (dj.2 3 v _ hv rfl) b4 (cq.env.kb 24 k4 rfl)⟩
     refine rX cq (λ a w=>call204 a w) lb rfl (by(repeat(first|exact trivial|refine⟨⟨rfl,rfl⟩,?_⟩))) ⟨.inr rfl,.inr rfl,.inr rfl,.inr rfl,trivial⟩ rfl (by simp) rfl (λ e0 qr A F=>As eZ a _ rfl false A F) (λ aq Z=>by subst Z;exact⟨.inl rfl,.inl rfl,.inl rfl,.inl rfl,trivial⟩) (λ aq e5 Z dS=>?_);subst Z;obtain⟨v,hr,ky⟩:=pJ aD (fn:=f187) (d:=.bd [fC a,lU mw,dB false]) dS rfl;refine⟨v,hr,v,_,[],e5.cut (aI []) λ _=>false,rfl,rfl,⟨rfl,.inr ⟨a,hm,rfl⟩⟩,lT dS trivial,ky.cut rfl,⟨dS.env.kept,dS.env.cl,λ b k J=>?_,λ b Z=>by cases Z⟩⟩;cases J
   ·refine go ?_;refine Om hC rfl hF rfl rfl rfl (by(repeat(first|exact trivial|refine⟨⟨rfl,rfl⟩,?_⟩))) (by(repeat(first|exact trivial|refine⟨.inr rfl,?_⟩|refine⟨.inl rfl,?_⟩))) rfl rfl rfl rfl ?_ ?_ ?_ ?_
    ·rintro d Y ⟨x,aa,oG,_,_,rfl,rfl⟩;exact⟨.inl rfl,.inl rfl,.inl rfl,.inl rfl,.inl rfl,.inl rfl,trivial⟩
    ·rintro v Y ⟨a,aa,oG,_,rfl,rfl⟩;exact⟨.inl rfl,.inl rfl,.inl rfl,.inl rfl,.inl rfl,.inl rfl,trivial⟩
    ·rintro v Y ⟨a,aa,oG,h,rfl,rfl⟩;refine gP ?_;exact .inr ⟨a,rfl,h,bY.trans (rB 21 rfl rfl) (zX)⟩
    rintro d Y ⟨x,aa,oG,h,pp,rfl,rfl⟩;have Zi:=pp.len;have Zj:=pp.le;refine gA ((pT aa.gone (by omega)).pure) ?_;refine gW 3 [22] ?_;refine go ?_;exact .inl ⟨rfl,x,aa,h,bY.trans (rB 21 rfl rfl) (zX)⟩
 ·refine gE ?_;refine bA 21 ?_;refine nA 22 ?_;refine nA 23 ?_;refine nA 24 ?_;exact kM ⟨rfl,rfl⟩
abbrev sH(r:aX×aY×Bool):K:=.bd [fC r.1,kj r.2.1,dB r.2.2]
set_option maxHeartbeats 8000000 in
theorem EU(l:ah)(hL:cr l)(G:Int)(gone:List (Int×Int))(op:bl)(log:List aF)(fp:eN gone)(gU:gone.length+log.length<=10000):bc prog 150 [dP l,E G,eh gone,JD op,gT log] (sH (dJ l G gone op log)):=by
 generalize I:dJ l G gone op log=aQ;unfold dJ at I;have U:log.length<=1000000:=by omega
 refine sP func150 ntmps150 λ w cl=>?_
 refine gE ?_;refine bA 0 ?_;refine bA 16 ?_;refine nA 2 ?_;refine nA 3 ?_;refine go ?_;generalize A:decide (op.obj<0)=cc;cases cc
 ·have aU:=of_decide_eq_false A;refine go ?_;generalize F:decide (op.obj>=l.size)=cc;cases cc
  ·have bB:=of_decide_eq_false F;rw[if_neg (by omega)] at I;refine go ?_;refine Wu 4 10 rfl rfl (by kernel_rfl) (by kernel_rfl) (by kernel_rfl) (by kernel_rfl) rfl ?_;refine br ?_;refine WL (Db l G gone log) (λ d Y h=>h) rfl (λ a w=>call186 a w) rfl rfl rfl rfl rfl (by(repeat(first|exact trivial|refine⟨rfl,rfl,?_⟩))) ?_;refine w3 ?_;refine w3 ?_;refine w6 ?_;refine sj (FY 14 rfl rfl rfl rfl) rfl rfl rfl rfl ?_;refine sj (wH aD 15 rfl rfl rfl rfl) rfl rfl rfl rfl ?_;refine w5 ?_;refine go ?_;generalize O:decide (op.kind=1)=cc;cases cc
   ·rw[if_neg (of_decide_eq_false O)] at I;refine go ?_;generalize h4:decide (op.kind=2)=cc;cases cc
    ·rw[if_neg (of_decide_eq_false h4)] at I;refine go ?_;generalize h5:decide (op.kind=3)=cc;cases cc
     ·rw[if_neg (of_decide_eq_false h5)] at I;refine gA (tz gone (by omega)) ?_;refine ez ?_;rw[<-I]
     ·rw[if_pos (of_decide_eq_true h5)] at I;refine go ?_;refine il (Ms _ (λ a w=>call192 a w) l G log op yH ⟨0,gone,0,0,0⟩ _ (by simp only;omega) (abX l hL G log op yH ⟨0,gone,0,0,0⟩ fp (by simp only;omega) (Nat.zero_le _) U)) rfl (λ a w=>call187 a w) rfl rfl (by(repeat(first|exact trivial|refine⟨⟨rfl,rfl⟩,?_⟩))) trivial rfl rfl rfl rfl ?_ ?_
      ·rintro d Y ⟨rfl,_⟩;exact trivial
      rintro d Y ⟨rfl,⟨x,aa,hm,rfl⟩|⟨a,hm,rfl⟩⟩
      ·rw[hm] at I;refine gf ?_;rw[<-I];rfl
      ·rw[hm] at I;refine gf ?_;rw[<-I];rfl
    ·rw[if_pos (of_decide_eq_true h4)] at I;refine go ?_;refine il (Ms _ (λ a w=>call190 a w) l G log op yH ⟨0,gone,0,0,0⟩ _ (by simp only;omega) (acl l hL G log op yH ⟨0,gone,0,0,0⟩ fp (by simp only;omega) (Nat.zero_le _) U)) rfl (λ a w=>call187 a w) rfl rfl (by(repeat(first|exact trivial|refine⟨⟨rfl,rfl⟩,?_⟩))) trivial rfl rfl rfl rfl ?_ ?_
     ·rintro d Y ⟨rfl,_⟩;exact trivial
     rintro d Y ⟨rfl,⟨x,aa,hm,rfl⟩|⟨a,hm,rfl⟩⟩
     ·rw[hm] at I;refine gf ?_;rw[<-I];rfl
     ·rw[hm] at I;refine gf ?_;rw[<-I];rfl
   ·rw[if_pos (of_decide_eq_true O)] at I;refine go ?_;refine il (Ms _ (λ a w=>call188 a w) l G log op yH ⟨0,gone,0,0,0⟩ _ (by simp only;omega) (aca l hL G log op yH ⟨0,gone,0,0,0⟩ fp (by simp only;omega) (Nat.zero_le _) U)) rfl (λ a w=>call187 a w) rfl rfl (by(repeat(first|exact trivial|refine⟨⟨rfl,rfl⟩,?_⟩))) trivial rfl rfl rfl rfl ?_ ?_
    ·rintro d Y ⟨rfl,_⟩;exact trivial
    rintro d Y ⟨rfl,⟨x,aa,hm,rfl⟩|⟨a,hm,rfl⟩⟩
    ·rw[hm] at I;refine gf ?_;rw[<-I];rfl
    ·rw[hm] at I;refine gf ?_;rw[<-I];rfl
  ·have bB:=of_decide_eq_true F;rw[if_pos (by omega)] at I;refine gA (tz gone (by omega)) ?_;refine ez ?_;rw[<-I]
 ·have aU:=of_decide_eq_true A;rw[if_pos (by omega)] at I;refine gA (tz gone (by omega)) ?_;refine ez ?_;rw[<-I]
end Go.Proofs.YtcnefjfboagbmaaGreat
