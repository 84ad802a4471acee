/- Cells of a memory, rows that are the same, numbers in a row: their walks. -/
import Derived.Test.YtcnefjfboagbmaaGreatWA
import Derived.Test.YtcnefjfboagbmaaGreatLB
import Derived.Test.YtcnefjfboagbmaaGreatPA
import Derived.Test.YtcnefjfboagbmaaGreatWB
namespace Go.Proofs.YtcnefjfboagbmaaGreat
open Go.Proofs.Tryz
open Go.RowKit
set_option maxRecDepth 100000
theorem xv{xs:List Int}{i:Int}(h0:0<=i)(h:i<xs.length):xs[i.toNat]?=some (ef xs i):=by
 have:i.toNat<xs.length:=by omega
 simp[ef,this]
theorem p9(xs:List Int)(i:Int):aX prog 93 [jl xs,u i] (u (bv xs i)):=by
 generalize E:bv xs i=aJ;unfold bv at E;refine sP func93 ntmps93 λ w cl=>?_
 refine go ?_;generalize h1:decide (i<0)=cc;cases cc
 ·have aP:=of_decide_eq_false h1;refine go ?_;generalize A:decide ((xs.length:Int)<=i)=cc;cases cc
  ·have bs:=of_decide_eq_false A;rw[if_neg (by omega)] at E;have hg:=xv (xs:=xs) (i:=i) (by omega) (by omega);refine go ?_;refine ai [pI (ef xs i)] (gk hg) ?_;refine gf ?_;rw[<-E]
  ·rw[if_pos (.inr (of_decide_eq_true A))] at E;refine gf ?_;rw[<-E]
 ·rw[if_pos (.inl (of_decide_eq_true h1))] at E;refine gf ?_;rw[<-E]
theorem NA(xs:List Int)(i:Int):aX prog 50 [jl xs,u i] (u (bv xs i)):=by
 generalize E:bv xs i=aJ;unfold bv at E;refine sP func50 ntmps50 λ w cl=>?_
 refine go ?_;generalize h1:decide (i<0)=cc;cases cc
 ·have aP:=of_decide_eq_false h1;refine go ?_;generalize A:decide ((xs.length:Int)<=i)=cc;cases cc
  ·have bs:=of_decide_eq_false A;rw[if_neg (by omega)] at E;have hg:=xv (xs:=xs) (i:=i) (by omega) (by omega);refine go ?_;refine ai [pI (ef xs i)] (gk hg) ?_;refine gf ?_;rw[<-E]
  ·rw[if_pos (.inr (of_decide_eq_true A))] at E;refine gf ?_;rw[<-E]
 ·rw[if_pos (.inl (of_decide_eq_true h1))] at E;refine gf ?_;rw[<-E]
theorem QJ(a b:List Int)(ha:a.length<=1000000000):aX prog 16 [bq a,bq b] (dB (decide (a=b))):=by
 refine sP func16 ntmps16 λ w cl=>?_
 refine go ?_;generalize h1:decide ((a.length:Int)=b.length)=cc;cases cc
 ·refine gf ?_;have aP:=of_decide_eq_false h1;have:¬a=b:=λ e=>aP (by rw[e])
  simp[this]
 ·refine go ?_;have r8:=of_decide_eq_true h1;refine bW (λ n:Nat=>n<=a.length/\a.take n=b.take n) (λ n=>⟨[(5,u n),(0,bq a),(1,bq b)],[],[]⟩) (λ n=>a.length-n) 0 ⟨by omega,by simp⟩ (zX) ?_;rintro n ⟨hn,JD⟩;refine go ?_;refine cN (λ A=>?_) (λ A=>?_)<;>try rw[A]
  ·have ba:=of_decide_eq_true A;obtain⟨x,O⟩:=l8 (l:=a) (i:=n) (by omega) ba;obtain⟨y,hy⟩:=l8 (l:=b) (i:=n) (by omega) (by omega);refine go ?_;refine gD [] ?_;refine ri [pI x] (gk O) ?_;refine bh ?_;refine ri [pI y] (gk hy) ?_;refine qg ?_;simp only[Int.toNat_natCast] at O hy;generalize K:decide (x=y)=cc;cases cc
   ·refine gf ?_;have dc:=of_decide_eq_false K;have:¬a=b:=λ e=>dc (by rw[e,hy] at O;cases O;rfl)
    simp[this]
   ·refine go ?_;have dc:=of_decide_eq_true K;refine⟨n+1,⟨by omega,?_⟩,by omega,zX⟩;rw[List.take_add_one,List.take_add_one,JD,O,hy,dc]
  ·refine gf ?_;have fB:=of_decide_eq_false A;rw[List.take_of_length_le (by omega),List.take_of_length_le (by omega)] at JD;simp[JD]
theorem QE(a:List Int)(v:Int)(ha:a.length<=1000000000):aX prog 98 [bq a,u v] (dB (decide (v∈a))):=by
 refine sP func98 ntmps98 λ w cl=>?_
 refine go ?_;refine bW (λ n:Nat=>n<=a.length/\v∉a.take n) (λ n=>⟨[(5,u n),(0,bq a),(1,u v)],[],[]⟩) (λ n=>a.length-n) 0 ⟨by omega,by simp⟩ (zX) ?_;rintro n ⟨hn,gV⟩;refine go ?_;refine cN (λ A=>?_) (λ A=>?_)<;>try rw[A]
 ·have ba:=of_decide_eq_true A;obtain⟨x,O⟩:=l8 (l:=a) (i:=n) (by omega) ba;refine go ?_;refine ai [pI x] (gk O) ?_;refine go ?_;simp only[Int.toNat_natCast] at O;generalize K:decide (x=v)=cc;cases cc
  ·refine go ?_;have dc:=of_decide_eq_false K;refine⟨n+1,⟨by omega,?_⟩,by omega,zX⟩;rw[List.take_add_one,O];simp only[Option.toList_some,List.mem_append,List.mem_singleton,not_or];exact⟨gV,λ e=>dc e.symm⟩
  ·refine gf ?_;have dc:=of_decide_eq_true K;have:v∈a:=by rw[<-dc];exact List.mem_of_getElem? O
   simp[this]
 ·refine gf ?_;have fB:=of_decide_eq_false A;rw[List.take_of_length_le (by omega)] at gV;simp[gV]
theorem vi(n:Int)(b:Bool):aX prog 96 [u n,dB b] (u (if b then n else-1)):=by
 refine sP func96 ntmps96 λ w cl=>?_
 refine go ?_;cases b
 ·refine gf ?_
  rfl
 ·refine gf ?_
  rfl
theorem qE(n a b:Int):aX prog 63 [u n,u a,u b] (dB (decide (a<=n)&&decide (n<=b))):=by
 refine sP func63 ntmps63 λ w cl=>?_
 refine go ?_;generalize h1:decide (a<=n)=cc;cases cc
 ·refine gf ?_
  rfl
 ·refine gf ?_
  rfl
theorem aay(n:Nat)(hn:n<=100000):aX prog 28 [u n] (jl (List.replicate n 0)):=by
 refine sP func28 ntmps28 λ w cl=>?_
 refine go ?_;refine Ca (aat aB 1 (c:=n) rfl rfl rfl rfl rfl rfl rfl rfl rfl (by show _*8<=_;omega) (by unfold maxLen;omega)) rfl rfl rfl rfl ?_;refine oL (I7 4 1 (bb (List.replicate n 0)) rfl rfl rfl rfl (by simp) (Nat.le_refl _) (by rw[sF];simp) (by rw[List.take_of_length_le (by simp)];simp[bb];exact .inr rfl) (by unfold maxLen;omega) (KB _)) ?_;refine gf ?_;simp only[jl,bq,List.length_replicate]
theorem La{l:ag}(Z:ca l){n i:Int}(X:0<=i/\i<8):0<=aE l n i↔1<=n/\n<=l.nodes:=by
 have h1:=Z.node.1;unfold aE kZ;split
 ·omega
 ·split<;>omega
structure aez(n:Int):Prop where
 lo:-9223372036854775808<=n
 X:n<9223372036854775808
set_option maxHeartbeats 4000000 in
theorem wI(l:ag)(Z:ca l)(m:List Int)(h:Int):aX prog 45 [dD l,jl m,u h] (bq (fp l m h)):=by
 generalize E:fp l m h=aJ;unfold fp at E;obtain⟨lR,ib⟩:=Z.nodes;refine sP func45 ntmps45 λ w cl=>?_
 refine qa ?_;refine vL ?_;refine hZ ?_;refine nf ?_;refine qa ?_;refine vL ?_;refine hZ ?_;refine nf ?_;refine dO (kF 7 0 3 1 rfl rfl rfl) ?_;refine Iq rfl rfl rfl rfl rfl rfl rfl rfl λ r=>?_
 refine rl (o8 λ aI bz cb X=>?_);refine gA (p9 m h) ?_;refine cA (kB (bv m h)) ?_;refine go ?_;refine m7 ?_;refine rl (Bd ?_);generalize hn:(ay (bv m h)).idx=n0 at E;have Dk:n0<65536:=by rw[<-hn];exact(lj (bv m h)).2
 refine K3 (λ p:Nat×List Int×Int=>p.1+p.2.1.length=l.nodes.toNat+1/\p.2.1.Nodup/\(∀x∈p.2.1,1<=x/\x<=l.nodes)/\p.2.2<65536/\ko (λ n=>(ay (bv m (aE l n 0))).idx) l.nodes p.1 p.2.1 p.2.2=aJ) (λ p=>⟨[(8,.p (.raw (.map (some r)))),(9,u p.2.2),(7,.aW 0 p.2.1.length (bb p.2.1)),(3,.ptr 0 0),(4,.ptr 1 0)],[(1,[bq m]),(0,cn l)],[(0,⟨3,1,p.2.1.length⟩)]⟩) (λ p=>p.2.1) (λ p=>p.1) (l.nodes.toNat+1,[],n0) ⟨by simp,List.nodup_nil,by simp,Dk,E⟩ rfl (λ aI bz cb=>zX) ?_;rintro⟨k,acc,n⟩ ⟨I,hnd,cT,iu,E⟩;simp only at I hnd cT iu E;have ci:=wJ l.nodes.toNat acc hnd (λ x O=>by have:=cT x O;omega);obtain⟨k,rfl⟩:∃j,k=j+1:=⟨k-1,by omega⟩;rw[ko] at E;refine(show p4 _ _ _ _ _ acc ⟨[(8,.p (.raw (.map (some r)))),(9,u n),(7,.aW 0 acc.length (bb acc)),(3,.ptr 0 0),(4,.ptr 1 0)],[(1,[bq m]),(0,cn l)],[(0,⟨3,1,acc.length⟩)]⟩ from ?_);refine rl (o8 λ aI bz cb X=>?_);refine gA (j7 l Z n 0 (by omega) (by omega)) ?_;have rf:=La Z (n:=n) (i:=0) (by omega);generalize A:decide (aE l n 0>=0)=cc;cases cc
 ·have bs:=of_decide_eq_false A;rw[if_neg (λ hh=>bs (rf.2 ⟨hh.1,hh.2.1⟩))] at E;refine go ?_;refine rk (rk (Ba (m7 (o8 λ aI bz cb X=>?_))));refine gf ?_;rw[<-E]
 ·have bs:=rf.1 (of_decide_eq_true A);refine go ?_;refine Ii aB X rfl underlying125 underlying3 rfl rfl rfl rfl rfl rfl rfl ?_;refine go ?_;generalize K:decide (n∈acc)=cc;cases cc
  ·have dc:=of_decide_eq_false K;rw[if_pos ⟨bs.1,bs.2,dc⟩] at E;refine go ?_;refine m7 ?_;refine Bd (rl (K4 ?_));refine A8 aB rfl rfl rfl rfl ?_;refine A8 aB rfl rfl rfl rfl ?_;refine K0 rfl rfl underlying125 underlying3 rfl rfl rfl rfl dc ?_;refine KZ (m7 (o8 λ aI bz cb X=>?_));refine go ?_;refine pA rfl ?_;rw[ow,show acc.length+1=(acc++[n]).length by simp];refine go ?_;refine dQ [] ?_;refine gQ (j7 l Z n 0 (by omega) (by omega)) ?_;refine cQ (p9 m (aE l n 0)) ?_;refine gQ (kB (bv m (aE l n 0))) ?_;refine go ?_;refine K2 (m7 ?_);exact⟨(k,acc++[n],(ay (bv m (aE l n 0))).idx),⟨by simp;omega,by
    rw[List.nodup_append];exact⟨hnd,by simp,λ a ha b T=>by simp at T;subst T;exact λ e=>dc (e▸ha)⟩,λ x O=>by
    simp only[List.mem_append,List.mem_singleton] at O;rcases O with O|rfl
    ·exact cT x O
    ·exact bs,(lj _).2,E⟩,by simp only;omega,rfl,λ aI bz cb=>zX⟩
  ·rw[if_neg (λ hh=>hh.2.2 (of_decide_eq_true K))] at E;refine go ?_;refine rk (rk (Ba (m7 (o8 λ aI bz cb X=>?_))));refine gf ?_;rw[<-E]
theorem Cn{nx:Int->Int}{N:Int}:∀(k:Nat)(acc:List Int)(n:Int),(ko nx N k acc n).length<=acc.length+k
 |0,acc,n=>by simp[ko]
 |k+1,acc,n=>by
  rw[ko];split
  ·have:=Cn (nx:=nx) (N:=N) k (acc++[n]) (nx n);simp at this;omega
  ·omega
theorem rm(l:ag)(m:List Int)(h:Int):(fp l m h).length<=l.nodes.toNat+1:=by
 have:=Cn (nx:=λ n=>(ay (bv m (aE l n 0))).idx) (N:=l.nodes) (l.nodes.toNat+1) [] (ay (bv m h)).idx
 simpa[fp] using this
theorem E0{nx:Int->Int}{N:Int}:∀(k:Nat)(acc:List Int)(n:Int),(∀x∈acc,1<=x/\x<=N)->∀x∈ko nx N k acc n,1<=x/\x<=N
 |0,acc,n,h=>by simpa[ko] using h
 |k+1,acc,n,h=>by
  rw[ko];split
  ·rename_i L;exact E0 k (acc++[n]) (nx n) (λ x O=>by
    simp only[List.mem_append,List.mem_singleton] at O;rcases O with O|rfl
    ·exact h x O
    ·exact⟨L.1,L.2.1⟩)
  ·exact h
theorem D4(l:ag)(m:List Int)(h:Int):∀x∈fp l m h,1<=x/\x<=l.nodes:=E0 _ _ _ (by simp)
def jG(l:ag)(m:List Int)(aC:List Int):List (Int×Int):=(aC.filter λ n=>!(ay (bv m (aE l n 0))).mark).map λ n=>(bv m (aE l n 1),bv m (aE l n 2))
theorem LU(l:ag)(m:List Int)(aC:List Int):(jG l m aC).length<=aC.length:=by unfold jG;rw[List.length_map];exact List.length_filter_le _ _
theorem LV(l:ag)(m:List Int)(aC:List Int)(n:Int):jG l m (aC++[n])=if(ay (bv m (aE l n 0))).mark=true then jG l m aC else jG l m aC++[(bv m (aE l n 1),bv m (aE l n 2))]:=by
 unfold jG;rw[List.filter_append,List.map_append];split
 ·rename_i h;simp[h]
 ·rename_i h;simp[h]
set_option maxHeartbeats 4000000 in
theorem En(l:ag)(Z:ca l)(m:List Int)(h:Int):aX prog 82 [dD l,jl m,u h] (d7 (nh l m h)):=by
 have xU:=D4 l m h;have n3:=rm l m h;have hC:=wI l Z m h;have E:nh l m h=jG l m (fp l m h):=rfl;rw[E];obtain⟨lR,ib⟩:=Z.nodes;generalize fp l m h=ns at*;refine sP func82 ntmps82 λ w cl=>?_
 refine gA hC ?_;refine dO (kF 7 0 110 2 rfl rfl rfl) ?_;refine bW (λ i:Nat=>i<=ns.length) (λ i=>⟨[(15,u i),(14,u ns.length),(13,bq ns),(7,.aW 0 (jG l m (ns.take i)).length (gL (jG l m (ns.take i)))),(3,.ptr 0 0),(4,.ptr 1 0)],[(1,[bq m]),(0,cn l)],[(0,⟨110,2,(jG l m (ns.take i)).length⟩)]⟩) (λ i=>ns.length-i) 0 (by omega) (zX) ?_;intro i X;refine go ?_;refine cN (λ h1=>?_) (λ h1=>?_)<;>try rw[h1]
 ·have aP:=of_decide_eq_true h1;obtain⟨n,hn⟩:=l8 (l:=ns) (i:=i) (by omega) aP;have lh:=hn;simp only[Int.toNat_natCast] at lh;have fK:=xU n (List.mem_of_getElem? lh);have gX:=LV l m (ns.take i) n;have sr:=LU l m (ns.take i);rw[List.length_take] at sr;rw[show ns.take i++[n]=ns.take (i+1) by rw[List.take_add_one,lh];rfl] at gX;generalize jG l m (ns.take i)=al at*;refine go ?_;refine ai [pI n] (gk hn) ?_;refine go ?_;refine dQ [] ?_;refine gQ (j7 l Z n 0 (by omega) (by omega)) ?_;refine cQ (p9 m (aE l n 0)) ?_;refine gQ (kB (bv m (aE l n 0))) ?_;refine go ?_;generalize ye:(ay (bv m (aE l n 0))).mark=mk at*;cases mk
  ·rw[if_neg (by decide)] at gX;refine go ?_;refine dQ [] ?_;refine gQ (j7 l Z n 1 (by omega) (by omega)) ?_;refine cQ (p9 m (aE l n 1)) ?_;refine gQ (j7 l Z n 2 (by omega) (by omega)) ?_;refine cQ (p9 m (aE l n 2)) ?_;refine bh ?_;refine vg aB rfl rfl rfl rfl rfl rfl rfl rfl rfl rfl rfl rfl rfl (by unfold maxLen;omega) (by show(_+_)*16<=_;omega) ?_;rw[show gL al++[pI (bv m (aE l n 1)),pI (bv m (aE l n 2))]=gL (al++[(bv m (aE l n 1),bv m (aE l n 2))]) by simp[gL,Bo],show al.length+1=(al++[(bv m (aE l n 1),bv m (aE l n 2))]).length by simp,<-gX];refine qg ?_;exact⟨i+1,by omega,by omega,zX⟩
  ·rw[if_pos rfl] at gX;refine go ?_;exact⟨i+1,by omega,by omega,by rw[gX];exact zX⟩
 ·have aP:i=ns.length:=by have:=of_decide_eq_false h1;omega
  rw[aP,List.take_length];refine gf ?_
  rfl
section
variable{P:Program}{ae:Nat->Option TI}{Γ:bI}{J bc:St}
theorem VO(hs:vD J bc bc.s)(T:vz J bc bc.b)(hg:vB J bc.g)(dI:vC bc Γ.kb){a:Act}{e:aA}(L:bu Γ J e a):bu Γ bc (e.cut (aF bc.b) (aF bc.g)) a:=by
 have fC:∀g,aF bc.g g=true->∃au,e.gi g=some au/\kv bc.g g=some au:=λ g h=>by
  unfold aF at h;obtain⟨au,hG⟩:=Option.isSome_iff_exists.1 h;exact⟨au,by rw[L.gs];exact hg.get hG,hG⟩
 refine⟨L.size,L.df,λ t d ht=>(L.bP t d (hs.get ht).1).cut (hs.get ht).2,λ b cs cH=>?_,λ b i7=>?_,λ g=>?_,L.env.kept,L.env.cl,λ b k I=>?_,λ b c k h1 A=>?_,λ k g I=>?_,λ b k I=>?_⟩
 ·obtain⟨k,vs,el,h1,A,K⟩:=L.boxes b cs (T.get cH).1;refine⟨k,vs,el,?_,A,K.1,λ i v d hv F=>(K.2 i v d hv F).cut (qD (T.get cH).2 F)⟩;show(if aF bc.b b=true then e.bx b else none)=_;rw[if_pos (by simp[aF,cH])];exact h1
 ·show(if aF bc.b b=true then e.bx b else none)=_;rw[if_neg (by simp[aF,i7])]
 ·show(if aF bc.g g=true then e.gi g else none)=_;cases R:kv bc.g g with
  |none=>rw[if_neg (by simp[aF,R])]
  |some au=>rw[if_pos (by simp[aF,R]),L.gs];exact hg.get R
 ·have dv:(if aF bc.b b=true then e.bx b else none)=some k:=I;split at dv
  ·obtain⟨h1,A,K,h4⟩:=L.env.bx b k dv;refine⟨h1,A,K,?_⟩;show(match e.gr k with|some g=>if aF bc.g g=true then some g else none|none=>none)=none;rw[h4]
  ·cases dv
 ·have aP:(if aF bc.b b=true then e.bx b else none)=some k:=h1;have bs:(if aF bc.b c=true then e.bx c else none)=some k:=A;split at aP
  ·split at bs
   ·exact L.env.inj b c k aP bs
   ·cases bs
  ·cases aP
 ·have dv:(match e.gr k with|some g=>if aF bc.g g=true then some g else none|none=>none)=some g:=I;rcases ja:e.gr k with _|g0
  ·rw[ja] at dv;cases dv
  ·rw[ja] at dv;simp only at dv;split at dv
   ·rename_i dz;cases dv;obtain⟨au,cur,h1,A⟩:=L.env.gr k g ja;exact⟨au,cur,by show(if aF bc.g g=true then e.gi g else none)=_;rw[if_pos dz];exact h1,A⟩
   ·cases dv
 ·show(if aF bc.b b=true then e.bx b else none)=_;rw[if_pos (dI.get I)];exact L.env.kb b k I
end
section
variable{Γ:bI}{s xm:List (Nat×G)}{b ph:List (Nat×List G)}{g qM:List (Nat×Gr)}
theorem Ok(nb j nm:Nat){n c sz:Nat}{cs mH lw zs:List G}(ps:List Pl)(fK:kv b nb=some mH)(hj:mH[j]?=some (.arr nm 0 n c))(T:kv b nm=some cs)(F:mH.set j .any=lw)(bR:lw.set j (.p (.sl false n ps))=zs)
 (hs:vD ⟨s,(nb,lw)::b,g⟩ ⟨xm,(nb,lw)::ph,qM⟩ xm)(qZ:vz ⟨s,(nb,lw)::b,g⟩ ⟨xm,(nb,lw)::ph,qM⟩ ((nb,lw)::ph))(nX:vB ⟨s,(nb,lw)::b,g⟩ qM)(dI:vC ⟨xm,(nb,lw)::ph,qM⟩ Γ.kb)(mW:kv ((nb,lw)::ph) nm=none)
 (cH:cs.length=c*sz)(tI:n<=c)(cO:ps.length=n*sz)(n9:cs.take (n*sz)=ps.map G.p)(h3:c<=maxLen)(x8:∀x∈ps,x.lf=true):bN Γ ⟨s,b,g⟩ ⟨xm,(nb,zs)::ph,qM⟩:=by
 intro a e L;obtain⟨k0,pW,ql,qT,zZ,te⟩:=L.boxes _ _ fK;have hw:bu Γ ⟨s,(nb,lw)::b,g⟩ e a:=by
  refine⟨L.size,L.df,L.bP,λ af d hu=>?_,λ af hu=>?_,L.gs,L.env⟩
  ·simp only[cM] at hu;split at hu
   ·rename_i lE;subst lE;cases hu;refine⟨k0,pW,ql,qT,zZ,by rw[<-F,List.length_set];exact te.1,λ i v d hv i9=>?_⟩;rw[<-F,List.getElem?_set] at i9;split at i9
    ·split at i9
     ·cases i9;exact .any
     ·cases i9
    ·exact te.2 i v d hv i9
   ·exact L.boxes af d hu
  ·simp only[cM] at hu;split at hu
   ·cases hu
   ·exact L.ei af hu
 have uz:=VO (bc:=⟨xm,(nb,lw)::ph,qM⟩) hs qZ nX dI hw;obtain⟨k,vs,el,A,K,h4⟩:=L.boxes nm cs T;have i8:=L.env.bx nm k A;have dm:∀x,(e.cut (aF ((nb,lw)::ph)) (aF qM)).bx x≠some k:=λ x O=>by
  have fD:(if aF ((nb,lw)::ph) x=true then e.bx x else none)=some k:=O;split at fD
  ·rename_i cE;have tM:=L.env.inj _ _ _ fD A;subst tM;unfold aF at cE;rw[mW] at cE;cases cE
  ·cases fD
 have uD:(e.cut (aF ((nb,lw)::ph)) (aF qM)).gr k=none:=by show(match e.gr k with|some g=>if aF qM g=true then some g else none|none=>none)=none;rw[i8.2.2.2]
 obtain⟨h5,E⟩:=uz.xw (n*sz) i8.2.1 i8.2.2.1 uD dm;refine⟨{e.cut (aF ((nb,lw)::ph)) (aF qM) with cl:=λ j=>if j=k then some (n*sz) else(e.cut (aF ((nb,lw)::ph)) (aF qM)).cl j},rfl,h5.size,h5.df,h5.bP,λ af d hu=>?_,λ af hu=>?_,h5.gs,h5.env⟩
 ·simp only[cM] at hu;split at hu
  ·rename_i lE;subst lE;cases hu;obtain⟨k1,aea,VX,g1,g2,g3⟩:=h5.boxes nb lw (by simp[cM]);have Fq:(if aF ((nb,lw)::ph) nb=true then e.bx nb else none)=some k1:=g1;have I:k1=k0:=by
    split at Fq
    ·rw[qT] at Fq;cases Fq;rfl
    ·cases Fq
   subst I;have Ou:e.w.heap[k1]?=some (.cells aea.toArray VX (0,0)):=g2;rw[zZ] at Ou;cases Ou;refine⟨k1,pW,ql,g1,g2,by rw[<-bR,List.length_set];exact g3.1,λ i v d hv i9=>?_⟩;rw[<-bR,List.getElem?_set] at i9;split at i9
   ·rename_i iB;subst iB;split at i9
    ·cases i9;have h1:=te.2 _ v _ hv hj;have ci:vs.length=c*sz:=by rw[h4.1,cH]
     have ir:=Nat.mul_le_mul_right sz tI;have bF:=Ls h4 (by rw[cO];exact n9);cases h1 with
     |arr I=>
      rw[A] at I;cases I;refine .p (BE tI h3 (λ h=>by cases h) (λ h=>by cases h) (.inr ⟨k,0,rfl,λ j=>vs.getD j undef,λ j x O=>?_⟩));have hj:=(List.getElem?_eq_some_iff.1 O).1;have eF:j<vs.length:=by omega
      have pC:vs.getD j undef=vs[j]:=by simp[eF]
      have hu:vs[j]?=some vs[j]:=List.getElem?_eq_getElem eF;have hr:=bF j _ x hu O;show aA.np _ k (0+j)/\World.cell? _ ⟨k,0+j,none⟩=some (vs.getD j undef)/\lX (vs.getD j undef)=true/\db _ (vs.getD j undef) x;rw[pC,Nat.zero_add];refine⟨λ q hq=>?_,?_,KP hr (x8 x (List.mem_of_getElem? O)),(hr.cut).next E⟩
      ·have jW:(if k=k then some (n*sz) else e.cl k)=some q:=hq;rw[if_pos rfl] at jW;cases jW;omega
      ·show e.w.cell? _=_;rw[cell_of_row e.w k j vs.toArray el (0,0) K,List.getElem?_toArray];exact hu
    ·cases i9
   ·exact g3.2 i v d hv i9
  ·exact h5.boxes af d (by simp only[cM];rw[if_neg (by assumption)];exact hu)
 ·simp only[cM] at hu;split at hu
  ·cases hu
  ·exact h5.ei af (by simp only[cM];rw[if_neg (by assumption)];exact hu)
end
theorem Ef(m n:Int)(hn:0<n)(T:n<4611686018427387904):aX prog 95 [u m,u n] (u (m%n)):=by
 have h:=adW m n hn;have h0:=Int.emod_nonneg m (show n≠0 by omega);have h1:=Int.emod_lt_of_pos m hn;refine sP func95 ntmps95 λ w cl=>?_
 refine go ?_;refine bn (acN rfl rfl rfl hn) rfl rfl rfl ?_;generalize m.tmod n=k at h;refine go ?_;generalize A:decide (k<0)=cc;cases cc
 ·have bs:=of_decide_eq_false A;refine gf ?_;rw[h.2 bs]
 ·have bs:=of_decide_eq_true A;have K:=h.1 bs;refine gf ?_;rw[<-K]
theorem acJ(n:Int):aX prog 49 [u n] (xE (ay n)):=by
 have h0:=Int.emod_nonneg n (show(35184372088832:Int)≠0 by omega);have h1:=Int.emod_lt_of_pos n (show(0:Int)<35184372088832 by omega);have E:ay n=⟨n%35184372088832%65536,decide (n%35184372088832/65536%2=1),n%35184372088832/131072⟩:=by
  unfold ay
  congr 1
  ·omega
  ·rw[decide_eq_decide];omega
  ·omega
 rw[E];refine sP func49 ntmps49 λ w cl=>?_
 refine go ?_;refine cA (Ef n 35184372088832 (by omega) (by omega)) ?_;generalize n%35184372088832=k at*;refine Ag ?_;refine bn (LF rfl rfl rfl (by omega) (by omega) (by omega)) rfl rfl rfl ?_;refine Ag ?_;refine bn (LF rfl rfl rfl (by omega) (by omega) (by omega)) rfl rfl rfl ?_;refine Ag ?_;refine d8 ?_
 rfl
theorem vj(l:ag)(Z:ca l)(n i:Int)(X:0<=i/\i<=7):aX prog 53 [dD l,u n,u i] (u (aE l n i)):=by
 obtain⟨a1,a2⟩:=Z.node;obtain⟨b1,b2⟩:=Z.nodes;have E:aE l n i=if(decide (1<=n)&&decide (n<=l.nodes)) then IntKind.i64.wrap (IntKind.i64.wrap (l.node+IntKind.i64.wrap (8*IntKind.i64.wrap (n-1)))+i) else-1:=by
  unfold aE kZ;split
  ·rw[if_neg];simp only[Bool.and_eq_true,decide_eq_true_eq];omega
  ·split
   ·rw[if_neg];simp only[Bool.and_eq_true,decide_eq_true_eq];omega
   ·rw[if_pos (by simp only[Bool.and_eq_true,decide_eq_true_eq];omega)];rw[eI (n:=n-1) (by omega) (by omega),eI (n:=8*(n-1)) (by omega) (by omega),eI (n:=l.node+8*(n-1)) (by omega) (by omega),eI (by omega) (by omega)];omega
 have dz:(decide (0<=i)&&decide (i<=7))=true:=by simp only[Bool.and_eq_true,decide_eq_true_eq];omega
 rw[E];refine sP func53 ntmps53 λ w cl=>?_
 refine go ?_
 by_cases h0:1<=n/\n<=l.nodes
 ·have L:(decide (1<=n)&&decide (n<=l.nodes))=true:=by simp only[Bool.and_eq_true,decide_eq_true_eq];omega
  have e1:=eI (n:=n-1) (by omega) (by omega);have e2:=eI (n:=8*(n-1)) (by omega) (by omega);have e3:=eI (n:=l.node+8*(n-1)) (by omega) (by omega);have e4:=eI (n:=l.node+8*(n-1)+i) (by omega) (by omega);rw[L,e1,e2,e3,e4];refine gD [] ?_;rw[e2];refine bh ?_;refine cQ (qE n 1 l.nodes) ?_;rw[L];refine bh ?_;refine cQ (qE i 0 7) ?_;rw[dz];refine gQ (vi _ true) ?_;refine gf ?_
  rfl
 ·have L:(decide (1<=n)&&decide (n<=l.nodes))=false:=by rw[Bool.eq_false_iff];simp only[ne_eq,Bool.and_eq_true,decide_eq_true_eq];omega
  rw[L];refine gD [] ?_;refine cQ (qE n 1 l.nodes) ?_;rw[L];refine gQ (vi _ false) ?_;refine gf ?_
  rfl
theorem Sn(l:ag)(Z:ca l)(hM:kh l)(m i:Int)(X:0<=i/\i<=1):aX prog 77 [dD l,u m,u i] (u (hl l m i)):=by
 obtain⟨a1,a2⟩:=Z.map;obtain⟨b1,b2⟩:=hM.m;obtain⟨c1,c2⟩:=hM.b;have dz:(decide (0<=i)&&decide (i<=1))=true:=by simp only[Bool.and_eq_true,decide_eq_true_eq];omega
 by_cases h0:0<=m/\m<=l.maps-1
 ·have ml:0<=(l.buckets+2)*m:=Int.mul_nonneg (by omega) (by omega);have ky:(l.buckets+2)*m<=66*1000000:=Int.mul_le_mul (by omega) (by omega) (by omega) (by omega);have E:hl l m i=l.map+(l.buckets+2)*m+i:=by
   unfold hl kZ;rw[if_neg (by omega),if_neg (by omega),show m*(2+l.buckets)=(l.buckets+2)*m by rw[Int.mul_comm,Int.add_comm]]
  have L:(decide (0<=m)&&decide (m<=l.maps-1))=true:=by simp only[Bool.and_eq_true,decide_eq_true_eq];omega
  have e2:=eI (n:=(l.buckets+2)*m) (by omega) (by omega);rw[E];refine sP func77 ntmps77 λ w cl=>?_
  refine go ?_;refine gD [] ?_;rw[e2];refine bh ?_;refine cQ (qE m 0 (l.maps-1)) ?_;rw[L];refine bh ?_;refine cQ (qE i 0 1) ?_;rw[dz];refine gQ (vi _ true) ?_;refine gf ?_
  rfl
 ·have E:hl l m i=-1:=by
   unfold hl kZ;rw[if_neg (by omega),if_pos (by omega)]
  have L:(decide (0<=m)&&decide (m<=l.maps-1))=false:=by rw[Bool.eq_false_iff];simp only[ne_eq,Bool.and_eq_true,decide_eq_true_eq];omega
  rw[E];refine sP func77 ntmps77 λ w cl=>?_
  refine go ?_;refine gD [] ?_;refine cQ (qE m 0 (l.maps-1)) ?_;rw[L];refine gQ (vi _ false) ?_;refine gf ?_
  rfl
theorem acG(l:ag)(Z:ca l)(hM:kh l)(m b:Int)(hm:0<=m/\m<=l.maps-1)(T:0<=b/\b<=l.buckets-1):aX prog 51 [dD l,u m,u b] (u (hL l m b)):=by
 obtain⟨a1,a2⟩:=Z.map;obtain⟨b1,b2⟩:=hM.m;obtain⟨c1,c2⟩:=hM.b;have dz:(decide (0<=b)&&decide (b<=l.buckets-1))=true:=by simp only[Bool.and_eq_true,decide_eq_true_eq];omega
 have ml:0<=(l.buckets+2)*m:=Int.mul_nonneg (by omega) (by omega);have ky:(l.buckets+2)*m<=66*1000000:=Int.mul_le_mul (by omega) (by omega) (by omega) (by omega);have E:hL l m b=l.map+(l.buckets+2)*m+2+b:=by unfold hL kZ;rw[if_neg (by omega),if_neg (by omega),show m*(2+l.buckets)=(l.buckets+2)*m by rw[Int.mul_comm,Int.add_comm]];omega
 have L:(decide (0<=m)&&decide (m<=l.maps-1))=true:=by simp only[Bool.and_eq_true,decide_eq_true_eq];omega
 have e2:=eI (n:=(l.buckets+2)*m) (by omega) (by omega);rw[E];refine sP func51 ntmps51 λ w cl=>?_
 refine go ?_;refine gD [] ?_;rw[e2];refine bh ?_;refine cQ (qE m 0 (l.maps-1)) ?_;rw[L];refine bh ?_;refine cQ (qE b 0 (l.buckets-1)) ?_;rw[dz];refine gQ (vi _ true) ?_;refine gf ?_
 rfl
theorem LI(n:Int)(hn:0<=n/\n<65536):aX prog 78 [u n] (u (cf ⟨n,false,0⟩)):=by
 have hP:aX prog 80 [xE ⟨n,false,0⟩] (u n):=by
  have h1:=Ef n 65536 (by omega) (by omega);rw[show n%65536=n by omega] at h1;have A:=Ef 0 268435456 (by omega) (by omega);rw[show(0:Int)%268435456=0 from rfl] at A;refine sP func80 ntmps80 λ w cl=>?_
  refine go ?_;refine dQ [] ?_;refine gQ h1 ?_;refine cQ A ?_;refine bh ?_;refine gf ?_;rw[show IntKind.i64.wrap (n+IntKind.i64.wrap (131072*0))=n by rw[show IntKind.i64.wrap (131072*0)=0 from rfl,Int.add_zero];exact eI (by omega) (by omega)]
 have E:cf ⟨n,false,0⟩=n:=by unfold cf;simp;omega
 rw[E];refine sP func78 ntmps78 λ w cl=>?_
 refine gA hP ?_;refine d8 ?_
 rfl
theorem Fl{ar:Type}{f:ar->List Pl}{k:Nat}(hf:∀x,(f x).length=k):∀{l:List ar}{i:Nat}{x:ar},l[i]?=some x->∀(m:Nat) q,(f x)[m]?=some q->(l.flatMap f)[i*k+m]?=some q
 |[],i,x,h=>by simp at h
 |y::l,0,x,h=>by
  intro m q hq;simp at h;subst h;rw[List.flatMap_cons,Nat.zero_mul,Nat.zero_add,List.getElem?_append_left (List.getElem?_eq_some_iff.1 hq).1];exact hq
 |y::l,i+1,x,h=>by
  intro m q hq;have ih:=Fl hf (l:=l) (i:=i) (x:=x) (by simpa using h) m q hq;rw[List.flatMap_cons,List.getElem?_append_right (by rw[hf,Nat.add_mul];omega),hf,show(i+1)*k+m-k=i*k+m by rw[Nat.add_mul];omega];exact ih
def D8(a:aT):List Pl:=[pI a.kind,pI a.cell,pI a.fz,pI a.new]
def cL(l:List aT):List Pl:=l.flatMap D8
abbrev mI(l:List aT):G:=.p (.sl false l.length (cL l))
theorem Ui{l:List aT}{i:Int}{a:aT}(h:l[i.toNat]?=some a):∀(m:Nat) q,[pI a.kind,pI a.cell,pI a.fz,pI a.new][m]?=some q->(cL l)[i.toNat*4+m]?=some q:=Fl (f:=D8) (k:=4) (λ _=>rfl) h
theorem abA(g:List aD)(x:aD):gM (g++[x])=gM g++[pI x.val,pB x.ok]:=by simp[gM,yO]
theorem acD(c v:Int)(h:0<=c):aX prog 139 [.agg [u 2,u c,u 0,u v]] (dB true):=by
 refine sP func139 ntmps139 λ w cl=>?_
 refine go ?_;rw[show decide (c<0)=false by rw[decide_eq_false_iff_not];omega];refine gf ?_
 rfl
theorem acE(xs:List Int)(c v:Int)(h0:0<=c)(h1:c<xs.length)(hn:xs.length<=1000000):aX prog 140 [jl xs,u c,u v] (jl (xs.set c.toNat v)):=by
 refine sP func140 ntmps140 λ w cl=>?_
 refine go ?_;refine MV aB 9 rfl rfl rfl rfl rfl rfl rfl rfl rfl rfl rfl rfl rfl (by omega) (sF xs) (by unfold maxLen;omega) (by show _*8<=_;omega) (λ aO bw A K h4 h5 h6=>?_);have hs:=Lm h5 c.toNat v;have hp:fu (aO.set c.toNat (u v)):=Lt h6;refine go ?_;refine aj c.toNat 1 ?_;refine rL aB rfl rfl rfl rfl rfl rfl rfl rfl rfl (by omega) ?_;refine hZ ?_;refine nf ?_;refine dO (I7 7 9 (bb (xs.set c.toNat v)) rfl rfl rfl rfl (by rw[List.length_set];exact A) h4 (by rw[sF,List.length_set]) hs K (KB _)) ?_;refine gf ?_;simp only[jl,bq,List.length_set]
theorem acB(xs:List Int)(c v:Int)(h0:0<=c)(h1:c<xs.length)(hn:xs.length<=1000000):aX prog 114 [jl xs,.agg [u 2,u c,u 0,u v]] (.bg [jl (xs.set c.toNat v),xF ⟨ef xs c,true⟩,u 0]):=by
 have O:=xv h0 h1;refine sP func114 ntmps114 λ w cl=>?_
 refine gA (acD c v h0) ?_;rw[show decide (c>=xs.length)=false by rw[decide_eq_false_iff_not];omega];refine go ?_;refine ai [pI (ef xs c)] (gk O) ?_;refine go ?_;rw[show decide ((2:Int)=1)=false from rfl];refine go ?_;rw[show decide ((2:Int)=3)=false from rfl];refine go ?_;rw[show decide ((2:Int)=4)=false from rfl];refine gA (acE xs c v h0 h1 hn) ?_;refine d8 ?_
 rfl
theorem ad2{xs:List Int}{a:aT}(I:a.kind=2):gE xs a=(xs.set a.cell.toNat a.new,⟨ef xs a.cell,true⟩):=by unfold gE;rw[if_neg (by omega),if_pos (.inl I)]
def H9(n:Nat)(l:List aT):Prop:=∀a∈l,a.kind=2/\a.fz=0/\0<=a.cell/\a.cell<n
theorem Wg{n:Nat}{a:aT}(h:a.kind=2/\a.fz=0/\0<=a.cell/\a.cell<n):lM n a=0:=by obtain⟨h1,A,K,h4⟩:=h;unfold lM vk;rw[if_pos (by rw[h1,A];simp[K]),if_neg (by omega)]
theorem acA(xs:List Int)(l:List aT)(hs:H9 xs.length l)(hn:xs.length<=1000000)(R:l.length<=100000):aX prog 100 [jl xs,mI l] (.bg [jl (pk xs xs [] l).1,gH (pk xs xs [] l).2.1,u (pk xs xs [] l).2.2]):=by
 generalize E:pk xs xs [] l=aJ;refine sP func100 ntmps100 λ w cl=>?_
 refine go ?_;refine dO (kF 8 0 108 2 rfl rfl rfl) ?_;refine bW (λ p:Nat×List Int×List aD=>p.1<=l.length/\p.2.1.length=xs.length/\p.2.2.length=p.1/\pk xs p.2.1 p.2.2 (l.drop p.1)=aJ) (λ p=>⟨[(9,u p.1),(8,.aW 0 p.2.2.length (gM p.2.2)),(7,.ptr 2 0),(4,.ptr 1 0),(2,.ptr 0 0),(1,mI l)],[(2,[bq p.2.1]),(1,[.p (.sl true 0 [])]),(0,[bq xs])],[(0,⟨108,2,p.2.2.length⟩)]⟩) (λ p=>l.length-p.1) (0,xs,[]) ⟨Nat.zero_le _,rfl,rfl,E⟩ (zX) ?_;rintro⟨i,cur,mz⟩ ⟨X,dT,gz,E⟩;simp only at X dT gz E;refine(show aK _ _ _ _ ⟨[(9,u i),(8,.aW 0 mz.length (gM mz)),(7,.ptr 2 0),(4,.ptr 1 0),(2,.ptr 0 0),(1,mI l)],[(2,[bq cur]),(1,[.p (.sl true 0 [])]),(0,[bq xs])],[(0,⟨108,2,mz.length⟩)]⟩ from ?_);refine go ?_;refine cN (λ h1=>?_) (λ h1=>?_)<;>try rw[h1]
 ·have aP:=of_decide_eq_true h1;have du:i<l.length:=by omega
  obtain⟨a,ha⟩:=l8 (l:=l) (i:=i) (by omega) aP;have F:l.drop i=a::l.drop (i+1):=by rw[List.drop_eq_getElem_cons du];simp only[Int.toNat_natCast] at ha;rw[(List.getElem?_eq_some_iff.1 ha).2]
  have Kn:=hs a (List.mem_of_getElem? ha);rw[F,pk,dT,if_pos (Wg Kn),ad2 Kn.1] at E;obtain⟨kd,ce,od,nw⟩:=a;obtain⟨A,K,h4,h5⟩:=Kn;simp only at A K h4 h5 E;subst A;subst K;refine go ?_;refine gW 14 [] ?_;refine ri [pI 2,pI ce,pI 0,pI nw] (Ui ha) ?_;refine gQ (acB cur ce nw h4 (by omega) (by omega)) ?_;refine go ?_;rw[show decide ((0:Int)=0)=true from rfl];refine go ?_;refine hE (m:=1) (ps:=gM mz) (qs:=[pI (ef cur ce),pB true]) aB rfl rfl rfl rfl rfl rfl rfl rfl rfl rfl rfl rfl rfl (by unfold maxLen;omega) (by show(_+_)*16<=_;omega) ?_;rw[<-abA mz ⟨ef cur ce,true⟩,show mz.length+1=(mz++[(⟨ef cur ce,true⟩:aD)]).length by simp];refine go ?_;exact⟨(i+1,cur.set ce.toNat nw,mz++[⟨ef cur ce,true⟩]),⟨by simp only;omega,by simp only[List.length_set];exact dT,by simp only[List.length_append,List.length_cons,List.length_nil];omega,E⟩,by simp only;omega,zX⟩
 ·have aP:=of_decide_eq_false h1;rw[List.drop_of_length_le (by omega),pk] at E;refine gf ?_;rw[<-E]
theorem tS(l:List aT)(a:aT):cL l++[pI a.kind,pI a.cell,pI a.fz,pI a.new]=cL (l++[a]):=by simp[cL,D8]
theorem wQ(l:List aT):(cL l).length=l.length*4:=by
 induction l with
 |nil=>rfl
 |cons a l ih=>unfold cL at ih⊢;rw[List.flatMap_cons,List.length_append,ih];simp[D8];omega
theorem AT(l:ag)(a k:Nat):(li l a k).length=k:=by simp[li]
theorem QG(l:ag)(a k i:Nat)(h:i<k):(li l a k).take (i+1)=(li l a k).take i++[⟨2,aE l ((a:Int)+i) 7,0,if(a:Int)+i=l.nodes then 0 else(a:Int)+i+1⟩]:=by
 rw[List.take_add_one]
 congr 1
 simp[li,h]
theorem adx{l:ag}{m n:Int}{a:aT}(h:a∈gC l m n):a.kind=2/\a.fz=0:=by simp only[gC,List.mem_cons,List.not_mem_nil,or_false] at h;rcases h with rfl|rfl|rfl|rfl|rfl|rfl|rfl<;>exact⟨rfl,rfl⟩
theorem M3(BK:List Int):∀(l:List aT)(cur:List Int)(mz:List aD),BK.length=cur.length->(pk BK cur mz l).1.length=cur.length
 |[],cur,mz,h=>rfl
 |a::l,cur,mz,h=>by
  rw[pk];split
  ·rw[M3 BK l _ _ (by rw[EC];exact h),EC]
  ·exact h
end Go.Proofs.YtcnefjfboagbmaaGreat
