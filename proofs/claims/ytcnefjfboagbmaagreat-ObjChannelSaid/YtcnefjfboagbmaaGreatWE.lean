/- Cells of a memory, rows that are the same, numbers in a row: their walks. -/
import Derived.Test.YtcnefjfboagbmaaGreatWA
import Derived.Test.YtcnefjfboagbmaaGreatLB
import Derived.Test.YtcnefjfboagbmaaGreatPA
import Derived.Test.YtcnefjfboagbmaaGreatWB
namespace Go.Proofs.YtcnefjfboagbmaaGreat
open Go.Proofs.Tryz
open Go.RowKit
set_option maxRecDepth 100000
theorem ys{xs:List Int}{i:Int}(h0:0<=i)(h:i<xs.length):xs[i.toNat]?=some (dp xs i):=by
 have:i.toNat<xs.length:=by omega
 simp[dp,this]
theorem qz(xs:List Int)(i:Int):bc prog 93 [jw xs,E i] (E (bE xs i)):=by
 generalize I:bE xs i=aQ;unfold bE at I;refine sP func93 ntmps93 λ w cl=>?_
 refine go ?_;generalize A:decide (i<0)=cc;cases cc
 ·have aU:=of_decide_eq_false A;refine go ?_;generalize F:decide ((xs.length:Int)<=i)=cc;cases cc
  ·have bB:=of_decide_eq_false F;rw[if_neg (by omega)] at I;have hg:=ys (xs:=xs) (i:=i) (by omega) (by omega);refine go ?_;refine ai [pI (dp xs i)] (jE hg) ?_;refine gf ?_;rw[<-I]
  ·rw[if_pos (.inr (of_decide_eq_true F))] at I;refine gf ?_;rw[<-I]
 ·rw[if_pos (.inl (of_decide_eq_true A))] at I;refine gf ?_;rw[<-I]
theorem OS(xs:List Int)(i:Int):bc prog 50 [jw xs,E i] (E (bE xs i)):=by
 generalize I:bE xs i=aQ;unfold bE at I;refine sP func50 ntmps50 λ w cl=>?_
 refine go ?_;generalize A:decide (i<0)=cc;cases cc
 ·have aU:=of_decide_eq_false A;refine go ?_;generalize F:decide ((xs.length:Int)<=i)=cc;cases cc
  ·have bB:=of_decide_eq_false F;rw[if_neg (by omega)] at I;have hg:=ys (xs:=xs) (i:=i) (by omega) (by omega);refine go ?_;refine ai [pI (dp xs i)] (jE hg) ?_;refine gf ?_;rw[<-I]
  ·rw[if_pos (.inr (of_decide_eq_true F))] at I;refine gf ?_;rw[<-I]
 ·rw[if_pos (.inl (of_decide_eq_true A))] at I;refine gf ?_;rw[<-I]
theorem RJ(a b:List Int)(ha:a.length<=1000000000):bc prog 16 [bX a,bX b] (dB (decide (a=b))):=by
 refine sP func16 ntmps16 λ w cl=>?_
 refine go ?_;generalize A:decide ((a.length:Int)=b.length)=cc;cases cc
 ·refine gf ?_;have aU:=of_decide_eq_false A;have:¬a=b:=λ e=>aU (by rw[e])
  simp[this]
 ·refine go ?_;have yS:=of_decide_eq_true A;refine cn (λ n:Nat=>n<=a.length/\a.take n=b.take n) (λ n=>⟨[(5,E n),(0,bX a),(1,bX b)],[],[]⟩) (λ n=>a.length-n) 0 ⟨by omega,by simp⟩ (zX) ?_;rintro n ⟨hn,yX⟩;refine go ?_;refine dk (λ F=>?_) (λ F=>?_)<;>try rw[F]
  ·have bm:=of_decide_eq_true F;obtain⟨x,T⟩:=nh (l:=a) (i:=n) (by omega) bm;obtain⟨y,hy⟩:=nh (l:=b) (i:=n) (by omega) (by omega);refine go ?_;refine gD [] ?_;refine ri [pI x] (jE T) ?_;refine br ?_;refine ri [pI y] (jE hy) ?_;refine qg ?_;simp only[Int.toNat_natCast] at T hy;generalize O:decide (x=y)=cc;cases cc
   ·refine gf ?_;have dt:=of_decide_eq_false O;have:¬a=b:=λ e=>dt (by rw[e,hy] at T;cases T;rfl)
    simp[this]
   ·refine go ?_;have dt:=of_decide_eq_true O;refine⟨n+1,⟨by omega,?_⟩,by omega,zX⟩;rw[List.take_add_one,List.take_add_one,yX,T,hy,dt]
  ·refine gf ?_;have iq:=of_decide_eq_false F;rw[List.take_of_length_le (by omega),List.take_of_length_le (by omega)] at yX;simp[yX]
theorem RF(a:List Int)(v:Int)(ha:a.length<=1000000000):bc prog 98 [bX a,E v] (dB (decide (v∈a))):=by
 refine sP func98 ntmps98 λ w cl=>?_
 refine go ?_;refine cn (λ n:Nat=>n<=a.length/\v∉a.take n) (λ n=>⟨[(5,E n),(0,bX a),(1,E v)],[],[]⟩) (λ n=>a.length-n) 0 ⟨by omega,by simp⟩ (zX) ?_;rintro n ⟨hn,fz⟩;refine go ?_;refine dk (λ F=>?_) (λ F=>?_)<;>try rw[F]
 ·have bm:=of_decide_eq_true F;obtain⟨x,T⟩:=nh (l:=a) (i:=n) (by omega) bm;refine go ?_;refine ai [pI x] (jE T) ?_;refine go ?_;simp only[Int.toNat_natCast] at T;generalize O:decide (x=v)=cc;cases cc
  ·refine go ?_;have dt:=of_decide_eq_false O;refine⟨n+1,⟨by omega,?_⟩,by omega,zX⟩;rw[List.take_add_one,T];simp only[Option.toList_some,List.mem_append,List.mem_singleton,not_or];exact⟨fz,λ e=>dt e.symm⟩
  ·refine gf ?_;have dt:=of_decide_eq_true O;have:v∈a:=by rw[<-dt];exact List.mem_of_getElem? T
   simp[this]
 ·refine gf ?_;have iq:=of_decide_eq_false F;rw[List.take_of_length_le (by omega)] at fz;simp[fz]
theorem wh(n:Int)(b:Bool):bc prog 96 [E n,dB b] (E (if b then n else-1)):=by
 refine sP func96 ntmps96 λ w cl=>?_
 refine go ?_;cases b
 ·refine gf ?_
  rfl
 ·refine gf ?_
  rfl
theorem q9(n a b:Int):bc prog 63 [E n,E a,E b] (dB (decide (a<=n)&&decide (n<=b))):=by
 refine sP func63 ntmps63 λ w cl=>?_
 refine go ?_;generalize A:decide (a<=n)=cc;cases cc
 ·refine gf ?_
  rfl
 ·refine gf ?_
  rfl
theorem abL(n:Nat)(hn:n<=100000):bc prog 28 [E n] (jw (List.replicate n 0)):=by
 refine sP func28 ntmps28 λ w cl=>?_
 refine go ?_;refine yn (So aD 1 (c:=n) rfl rfl rfl rfl rfl rfl rfl rfl rfl (by show _*8<=_;omega) (by unfold maxLen;omega)) rfl rfl rfl rfl ?_;refine nT (JT 4 1 (cy (List.replicate n 0)) rfl rfl rfl rfl (by simp) (Nat.le_refl _) (by rw[v8];simp) (by rw[List.take_of_length_le (by simp)];simp[cy];exact .inr rfl) (by unfold maxLen;omega) (Lu _)) ?_;refine gf ?_;simp only[jw,bX,List.length_replicate]
theorem L4{l:ah}(hL:cr l){n i:Int}(hi:0<=i/\i<8):0<=aN l n i↔1<=n/\n<=l.nodes:=by
 have A:=hL.node.1;unfold aN kG;split
 ·omega
 ·split<;>omega
structure af9(n:Int):Prop where
 lo:-9223372036854775808<=n
 hi:n<9223372036854775808
set_option maxHeartbeats 4000000 in
theorem xG(l:ah)(hL:cr l)(m:List Int)(h:Int):bc prog 45 [dP l,jw m,E h] (bX (fF l m h)):=by
 generalize I:fF l m h=aQ;unfold fF at I;obtain⟨ml,gp⟩:=hL.nodes;refine sP func45 ntmps45 λ w cl=>?_
 refine qA ?_;refine wN ?_;refine im ?_;refine nI ?_;refine qA ?_;refine wN ?_;refine im ?_;refine nI ?_;refine ey (lu 7 0 3 1 rfl rfl rfl) ?_;refine Jh rfl rfl rfl rfl rfl rfl rfl rfl λ r=>?_
 refine r6 (pD λ aM bv cw hi=>?_);refine gA (qz m h) ?_;refine cA (kV (bE m h)) ?_;refine go ?_;refine nF ?_;refine r6 (Cf ?_);generalize hn:(ae (bE m h)).idx=n0 at I;have Ei:n0<65536:=by rw[<-hn];exact(kU (bE m h)).2
 refine LZ (λ p:Nat×List Int×Int=>p.1+p.2.1.length=l.nodes.toNat+1/\p.2.1.Nodup/\(∀x∈p.2.1,1<=x/\x<=l.nodes)/\p.2.2<65536/\k8 (λ n=>(ae (bE m (aN l n 0))).idx) l.nodes p.1 p.2.1 p.2.2=aQ) (λ p=>⟨[(8,.p (.raw (.map (some r)))),(9,E p.2.2),(7,.aW 0 p.2.1.length (cy p.2.1)),(3,.ptr 0 0),(4,.ptr 1 0)],[(1,[bX m]),(0,cG l)],[(0,⟨3,1,p.2.1.length⟩)]⟩) (λ p=>p.2.1) (λ p=>p.1) (l.nodes.toNat+1,[],n0) ⟨by simp,List.nodup_nil,by simp,Ei,I⟩ rfl (λ aM bv cw=>zX) ?_;rintro⟨k,acc,n⟩ ⟨J,hnd,dF,iX,I⟩;simp only at J hnd dF iX I;have cD:=v5 l.nodes.toNat acc hnd (λ x T=>by have:=dF x T;omega);obtain⟨k,rfl⟩:∃j,k=j+1:=⟨k-1,by omega⟩;rw[k8] at I;refine(show qv _ _ _ _ _ acc ⟨[(8,.p (.raw (.map (some r)))),(9,E n),(7,.aW 0 acc.length (cy acc)),(3,.ptr 0 0),(4,.ptr 1 0)],[(1,[bX m]),(0,cG l)],[(0,⟨3,1,acc.length⟩)]⟩ from ?_);refine r6 (pD λ aM bv cw hi=>?_);refine gA (kD l hL n 0 (by omega) (by omega)) ?_;have rT:=L4 hL (n:=n) (i:=0) (by omega);generalize F:decide (aN l n 0>=0)=cc;cases cc
 ·have bB:=of_decide_eq_false F;rw[if_neg (λ hh=>bB (rT.2 ⟨hh.1,hh.2.1⟩))] at I;refine go ?_;refine rZ (rZ (Cb (nF (pD λ aM bv cw hi=>?_))));refine gf ?_;rw[<-I]
 ·have bB:=rT.1 (of_decide_eq_true F);refine go ?_;refine Jc aD hi rfl underlying125 underlying3 rfl rfl rfl rfl rfl rfl rfl ?_;refine go ?_;generalize O:decide (n∈acc)=cc;cases cc
  ·have dt:=of_decide_eq_false O;rw[if_pos ⟨bB.1,bB.2,dt⟩] at I;refine go ?_;refine nF ?_;refine Cf (r6 (L0 ?_));refine B8 aD rfl rfl rfl rfl ?_;refine B8 aD rfl rfl rfl rfl ?_;refine LW rfl rfl underlying125 underlying3 rfl rfl rfl rfl dt ?_;refine LV (nF (pD λ aM bv cw hi=>?_));refine go ?_;refine pA rfl ?_;rw[oW,show acc.length+1=(acc++[n]).length by simp];refine go ?_;refine dQ [] ?_;refine gQ (kD l hL n 0 (by omega) (by omega)) ?_;refine cQ (qz m (aN l n 0)) ?_;refine gQ (kV (bE m (aN l n 0))) ?_;refine go ?_;refine LX (nF ?_);exact⟨(k,acc++[n],(ae (bE m (aN l n 0))).idx),⟨by simp;omega,by
    rw[List.nodup_append];exact⟨hnd,by simp,λ a ha b Z=>by simp at Z;subst Z;exact λ e=>dt (e▸ha)⟩,λ x T=>by
    simp only[List.mem_append,List.mem_singleton] at T;rcases T with T|rfl
    ·exact dF x T
    ·exact bB,(kU _).2,I⟩,by simp only;omega,rfl,λ aM bv cw=>zX⟩
  ·rw[if_neg (λ hh=>hh.2.2 (of_decide_eq_true O))] at I;refine go ?_;refine rZ (rZ (Cb (nF (pD λ aM bv cw hi=>?_))));refine gf ?_;rw[<-I]
theorem Dj{nx:Int->Int}{N:Int}:∀(k:Nat)(acc:List Int)(n:Int),(k8 nx N k acc n).length<=acc.length+k
 |0,acc,n=>by simp[k8]
 |k+1,acc,n=>by
  rw[k8];split
  ·have:=Dj (nx:=nx) (N:=N) k (acc++[n]) (nx n);simp at this;omega
  ·omega
theorem r7(l:ah)(m:List Int)(h:Int):(fF l m h).length<=l.nodes.toNat+1:=by
 have:=Dj (nx:=λ n=>(ae (bE m (aN l n 0))).idx) (N:=l.nodes) (l.nodes.toNat+1) [] (ae (bE m h)).idx
 simpa[fF] using this
theorem F8{nx:Int->Int}{N:Int}:∀(k:Nat)(acc:List Int)(n:Int),(∀x∈acc,1<=x/\x<=N)->∀x∈k8 nx N k acc n,1<=x/\x<=N
 |0,acc,n,h=>by simpa[k8] using h
 |k+1,acc,n,h=>by
  rw[k8];split
  ·rename_i L;exact F8 k (acc++[n]) (nx n) (λ x T=>by
    simp only[List.mem_append,List.mem_singleton] at T;rcases T with T|rfl
    ·exact h x T
    ·exact⟨L.1,L.2.1⟩)
  ·exact h
theorem EX(l:ah)(m:List Int)(h:Int):∀x∈fF l m h,1<=x/\x<=l.nodes:=F8 _ _ _ (by simp)
def j6(l:ah)(m:List Int)(aE:List Int):List (Int×Int):=(aE.filter λ n=>!(ae (bE m (aN l n 0))).mark).map λ n=>(bE m (aN l n 1),bE m (aN l n 2))
theorem MQ(l:ah)(m:List Int)(aE:List Int):(j6 l m aE).length<=aE.length:=by unfold j6;rw[List.length_map];exact List.length_filter_le _ _
theorem MR(l:ah)(m:List Int)(aE:List Int)(n:Int):j6 l m (aE++[n])=if(ae (bE m (aN l n 0))).mark=true then j6 l m aE else j6 l m aE++[(bE m (aN l n 1),bE m (aN l n 2))]:=by
 unfold j6;rw[List.filter_append,List.map_append];split
 ·rename_i h;simp[h]
 ·rename_i h;simp[h]
set_option maxHeartbeats 4000000 in
theorem Fl(l:ah)(hL:cr l)(m:List Int)(h:Int):bc prog 82 [dP l,jw m,E h] (eh (nJ l m h)):=by
 have vl:=EX l m h;have KU:=r7 l m h;have hC:=xG l hL m h;have I:nJ l m h=j6 l m (fF l m h):=rfl;rw[I];obtain⟨ml,gp⟩:=hL.nodes;generalize fF l m h=ns at*;refine sP func82 ntmps82 λ w cl=>?_
 refine gA hC ?_;refine ey (lu 7 0 110 2 rfl rfl rfl) ?_;refine cn (λ i:Nat=>i<=ns.length) (λ i=>⟨[(15,E i),(14,E ns.length),(13,bX ns),(7,.aW 0 (j6 l m (ns.take i)).length (g6 (j6 l m (ns.take i)))),(3,.ptr 0 0),(4,.ptr 1 0)],[(1,[bX m]),(0,cG l)],[(0,⟨110,2,(j6 l m (ns.take i)).length⟩)]⟩) (λ i=>ns.length-i) 0 (by omega) (zX) ?_;intro i hi;refine go ?_;refine dk (λ A=>?_) (λ A=>?_)<;>try rw[A]
 ·have aU:=of_decide_eq_true A;obtain⟨n,hn⟩:=nh (l:=ns) (i:=i) (by omega) aU;have lD:=hn;simp only[Int.toNat_natCast] at lD;have eo:=vl n (List.mem_of_getElem? lD);have hx:=MR l m (ns.take i) n;have tf:=MQ l m (ns.take i);rw[List.length_take] at tf;rw[show ns.take i++[n]=ns.take (i+1) by rw[List.take_add_one,lD];rfl] at hx;generalize j6 l m (ns.take i)=aO at*;refine go ?_;refine ai [pI n] (jE hn) ?_;refine go ?_;refine dQ [] ?_;refine gQ (kD l hL n 0 (by omega) (by omega)) ?_;refine cQ (qz m (aN l n 0)) ?_;refine gQ (kV (bE m (aN l n 0))) ?_;refine go ?_;generalize y5:(ae (bE m (aN l n 0))).mark=mk at*;cases mk
  ·rw[if_neg (by decide)] at hx;refine go ?_;refine dQ [] ?_;refine gQ (kD l hL n 1 (by omega) (by omega)) ?_;refine cQ (qz m (aN l n 1)) ?_;refine gQ (kD l hL n 2 (by omega) (by omega)) ?_;refine cQ (qz m (aN l n 2)) ?_;refine br ?_;refine tx aD rfl rfl rfl rfl rfl rfl rfl rfl rfl rfl rfl rfl rfl (by unfold maxLen;omega) (by show(_+_)*16<=_;omega) ?_;rw[show g6 aO++[pI (bE m (aN l n 1)),pI (bE m (aN l n 2))]=g6 (aO++[(bE m (aN l n 1),bE m (aN l n 2))]) by simp[g6,Co],show aO.length+1=(aO++[(bE m (aN l n 1),bE m (aN l n 2))]).length by simp,<-hx];refine qg ?_;exact⟨i+1,by omega,by omega,zX⟩
  ·rw[if_pos rfl] at hx;refine go ?_;exact⟨i+1,by omega,by omega,by rw[hx];exact zX⟩
 ·have aU:i=ns.length:=by have:=of_decide_eq_false A;omega
  rw[aU,List.take_length];refine gf ?_
  rfl
section
variable{P:Program}{ap:Nat->Option TI}{Γ:bN}{M bb:St}
theorem Xk(hs:wG M bb bb.s)(Z:wz M bb bb.b)(hg:wE M bb.g)(dV:wF bb Γ.kb){a:Act}{e:aC}(L:bu Γ M e a):bu Γ bb (e.cut (aI bb.b) (aI bb.g)) a:=by
 have fH:∀g,aI bb.g g=true->∃au,e.gi g=some au/\kv bb.g g=some au:=λ g h=>by
  unfold aI at h;obtain⟨au,hG⟩:=Option.isSome_iff_exists.1 h;exact⟨au,by rw[L.gs];exact hg.get hG,hG⟩
 refine⟨L.size,L.df,λ t d ht=>(L.bU t d (hs.get ht).1).cut (hs.get ht).2,λ b cs cR=>?_,λ b iC=>?_,λ g=>?_,L.env.kept,L.env.cl,λ b k J=>?_,λ b c k A F=>?_,λ k g J=>?_,λ b k J=>?_⟩
 ·obtain⟨k,vs,el,A,F,O⟩:=L.boxes b cs (Z.get cR).1;refine⟨k,vs,el,?_,F,O.1,λ i v d hv D=>(O.2 i v d hv D).cut (q7 (Z.get cR).2 D)⟩;show(if aI bb.b b=true then e.bx b else none)=_;rw[if_pos (by simp[aI,cR])];exact A
 ·show(if aI bb.b b=true then e.bx b else none)=_;rw[if_neg (by simp[aI,iC])]
 ·show(if aI bb.g g=true then e.gi g else none)=_;cases U:kv bb.g g with
  |none=>rw[if_neg (by simp[aI,U])]
  |some au=>rw[if_pos (by simp[aI,U]),L.gs];exact hg.get U
 ·have dI:(if aI bb.b b=true then e.bx b else none)=some k:=J;split at dI
  ·obtain⟨A,F,O,h4⟩:=L.env.bx b k dI;refine⟨A,F,O,?_⟩;show(match e.gr k with|some g=>if aI bb.g g=true then some g else none|none=>none)=none;rw[h4]
  ·cases dI
 ·have aU:(if aI bb.b b=true then e.bx b else none)=some k:=A;have bB:(if aI bb.b c=true then e.bx c else none)=some k:=F;split at aU
  ·split at bB
   ·exact L.env.inj b c k aU bB
   ·cases bB
  ·cases aU
 ·have dI:(match e.gr k with|some g=>if aI bb.g g=true then some g else none|none=>none)=some g:=J;rcases je:e.gr k with _|g0
  ·rw[je] at dI;cases dI
  ·rw[je] at dI;simp only at dI;split at dI
   ·rename_i dH;cases dI;obtain⟨au,cur,A,F⟩:=L.env.gr k g je;exact⟨au,cur,by show(if aI bb.g g=true then e.gi g else none)=_;rw[if_pos dH];exact A,F⟩
   ·cases dI
 ·show(if aI bb.b b=true then e.bx b else none)=_;rw[if_pos (dV.get J)];exact L.env.kb b k J
end
section
variable{Γ:bN}{s wu:List (Nat×K)}{b o0:List (Nat×List K)}{g qt:List (Nat×Gr)}
theorem JS(nb j nm:Nat){n c sz:Nat}{cs lP lR A9:List K}(ps:List Pl)(eo:kv b nb=some lP)(hj:lP[j]?=some (.arr nm 0 n c))(Z:kv b nm=some cs)(D:lP.set j .any=lR)(cM:lR.set j (.p (.sl false n ps))=A9)
 (hs:wG ⟨s,(nb,lR)::b,g⟩ ⟨wu,(nb,lR)::o0,qt⟩ wu)(ud:wz ⟨s,(nb,lR)::b,g⟩ ⟨wu,(nb,lR)::o0,qt⟩ ((nb,lR)::o0))(oL:wE ⟨s,(nb,lR)::b,g⟩ qt)(dV:wF ⟨wu,(nb,lR)::o0,qt⟩ Γ.kb)(ny:kv ((nb,lR)::o0) nm=none)
 (cR:cs.length=c*sz)(uq:n<=c)(db:ps.length=n*sz)(pz:cs.take (n*sz)=ps.map K.p)(lc:c<=maxLen)(qU:∀x∈ps,x.lf=true):bY Γ ⟨s,b,g⟩ ⟨wu,(nb,A9)::o0,qt⟩:=by
 intro a e L;obtain⟨k0,qr,qE,f1,f2,lW⟩:=L.boxes _ _ eo;have hw:bu Γ ⟨s,(nb,lR)::b,g⟩ e a:=by
  refine⟨L.size,L.df,L.bU,λ u d hu=>?_,λ u hu=>?_,L.gs,L.env⟩
  ·simp only[da] at hu;split at hu
   ·rename_i l6;subst l6;cases hu;refine⟨k0,qr,qE,f1,f2,by rw[<-D,List.length_set];exact lW.1,λ i v d hv gu=>?_⟩;rw[<-D,List.getElem?_set] at gu;split at gu
    ·split at gu
     ·cases gu;exact .any
     ·cases gu
    ·exact lW.2 i v d hv gu
   ·exact L.boxes u d hu
  ·simp only[da] at hu;split at hu
   ·cases hu
   ·exact L.eE u hu
 have vq:=Xk (bb:=⟨wu,(nb,lR)::o0,qt⟩) hs ud oL dV hw;obtain⟨k,vs,el,F,O,h4⟩:=L.boxes nm cs Z;have jd:=L.env.bx nm k F;have dC:∀x,(e.cut (aI ((nb,lR)::o0)) (aI qt)).bx x≠some k:=λ x T=>by
  have eA:(if aI ((nb,lR)::o0) x=true then e.bx x else none)=some k:=T;split at eA
  ·rename_i b9;have xB:=L.env.inj _ _ _ eA F;subst xB;unfold aI at b9;rw[ny] at b9;cases b9
  ·cases eA
 have vw:(e.cut (aI ((nb,lR)::o0)) (aI qt)).gr k=none:=by show(match e.gr k with|some g=>if aI qt g=true then some g else none|none=>none)=none;rw[jd.2.2.2]
 obtain⟨h5,I⟩:=vq.yt (n*sz) jd.2.1 jd.2.2.1 vw dC;refine⟨{e.cut (aI ((nb,lR)::o0)) (aI qt) with cl:=λ j=>if j=k then some (n*sz) else(e.cut (aI ((nb,lR)::o0)) (aI qt)).cl j},rfl,h5.size,h5.df,h5.bU,λ u d hu=>?_,λ u hu=>?_,h5.gs,h5.env⟩
 ·simp only[da] at hu;split at hu
  ·rename_i l6;subst l6;cases hu;obtain⟨k1,afO,Xp,g1,g2,g3⟩:=h5.boxes nb lR (by simp[da]);have Gz:(if aI ((nb,lR)::o0) nb=true then e.bx nb else none)=some k1:=g1;have J:k1=k0:=by
    split at Gz
    ·rw[f1] at Gz;cases Gz;rfl
    ·cases Gz
   subst J;have PI:e.w.heap[k1]?=some (.cells afO.toArray Xp (0,0)):=g2;rw[f2] at PI;cases PI;refine⟨k1,qr,qE,g1,g2,by rw[<-cM,List.length_set];exact g3.1,λ i v d hv gu=>?_⟩;rw[<-cM,List.getElem?_set] at gu;split at gu
   ·rename_i hd;subst hd;split at gu
    ·cases gu;have A:=lW.2 _ v _ hv hj;have cD:vs.length=c*sz:=by rw[h4.1,cR]
     have iE:=Nat.mul_le_mul_right sz uq;have bH:=Mq h4 (by rw[db];exact pz);cases A with
     |arr J=>
      rw[F] at J;cases J;refine .p (CH uq lc (λ h=>by cases h) (λ h=>by cases h) (.inr ⟨k,0,rfl,λ j=>vs.getD j undef,λ j x T=>?_⟩));have hj:=(List.getElem?_eq_some_iff.1 T).1;have fI:j<vs.length:=by omega
      have p6:vs.getD j undef=vs[j]:=by simp[fI]
      have hu:vs[j]?=some vs[j]:=List.getElem?_eq_getElem fI;have hr:=bH j _ x hu T;show aC.nW _ k (0+j)/\World.cell? _ ⟨k,0+j,none⟩=some (vs.getD j undef)/\mr (vs.getD j undef)=true/\dm _ (vs.getD j undef) x;rw[p6,Nat.zero_add];refine⟨λ q hq=>?_,?_,LK hr (qU x (List.mem_of_getElem? T)),(hr.cut).next I⟩
      ·have iF:(if k=k then some (n*sz) else e.cl k)=some q:=hq;rw[if_pos rfl] at iF;cases iF;omega
      ·show e.w.cell? _=_;rw[cell_of_row e.w k j vs.toArray el (0,0) O,List.getElem?_toArray];exact hu
    ·cases gu
   ·exact g3.2 i v d hv gu
  ·exact h5.boxes u d (by simp only[da];rw[if_neg (by assumption)];exact hu)
 ·simp only[da] at hu;split at hu
  ·cases hu
  ·exact h5.eE u (by simp only[da];rw[if_neg (by assumption)];exact hu)
end
theorem E9(m n:Int)(hn:0<n)(Z:n<4611686018427387904):bc prog 95 [E m,E n] (E (m%n)):=by
 have h:=afs m n hn;have h0:=Int.emod_nonneg m (show n≠0 by omega);have A:=Int.emod_lt_of_pos m hn;refine sP func95 ntmps95 λ w cl=>?_
 refine go ?_;refine bh (aen rfl rfl rfl hn) rfl rfl rfl ?_;generalize m.tmod n=k at h;refine go ?_;generalize F:decide (k<0)=cc;cases cc
 ·have bB:=of_decide_eq_false F;refine gf ?_;rw[h.2 bB]
 ·have bB:=of_decide_eq_true F;have O:=h.1 bB;refine gf ?_;rw[<-O]
theorem aej(n:Int):bc prog 49 [E n] (yy (ae n)):=by
 have h0:=Int.emod_nonneg n (show(35184372088832:Int)≠0 by omega);have A:=Int.emod_lt_of_pos n (show(0:Int)<35184372088832 by omega);have I:ae n=⟨n%35184372088832%65536,decide (n%35184372088832/65536%2=1),n%35184372088832/131072⟩:=by
  unfold ae
  congr 1
  ·omega
  ·rw[decide_eq_decide];omega
  ·omega
 rw[I];refine sP func49 ntmps49 λ w cl=>?_
 refine go ?_;refine cA (E9 n 35184372088832 (by omega) (by omega)) ?_;generalize n%35184372088832=k at*;refine t8 ?_;refine bh (MB rfl rfl rfl (by omega) (by omega) (by omega)) rfl rfl rfl ?_;refine t8 ?_;refine bh (MB rfl rfl rfl (by omega) (by omega) (by omega)) rfl rfl rfl ?_;refine t8 ?_;refine ez ?_
 rfl
theorem wj(l:ah)(hL:cr l)(n i:Int)(hi:0<=i/\i<=7):bc prog 53 [dP l,E n,E i] (E (aN l n i)):=by
 obtain⟨a1,a2⟩:=hL.node;obtain⟨b1,b2⟩:=hL.nodes;have I:aN l n i=if(decide (1<=n)&&decide (n<=l.nodes)) then IntKind.i64.wrap (IntKind.i64.wrap (l.node+IntKind.i64.wrap (8*IntKind.i64.wrap (n-1)))+i) else-1:=by
  unfold aN kG;split
  ·rw[if_neg];simp only[Bool.and_eq_true,decide_eq_true_eq];omega
  ·split
   ·rw[if_neg];simp only[Bool.and_eq_true,decide_eq_true_eq];omega
   ·rw[if_pos (by simp only[Bool.and_eq_true,decide_eq_true_eq];omega)];rw[eU (n:=n-1) (by omega) (by omega),eU (n:=8*(n-1)) (by omega) (by omega),eU (n:=l.node+8*(n-1)) (by omega) (by omega),eU (by omega) (by omega)];omega
 have dH:(decide (0<=i)&&decide (i<=7))=true:=by simp only[Bool.and_eq_true,decide_eq_true_eq];omega
 rw[I];refine sP func53 ntmps53 λ w cl=>?_
 refine go ?_
 by_cases h0:1<=n/\n<=l.nodes
 ·have L:(decide (1<=n)&&decide (n<=l.nodes))=true:=by simp only[Bool.and_eq_true,decide_eq_true_eq];omega
  have e1:=eU (n:=n-1) (by omega) (by omega);have e2:=eU (n:=8*(n-1)) (by omega) (by omega);have e3:=eU (n:=l.node+8*(n-1)) (by omega) (by omega);have e4:=eU (n:=l.node+8*(n-1)+i) (by omega) (by omega);rw[L,e1,e2,e3,e4];refine gD [] ?_;rw[e2];refine br ?_;refine cQ (q9 n 1 l.nodes) ?_;rw[L];refine br ?_;refine cQ (q9 i 0 7) ?_;rw[dH];refine gQ (wh _ true) ?_;refine gf ?_
  rfl
 ·have L:(decide (1<=n)&&decide (n<=l.nodes))=false:=by rw[Bool.eq_false_iff];simp only[ne_eq,Bool.and_eq_true,decide_eq_true_eq];omega
  rw[L];refine gD [] ?_;refine cQ (q9 n 1 l.nodes) ?_;rw[L];refine gQ (wh _ false) ?_;refine gf ?_
  rfl
theorem TO(l:ah)(hL:cr l)(hM:kJ l)(m i:Int)(hi:0<=i/\i<=1):bc prog 77 [dP l,E m,E i] (E (i3 l m i)):=by
 obtain⟨a1,a2⟩:=hL.map;obtain⟨b1,b2⟩:=hM.m;obtain⟨c1,c2⟩:=hM.b;have dH:(decide (0<=i)&&decide (i<=1))=true:=by simp only[Bool.and_eq_true,decide_eq_true_eq];omega
 by_cases h0:0<=m/\m<=l.maps-1
 ·have l4:0<=(l.buckets+2)*m:=Int.mul_nonneg (by omega) (by omega);have mj:(l.buckets+2)*m<=66*1000000:=Int.mul_le_mul (by omega) (by omega) (by omega) (by omega);have I:i3 l m i=l.map+(l.buckets+2)*m+i:=by
   unfold i3 kG;rw[if_neg (by omega),if_neg (by omega),show m*(2+l.buckets)=(l.buckets+2)*m by rw[Int.mul_comm,Int.add_comm]]
  have L:(decide (0<=m)&&decide (m<=l.maps-1))=true:=by simp only[Bool.and_eq_true,decide_eq_true_eq];omega
  have e2:=eU (n:=(l.buckets+2)*m) (by omega) (by omega);rw[I];refine sP func77 ntmps77 λ w cl=>?_
  refine go ?_;refine gD [] ?_;rw[e2];refine br ?_;refine cQ (q9 m 0 (l.maps-1)) ?_;rw[L];refine br ?_;refine cQ (q9 i 0 1) ?_;rw[dH];refine gQ (wh _ true) ?_;refine gf ?_
  rfl
 ·have I:i3 l m i=-1:=by
   unfold i3 kG;rw[if_neg (by omega),if_pos (by omega)]
  have L:(decide (0<=m)&&decide (m<=l.maps-1))=false:=by rw[Bool.eq_false_iff];simp only[ne_eq,Bool.and_eq_true,decide_eq_true_eq];omega
  rw[I];refine sP func77 ntmps77 λ w cl=>?_
  refine go ?_;refine gD [] ?_;refine cQ (q9 m 0 (l.maps-1)) ?_;rw[L];refine gQ (wh _ false) ?_;refine gf ?_
  rfl
theorem aeg(l:ah)(hL:cr l)(hM:kJ l)(m b:Int)(hm:0<=m/\m<=l.maps-1)(Z:0<=b/\b<=l.buckets-1):bc prog 51 [dP l,E m,E b] (E (iS l m b)):=by
 obtain⟨a1,a2⟩:=hL.map;obtain⟨b1,b2⟩:=hM.m;obtain⟨c1,c2⟩:=hM.b;have dH:(decide (0<=b)&&decide (b<=l.buckets-1))=true:=by simp only[Bool.and_eq_true,decide_eq_true_eq];omega
 have l4:0<=(l.buckets+2)*m:=Int.mul_nonneg (by omega) (by omega);have mj:(l.buckets+2)*m<=66*1000000:=Int.mul_le_mul (by omega) (by omega) (by omega) (by omega);have I:iS l m b=l.map+(l.buckets+2)*m+2+b:=by unfold iS kG;rw[if_neg (by omega),if_neg (by omega),show m*(2+l.buckets)=(l.buckets+2)*m by rw[Int.mul_comm,Int.add_comm]];omega
 have L:(decide (0<=m)&&decide (m<=l.maps-1))=true:=by simp only[Bool.and_eq_true,decide_eq_true_eq];omega
 have e2:=eU (n:=(l.buckets+2)*m) (by omega) (by omega);rw[I];refine sP func51 ntmps51 λ w cl=>?_
 refine go ?_;refine gD [] ?_;rw[e2];refine br ?_;refine cQ (q9 m 0 (l.maps-1)) ?_;rw[L];refine br ?_;refine cQ (q9 b 0 (l.buckets-1)) ?_;rw[dH];refine gQ (wh _ true) ?_;refine gf ?_
 rfl
theorem MF(n:Int)(hn:0<=n/\n<65536):bc prog 78 [E n] (E (bK ⟨n,false,0⟩)):=by
 have hP:bc prog 80 [yy ⟨n,false,0⟩] (E n):=by
  have A:=E9 n 65536 (by omega) (by omega);rw[show n%65536=n by omega] at A;have F:=E9 0 268435456 (by omega) (by omega);rw[show(0:Int)%268435456=0 from rfl] at F;refine sP func80 ntmps80 λ w cl=>?_
  refine go ?_;refine dQ [] ?_;refine gQ A ?_;refine cQ F ?_;refine br ?_;refine gf ?_;rw[show IntKind.i64.wrap (n+IntKind.i64.wrap (131072*0))=n by rw[show IntKind.i64.wrap (131072*0)=0 from rfl,Int.add_zero];exact eU (by omega) (by omega)]
 have I:bK ⟨n,false,0⟩=n:=by unfold bK;simp;omega
 rw[I];refine sP func78 ntmps78 λ w cl=>?_
 refine gA hP ?_;refine ez ?_
 rfl
theorem Gv{av:Type}{f:av->List Pl}{k:Nat}(hf:∀x,(f x).length=k):∀{l:List av}{i:Nat}{x:av},l[i]?=some x->∀(m:Nat) q,(f x)[m]?=some q->(l.flatMap f)[i*k+m]?=some q
 |[],i,x,h=>by simp at h
 |y::l,0,x,h=>by
  intro m q hq;simp at h;subst h;rw[List.flatMap_cons,Nat.zero_mul,Nat.zero_add,List.getElem?_append_left (List.getElem?_eq_some_iff.1 hq).1];exact hq
 |y::l,i+1,x,h=>by
  intro m q hq;have ih:=Gv hf (l:=l) (i:=i) (x:=x) (by simpa using h) m q hq;rw[List.flatMap_cons,List.getElem?_append_right (by rw[hf,Nat.add_mul];omega),hf,show(i+1)*k+m-k=i*k+m by rw[Nat.add_mul];omega];exact ih
def E2(a:aX):List Pl:=[pI a.kind,pI a.cell,pI a.dg,pI a.new]
def c9(l:List aX):List Pl:=l.flatMap E2
abbrev m9(l:List aX):K:=.p (.sl false l.length (c9 l))
theorem VO{l:List aX}{i:Int}{a:aX}(h:l[i.toNat]?=some a):∀(m:Nat) q,[pI a.kind,pI a.cell,pI a.dg,pI a.new][m]?=some q->(c9 l)[i.toNat*4+m]?=some q:=Gv (f:=E2) (k:=4) (λ _=>rfl) h
theorem ac1(g:List aF)(x:aF):g8 (g++[x])=g8 g++[pI x.val,pB x.ok]:=by simp[g8,Am]
theorem aed(c v:Int)(h:0<=c):bc prog 139 [.agg [E 2,E c,E 0,E v]] (dB true):=by
 refine sP func139 ntmps139 λ w cl=>?_
 refine go ?_;rw[show decide (c<0)=false by rw[decide_eq_false_iff_not];omega];refine gf ?_
 rfl
theorem aee(xs:List Int)(c v:Int)(h0:0<=c)(A:c<xs.length)(hn:xs.length<=1000000):bc prog 140 [jw xs,E c,E v] (jw (xs.set c.toNat v)):=by
 refine sP func140 ntmps140 λ w cl=>?_
 refine go ?_;refine Ol aD 9 rfl rfl rfl rfl rfl rfl rfl rfl rfl rfl rfl rfl rfl (by omega) (v8 xs) (by unfold maxLen;omega) (by show _*8<=_;omega) (λ aS cg F O h4 h5 h6=>?_);have hs:=Ml h5 c.toNat v;have hp:fy (aS.set c.toNat (E v)):=Mr h6;refine go ?_;refine aj c.toNat 1 ?_;refine pQ aD rfl rfl rfl rfl rfl rfl rfl rfl rfl (by omega) ?_;refine im ?_;refine nI ?_;refine ey (JT 7 9 (cy (xs.set c.toNat v)) rfl rfl rfl rfl (by rw[List.length_set];exact F) h4 (by rw[v8,List.length_set]) hs O (Lu _)) ?_;refine gf ?_;simp only[jw,bX,List.length_set]
theorem aeb(xs:List Int)(c v:Int)(h0:0<=c)(A:c<xs.length)(hn:xs.length<=1000000):bc prog 114 [jw xs,.agg [E 2,E c,E 0,E v]] (.bd [jw (xs.set c.toNat v),yz ⟨dp xs c,true⟩,E 0]):=by
 have T:=ys h0 A;refine sP func114 ntmps114 λ w cl=>?_
 refine gA (aed c v h0) ?_;rw[show decide (c>=xs.length)=false by rw[decide_eq_false_iff_not];omega];refine go ?_;refine ai [pI (dp xs c)] (jE T) ?_;refine go ?_;rw[show decide ((2:Int)=1)=false from rfl];refine go ?_;rw[show decide ((2:Int)=3)=false from rfl];refine go ?_;rw[show decide ((2:Int)=4)=false from rfl];refine gA (aee xs c v h0 A hn) ?_;refine ez ?_
 rfl
theorem afC{xs:List Int}{a:aX}(J:a.kind=2):ii xs a=(xs.set a.cell.toNat a.new,⟨dp xs a.cell,true⟩):=by unfold ii;rw[if_neg (by omega),if_pos (.inl J)]
def I5(n:Nat)(l:List aX):Prop:=∀a∈l,a.kind=2/\a.dg=0/\0<=a.cell/\a.cell<n
theorem Xz{n:Nat}{a:aX}(h:a.kind=2/\a.dg=0/\0<=a.cell/\a.cell<n):nc n a=0:=by obtain⟨A,F,O,h4⟩:=h;unfold nc wk;rw[if_pos (by rw[A,F];simp[O]),if_neg (by omega)]
theorem aea(xs:List Int)(l:List aX)(hs:I5 xs.length l)(hn:xs.length<=1000000)(U:l.length<=100000):bc prog 100 [jw xs,m9 l] (.bd [jw (qy xs xs [] l).1,gT (qy xs xs [] l).2.1,E (qy xs xs [] l).2.2]):=by
 generalize I:qy xs xs [] l=aQ;refine sP func100 ntmps100 λ w cl=>?_
 refine go ?_;refine ey (lu 8 0 108 2 rfl rfl rfl) ?_;refine cn (λ p:Nat×List Int×List aF=>p.1<=l.length/\p.2.1.length=xs.length/\p.2.2.length=p.1/\qy xs p.2.1 p.2.2 (l.drop p.1)=aQ) (λ p=>⟨[(9,E p.1),(8,.aW 0 p.2.2.length (g8 p.2.2)),(7,.ptr 2 0),(4,.ptr 1 0),(2,.ptr 0 0),(1,m9 l)],[(2,[bX p.2.1]),(1,[.p (.sl true 0 [])]),(0,[bX xs])],[(0,⟨108,2,p.2.2.length⟩)]⟩) (λ p=>l.length-p.1) (0,xs,[]) ⟨Nat.zero_le _,rfl,rfl,I⟩ (zX) ?_;rintro⟨i,cur,told⟩ ⟨hi,ea,gV,I⟩;simp only at hi ea gV I;refine(show aP _ _ _ _ ⟨[(9,E i),(8,.aW 0 told.length (g8 told)),(7,.ptr 2 0),(4,.ptr 1 0),(2,.ptr 0 0),(1,m9 l)],[(2,[bX cur]),(1,[.p (.sl true 0 [])]),(0,[bX xs])],[(0,⟨108,2,told.length⟩)]⟩ from ?_);refine go ?_;refine dk (λ A=>?_) (λ A=>?_)<;>try rw[A]
 ·have aU:=of_decide_eq_true A;have dT:i<l.length:=by omega
  obtain⟨a,ha⟩:=nh (l:=l) (i:=i) (by omega) aU;have D:l.drop i=a::l.drop (i+1):=by rw[List.drop_eq_getElem_cons dT];simp only[Int.toNat_natCast] at ha;rw[(List.getElem?_eq_some_iff.1 ha).2]
  have zh:=hs a (List.mem_of_getElem? ha);rw[D,qy,ea,if_pos (Xz zh),afC zh.1] at I;obtain⟨kd,ce,od,nw⟩:=a;obtain⟨F,O,h4,h5⟩:=zh;simp only at F O h4 h5 I;subst F;subst O;refine go ?_;refine gW 14 [] ?_;refine ri [pI 2,pI ce,pI 0,pI nw] (VO ha) ?_;refine gQ (aeb cur ce nw h4 (by omega) (by omega)) ?_;refine go ?_;rw[show decide ((0:Int)=0)=true from rfl];refine go ?_;refine oE (m:=1) (ps:=g8 told) (qs:=[pI (dp cur ce),pB true]) aD rfl rfl rfl rfl rfl rfl rfl rfl rfl rfl rfl rfl rfl (by unfold maxLen;omega) (by show(_+_)*16<=_;omega) ?_;rw[<-ac1 told ⟨dp cur ce,true⟩,show told.length+1=(told++[(⟨dp cur ce,true⟩:aF)]).length by simp];refine go ?_;exact⟨(i+1,cur.set ce.toNat nw,told++[⟨dp cur ce,true⟩]),⟨by simp only;omega,by simp only[List.length_set];exact ea,by simp only[List.length_append,List.length_cons,List.length_nil];omega,I⟩,by simp only;omega,zX⟩
 ·have aU:=of_decide_eq_false A;rw[List.drop_of_length_le (by omega),qy] at I;refine gf ?_;rw[<-I]
theorem uF(l:List aX)(a:aX):c9 l++[pI a.kind,pI a.cell,pI a.dg,pI a.new]=c9 (l++[a]):=by simp[c9,E2]
theorem xJ(l:List aX):(c9 l).length=l.length*4:=by
 induction l with
 |nil=>rfl
 |cons a l ih=>unfold c9 at ih⊢;rw[List.flatMap_cons,List.length_append,ih];simp[E2];omega
theorem BU(l:ah)(a k:Nat):(lF l a k).length=k:=by simp[lF]
theorem RH(l:ah)(a k i:Nat)(h:i<k):(lF l a k).take (i+1)=(lF l a k).take i++[⟨2,aN l ((a:Int)+i) 7,0,if(a:Int)+i=l.nodes then 0 else(a:Int)+i+1⟩]:=by
 rw[List.take_add_one]
 congr 1
 simp[lF,h]
theorem afa{l:ah}{m n:Int}{a:aX}(h:a∈gM l m n):a.kind=2/\a.dg=0:=by simp only[gM,List.mem_cons,List.not_mem_nil,or_false] at h;rcases h with rfl|rfl|rfl|rfl|rfl|rfl|rfl<;>exact⟨rfl,rfl⟩
theorem Ot(CM:List Int):∀(l:List aX)(cur:List Int)(told:List aF),CM.length=cur.length->(qy CM cur told l).1.length=cur.length
 |[],cur,told,h=>rfl
 |a::l,cur,told,h=>by
  rw[qy];split
  ·rw[Ot CM l _ _ (by rw[FE];exact h),FE]
  ·exact h
end Go.Proofs.YtcnefjfboagbmaaGreat
