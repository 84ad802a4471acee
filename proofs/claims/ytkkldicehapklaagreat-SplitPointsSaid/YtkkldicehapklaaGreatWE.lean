/- Cells of a memory, rows that are the same, numbers in a row: their walks. -/
import Derived.Test.YtkkldicehapklaaGreatWA
import Derived.Test.YtkkldicehapklaaGreatLB
import Derived.Test.YtkkldicehapklaaGreatPA
import Derived.Test.YtkkldicehapklaaGreatWB
import Derived.Test.YtkkldicehapklaaGreatWC
namespace Go.Proofs.YtkkldicehapklaaGreat
open Go.Proofs.Tryz
open Go.RowKit
set_option maxRecDepth 100000
theorem Es{xs:List Int}{i:Int}(h0:0<=i)(h:i<xs.length):xs[i.toNat]?=some (eY xs i):=by
 have:i.toNat<xs.length:=by omega
 simp[eY,this]
theorem Em(xs:List Int)(i:Int):bH prog 63 [mG xs,M i] (M (db xs i)):=by
 generalize Y:db xs i=E;unfold db at Y;refine sP func63 ntmps63 λ w cl=>?_
 refine go ?_;generalize h1:decide (i<0)=cc;cases cc
 ·have bB:=of_decide_eq_false h1;refine go ?_;generalize u:decide ((xs.length:Int)<=i)=cc;cases cc
  ·have cj:=of_decide_eq_false u;rw[if_neg (by omega)] at Y;have hg:=Es (xs:=xs) (i:=i) (by omega) (by omega);refine go ?_;refine ai [pI (eY xs i)] (jy hg) ?_;refine gf ?_;rw[<-Y]
  ·rw[if_pos (.inr (of_decide_eq_true u))] at Y;refine gf ?_;rw[<-Y]
 ·rw[if_pos (.inl (of_decide_eq_true h1))] at Y;refine gf ?_;rw[<-Y]
theorem RR(xs:List Int)(i:Int):bH prog 105 [mG xs,M i] (M (db xs i)):=by
 generalize Y:db xs i=E;unfold db at Y;refine sP func105 ntmps105 λ w cl=>?_
 refine go ?_;generalize h1:decide (i<0)=cc;cases cc
 ·have bB:=of_decide_eq_false h1;refine go ?_;generalize u:decide ((xs.length:Int)<=i)=cc;cases cc
  ·have cj:=of_decide_eq_false u;rw[if_neg (by omega)] at Y;have hg:=Es (xs:=xs) (i:=i) (by omega) (by omega);refine go ?_;refine ai [pI (eY xs i)] (jy hg) ?_;refine gf ?_;rw[<-Y]
  ·rw[if_pos (.inr (of_decide_eq_true u))] at Y;refine gf ?_;rw[<-Y]
 ·rw[if_pos (.inl (of_decide_eq_true h1))] at Y;refine gf ?_;rw[<-Y]
theorem Vp(a b:List Int)(ha:a.length<=1000000000):bH prog 24 [ci a,ci b] (dB (decide (a=b))):=by
 refine sP func24 ntmps24 λ w cl=>?_
 refine go ?_;generalize h1:decide ((a.length:Int)=b.length)=cc;cases cc
 ·refine gf ?_;have bB:=of_decide_eq_false h1;have:¬a=b:=λ e=>bB (by rw[e])
  simp[this]
 ·refine go ?_;have sE:=of_decide_eq_true h1;refine d7 (λ n:Nat=>n<=a.length/\a.take n=b.take n) (λ n=>⟨[(5,M n),(0,ci a),(1,ci b)],[],[]⟩) (λ n=>a.length-n) 0 ⟨by omega,by simp⟩ (zX) ?_;rintro n ⟨hn,AP⟩;refine go ?_;refine gY (λ u=>?_) (λ u=>?_)<;>try rw[u]
  ·have aY:=of_decide_eq_true u;obtain⟨x,hx⟩:=sy (l:=a) (i:=n) (by omega) aY;obtain⟨y,hy⟩:=sy (l:=b) (i:=n) (by omega) (by omega);refine go ?_;refine gD [] ?_;refine ri [pI x] (jy hx) ?_;refine bJ ?_;refine ri [pI y] (jy hy) ?_;refine qg ?_;simp only[Int.toNat_natCast] at hx hy;generalize J:decide (x=y)=cc;cases cc
   ·refine gf ?_;have jh:=of_decide_eq_false J;have:¬a=b:=λ e=>jh (by rw[e,hy] at hx;cases hx;rfl)
    simp[this]
   ·refine go ?_;have jh:=of_decide_eq_true J;refine⟨n+1,⟨by omega,?_⟩,by omega,zX⟩;rw[List.take_add_one,List.take_add_one,AP,hx,hy,jh]
  ·refine gf ?_;have iF:=of_decide_eq_false u;rw[List.take_of_length_le (by omega),List.take_of_length_le (by omega)] at AP;simp[AP]
theorem Vl(a:List Int)(v:Int)(ha:a.length<=1000000000):bH prog 84 [ci a,M v] (dB (decide (v∈a))):=by
 refine sP func84 ntmps84 λ w cl=>?_
 refine go ?_;refine d7 (λ n:Nat=>n<=a.length/\v∉a.take n) (λ n=>⟨[(5,M n),(0,ci a),(1,M v)],[],[]⟩) (λ n=>a.length-n) 0 ⟨by omega,by simp⟩ (zX) ?_;rintro n ⟨hn,cv⟩;refine go ?_;refine gY (λ u=>?_) (λ u=>?_)<;>try rw[u]
 ·have aY:=of_decide_eq_true u;obtain⟨x,hx⟩:=sy (l:=a) (i:=n) (by omega) aY;refine go ?_;refine ai [pI x] (jy hx) ?_;refine go ?_;simp only[Int.toNat_natCast] at hx;generalize J:decide (x=v)=cc;cases cc
  ·refine go ?_;have jh:=of_decide_eq_false J;refine⟨n+1,⟨by omega,?_⟩,by omega,zX⟩;rw[List.take_add_one,hx];simp only[Option.toList_some,List.mem_append,List.mem_singleton,not_or];exact⟨cv,λ e=>jh e.symm⟩
  ·refine gf ?_;have jh:=of_decide_eq_true J;have:v∈a:=by rw[<-jh];exact List.mem_of_getElem? hx
   simp[this]
 ·refine gf ?_;have iF:=of_decide_eq_false u;rw[List.take_of_length_le (by omega)] at cv;simp[cv]
theorem G4(n:Int)(b:Bool):bH prog 102 [M n,dB b] (M (if b then n else-1)):=by
 refine sP func102 ntmps102 λ w cl=>?_
 refine go ?_;cases b
 ·refine gf ?_
  rfl
 ·refine gf ?_
  rfl
theorem xw(n a b:Int):bH prog 34 [M n,M a,M b] (dB (decide (a<=n)&&decide (n<=b))):=by
 refine sP func34 ntmps34 λ w cl=>?_
 refine go ?_;generalize h1:decide (a<=n)=cc;cases cc
 ·refine gf ?_
  rfl
 ·refine gf ?_
  rfl
theorem ahb(n:Nat)(hn:n<=100000):bH prog 51 [M n] (mG (List.replicate n 0)):=by
 refine sP func51 ntmps51 λ w cl=>?_
 refine go ?_;refine Ce (V6 aX 1 (c:=n) rfl rfl rfl rfl rfl rfl rfl rfl rfl (by show _*8<=_;omega) (by unfold maxLen;omega)) rfl rfl rfl rfl ?_;refine qo (MC 4 1 (bW (List.replicate n 0)) rfl rfl rfl rfl (by simp) (Nat.le_refl _) (by rw[DA];simp) (by rw[List.take_of_length_le (by simp)];simp[bW];exact .inr rfl) (by unfold maxLen;omega) (Ow _)) ?_;refine gf ?_;simp only[mG,ci,List.length_replicate]
theorem ahD{l:aI}(hL:eT l){n i:Int}(hi:0<=i/\i<8):0<=bf l n i↔1<=n/\n<=l.nodes:=by
 have h1:=hL.node.1;unfold bf jL;split
 ·omega
 ·split<;>omega
structure ak2(n:Int):Prop where
 lo:-9223372036854775808<=n
 hi:n<9223372036854775808
set_option maxHeartbeats 4000000 in
theorem ahH(l:aI)(hL:eT l)(m:List Int)(h:Int):bH prog 62 [iZ l,mG m,M h] (ci (uy l m h)):=by
 generalize Y:uy l m h=E;unfold uy at Y;obtain⟨mT,pN⟩:=hL.nodes;refine sP func62 ntmps62 λ w cl=>?_
 refine Ch ?_;refine HI ?_;refine qv ?_;refine yT ?_;refine Ch ?_;refine HI ?_;refine qv ?_;refine yT ?_;refine iP (xF 7 0 3 1 rfl rfl rfl) ?_;refine aaz rfl rfl rfl rfl rfl rfl rfl rfl λ r=>?_
 refine JN (Gz λ aA bI cR hi=>?_);refine gA (Em m h) ?_;refine cA (rY (db m h)) ?_;refine go ?_;refine Dr ?_;refine JN (Wg ?_);generalize hn:(av (db m h)).idx=n0 at Y;have aeX:n0<65536:=by rw[<-hn];exact(jb (db m h)).2
 refine ahi (λ p:Nat×List Int×Int=>p.1+p.2.1.length=l.nodes.toNat+1/\p.2.1.Nodup/\(∀x∈p.2.1,1<=x/\x<=l.nodes)/\p.2.2<65536/\nX (λ n=>(av (db m (bf l n 0))).idx) l.nodes p.1 p.2.1 p.2.2=E) (λ p=>⟨[(8,.p (.raw (.map (some r)))),(9,M p.2.2),(7,.bP 0 p.2.1.length (bW p.2.1)),(3,.ptr 0 0),(4,.ptr 1 0)],[(1,[ci m]),(0,iK l)],[(0,⟨3,1,p.2.1.length⟩)]⟩) (λ p=>p.2.1) (λ p=>p.1) (l.nodes.toNat+1,[],n0) ⟨by simp,List.nodup_nil,by simp,aeX,Y⟩ rfl (λ aA bI cR=>zX) ?_;rintro⟨k,acc,n⟩ ⟨hk,hnd,dH,gL,Y⟩;simp only at hk hnd dH gL Y;have cx:=Dw l.nodes.toNat acc hnd (λ x hx=>by have:=dH x hx;omega);obtain⟨k,rfl⟩:∃j,k=j+1:=⟨k-1,by omega⟩;rw[nX] at Y;refine(show tq _ _ _ _ _ acc ⟨[(8,.p (.raw (.map (some r)))),(9,M n),(7,.bP 0 acc.length (bW acc)),(3,.ptr 0 0),(4,.ptr 1 0)],[(1,[ci m]),(0,iK l)],[(0,⟨3,1,acc.length⟩)]⟩ from ?_);refine JN (Gz λ aA bI cR hi=>?_);refine gA (rW l hL n 0 (by omega) (by omega)) ?_;have Bf:=ahD hL (n:=n) (i:=0) (by omega);generalize u:decide (bf l n 0>=0)=cc;cases cc
 ·have cj:=of_decide_eq_false u;rw[if_neg (λ hh=>cj (Bf.2 ⟨hh.1,hh.2.1⟩))] at Y;refine go ?_;refine JM (JM (Wb (Dr (Gz λ aA bI cR hi=>?_))));refine gf ?_;rw[<-Y]
 ·have cj:=Bf.1 (of_decide_eq_true u);refine go ?_;refine ZK aX hi rfl underlying147 underlying3 rfl rfl rfl rfl rfl rfl rfl ?_;refine go ?_;generalize J:decide (n∈acc)=cc;cases cc
  ·have jh:=of_decide_eq_false J;rw[if_pos ⟨cj.1,cj.2,jh⟩] at Y;refine go ?_;refine Dr ?_;refine Wg (JN (ahj ?_));refine V4 aX rfl rfl rfl rfl ?_;refine V4 aX rfl rfl rfl rfl ?_;refine ag0 rfl rfl underlying147 underlying3 rfl rfl rfl rfl jh ?_;refine agZ (Dr (Gz λ aA bI cR hi=>?_));refine go ?_;refine pA rfl ?_;rw[DB,show acc.length+1=(acc++[n]).length by simp];refine go ?_;refine dQ [] ?_;refine gQ (rW l hL n 0 (by omega) (by omega)) ?_;refine cQ (Em m (bf l n 0)) ?_;refine gQ (rY (db m (bf l n 0))) ?_;refine go ?_;refine ag9 (Dr ?_);exact⟨(k,acc++[n],(av (db m (bf l n 0))).idx),⟨by simp;omega,by
    rw[List.nodup_append];exact⟨hnd,by simp,λ a ha b hb=>by simp at hb;subst hb;exact λ e=>jh (e▸ha)⟩,λ x hx=>by
    simp only[List.mem_append,List.mem_singleton] at hx;rcases hx with hx|rfl
    ·exact dH x hx
    ·exact cj,(jb _).2,Y⟩,by simp only;omega,rfl,λ aA bI cR=>zX⟩
  ·rw[if_neg (λ hh=>hh.2.2 (of_decide_eq_true J))] at Y;refine go ?_;refine JM (JM (Wb (Dr (Gz λ aA bI cR hi=>?_))));refine gf ?_;rw[<-Y]
theorem LN{nx:Int->Int}{N:Int}:∀(k:Nat)(acc:List Int)(n:Int),(nX nx N k acc n).length<=acc.length+k
 |0,acc,n=>by simp[nX]
 |k+1,acc,n=>by
  rw[nX];split
  ·have:=LN (nx:=nx) (N:=N) k (acc++[n]) (nx n);simp at this;omega
  ·omega
theorem ahG(l:aI)(m:List Int)(h:Int):(uy l m h).length<=l.nodes.toNat+1:=by
 have:=LN (nx:=λ n=>(av (db m (bf l n 0))).idx) (N:=l.nodes) (l.nodes.toNat+1) [] (av (db m h)).idx
 simpa[uy] using this
theorem RS{nx:Int->Int}{N:Int}:∀(k:Nat)(acc:List Int)(n:Int),(∀x∈acc,1<=x/\x<=N)->∀x∈nX nx N k acc n,1<=x/\x<=N
 |0,acc,n,h=>by simpa[nX] using h
 |k+1,acc,n,h=>by
  rw[nX];split
  ·rename_i F;exact RS k (acc++[n]) (nx n) (λ x hx=>by
    simp only[List.mem_append,List.mem_singleton] at hx;rcases hx with hx|rfl
    ·exact h x hx
    ·exact⟨F.1,F.2.1⟩)
  ·exact h
theorem ahF(l:aI)(m:List Int)(h:Int):∀x∈uy l m h,1<=x/\x<=l.nodes:=RS _ _ _ (by simp)
def uF(l:aI)(m:List Int)(aR:List Int):List (Int×Int):=(aR.filter λ n=>!(av (db m (bf l n 0))).mark).map λ n=>(db m (bf l n 1),db m (bf l n 2))
theorem ajG(l:aI)(m:List Int)(aR:List Int):(uF l m aR).length<=aR.length:=by unfold uF;rw[List.length_map];exact List.length_filter_le _ _
theorem ajH(l:aI)(m:List Int)(aR:List Int)(n:Int):uF l m (aR++[n])=if(av (db m (bf l n 0))).mark=true then uF l m aR else uF l m aR++[(db m (bf l n 1),db m (bf l n 2))]:=by
 unfold uF;rw[List.filter_append,List.map_append];split
 ·rename_i h;simp[h]
 ·rename_i h;simp[h]
set_option maxHeartbeats 4000000 in
theorem XX(l:aI)(hL:eT l)(m:List Int)(h:Int):bH prog 26 [iZ l,mG m,M h] (im (uE l m h)):=by
 have Fg:=ahF l m h;have al6:=ahG l m h;have hC:=ahH l hL m h;have Y:uE l m h=uF l m (uy l m h):=rfl;rw[Y];obtain⟨mT,pN⟩:=hL.nodes;generalize uy l m h=ns at*;refine sP func26 ntmps26 λ w cl=>?_
 refine gA hC ?_;refine iP (xF 7 0 87 2 rfl rfl rfl) ?_;refine d7 (λ i:Nat=>i<=ns.length) (λ i=>⟨[(15,M i),(14,M ns.length),(13,ci ns),(7,.bP 0 (uF l m (ns.take i)).length (jo (uF l m (ns.take i)))),(3,.ptr 0 0),(4,.ptr 1 0)],[(1,[ci m]),(0,iK l)],[(0,⟨87,2,(uF l m (ns.take i)).length⟩)]⟩) (λ i=>ns.length-i) 0 (by omega) (zX) ?_;intro i hi;refine go ?_;refine gY (λ h1=>?_) (λ h1=>?_)<;>try rw[h1]
 ·have bB:=of_decide_eq_true h1;obtain⟨n,hn⟩:=sy (l:=ns) (i:=i) (by omega) bB;have lc:=hn;simp only[Int.toNat_natCast] at lc;have c6:=Fg n (List.mem_of_getElem? lc);have jx:=ajH l m (ns.take i) n;have rM:=ajG l m (ns.take i);rw[List.length_take] at rM;rw[show ns.take i++[n]=ns.take (i+1) by rw[List.take_add_one,lc];rfl] at jx;generalize uF l m (ns.take i)=ap at*;refine go ?_;refine ai [pI n] (jy hn) ?_;refine go ?_;refine dQ [] ?_;refine gQ (rW l hL n 0 (by omega) (by omega)) ?_;refine cQ (Em m (bf l n 0)) ?_;refine gQ (rY (db m (bf l n 0))) ?_;refine go ?_;generalize A6:(av (db m (bf l n 0))).mark=mk at*;cases mk
  ·rw[if_neg (by decide)] at jx;refine go ?_;refine dQ [] ?_;refine gQ (rW l hL n 1 (by omega) (by omega)) ?_;refine cQ (Em m (bf l n 1)) ?_;refine gQ (rW l hL n 2 (by omega) (by omega)) ?_;refine cQ (Em m (bf l n 2)) ?_;refine bJ ?_;refine DG aX rfl rfl rfl rfl rfl rfl rfl rfl rfl rfl rfl rfl rfl (by unfold maxLen;omega) (by show(_+_)*16<=_;omega) ?_;rw[show jo ap++[pI (db m (bf l n 1)),pI (db m (bf l n 2))]=jo (ap++[(db m (bf l n 1),db m (bf l n 2))]) by simp[jo,DC],show ap.length+1=(ap++[(db m (bf l n 1),db m (bf l n 2))]).length by simp,<-jx];refine qg ?_;exact⟨i+1,by omega,by omega,zX⟩
  ·rw[if_pos rfl] at jx;refine go ?_;exact⟨i+1,by omega,by omega,by rw[jx];exact zX⟩
 ·have bB:i=ns.length:=by have:=of_decide_eq_false h1;omega
  rw[bB,List.take_length];refine gf ?_
  rfl
section
variable{P:Program}{aq:Nat->Option TI}{Γ:bX}{L bu:St}
theorem abL(T:zp L bu bu.s)(hb:zm L bu bu.b)(hg:zn L bu.g)(dI:zo bu Γ.kb){a:Act}{e:aE}(F:bE Γ L e a):bE Γ bu (e.cut (aL bu.b) (aL bu.g)) a:=by
 have eZ:∀g,aL bu.g g=true->∃aa,e.gi g=some aa/\kv bu.g g=some aa:=λ g h=>by
  unfold aL at h;obtain⟨aa,hG⟩:=Option.isSome_iff_exists.1 h;exact⟨aa,by rw[F.gs];exact hg.get hG,hG⟩
 refine⟨F.size,F.df,λ t d ht=>(F.dj t d (T.get ht).1).cut (T.get ht).2,λ b cs bV=>?_,λ b iT=>?_,λ g=>?_,F.env.kept,F.env.cl,λ b k hk=>?_,λ b c k h1 u=>?_,λ k g hk=>?_,λ b k hk=>?_⟩
 ·obtain⟨k,vs,el,h1,u,J⟩:=F.boxes b cs (hb.get bV).1;refine⟨k,vs,el,?_,u,J.1,λ i v d hv K=>(J.2 i v d hv K).cut (rZ (hb.get bV).2 K)⟩;show(if aL bu.b b=true then e.bx b else none)=_;rw[if_pos (by simp[aL,bV])];exact h1
 ·show(if aL bu.b b=true then e.bx b else none)=_;rw[if_neg (by simp[aL,iT])]
 ·show(if aL bu.g g=true then e.gi g else none)=_;cases Z:kv bu.g g with
  |none=>rw[if_neg (by simp[aL,Z])]
  |some aa=>rw[if_pos (by simp[aL,Z]),F.gs];exact hg.get Z
 ·have cg:(if aL bu.b b=true then e.bx b else none)=some k:=hk;split at cg
  ·obtain⟨h1,u,J,h4⟩:=F.env.bx b k cg;refine⟨h1,u,J,?_⟩;show(match e.gr k with|some g=>if aL bu.g g=true then some g else none|none=>none)=none;rw[h4]
  ·cases cg
 ·have bB:(if aL bu.b b=true then e.bx b else none)=some k:=h1;have cj:(if aL bu.b c=true then e.bx c else none)=some k:=u;split at bB
  ·split at cj
   ·exact F.env.inj b c k bB cj
   ·cases cj
  ·cases bB
 ·have cg:(match e.gr k with|some g=>if aL bu.g g=true then some g else none|none=>none)=some g:=hk;rcases i7:e.gr k with _|g0
  ·rw[i7] at cg;cases cg
  ·rw[i7] at cg;simp only at cg;split at cg
   ·rename_i dk;cases cg;obtain⟨aa,cur,h1,u⟩:=F.env.gr k g i7;exact⟨aa,cur,by show(if aL bu.g g=true then e.gi g else none)=_;rw[if_pos dk];exact h1,u⟩
   ·cases cg
 ·show(if aL bu.b b=true then e.bx b else none)=_;rw[if_pos (dI.get hk)];exact F.env.kb b k hk
end
section
variable{Γ:bX}{s zb:List (Nat×I)}{b qb:List (Nat×List I)}{g sn:List (Nat×Gr)}
theorem Tc(nb j nm:Nat){n c sz:Nat}{cs nk lS Cq:List I}(ps:List Pl)(c6:kv b nb=some nk)(hj:nk[j]?=some (.arr nm 0 n c))(hb:kv b nm=some cs)(K:nk.set j .any=lS)(c7:lS.set j (.p (.sl false n ps))=Cq)
 (T:zp ⟨s,(nb,lS)::b,g⟩ ⟨zb,(nb,lS)::qb,sn⟩ zb)(oZ:zm ⟨s,(nb,lS)::b,g⟩ ⟨zb,(nb,lS)::qb,sn⟩ ((nb,lS)::qb))(CW:zn ⟨s,(nb,lS)::b,g⟩ sn)(dI:zo ⟨zb,(nb,lS)::qb,sn⟩ Γ.kb)(mv:kv ((nb,lS)::qb) nm=none)
 (bV:cs.length=c*sz)(qG:n<=c)(cG:ps.length=n*sz)(mW:cs.take (n*sz)=ps.map I.p)(mp:c<=maxLen)(vk:∀x∈ps,x.lf=true):eI Γ ⟨s,b,g⟩ ⟨zb,(nb,Cq)::qb,sn⟩:=by
 intro a e F;obtain⟨k0,D0,rm,kZ,kA,lv⟩:=F.boxes _ _ c6;have hw:bE Γ ⟨s,(nb,lS)::b,g⟩ e a:=by
  refine⟨F.size,F.df,F.dj,λ aH d hu=>?_,λ aH hu=>?_,F.gs,F.env⟩
  ·simp only[dc] at hu;split at hu
   ·rename_i l4;subst l4;cases hu;refine⟨k0,D0,rm,kZ,kA,by rw[<-K,List.length_set];exact lv.1,λ i v d hv fC=>?_⟩;rw[<-K,List.getElem?_set] at fC;split at fC
    ·split at fC
     ·cases fC;exact .any
     ·cases fC
    ·exact lv.2 i v d hv fC
   ·exact F.boxes aH d hu
  ·simp only[dc] at hu;split at hu
   ·cases hu
   ·exact F.ee aH hu
 have wH:=abL (bu:=⟨zb,(nb,lS)::qb,sn⟩) T oZ CW dI hw;obtain⟨k,vs,el,u,J,h4⟩:=F.boxes nm cs hb;have iD:=F.env.bx nm k u;have dt:∀x,(e.cut (aL ((nb,lS)::qb)) (aL sn)).bx x≠some k:=λ x hx=>by
  have cX:(if aL ((nb,lS)::qb) x=true then e.bx x else none)=some k:=hx;split at cX
  ·rename_i aW;have yC:=F.env.inj _ _ _ cX u;subst yC;unfold aL at aW;rw[mv] at aW;cases aW
  ·cases cX
 have wN:(e.cut (aL ((nb,lS)::qb)) (aL sn)).gr k=none:=by show(match e.gr k with|some g=>if aL sn g=true then some g else none|none=>none)=none;rw[iD.2.2.2]
 obtain⟨h5,Y⟩:=wH.zy (n*sz) iD.2.1 iD.2.2.1 wN dt;refine⟨{e.cut (aL ((nb,lS)::qb)) (aL sn) with cl:=λ j=>if j=k then some (n*sz) else(e.cut (aL ((nb,lS)::qb)) (aL sn)).cl j},rfl,h5.size,h5.df,h5.dj,λ aH d hu=>?_,λ aH hu=>?_,h5.gs,h5.env⟩
 ·simp only[dc] at hu;split at hu
  ·rename_i l4;subst l4;cases hu;obtain⟨k1,akA,ab5,g1,g2,g3⟩:=h5.boxes nb lS (by simp[dc]);have Ig:(if aL ((nb,lS)::qb) nb=true then e.bx nb else none)=some k1:=g1;have hk:k1=k0:=by
    split at Ig
    ·rw[kZ] at Ig;cases Ig;rfl
    ·cases Ig
   subst hk;have Tl:e.w.heap[k1]?=some (.cells akA.toArray ab5 (0,0)):=g2;rw[kA] at Tl;cases Tl;refine⟨k1,D0,rm,g1,g2,by rw[<-c7,List.length_set];exact g3.1,λ i v d hv fC=>?_⟩;rw[<-c7,List.getElem?_set] at fC;split at fC
   ·rename_i i8;subst i8;split at fC
    ·cases fC;have h1:=lv.2 _ v _ hv hj;have cx:vs.length=c*sz:=by rw[h4.1,bV]
     have fD:=Nat.mul_le_mul_right sz qG;have cV:=Py h4 (by rw[cG];exact mW);cases h1 with
     |arr hk=>
      rw[u] at hk;cases hk;refine .p (DT qG mp (λ h=>by cases h) (λ h=>by cases h) (.inr ⟨k,0,rfl,λ j=>vs.getD j undef,λ j x hx=>?_⟩));have hj:=(List.getElem?_eq_some_iff.1 hx).1;have fb:j<vs.length:=by omega
      have mP:vs.getD j undef=vs[j]:=by simp[fb]
      have hu:vs[j]?=some vs[j]:=List.getElem?_eq_getElem fb;have hr:=cV j _ x hu hx;show aE.nY _ k (0+j)/\World.cell? _ ⟨k,0+j,none⟩=some (vs.getD j undef)/\lF (vs.getD j undef)=true/\c5 _ (vs.getD j undef) x;rw[mP,Nat.zero_add];refine⟨λ q hq=>?_,?_,OM hr (vk x (List.mem_of_getElem? hx)),(hr.cut).next Y⟩
      ·have eO:(if k=k then some (n*sz) else e.cl k)=some q:=hq;rw[if_pos rfl] at eO;cases eO;omega
      ·show e.w.cell? _=_;rw[cell_of_row e.w k j vs.toArray el (0,0) J,List.getElem?_toArray];exact hu
    ·cases fC
   ·exact g3.2 i v d hv fC
  ·exact h5.boxes aH d (by simp only[dc];rw[if_neg (by assumption)];exact hu)
 ·simp only[dc] at hu;split at hu
  ·cases hu
  ·exact h5.ee aH (by simp only[dc];rw[if_neg (by assumption)];exact hu)
end
theorem PT(m n:Int)(hn:0<n)(hb:n<4611686018427387904):bH prog 122 [M m,M n] (M (m%n)):=by
 have h:=akq m n hn;have h0:=Int.emod_nonneg m (show n≠0 by omega);have h1:=Int.emod_lt_of_pos m hn;refine sP func122 ntmps122 λ w cl=>?_
 refine go ?_;refine cy (ajt rfl rfl rfl hn) rfl rfl rfl ?_;generalize m.tmod n=k at h;refine go ?_;generalize u:decide (k<0)=cc;cases cc
 ·have cj:=of_decide_eq_false u;refine gf ?_;rw[h.2 cj]
 ·have cj:=of_decide_eq_true u;have J:=h.1 cj;refine gf ?_;rw[<-J]
theorem ajo(n:Int):bH prog 104 [M n] (Ct (av n)):=by
 have h0:=Int.emod_nonneg n (show(35184372088832:Int)≠0 by omega);have h1:=Int.emod_lt_of_pos n (show(0:Int)<35184372088832 by omega);have Y:av n=⟨n%35184372088832%65536,decide (n%35184372088832/65536%2=1),n%35184372088832/131072⟩:=by
  unfold av
  congr 1
  ·omega
  ·rw[decide_eq_decide];omega
  ·omega
 rw[Y];refine sP func104 ntmps104 λ w cl=>?_
 refine go ?_;refine cA (PT n 35184372088832 (by omega) (by omega)) ?_;generalize n%35184372088832=k at*;refine EO ?_;refine cy (PL rfl rfl rfl (by omega) (by omega) (by omega)) rfl rfl rfl ?_;refine EO ?_;refine cy (PL rfl rfl rfl (by omega) (by omega) (by omega)) rfl rfl rfl ?_;refine EO ?_;refine hp ?_
 rfl
theorem BT(l:aI)(hL:eT l)(n i:Int)(hi:0<=i/\i<=7):bH prog 80 [iZ l,M n,M i] (M (bf l n i)):=by
 obtain⟨a1,a2⟩:=hL.node;obtain⟨b1,b2⟩:=hL.nodes;have Y:bf l n i=if(decide (1<=n)&&decide (n<=l.nodes)) then IntKind.i64.wrap (IntKind.i64.wrap (l.node+IntKind.i64.wrap (8*IntKind.i64.wrap (n-1)))+i) else-1:=by
  unfold bf jL;split
  ·rw[if_neg];simp only[Bool.and_eq_true,decide_eq_true_eq];omega
  ·split
   ·rw[if_neg];simp only[Bool.and_eq_true,decide_eq_true_eq];omega
   ·rw[if_pos (by simp only[Bool.and_eq_true,decide_eq_true_eq];omega)];rw[ln (n:=n-1) (by omega) (by omega),ln (n:=8*(n-1)) (by omega) (by omega),ln (n:=l.node+8*(n-1)) (by omega) (by omega),ln (by omega) (by omega)];omega
 have dk:(decide (0<=i)&&decide (i<=7))=true:=by simp only[Bool.and_eq_true,decide_eq_true_eq];omega
 rw[Y];refine sP func80 ntmps80 λ w cl=>?_
 refine go ?_
 by_cases h0:1<=n/\n<=l.nodes
 ·have F:(decide (1<=n)&&decide (n<=l.nodes))=true:=by simp only[Bool.and_eq_true,decide_eq_true_eq];omega
  have e1:=ln (n:=n-1) (by omega) (by omega);have e2:=ln (n:=8*(n-1)) (by omega) (by omega);have e3:=ln (n:=l.node+8*(n-1)) (by omega) (by omega);have e4:=ln (n:=l.node+8*(n-1)+i) (by omega) (by omega);rw[F,e1,e2,e3,e4];refine gD [] ?_;rw[e2];refine bJ ?_;refine cQ (xw n 1 l.nodes) ?_;rw[F];refine bJ ?_;refine cQ (xw i 0 7) ?_;rw[dk];refine gQ (G4 _ true) ?_;refine gf ?_
  rfl
 ·have F:(decide (1<=n)&&decide (n<=l.nodes))=false:=by rw[Bool.eq_false_iff];simp only[ne_eq,Bool.and_eq_true,decide_eq_true_eq];omega
  rw[F];refine gD [] ?_;refine cQ (xw n 1 l.nodes) ?_;rw[F];refine gQ (G4 _ false) ?_;refine gf ?_
  rfl
theorem Xy(l:aI)(hL:eT l)(hM:lN l)(m i:Int)(hi:0<=i/\i<=1):bH prog 81 [iZ l,M m,M i] (M (fq l m i)):=by
 obtain⟨a1,a2⟩:=hL.map;obtain⟨b1,b2⟩:=hM.m;obtain⟨c1,c2⟩:=hM.b;have dk:(decide (0<=i)&&decide (i<=1))=true:=by simp only[Bool.and_eq_true,decide_eq_true_eq];omega
 by_cases h0:0<=m/\m<=l.maps-1
 ·have ud:0<=(l.buckets+2)*m:=Int.mul_nonneg (by omega) (by omega);have wR:(l.buckets+2)*m<=66*1000000:=Int.mul_le_mul (by omega) (by omega) (by omega) (by omega);have Y:fq l m i=l.map+(l.buckets+2)*m+i:=by
   unfold fq jL;rw[if_neg (by omega),if_neg (by omega),show m*(2+l.buckets)=(l.buckets+2)*m by rw[Int.mul_comm,Int.add_comm]]
  have F:(decide (0<=m)&&decide (m<=l.maps-1))=true:=by simp only[Bool.and_eq_true,decide_eq_true_eq];omega
  have e2:=ln (n:=(l.buckets+2)*m) (by omega) (by omega);rw[Y];refine sP func81 ntmps81 λ w cl=>?_
  refine go ?_;refine gD [] ?_;rw[e2];refine bJ ?_;refine cQ (xw m 0 (l.maps-1)) ?_;rw[F];refine bJ ?_;refine cQ (xw i 0 1) ?_;rw[dk];refine gQ (G4 _ true) ?_;refine gf ?_
  rfl
 ·have Y:fq l m i=-1:=by
   unfold fq jL;rw[if_neg (by omega),if_pos (by omega)]
  have F:(decide (0<=m)&&decide (m<=l.maps-1))=false:=by rw[Bool.eq_false_iff];simp only[ne_eq,Bool.and_eq_true,decide_eq_true_eq];omega
  rw[Y];refine sP func81 ntmps81 λ w cl=>?_
  refine go ?_;refine gD [] ?_;refine cQ (xw m 0 (l.maps-1)) ?_;rw[F];refine gQ (G4 _ false) ?_;refine gf ?_
  rfl
theorem ajl(l:aI)(hL:eT l)(hM:lN l)(m b:Int)(hm:0<=m/\m<=l.maps-1)(hb:0<=b/\b<=l.buckets-1):bH prog 82 [iZ l,M m,M b] (M (il l m b)):=by
 obtain⟨a1,a2⟩:=hL.map;obtain⟨b1,b2⟩:=hM.m;obtain⟨c1,c2⟩:=hM.b;have dk:(decide (0<=b)&&decide (b<=l.buckets-1))=true:=by simp only[Bool.and_eq_true,decide_eq_true_eq];omega
 have ud:0<=(l.buckets+2)*m:=Int.mul_nonneg (by omega) (by omega);have wR:(l.buckets+2)*m<=66*1000000:=Int.mul_le_mul (by omega) (by omega) (by omega) (by omega);have Y:il l m b=l.map+(l.buckets+2)*m+2+b:=by unfold il jL;rw[if_neg (by omega),if_neg (by omega),show m*(2+l.buckets)=(l.buckets+2)*m by rw[Int.mul_comm,Int.add_comm]];omega
 have F:(decide (0<=m)&&decide (m<=l.maps-1))=true:=by simp only[Bool.and_eq_true,decide_eq_true_eq];omega
 have e2:=ln (n:=(l.buckets+2)*m) (by omega) (by omega);rw[Y];refine sP func82 ntmps82 λ w cl=>?_
 refine go ?_;refine gD [] ?_;rw[e2];refine bJ ?_;refine cQ (xw m 0 (l.maps-1)) ?_;rw[F];refine bJ ?_;refine cQ (xw b 0 (l.buckets-1)) ?_;rw[dk];refine gQ (G4 _ true) ?_;refine gf ?_
 rfl
theorem ajq(n:Int)(hn:0<=n/\n<65536):bH prog 83 [M n] (M (eh ⟨n,false,0⟩)):=by
 have hP:bH prog 103 [Ct ⟨n,false,0⟩] (M n):=by
  have h1:=PT n 65536 (by omega) (by omega);rw[show n%65536=n by omega] at h1;have u:=PT 0 268435456 (by omega) (by omega);rw[show(0:Int)%268435456=0 from rfl] at u;refine sP func103 ntmps103 λ w cl=>?_
  refine go ?_;refine dQ [] ?_;refine gQ h1 ?_;refine cQ u ?_;refine bJ ?_;refine gf ?_;rw[show IntKind.i64.wrap (n+IntKind.i64.wrap (131072*0))=n by rw[show IntKind.i64.wrap (131072*0)=0 from rfl,Int.add_zero];exact ln (by omega) (by omega)]
 have Y:eh ⟨n,false,0⟩=n:=by unfold eh;simp;omega
 rw[Y];refine sP func83 ntmps83 λ w cl=>?_
 refine gA hP ?_;refine hp ?_
 rfl
abbrev fG(s n b:Int):List I:=[M s,M n,M b,M 1,M 1,M 0,M 1,M 0,M 0]
theorem jp(n a b:Int)(h:a<=n/\n<=b):bH prog 34 [M n,M a,M b] (dB true):=by
 have:=xw n a b
 rwa [show(decide (a<=n)&&decide (n<=b))=true by rw[Bool.and_eq_true];exact⟨decide_eq_true h.1,decide_eq_true h.2⟩] at this
theorem ag4(s n:Int)(T:1<=s/\s<=8):bH prog 33 [.agg (fG s n 1)] (dB true):=by
 refine sP func33 ntmps33 λ w cl=>?_
 refine go ?_;refine d7 (λ i:Nat=>i<=7) (λ i=>⟨[(4,M ((2:Int)^i)),(3,dB (decide (0<i))),(1,.ptr 0 0)],[(0,fG s n 1)],[]⟩) (λ i=>7-i) 0 (by omega) (zX) ?_;intro i hi;rcases(show i=0\/i=1\/i=2\/i=3\/i=4\/i=5\/i=6\/i=7 by omega) with rfl|rfl|rfl|rfl|rfl|rfl|rfl|rfl
 ·refine(show a8 _ _ _ _ ⟨[(4,M 1),(3,dB false),(1,.ptr 0 0)],[(0,fG s n 1)],[]⟩ from ?_);refine go ?_;rw[show decide ((1:Int)<=64)=true from rfl];refine go ?_;rw[show decide ((1:Int)=1)=true from rfl];refine go ?_;exact⟨1,by omega,by omega,zX⟩
 ·refine(show a8 _ _ _ _ ⟨[(4,M 2),(3,dB true),(1,.ptr 0 0)],[(0,fG s n 1)],[]⟩ from ?_);refine go ?_;rw[show decide ((2:Int)<=64)=true from rfl];refine go ?_;exact⟨2,by omega,by omega,zX⟩
 ·refine(show a8 _ _ _ _ ⟨[(4,M 4),(3,dB true),(1,.ptr 0 0)],[(0,fG s n 1)],[]⟩ from ?_);refine go ?_;rw[show decide ((4:Int)<=64)=true from rfl];refine go ?_;exact⟨3,by omega,by omega,zX⟩
 ·refine(show a8 _ _ _ _ ⟨[(4,M 8),(3,dB true),(1,.ptr 0 0)],[(0,fG s n 1)],[]⟩ from ?_);refine go ?_;rw[show decide ((8:Int)<=64)=true from rfl];refine go ?_;exact⟨4,by omega,by omega,zX⟩
 ·refine(show a8 _ _ _ _ ⟨[(4,M 16),(3,dB true),(1,.ptr 0 0)],[(0,fG s n 1)],[]⟩ from ?_);refine go ?_;rw[show decide ((16:Int)<=64)=true from rfl];refine go ?_;exact⟨5,by omega,by omega,zX⟩
 ·refine(show a8 _ _ _ _ ⟨[(4,M 32),(3,dB true),(1,.ptr 0 0)],[(0,fG s n 1)],[]⟩ from ?_);refine go ?_;rw[show decide ((32:Int)<=64)=true from rfl];refine go ?_;exact⟨6,by omega,by omega,zX⟩
 ·refine(show a8 _ _ _ _ ⟨[(4,M 64),(3,dB true),(1,.ptr 0 0)],[(0,fG s n 1)],[]⟩ from ?_);refine go ?_;rw[show decide ((64:Int)<=64)=true from rfl];refine go ?_;exact⟨7,by omega,by omega,zX⟩
 ·refine(show a8 _ _ _ _ ⟨[(4,M 128),(3,dB true),(1,.ptr 0 0)],[(0,fG s n 1)],[]⟩ from ?_);refine go ?_;rw[show decide ((128:Int)<=64)=false from rfl];refine gA (jp s 1 8 T) ?_;refine cA (jp 1 1 8 (by omega)) ?_;refine gA (jp 1 1 64 (by omega)) ?_;refine cA (jp 0 0 16 (by omega)) ?_;refine gA (jp 1 0 8 (by omega)) ?_;refine cA (jp 0 0 8 (by omega)) ?_;refine gA (jp 0 0 8 (by omega)) ?_;refine hp ?_
  rfl
theorem ag5(s n:Int)(T:1<=s/\s<=8):bH prog 33 [.agg (fG s n 2)] (dB true):=by
 refine sP func33 ntmps33 λ w cl=>?_
 refine go ?_;refine d7 (λ i:Nat=>i<=7) (λ i=>⟨[(4,M ((2:Int)^i)),(3,dB (decide (1<i))),(1,.ptr 0 0)],[(0,fG s n 2)],[]⟩) (λ i=>7-i) 0 (by omega) (zX) ?_;intro i hi;rcases(show i=0\/i=1\/i=2\/i=3\/i=4\/i=5\/i=6\/i=7 by omega) with rfl|rfl|rfl|rfl|rfl|rfl|rfl|rfl
 ·refine(show a8 _ _ _ _ ⟨[(4,M 1),(3,dB false),(1,.ptr 0 0)],[(0,fG s n 2)],[]⟩ from ?_);refine go ?_;rw[show decide ((1:Int)<=64)=true from rfl];refine go ?_;rw[show decide ((2:Int)=1)=false from rfl];refine go ?_;exact⟨1,by omega,by omega,zX⟩
 ·refine(show a8 _ _ _ _ ⟨[(4,M 2),(3,dB false),(1,.ptr 0 0)],[(0,fG s n 2)],[]⟩ from ?_);refine go ?_;rw[show decide ((2:Int)<=64)=true from rfl];refine go ?_;rw[show decide ((2:Int)=2)=true from rfl];refine go ?_;exact⟨2,by omega,by omega,zX⟩
 ·refine(show a8 _ _ _ _ ⟨[(4,M 4),(3,dB true),(1,.ptr 0 0)],[(0,fG s n 2)],[]⟩ from ?_);refine go ?_;rw[show decide ((4:Int)<=64)=true from rfl];refine go ?_;exact⟨3,by omega,by omega,zX⟩
 ·refine(show a8 _ _ _ _ ⟨[(4,M 8),(3,dB true),(1,.ptr 0 0)],[(0,fG s n 2)],[]⟩ from ?_);refine go ?_;rw[show decide ((8:Int)<=64)=true from rfl];refine go ?_;exact⟨4,by omega,by omega,zX⟩
 ·refine(show a8 _ _ _ _ ⟨[(4,M 16),(3,dB true),(1,.ptr 0 0)],[(0,fG s n 2)],[]⟩ from ?_);refine go ?_;rw[show decide ((16:Int)<=64)=true from rfl];refine go ?_;exact⟨5,by omega,by omega,zX⟩
 ·refine(show a8 _ _ _ _ ⟨[(4,M 32),(3,dB true),(1,.ptr 0 0)],[(0,fG s n 2)],[]⟩ from ?_);refine go ?_;rw[show decide ((32:Int)<=64)=true from rfl];refine go ?_;exact⟨6,by omega,by omega,zX⟩
 ·refine(show a8 _ _ _ _ ⟨[(4,M 64),(3,dB true),(1,.ptr 0 0)],[(0,fG s n 2)],[]⟩ from ?_);refine go ?_;rw[show decide ((64:Int)<=64)=true from rfl];refine go ?_;exact⟨7,by omega,by omega,zX⟩
 ·refine(show a8 _ _ _ _ ⟨[(4,M 128),(3,dB true),(1,.ptr 0 0)],[(0,fG s n 2)],[]⟩ from ?_);refine go ?_;rw[show decide ((128:Int)<=64)=false from rfl];refine gA (jp s 1 8 T) ?_;refine cA (jp 1 1 8 (by omega)) ?_;refine gA (jp 1 1 64 (by omega)) ?_;refine cA (jp 0 0 16 (by omega)) ?_;refine gA (jp 1 0 8 (by omega)) ?_;refine cA (jp 0 0 8 (by omega)) ?_;refine gA (jp 0 0 8 (by omega)) ?_;refine hp ?_
  rfl
theorem ag6(s n:Int)(T:1<=s/\s<=8):bH prog 33 [.agg (fG s n 4)] (dB true):=by
 refine sP func33 ntmps33 λ w cl=>?_
 refine go ?_;refine d7 (λ i:Nat=>i<=7) (λ i=>⟨[(4,M ((2:Int)^i)),(3,dB (decide (2<i))),(1,.ptr 0 0)],[(0,fG s n 4)],[]⟩) (λ i=>7-i) 0 (by omega) (zX) ?_;intro i hi;rcases(show i=0\/i=1\/i=2\/i=3\/i=4\/i=5\/i=6\/i=7 by omega) with rfl|rfl|rfl|rfl|rfl|rfl|rfl|rfl
 ·refine(show a8 _ _ _ _ ⟨[(4,M 1),(3,dB false),(1,.ptr 0 0)],[(0,fG s n 4)],[]⟩ from ?_);refine go ?_;rw[show decide ((1:Int)<=64)=true from rfl];refine go ?_;rw[show decide ((4:Int)=1)=false from rfl];refine go ?_;exact⟨1,by omega,by omega,zX⟩
 ·refine(show a8 _ _ _ _ ⟨[(4,M 2),(3,dB false),(1,.ptr 0 0)],[(0,fG s n 4)],[]⟩ from ?_);refine go ?_;rw[show decide ((2:Int)<=64)=true from rfl];refine go ?_;rw[show decide ((4:Int)=2)=false from rfl];refine go ?_;exact⟨2,by omega,by omega,zX⟩
 ·refine(show a8 _ _ _ _ ⟨[(4,M 4),(3,dB false),(1,.ptr 0 0)],[(0,fG s n 4)],[]⟩ from ?_);refine go ?_;rw[show decide ((4:Int)<=64)=true from rfl];refine go ?_;rw[show decide ((4:Int)=4)=true from rfl];refine go ?_;exact⟨3,by omega,by omega,zX⟩
 ·refine(show a8 _ _ _ _ ⟨[(4,M 8),(3,dB true),(1,.ptr 0 0)],[(0,fG s n 4)],[]⟩ from ?_);refine go ?_;rw[show decide ((8:Int)<=64)=true from rfl];refine go ?_;exact⟨4,by omega,by omega,zX⟩
 ·refine(show a8 _ _ _ _ ⟨[(4,M 16),(3,dB true),(1,.ptr 0 0)],[(0,fG s n 4)],[]⟩ from ?_);refine go ?_;rw[show decide ((16:Int)<=64)=true from rfl];refine go ?_;exact⟨5,by omega,by omega,zX⟩
 ·refine(show a8 _ _ _ _ ⟨[(4,M 32),(3,dB true),(1,.ptr 0 0)],[(0,fG s n 4)],[]⟩ from ?_);refine go ?_;rw[show decide ((32:Int)<=64)=true from rfl];refine go ?_;exact⟨6,by omega,by omega,zX⟩
 ·refine(show a8 _ _ _ _ ⟨[(4,M 64),(3,dB true),(1,.ptr 0 0)],[(0,fG s n 4)],[]⟩ from ?_);refine go ?_;rw[show decide ((64:Int)<=64)=true from rfl];refine go ?_;exact⟨7,by omega,by omega,zX⟩
 ·refine(show a8 _ _ _ _ ⟨[(4,M 128),(3,dB true),(1,.ptr 0 0)],[(0,fG s n 4)],[]⟩ from ?_);refine go ?_;rw[show decide ((128:Int)<=64)=false from rfl];refine gA (jp s 1 8 T) ?_;refine cA (jp 1 1 8 (by omega)) ?_;refine gA (jp 1 1 64 (by omega)) ?_;refine cA (jp 0 0 16 (by omega)) ?_;refine gA (jp 1 0 8 (by omega)) ?_;refine cA (jp 0 0 8 (by omega)) ?_;refine gA (jp 0 0 8 (by omega)) ?_;refine hp ?_
  rfl
theorem ag7(s n:Int)(T:1<=s/\s<=8):bH prog 33 [.agg (fG s n 8)] (dB true):=by
 refine sP func33 ntmps33 λ w cl=>?_
 refine go ?_;refine d7 (λ i:Nat=>i<=7) (λ i=>⟨[(4,M ((2:Int)^i)),(3,dB (decide (3<i))),(1,.ptr 0 0)],[(0,fG s n 8)],[]⟩) (λ i=>7-i) 0 (by omega) (zX) ?_;intro i hi;rcases(show i=0\/i=1\/i=2\/i=3\/i=4\/i=5\/i=6\/i=7 by omega) with rfl|rfl|rfl|rfl|rfl|rfl|rfl|rfl
 ·refine(show a8 _ _ _ _ ⟨[(4,M 1),(3,dB false),(1,.ptr 0 0)],[(0,fG s n 8)],[]⟩ from ?_);refine go ?_;rw[show decide ((1:Int)<=64)=true from rfl];refine go ?_;rw[show decide ((8:Int)=1)=false from rfl];refine go ?_;exact⟨1,by omega,by omega,zX⟩
 ·refine(show a8 _ _ _ _ ⟨[(4,M 2),(3,dB false),(1,.ptr 0 0)],[(0,fG s n 8)],[]⟩ from ?_);refine go ?_;rw[show decide ((2:Int)<=64)=true from rfl];refine go ?_;rw[show decide ((8:Int)=2)=false from rfl];refine go ?_;exact⟨2,by omega,by omega,zX⟩
 ·refine(show a8 _ _ _ _ ⟨[(4,M 4),(3,dB false),(1,.ptr 0 0)],[(0,fG s n 8)],[]⟩ from ?_);refine go ?_;rw[show decide ((4:Int)<=64)=true from rfl];refine go ?_;rw[show decide ((8:Int)=4)=false from rfl];refine go ?_;exact⟨3,by omega,by omega,zX⟩
 ·refine(show a8 _ _ _ _ ⟨[(4,M 8),(3,dB false),(1,.ptr 0 0)],[(0,fG s n 8)],[]⟩ from ?_);refine go ?_;rw[show decide ((8:Int)<=64)=true from rfl];refine go ?_;rw[show decide ((8:Int)=8)=true from rfl];refine go ?_;exact⟨4,by omega,by omega,zX⟩
 ·refine(show a8 _ _ _ _ ⟨[(4,M 16),(3,dB true),(1,.ptr 0 0)],[(0,fG s n 8)],[]⟩ from ?_);refine go ?_;rw[show decide ((16:Int)<=64)=true from rfl];refine go ?_;exact⟨5,by omega,by omega,zX⟩
 ·refine(show a8 _ _ _ _ ⟨[(4,M 32),(3,dB true),(1,.ptr 0 0)],[(0,fG s n 8)],[]⟩ from ?_);refine go ?_;rw[show decide ((32:Int)<=64)=true from rfl];refine go ?_;exact⟨6,by omega,by omega,zX⟩
 ·refine(show a8 _ _ _ _ ⟨[(4,M 64),(3,dB true),(1,.ptr 0 0)],[(0,fG s n 8)],[]⟩ from ?_);refine go ?_;rw[show decide ((64:Int)<=64)=true from rfl];refine go ?_;exact⟨7,by omega,by omega,zX⟩
 ·refine(show a8 _ _ _ _ ⟨[(4,M 128),(3,dB true),(1,.ptr 0 0)],[(0,fG s n 8)],[]⟩ from ?_);refine go ?_;rw[show decide ((128:Int)<=64)=false from rfl];refine gA (jp s 1 8 T) ?_;refine cA (jp 1 1 8 (by omega)) ?_;refine gA (jp 1 1 64 (by omega)) ?_;refine cA (jp 0 0 16 (by omega)) ?_;refine gA (jp 1 0 8 (by omega)) ?_;refine cA (jp 0 0 8 (by omega)) ?_;refine gA (jp 0 0 8 (by omega)) ?_;refine hp ?_
  rfl
def B9(b:Int):Prop:=b=1\/b=2\/b=4\/b=8
theorem ag8(s n b:Int)(T:1<=s/\s<=8)(hb:B9 b):bH prog 33 [.agg (fG s n b)] (dB true):=by
 rcases hb with rfl|rfl|rfl|rfl
 ·exact ag4 s n T
 ·exact ag5 s n T
 ·exact ag6 s n T
 ·exact ag7 s n T
theorem B9.le{b:Int}(h:B9 b):1<=b/\b<=8:=by rcases h with rfl|rfl|rfl|rfl<;>omega
theorem ajr(l:aI)(h:l.tasks=1):bH prog 35 [iZ l] (M 1):=by
 obtain⟨ar,nodes,buckets,dj,tasks,cells,maps,xA,uZ,done,count,era,free,alive,owner,pZ,Ag,ring,task,cell,map,stack,chan,node,size⟩:=l;simp only at h;subst h;refine sP func35 ntmps35 λ w cl=>?_
 refine go ?_;refine d7 (λ _:Unit=>True) (λ _=>⟨[(4,M 4),(3,M 1),(1,.ptr 0 0)],[(0,iK ⟨ar,nodes,buckets,dj,1,cells,maps,xA,uZ,done,count,era,free,alive,owner,pZ,Ag,ring,task,cell,map,stack,chan,node,size⟩)],[]⟩) (λ _=>0) () trivial (zX) ?_;intro _ _;refine go ?_;rw[show decide ((4:Int)<1)=false from rfl];refine gf ?_
 rfl
theorem ajF:bH prog 36 [M 1] (M 4):=by
 refine sP func36 ntmps36 λ w cl=>?_
 refine go ?_;refine d7 (λ i:Nat=>i<=1) (λ i=>⟨[(0,M 1),(5,M i),(4,M (if i=0 then 4 else 8)),(3,M (if i=0 then 0 else 4))],[],[]⟩) (λ i=>1-i) 0 (by omega) (zX) ?_;intro i hi;rcases(show i=0\/i=1 by omega) with rfl|rfl
 ·refine(show a8 _ _ _ _ ⟨[(0,M 1),(5,M 0),(4,M 4),(3,M 0)],[],[]⟩ from ?_);refine go ?_;rw[show decide ((0:Int)<1)=true from rfl];refine go ?_;exact⟨1,by omega,by omega,zX⟩
 ·refine(show a8 _ _ _ _ ⟨[(0,M 1),(5,M 1),(4,M 8),(3,M 4)],[],[]⟩ from ?_);refine go ?_;rw[show decide ((1:Int)<1)=false from rfl];refine gf ?_
  rfl
set_option maxHeartbeats 4000000 in
theorem ajp(s n b:Int)(T:1<=s/\s<=8)(o0:B9 b)(hn:1<=n/\n<=1000):bH prog 17 [.agg (fG s n b)] (.ca [iZ (bR s n b),M 0]):=by
 obtain⟨jD,oY⟩:=o0.le;refine sP func17 ntmps17 λ w cl=>?_
 refine gA (ag8 s n b T o0) ?_;refine cA (jp n 1 1000 hn) ?_;refine gA (ajr ⟨s,n,b,1,1,0,1,0,0,0,1,2,3,4,0,0,0,0,0,0,0,0,0,0,0⟩ rfl) ?_;rw[show IntKind.i64.wrap (3*s)=3*s from ln (by omega) (by omega)];refine go ?_;refine dW 7 [] ?_;refine gQ ajF ?_;rw[show IntKind.i64.wrap (s*4)=s*4 from ln (by omega) (by omega)];refine go ?_;have ww:∀a b:Int,a=b->0<=b/\b<=100000->IntKind.i64.wrap a=b:=λ a b h u=>by rw[h];exact ln (by omega) (by omega)
 rw[show 4+s+s=4+2*s by omega,ww (4+2*s+3*s) (4+5*s) (by omega) (by omega),ww (4+5*s+3*s) (4+8*s) (by omega) (by omega),ww (4+8*s+s*4) (4+12*s) (by omega) (by omega),ww (4*1) 4 (by omega) (by omega),ww (4+12*s+4) (8+12*s) (by omega) (by omega),ww (8+12*s+0) (8+12*s) (by omega) (by omega),ww (1*(b+2)) (b+2) (by omega) (by omega),ww (8+12*s+(b+2)) (10+12*s+b) (by omega) (by omega),ww (0*(1+1)) 0 (by omega) (by omega),ww (10+12*s+b+0) (10+12*s+b) (by omega) (by omega),ww (2*0) 0 (by omega) (by omega),ww (10+12*s+b+0) (10+12*s+b) (by omega) (by omega),ww (8*n) (8*n) rfl (by omega),ww (10+12*s+b+8*n) (10+12*s+b+8*n) rfl (by omega)];refine hp ?_
 rfl
theorem EM{az:Type}{f:az->List Pl}{k:Nat}(hf:∀x,(f x).length=k):∀{l:List az}{i:Nat}{x:az},l[i]?=some x->∀(m:Nat) q,(f x)[m]?=some q->(l.flatMap f)[i*k+m]?=some q
 |[],i,x,h=>by simp at h
 |y::l,0,x,h=>by
  intro m q hq;simp at h;subst h;rw[List.flatMap_cons,Nat.zero_mul,Nat.zero_add,List.getElem?_append_left (List.getElem?_eq_some_iff.1 hq).1];exact hq
 |y::l,i+1,x,h=>by
  intro m q hq;have ih:=EM hf (l:=l) (i:=i) (x:=x) (by simpa using h) m q hq;rw[List.flatMap_cons,List.getElem?_append_right (by rw[hf,Nat.add_mul];omega),hf,show(i+1)*k+m-k=i*k+m by rw[Nat.add_mul];omega];exact ih
def GP(a:bz):List Pl:=[pI a.kind,pI a.cell,pI a.dL,pI a.new]
def iV(l:List bz):List Pl:=l.flatMap GP
abbrev Ex(l:List bz):I:=.p (.sl false l.length (iV l))
theorem ZW{l:List bz}{i:Int}{a:bz}(h:l[i.toNat]?=some a):∀(m:Nat) q,[pI a.kind,pI a.cell,pI a.dL,pI a.new][m]?=some q->(iV l)[i.toNat*4+m]?=some q:=EM (f:=GP) (k:=4) (λ _=>rfl) h
theorem aiw(g:List aJ)(x:aJ):hs (g++[x])=hs g++[pI x.val,pB x.ok]:=by simp[hs,BN]
theorem ajj(c v:Int)(h:0<=c):bH prog 100 [.agg [M 2,M c,M 0,M v]] (dB true):=by
 refine sP func100 ntmps100 λ w cl=>?_
 refine go ?_;rw[show decide (c<0)=false by rw[decide_eq_false_iff_not];omega];refine gf ?_
 rfl
theorem ajk(xs:List Int)(c v:Int)(h0:0<=c)(h1:c<xs.length)(hn:xs.length<=1000000):bH prog 101 [mG xs,M c,M v] (mG (xs.set c.toNat v)):=by
 refine sP func101 ntmps101 λ w cl=>?_
 refine go ?_;refine Rc aX 9 rfl rfl rfl rfl rfl rfl rfl rfl rfl rfl rfl rfl rfl (by omega) (DA xs) (by unfold maxLen;omega) (by show _*8<=_;omega) (λ aZ aT u J h4 h5 h6=>?_);have T:=Pn h5 c.toNat v;have G:gu (aZ.set c.toNat (M v)):=Pz h6;refine go ?_;refine aj c.toNat 1 ?_;refine sq aX rfl rfl rfl rfl rfl rfl rfl rfl rfl (by omega) ?_;refine qv ?_;refine yT ?_;refine iP (MC 7 9 (bW (xs.set c.toNat v)) rfl rfl rfl rfl (by rw[List.length_set];exact u) h4 (by rw[DA,List.length_set]) T J (Ow _)) ?_;refine gf ?_;simp only[mG,ci,List.length_set]
theorem aji(xs:List Int)(c v:Int)(h0:0<=c)(h1:c<xs.length)(hn:xs.length<=1000000):bH prog 79 [mG xs,.agg [M 2,M c,M 0,M v]] (.ca [mG (xs.set c.toNat v),EA ⟨eY xs c,true⟩,M 0]):=by
 have hx:=Es h0 h1;refine sP func79 ntmps79 λ w cl=>?_
 refine gA (ajj c v h0) ?_;rw[show decide (c>=xs.length)=false by rw[decide_eq_false_iff_not];omega];refine go ?_;refine ai [pI (eY xs c)] (jy hx) ?_;refine go ?_;rw[show decide ((2:Int)=1)=false from rfl];refine go ?_;rw[show decide ((2:Int)=3)=false from rfl];refine go ?_;rw[show decide ((2:Int)=4)=false from rfl];refine gA (ajk xs c v h0 h1 hn) ?_;refine hp ?_
 rfl
theorem aku{xs:List Int}{a:bz}(hk:a.kind=2):iw xs a=(xs.set a.cell.toNat a.new,⟨eY xs a.cell,true⟩):=by unfold iw;rw[if_neg (by omega),if_pos (.inl hk)]
def Q7(n:Nat)(l:List bz):Prop:=∀a∈l,a.kind=2/\a.dL=0/\0<=a.cell/\a.cell<n
theorem acz{n:Nat}{a:bz}(h:a.kind=2/\a.dL=0/\0<=a.cell/\a.cell<n):nl n a=0:=by obtain⟨h1,u,J,h4⟩:=h;unfold nl xy;rw[if_pos (by rw[h1,u];simp[J]),if_neg (by omega)]
theorem ajh(xs:List Int)(l:List bz)(T:Q7 xs.length l)(hn:xs.length<=1000000)(Z:l.length<=100000):bH prog 50 [mG xs,Ex l] (.ca [mG (qn xs xs [] l).1,nZ (qn xs xs [] l).2.1,M (qn xs xs [] l).2.2]):=by
 generalize Y:qn xs xs [] l=E;refine sP func50 ntmps50 λ w cl=>?_
 refine go ?_;refine iP (xF 8 0 105 2 rfl rfl rfl) ?_;refine d7 (λ p:Nat×List Int×List aJ=>p.1<=l.length/\p.2.1.length=xs.length/\p.2.2.length=p.1/\qn xs p.2.1 p.2.2 (l.drop p.1)=E) (λ p=>⟨[(9,M p.1),(8,.bP 0 p.2.2.length (hs p.2.2)),(7,.ptr 2 0),(4,.ptr 1 0),(2,.ptr 0 0),(1,Ex l)],[(2,[ci p.2.1]),(1,[.p (.sl true 0 [])]),(0,[ci xs])],[(0,⟨105,2,p.2.2.length⟩)]⟩) (λ p=>l.length-p.1) (0,xs,[]) ⟨Nat.zero_le _,rfl,rfl,Y⟩ (zX) ?_;rintro⟨i,cur,m5⟩ ⟨hi,dw,iG,Y⟩;simp only at hi dw iG Y;refine(show a8 _ _ _ _ ⟨[(9,M i),(8,.bP 0 m5.length (hs m5)),(7,.ptr 2 0),(4,.ptr 1 0),(2,.ptr 0 0),(1,Ex l)],[(2,[ci cur]),(1,[.p (.sl true 0 [])]),(0,[ci xs])],[(0,⟨105,2,m5.length⟩)]⟩ from ?_);refine go ?_;refine gY (λ h1=>?_) (λ h1=>?_)<;>try rw[h1]
 ·have bB:=of_decide_eq_true h1;have dY:i<l.length:=by omega
  obtain⟨a,ha⟩:=sy (l:=l) (i:=i) (by omega) bB;have K:l.drop i=a::l.drop (i+1):=by rw[List.drop_eq_getElem_cons dY];simp only[Int.toNat_natCast] at ha;rw[(List.getElem?_eq_some_iff.1 ha).2]
  have Og:=T a (List.mem_of_getElem? ha);rw[K,qn,dw,if_pos (acz Og),aku Og.1] at Y;obtain⟨kd,ce,od,nw⟩:=a;obtain⟨u,J,h4,h5⟩:=Og;simp only at u J h4 h5 Y;subst u;subst J;refine go ?_;refine gW 14 [] ?_;refine ri [pI 2,pI ce,pI 0,pI nw] (ZW ha) ?_;refine gQ (aji cur ce nw h4 (by omega) (by omega)) ?_;refine go ?_;rw[show decide ((0:Int)=0)=true from rfl];refine go ?_;refine mg (m:=1) (ps:=hs m5) (qs:=[pI (eY cur ce),pB true]) aX rfl rfl rfl rfl rfl rfl rfl rfl rfl rfl rfl rfl rfl (by unfold maxLen;omega) (by show(_+_)*16<=_;omega) ?_;rw[<-aiw m5 ⟨eY cur ce,true⟩,show m5.length+1=(m5++[(⟨eY cur ce,true⟩:aJ)]).length by simp];refine go ?_;exact⟨(i+1,cur.set ce.toNat nw,m5++[⟨eY cur ce,true⟩]),⟨by simp only;omega,by simp only[List.length_set];exact dw,by simp only[List.length_append,List.length_cons,List.length_nil];omega,Y⟩,by simp only;omega,zX⟩
 ·have bB:=of_decide_eq_false h1;rw[List.drop_of_length_le (by omega),qn] at Y;refine gf ?_;rw[<-Y]
theorem GQ(l:List bz)(a:bz):iV l++[pI a.kind,pI a.cell,pI a.dL,pI a.new]=iV (l++[a]):=by simp[iV,GP]
theorem J4(l:List bz):(iV l).length=l.length*4:=by
 induction l with
 |nil=>rfl
 |cons a l ih=>unfold iV at ih⊢;rw[List.flatMap_cons,List.length_append,ih];simp[GP];omega
theorem Ov(l:aI)(a k:Nat):(pT l a k).length=k:=by simp[pT]
theorem af6(l:aI)(a k i:Nat)(h:i<k):(pT l a k).take (i+1)=(pT l a k).take i++[⟨2,bf l ((a:Int)+i) 7,0,if(a:Int)+i=l.nodes then 0 else(a:Int)+i+1⟩]:=by
 rw[List.take_add_one]
 congr 1
 simp[pT,h]
set_option maxHeartbeats 4000000 in
theorem ajm(l:aI)(hL:eT l)(h1:3<=l.nodes):v6 prog 53 [iZ l,M 2] 64 4 (pg l 2).length (iV (pg l 2)):=by
 have e2:=hL.nodes;obtain⟨mT,pN⟩:=e2;have hN:((l.nodes.toNat+1-2:Nat):Int)=l.nodes-1:=by omega
 generalize adq:l.nodes.toNat+1-2=N at hN;refine MD (t:=4) func53 rfl ntmps53 rfl rfl rfl λ w cl=>?_
 refine go ?_;rw[show decide ((2:Int)<1)=false from rfl];refine go ?_;refine iP (xF 6 0 64 4 rfl rfl rfl) ?_;refine d7 (λ i:Nat=>i+1<=N) (λ i=>⟨[(7,M ((2:Int)+i)),(6,.bP 0 i (iV ((pT l 2 N).take i))),(5,M l.nodes),(1,M 2),(2,.ptr 0 0)],[(0,iK l)],[(0,⟨64,4,i⟩)]⟩) (λ i=>N-i) 0 (by omega) (zX) ?_;intro i hi;have key:∀nx:Int,nx=(if(2:Int)+i=l.nodes then 0 else(2:Int)+i+1)->iV ((pT l 2 N).take i)++[pI 2,pI (bf l ((2:Int)+i) 7),pI 0,pI nx]=iV ((pT l 2 N).take (i+1)):=by
  intro nx A7;rw[af6 l 2 N i (by omega),<-GQ,A7]
  rfl
 refine go ?_;refine gY (λ u=>?_) (λ u=>?_)<;>try rw[u]
 ·have cj:=of_decide_eq_true u;refine gA (BT l hL ((2:Int)+i) 7 (by omega)) ?_;refine pA rfl ?_;rw[key _ (by rw[if_neg (by omega)])];refine go ?_;rw[show(2:Int)+i+1=(2:Int)+((i+1:Nat):Int) by omega];exact⟨i+1,by omega,by omega,zX⟩
 ·have cj:=of_decide_eq_false u;have alX:i+1=N:=by omega
  refine go ?_;rw[show decide ((2:Int)>l.nodes)=false by rw[decide_eq_false_iff_not];omega];refine gA (BT l hL l.nodes 7 (by omega)) ?_;have Jn:iV ((pT l 2 N).take i)++[pI 2,pI (bf l l.nodes 7),pI 0,pI 0]=iV (pT l 2 N):=by have:=key 0 (by rw[if_pos (by omega)]);rw[show(2:Int)+i=l.nodes by omega,show(pT l 2 N).take (i+1)=pT l 2 N from List.take_of_length_le (by rw[Ov];omega)] at this;exact this
  refine pA rfl ?_;rw[Jn];refine go ?_;refine pA rfl ?_;have Y:pg l 2=pT l 2 N++[⟨2,l.free,0,2⟩]:=by unfold pg;rw[adq];rfl
  have cx:(pg l 2).length=i+1+1:=by rw[Y];simp[Ov];omega
  refine go ?_;rw[cx,Y,<-GQ];exact Mt rfl rfl
theorem Vn(l:aI):(pg l 2).length=l.nodes.toNat+1-2+1:=by unfold pg;simp[Ov]
theorem aj5{l:aI}{m n:Int}{a:bz}(h:a∈ig l m n):a.kind=2/\a.dL=0:=by simp only[ig,List.mem_cons,List.not_mem_nil,or_false] at h;rcases h with rfl|rfl|rfl|rfl|rfl|rfl|rfl<;>exact⟨rfl,rfl⟩
set_option maxHeartbeats 8000000 in
theorem ajs(l:aI)(hL:eT l)(hM:lN l)(hm:1<=l.maps)(hb:1<=l.buckets):v6 prog 52 [iZ l,M 0,M 1] 64 4 (ig l 0 1).length (iV (ig l 0 1)):=by
 have cx:(ig l 0 1).length=7:=rfl;refine MD (t:=6) func52 rfl ntmps52 rfl rfl rfl λ w cl=>?_
 refine go ?_;refine dQ [] ?_;refine gQ (BT l hL 1 0 (by omega)) ?_;refine cQ (BT l hL 1 1 (by omega)) ?_;refine gQ (BT l hL 1 2 (by omega)) ?_;refine cQ (BT l hL 1 6 (by omega)) ?_;refine gQ (Xy l hL hM 0 0 (by omega)) ?_;refine cQ (Xy l hL hM 0 1 (by omega)) ?_;refine gQ (ajl l hL hM 0 0 (by omega) (by omega)) ?_;refine gA (ajq 1 (by omega)) ?_;refine iP (xF 9 0 64 4 rfl rfl rfl) ?_;refine d7 (λ i:Nat=>i<=7) (λ i=>⟨[(10,M i),(9,.bP 0 i (iV ((ig l 0 1).take i))),(8,.p (.sl true 7 (bW ((ig l 0 1).map bz.new)))),(7,.p (.sl true 7 (bW ((ig l 0 1).map bz.cell))))],[],[(0,⟨64,4,i⟩)]⟩) (λ i=>7-i) 0 (by omega) (zX) ?_;intro i hi;refine(show a8 _ _ _ _ ⟨[(10,M i),(9,.bP 0 i (iV ((ig l 0 1).take i))),(8,.p (.sl true 7 (bW ((ig l 0 1).map bz.new)))),(7,.p (.sl true 7 (bW ((ig l 0 1).map bz.cell))))],[],[(0,⟨64,4,i⟩)]⟩ from ?_)
 by_cases h1:i=7
 ·subst h1;rw[show(ig l 0 1).take 7=ig l 0 1 from rfl];refine go ?_;rw[show decide (((7:Nat):Int)<7)=false from rfl];refine go ?_;exact Mt rfl rfl
 ·obtain⟨a,ha⟩:∃a,(ig l 0 1)[i]?=some a:=⟨(ig l 0 1)[i]'(by omega),List.getElem?_eq_getElem _⟩;have hk:=aj5 (List.mem_of_getElem? ha);have F:((ig l 0 1).map bz.cell)[(i:Int).toNat]?=some a.cell:=by simp[ha]
  have hv:((ig l 0 1).map bz.new)[(i:Int).toNat]?=some a.new:=by simp[ha]
  have key:iV ((ig l 0 1).take i)++[pI 2,pI a.cell,pI 0,pI a.new]=iV ((ig l 0 1).take (i+1)):=by rw[List.take_add_one,ha,Option.toList_some,<-GQ,hk.1,hk.2]
  generalize(ig l 0 1).map bz.cell=cs at*;generalize(ig l 0 1).map bz.new=vs at*;refine go ?_;rw[show decide ((i:Int)<7)=true by rw[decide_eq_true_eq];omega];refine go ?_;refine gD [] ?_;refine ri [pI a.cell] (jy F) ?_;refine bJ ?_;refine ri [pI a.new] (jy hv) ?_;refine bJ ?_;refine DG (m:=1) aX rfl rfl rfl rfl rfl rfl rfl rfl rfl rfl rfl rfl rfl (by unfold maxLen;omega) (by show(_+_)*32<=_;omega) ?_;rw[key];refine qg ?_;exact⟨i+1,by omega,by omega,zX⟩
theorem adT(l:aI):(tR l).length=7+(l.nodes.toNat+1-2+1)+1:=by unfold tR;rw[List.length_append,List.length_append,Vn l];rfl
theorem Jp{s n b:Int}(T:1<=s/\s<=8)(hb:1<=b/\b<=8)(hn:0<=n/\n<=1000):eT (bR s n b):=by refine⟨?_,?_,?_,?_,?_,?_,?_,?_,?_,?_,?_,?_,?_⟩<;>simp only[bR,mZ]<;>omega
theorem Jo{s n b:Int}(hb:1<=b/\b<=8):lN (bR s n b):=by refine⟨?_,?_,?_⟩<;>simp only[bR,mZ]<;>omega
theorem adS{s n b:Int}(T:1<=s/\s<=8)(hb:1<=b/\b<=8)(hn:3<=n/\n<=1000):Q7 (bR s n b).size.toNat (tR (bR s n b)):=by
 have hsz:(((bR s n b).size.toNat:Nat):Int)=10+12*s+b+8*n:=by simp only[bR];omega
 intro a ha;rw[hsz];unfold tR pg pT at ha;have hnd:∀i:Int,0<=i/\i<=7->bf (bR s n b) 1 i=10+12*s+b+i:=λ i hi=>by
  unfold bf jL;rw[if_neg (by omega),if_neg (by show¬(_\/n<=_\/_\/_);omega)];show 10+12*s+b+_*8+i=_;omega
 have IQ:∀i:Int,0<=i/\i<=1->fq (bR s n b) 0 i=8+12*s+i:=λ i hi=>by
  unfold fq jL;rw[if_neg (by omega),if_neg (by show¬(_\/(1:Int)<=_\/_\/2+b<=_);omega)];show 8+12*s+0*(2+b)+i=_;omega
 have o0:il (bR s n b) 0 0=8+12*s+2:=by unfold il jL;rw[if_neg (by show¬(_\/b<=_);omega),if_neg (by show¬(_\/(1:Int)<=_\/_\/2+b<=_);omega)];show 8+12*s+0*(2+b)+(2+0)=_;omega
 simp only[ig,hnd 0 (by omega),hnd 1 (by omega),hnd 2 (by omega),hnd 6 (by omega),IQ 0 (by omega),IQ 1 (by omega),o0,List.mem_append,List.mem_map,List.mem_range,List.mem_cons,List.not_mem_nil,or_false] at ha;rcases ha with((rfl|rfl|rfl|rfl|rfl|rfl|rfl)|⟨i,hi,rfl⟩|rfl)|rfl
 iterate 7 (refine⟨rfl,rfl,?_⟩;simp only;omega)
 ·refine⟨rfl,rfl,?_⟩;have qC:(i:Int)<n-1:=by simp only[bR] at hi;omega
  have fe:bf (bR s n b) (((2:Nat):Int)+i) 7=10+12*s+b+8*(i+1)+7:=by unfold bf jL;rw[if_neg (by omega),if_neg (by show¬(_\/n<=_\/_\/_);omega)];show 10+12*s+b+_*8+7=_;omega
  simp only[fe];omega
 ·refine⟨rfl,rfl,?_⟩;simp only[bR];omega
 ·refine⟨rfl,rfl,?_⟩;simp only[bR];omega
theorem Ri(D4:List Int):∀(l:List bz)(cur:List Int)(m5:List aJ),D4.length=cur.length->(qn D4 cur m5 l).1.length=cur.length
 |[],cur,m5,h=>rfl
 |a::l,cur,m5,h=>by
  rw[qn];split
  ·rw[Ri D4 l _ _ (by rw[Hi];exact h),Hi]
  ·exact h
theorem adU(l:aI):(tS l).length=l.size.toNat:=by unfold tS;rw[Ri _ _ _ _ rfl];simp
def J5(o:a9):List Pl:=[pI o.kind,pI o.obj,pI o.a,pI o.b]
def WU(l:List a9):List Pl:=l.flatMap J5
abbrev r7(l:List a9):Pl:=.sl false l.length (WU l)
abbrev Sc(w:List (List a9)):I:=.p (.sl false w.length (w.map r7))
abbrev p8(n:Int):Pl:=.raw (.int .u8 n)
abbrev abv(t:List Int):I:=.p (.sl false t.length (t.map p8))
set_option maxHeartbeats 4000000 in
theorem ajn(l:aI)(hL:eT l)(m:List Int):bH prog 85 [iZ l,mG m] (ci (vD l m)):=by
 generalize Y:vD l m=E;unfold vD at Y;obtain⟨mT,pN⟩:=hL.nodes;refine sP func85 ntmps85 λ w cl=>?_
 refine gA (RR m l.free) ?_;refine cA (ajo (db m l.free)) ?_;refine go ?_;generalize(av (db m l.free)).idx=n0 at Y;refine iP (xF 5 0 3 1 rfl rfl rfl) ?_;refine d7 (λ p:Nat×List Int×Int=>p.1+p.2.1.length=l.nodes.toNat+1/\nX (λ n=>db m (bf l n 7)) l.nodes p.1 p.2.1 p.2.2=E) (λ p=>⟨[(7,M p.2.2),(5,.bP 0 p.2.1.length (bW p.2.1)),(2,.ptr 0 0),(3,.ptr 1 0)],[(1,[ci m]),(0,iK l)],[(0,⟨3,1,p.2.1.length⟩)]⟩) (λ p=>p.1) (l.nodes.toNat+1,[],n0) ⟨by simp,Y⟩ (zX) ?_;rintro⟨k,acc,n⟩ ⟨hk,Y⟩;simp only at hk Y;refine(show a8 _ _ _ _ ⟨[(7,M n),(5,.bP 0 acc.length (bW acc)),(2,.ptr 0 0),(3,.ptr 1 0)],[(1,[ci m]),(0,iK l)],[(0,⟨3,1,acc.length⟩)]⟩ from ?_);refine go ?_;refine gY (λ u=>?_) (λ u=>?_)<;>try rw[u]
 ·have cj:=of_decide_eq_true u;obtain⟨k,rfl⟩:∃j,k=j+1:=⟨k-1,by omega⟩;rw[nX] at Y;refine gA (Vl acc n (by omega)) ?_;generalize J:decide (n<1)=cc;cases cc
  ·have jh:=of_decide_eq_false J;refine go ?_;generalize h4:decide (n>l.nodes)=cc;cases cc
   ·have sA:=of_decide_eq_false h4;refine go ?_;generalize h5:decide (n∈acc)=cc;cases cc
    ·rw[if_pos ⟨by omega,by omega,of_decide_eq_false h5⟩] at Y;refine go ?_;refine pA rfl ?_;rw[DB,show acc.length+1=(acc++[n]).length by simp];refine go ?_;refine dQ [] ?_;refine gQ (BT l hL n 7 (by omega)) ?_;refine cQ (RR m (bf l n 7)) ?_;refine qg ?_;exact⟨(k,acc++[n],db m (bf l n 7)),⟨by simp;omega,Y⟩,by simp only;omega,zX⟩
    ·rw[if_neg (λ hh=>hh.2.2 (of_decide_eq_true h5))] at Y;refine gf ?_;rw[<-Y]
   ·have sA:=of_decide_eq_true h4;rw[if_neg (λ hh=>by omega)] at Y;refine gf ?_;rw[<-Y]
  ·have jh:=of_decide_eq_true J;rw[if_neg (λ hh=>by omega)] at Y;refine gf ?_;rw[<-Y]
 ·have cj:=of_decide_eq_false u;obtain rfl:k=0:=by omega
  rw[nX] at Y;refine gf ?_;rw[<-Y]
abbrev nN(want:List (List a9))(turns:List Int):List I:=[Sc want,abv turns]
abbrev wj(want:List (List a9))(turns:List Int):I:=.agg (nN want turns)
theorem yG{az:Type}{f:az->Pl}{l:List az}{i:Int}{x:az}(h:l[i.toNat]?=some x):∀(m:Nat) q,[f x][m]?=some q->(l.map f)[i.toNat*1+m]?=some q:=by
 intro m q hq;cases m with
 |zero=>simp at hq;subst hq;rw[Nat.mul_one,Nat.add_zero,List.getElem?_map,h];rfl
 |succ m=>simp at hq
theorem WG{l:List a9}{i:Int}{o:a9}(h:l[i.toNat]?=some o):∀(m:Nat) q,[pI o.kind,pI o.obj,pI o.a,pI o.b][m]?=some q->(WU l)[i.toNat*4+m]?=some q:=EM (f:=J5) (k:=4) (λ _=>rfl) h
theorem all_false{az:Type}{f:az->Bool}{l:List az}{i:Nat}{x:az}(h:l[i]?=some x)(hf:f x=false):l.all f=false:=by rw[List.all_eq_false];exact⟨x,List.mem_of_getElem? h,by simp[hf]⟩
theorem Rj{az:Type}{f:az->Bool}{l:List az}{i:Nat}{x:az}(h:l[i]?=some x)(hf:f x=true)(ht:(l.take i).all f=true):(l.take (i+1)).all f=true:=by rw[List.take_add_one,h,List.all_append,ht];simp[hf]
theorem akf{l:List Nat}{i:Nat}{x:Nat}(h:l[i]?=some x):(l.take (i+1)).sum=(l.take i).sum+x:=by rw[List.take_add_one,h];simp
theorem akg(l:List Nat)(i:Nat):(l.take i).sum<=l.sum:=by rw[<-List.take_append_drop i l,List.sum_append,List.take_append_drop];omega
def gx(k:Int):Int:=if k%4=0 then 1 else if k%4=1 then 2 else if k%4=2 then 4 else 8
theorem RH(k:Int):B9 (gx k):=by
 unfold gx B9;split
 ·exact .inl rfl
 ·split
  ·exact .inr (.inl rfl)
  ·split
   ·exact .inr (.inr (.inl rfl))
   ·exact .inr (.inr (.inr rfl))
theorem aaT(k:Int):∀(m:Nat) q,[pI (gx k)][m]?=some q->[pI 1,pI 2,pI 4,pI 8][(k%4).toNat*1+m]?=some q:=by
 intro m q hq;have h0:=Int.emod_nonneg k (show(4:Int)≠0 by omega);have h1:=Int.emod_lt_of_pos k (show(0:Int)<4 by omega);unfold gx at hq;cases m with
 |zero=>rcases(show k%4=0\/k%4=1\/k%4=2\/k%4=3 by omega) with h|h|h|h<;>rw[h] at hq⊢<;>exact hq
 |succ m=>simp at hq
theorem QQ(s k:Int)(T:1<=s/\s<=3)(hk:0<=k/\k<=255):bH prog 11 [M s,dK .u8 k] (iZ (bR s (16+gx k) (gx k))):=by
 have hb:=(RH k).le;refine sP func11 ntmps11 λ w cl=>?_
 refine EO ?_;refine ai [pI (gx k)] (aaT k) ?_;refine gA (ajp s (16+gx k) (gx k) (by omega) (RH k) (by omega)) ?_;refine hp ?_
 rfl
def CC(x:bp):Nat:=x.gone.length+(if x.op.kind=0 then 0 else x.log.length)
theorem Tr{x:bp}:x.gone.length<=CC x:=Nat.le_add_right _ _
structure kU(k N:Nat)(t:cP):Prop where
 m:t.m.length=N
 log:∀x∈t.ar,x.log.length<=k
 steps:∀x∈t.ar,x.steps.length<=k
 next:∀x∈t.ar,x.next<=k
 gone:∀x∈t.ar,CC x<=k/\js x.gone
 step:0<=t.step/\t.step<=k
 full:0<=t.full/\t.full<=k
 calls:t.calls.length<=k
theorem kU.mono{k j N:Nat}{t:cP}(h:kU k N t)(ke:k<=j):kU j N t:=
 ⟨h.m,λ x hx=>Nat.le_trans (h.log x hx) ke,λ x hx=>Nat.le_trans (h.steps x hx) ke,λ x hx=>Nat.le_trans (h.next x hx) ke,λ x hx=>⟨Nat.le_trans (h.gone x hx).1 ke,(h.gone x hx).2⟩,⟨h.step.1,by have:=h.step.2;omega⟩,⟨h.full.1,by have:=h.full.2;omega⟩,Nat.le_trans h.calls ke⟩
structure Le(k:Nat)(x:bp):Prop where
 log:x.log.length<=k
 steps:x.steps.length<=k
 next:x.next<=k
 gone:CC x<=k/\js x.gone
theorem kU.iv{k N:Nat}{t:cP}(h:kU k N t){w:Nat}{x:bp}(hx:t.ar[w]?=some x):Le k x:=
 ⟨h.log x (List.mem_of_getElem? hx),h.steps x (List.mem_of_getElem? hx),h.next x (List.mem_of_getElem? hx),h.gone x (List.mem_of_getElem? hx)⟩
theorem kU.set{k j N:Nat}{t fA:cP}(h:kU k N t)(ke:k<=j){w:Nat}{y:bp}(hy:Le j y)(T:fA.ar=t.ar.set w y)(hm:fA.m.length=t.m.length)(h1:0<=fA.step/\fA.step<=j)(u:0<=fA.full/\fA.full<=j)(J:fA.calls.length<=j):kU j N fA:=by
 have qE:∀z∈fA.ar,z∈t.ar\/z=y:=λ z hz=>List.mem_or_eq_of_mem_set (by rw[<-T];exact hz)
 refine⟨hm.trans h.m,λ z hz=>?_,λ z hz=>?_,λ z hz=>?_,λ z hz=>?_,h1,u,J⟩
 ·rcases qE z hz with hz|rfl
  ·exact Nat.le_trans (h.log z hz) ke
  ·exact hy.log
 ·rcases qE z hz with hz|rfl
  ·exact Nat.le_trans (h.steps z hz) ke
  ·exact hy.steps
 ·rcases qE z hz with hz|rfl
  ·exact Nat.le_trans (h.next z hz) ke
  ·exact hy.next
 ·rcases qE z hz with hz|rfl
  ·exact⟨Nat.le_trans (h.gone z hz).1 ke,(h.gone z hz).2⟩
  ·exact hy.gone
theorem acb{k N:Nat}{t:cP}{w:Nat}{x:bp}{out:bd}(h:kU k N t)(hx:x.log.length<=k+1/\x.steps.length<=k+1/\x.next<=k+1)(hg:out.gone.length<=k+1/\js out.gone):kU (k+1) N (jw t w x out):=by
 have hy:Le (k+1) {x with op:=gZ,gone:=out.gone}:=⟨hx.1,hx.2.1,hx.2.2,by show out.gone.length+0<=_;omega,hg.2⟩;have h1:=h.step;have u:=h.full;have J:=h.calls;unfold jw;simp only;split
 ·exact h.set (by omega) hy rfl rfl ⟨h1.1,by simp only;omega⟩ ⟨by simp only;omega,by simp only;omega⟩ (by simp only;omega)
 ·split
  ·exact h.set (by omega) hy rfl rfl ⟨h1.1,by simp only;omega⟩ ⟨u.1,by simp only;omega⟩ (by simp only;omega)
  ·exact h.set (by omega) hy rfl rfl ⟨h1.1,by simp only;omega⟩ ⟨u.1,by simp only;omega⟩ (by simp only[List.length_append,List.length_cons,List.length_nil];omega)
theorem We{k N:Nat}{l:aI}{t:cP}{w:Nat}{x:bp}(h:kU k N t)(h0:x.log.length<=k)(h1:x.steps.length<=k)(u:x.next<=k+1)(J:x.gone.length+x.log.length<=k/\js x.gone)(hS:0<=l.ar):kU (k+1) N (lB l t w x):=by
 have T:=h.step;have hf:=h.full;have F:=h.calls;unfold lB;simp only;split
 ·rename_i K;have wM:=ae0 hS K J.2;exact acb h ⟨by omega,by omega,u⟩ ⟨by omega,wM.1⟩
 ·split
  ·exact h.set (by omega) (y:={x with log:=x.log++[(iw t.m (oq l w x.gone x.op x.log).1).2],steps:=x.steps++[t.step]}) ⟨by simp;omega,by simp;omega,u,by unfold CC;simp only;split<;>simp<;>omega,J.2⟩ rfl (Hi _ _) ⟨by simp only;omega,by simp only;omega⟩ ⟨hf.1,by simp only;omega⟩ (by simp only;omega)
  ·exact h.set (by omega) (y:={x with op:=gZ}) ⟨by simp only;omega,by simp only;omega,u,by show x.gone.length+0<=_;omega,J.2⟩ rfl rfl ⟨T.1,by simp only;omega⟩ ⟨hf.1,by simp only;omega⟩ (by simp only;omega)
theorem Y0{k N:Nat}{l:aI}{want:List (List a9)}{t:cP}{w:Nat}(h:kU k N t)(hS:0<=l.ar):kU (k+1) N (kJ l want t w):=by
 unfold kJ;split
 ·rename_i x ws hx hw;have hb:=h.iv hx;split
  ·split
   ·exact h.mono (by omega)
   ·exact We h (by simp) (by simp) (by have:=hb.next;simp only;omega) ⟨by have:=hb.gone.1;have:=Tr (x:=x);simp only[List.length_nil];omega,hb.gone.2⟩ hS
  ·rename_i hk;exact We h hb.log hb.steps (by have:=hb.next;omega) ⟨by have:=hb.gone.1;rw[CC,if_neg hk] at this;exact this,hb.gone.2⟩ hS
 ·exact h.mono (by omega)
theorem ab9{t:cP}{w:Nat}{x:bp}{out:bd}:(jw t w x out).ar.length=t.ar.length:=by
 unfold jw;simp only;split
 ·simp
 ·split<;>simp
theorem YY{l:aI}{want:List (List a9)}{t:cP}{w:Nat}:(kJ l want t w).ar.length=t.ar.length:=by
 have hm:∀x,(lB l t w x).ar.length=t.ar.length:=λ x=>by
  unfold lB;simp only;split
  ·exact ab9
  ·split<;>simp
 unfold kJ;split
 ·split
  ·split
   ·rfl
   ·exact hm _
  ·exact hm _
 ·rfl
abbrev fK(ss:List bp):List I:=ss.flatMap λ x=>uz x.op
abbrev kh(ss:List bp):List I:=ss.map λ x=>nZ x.log
abbrev j4(ss:List bp):List I:=ss.map λ x=>ci x.steps
abbrev jz(ss:List bp):List I:=ss.map λ x=>M x.next
abbrev kB(ss:List bp):List I:=ss.map λ x=>im x.gone
abbrev GR(c:cw):List Pl:=[pI c.au,pI c.op.kind,pI c.op.obj,pI c.op.a,pI c.op.b,pI c.val,pB c.is,pI c.first,pI c.last,pI c.aD]
def iM(l:List cw):List Pl:=l.flatMap GR
abbrev yZ(t:cP)(n:Nat)(cd:I):List I:=[ci t.m,M t.step,.arr 31 0 n n,.arr 32 0 n n,.arr 33 0 n n,.arr 34 0 n n,.arr 35 0 n n,cd,M t.full,dB t.cD,dB t.bad]
abbrev fV(t:cP)(n:Nat)(cd:I)(cs:List I):cn:=[(30,yZ t n cd),(31,fK t.ar),(32,kh t.ar),(33,j4 t.ar),(34,jz t.ar),(35,kB t.ar),(36,cs)]
structure lJ(calls:List cw)(cd:I)(cs:List I):Prop where
 pl:gu cs
 at_:(calls=[]/\cd=.p (.sl true 0 []))\/∃c,cd=.arr 36 0 calls.length c/\cs.length=c*10/\calls.length<=c/\c<=maxLen/\cs.take (calls.length*10)=(iM calls).map I.p
theorem BM(l:List cw):(iM l).length=l.length*10:=by
 induction l with
 |nil=>rfl
 |cons a l ih=>unfold iM at ih⊢;rw[List.flatMap_cons,List.length_append,ih];simp[GR];omega
theorem air(l:List cw)(c:cw):iM l++GR c=iM (l++[c]):=by simp[iM]
theorem lJ.ok{calls:List cw}{cd:I}{cs:List I}(h:lJ calls cd cs)(B aa:Nat->Bool)(hB:B 36=true):cd.ok B aa=true:=by
 rcases h.at_ with⟨_,rfl⟩|⟨c,rfl,_⟩
 ·rfl
 ·exact hB
theorem J7{f:bp->I}(hf:∀x B aa,(f x).ok B aa=true)(l:List bp):gu (l.map f):=by
 intro B aa;induction l with
 |nil=>rfl
 |cons x l ih=>simp only[List.map_cons,I.ok.fy,hf,Bool.true_and];exact ih
theorem kO(l:List bp):gu (fK l):=by
 intro B aa;induction l with
 |nil=>rfl
 |cons x l ih=>rw[fK,List.flatMap_cons];exact ih
theorem kL(l:List bp):gu (kh l):=J7 (λ _ _ _=>rfl) l
theorem kR(l:List bp):gu (j4 l):=J7 (λ _ _ _=>rfl) l
theorem kN(l:List bp):gu (jz l):=J7 (λ _ _ _=>rfl) l
theorem kD(l:List bp):gu (kB l):=J7 (λ _ _ _=>rfl) l
theorem JY(l:List bp):(fK l).length=l.length*4:=by
 induction l with
 |nil=>rfl
 |cons a l ih=>rw[fK,List.flatMap_cons,List.length_append];simp only[List.length_cons,List.length_nil];rw[show(List.flatMap (λ x:bp=>uz x.op) l).length=l.length*4 from ih];omega
theorem JX:∀{l:List bp}{i:Nat}{x:bp},l[i]?=some x->∃rest,(fK l).drop (i*4)=uz x.op++rest
 |[],i,x,h=>by simp at h
 |y::l,0,x,h=>by
  simp at h;subst h;exact⟨_,by rw[Nat.zero_mul,List.drop_zero,fK,List.flatMap_cons]⟩
 |y::l,i+1,x,h=>by
  obtain⟨r,hr⟩:=JX (l:=l) (i:=i) (x:=x) (by simpa using h);refine⟨r,?_⟩;rw[fK,List.flatMap_cons,show(i+1)*4=4+i*4 by omega,<-List.drop_drop];exact hr
theorem JZ:∀{l:List bp}{i:Nat}(x:bp),i<l.length->stored (fK l) (i*4) (uz x.op)=fK (l.set i x)
 |[],i,x,h=>by simp at h
 |y::l,0,x,h=>by
  unfold stored;rw[List.set_cons_zero,fK,fK,List.flatMap_cons,List.flatMap_cons]
  rfl
 |y::l,i+1,x,h=>by
  have ih:=JZ (l:=l) (i:=i) x (by simpa using h);unfold stored at ih⊢;rw[List.set_cons_succ,fK,fK,List.flatMap_cons,List.flatMap_cons,<-fK,<-fK,<-ih,show(i+1)*4=(i*4)+4 by omega]
  rfl
theorem uw{az:Type}{f:bp->az}{l:List bp}{i:Nat}{x y:bp}(hx:l[i]?=some x)(h:f y=f x):(l.set i y).map f=l.map f:=by
 rw[List.map_set,h];refine List.ext_getElem? λ j=>?_
 rw[List.getElem?_set];split
 ·rename_i hj;subst hj;rw[List.length_map,List.getElem?_map,hx,if_pos (List.getElem?_eq_some_iff.1 hx).1]
  rfl
 ·rfl
theorem aia{l:List bp}{i:Nat}{x y:bp}(hx:l[i]?=some x)(h:y.op=x.op):fK (l.set i y)=fK l:=by have:=uw (f:=λ x:bp=>uz x.op) hx (by rw[h]);rw[fK,fK,List.flatMap_def,List.flatMap_def,this]
theorem Cn{f:bp->I}{l:List bp}{i:Nat}{x:bp}(hx:l[i]?=some x):(l.map f)[i]?=some (f x):=by rw[List.getElem?_map,hx];rfl
theorem Et{f:bp->I}(hf:∀x,oG (f x)=f x){l:List bp}{i:Nat}{y:bp}{d:I}(K:oG d=f y):((l.map f).set i d).map oG=(l.set i y).map f:=by
 rw[List.map_set,List.map_map,List.map_set,K]
 congr 1
 exact List.map_congr_left λ x _=>hf x
theorem m4{t:cP}{n:Nat}{cd:I}{cs:List I}{calls:List cw}(h:lJ calls cd cs)(B aa:Nat->Bool)(h1:B 31=true)(u:B 32=true)(J:B 33=true)(h4:B 34=true)(h5:B 35=true)(h6:B 36=true):I.ok.fy B aa (yZ t n cd)=true:=by have h7:=h.ok B aa h6;simp only[I.ok.fy,I.ok,h1,u,J,h4,h5,h7,Bool.true_and]
theorem afv{t:cP}{n:Nat}{cd:I}{cs Cq:List I}{calls:List cw}(h:lJ calls cd Cq):I.ok.fy (aL (fV t n cd cs)) (λ _=>false) (yZ t n cd)=true:=by
 have h1:=h.ok (aL (fV t n cd cs)) (λ _=>false) rfl;show(true&&(true&&(true&&(true&&(true&&(true&&(true&&(I.ok (aL (fV t n cd cs)) (λ _=>false) cd&&(true&&(true&&(true&&true)))))))))))=true;rw[h1]
 rfl
theorem nT{L:St}{t:cP}{n:Nat}{cd:I}{cs:List I}{calls:List cw}(h:lJ calls cd cs)(h0:kv L.b 30=some (yZ t n cd))(h1:kv L.b 31=some (fK t.ar))(u:kv L.b 32=some (kh t.ar))(J:kv L.b 33=some (j4 t.ar))(h4:kv L.b 34=some (jz t.ar))(h5:kv L.b 35=some (kB t.ar))(h6:kv L.b 36=some cs):jQ L (aL (fV t n cd cs)) (fV t n cd cs):=
 ⟨⟨h0,afv h⟩,⟨h1,kO _ _ _⟩,⟨u,kL _ _ _⟩,⟨J,kR _ _ _⟩,⟨h4,kN _ _ _⟩,⟨h5,kD _ _ _⟩,⟨h6,h.pl _ _⟩,trivial⟩
theorem aaa(a:List Int)(v:Int):(a.any λ x=>decide (x=v))=decide (v∈a):=by
 rw[Bool.eq_iff_iff,List.any_eq_true,decide_eq_true_iff];constructor
 ·rintro⟨x,hx,h⟩;have:=of_decide_eq_true h;subst this;exact hx
 ·intro h;exact⟨v,h,decide_eq_true rfl⟩
theorem agD(l:aI)(m:List Int):(vD l m).length<=l.nodes.toNat+1:=by
 have:=LN (nx:=λ n=>db m (bf l n 7)) (N:=l.nodes) (l.nodes.toNat+1) [] (av (db m l.free)).idx
 simpa[vD] using this
set_option maxHeartbeats 8000000 in
theorem acL(l:aI)(hL:eT l)(t:cP)(n:Nat)(cd:I)(cs:List I)(hC:lJ t.calls cd cs)(a:bz):
 gt prog 55 [30,31,32,33,34,35] [.ptr 30 0,iZ l,kx a] (fV t n cd cs) (λ d bs=>d=dB (sH l t.m a)/\bs=fV t n cd cs):=by
 generalize Y:sH l t.m a=E;unfold sH at Y;rw[aaa] at Y;obtain⟨amg,amh⟩:=hL.node;obtain⟨amt,I9⟩:=hL.size;obtain⟨ame,amf⟩:=hL.nodes;have al5:=agD l t.m;refine sI func55 ntmps55 λ w cl own kf=>?_
 refine go ?_;generalize h1:decide (a.cell<l.node)=cc;cases cc
 ·have bB:=of_decide_eq_false h1;refine go ?_;generalize u:decide (a.cell>=l.size)=cc;cases cc
  ·have cj:=of_decide_eq_false u;refine EO ?_;generalize J:decide ((a.cell-l.node)%8=7)=cc;cases cc
   ·have jh:=of_decide_eq_false J;rw[if_neg (by omega)] at Y;refine go ?_;refine dW 13 [] ?_;refine gQ (ajn l hL t.m) ?_;refine fL (PL rfl rfl rfl (by omega) (by omega) (by omega)) rfl rfl ?_;refine bJ ?_;refine cA (Vl (vD l t.m) ((a.cell-l.node)/8+1) (by omega)) ?_;refine go ?_;refine j9 (fV t n cd cs) rfl rfl (by exact nT hC rfl rfl rfl rfl rfl rfl rfl) (by(repeat(first|exact trivial|refine⟨rfl,?_⟩))) ⟨?_,rfl⟩;rw[<-Y]
   ·have jh:=of_decide_eq_true J;rw[if_pos (by omega)] at Y;refine go ?_;refine j9 (fV t n cd cs) rfl rfl (by exact nT hC rfl rfl rfl rfl rfl rfl rfl) (by(repeat(first|exact trivial|refine⟨rfl,?_⟩))) ⟨?_,rfl⟩;rw[<-Y]
  ·have cj:=of_decide_eq_true u;rw[if_pos (by omega)] at Y;refine go ?_;refine j9 (fV t n cd cs) rfl rfl (by exact nT hC rfl rfl rfl rfl rfl rfl rfl) (by(repeat(first|exact trivial|refine⟨rfl,?_⟩))) ⟨?_,rfl⟩;rw[<-Y]
 ·have bB:=of_decide_eq_true h1;rw[if_pos (by omega)] at Y;refine go ?_;refine j9 (fV t n cd cs) rfl rfl (by exact nT hC rfl rfl rfl rfl rfl rfl rfl) (by(repeat(first|exact trivial|refine⟨rfl,?_⟩))) ⟨?_,rfl⟩;rw[<-Y]
set_option maxHeartbeats 8000000 in
theorem ab8(t:cP)(n:Nat)(au:Nat)(x:bp)(out:bd)(hn:t.ar.length=n)(_:n<=8)(hx:t.ar[au]?=some x)(kI:x.steps.length<=100000)(hf:0<=t.full/\t.full<=100000)(dw:t.calls.length<=100000)(cd:I)(cs:List I)(hC:lJ t.calls cd cs):
 gt prog 54 [30,31,32,33,34,35] [.ptr 30 0,M au,pG out] (fV t n cd cs) (λ d bs=>d=.ca []/\∃lr aZ,lJ (jw t au x out).calls lr aZ/\bs=fV (jw t au x out) n lr aZ):=by
 have vu:au<n:=by rw[<-hn];exact(List.getElem?_eq_some_iff.1 hx).1
 obtain⟨rest,FY⟩:=JX hx;have jF:=JY t.ar;obtain⟨m,step,ar,calls,full,cD,bad⟩:=t;simp only at hn hx hf dw hC FY jF;have hy:=JZ (l:=ar) (i:=au) {x with op:=gZ,gone:=out.gone} (by omega);have hz:((kB ar).set au (im out.gone)).map oG=kB (ar.set au {x with op:=gZ,gone:=out.gone}):=Et (f:=λ x=>im x.gone) (λ _=>rfl) rfl;have e1:kh (ar.set au {x with op:=gZ,gone:=out.gone})=kh ar:=uw hx rfl;have e2:j4 (ar.set au {x with op:=gZ,gone:=out.gone})=j4 ar:=uw hx rfl;have e3:jz (ar.set au {x with op:=gZ,gone:=out.gone})=jz ar:=uw hx rfl;generalize hS:ar.set au {x with op:=gZ,gone:=out.gone}=S at hy hz e1 e2 e3;have yx:(j4 ar)[au]?=some (ci x.steps):=Cn (f:=λ x=>ci x.steps) hx;show gt prog 54 [30,31,32,33,34,35] [.ptr 30 0,M au,pG out] [(30,[ci m,M step,.arr 31 0 n n,.arr 32 0 n n,.arr 33 0 n n,.arr 34 0 n n,.arr 35 0 n n,cd,M full,dB cD,dB bad]),(31,fK ar),(32,kh ar),(33,j4 ar),(34,jz ar),(35,kB ar),(36,cs)] _;refine sI func54 ntmps54 λ w cl own kf=>?_
 refine go ?_;refine gW 14 [] ?_;refine rj (au*4) 4 ?_;refine fL (BC aX (uz x.op) rest rfl rfl rfl rfl rfl (by show _<=(fK ar).length;omega) FY rfl) rfl rfl ?_;refine qg ?_;refine aj (au*4) 4 ?_;refine Ln aX (fK S) rfl rfl rfl rfl rfl rfl rfl rfl rfl (by rw[jF];show au*4+4<=_;omega) hy ?_;refine go ?_;refine gW 7 [] ?_;refine go ?_;refine aj au 1 ?_;refine sq aX rfl rfl rfl rfl rfl rfl rfl rfl rfl (by show au<(kB ar).length;rw[List.length_map];omega) ?_;refine qo (vE 35 rfl hz) ?_;refine go ?_;refine aj au 1 ?_;refine cy (lG aX rfl rfl rfl rfl rfl yx) rfl rfl rfl ?_;refine go ?_;have sB:jw ⟨m,step,ar,calls,full,cD,bad⟩ au x out=if out.err=8 then⟨m,step,S,calls,full+1,cD,bad⟩ else if out.err≠0\/x.steps.length=0 then⟨m,step,S,calls,full,cD,true⟩ else⟨m,step,S,calls++[⟨au,x.op,out.val,out.is,x.steps.getD 0 0,x.steps.getD (x.steps.length-1) 0,if 0<=out.aD/\out.aD<x.steps.length then x.steps.getD out.aD.toNat 0 else-1⟩],full,cD,bad⟩:=by unfold jw;simp only;rw[hS]
 have hB:∀(CA:Int)(Ci:Bool)(Cm:List cw)(lr:I)(aZ:List I),fV ⟨m,step,S,Cm,CA,cD,Ci⟩ n lr aZ=[(30,yZ ⟨m,step,S,Cm,CA,cD,Ci⟩ n lr),(31,fK S),(32,kh ar),(33,j4 ar),(34,jz ar),(35,kB S),(36,aZ)]:=λ CA Ci Cm lr aZ=>by
  show[(30,_),(31,fK S),(32,kh S),(33,j4 S),(34,jz S),(35,kB S),(36,aZ)]=_;rw[e1,e2,e3]
 generalize jw ⟨m,step,ar,calls,full,cD,bad⟩ au x out=aq at sB;generalize h1:decide (out.err=8)=cc;cases cc
 ·have bB:=of_decide_eq_false h1;rw[if_neg bB] at sB;refine go ?_;generalize u:decide (out.err=0)=cc;cases cc
  ·have cj:=of_decide_eq_false u;rw[if_pos (.inl cj)] at sB;subst sB;refine go ?_;refine j9 (fV ⟨m,step,S,calls,full,cD,true⟩ n cd cs) rfl rfl (by refine nT hC rfl rfl ?_ ?_ ?_ rfl rfl<;>simp only[e1,e2,e3]<;>rfl) (by(repeat(first|exact trivial|refine⟨rfl,?_⟩))) ⟨rfl,cd,cs,hC,rfl⟩
  ·have cj:=of_decide_eq_true u;refine go ?_;generalize J:decide ((x.steps.length:Int)=0)=cc;cases cc
   ·have jh:=of_decide_eq_false J;rw[if_neg (by omega)] at sB;have pQ:x.steps[((0:Int)).toNat]?=some (x.steps.getD 0 0):=by
     rw[show((0:Int)).toNat=0 from rfl,List.getD_eq_getElem?_getD,List.getElem?_eq_getElem (by omega)];rfl
    have fm:x.steps[((x.steps.length:Int)-1).toNat]?=some (x.steps.getD (x.steps.length-1) 0):=by rw[show((x.steps.length:Int)-1).toNat=x.steps.length-1 by omega,List.getD_eq_getElem?_getD,List.getElem?_eq_getElem (by omega)];rfl
    generalize cW:(if 0<=out.aD/\out.aD<x.steps.length then x.steps.getD out.aD.toNat 0 else-1)=pt at sB;refine go ?_;refine aj au 1 ?_;refine cy (lG aX rfl rfl rfl rfl rfl yx) rfl rfl rfl ?_;refine ai [pI (x.steps.getD 0 0)] (jy pQ) ?_;refine go ?_;refine aj au 1 ?_;refine cy (lG aX rfl rfl rfl rfl rfl yx) rfl rfl rfl ?_;refine qv ?_;refine ai [pI (x.steps.getD (x.steps.length-1) 0)] (jy fm) ?_;refine qv ?_;refine yT ?_;refine HG ⟨[(0,.ptr 30 0),(6,.ptr 8 0)],[(8,[M au,M x.op.kind,M x.op.obj,M x.op.a,M x.op.b,M out.val,dB out.is,M (x.steps.getD 0 0),M (x.steps.getD (x.steps.length-1) 0),M pt]),(30,[ci m,M step,.arr 31 0 n n,.arr 32 0 n n,.arr 33 0 n n,.arr 34 0 n n,.arr 35 0 n n,cd,M full,dB cD,dB bad]),(31,fK S),(32,kh ar),(33,j4 ar),(34,jz ar),(35,kB S),(36,cs)],[]⟩ ?_ ?_
    ·refine go ?_;generalize h4:decide (out.aD>=0)=cc;cases cc
     ·have sA:=of_decide_eq_false h4;rw[if_neg (by omega)] at cW;subst cW;refine go ?_;exact⟨rfl,zX (hb:=by exact⟨⟨rfl,rfl⟩,⟨rfl,m4 (t:=⟨m,step,S,calls,full,cD,bad⟩) hC _ _ rfl rfl rfl rfl rfl rfl⟩,⟨rfl,kO _ _ _⟩,⟨rfl,kL _ _ _⟩,⟨rfl,kR _ _ _⟩,⟨rfl,kN _ _ _⟩,⟨rfl,kD _ _ _⟩,⟨rfl,hC.pl _ _⟩,trivial⟩)⟩
     ·have sA:=of_decide_eq_true h4;refine go ?_;generalize h5:decide (out.aD<x.steps.length)=cc;cases cc
      ·have CD:=of_decide_eq_false h5;rw[if_neg (by omega)] at cW;subst cW;refine go ?_;exact⟨rfl,zX (hb:=by exact⟨⟨rfl,rfl⟩,⟨rfl,m4 (t:=⟨m,step,S,calls,full,cD,bad⟩) hC _ _ rfl rfl rfl rfl rfl rfl⟩,⟨rfl,kO _ _ _⟩,⟨rfl,kL _ _ _⟩,⟨rfl,kR _ _ _⟩,⟨rfl,kN _ _ _⟩,⟨rfl,kD _ _ _⟩,⟨rfl,hC.pl _ _⟩,trivial⟩)⟩
      ·have CD:=of_decide_eq_true h5;rw[if_pos ⟨by omega,CD⟩] at cW;have ic:x.steps[out.aD.toNat]?=some pt:=by
        rw[<-cW,List.getD_eq_getElem?_getD,List.getElem?_eq_getElem (by omega)];rfl
       refine go ?_;refine gW 9 [] ?_;refine rj au 1 ?_;refine bJ ?_;refine fL (lG aX rfl rfl rfl rfl rfl yx) rfl rfl ?_;refine bJ ?_;refine ai [pI pt] (jy ic) ?_;refine go ?_;exact⟨rfl,zX (hb:=by exact⟨⟨rfl,rfl⟩,⟨rfl,m4 (t:=⟨m,step,S,calls,full,cD,bad⟩) hC _ _ rfl rfl rfl rfl rfl rfl⟩,⟨rfl,kO _ _ _⟩,⟨rfl,kL _ _ _⟩,⟨rfl,kR _ _ _⟩,⟨rfl,kN _ _ _⟩,⟨rfl,kD _ _ _⟩,⟨rfl,hC.pl _ _⟩,trivial⟩)⟩
    generalize o4:(⟨au,x.op,out.val,out.is,x.steps.getD 0 0,x.steps.getD (x.steps.length-1) 0,pt⟩:cw)=cc at sB;have hB:∀(CA:Int)(Ci:Bool)(Cm:List cw)(lr:I)(aZ:List I),fV ⟨m,step,S,Cm,CA,cD,Ci⟩ n lr aZ=[(30,yZ ⟨m,step,S,Cm,CA,cD,Ci⟩ n lr),(31,fK S),(32,kh ar),(33,j4 ar),(34,jz ar),(35,kB S),(36,aZ)]:=hB;subst sB;rcases hC.at_ with⟨rfl,rfl⟩|⟨c,rfl,c7,fI,n9,gJ⟩
    ·subst o4;refine LC rfl ?_
     repeat' (first|refine tA 0 ?_|refine tA 1 ?_|refine tA 2 ?_|refine tA 3 ?_|refine oA 4 ?_|refine oA 5 ?_|refine oA 6 ?_|refine oA 7 ?_|refine oA 8 ?_|refine oA 9 ?_|refine oA 10 ?_|refine oB 4 5 ?_ ?_|refine oB 4 6 ?_ ?_|(refine dA ?_;have mn:lJ ([]++[(⟨au,x.op,out.val,out.is,x.steps.getD 0 0,x.steps.getD (x.steps.length-1) 0,pt⟩:cw)]) (.arr 36 0 1 aT) aZ:=⟨k5,.inr ⟨aT,rfl,k1,k3,k2,by show aZ.take (1*10)=_;rw[k4];rfl⟩⟩;refine pH (fV ⟨m,step,S,[]++[(⟨au,x.op,out.val,out.is,x.steps.getD 0 0,x.steps.getD (x.steps.length-1) 0,pt⟩:cw)],full,cD,bad⟩ n _ aZ) rfl rfl (by refine nT mn rfl rfl ?_ ?_ ?_ rfl rfl<;>simp only[e1,e2,e3]<;>rfl) (by(repeat(first|exact trivial|refine⟨rfl,?_⟩))) ⟨rfl,_,aZ,mn,rfl⟩)|(refine Lj (sz:=10) aX 36 rfl rfl rfl rfl rfl rfl rfl rfl rfl rfl rfl rfl rfl (HY rfl (Aa rfl rfl (Aa rfl rfl (u1 rfl (kO _) (u1 rfl (kL _) (u1 rfl (kR _) (u1 rfl (kN _) (u1 rfl (kD _) (HW rfl rfl))))))))) (by omega) rfl (by unfold maxLen;omega) (by show 1*80<=_;omega) (λ aZ aT k1 k2 k3 k4 k5=>?_);refine nx ?_)|((first|refine z2 ?_|refine z7 ?_|refine z5 ?_);refine nx ?_))
    ·subst o4;refine LC rfl ?_
     repeat' (first|refine tA 0 ?_|refine tA 1 ?_|refine tA 2 ?_|refine tA 3 ?_|refine oA 4 ?_|refine oA 5 ?_|refine oA 6 ?_|refine oA 7 ?_|refine oA 8 ?_|refine oA 9 ?_|refine oA 10 ?_|refine oB 4 5 ?_ ?_|refine oB 4 6 ?_ ?_|(refine dA ?_;have mn:lJ (calls++[(⟨au,x.op,out.val,out.is,x.steps.getD 0 0,x.steps.getD (x.steps.length-1) 0,pt⟩:cw)]) (.arr 36 0 (calls.length+1) aT) aZ:=⟨k5,.inr ⟨aT,by rw[List.length_append];rfl,k1,by rw[List.length_append];exact k3,k2,by rw[List.length_append,<-air];exact k4⟩⟩;refine pH (fV ⟨m,step,S,calls++[(⟨au,x.op,out.val,out.is,x.steps.getD 0 0,x.steps.getD (x.steps.length-1) 0,pt⟩:cw)],full,cD,bad⟩ n _ aZ) rfl rfl (by refine nT mn rfl rfl ?_ ?_ ?_ rfl rfl<;>simp only[e1,e2,e3]<;>rfl) (by(repeat(first|exact trivial|refine⟨rfl,?_⟩))) ⟨rfl,_,aZ,mn,rfl⟩)|(refine Ll (sz:=10) aX (iM calls) rfl rfl rfl rfl rfl rfl rfl rfl rfl rfl rfl rfl rfl rfl (HY rfl (Aa rfl rfl (Aa rfl rfl (u1 rfl (kO _) (u1 rfl (kL _) (u1 rfl (kR _) (u1 rfl (kN _) (u1 rfl (kD _) (HW rfl rfl))))))))) c7 fI (BM calls) gJ n9 (by omega) rfl (by unfold maxLen;omega) (by show(_+1)*80<=_;omega) (λ aZ aT k1 k2 k3 k4 k5=>?_);refine nx ?_)|((first|refine z2 ?_|refine z7 ?_|refine z5 ?_);refine nx ?_))
   ·have jh:=of_decide_eq_true J;rw[if_pos (.inr (by omega))] at sB;subst sB;refine go ?_;refine j9 (fV ⟨m,step,S,calls,full,cD,true⟩ n cd cs) rfl rfl (by refine nT hC rfl rfl ?_ ?_ ?_ rfl rfl<;>simp only[e1,e2,e3]<;>rfl) (by(repeat(first|exact trivial|refine⟨rfl,?_⟩))) ⟨rfl,cd,cs,hC,rfl⟩
 ·have bB:=of_decide_eq_true h1;rw[if_pos bB] at sB;subst sB;refine go ?_;refine j9 (fV ⟨m,step,S,calls,full+1,cD,bad⟩ n cd cs) rfl rfl (by refine nT hC rfl rfl ?_ ?_ ?_ rfl rfl<;>simp only[e1,e2,e3]<;>rfl) (by(repeat(first|exact trivial|refine⟨rfl,?_⟩))) ⟨rfl,cd,cs,hC,rfl⟩
end Go.Proofs.YtkkldicehapklaaGreat
