/- Cells of a memory, rows that are the same, numbers in a row: their walks. -/
import Derived.Test.YtcnefjfboagbmaaGreatWA
import Derived.Test.YtcnefjfboagbmaaGreatLB
import Derived.Test.YtcnefjfboagbmaaGreatPA
import Derived.Test.YtcnefjfboagbmaaGreatWB
namespace Go.Proofs.YtcnefjfboagbmaaGreat
open Go.Proofs.Tryz
open Go.RowKit
set_option maxRecDepth 100000
theorem tW{xs:List Int}{i:Int}(h0:0<=i)(h:i<xs.length):xs[i.toNat]?=some (fe xs i):=by
 have:i.toNat<xs.length:=by omega
 simp[fe,this]
theorem oP(xs:List Int)(i:Int):aW prog 93 [fg xs,z i] (z (aG xs i)):=by
 generalize A:aG xs i=aK;unfold aG at A;refine sP func93 ntmps93 λ w cl=>?_
 refine go ?_;generalize u:decide (i<0)=cc;cases cc
 ·have aN:=of_decide_eq_false u;refine go ?_;generalize D:decide ((xs.length:Int)<=i)=cc;cases cc
  ·have bd:=of_decide_eq_false D;rw[if_neg (by omega)] at A;have hg:=tW (xs:=xs) (i:=i) (by omega) (by omega);refine go ?_;refine ai [pI (fe xs i)] (gK hg) ?_;refine gf ?_;rw[<-A]
  ·rw[if_pos (.inr (of_decide_eq_true D))] at A;refine gf ?_;rw[<-A]
 ·rw[if_pos (.inl (of_decide_eq_true u))] at A;refine gf ?_;rw[<-A]
theorem m4(xs:List Int)(i:Int):aW prog 50 [fg xs,z i] (z (aG xs i)):=by
 generalize A:aG xs i=aK;unfold aG at A;refine sP func50 ntmps50 λ w cl=>?_
 refine go ?_;generalize u:decide (i<0)=cc;cases cc
 ·have aN:=of_decide_eq_false u;refine go ?_;generalize D:decide ((xs.length:Int)<=i)=cc;cases cc
  ·have bd:=of_decide_eq_false D;rw[if_neg (by omega)] at A;have hg:=tW (xs:=xs) (i:=i) (by omega) (by omega);refine go ?_;refine ai [pI (fe xs i)] (gK hg) ?_;refine gf ?_;rw[<-A]
  ·rw[if_pos (.inr (of_decide_eq_true D))] at A;refine gf ?_;rw[<-A]
 ·rw[if_pos (.inl (of_decide_eq_true u))] at A;refine gf ?_;rw[<-A]
theorem H9(a b:List Int)(ha:a.length<=1000000000):aW prog 16 [aV a,aV b] (dB (decide (a=b))):=by
 refine sP func16 ntmps16 λ w cl=>?_
 refine go ?_;generalize u:decide ((a.length:Int)=b.length)=cc;cases cc
 ·refine gf ?_;have aN:=of_decide_eq_false u;have:¬a=b:=λ e=>aN (by rw[e])
  simp[this]
 ·refine go ?_;have v9:=of_decide_eq_true u;refine bL (λ n:Nat=>n<=a.length/\a.take n=b.take n) (λ n=>⟨[(5,z n),(0,aV a),(1,aV b)],[],[]⟩) (λ n=>a.length-n) 0 ⟨by omega,by simp⟩ (zX) ?_;rintro n ⟨hn,Hq⟩;refine go ?_;refine cz (λ D=>?_) (λ D=>?_)<;>try rw[D]
  ·have bh:=of_decide_eq_true D;obtain⟨x,T⟩:=j3 (l:=a) (i:=n) (by omega) bh;obtain⟨y,hy⟩:=j3 (l:=b) (i:=n) (by omega) (by omega);refine go ?_;refine gD [] ?_;refine ri [pI x] (gK T) ?_;refine ba ?_;refine ri [pI y] (gK hy) ?_;refine qg ?_;simp only[Int.toNat_natCast] at T hy;generalize K:decide (x=y)=cc;cases cc
   ·refine gf ?_;have cK:=of_decide_eq_false K;have:¬a=b:=λ e=>cK (by rw[e,hy] at T;cases T;rfl)
    simp[this]
   ·refine go ?_;have cK:=of_decide_eq_true K;refine⟨n+1,⟨by omega,?_⟩,by omega,zX⟩;rw[List.take_add_one,List.take_add_one,Hq,T,hy,cK]
  ·refine gf ?_;have gH:=of_decide_eq_false D;rw[List.take_of_length_le (by omega),List.take_of_length_le (by omega)] at Hq;simp[Hq]
theorem yU(a:List Int)(v:Int)(ha:a.length<=1000000000):aW prog 98 [aV a,z v] (dB (decide (v∈a))):=by
 refine sP func98 ntmps98 λ w cl=>?_
 refine go ?_;refine bL (λ n:Nat=>n<=a.length/\v∉a.take n) (λ n=>⟨[(5,z n),(0,aV a),(1,z v)],[],[]⟩) (λ n=>a.length-n) 0 ⟨by omega,by simp⟩ (zX) ?_;rintro n ⟨hn,ie⟩;refine go ?_;refine cz (λ D=>?_) (λ D=>?_)<;>try rw[D]
 ·have bh:=of_decide_eq_true D;obtain⟨x,T⟩:=j3 (l:=a) (i:=n) (by omega) bh;refine go ?_;refine ai [pI x] (gK T) ?_;refine go ?_;simp only[Int.toNat_natCast] at T;generalize K:decide (x=v)=cc;cases cc
  ·refine go ?_;have cK:=of_decide_eq_false K;refine⟨n+1,⟨by omega,?_⟩,by omega,zX⟩;rw[List.take_add_one,T];simp only[Option.toList_some,List.mem_append,List.mem_singleton,not_or];exact⟨ie,λ e=>cK e.symm⟩
  ·refine gf ?_;have cK:=of_decide_eq_true K;have:v∈a:=by rw[<-cK];exact List.mem_of_getElem? T
   simp[this]
 ·refine gf ?_;have gH:=of_decide_eq_false D;rw[List.take_of_length_le (by omega)] at ie;simp[ie]
theorem q9(n:Int)(b:Bool):aW prog 96 [z n,dB b] (z (if b then n else-1)):=by
 refine sP func96 ntmps96 λ w cl=>?_
 refine go ?_;cases b
 ·refine gf ?_
  rfl
 ·refine gf ?_
  rfl
theorem n4(n a b:Int):aW prog 63 [z n,z a,z b] (dB (decide (a<=n)&&decide (n<=b))):=by
 refine sP func63 ntmps63 λ w cl=>?_
 refine go ?_;generalize u:decide (a<=n)=cc;cases cc
 ·refine gf ?_
  rfl
 ·refine gf ?_
  rfl
theorem NA(n:Nat)(hn:n<=100000):aW prog 28 [z n] (fg (List.replicate n 0)):=by
 refine sP func28 ntmps28 λ w cl=>?_
 refine go ?_;refine xQ (Nv aw 1 (c:=n) rfl rfl rfl rfl rfl rfl rfl rfl rfl (by show _*8<=_;omega) (by unfold maxLen;omega)) rfl rfl rfl rfl ?_;refine oh (Du 4 1 (aZ (List.replicate n 0)) rfl rfl rfl rfl (by simp) (Nat.le_refl _) (by rw[kL];simp) (by rw[List.take_of_length_le (by simp)];simp[aZ];exact .inr rfl) (by unfold maxLen;omega) (En _)) ?_;refine gf ?_;simp only[fg,aV,List.length_replicate]
theorem IK{l:ab}(hL:bQ l){n i:Int}(Z:0<=i/\i<8):0<=am l n i↔1<=n/\n<=l.nodes:=by
 have u:=hL.node.1;unfold am iq;split
 ·omega
 ·split<;>omega
structure Zk(n:Int):Prop where
 lo:-9223372036854775808<=n
 Z:n<9223372036854775808
theorem Gc{m:List Int}(hm:∀x∈m,x<9223372036854775808)(i:Int):aG m i<9223372036854775808:=by
 unfold aG fe;split
 ·omega
 ·rename_i h;have bh:i.toNat<m.length:=by omega
  have:m.getD i.toNat 0=m[i.toNat]:=by simp[bh]
  rw[this];exact hm _ (List.getElem_mem bh)
set_option maxHeartbeats 4000000 in
theorem uJ(l:ab)(hL:bQ l)(m:List Int)(h:Int):aW prog 45 [cF l,fg m,z h] (aV (cW l m h)):=by
 generalize A:cW l m h=aK;unfold cW at A;obtain⟨iP,fk⟩:=hL.nodes;refine sP func45 ntmps45 λ w cl=>?_
 refine oQ ?_;refine tT ?_;refine gG ?_;refine mg ?_;refine oQ ?_;refine tT ?_;refine gG ?_;refine mg ?_;refine da (gO 7 0 3 1 rfl rfl rfl) ?_;refine Ge rfl rfl rfl rfl rfl rfl rfl rfl λ r=>?_
 refine p9 (nW λ aH bz bZ Z=>?_);refine gA (oP m h) ?_;refine cA (jS (aG m h)) ?_;refine go ?_;refine mc ?_;refine p9 (zi ?_);generalize hn:(az (aG m h)).idx=n0 at A;have BF:n0<65536:=by rw[<-hn];exact(j8 (aG m h)).2
 refine ID (λ p:Nat×List Int×Int=>p.1+p.2.1.length=l.nodes.toNat+1/\p.2.1.Nodup/\(∀x∈p.2.1,1<=x/\x<=l.nodes)/\p.2.2<65536/\fL (λ n=>(az (aG m (am l n 0))).idx) l.nodes p.1 p.2.1 p.2.2=aK) (λ p=>⟨[(8,.p (.raw (.map (some r)))),(9,z p.2.2),(7,.aU 0 p.2.1.length (aZ p.2.1)),(3,.ptr 0 0),(4,.ptr 1 0)],[(1,[aV m]),(0,bs l)],[(0,⟨3,1,p.2.1.length⟩)]⟩) (λ p=>p.2.1) (λ p=>p.1) (l.nodes.toNat+1,[],n0) ⟨by simp,List.nodup_nil,by simp,BF,A⟩ rfl (λ aH bz bZ=>zX) ?_;rintro⟨k,acc,n⟩ ⟨J,hnd,dc,ic,A⟩;simp only at J hnd dc ic A;have cg:=zj l.nodes.toNat acc hnd (λ x T=>by have:=dc x T;omega);obtain⟨k,rfl⟩:∃j,k=j+1:=⟨k-1,by omega⟩;rw[fL] at A;refine(show oO _ _ _ _ _ acc ⟨[(8,.p (.raw (.map (some r)))),(9,z n),(7,.aU 0 acc.length (aZ acc)),(3,.ptr 0 0),(4,.ptr 1 0)],[(1,[aV m]),(0,bs l)],[(0,⟨3,1,acc.length⟩)]⟩ from ?_);refine p9 (nW λ aH bz bZ Z=>?_);refine gA (jD l hL n 0 (by omega) (by omega)) ?_;have pZ:=IK hL (n:=n) (i:=0) (by omega);generalize D:decide (am l n 0>=0)=cc;cases cc
 ·have bd:=of_decide_eq_false D;rw[if_neg (λ hh=>bd (pZ.2 ⟨hh.1,hh.2.1⟩))] at A;refine go ?_;refine p7 (p7 (zf (mc (nW λ aH bz bZ Z=>?_))));refine gf ?_;rw[<-A]
 ·have bd:=pZ.1 (of_decide_eq_true D);refine go ?_;refine F6 aw Z rfl underlying125 underlying3 rfl rfl rfl rfl rfl rfl rfl ?_;refine go ?_;generalize K:decide (n∈acc)=cc;cases cc
  ·have cK:=of_decide_eq_false K;rw[if_pos ⟨bd.1,bd.2,cK⟩] at A;refine go ?_;refine mc ?_;refine zi (p9 (IE ?_));refine zb aw rfl rfl rfl rfl ?_;refine zb aw rfl rfl rfl rfl ?_;refine Iy rfl rfl underlying125 underlying3 rfl rfl rfl rfl cK ?_;refine Ix (mc (nW λ aH bz bZ Z=>?_));refine go ?_;refine pA rfl ?_;rw[ku,show acc.length+1=(acc++[n]).length by simp];refine go ?_;refine dQ [] ?_;refine gQ (jD l hL n 0 (by omega) (by omega)) ?_;refine cQ (oP m (am l n 0)) ?_;refine gQ (jS (aG m (am l n 0))) ?_;refine go ?_;refine Iz (mc ?_);exact⟨(k,acc++[n],(az (aG m (am l n 0))).idx),⟨by simp;omega,by
    rw[List.nodup_append];exact⟨hnd,by simp,λ a ha b R=>by simp at R;subst R;exact λ e=>cK (e▸ha)⟩,λ x T=>by
    simp only[List.mem_append,List.mem_singleton] at T;rcases T with T|rfl
    ·exact dc x T
    ·exact bd,(j8 _).2,A⟩,by simp only;omega,rfl,λ aH bz bZ=>zX⟩
  ·rw[if_neg (λ hh=>hh.2.2 (of_decide_eq_true K))] at A;refine go ?_;refine p7 (p7 (zf (mc (nW λ aH bz bZ Z=>?_))));refine gf ?_;rw[<-A]
theorem AO{nx:Int->Int}{N:Int}:∀(k:Nat)(acc:List Int)(n:Int),(fL nx N k acc n).length<=acc.length+k
 |0,acc,n=>by simp[fL]
 |k+1,acc,n=>by
  rw[fL];split
  ·have:=AO (nx:=nx) (N:=N) k (acc++[n]) (nx n);simp at this;omega
  ·omega
theorem jc(l:ab)(m:List Int)(h:Int):(cW l m h).length<=l.nodes.toNat+1:=by
 have:=AO (nx:=λ n=>(az (aG m (am l n 0))).idx) (N:=l.nodes) (l.nodes.toNat+1) [] (az (aG m h)).idx
 simpa[cW] using this
theorem Dc{nx:Int->Int}{N:Int}:∀(k:Nat)(acc:List Int)(n:Int),(∀x∈acc,1<=x/\x<=N)->∀x∈fL nx N k acc n,1<=x/\x<=N
 |0,acc,n,h=>by simpa[fL] using h
 |k+1,acc,n,h=>by
  rw[fL];split
  ·rename_i L;exact Dc k (acc++[n]) (nx n) (λ x T=>by
    simp only[List.mem_append,List.mem_singleton] at T;rcases T with T|rfl
    ·exact h x T
    ·exact⟨L.1,L.2.1⟩)
  ·exact h
theorem Cf(l:ab)(m:List Int)(h:Int):∀x∈cW l m h,1<=x/\x<=l.nodes:=Dc _ _ _ (by simp)
def gt(l:ab)(m:List Int)(aP:List Int):List (Int×Int):=(aP.filter λ n=>!(az (aG m (am l n 0))).mark).map λ n=>(aG m (am l n 1),aG m (am l n 2))
theorem E9(l:ab)(m:List Int)(aP:List Int):(gt l m aP).length<=aP.length:=by unfold gt;rw[List.length_map];exact List.length_filter_le _ _
theorem Fa(l:ab)(m:List Int)(aP:List Int)(n:Int):gt l m (aP++[n])=if(az (aG m (am l n 0))).mark=true then gt l m aP else gt l m aP++[(aG m (am l n 1),aG m (am l n 2))]:=by
 unfold gt;rw[List.filter_append,List.map_append];split
 ·rename_i h;simp[h]
 ·rename_i h;simp[h]
set_option maxHeartbeats 4000000 in
theorem CA(l:ab)(hL:bQ l)(m:List Int)(h:Int):aW prog 82 [cF l,fg m,z h] (cT (hc l m h)):=by
 have wa:=Cf l m h;have wq:=jc l m h;have hC:=uJ l hL m h;have A:hc l m h=gt l m (cW l m h):=rfl;rw[A];obtain⟨iP,fk⟩:=hL.nodes;generalize cW l m h=ns at*;refine sP func82 ntmps82 λ w cl=>?_
 refine gA hC ?_;refine da (gO 7 0 110 2 rfl rfl rfl) ?_;refine bL (λ i:Nat=>i<=ns.length) (λ i=>⟨[(15,z i),(14,z ns.length),(13,aV ns),(7,.aU 0 (gt l m (ns.take i)).length (fp (gt l m (ns.take i)))),(3,.ptr 0 0),(4,.ptr 1 0)],[(1,[aV m]),(0,bs l)],[(0,⟨110,2,(gt l m (ns.take i)).length⟩)]⟩) (λ i=>ns.length-i) 0 (by omega) (zX) ?_;intro i Z;refine go ?_;refine cz (λ u=>?_) (λ u=>?_)<;>try rw[u]
 ·have aN:=of_decide_eq_true u;obtain⟨n,hn⟩:=j3 (l:=ns) (i:=i) (by omega) aN;have jt:=hn;simp only[Int.toNat_natCast] at jt;have fy:=wa n (List.mem_of_getElem? jt);have eZ:=Fa l m (ns.take i) n;have pg:=E9 l m (ns.take i);rw[List.length_take] at pg;rw[show ns.take i++[n]=ns.take (i+1) by rw[List.take_add_one,jt];rfl] at eZ;generalize gt l m (ns.take i)=aE at*;refine go ?_;refine ai [pI n] (gK hn) ?_;refine go ?_;refine dQ [] ?_;refine gQ (jD l hL n 0 (by omega) (by omega)) ?_;refine cQ (oP m (am l n 0)) ?_;refine gQ (jS (aG m (am l n 0))) ?_;refine go ?_;generalize l6:(az (aG m (am l n 0))).mark=mk at*;cases mk
  ·rw[if_neg (by decide)] at eZ;refine go ?_;refine dQ [] ?_;refine gQ (jD l hL n 1 (by omega) (by omega)) ?_;refine cQ (oP m (am l n 1)) ?_;refine gQ (jD l hL n 2 (by omega) (by omega)) ?_;refine cQ (oP m (am l n 2)) ?_;refine ba ?_;refine nv aw rfl rfl rfl rfl rfl rfl rfl rfl rfl rfl rfl rfl rfl (by unfold maxLen;omega) (by show(_+_)*16<=_;omega) ?_;rw[show fp aE++[pI (aG m (am l n 1)),pI (aG m (am l n 2))]=fp (aE++[(aG m (am l n 1),aG m (am l n 2))]) by simp[fp,zq],show aE.length+1=(aE++[(aG m (am l n 1),aG m (am l n 2))]).length by simp,<-eZ];refine qg ?_;exact⟨i+1,by omega,by omega,zX⟩
  ·rw[if_pos rfl] at eZ;refine go ?_;exact⟨i+1,by omega,by omega,by rw[eZ];exact zX⟩
 ·have aN:i=ns.length:=by have:=of_decide_eq_false u;omega
  rw[aN,List.take_length];refine gf ?_
  rfl
section
variable{P:Program}{ah:Nat->Option TI}{Γ:bE}{I bn:St}
theorem RM(hs:vB I bn bn.s)(R:vw I bn bn.b)(hg:vz I bn.g)(dv:vA bn Γ.kb){a:Act}{e:ay}(L:bw Γ I e a):bw Γ bn (e.cut (aC bn.b) (aC bn.g)) a:=by
 have fh:∀g,aC bn.g g=true->∃ak,e.gi g=some ak/\Y bn.g g=some ak:=λ g h=>by
  unfold aC at h;obtain⟨ak,hG⟩:=Option.isSome_iff_exists.1 h;exact⟨ak,by rw[L.gs];exact hg.get hG,hG⟩
 refine⟨L.size,L.df,λ t d ht=>(L.bm t d (hs.get ht).1).cut (hs.get ht).2,λ b cs cr=>?_,λ b iw=>?_,λ g=>?_,L.env.kept,L.env.cl,λ b k J=>?_,λ b c k u D=>?_,λ k g J=>?_,λ b k J=>?_⟩
 ·obtain⟨k,vs,el,u,D,K⟩:=L.boxes b cs (R.get cr).1;refine⟨k,vs,el,?_,D,K.1,λ i v d hv G=>(K.2 i v d hv G).cut (pp (R.get cr).2 G)⟩;show(if aC bn.b b=true then e.bx b else none)=_;rw[if_pos (by simp[aC,cr])];exact u
 ·show(if aC bn.b b=true then e.bx b else none)=_;rw[if_neg (by simp[aC,iw])]
 ·show(if aC bn.g g=true then e.gi g else none)=_;cases M:Y bn.g g with
  |none=>rw[if_neg (by simp[aC,M])]
  |some ak=>rw[if_pos (by simp[aC,M]),L.gs];exact hg.get M
 ·have dk:(if aC bn.b b=true then e.bx b else none)=some k:=J;split at dk
  ·obtain⟨u,D,K,h4⟩:=L.env.bx b k dk;refine⟨u,D,K,?_⟩;show(match e.gr k with|some g=>if aC bn.g g=true then some g else none|none=>none)=none;rw[h4]
  ·cases dk
 ·have aN:(if aC bn.b b=true then e.bx b else none)=some k:=u;have bd:(if aC bn.b c=true then e.bx c else none)=some k:=D;split at aN
  ·split at bd
   ·exact L.env.inj b c k aN bd
   ·cases bd
  ·cases aN
 ·have dk:(match e.gr k with|some g=>if aC bn.g g=true then some g else none|none=>none)=some g:=J;rcases iA:e.gr k with _|g0
  ·rw[iA] at dk;cases dk
  ·rw[iA] at dk;simp only at dk;split at dk
   ·rename_i eP;cases dk;obtain⟨ak,cur,u,D⟩:=L.env.gr k g iA;exact⟨ak,cur,by show(if aC bn.g g=true then e.gi g else none)=_;rw[if_pos eP];exact u,D⟩
   ·cases dk
 ·show(if aC bn.b b=true then e.bx b else none)=_;rw[if_pos (dv.get J)];exact L.env.kb b k J
end
section
variable{Γ:bE}{s vl:List (Nat×F)}{b n8:List (Nat×List F)}{g pD:List (Nat×Gr)}
theorem La(nb j nm:Nat){n c sz:Nat}{cs lS kz yg:List F}(ps:List Pl)(fy:Y b nb=some lS)(hj:lS[j]?=some (.arr nm 0 n c))(R:Y b nm=some cs)(G:lS.set j .any=kz)(cb:kz.set j (.p (.sl false n ps))=yg)
 (hs:vB ⟨s,(nb,kz)::b,g⟩ ⟨vl,(nb,kz)::n8,pD⟩ vl)(pP:vw ⟨s,(nb,kz)::b,g⟩ ⟨vl,(nb,kz)::n8,pD⟩ ((nb,kz)::n8))(nf:vz ⟨s,(nb,kz)::b,g⟩ pD)(dv:vA ⟨vl,(nb,kz)::n8,pD⟩ Γ.kb)(l7:Y ((nb,kz)::n8) nm=none)
 (cr:cs.length=c*sz)(rZ:n<=c)(cM:ps.length=n*sz)(mP:cs.take (n*sz)=ps.map F.p)(jp:c<=maxLen)(wo:∀x∈ps,x.lf=true):bF Γ ⟨s,b,g⟩ ⟨vl,(nb,yg)::n8,pD⟩:=by
 intro a e L;obtain⟨k0,oK,oT,gT,iN,f3⟩:=L.boxes _ _ fy;have hw:bw Γ ⟨s,(nb,kz)::b,g⟩ e a:=by
  refine⟨L.size,L.df,L.bm,λ aa d hu=>?_,λ aa hu=>?_,L.gs,L.env⟩
  ·simp only[cL] at hu;split at hu
   ·rename_i kG;subst kG;cases hu;refine⟨k0,oK,oT,gT,iN,by rw[<-G,List.length_set];exact f3.1,λ i v d hv iz=>?_⟩;rw[<-G,List.getElem?_set] at iz;split at iz
    ·split at iz
     ·cases iz;exact .any
     ·cases iz
    ·exact f3.2 i v d hv iz
   ·exact L.boxes aa d hu
  ·simp only[cL] at hu;split at hu
   ·cases hu
   ·exact L.dX aa hu
 have sQ:=RM (bn:=⟨vl,(nb,kz)::n8,pD⟩) hs pP nf dv hw;obtain⟨k,vs,el,D,K,h4⟩:=L.boxes nm cs R;have iy:=L.env.bx nm k D;have dh:∀x,(e.cut (aC ((nb,kz)::n8)) (aC pD)).bx x≠some k:=λ x T=>by
  have fJ:(if aC ((nb,kz)::n8) x=true then e.bx x else none)=some k:=T;split at fJ
  ·rename_i cP;have uz:=L.env.inj _ _ _ fJ D;subst uz;unfold aC at cP;rw[l7] at cP;cases cP
  ·cases fJ
 have sT:(e.cut (aC ((nb,kz)::n8)) (aC pD)).gr k=none:=by show(match e.gr k with|some g=>if aC pD g=true then some g else none|none=>none)=none;rw[iy.2.2.2]
 obtain⟨h5,A⟩:=sQ.vH (n*sz) iy.2.1 iy.2.2.1 sT dh;refine⟨{e.cut (aC ((nb,kz)::n8)) (aC pD) with cl:=λ j=>if j=k then some (n*sz) else(e.cut (aC ((nb,kz)::n8)) (aC pD)).cl j},rfl,h5.size,h5.df,h5.bm,λ aa d hu=>?_,λ aa hu=>?_,h5.gs,h5.env⟩
 ·simp only[cL] at hu;split at hu
  ·rename_i kG;subst kG;cases hu;obtain⟨k1,Y8,RR,g1,g2,g3⟩:=h5.boxes nb kz (by simp[cL]);have Dv:(if aC ((nb,kz)::n8) nb=true then e.bx nb else none)=some k1:=g1;have J:k1=k0:=by
    split at Dv
    ·rw[gT] at Dv;cases Dv;rfl
    ·cases Dv
   subst J;have Lc:e.w.heap[k1]?=some (.cells Y8.toArray RR (0,0)):=g2;rw[iN] at Lc;cases Lc;refine⟨k1,oK,oT,g1,g2,by rw[<-cb,List.length_set];exact g3.1,λ i v d hv iz=>?_⟩;rw[<-cb,List.getElem?_set] at iz;split at iz
   ·rename_i jO;subst jO;split at iz
    ·cases iz;have u:=f3.2 _ v _ hv hj;have cg:vs.length=c*sz:=by rw[h4.1,cr]
     have gY:=Nat.mul_le_mul_right sz rZ;have bG:=I1 h4 (by rw[cM];exact mP);cases u with
     |arr J=>
      rw[D] at J;cases J;refine .p (Ah rZ jp (λ h=>by cases h) (λ h=>by cases h) (.inr ⟨k,0,rfl,λ j=>vs.getD j undef,λ j x T=>?_⟩));have hj:=(List.getElem?_eq_some_iff.1 T).1;have fj:j<vs.length:=by omega
      have oy:vs.getD j undef=vs[j]:=by simp[fj]
      have hu:vs[j]?=some vs[j]:=List.getElem?_eq_getElem fj;have hr:=bG j _ x hu T;show ay.mv _ k (0+j)/\World.cell? _ ⟨k,0+j,none⟩=some (vs.getD j undef)/\lc (vs.getD j undef)=true/\cV _ (vs.getD j undef) x;rw[oy,Nat.zero_add];refine⟨λ q hq=>?_,?_,Io hr (wo x (List.mem_of_getElem? T)),(hr.cut).next A⟩
      ·have ju:(if k=k then some (n*sz) else e.cl k)=some q:=hq;rw[if_pos rfl] at ju;cases ju;omega
      ·show e.w.cell? _=_;rw[cell_of_row e.w k j vs.toArray el (0,0) K,List.getElem?_toArray];exact hu
    ·cases iz
   ·exact g3.2 i v d hv iz
  ·exact h5.boxes aa d (by simp only[cL];rw[if_neg (by assumption)];exact hu)
 ·simp only[cL] at hu;split at hu
  ·cases hu
  ·exact h5.dX aa (by simp only[cL];rw[if_neg (by assumption)];exact hu)
end
theorem xr(m n:Int)(hn:0<n)(R:n<4611686018427387904):aW prog 95 [z m,z n] (z (m%n)):=by
 have h:=Y1 m n hn;have h0:=Int.emod_nonneg m (show n≠0 by omega);have u:=Int.emod_lt_of_pos m hn;refine sP func95 ntmps95 λ w cl=>?_
 refine go ?_;refine bf (OT rfl rfl rfl hn) rfl rfl rfl ?_;generalize m.tmod n=k at h;refine go ?_;generalize D:decide (k<0)=cc;cases cc
 ·have bd:=of_decide_eq_false D;refine gf ?_;rw[h.2 bd]
 ·have bd:=of_decide_eq_true D;have K:=h.1 bd;refine gf ?_;rw[<-K]
theorem uX(n:Int):aW prog 49 [z n] (vN (az n)):=by
 have h0:=Int.emod_nonneg n (show(35184372088832:Int)≠0 by omega);have u:=Int.emod_lt_of_pos n (show(0:Int)<35184372088832 by omega);have A:az n=⟨n%35184372088832%65536,decide (n%35184372088832/65536%2=1),n%35184372088832/131072⟩:=by
  unfold az
  congr 1
  ·omega
  ·rw[decide_eq_decide];omega
  ·omega
 rw[A];refine sP func49 ntmps49 λ w cl=>?_
 refine go ?_;refine cA (xr n 35184372088832 (by omega) (by omega)) ?_;generalize n%35184372088832=k at*;refine A7 ?_;refine bf (Co rfl rfl rfl (by omega) (by omega) (by omega)) rfl rfl rfl ?_;refine A7 ?_;refine bf (Co rfl rfl rfl (by omega) (by omega) (by omega)) rfl rfl rfl ?_;refine A7 ?_;refine dt ?_
 rfl
theorem ll(l:ab)(hL:bQ l)(n i:Int)(Z:0<=i/\i<=7):aW prog 53 [cF l,z n,z i] (z (am l n i)):=by
 obtain⟨a1,a2⟩:=hL.node;obtain⟨b1,b2⟩:=hL.nodes;have A:am l n i=if(decide (1<=n)&&decide (n<=l.nodes)) then IntKind.i64.wrap (IntKind.i64.wrap (l.node+IntKind.i64.wrap (8*IntKind.i64.wrap (n-1)))+i) else-1:=by
  unfold am iq;split
  ·rw[if_neg];simp only[Bool.and_eq_true,decide_eq_true_eq];omega
  ·split
   ·rw[if_neg];simp only[Bool.and_eq_true,decide_eq_true_eq];omega
   ·rw[if_pos (by simp only[Bool.and_eq_true,decide_eq_true_eq];omega)];rw[d6 (n:=n-1) (by omega) (by omega),d6 (n:=8*(n-1)) (by omega) (by omega),d6 (n:=l.node+8*(n-1)) (by omega) (by omega),d6 (by omega) (by omega)];omega
 have eP:(decide (0<=i)&&decide (i<=7))=true:=by simp only[Bool.and_eq_true,decide_eq_true_eq];omega
 rw[A];refine sP func53 ntmps53 λ w cl=>?_
 refine go ?_
 by_cases h0:1<=n/\n<=l.nodes
 ·have L:(decide (1<=n)&&decide (n<=l.nodes))=true:=by simp only[Bool.and_eq_true,decide_eq_true_eq];omega
  have e1:=d6 (n:=n-1) (by omega) (by omega);have e2:=d6 (n:=8*(n-1)) (by omega) (by omega);have e3:=d6 (n:=l.node+8*(n-1)) (by omega) (by omega);have e4:=d6 (n:=l.node+8*(n-1)+i) (by omega) (by omega);rw[L,e1,e2,e3,e4];refine gD [] ?_;rw[e2];refine ba ?_;refine cQ (n4 n 1 l.nodes) ?_;rw[L];refine ba ?_;refine cQ (n4 i 0 7) ?_;rw[eP];refine gQ (q9 _ true) ?_;refine gf ?_
  rfl
 ·have L:(decide (1<=n)&&decide (n<=l.nodes))=false:=by rw[Bool.eq_false_iff];simp only[ne_eq,Bool.and_eq_true,decide_eq_true_eq];omega
  rw[L];refine gD [] ?_;refine cQ (n4 n 1 l.nodes) ?_;rw[L];refine gQ (q9 _ false) ?_;refine gf ?_
  rfl
theorem OR(l:ab)(hL:bQ l)(hM:iY l)(m i:Int)(Z:0<=i/\i<=1):aW prog 77 [cF l,z m,z i] (z (hb l m i)):=by
 obtain⟨a1,a2⟩:=hL.map;obtain⟨b1,b2⟩:=hM.m;obtain⟨c1,c2⟩:=hM.b;have eP:(decide (0<=i)&&decide (i<=1))=true:=by simp only[Bool.and_eq_true,decide_eq_true_eq];omega
 by_cases h0:0<=m/\m<=l.maps-1
 ·have kW:0<=(l.buckets+2)*m:=Int.mul_nonneg (by omega) (by omega);have lD:(l.buckets+2)*m<=66*1000000:=Int.mul_le_mul (by omega) (by omega) (by omega) (by omega);have A:hb l m i=l.map+(l.buckets+2)*m+i:=by
   unfold hb iq;rw[if_neg (by omega),if_neg (by omega),show m*(2+l.buckets)=(l.buckets+2)*m by rw[Int.mul_comm,Int.add_comm]]
  have L:(decide (0<=m)&&decide (m<=l.maps-1))=true:=by simp only[Bool.and_eq_true,decide_eq_true_eq];omega
  have e2:=d6 (n:=(l.buckets+2)*m) (by omega) (by omega);rw[A];refine sP func77 ntmps77 λ w cl=>?_
  refine go ?_;refine gD [] ?_;rw[e2];refine ba ?_;refine cQ (n4 m 0 (l.maps-1)) ?_;rw[L];refine ba ?_;refine cQ (n4 i 0 1) ?_;rw[eP];refine gQ (q9 _ true) ?_;refine gf ?_
  rfl
 ·have A:hb l m i=-1:=by
   unfold hb iq;rw[if_neg (by omega),if_pos (by omega)]
  have L:(decide (0<=m)&&decide (m<=l.maps-1))=false:=by rw[Bool.eq_false_iff];simp only[ne_eq,Bool.and_eq_true,decide_eq_true_eq];omega
  rw[A];refine sP func77 ntmps77 λ w cl=>?_
  refine go ?_;refine gD [] ?_;refine cQ (n4 m 0 (l.maps-1)) ?_;rw[L];refine gQ (q9 _ false) ?_;refine gf ?_
  rfl
theorem OO(l:ab)(hL:bQ l)(hM:iY l)(m b:Int)(hm:0<=m/\m<=l.maps-1)(R:0<=b/\b<=l.buckets-1):aW prog 51 [cF l,z m,z b] (z (fA l m b)):=by
 obtain⟨a1,a2⟩:=hL.map;obtain⟨b1,b2⟩:=hM.m;obtain⟨c1,c2⟩:=hM.b;have eP:(decide (0<=b)&&decide (b<=l.buckets-1))=true:=by simp only[Bool.and_eq_true,decide_eq_true_eq];omega
 have kW:0<=(l.buckets+2)*m:=Int.mul_nonneg (by omega) (by omega);have lD:(l.buckets+2)*m<=66*1000000:=Int.mul_le_mul (by omega) (by omega) (by omega) (by omega);have A:fA l m b=l.map+(l.buckets+2)*m+2+b:=by unfold fA iq;rw[if_neg (by omega),if_neg (by omega),show m*(2+l.buckets)=(l.buckets+2)*m by rw[Int.mul_comm,Int.add_comm]];omega
 have L:(decide (0<=m)&&decide (m<=l.maps-1))=true:=by simp only[Bool.and_eq_true,decide_eq_true_eq];omega
 have e2:=d6 (n:=(l.buckets+2)*m) (by omega) (by omega);rw[A];refine sP func51 ntmps51 λ w cl=>?_
 refine go ?_;refine gD [] ?_;rw[e2];refine ba ?_;refine cQ (n4 m 0 (l.maps-1)) ?_;rw[L];refine ba ?_;refine cQ (n4 b 0 (l.buckets-1)) ?_;rw[eP];refine gQ (q9 _ true) ?_;refine gf ?_
 rfl
theorem Jb(n:Int)(hn:0<=n/\n<65536):aW prog 78 [z n] (z (dJ ⟨n,false,0⟩)):=by
 have hP:aW prog 80 [vN ⟨n,false,0⟩] (z n):=by
  have u:=xr n 65536 (by omega) (by omega);rw[show n%65536=n by omega] at u;have D:=xr 0 268435456 (by omega) (by omega);rw[show(0:Int)%268435456=0 from rfl] at D;refine sP func80 ntmps80 λ w cl=>?_
  refine go ?_;refine dQ [] ?_;refine gQ u ?_;refine cQ D ?_;refine ba ?_;refine gf ?_;rw[show IntKind.i64.wrap (n+IntKind.i64.wrap (131072*0))=n by rw[show IntKind.i64.wrap (131072*0)=0 from rfl,Int.add_zero];exact d6 (by omega) (by omega)]
 have A:dJ ⟨n,false,0⟩=n:=by unfold dJ;simp;omega
 rw[A];refine sP func78 ntmps78 λ w cl=>?_
 refine gA hP ?_;refine dt ?_
 rfl
theorem Ds{aq:Type}{f:aq->List Pl}{k:Nat}(hf:∀x,(f x).length=k):∀{l:List aq}{i:Nat}{x:aq},l[i]?=some x->∀(m:Nat) q,(f x)[m]?=some q->(l.flatMap f)[i*k+m]?=some q
 |[],i,x,h=>by simp at h
 |y::l,0,x,h=>by
  intro m q hq;simp at h;subst h;rw[List.flatMap_cons,Nat.zero_mul,Nat.zero_add,List.getElem?_append_left (List.getElem?_eq_some_iff.1 hq).1];exact hq
 |y::l,i+1,x,h=>by
  intro m q hq;have ih:=Ds hf (l:=l) (i:=i) (x:=x) (by simpa using h) m q hq;rw[List.flatMap_cons,List.getElem?_append_right (by rw[hf,Nat.add_mul];omega),hf,show(i+1)*k+m-k=i*k+m by rw[Nat.add_mul];omega];exact ih
def Ck(a:aS):List Pl:=[pI a.kind,pI a.cell,pI a.eh,pI a.new]
def cH(l:List aS):List Pl:=l.flatMap Ck
abbrev jl(l:List aS):F:=.p (.sl false l.length (cH l))
theorem CZ{l:List aS}{i:Int}{a:aS}(h:l[i.toNat]?=some a):∀(m:Nat) q,[pI a.kind,pI a.cell,pI a.eh,pI a.new][m]?=some q->(cH l)[i.toNat*4+m]?=some q:=Ds (f:=Ck) (k:=4) (λ _=>rfl) h
theorem Oc(g:List aB)(x:aB):fQ (g++[x])=fQ g++[pI x.val,pB x.ok]:=by simp[fQ,xh]
theorem XU(c v:Int)(h:0<=c):aW prog 139 [.agg [z 2,z c,z 0,z v]] (dB true):=by
 refine sP func139 ntmps139 λ w cl=>?_
 refine go ?_;rw[show decide (c<0)=false by rw[decide_eq_false_iff_not];omega];refine gf ?_
 rfl
theorem XV(xs:List Int)(c v:Int)(h0:0<=c)(u:c<xs.length)(hn:xs.length<=1000000):aW prog 140 [fg xs,z c,z v] (fg (xs.set c.toNat v)):=by
 refine sP func140 ntmps140 λ w cl=>?_
 refine go ?_;refine J8 aw 9 rfl rfl rfl rfl rfl rfl rfl rfl rfl rfl rfl rfl rfl (by omega) (kL xs) (by unfold maxLen;omega) (by show _*8<=_;omega) (λ aO bU D K h4 h5 h6=>?_);have hs:=IW h5 c.toNat v;have hp:eN (aO.set c.toNat (z v)):=I2 h6;refine go ?_;refine aj c.toNat 1 ?_;refine pE aw rfl rfl rfl rfl rfl rfl rfl rfl rfl (by omega) ?_;refine gG ?_;refine mg ?_;refine da (Du 7 9 (aZ (xs.set c.toNat v)) rfl rfl rfl rfl (by rw[List.length_set];exact D) h4 (by rw[kL,List.length_set]) hs K (En _)) ?_;refine gf ?_;simp only[fg,aV,List.length_set]
theorem XS(xs:List Int)(c v:Int)(h0:0<=c)(u:c<xs.length)(hn:xs.length<=1000000):aW prog 114 [fg xs,.agg [z 2,z c,z 0,z v]] (.bc [fg (xs.set c.toNat v),vO ⟨fe xs c,true⟩,z 0]):=by
 have T:=tW h0 u;refine sP func114 ntmps114 λ w cl=>?_
 refine gA (XU c v h0) ?_;rw[show decide (c>=xs.length)=false by rw[decide_eq_false_iff_not];omega];refine go ?_;refine ai [pI (fe xs c)] (gK T) ?_;refine go ?_;rw[show decide ((2:Int)=1)=false from rfl];refine go ?_;rw[show decide ((2:Int)=3)=false from rfl];refine go ?_;rw[show decide ((2:Int)=4)=false from rfl];refine gA (XV xs c v h0 u hn) ?_;refine dt ?_
 rfl
theorem PS{xs:List Int}{a:aS}(J:a.kind=2):kj xs a=(xs.set a.cell.toNat a.new,⟨fe xs a.cell,true⟩):=by unfold kj;rw[if_neg (by omega),if_pos (.inl J)]
def vu(n:Nat)(l:List aS):Prop:=∀a∈l,a.kind=2/\a.eh=0/\0<=a.cell/\a.cell<n
theorem K0{n:Nat}{a:aS}(h:a.kind=2/\a.eh=0/\0<=a.cell/\a.cell<n):mI n a=0:=by obtain⟨u,D,K,h4⟩:=h;unfold mI xv;rw[if_pos (by rw[u,D];simp[K]),if_neg (by omega)]
theorem XR(xs:List Int)(l:List aS)(hs:vu xs.length l)(hn:xs.length<=1000000)(M:l.length<=100000):aW prog 100 [fg xs,jl l] (.bc [fg (jX xs xs [] l).1,fS (jX xs xs [] l).2.1,z (jX xs xs [] l).2.2]):=by
 generalize A:jX xs xs [] l=aK;refine sP func100 ntmps100 λ w cl=>?_
 refine go ?_;refine da (gO 8 0 108 2 rfl rfl rfl) ?_;refine bL (λ p:Nat×List Int×List aB=>p.1<=l.length/\p.2.1.length=xs.length/\p.2.2.length=p.1/\jX xs p.2.1 p.2.2 (l.drop p.1)=aK) (λ p=>⟨[(9,z p.1),(8,.aU 0 p.2.2.length (fQ p.2.2)),(7,.ptr 2 0),(4,.ptr 1 0),(2,.ptr 0 0),(1,jl l)],[(2,[aV p.2.1]),(1,[.p (.sl true 0 [])]),(0,[aV xs])],[(0,⟨108,2,p.2.2.length⟩)]⟩) (λ p=>l.length-p.1) (0,xs,[]) ⟨Nat.zero_le _,rfl,rfl,A⟩ (zX) ?_;rintro⟨i,cur,gE⟩ ⟨Z,de,gq,A⟩;simp only at Z de gq A;refine(show aJ _ _ _ _ ⟨[(9,z i),(8,.aU 0 gE.length (fQ gE)),(7,.ptr 2 0),(4,.ptr 1 0),(2,.ptr 0 0),(1,jl l)],[(2,[aV cur]),(1,[.p (.sl true 0 [])]),(0,[aV xs])],[(0,⟨108,2,gE.length⟩)]⟩ from ?_);refine go ?_;refine cz (λ u=>?_) (λ u=>?_)<;>try rw[u]
 ·have aN:=of_decide_eq_true u;have dw:i<l.length:=by omega
  obtain⟨a,ha⟩:=j3 (l:=l) (i:=i) (by omega) aN;have G:l.drop i=a::l.drop (i+1):=by rw[List.drop_eq_getElem_cons dw];simp only[Int.toNat_natCast] at ha;rw[(List.getElem?_eq_some_iff.1 ha).2]
  have H0:=hs a (List.mem_of_getElem? ha);rw[G,jX,de,if_pos (K0 H0),PS H0.1] at A;obtain⟨kd,ce,od,nw⟩:=a;obtain⟨D,K,h4,h5⟩:=H0;simp only at D K h4 h5 A;subst D;subst K;refine go ?_;refine gW 14 [] ?_;refine ri [pI 2,pI ce,pI 0,pI nw] (CZ ha) ?_;refine gQ (XS cur ce nw h4 (by omega) (by omega)) ?_;refine go ?_;rw[show decide ((0:Int)=0)=true from rfl];refine go ?_;refine ln (m:=1) (ps:=fQ gE) (qs:=[pI (fe cur ce),pB true]) aw rfl rfl rfl rfl rfl rfl rfl rfl rfl rfl rfl rfl rfl (by unfold maxLen;omega) (by show(_+_)*16<=_;omega) ?_;rw[<-Oc gE ⟨fe cur ce,true⟩,show gE.length+1=(gE++[(⟨fe cur ce,true⟩:aB)]).length by simp];refine go ?_;exact⟨(i+1,cur.set ce.toNat nw,gE++[⟨fe cur ce,true⟩]),⟨by simp only;omega,by simp only[List.length_set];exact de,by simp only[List.length_append,List.length_cons,List.length_nil];omega,A⟩,by simp only;omega,zX⟩
 ·have aN:=of_decide_eq_false u;rw[List.drop_of_length_le (by omega),jX] at A;refine gf ?_;rw[<-A]
theorem se(l:List aS)(a:aS):cH l++[pI a.kind,pI a.cell,pI a.eh,pI a.new]=cH (l++[a]):=by simp[cH,Ck]
theorem uO(l:List aS):(cH l).length=l.length*4:=by
 induction l with
 |nil=>rfl
 |cons a l ih=>unfold cH at ih⊢;rw[List.flatMap_cons,List.length_append,ih];simp[Ck];omega
theorem wQ(l:ab)(a k:Nat):(jQ l a k).length=k:=by simp[jQ]
theorem MS(l:ab)(a k i:Nat)(h:i<k):(jQ l a k).take (i+1)=(jQ l a k).take i++[⟨2,am l ((a:Int)+i) 7,0,if(a:Int)+i=l.nodes then 0 else(a:Int)+i+1⟩]:=by
 rw[List.take_add_one]
 congr 1
 simp[jQ,h]
theorem YI{l:ab}{m n:Int}{a:aS}(h:a∈fE l m n):a.kind=2/\a.eh=0:=by simp only[fE,List.mem_cons,List.not_mem_nil,or_false] at h;rcases h with rfl|rfl|rfl|rfl|rfl|rfl|rfl<;>exact⟨rfl,rfl⟩
theorem Kc(tN:List Int):∀(l:List aS)(cur:List Int)(gE:List aB),tN.length=cur.length->(jX tN cur gE l).1.length=cur.length
 |[],cur,gE,h=>rfl
 |a::l,cur,gE,h=>by
  rw[jX];split
  ·rw[Kc tN l _ _ (by rw[Al];exact h),Al]
  ·exact h
end Go.Proofs.YtcnefjfboagbmaaGreat
