/- The piece of a program once more: elim's. -/
import Derived.Test.YtcnefjfboagbmaaGreatWA
import Derived.Test.YtcnefjfboagbmaaGreatPA
namespace Go.Proofs.YtcnefjfboagbmaaGreat.Em
open Go.Proofs.Tryz
open Go.RowKit
set_option maxRecDepth 100000
abbrev m9(l:ag)(D:Int)(s:ah):List G:=[u l.az,u l.nodes,u l.buckets,u l.bP,u l.tasks,u l.cells,u l.maps,u l.cZ,u l.bo,u l.done,u l.count,u l.era,u l.free,u l.alive,u l.owner,u l.kV,u l.rU,u l.ring,u l.task,u l.cell,u l.map,u l.stack,u l.chan,u l.node,u l.size,u D,d7 s.gone,u s.made,u s.e0,u s.e1,u s.e2,.fn (.func 151) [] [.ptr 12 0,.ptr 13 0]]
abbrev bZ(l:ag)(D:Int)(log:List aD)(s:ah):bE:=[(11,m9 l D s),(12,[.ptr 11 0]),(13,[gH log])]
theorem gB(l:ag)(R:ca l)(D:Int)(s:ah)(n i:Int)(hn:n<9223372036854775808)(X:i<9223372036854775808):aX prog 156 [.el (Bq l D s),u n,u i] (u (aE l n i)):=by
 refine sP func156 ntmps156 λ w cl=>?_
 refine gA (j7 l R n i hn X) ?_;refine d8 ?_
 rfl
theorem iV(l:ag)(D:Int)(s:ah)(h:(s.made:Int)<9223372036854775807):aX prog 158 [.el (Bq l D s)] (u ((s.made:Int)-1)):=by
 refine sP func158 ntmps158 λ w cl=>?_
 refine gf ?_
 rfl
abbrev iz(a:aT):Value:=.iface 174 (.agg #[.int .i64 a.kind,.int .i64 a.cell,.int .i64 a.fz,.int .i64 a.new])
def B3{ar:Type}(l:ag)(D:Int)(log:List aD)(m:Except aT (ar×ah))(s:ah)(enc:ar->G):G->bE->Prop:=λ d U=>∃x M,m=.ok (x,M)/\s.made<=M.made/\M.made<=log.length/\d=enc x/\U=bZ l D log M
def B4{ar:Type}(l:ag)(D:Int)(log:List aD)(m:Except aT (ar×ah)):Value->bE->Prop:=λ v U=>∃a M,m=.error a/\v=iz a/\U=bZ l D log M
abbrev fS{ar:Type}(f:FuncId)(l:ag)(D:Int)(log:List aD)(s:ah)(ds:List G)(m:Except aT (ar×ah))(enc:ar->G):Prop:=
 fI prog f [11,12,13] ds (bZ l D log s) (B3 l D log m s enc) (B4 l D log m)
theorem pu(l:ag)(D:Int)(log:List aD)(s:ah)(a:aT)(hm:s.made<=log.length)(R:log.length<=1000000):fS 151 l D log s [fy a,.ptr 12 0,.ptr 13 0] (fk a log s) xF:=by
 refine sX func151 ntmps151 λ w cl own kf=>?_
 refine go ?_;refine gD [] ?_;refine go ?_;generalize h1:decide ((s.made:Int)=(log.length:Int))=cc;cases cc
 ·have aP:=of_decide_eq_false h1;have ba:s.made<log.length:=by omega
  have hr:log[s.made]?=some log[s.made]:=List.getElem?_eq_getElem ba;generalize log[s.made]=r at hr;have pJ:log[((s.made:Int)+1-1).toNat]?=some r:=by rw[show((s.made:Int)+1-1).toNat=s.made by omega];exact hr
  refine go ?_;refine gW 8 [] ?_;refine ri [pI r.val,pB r.ok] (DR pJ) ?_;refine qg ?_;exact fX _ ⟨r,{s with made:=s.made+1},by rw[fk,hr],by simp,by simp;omega,rfl,rfl⟩
 ·have aP:log.length=s.made:=by have:=of_decide_eq_true h1;omega
  have hr:log[s.made]?=none:=List.getElem?_eq_none (by omega);refine go ?_;refine bn (DH aB rfl rfl rfl rfl rfl) rfl rfl rfl ?_;refine Cb rfl rfl rfl ?_;refine gP ?_;exact fP _ ⟨a,s,by rw[fk,hr],rfl,rfl⟩
theorem eh(l:ag)(D:Int)(log:List aD)(s:ah)(c:Int)(hm:s.made<=log.length)(R:log.length<=1000000):fS 159 l D log s [.ptr 11 0,u c] (cj c log s) u:=by
 refine sX func159 ntmps159 λ w cl own kf=>?_
 refine go ?_;refine vX (pu l D log s ⟨1,c,0,0⟩ hm R) ?_ ?_
 ·rintro v U ⟨a,M,h,rfl,rfl⟩;refine gP ?_;exact fP _ ⟨a,M,bl h,rfl,rfl⟩
 rintro d U ⟨x,M,h,ir,ci,rfl,rfl⟩;refine go ?_;exact fX _ ⟨x.val,M,aw h,ir,ci,rfl,rfl⟩
theorem ii(l:ag)(D:Int)(log:List aD)(s:ah)(c v:Int)(hm:s.made<=log.length)(R:log.length<=1000000):fS 155 l D log s [.ptr 11 0,u c,u v] (eH c v log s) (λ _=>.bg []):=by
 refine sX func155 ntmps155 λ w cl own kf=>?_
 refine go ?_;refine vX (pu l D log s ⟨2,c,0,v⟩ hm R) ?_ ?_
 ·rintro v U ⟨a,M,h,rfl,rfl⟩;refine gP ?_;exact fP _ ⟨a,M,bl h,rfl,rfl⟩
 rintro d U ⟨x,M,h,ir,ci,rfl,rfl⟩;refine go ?_;exact fX _ ⟨(),M,aw h,ir,ci,rfl,rfl⟩
theorem i3(l:ag)(D:Int)(log:List aD)(s:ah)(c o v:Int)(hm:s.made<=log.length)(R:log.length<=1000000):fS 162 l D log s [.ptr 11 0,u c,u o,u v] (eZ c o v log s) dB:=by
 refine sX func162 ntmps162 λ w cl own kf=>?_
 refine go ?_;refine vX (pu l D log s ⟨3,c,o,v⟩ hm R) ?_ ?_
 ·rintro v U ⟨a,M,h,rfl,rfl⟩;refine gP ?_;exact fP _ ⟨a,M,bl h,rfl,rfl⟩
 rintro d U ⟨x,M,h,ir,ci,rfl,rfl⟩;refine go ?_;exact fX _ ⟨x.ok,M,aw h,ir,ci,rfl,rfl⟩
set_option maxHeartbeats 4000000 in
theorem EB(l:ag)(Z:ca l)(D:Int)(log:List aD)(s:ah)(hm:s.made<=log.length)(R:log.length<=1000000):fS 154 l D log s [.ptr 11 0] (pT l log s) (λ p=>.bg [u p.1,u p.2.1,dB p.2.2]):=by
 generalize E:pT l log s=aJ;refine sX func154 ntmps154 λ w cl own kf=>?_
 refine go ?_;refine bW (λ p:Nat×ah=>s.made<=p.2.made/\p.2.made<=log.length/\log.length-p.2.made<p.1/\nM l p.1 log p.2=aJ) (λ p=>⟨[(0,.ptr 11 0)],bZ l D log p.2,[]⟩) (λ p=>p.1) (log.length+1-s.made,s) ⟨Nat.le_refl _,hm,by simp only;omega,E⟩ (zX) ?_;rintro⟨k,t⟩ ⟨cC,bB,iS,E⟩;simp only at cC bB iS E;obtain⟨k,rfl⟩:∃j,k=j+1:=⟨k-1,by omega⟩;refine(show aK _ _ _ _ ⟨[(0,.ptr 11 0)],bZ l D log t,[]⟩ from ?_);rw[nM] at E;refine go ?_;refine xP (eh l D log t l.free bB R) ?_;rintro d U ⟨fr,s1,bG,fM,cP,rfl,rfl⟩;rw[aw bG] at E;have e8:=iw bG;have bO:=lj fr;have dj:=sE fr;refine gA (kB fr) ?_;generalize h1:decide ((ay fr).idx=0)=cc;cases cc
 ·have aP:=of_decide_eq_false h1;rw[if_neg aP] at E;refine go ?_;refine lA (gB l Z D s1 (ay fr).idx 7 (by omega) (by omega)) ?_;refine go ?_;refine xP (eh l D log s1 (aE l (ay fr).idx 7) cP R) ?_;rintro d U ⟨lk,s2,bm,e7,cy,rfl,rfl⟩;rw[aw bm] at E;have iv:=iw bm;refine go ?_;refine dW 11 [] ?_;refine gQ (pU (ay fr) lk dj.1 dj.2) ?_;refine cQ (lZ (co (ay fr) lk)) ?_;refine bh ?_;refine xP (i3 l D log s2 l.free fr (cf (co (ay fr) lk)) cy R) ?_;rintro d U ⟨ig,s3,bT,fe,cw,rfl,rfl⟩;rw[aw bT] at E;have gJ:=lr bT;refine go ?_;cases ig
  ·rw[if_neg (by decide)] at E;refine go ?_;exact⟨(k,s3),⟨by simp only;omega,cw,by simp only;omega,E⟩,by simp only;omega,zX⟩
  ·rw[if_pos rfl,aw eT] at E;refine go ?_;refine lA (iV l D s3 (by omega)) ?_;refine go ?_;refine xP (eh l D log s3 l.era cw R) ?_;rintro d U ⟨bi,s4,cB,jb,ez,rfl,rfl⟩;rw[aw cB] at E;refine go ?_;refine lA (gB l Z D s4 (ay fr).idx 6 (by omega) (by omega)) ?_;refine go ?_;refine xP (ii l D log s4 (aE l (ay fr).idx 6) bi ez R) ?_;rintro d U ⟨af,s5,dt,kS,eK,rfl,rfl⟩;rw[aw dt] at E;refine go ?_;exact fX _ ⟨_,s5,E.symm,by omega,eK,rfl,rfl⟩
 ·rw[if_pos (of_decide_eq_true h1),aw eT] at E;refine go ?_;refine lA (iV l D s1 (by omega)) ?_;refine go ?_;exact fX _ ⟨_,s1,E.symm,by omega,cP,rfl,rfl⟩
set_option maxHeartbeats 4000000 in
theorem wa(l:ag)(Z:ca l)(D:Int)(log:List aD)(s:ah)(n:Int)(hn:n<9223372036854775808)(hm:s.made<=log.length)(R:log.length<=1000000):fS 164 l D log s [.ptr 11 0,u n] (mM l n log s) (λ _=>.bg []):=by
 generalize E:mM l n log s=aJ;refine sX func164 ntmps164 λ w cl own kf=>?_
 refine go ?_;refine bW (λ p:Nat×ah=>s.made<=p.2.made/\p.2.made<=log.length/\log.length-p.2.made<p.1/\l9 l n p.1 log p.2=aJ) (λ p=>⟨[(0,.ptr 11 0),(1,u n)],bZ l D log p.2,[]⟩) (λ p=>p.1) (log.length+1-s.made,s) ⟨Nat.le_refl _,hm,by simp only;omega,E⟩ (zX) ?_;rintro⟨k,t⟩ ⟨cC,bB,iS,E⟩;simp only at cC bB iS E;obtain⟨k,rfl⟩:∃j,k=j+1:=⟨k-1,by omega⟩;refine(show aK _ _ _ _ ⟨[(0,.ptr 11 0),(1,u n)],bZ l D log t,[]⟩ from ?_);rw[l9] at E;refine go ?_;refine xP (eh l D log t l.free bB R) ?_;rintro d U ⟨fr,s1,bG,fM,cP,rfl,rfl⟩;rw[aw bG] at E;have e8:=iw bG;have dj:=sE fr;refine gA (kB fr) ?_;refine gW 6 [] ?_;refine lQ (gB l Z D s1 n 7 hn (by omega)) ?_;refine bh ?_;refine xP (ii l D log s1 (aE l n 7) (ay fr).idx cP R) ?_;rintro d U ⟨af,s2,bm,e7,cy,rfl,rfl⟩;rw[aw bm] at E;have iv:=rE bm;refine go ?_;refine dW 11 [] ?_;refine gQ (pU (ay fr) n dj.1 dj.2) ?_;refine cQ (lZ (co (ay fr) n)) ?_;refine bh ?_;refine xP (i3 l D log s2 l.free fr (cf (co (ay fr) n)) cy R) ?_;rintro d U ⟨ig,s3,bT,fe,cw,rfl,rfl⟩;rw[aw bT] at E;have gJ:=lr bT;refine go ?_;cases ig
 ·rw[if_neg (by decide)] at E;refine go ?_;exact⟨(k,s3),⟨by simp only;omega,cw,by simp only;omega,E⟩,by simp only;omega,zX⟩
 ·rw[if_pos rfl] at E;refine go ?_;exact fX _ ⟨_,s3,E.symm,by omega,cw,rfl,rfl⟩
set_option maxHeartbeats 4000000 in
theorem Ah(l:ag)(Z:ca l)(D:Int)(log:List aD)(s:ah)(cell:Int)(hm:s.made<=log.length)(R:log.length<=1000000):fS 194 l D log s [.ptr 11 0,u 0,u cell] (kP l D 0 cell log s) (λ p=>.bg [u p.1,u p.2]):=by
 generalize E:kP l D 0 cell log s=aJ;refine sX func194 ntmps194 λ w cl own kf=>?_
 refine go ?_;refine bW (λ p:Nat×ah=>s.made<=p.2.made/\p.2.made<=log.length/\log.length-p.2.made<p.1/\kO l D 0 cell p.1 log p.2=aJ) (λ p=>⟨[(0,.ptr 11 0),(1,u 0),(2,u cell)],bZ l D log p.2,[]⟩) (λ p=>p.1) (log.length+1-s.made,s) ⟨Nat.le_refl _,hm,by simp only;omega,E⟩ (zX) ?_;rintro⟨k,t⟩ ⟨cC,bB,iS,E⟩;simp only at cC bB iS E;obtain⟨k,rfl⟩:∃j,k=j+1:=⟨k-1,by omega⟩;refine(show aK _ _ _ _ ⟨[(0,.ptr 11 0),(1,u 0),(2,u cell)],bZ l D log t,[]⟩ from ?_);rw[kO] at E;refine go ?_;refine xP (eh l D log t cell bB R) ?_;rintro d U ⟨v,s1,bG,fM,cP,rfl,rfl⟩;rw[aw bG,aw eT] at E;have e8:=iw bG;refine go ?_;refine lA (iV l D s1 (by omega)) ?_;refine go ?_;refine xP (eh l D log s1 l.era cP R) ?_;rintro d U ⟨er,s2,bm,e7,cy,rfl,rfl⟩;rw[aw bm] at E;have iv:=iw bm;refine go ?_;refine bn (gK aB rfl rfl rfl rfl rfl (by omega) (by omega)) rfl rfl rfl ?_;refine go ?_;generalize h1:decide (er=s2.e0)=cc;cases cc
 ·rw[if_neg (show¬er=s2.e 0 from of_decide_eq_false h1)] at E;refine go ?_;refine dW 12 [] ?_;refine gQ (kW l Z D 0 (by omega)) ?_;refine xP (ii l D log s2 (cg l D 0) er cy R) ?_;rintro d U ⟨af,s3,bT,fe,cw,rfl,rfl⟩;rw[aw bT] at E;have gJ:=rE bT;refine go ?_;refine bn (gK aB rfl rfl rfl rfl rfl (by omega) (by omega)) rfl rfl rfl ?_;refine go ?_;exact⟨(k,{s3 with e0:=er}),⟨by simp only;omega,by simp only;omega,by simp only;omega,E⟩,by simp only;omega,zX⟩
 ·rw[if_pos (show er=s2.e 0 from of_decide_eq_true h1)] at E;refine go ?_;exact fX _ ⟨_,s2,E.symm,by omega,cy,rfl,rfl⟩
set_option maxHeartbeats 4000000 in
theorem jP(l:ag)(Z:ca l)(D:Int)(log:List aD)(s:ah)(hm:s.made<=log.length)(R:log.length<=1000000):fS 166 l D log s [.ptr 11 0] (ge l D log s) (λ _=>.bg []):=by
 generalize E:ge l D log s=aJ;unfold ge at E;refine sX func166 ntmps166 λ w cl own kf=>?_
 refine go ?_;refine bW (λ p:Nat×ah=>p.1<=3/\s.made<=p.2.made/\p.2.made<=log.length/\gG l D p.1 ([s.e0,s.e1,s.e2].drop p.1) log p.2=aJ) (λ p=>⟨[(8,u p.1),(7,.agg [u s.e0,u s.e1,u s.e2]),(0,.ptr 11 0)],bZ l D log p.2,[]⟩) (λ p=>3-p.1) (0,s) ⟨by simp only;omega,Nat.le_refl _,hm,E⟩ (zX) ?_;rintro⟨i,t⟩ ⟨X,cC,bB,E⟩;simp only at X cC bB E;rcases(show i=0\/i=1\/i=2\/i=3 by omega) with rfl|rfl|rfl|rfl
 ·refine(show aK _ _ _ _ ⟨[(8,u 0),(7,.agg [u s.e0,u s.e1,u s.e2]),(0,.ptr 11 0)],bZ l D log t,[]⟩ from ?_);have E:(cX l D 0 s.e0).bind (λ _=>gG l D 1 ([s.e0,s.e1,s.e2].drop 1)) log t=aJ:=E;refine go ?_;refine cN (λ h1=>?_) (λ h1=>?_)<;>try rw[h1]
  ·refine go ?_;refine bn (uU aB (u s.e0) rfl rfl rfl rfl rfl rfl (by omega) (by omega) rfl) rfl rfl rfl ?_;refine go ?_;generalize A:decide (s.e0=0)=cc;cases cc
   ·rw[cX,if_neg (of_decide_eq_false A)] at E;refine go ?_;refine dW 11 [] ?_;refine gQ (kW l Z D 0 (by omega)) ?_;refine xX (ii l D log t (cg l D 0) 0 bB R) ?_ ?_
    ·rintro v U ⟨a,M,h,rfl,rfl⟩;refine gP ?_;exact fP _ ⟨a,M,by rw[<-E];exact bl (bl h),rfl,rfl⟩
    rintro d U ⟨af,s1,bG,fM,cP,rfl,rfl⟩;have mb:gG l D 1 ([s.e0,s.e1,s.e2].drop 1) log {s1 with e0:=0}=aJ:=by rw[<-E];exact(aw (f:=λ _=>gG l D 1 ([s.e0,s.e1,s.e2].drop 1)) (aw (f:=λ _=>oC 0) bG)).symm
    refine go ?_;refine bn (gK aB rfl rfl rfl rfl rfl (by omega) (by omega)) rfl rfl rfl ?_;refine go ?_;exact⟨(1,{s1 with e0:=0}),⟨by simp only;omega,by simp only;omega,by simp only;omega,mb⟩,by simp only;omega,zX⟩
   ·rw[cX,if_pos (of_decide_eq_true A)] at E;refine go ?_;exact⟨(1,t),⟨by simp only;omega,cC,bB,E⟩,by simp only;omega,zX⟩
  ·exact absurd h1 (by decide)
 ·refine(show aK _ _ _ _ ⟨[(8,u 1),(7,.agg [u s.e0,u s.e1,u s.e2]),(0,.ptr 11 0)],bZ l D log t,[]⟩ from ?_);have E:(cX l D 1 s.e1).bind (λ _=>gG l D 2 ([s.e0,s.e1,s.e2].drop 2)) log t=aJ:=E;refine go ?_;refine cN (λ h1=>?_) (λ h1=>?_)<;>try rw[h1]
  ·refine go ?_;refine bn (uU aB (u s.e1) rfl rfl rfl rfl rfl rfl (by omega) (by omega) rfl) rfl rfl rfl ?_;refine go ?_;generalize A:decide (s.e1=0)=cc;cases cc
   ·rw[cX,if_neg (of_decide_eq_false A)] at E;refine go ?_;refine dW 11 [] ?_;refine gQ (kW l Z D 1 (by omega)) ?_;refine xX (ii l D log t (cg l D 1) 0 bB R) ?_ ?_
    ·rintro v U ⟨a,M,h,rfl,rfl⟩;refine gP ?_;exact fP _ ⟨a,M,by rw[<-E];exact bl (bl h),rfl,rfl⟩
    rintro d U ⟨af,s1,bG,fM,cP,rfl,rfl⟩;have mb:gG l D 2 ([s.e0,s.e1,s.e2].drop 2) log {s1 with e1:=0}=aJ:=by rw[<-E];exact(aw (f:=λ _=>gG l D 2 ([s.e0,s.e1,s.e2].drop 2)) (aw (f:=λ _=>oC 1) bG)).symm
    refine go ?_;refine bn (gK aB rfl rfl rfl rfl rfl (by omega) (by omega)) rfl rfl rfl ?_;refine go ?_;exact⟨(2,{s1 with e1:=0}),⟨by simp only;omega,by simp only;omega,by simp only;omega,mb⟩,by simp only;omega,zX⟩
   ·rw[cX,if_pos (of_decide_eq_true A)] at E;refine go ?_;exact⟨(2,t),⟨by simp only;omega,cC,bB,E⟩,by simp only;omega,zX⟩
  ·exact absurd h1 (by decide)
 ·refine(show aK _ _ _ _ ⟨[(8,u 2),(7,.agg [u s.e0,u s.e1,u s.e2]),(0,.ptr 11 0)],bZ l D log t,[]⟩ from ?_);have E:(cX l D 2 s.e2).bind (λ _=>gG l D 3 ([s.e0,s.e1,s.e2].drop 3)) log t=aJ:=E;refine go ?_;refine cN (λ h1=>?_) (λ h1=>?_)<;>try rw[h1]
  ·refine go ?_;refine bn (uU aB (u s.e2) rfl rfl rfl rfl rfl rfl (by omega) (by omega) rfl) rfl rfl rfl ?_;refine go ?_;generalize A:decide (s.e2=0)=cc;cases cc
   ·rw[cX,if_neg (of_decide_eq_false A)] at E;refine go ?_;refine dW 11 [] ?_;refine gQ (kW l Z D 2 (by omega)) ?_;refine xX (ii l D log t (cg l D 2) 0 bB R) ?_ ?_
    ·rintro v U ⟨a,M,h,rfl,rfl⟩;refine gP ?_;exact fP _ ⟨a,M,by rw[<-E];exact bl (bl h),rfl,rfl⟩
    rintro d U ⟨af,s1,bG,fM,cP,rfl,rfl⟩;have mb:gG l D 3 ([s.e0,s.e1,s.e2].drop 3) log {s1 with e2:=0}=aJ:=by rw[<-E];exact(aw (f:=λ _=>gG l D 3 ([s.e0,s.e1,s.e2].drop 3)) (aw (f:=λ _=>oC 2) bG)).symm
    refine go ?_;refine bn (gK aB rfl rfl rfl rfl rfl (by omega) (by omega)) rfl rfl rfl ?_;refine go ?_;exact⟨(3,{s1 with e2:=0}),⟨by simp only;omega,by simp only;omega,by simp only;omega,mb⟩,by simp only;omega,zX⟩
   ·rw[cX,if_pos (of_decide_eq_true A)] at E;refine go ?_;exact⟨(3,t),⟨by simp only;omega,cC,bB,E⟩,by simp only;omega,zX⟩
  ·exact absurd h1 (by decide)
 ·refine(show aK _ _ _ _ ⟨[(8,u 3),(7,.agg [u s.e0,u s.e1,u s.e2]),(0,.ptr 11 0)],bZ l D log t,[]⟩ from ?_);refine go ?_;refine cN (λ h1=>?_) (λ h1=>?_)<;>try rw[h1]
  ·exact absurd h1 (by decide)
  ·refine go ?_;exact fX _ ⟨(),t,E.symm,cC,bB,rfl,rfl⟩
theorem Cp(r f g0 g1:Int):aX prog 197 [u r,.el [pI f],.el [pI g0,pI g1]] (dB (gZ f g1 r)):=by
 refine sP func197 ntmps197 λ w cl=>?_
 refine go ?_;generalize h1:decide (f<=r)=cc;cases cc
 ·refine gf ?_;rw[gZ,h1];rfl
 ·refine go ?_;refine bn (KA aB rfl rfl rfl rfl rfl (by omega) (by omega) rfl) rfl rfl rfl ?_;refine gf ?_;rw[gZ,h1];rfl
abbrev rQ(f g0 g1:Int):G:=.fn (.func 197) [] [.el [pI f],.el [pI g0,pI g1]]
set_option maxHeartbeats 4000000 in
theorem DG(aM:List Int)(hh:aM.length<=1000000)(f g0 g1:Int):aX prog 217 [bq aM,rQ f g0 g1] (u (l7 (gZ f g1) aM 0)):=by
 generalize E:l7 (gZ f g1) aM 0=aJ;refine sP func217 ntmps217 λ w cl=>?_
 refine go ?_;refine bW (λ i:Nat=>i<=aM.length/\l7 (gZ f g1) (aM.drop i) i=aJ) (λ i=>⟨[(8,u i),(7,u aM.length),(6,bq aM),(0,bq aM),(1,rQ f g0 g1)],[],[]⟩) (λ i=>aM.length-i) 0 ⟨Nat.zero_le _,E⟩ (zX) ?_;rintro i ⟨X,E⟩;refine go ?_;refine cN (λ h1=>?_) (λ h1=>?_)<;>try rw[h1]
 ·have aP:=of_decide_eq_true h1;have du:i<aM.length:=by omega
  obtain⟨x,O⟩:=l8 (l:=aM) (i:=i) (by omega) aP;have F:aM.drop i=x::aM.drop (i+1):=by rw[List.drop_eq_getElem_cons du];simp only[Int.toNat_natCast] at O;rw[(List.getElem?_eq_some_iff.1 O).2]
  rw[F,l7] at E;refine go ?_;refine ai [pI x] (gk O) ?_;refine go ?_;refine bn (vN (Cp x f g0 g1) rfl (λ a w=>call197 a w) rfl rfl) rfl rfl rfl ?_;refine go ?_;generalize A:gZ f g1 x=cc;cases cc
  ·rw[A,if_neg (by decide)] at E;refine go ?_;exact⟨i+1,⟨by omega,E⟩,by omega,zX⟩
  ·rw[A,if_pos rfl] at E;refine gf ?_;rw[E]
 ·have du:aM.length<=i:=by have:=of_decide_eq_false h1;omega
  rw[List.drop_of_length_le du,l7] at E;refine gf ?_;rw[<-E]
theorem Cq(aM:List Int)(hh:aM.length<=1000000)(f g0 g1:Int):aX prog 196 [bq aM,rQ f g0 g1] (dB (aM.any (gZ f g1))):=by
 refine sP func196 ntmps196 λ w cl=>?_
 refine gA (DG aM hh f g0 g1) ?_;refine d8 ?_;rw[<-Fg _ aM 0]
set_option maxHeartbeats 8000000 in
theorem yW(l:ag)(Z:ca l)(D:Int)(log:List aD)(s:ah)(n:Int)(hn:n<9223372036854775808)(fb:eu s.gone)(dp:s.gone.length<=10000)(hm:s.made<=log.length)(R:log.length<=1000000):fS 167 l D log s [.ptr 11 0,u n] (jF l n log s) (λ _=>.bg []):=by
 have uN:=Z.az;unfold lH at uN;generalize E:jF l n log s=aJ;unfold jF at E;refine sX func167 ntmps167 λ w cl own kf=>?_
 refine go ?_;refine xP (eh l D log s l.era hm R) ?_;rintro d U ⟨er,s1,bG,fM,cP,rfl,rfl⟩;rw[aw bG] at E;have e8:=fE bG;refine go ?_;refine gW 10 [] ?_;refine vP (pu l D log s1 ⟨4,l.era,0,1⟩ cP R) ?_;rintro d U ⟨dr,s2,bm,e7,cy,rfl,rfl⟩;rw[aw bm] at E;have de:s2.gone=s.gone:=by rw[(un bm).1,e8.1]
 rw[de] at E;have n4:s.made<=s2.made:=by omega
 clear bG bm e8 fM e7 cP;refine go ?_;refine Ih 0 (pq s2.gone (by rw[de];omega)) rfl (λ a w=>call71 a w) rfl rfl rfl rfl rfl (G7 _) ?_;refine go ?_;refine hE aB rfl rfl rfl rfl rfl rfl rfl rfl rfl rfl rfl rfl rfl (by rw[de];unfold maxLen;omega) (by show(_+_)*16<=_;rw[de];omega) ?_;refine hZ ?_;refine nf ?_;refine dO (qC 11 (aO:=m9 l D {s2 with gone:=s.gone++[(n,er)]}) rfl (by
  show List.map lF _=_;have e:vc (s.gone++[(n,er)])=.sl false (s.gone.length+1) (gL s.gone++[pI n,pI er]):=by rw[vc,Bn,List.length_append];rfl
  simp only[List.map,lF,yG,de,m9,d7];rw[e])) ?_
 generalize wm:s.gone++[(n,er)]=gN at E;have Po:gN.length=s.gone.length+1:=by rw[<-wm];simp
 have C5:eu gN:=by
  intro p hp;rw[<-wm] at hp;rcases List.mem_append.1 hp with hp|hp
  ·exact fb p hp
  ·simp at hp;rw[hp];exact hn
 have ew:IntKind.i64.wrap (2*l.az)=2*l.az:=eI (by omega) (by omega);refine dO (bU:=⟨[(0,.ptr 11 0)],bZ l D log {s2 with gone:=gN},[]⟩) (zX) ?_;generalize gJ:({s2 with gone:=gN}:ah)=s3 at E⊢;have cw:s3.made<=log.length:=by rw[<-gJ];exact cy
 have fe:s.made<=s3.made:=by rw[<-gJ];exact n4
 have fV:s3.gone=gN:=by rw[<-gJ]
 refine go ?_;refine gD [] ?_;rw[ew];refine qg ?_;rw[fV];generalize h1:decide ((gN.length:Int)<2*l.az)=cc;cases cc
 ·have aP:=of_decide_eq_false h1;rw[if_neg (by omega),pR] at E;refine go ?_;refine dO (kF 5 0 3 1 rfl rfl rfl) ?_;refine bW (λ p:Nat×List Int×Nat×ah=>p.1+p.2.2.1=l.az.toNat/\p.2.1.length=3*p.1/\s.made<=p.2.2.2.made/\p.2.2.2.made<=log.length/\p.2.2.2.gone=gN/\(j5 p.2.1 (jE l p.1 p.2.2.1)).bind (λ aM=>(fa l aM gN []).bind λ aY=>ji aY) log p.2.2.2=aJ) (λ p=>⟨[(62,u p.1),(61,u l.az),(5,.aW 0 p.2.1.length (bb p.2.1)),(0,.ptr 11 0)],bZ l D log p.2.2.2,[(0,⟨3,1,p.2.1.length⟩)]⟩) (λ p=>p.2.2.1) (0,[],l.az.toNat,s3) ⟨by simp,rfl,fe,cw,fV,E⟩ (zX) ?_;rintro⟨j,acc,m,t⟩ ⟨hj,mN,cC,bB,eX,E⟩;simp only at hj mN cC bB eX E;refine(show aK _ _ _ _ ⟨[(62,u j),(61,u l.az),(5,.aW 0 acc.length (bb acc)),(0,.ptr 11 0)],bZ l D log t,[(0,⟨3,1,acc.length⟩)]⟩ from ?_);refine go ?_;refine cN (λ A=>?_) (λ A=>?_)<;>try rw[A]
  ·have bs:=of_decide_eq_true A;obtain⟨m,rfl⟩:∃k,m=k+1:=⟨m-1,by omega⟩;rw[jE] at E;refine go ?_;refine bW (λ q:Nat×List Int×ah=>q.1<=3/\q.2.1.length=3*j+q.1/\s.made<=q.2.2.made/\q.2.2.made<=log.length/\q.2.2.gone=gN/\(j5 q.2.1 (([cg l j 0,cg l j 1,cg l j 2].drop q.1)++jE l (j+1) m)).bind (λ aM=>(fa l aM gN []).bind λ aY=>ji aY) log q.2.2=aJ) (λ q=>⟨[(65,u q.1),(62,u j),(61,u l.az),(6,u j),(5,.aW 0 q.2.1.length (bb q.2.1)),(0,.ptr 11 0)],bZ l D log q.2.2,[(0,⟨3,1,q.2.1.length⟩)]⟩) (λ q=>3-q.1) (0,acc,t) ⟨by simp only;omega,by simp only;omega,cC,bB,eX,E⟩ (zX) ?_;rintro⟨i,ac,t⟩ ⟨X,CQ,cC,bB,eX,E⟩;simp only at X CQ cC bB eX E;rcases(show i=0\/i=1\/i=2\/i=3 by omega) with rfl|rfl|rfl|rfl
   ·refine(show aK _ _ _ _ ⟨[(65,u 0),(62,u j),(61,u l.az),(6,u j),(5,.aW 0 ac.length (bb ac)),(0,.ptr 11 0)],bZ l D log t,[(0,⟨3,1,ac.length⟩)]⟩ from ?_);have E:((cj (cg l j 0)).bind λ v=>j5 (ac++[v]) (([cg l j 0,cg l j 1,cg l j 2].drop 1)++jE l (j+1) m)).bind (λ aM=>(fa l aM gN []).bind λ aY=>ji aY) log t=aJ:=E;rw[bind_assoc] at E;refine go ?_;refine cN (λ K=>?_) (λ K=>?_)<;>try rw[K]
    ·refine gA (kW l Z j 0 (by omega)) ?_;refine xP (eh l D log t (cg l j 0) bB R) ?_;rintro d U ⟨v,s4,cB,jb,ez,rfl,rfl⟩;rw[aw cB] at E;have iq:s4.gone=gN:=by rw[(fE cB).1];exact eX
     refine go ?_;refine pA rfl ?_;rw[ow,show ac.length+1=(ac++[v]).length by simp];refine go ?_;exact⟨(1,ac++[v],s4),⟨by simp only;omega,by simp only[List.length_append,List.length_cons,List.length_nil];omega,by simp only;omega,ez,iq,E⟩,by simp only;omega,zX⟩
    ·exact absurd K (by decide)
   ·refine(show aK _ _ _ _ ⟨[(65,u 1),(62,u j),(61,u l.az),(6,u j),(5,.aW 0 ac.length (bb ac)),(0,.ptr 11 0)],bZ l D log t,[(0,⟨3,1,ac.length⟩)]⟩ from ?_);have E:((cj (cg l j 1)).bind λ v=>j5 (ac++[v]) (([cg l j 0,cg l j 1,cg l j 2].drop 2)++jE l (j+1) m)).bind (λ aM=>(fa l aM gN []).bind λ aY=>ji aY) log t=aJ:=E;rw[bind_assoc] at E;refine go ?_;refine cN (λ K=>?_) (λ K=>?_)<;>try rw[K]
    ·refine gA (kW l Z j 1 (by omega)) ?_;refine xP (eh l D log t (cg l j 1) bB R) ?_;rintro d U ⟨v,s4,cB,jb,ez,rfl,rfl⟩;rw[aw cB] at E;have iq:s4.gone=gN:=by rw[(fE cB).1];exact eX
     refine go ?_;refine pA rfl ?_;rw[ow,show ac.length+1=(ac++[v]).length by simp];refine go ?_;exact⟨(2,ac++[v],s4),⟨by simp only;omega,by simp only[List.length_append,List.length_cons,List.length_nil];omega,by simp only;omega,ez,iq,E⟩,by simp only;omega,zX⟩
    ·exact absurd K (by decide)
   ·refine(show aK _ _ _ _ ⟨[(65,u 2),(62,u j),(61,u l.az),(6,u j),(5,.aW 0 ac.length (bb ac)),(0,.ptr 11 0)],bZ l D log t,[(0,⟨3,1,ac.length⟩)]⟩ from ?_);have E:((cj (cg l j 2)).bind λ v=>j5 (ac++[v]) (([cg l j 0,cg l j 1,cg l j 2].drop 3)++jE l (j+1) m)).bind (λ aM=>(fa l aM gN []).bind λ aY=>ji aY) log t=aJ:=E;rw[bind_assoc] at E;refine go ?_;refine cN (λ K=>?_) (λ K=>?_)<;>try rw[K]
    ·refine gA (kW l Z j 2 (by omega)) ?_;refine xP (eh l D log t (cg l j 2) bB R) ?_;rintro d U ⟨v,s4,cB,jb,ez,rfl,rfl⟩;rw[aw cB] at E;have iq:s4.gone=gN:=by rw[(fE cB).1];exact eX
     refine go ?_;refine pA rfl ?_;rw[ow,show ac.length+1=(ac++[v]).length by simp];refine go ?_;exact⟨(3,ac++[v],s4),⟨by simp only;omega,by simp only[List.length_append,List.length_cons,List.length_nil];omega,by simp only;omega,ez,iq,E⟩,by simp only;omega,zX⟩
    ·exact absurd K (by decide)
   ·refine(show aK _ _ _ _ ⟨[(65,u 3),(62,u j),(61,u l.az),(6,u j),(5,.aW 0 ac.length (bb ac)),(0,.ptr 11 0)],bZ l D log t,[(0,⟨3,1,ac.length⟩)]⟩ from ?_);refine go ?_;refine cN (λ K=>?_) (λ K=>?_)<;>try rw[K]
    ·exact absurd K (by decide)
    ·refine go ?_;exact⟨(j+1,ac,m,t),⟨by simp only;omega,by simp only;omega,cC,bB,eX,E⟩,by simp only;omega,zX⟩
  ·have bs:=of_decide_eq_false A;obtain rfl:m=0:=by omega
   have E:((fa l acc gN []).bind λ aY=>ji aY) log t=aJ:=E;subst eX;refine dO (AY 5 (dR:=bq acc) rfl rfl) ?_;refine go ?_;refine dO (kF 8 1 110 2 rfl rfl rfl) ?_;refine bW (λ q:Nat×List (Int×Int)×ah=>q.1<=t.gone.length/\q.2.1.length<=q.1/\s.made<=q.2.2.made/\q.2.2.made<=log.length/\((fa l acc (t.gone.drop q.1) q.2.1).bind λ aY=>ji aY) log q.2.2=aJ) (λ q=>⟨[(87,u q.1),(86,u t.gone.length),(85,d7 t.gone),(8,.aW 1 q.2.1.length (gL q.2.1)),(5,bq acc),(0,.ptr 11 0)],bZ l D log q.2.2,[(1,⟨110,2,q.2.1.length⟩)]⟩) (λ q=>t.gone.length-q.1) (0,[],t) ⟨Nat.zero_le _,Nat.le_refl _,cC,bB,E⟩ (zX) ?_;rintro⟨i,aY,af⟩ ⟨X,jx,tL,lV,E⟩;simp only at X jx tL lV E;refine(show aK _ _ _ _ ⟨[(87,u i),(86,u t.gone.length),(85,d7 t.gone),(8,.aW 1 aY.length (gL aY)),(5,bq acc),(0,.ptr 11 0)],bZ l D log af,[(1,⟨110,2,aY.length⟩)]⟩ from ?_);refine go ?_;refine cN (λ K=>?_) (λ K=>?_)<;>try rw[K]
   ·have dc:=of_decide_eq_true K;have du:i<t.gone.length:=by omega
    obtain⟨gg,nX⟩:=l8 (l:=t.gone) (i:=i) (by omega) dc;have wn:=C5 gg (List.mem_of_getElem? nX);have F:t.gone.drop i=gg::t.gone.drop (i+1):=by rw[List.drop_eq_getElem_cons du];simp only[Int.toNat_natCast] at nX;rw[(List.getElem?_eq_some_iff.1 nX).2]
    rw[F,fa,bind_assoc] at E;refine go ?_;refine ai [pI gg.1,pI gg.2] (CD nX) ?_;refine go ?_;refine bn (gK aB rfl rfl rfl rfl rfl (by omega) (by omega)) rfl rfl rfl ?_;refine go ?_;refine lA (gB l Z D af gg.1 6 wn (by omega)) ?_;refine go ?_;refine xP (eh l D log af (aE l gg.1 6) lV R) ?_;rintro d U ⟨bi,s5,dt,kS,eK,rfl,rfl⟩;rw[aw dt] at E;refine go ?_;refine bn (GO rfl rfl rfl) rfl rfl rfl ?_;refine(show bp _ _ _ _ _ ⟨(97,u (nI bi))::_,_,_⟩ from ?_);refine go ?_;refine lA (Cq acc (by omega) (nI bi) gg.1 gg.2) ?_;refine go ?_;generalize h4:acc.any (gZ (nI bi) gg.2)=cc;cases cc
    ·rw[h4,if_neg (by decide),bind_assoc] at E;refine go ?_;refine bn (gK aB rfl rfl rfl rfl rfl (by omega) (by omega)) rfl rfl rfl ?_;refine go ?_;refine xP (wa l Z D log s5 gg.1 wn eK R) ?_;rintro d U ⟨uu,s6,jX,uG,mU,rfl,rfl⟩;rw[aw jX] at E;refine go ?_;exact⟨(i+1,aY,s6),⟨by simp only;omega,by simp only;omega,by simp only;omega,mU,E⟩,by simp only;omega,zX⟩
    ·rw[h4,if_pos rfl] at E;refine go ?_;refine pA rfl ?_;rw[<-Bn aY gg,show aY.length+1=(aY++[gg]).length by simp];refine go ?_;exact⟨(i+1,aY++[gg],s5),⟨by simp only;omega,by simp only[List.length_append,List.length_cons,List.length_nil];omega,by simp only;omega,eK,E⟩,by simp only;omega,zX⟩
   ·have dc:=of_decide_eq_false K;rw[List.drop_of_length_le (by omega),fa] at E;have E:(Except.ok ((),{af with gone:=aY}):Except aT (Unit×ah))=aJ:=E;refine dO (AY 8 (dR:=d7 aY) rfl rfl) ?_;refine go ?_;exact fX _ ⟨(),{af with gone:=aY},E.symm,tL,lV,rfl,rfl⟩
 ·have aP:=of_decide_eq_true h1;rw[if_pos (by omega)] at E;refine go ?_;exact fX _ ⟨(),s3,E.symm,fe,cw,rfl,rfl⟩
theorem sH(g:List (Int×Int))(hg:g.length<=100000):aX prog 123 [d7 g] (.bg [fy eN,jQ ⟨0,false,1,-1,g⟩,dB true]):=by
 refine sP func123 ntmps123 λ w cl=>?_
 refine gA ((pq g hg).pure) ?_;refine d8 ?_
 rfl
theorem Ce(l:ag)(D:Int)(g:List (Int×Int))(log:List aD):eo prog 124 [] [dD l,u D,d7 g,gH log] [] (λ d U=>d=.ptr 11 0/\U=bZ l D log ⟨0,g,0,0,0⟩):=by
 refine sI func124 ntmps124 λ w cl own kf=>?_
 refine gS ?_;refine bA 0 ?_;refine bA 13 ?_;refine nl aB rfl rfl rfl rfl ?_;refine kl ?_;refine gS ?_;refine nl aB rfl rfl rfl rfl ?_;refine nl aB rfl rfl rfl rfl ?_;refine nl aB rfl rfl rfl rfl ?_;refine bn (zn aB rfl rfl rfl) rfl rfl rfl ?_;refine bA 11 ?_;refine nA 12 ?_;refine go ?_;refine im (bZ l D log ⟨0,g,0,0,0⟩) rfl rfl (by(repeat(first|exact trivial|refine⟨⟨rfl,rfl⟩,?_⟩))) trivial ?_;exact⟨rfl,rfl⟩
theorem yR{e:aA}{vs:List Value}(a:aT)(o:bf)(dn:Bool)(hI:fR (jg a (ot o) dn) e)(hv:DReps e vs [.ptr 22 0,.ptr 21 0,.ptr 23 0,.ptr 24 0]):
 CallsD prog 153 vs.toArray .returning e.w λ r u2 aI=>∃Y aq,r=.returned (.tuple #[])/\u2=.returning/\Y.w=aI/\fR aq Y/\Left [21,22,23,24] e Y/\aq=jg a (ot o) dn:=by
 refine wY (ae:=tb) func153 rfl ntmps153 rfl rfl rfl (by(repeat(first|exact trivial|refine⟨rfl,?_⟩))) (λ _ _=>rfl) (λ _=>rfl) rfl rfl .no (λ w cl own kf=>?_) hI hv;refine go ?_;refine bn (Gt underlying20 rfl rfl) rfl rfl rfl ?_;refine go ?_;refine jR (jg a (ot o) dn) rfl rfl (by(repeat(first|exact trivial|refine⟨⟨rfl,rfl⟩,?_⟩))) (by(repeat(first|exact trivial|refine⟨rfl,?_⟩))) rfl
theorem yS{e:aA}{vs:List Value}(a br:aT)(od:List G)(ho:od=[u 0,dB false,u 0,u 0,.p (.sl true 0 [])])(dn:Bool)(hI:fR (jg a od dn) e)(hv:DReps e vs [.ptr 22 0,.ptr 21 0,.ptr 23 0,.ptr 24 0]):
 CallsD prog 153 vs.toArray (.panicking [pe (iz br)]) e.w λ r u2 aI=>∃Y aq,r=.returned (.tuple #[])/\u2=.panicking [{v:=iz br,recovered:=true}]/\Y.w=aI/\fR aq Y/\Left [21,22,23,24] e Y/\aq=jg br od dn:=by
 subst ho;refine wY (ae:=tb) func153 rfl ntmps153 rfl rfl rfl (by(repeat(first|exact trivial|refine⟨rfl,?_⟩))) (λ _ _=>rfl) (λ _=>rfl) rfl rfl (.yes (iz br)) (λ w cl own kf=>?_) hI hv;refine go ?_;refine bn (Gu underlying20 rfl rfl) rfl rfl rfl ?_;refine go ?_;refine bn (EP aB rfl rfl rfl rfl) rfl rfl rfl ?_;refine go ?_;refine jR (jg br _ dn) rfl rfl (by(repeat(first|exact trivial|refine⟨⟨rfl,rfl⟩,?_⟩))) (by(repeat(first|exact trivial|refine⟨rfl,?_⟩))) rfl
theorem Rb(n:Int):aX prog 92 [u n,u 32] (u (n%4294967296)):=yH n 32 (by omega)
theorem Ra(n:Int):aX prog 92 [u n,u 2] (u (n%4)):=yH n 2 (by omega)
theorem Rz(n:Int):aX prog 160 [u n] (.bg [u (u7 n),u (wK n),u (ll n)]):=by
 refine sP func160 ntmps160 λ w cl=>?_
 refine gA (Rb n) ?_;refine bn (Es 32 rfl rfl rfl (by omega)) rfl rfl rfl ?_;refine gA (Ra (n/2^32)) ?_;refine bn (Es 34 rfl rfl rfl (by omega)) rfl rfl rfl ?_;refine gA (DT (n/2^34)) ?_;refine d8 ?_
 rfl
theorem ZX(a b c:Int):aX prog 108 [.p (.sl false 3 [pI a,pI 32,pI b,pI 2,pI c,pI 28])] (u (mr a b c)):=by
 have a0:0<=a%4294967296:=Int.emod_nonneg _ (by omega);have a1:a%4294967296<4294967296:=Int.emod_lt_of_pos _ (by omega);have b0:0<=b%4:=Int.emod_nonneg _ (by omega);have b1:b%4<4:=Int.emod_lt_of_pos _ (by omega);have c0:0<=c%268435456:=Int.emod_nonneg _ (by omega);have c1:c%268435456<268435456:=Int.emod_lt_of_pos _ (by omega);refine sP func108 ntmps108 λ w cl=>?_
 refine go ?_;refine bW (λ i:Nat=>i<=3) (λ i=>⟨[(9,u i),(8,u 3),(7,.p (.sl false 3 [pI a,pI 32,pI b,pI 2,pI c,pI 28])),(3,u (if i=0 then 0 else if i=1 then a%4294967296 else if i=2 then a%4294967296+4294967296*(b%4) else mr a b c)),(4,u (if i=0 then 0 else if i=1 then 32 else if i=2 then 34 else 62))],[],[]⟩) (λ i=>3-i) 0 (by omega) (zX) ?_;intro i X;rcases(show i=0\/i=1\/i=2\/i=3 by omega) with rfl|rfl|rfl|rfl
 ·refine(show aK _ _ _ _ ⟨[(9,u 0),(8,u 3),(7,.p (.sl false 3 [pI a,pI 32,pI b,pI 2,pI c,pI 28])),(3,u (0)),(4,u 0)],[],[]⟩ from ?_);refine go ?_;refine cN (λ h1=>?_) (λ h1=>?_)<;>try rw[h1]
  ·refine go ?_;refine ai [pI a,pI 32] (AX rfl rfl) ?_;refine gA (Rb a) ?_;refine bn (vp 0 rfl rfl rfl rfl (by omega) (by omega) (by omega)) rfl rfl rfl ?_;rw[show a%4294967296*2^0=a%4294967296 by omega];refine go ?_;refine bn (Bh 0 (a%4294967296) rfl rfl rfl (by omega) (by omega) (by omega) (by omega) (by omega)) rfl rfl rfl ?_;rw[show 0+a%4294967296=a%4294967296 by omega];refine go ?_;exact⟨1,by omega,by omega,zX⟩
  ·exact absurd h1 (by decide)
 ·refine(show aK _ _ _ _ ⟨[(9,u 1),(8,u 3),(7,.p (.sl false 3 [pI a,pI 32,pI b,pI 2,pI c,pI 28])),(3,u (a%4294967296)),(4,u 32)],[],[]⟩ from ?_);refine go ?_;refine cN (λ h1=>?_) (λ h1=>?_)<;>try rw[h1]
  ·refine go ?_;refine ai [pI b,pI 2] (AX rfl rfl) ?_;refine gA (Ra b) ?_;refine bn (vp 32 rfl rfl rfl rfl (by omega) (by omega) (by omega)) rfl rfl rfl ?_;rw[show b%4*2^32=4294967296*(b%4) by omega];refine go ?_;refine bn (Bh 32 (b%4) rfl rfl rfl (by omega) (by omega) (by omega) (by omega) (by omega)) rfl rfl rfl ?_;refine go ?_;exact⟨2,by omega,by omega,zX⟩
  ·exact absurd h1 (by decide)
 ·refine(show aK _ _ _ _ ⟨[(9,u 2),(8,u 3),(7,.p (.sl false 3 [pI a,pI 32,pI b,pI 2,pI c,pI 28])),(3,u (a%4294967296+4294967296*(b%4))),(4,u 34)],[],[]⟩ from ?_);refine go ?_;refine cN (λ h1=>?_) (λ h1=>?_)<;>try rw[h1]
  ·refine go ?_;refine ai [pI c,pI 28] (AX rfl rfl) ?_;refine gA (DT c) ?_;refine bn (vp 34 rfl rfl rfl rfl (by omega) (by omega) (by omega)) rfl rfl rfl ?_;rw[show c%268435456*2^34=17179869184*(c%268435456) by omega];refine go ?_;refine bn (Bh 34 (c%268435456) rfl rfl rfl (by omega) (by omega) (by omega) (by omega) (by omega)) rfl rfl rfl ?_;refine go ?_;exact⟨3,by omega,by omega,zX⟩
  ·exact absurd h1 (by decide)
 ·refine(show aK _ _ _ _ ⟨[(9,u 3),(8,u 3),(7,.p (.sl false 3 [pI a,pI 32,pI b,pI 2,pI c,pI 28])),(3,u (mr a b c)),(4,u 62)],[],[]⟩ from ?_);refine go ?_;refine cN (λ h1=>?_) (λ h1=>?_)<;>try rw[h1]
  ·exact absurd h1 (by decide)
  ·refine gf ?_
   rfl
theorem Lf(a b c:Int):aX prog 161 [u a,u b,u c] (u (mr a b c)):=by
 refine sP func161 ntmps161 λ w cl=>?_
 refine gA (ZX a b c) ?_;refine d8 ?_
 rfl
theorem Th(l:ag)(R:ca l)(s:Int):aX prog 94 [dD l,u s] (u (jK l s)):=by
 have hs:=R.bP;refine sP func94 ntmps94 λ w cl=>?_
 refine gA (xj l.stack l.cZ (1+l.bP) s 0 R.stack R.cZ (by omega) (by omega)) ?_;refine d8 ?_
 rfl
theorem adn(l:ag)(R:ca l)(s i:Int):aX prog 152 [dD l,u s,u i] (u (Et l s i)):=by
 have hs:=R.bP;refine sP func152 ntmps152 λ w cl=>?_
 refine go ?_;generalize k1:decide (i<0)=cc;cases cc
 ·have qA:=of_decide_eq_false k1;refine go ?_;generalize k2:decide (i>=l.bP)=cc;cases cc
  ·have tN:=of_decide_eq_false k2;refine gA (xj l.stack l.cZ (1+l.bP) s (1+i) R.stack R.cZ (by omega) (by omega)) ?_;refine d8 ?_;rw[Et,if_neg (by omega)]
  ·refine gf ?_;have:=of_decide_eq_true k2;rw[Et,if_pos (by omega)]
 ·refine gf ?_;have:=of_decide_eq_true k1;rw[Et,if_pos (by omega)]
theorem ado(l:ag)(R:ca l)(D s:Int)(h0:0<=D)(_:D<=1000000):aX prog 125 [dD l,u D,u s] (u (pg l D s)):=by
 have hs:=R.bP;refine sP func125 ntmps125 λ w cl=>?_
 refine go ?_;generalize k1:decide (l.bP<1)=cc;cases cc
 ·have qA:=of_decide_eq_false k1;have r0:0<=D%l.bP:=Int.emod_nonneg _ (by omega);have r1:D%l.bP<l.bP:=Int.emod_lt_of_pos _ (by omega);refine go ?_;refine gW 9 [] ?_;refine cV (Ho rfl rfl rfl h0 (by omega)) rfl rfl ?_;refine bh ?_;refine cV (Ho rfl rfl rfl (by omega) (by omega)) rfl rfl ?_;refine bh ?_;refine cA (adn l R s ((D%l.bP+l.bP)%l.bP)) ?_;refine gf ?_;rw[pg,if_neg qA]
 ·refine gf ?_;rw[pg,if_pos (of_decide_eq_true k1)]
set_option maxHeartbeats 4000000 in
theorem adZ(l:ag)(Z:ca l)(D:Int)(log:List aD)(s:ah)(aS n:Int)(hn:n<9223372036854775808)(hm:s.made<=log.length)(R:log.length<=1000000):fS 157 l D log s [.ptr 11 0,u aS,u n] (vt l aS n log s) (λ b=>dB b):=by
 generalize E:vt l aS n log s=aJ;unfold vt at E;refine sX func157 ntmps157 λ w cl own kf=>?_
 refine go ?_;refine xP (eh l D log s aS hm R) ?_;rintro d U ⟨bM,s3,bT,fe,cw,rfl,rfl⟩;rw[aw bT] at E;have dj:=sE bM;refine gA (kB bM) ?_;refine gW 6 [] ?_;refine lQ (gB l Z D s3 n 0 hn (by omega)) ?_;refine bh ?_;refine xP (ii l D log s3 (aE l n 0) (ay bM).idx cw R) ?_;rintro d U ⟨af,s4,cB,jb,ez,rfl,rfl⟩;rw[aw cB] at E;refine gA (pU (ay bM) n dj.1 dj.2) ?_;refine cA (lZ (co (ay bM) n)) ?_;refine go ?_;refine xP (i3 l D log s4 aS bM (cf (co (ay bM) n)) ez R) ?_;rintro d U ⟨ig,s5,dt,kS,eK,rfl,rfl⟩;refine go ?_;exact fX _ ⟨ig,s5,by rw[<-E];exact dt,by omega,eK,rfl,rfl⟩
def DX(c bX no:Int):Nat->Pm Bool
 |0=>(eZ c bX no).bind λ ok=>.pure (!ok)
 |k+1=>(cj c).bind λ x=>if x=bX then DX c bX no k else .pure true
set_option maxHeartbeats 4000000 in
theorem aaB(l:ag)(D:Int)(log:List aD)(s:ah)(c bX no:Int)(hm:s.made<=log.length)(R:log.length<=1000000):fS 163 l D log s [.ptr 11 0,u c,u bX,u no] (yK c bX no log s) (λ b=>dB b):=by
 generalize E:yK c bX no log s=aJ;have E:DX c bX no 2 log s=aJ:=E;refine sX func163 ntmps163 λ w cl own kf=>?_
 refine go ?_;refine bW (λ p:Nat×ah=>p.1<=2/\s.made<=p.2.made/\p.2.made<=log.length/\DX c bX no (2-p.1) log p.2=aJ) (λ p=>⟨[(9,u p.1),(0,.ptr 11 0),(1,u c),(2,u bX),(3,u no),(8,dB false)],bZ l D log p.2,[]⟩) (λ p=>2-p.1) (0,s) ⟨by simp only;omega,Nat.le_refl _,hm,E⟩ (zX) ?_;rintro⟨i,t⟩ ⟨X,cC,bB,E⟩;simp only at X cC bB E;refine(show aK _ _ _ _ ⟨[(9,u i),(0,.ptr 11 0),(1,u c),(2,u bX),(3,u no),(8,dB false)],bZ l D log t,[]⟩ from ?_);refine go ?_;refine cN (λ h1=>?_) (λ h1=>?_)<;>try rw[h1]
 ·have aP:=of_decide_eq_true h1;rw[show 2-i=(2-(i+1))+1 by omega,DX] at E;refine go ?_;refine xP (eh l D log t c bB R) ?_;rintro d U ⟨x,s1,bG,fM,cP,rfl,rfl⟩;rw[aw bG] at E;refine go ?_;generalize A:decide (x=bX)=cc;cases cc
  ·rw[if_neg (of_decide_eq_false A)] at E;refine go ?_;exact fX _ ⟨true,s1,E.symm,by omega,cP,rfl,rfl⟩
  ·rw[if_pos (of_decide_eq_true A)] at E;refine go ?_;exact⟨(i+1,s1),⟨by simp only;omega,by simp only;omega,cP,E⟩,by simp only;omega,zX⟩
 ·have aP:=of_decide_eq_false h1;rw[show 2-i=0 by omega,DX] at E;refine go ?_;refine xP (i3 l D log t c bX no bB R) ?_;rintro d U ⟨ig,s1,bG,fM,cP,rfl,rfl⟩;rw[aw bG] at E;refine go ?_;exact fX _ ⟨!ig,s1,E.symm,by omega,cP,rfl,rfl⟩
set_option maxHeartbeats 4000000 in
theorem adY(l:ag)(Z:ca l)(D:Int)(log:List aD)(s:ah)(aS:Int)(hm:s.made<=log.length)(R:log.length<=1000000):fS 165 l D log s [.ptr 11 0,u aS] (vr l D aS log s) (λ p=>.bg [u p.1,u p.2.1,u p.2.2]):=by
 generalize E:vr l D aS log s=aJ;unfold vr at E;refine sX func165 ntmps165 λ w cl own kf=>?_
 refine go ?_;refine xP (Ah l Z D log s aS hm R) ?_;rintro d U ⟨p,s1,bG,fM,cP,rfl,rfl⟩;rw[aw bG] at E;obtain⟨bM,at_⟩:=p;simp only at E;have bO:=lj bM;have dj:=sE bM;refine gA (kB bM) ?_;generalize h1:decide ((ay bM).idx=0)=cc;cases cc
 ·rw[if_neg (of_decide_eq_false h1)] at E;refine go ?_;refine lA (gB l Z D s1 (ay bM).idx 0 (by omega) (by omega)) ?_;refine go ?_;refine xP (eh l D log s1 (aE l (ay bM).idx 0) cP R) ?_;rintro d U ⟨below,s2,bm,e7,cy,rfl,rfl⟩;rw[aw bm] at E;refine gA (pU (ay bM) below dj.1 dj.2) ?_;refine cA (lZ (co (ay bM) below)) ?_;refine go ?_;refine xP (i3 l D log s2 aS bM (cf (co (ay bM) below)) cy R) ?_;rintro d U ⟨ig,s3,bT,fe,cw,rfl,rfl⟩;rw[aw bT] at E;have gJ:=lr bT;refine go ?_;cases ig
  ·rw[if_neg (by decide),aw eT] at E;refine go ?_;refine lA (iV l D s3 (by omega)) ?_;refine go ?_;exact fX _ ⟨_,s3,E.symm,by omega,cw,rfl,rfl⟩
  ·rw[if_pos rfl,aw eT] at E;refine go ?_;refine gW 4 [] ?_;refine lQ (iV l D s3 (by omega)) ?_;refine qg ?_;exact fX _ ⟨_,s3,E.symm,by omega,cw,rfl,rfl⟩
 ·rw[if_pos (of_decide_eq_true h1)] at E;refine go ?_;exact fX _ ⟨_,s1,E.symm,fM,cP,rfl,rfl⟩
theorem Tj{l:ag}{aS n:Int}{log:List aD}{s M:ah}{b:Bool}(h:vt l aS n log s=.ok (b,M)):M.gone=s.gone/\M.made=s.made+3:=by
 unfold vt at h;cases h1:cj aS log s with
 |error a=>rw[bl h1] at h;cases h
 |ok q=>
  obtain⟨w,s1⟩:=q;rw[aw h1] at h;cases A:eH (aE l n 0) (ay w).idx log s1 with
  |error a=>rw[bl A] at h;cases h
  |ok q=>obtain⟨af,s2⟩:=q;rw[aw A] at h;rw[(iZ h).1,(nK A).1,(fE h1).1];exact⟨rfl,rfl⟩
theorem Rj{c bX no:Int}{log:List aD}{s M:ah}{b:Bool}(h:yK c bX no log s=.ok (b,M)):M.gone=s.gone/\s.made<M.made:=by
 unfold yK at h;cases h1:cj c log s with
 |error a=>rw[bl h1] at h;cases h
 |ok q=>
  obtain⟨x,s1⟩:=q;rw[aw h1] at h;have g1:=(fE h1).1;split at h
  ·cases A:cj c log s1 with
   |error a=>rw[bl A] at h;cases h
   |ok q=>
    obtain⟨y,s2⟩:=q;rw[aw A] at h;have g2:=(fE A).1;split at h
    ·cases K:eZ c bX no log s2 with
     |error a=>rw[bl K] at h;cases h
     |ok q=>obtain⟨ok,s3⟩:=q;rw[aw K] at h;cases h;rw[(iZ K).1,g2,g1];exact⟨rfl,by simp only;omega⟩
    ·cases h;rw[g2,g1];exact⟨rfl,by simp only;omega⟩
  ·cases h;rw[g1];exact⟨rfl,by simp only;omega⟩
theorem Lz(x:ah)(i v:Int):(x.gp i v).made=x.made:=by
 unfold ah.gp;split
 ·rfl
 ·split<;>rfl
theorem CE{l:ag}{D i cell:Int}:∀{k:Nat}{log:List aD}{s M:ah}{p:Int×Int},kO l D i cell k log s=.ok (p,M)->s.made<=M.made/\(0<k->s.made<M.made)
 |0,log,s,M,p,h=>by cases h;exact⟨Nat.le_refl _,λ h=>absurd h (Nat.lt_irrefl _)⟩
 |k+1,log,s,M,p,h=>by
  rw[kO] at h;cases h1:cj cell log s with
  |error a=>rw[bl h1] at h;cases h
  |ok q=>
   obtain⟨v,s1⟩:=q;rw[aw h1,aw eT] at h;have g1:=iw h1;cases A:cj l.era log s1 with
   |error a=>rw[bl A] at h;cases h
   |ok q=>
    obtain⟨er,s2⟩:=q;rw[aw A] at h;have g2:=iw A;split at h
    ·cases h;exact⟨by omega,λ _=>by omega⟩
    ·cases K:eH (cg l D i) er log s2 with
     |error a=>rw[bl K] at h;cases h
     |ok q=>obtain⟨af,s3⟩:=q;rw[aw K] at h;have g3:=rE K;have g4:=(CE h).1;rw[Lz] at g4;exact⟨by omega,λ _=>by omega⟩
theorem Jc{l:ag}{D i cell:Int}{log:List aD}{s M:ah}{p:Int×Int}(hm:s.made<=log.length)(h:kP l D i cell log s=.ok (p,M)):s.made<M.made:=(CE h).2 (by omega)
theorem Ti{l:ag}{D aS:Int}{log:List aD}{s M:ah}{p:Int×Int×Int}(h:vr l D aS log s=.ok (p,M)):M.gone=s.gone/\(s.made<=log.length->s.made<M.made)/\0<=p.1/\p.1<65536/\(p.2.2=0\/p.2.2=1\/p.2.2=2):=by
 unfold vr at h;cases h1:kP l D 0 aS log s with
 |error a=>rw[bl h1] at h;cases h
 |ok q=>
  obtain⟨p0,s1⟩:=q;rw[aw h1] at h;have g1:s1.gone=s.gone:=Ai h1;have m1:s.made<=log.length->s.made<s1.made:=λ hm=>Jc hm h1
  split at h
  ·cases h;exact⟨g1,m1,by simp,by simp,.inl rfl⟩
  ·cases A:cj (aE l (ay p0.1).idx 0) log s1 with
   |error a=>rw[bl A] at h;cases h
   |ok q=>
    obtain⟨be,s2⟩:=q;rw[aw A] at h;have g2:=(fE A).1;cases K:eZ aS p0.1 (cf (co (ay p0.1) be)) log s2 with
    |error a=>rw[bl K] at h;cases h
    |ok q=>
     obtain⟨ok,s3⟩:=q;rw[aw K] at h;have g3:=(iZ K).1;have O:=lj p0.1;cases ok
     ·rw[if_neg (by decide),aw eT] at h;cases h;rw[g3,g2];exact⟨g1,λ hm=>by have:=m1 hm;simp only;omega,by simp,by simp,.inr (.inl rfl)⟩
     ·rw[if_pos rfl,aw eT] at h;cases h;rw[g3,g2];exact⟨g1,λ hm=>by have:=m1 hm;simp only;omega,O.1,O.2,.inr (.inr rfl)⟩
set_option maxHeartbeats 8000000 in
theorem ab3(l:ag)(Z:ca l)(D:Int)(log:List aD)(s:ah)(aS c v:Int)(hm:s.made<=log.length)(R:log.length<=1000000):fS 128 l D log s [.ptr 11 0,u aS,u c,u v] (rz l aS c v log s) lz:=by
 generalize E:rz l aS c v log s=aJ;unfold rz at E;refine sX func128 ntmps128 λ w cl own kf=>?_
 refine go ?_;refine xP (EB l Z D log s hm R) ?_;rintro d U ⟨p,s1,bG,fM,cP,rfl,rfl⟩;rw[aw bG] at E;have mX:=(Ey bG).1;obtain⟨n,at_,ok⟩:=p;simp only at E mX;refine go ?_;cases ok
 ·rw[if_neg (by decide)] at E;refine go ?_;exact fX _ ⟨_,s1,E.symm,fM,cP,rfl,rfl⟩
 ·rw[if_pos rfl] at E;refine go ?_;refine lA (gB l Z D s1 n 1 (by omega) (by omega)) ?_;refine go ?_;refine xP (ii l D log s1 (aE l n 1) v cP R) ?_;rintro d U ⟨af,s2,bm,e7,cy,rfl,rfl⟩;rw[aw bm] at E;refine go ?_;refine bW (λ p:Nat×ah=>s.made<=p.2.made/\p.2.made<=log.length/\log.length-p.2.made<p.1/\ve l aS c v n p.1 log p.2=aJ) (λ p=>⟨[(0,.ptr 11 0),(1,u aS),(2,u c),(3,u v),(9,u n),(8,.ptr 3 0)],(3,[u 0,dB false,u 0,u 0,.p (.sl true 0 [])])::bZ l D log p.2,[]⟩) (λ p=>p.1) (log.length+1-s2.made,s2) ⟨by simp only;omega,cy,by simp only;omega,E⟩ (zX) ?_;rintro⟨k,t⟩ ⟨cC,bB,iS,E⟩;simp only at cC bB iS E;obtain⟨k,rfl⟩:∃j,k=j+1:=⟨k-1,by omega⟩;refine(show aK _ _ _ _ ⟨[(0,.ptr 11 0),(1,u aS),(2,u c),(3,u v),(9,u n),(8,.ptr 3 0)],(3,[u 0,dB false,u 0,u 0,.p (.sl true 0 [])])::bZ l D log t,[]⟩ from ?_);rw[ve] at E;refine go ?_;refine xP (adZ l Z D log t aS n (by omega) bB R) ?_;rintro d U ⟨Lh,s3,bT,fe,cw,rfl,rfl⟩;rw[aw bT] at E;have gJ:=(Tj bT).2;refine go ?_;cases Lh
  ·rw[if_neg (by decide)] at E;refine go ?_;refine xP (eh l D log s3 c cw R) ?_;rintro d U ⟨w,s4,cB,jb,ez,rfl,rfl⟩;rw[aw cB] at E;have Za:=iw cB;have JX:0<=wK w/\wK w<4:=by unfold wK;omega
   have h2:0<=ll w/\ll w<268435456:=by unfold ll;omega
   refine gA (Rz w) ?_;generalize h1:decide (wK w=0)=cc;cases cc
   ·rw[if_neg (of_decide_eq_false h1)] at E;refine go ?_;exact⟨(k,s4),⟨by simp only;omega,ez,by simp only;omega,E⟩,by simp only;omega,zX⟩
   ·rw[if_pos (of_decide_eq_true h1)] at E;refine gA (Lf v 1 (ll w+1)) ?_;refine cA (Lf 0 0 (ll w+1)) ?_;refine go ?_;refine xP (i3 l D log s4 c w (mr v 1 (ll w+1)) ez R) ?_;rintro d U ⟨Li,s5,dt,kS,eK,rfl,rfl⟩;rw[aw dt] at E;have Km:=lr dt;refine go ?_;cases Li
    ·rw[if_neg (by decide)] at E;refine go ?_;exact⟨(k,s5),⟨by simp only;omega,eK,by simp only;omega,E⟩,by simp only;omega,zX⟩
    ·rw[if_pos rfl,aw eT] at E;refine go ?_;refine lA (iV l D s5 (by omega)) ?_;refine go ?_;refine xP (aaB l D log s5 c (mr v 1 (ll w+1)) (mr 0 0 (ll w+1)) eK R) ?_;rintro d U ⟨mt,s6,jX,uG,mU,rfl,rfl⟩;rw[aw jX] at E;have afI:=(Rj jX).2;refine go ?_;cases mt
     ·rw[if_neg (by decide)] at E;refine go ?_;exact⟨(k,s6),⟨by simp only;omega,mU,by simp only;omega,E⟩,by simp only;omega,zX⟩
     ·rw[if_pos rfl] at E;refine go ?_;refine xP (ii l D log s6 c (mr 0 0 (ll w+1)) mU R) ?_;rintro d U ⟨af,s7,oW,Dc,uH,rfl,rfl⟩;rw[aw oW] at E;refine go ?_;refine xP (wa l Z D log s7 n (by omega) uH R) ?_;rintro d U ⟨af,ac3,Y0,afs,Yy,rfl,rfl⟩;rw[aw Y0] at E;refine go ?_;rw[show IntKind.i64.wrap (0-((s5.made:Int)-1))=-((s5.made:Int)-1) by rw[eI (by omega) (by omega)];omega,show IntKind.i64.wrap (-((s5.made:Int)-1)-2)=-((s5.made:Int)-1)-2 from eI (by omega) (by omega)];exact fX _ ⟨_,ac3,E.symm,by omega,Yy,rfl,rfl⟩
  ·rw[if_pos rfl,aw eT] at E;refine go ?_;refine lA (iV l D s3 (by omega)) ?_;refine go ?_;exact fX _ ⟨_,s3,E.symm,by omega,cw,rfl,rfl⟩
set_option maxHeartbeats 8000000 in
theorem abR(l:ag)(Z:ca l)(D:Int)(log:List aD)(s:ah)(aS c:Int)(fb:eu s.gone)(dp:s.gone.length<=10000)(hm:s.made<=log.length)(R:log.length<=1000000):fS 130 l D log s [.ptr 11 0,u aS,u c] (tU l D aS c log s) lz:=by
 generalize E:tU l D aS c log s=aJ;unfold tU at E;refine sX func130 ntmps130 λ w cl own kf=>?_
 refine go ?_;refine bW (λ p:Nat×ah=>s.made<=p.2.made/\p.2.made<=log.length/\log.length-p.2.made<p.1/\p.2.gone=s.gone/\wT l D aS c p.1 log p.2=aJ) (λ p=>⟨[(0,.ptr 11 0),(1,u aS),(2,u c),(6,.ptr 3 0),(7,.ptr 4 0)],(4,[u 0,dB false,u 0,u 0,.p (.sl true 0 [])])::(3,[u 0,dB false,u 0,u 0,.p (.sl true 0 [])])::bZ l D log p.2,[]⟩) (λ p=>p.1) (log.length+1-s.made,s) ⟨Nat.le_refl _,hm,by simp only;omega,rfl,E⟩ (zX) ?_;rintro⟨k,t⟩ ⟨cC,bB,iS,eX,E⟩;simp only at cC bB iS eX E;obtain⟨k,rfl⟩:∃j,k=j+1:=⟨k-1,by omega⟩;refine(show aK _ _ _ _ ⟨[(0,.ptr 11 0),(1,u aS),(2,u c),(6,.ptr 3 0),(7,.ptr 4 0)],(4,[u 0,dB false,u 0,u 0,.p (.sl true 0 [])])::(3,[u 0,dB false,u 0,u 0,.p (.sl true 0 [])])::bZ l D log t,[]⟩ from ?_);rw[wT] at E;refine go ?_;refine xP (adY l Z D log t aS bB R) ?_;rintro d U ⟨p,s1,bG,fM,cP,rfl,rfl⟩;rw[aw bG] at E;obtain⟨g1,m1,n0,n1,h3⟩:=Ti bG;have e8:=m1 bB;have ip:s1.gone=s.gone:=g1.trans eX;obtain⟨n,at_,aeM⟩:=p;simp only at E n0 n1 h3;refine go ?_;rcases h3 with rfl|rfl|rfl
 ·rw[if_pos rfl] at E;rw[show decide ((0:Int)=0)=true from rfl];refine go ?_;refine xP (jP l Z D log s1 cP R) ?_;rintro d U ⟨af,s2,bm,e7,cy,rfl,rfl⟩;rw[aw bm] at E;refine go ?_;exact fX _ ⟨_,s2,E.symm,by omega,cy,rfl,rfl⟩
 ·rw[if_neg (by decide),if_neg (by decide)] at E;rw[show decide ((1:Int)=0)=false from rfl];refine go ?_;rw[show decide ((1:Int)=2)=false from rfl];refine go ?_;refine xP (eh l D log s1 c cP R) ?_;rintro d U ⟨w,s2,bm,e7,cy,rfl,rfl⟩;rw[aw bm] at E;have iv:=iw bm;have de:s2.gone=s.gone:=by rw[(fE bm).1];exact ip
  have yx:0<=u7 w/\u7 w<4294967296:=by unfold u7;omega
  refine gA (Rz w) ?_;generalize h1:decide (wK w=1)=cc;cases cc
  ·rw[if_neg (of_decide_eq_false h1)] at E;refine go ?_;exact⟨(k,s2),⟨by simp only;omega,cy,by simp only;omega,de,E⟩,by simp only;omega,zX⟩
  ·rw[if_pos (of_decide_eq_true h1)] at E;refine gA (Lf (u7 w) 2 (ll w)) ?_;refine xP (i3 l D log s2 c w (mr (u7 w) 2 (ll w)) cy R) ?_;rintro d U ⟨Lh,s3,bT,fe,cw,rfl,rfl⟩;rw[aw bT] at E;have gJ:=lr bT;have fV:s3.gone=s.gone:=by rw[(iZ bT).1];exact de
   refine go ?_;cases Lh
   ·rw[if_neg (by decide)] at E;refine go ?_;exact⟨(k,s3),⟨by simp only;omega,cw,by simp only;omega,fV,E⟩,by simp only;omega,zX⟩
   ·rw[if_pos rfl,aw eT] at E;refine go ?_;refine lA (iV l D s3 (by omega)) ?_;refine go ?_;refine xP (jP l Z D log s3 cw R) ?_;rintro d U ⟨af,s4,cB,jb,ez,rfl,rfl⟩;rw[aw cB] at E;refine go ?_;exact fX _ ⟨_,s4,E.symm,by omega,ez,rfl,rfl⟩
 ·rw[if_neg (by decide),if_pos rfl] at E;rw[show decide ((2:Int)=0)=false from rfl];refine go ?_;rw[show decide ((2:Int)=2)=true from rfl];refine go ?_;refine lA (gB l Z D s1 n 1 (by omega) (by omega)) ?_;refine go ?_;refine xP (eh l D log s1 (aE l n 1) cP R) ?_;rintro d U ⟨w,s2,bm,e7,cy,rfl,rfl⟩;rw[aw bm] at E;have de:s2.gone=s.gone:=by rw[(fE bm).1];exact ip
  refine go ?_;refine xP (jP l Z D log s2 cy R) ?_;rintro d U ⟨af,s3,bT,fe,cw,rfl,rfl⟩;rw[aw bT] at E;have fV:s3.gone=s.gone:=(jt bT).trans de;refine go ?_;refine xP (yW l Z D log s3 n (by omega) (by rw[fV];exact fb) (by rw[fV];exact dp) cw R) ?_;rintro d U ⟨af,s4,cB,jb,ez,rfl,rfl⟩;rw[aw cB] at E;refine go ?_;exact fX _ ⟨_,s4,E.symm,by omega,ez,rfl,rfl⟩
abbrev tP(l:ag)(D:Int)(log:List aD)(aS c:Int)(op:bt)(s:ah):bE:=[(11,m9 l D s),(12,[.ptr 11 0]),(13,[gH log]),(14,[.ptr 11 0]),(15,[u aS]),(17,[u c]),(16,rq op)]
def t9{ar:Type}(l:ag)(D:Int)(log:List aD)(aS c:Int)(op:bt)(m:Except aT (ar×ah))(enc:ar->G):G->bE->Prop:=λ d U=>∃x M,m=.ok (x,M)/\d=enc x/\U=tP l D log aS c op M
def ua{ar:Type}(l:ag)(D:Int)(log:List aD)(aS c:Int)(op:bt)(m:Except aT (ar×ah)):Value->bE->Prop:=λ v U=>∃a M,m=.error a/\v=iz a/\U=tP l D log aS c op M
theorem aaM(l:ag)(Z:ca l)(D:Int)(log:List aD)(s:ah)(aS c:Int)(op:bt)(hm:s.made<=log.length)(R:log.length<=1000000):fI prog 127 [11,12,13,14,15,17,16] [.ptr 14 0,.ptr 15 0,.ptr 17 0,.ptr 16 0] (tP l D log aS c op s) (t9 l D log aS c op (rz l aS c op.a log s) lz) (ua l D log aS c op (rz l aS c op.a log s)):=by
 refine sX func127 ntmps127 λ w cl own kf=>?_
 refine go ?_;refine xX (ab3 l Z D log s aS c op.a hm R) ?_ ?_
 ·rintro v U ⟨a,M,h,rfl,rfl⟩;refine gP ?_;exact fP _ ⟨a,M,h,rfl,rfl⟩
 rintro d U ⟨x,M,h,ir,ci,rfl,rfl⟩;refine go ?_;exact fX _ ⟨x,M,h,rfl,rfl⟩
theorem K7(l:ag)(Z:ca l)(D:Int)(log:List aD)(s:ah)(aS c:Int)(op:bt)(fb:eu s.gone)(dp:s.gone.length<=10000)(hm:s.made<=log.length)(R:log.length<=1000000):fI prog 129 [11,12,13,14,15,17,16] [.ptr 14 0,.ptr 15 0,.ptr 17 0] (tP l D log aS c op s) (t9 l D log aS c op (tU l D aS c log s) lz) (ua l D log aS c op (tU l D aS c log s)):=by
 refine sX func129 ntmps129 λ w cl own kf=>?_
 refine go ?_;refine xX (abR l Z D log s aS c fb dp hm R) ?_ ?_
 ·rintro v U ⟨a,M,h,rfl,rfl⟩;refine gP ?_;exact fP _ ⟨a,M,h,rfl,rfl⟩
 rintro d U ⟨x,M,h,ir,ci,rfl,rfl⟩;refine go ?_;exact fX _ ⟨x,M,h,rfl,rfl⟩
def ub(m:Except aT (bf×ah)):G->bE->Prop:=λ d U=>U=[]/\((∃x M,m=.ok (x,M)/\d=.bg [fy eN,jQ {x with gone:=M.gone},dB true])\/∃a,m=.error a/\d=.bg [fy a,lz j8,dB false])
abbrev vW(a:aT)(od:List G)(dn:Bool):St:=⟨[(4,.ptr 22 0),(5,.ptr 23 0),(6,.ptr 24 0)],jg a od dn,[]⟩
def xq(m:Except aT (bf×ah))(Γ:bI):Exit->St->Prop:=λ ex J=>(ex=.ret/\∃x M,m=.ok (x,M)/\bN Γ J (vW eN (ot {x with gone:=M.gone}) true))\/∃a,ex=.panic [pe (iz a)]/\m=.error a/\bN Γ J (vW eN [u 0,dB false,u 0,u 0,.p (.sl true 0 [])] false)
set_option maxHeartbeats 4000000 in
theorem abM(l:ag)(D:Int)(log:List aD)(s:ah)(aS c:Int)(op:bt)(m:Except aT (bf×ah))(hg:∀x M,m=.ok (x,M)->M.gone.length<=100000)(hC:fI prog 127 [11,12,13,14,15,17,16] [.ptr 14 0,.ptr 15 0,.ptr 17 0,.ptr 16 0] (tP l D log aS c op s) (t9 l D log aS c op m lz) (ua l D log aS c op m)):
 eo prog 126 [] [.ptr 11 0,.fn (.func 127) [] [.ptr 14 0,.ptr 15 0,.ptr 17 0,.ptr 16 0]] (tP l D log aS c op s) (ub m):=by
 intro e vs hI hv;refine calls_of_wp_defers func126 rfl ?_;have h2:=uT (fn:=f126) (f:=126) (aU:=[]) [] (by decide) trivial hI hv rfl;refine wp_seq (Code.wp_mono (λ ex a1 w1 hh=>?_) (aK.run (Q:=λ ex J=>ex=.normal/\J=⟨[(6,.ptr 24 0),(5,.ptr 23 0),(4,.ptr 22 0),(2,.ptr 21 0),(0,.ptr 11 0),(1,.fn (.func 127) [] [.ptr 14 0,.ptr 15 0,.ptr 17 0,.ptr 16 0])],(24,[dB false])::(23,[u 0,dB false,u 0,u 0,.p (.sl true 0 [])])::(22,[u 0,u 0,u 0,u 0])::(21,[.ptr 11 0])::tP l D log aS c op s,[]⟩) ?_ _ e h2))
 ·obtain⟨nN,e1,rfl,bR,rfl,rfl⟩:=hh;obtain⟨k1,_,_,b1,_,_⟩:=bR.boxes 21 _ rfl;obtain⟨k2,_,_,b2,_,_⟩:=bR.boxes 22 _ rfl;obtain⟨k3,_,_,b3,_,_⟩:=bR.boxes 23 _ rfl;obtain⟨k4,_,_,b4,_,_⟩:=bR.boxes 24 _ rfl;refine wp_seq (BJ bR rfl rfl rfl rfl rfl rfl rfl rfl [(21,k1),(22,k2),(23,k3),(24,k4)] (λ b k I=>?_) (λ a2 cG cY eE=>?_))
  ·simp only[cM] at I;split at I
   ·rename_i q;cases I;rw[<-q];exact b1
   ·split at I
    ·rename_i q;cases I;rw[<-q];exact b2
    ·split at I
     ·rename_i q;cases I;rw[<-q];exact b3
     ·split at I
      ·rename_i q;cases I;rw[<-q];exact b4
      ·cases I
  ·refine Code.wp_mono (λ ex a3 w3 hh=>?_) (aK.run (Γ:=⟨18,e.w,e.cl,λ k=>∃b,e.bx b=some k,[(21,k1),(22,k2),(23,k3),(24,k4)],[{target:=.fn (.func 153) cG.toArray,args:=#[]}]⟩) (Q:=xq m ⟨18,e.w,e.cl,λ k=>∃b,e.bx b=some k,[(21,k1),(22,k2),(23,k3),(24,k4)],[{target:=.fn (.func 153) cG.toArray,args:=#[]}]⟩) ?_ a2 e1 eE)
   ·obtain⟨ED,e3,rfl,io,hq⟩:=hh;rcases hq with⟨rfl,x,M,hm,eQ⟩|⟨a,rfl,hm,eQ⟩
    ·skip
     obtain⟨e4,kT,bY⟩:=eQ a3 e3 io;show Leaves prog f126 a3.tmps _ a3.defers .returning e3.w;rw[bY.df,<-kT];have kQ:DReps e4 cG [.ptr 22 0,.ptr 21 0,.ptr 23 0,.ptr 24 0]:=⟨cY.1,λ i v d hv F=>by
      match i,hv,F with
      |0,hv,F=>cases F;exact eU (cY.2 0 v _ hv rfl) b2 (bY.env.kb 22 k2 rfl)
      |1,hv,F=>cases F;exact eU (cY.2 1 v _ hv rfl) b1 (bY.env.kb 21 k1 rfl)
      |2,hv,F=>cases F;exact eU (cY.2 2 v _ hv rfl) b3 (bY.env.kb 23 k3 rfl)
      |3,hv,F=>cases F;exact eU (cY.2 3 v _ hv rfl) b4 (bY.env.kb 24 k4 rfl)⟩
     refine rh bY (λ a w=>call153 a w) kQ rfl (by(repeat(first|exact trivial|refine⟨⟨rfl,rfl⟩,?_⟩))) ⟨.inr rfl,.inr rfl,.inr rfl,.inr rfl,trivial⟩ rfl (by simp) rfl (λ e0 pW h1 A=>yR eN {x with gone:=M.gone} true h1 A) (λ aq T=>by subst T;exact⟨.inl rfl,.inl rfl,.inl rfl,.inl rfl,trivial⟩) (λ aq e5 T dE=>?_);subst T;obtain⟨v,hr,jZ⟩:=pd aB (fn:=f126) (d:=.bg [fy eN,jQ {x with gone:=M.gone},dB true]) dE rfl;refine⟨v,hr,v,_,[],e5.cut (aF []) λ _=>false,rfl,rfl,⟨rfl,.inl ⟨x,M,hm,rfl⟩⟩,ly dE trivial,jZ.cut rfl,⟨dE.env.kept,dE.env.cl,λ b k I=>?_,λ b T=>by cases T⟩⟩;cases I
    ·skip
     obtain⟨e4,kT,bY⟩:=eQ a3 e3 io;show Leaves prog f126 a3.tmps _ a3.defers (.panicking [pe (iz a)]) e3.w;rw[bY.df,<-kT];have kQ:DReps e4 cG [.ptr 22 0,.ptr 21 0,.ptr 23 0,.ptr 24 0]:=⟨cY.1,λ i v d hv F=>by
      match i,hv,F with
      |0,hv,F=>cases F;exact eU (cY.2 0 v _ hv rfl) b2 (bY.env.kb 22 k2 rfl)
      |1,hv,F=>cases F;exact eU (cY.2 1 v _ hv rfl) b1 (bY.env.kb 21 k1 rfl)
      |2,hv,F=>cases F;exact eU (cY.2 2 v _ hv rfl) b3 (bY.env.kb 23 k3 rfl)
      |3,hv,F=>cases F;exact eU (cY.2 3 v _ hv rfl) b4 (bY.env.kb 24 k4 rfl)⟩
     refine rh bY (λ a w=>call153 a w) kQ rfl (by(repeat(first|exact trivial|refine⟨⟨rfl,rfl⟩,?_⟩))) ⟨.inr rfl,.inr rfl,.inr rfl,.inr rfl,trivial⟩ rfl (by simp) rfl (λ e0 pW h1 A=>yS eN a _ rfl false h1 A) (λ aq T=>by subst T;exact⟨.inl rfl,.inl rfl,.inl rfl,.inl rfl,trivial⟩) (λ aq e5 T dE=>?_);subst T;obtain⟨v,hr,jZ⟩:=pd aB (fn:=f126) (d:=.bg [fy a,lz j8,dB false]) dE rfl;refine⟨v,hr,v,_,[],e5.cut (aF []) λ _=>false,rfl,rfl,⟨rfl,.inr ⟨a,hm,rfl⟩⟩,ly dE trivial,jZ.cut rfl,⟨dE.env.kept,dE.env.cl,λ b k I=>?_,λ b T=>by cases T⟩⟩;cases I
   ·refine go ?_;refine vX hC ?_ ?_
    ·rintro v U ⟨a,M,h,rfl,rfl⟩;refine gP ?_;exact .inr ⟨a,rfl,h,bN.trans (qN 21 rfl rfl) (zX)⟩
    rintro d U ⟨x,M,h,rfl,rfl⟩;refine gA ((pq M.gone (hg x M h)).pure) ?_;refine gW 3 [22] ?_;refine go ?_;exact .inl ⟨rfl,x,M,h,bN.trans (qN 21 rfl rfl) (zX)⟩
 ·refine gS ?_;refine bA 21 ?_;refine nA 22 ?_;refine nA 23 ?_;refine nA 24 ?_;exact kl ⟨rfl,rfl⟩
set_option maxHeartbeats 4000000 in
theorem Lw(l:ag)(D:Int)(log:List aD)(s:ah)(aS c:Int)(op:bt)(m:Except aT (bf×ah))(hg:∀x M,m=.ok (x,M)->M.gone.length<=100000)(hC:fI prog 129 [11,12,13,14,15,17,16] [.ptr 14 0,.ptr 15 0,.ptr 17 0] (tP l D log aS c op s) (t9 l D log aS c op m lz) (ua l D log aS c op m)):
 eo prog 126 [] [.ptr 11 0,.fn (.func 129) [] [.ptr 14 0,.ptr 15 0,.ptr 17 0]] (tP l D log aS c op s) (ub m):=by
 intro e vs hI hv;refine calls_of_wp_defers func126 rfl ?_;have h2:=uT (fn:=f126) (f:=126) (aU:=[]) [] (by decide) trivial hI hv rfl;refine wp_seq (Code.wp_mono (λ ex a1 w1 hh=>?_) (aK.run (Q:=λ ex J=>ex=.normal/\J=⟨[(6,.ptr 24 0),(5,.ptr 23 0),(4,.ptr 22 0),(2,.ptr 21 0),(0,.ptr 11 0),(1,.fn (.func 129) [] [.ptr 14 0,.ptr 15 0,.ptr 17 0])],(24,[dB false])::(23,[u 0,dB false,u 0,u 0,.p (.sl true 0 [])])::(22,[u 0,u 0,u 0,u 0])::(21,[.ptr 11 0])::tP l D log aS c op s,[]⟩) ?_ _ e h2))
 ·obtain⟨nN,e1,rfl,bR,rfl,rfl⟩:=hh;obtain⟨k1,_,_,b1,_,_⟩:=bR.boxes 21 _ rfl;obtain⟨k2,_,_,b2,_,_⟩:=bR.boxes 22 _ rfl;obtain⟨k3,_,_,b3,_,_⟩:=bR.boxes 23 _ rfl;obtain⟨k4,_,_,b4,_,_⟩:=bR.boxes 24 _ rfl;refine wp_seq (BJ bR rfl rfl rfl rfl rfl rfl rfl rfl [(21,k1),(22,k2),(23,k3),(24,k4)] (λ b k I=>?_) (λ a2 cG cY eE=>?_))
  ·simp only[cM] at I;split at I
   ·rename_i q;cases I;rw[<-q];exact b1
   ·split at I
    ·rename_i q;cases I;rw[<-q];exact b2
    ·split at I
     ·rename_i q;cases I;rw[<-q];exact b3
     ·split at I
      ·rename_i q;cases I;rw[<-q];exact b4
      ·cases I
  ·refine Code.wp_mono (λ ex a3 w3 hh=>?_) (aK.run (Γ:=⟨18,e.w,e.cl,λ k=>∃b,e.bx b=some k,[(21,k1),(22,k2),(23,k3),(24,k4)],[{target:=.fn (.func 153) cG.toArray,args:=#[]}]⟩) (Q:=xq m ⟨18,e.w,e.cl,λ k=>∃b,e.bx b=some k,[(21,k1),(22,k2),(23,k3),(24,k4)],[{target:=.fn (.func 153) cG.toArray,args:=#[]}]⟩) ?_ a2 e1 eE)
   ·obtain⟨ED,e3,rfl,io,hq⟩:=hh;rcases hq with⟨rfl,x,M,hm,eQ⟩|⟨a,rfl,hm,eQ⟩
    ·skip
     obtain⟨e4,kT,bY⟩:=eQ a3 e3 io;show Leaves prog f126 a3.tmps _ a3.defers .returning e3.w;rw[bY.df,<-kT];have kQ:DReps e4 cG [.ptr 22 0,.ptr 21 0,.ptr 23 0,.ptr 24 0]:=⟨cY.1,λ i v d hv F=>by
      match i,hv,F with
      |0,hv,F=>cases F;exact eU (cY.2 0 v _ hv rfl) b2 (bY.env.kb 22 k2 rfl)
      |1,hv,F=>cases F;exact eU (cY.2 1 v _ hv rfl) b1 (bY.env.kb 21 k1 rfl)
      |2,hv,F=>cases F;exact eU (cY.2 2 v _ hv rfl) b3 (bY.env.kb 23 k3 rfl)
      |3,hv,F=>cases F;exact eU (cY.2 3 v _ hv rfl) b4 (bY.env.kb 24 k4 rfl)⟩
     refine rh bY (λ a w=>call153 a w) kQ rfl (by(repeat(first|exact trivial|refine⟨⟨rfl,rfl⟩,?_⟩))) ⟨.inr rfl,.inr rfl,.inr rfl,.inr rfl,trivial⟩ rfl (by simp) rfl (λ e0 pW h1 A=>yR eN {x with gone:=M.gone} true h1 A) (λ aq T=>by subst T;exact⟨.inl rfl,.inl rfl,.inl rfl,.inl rfl,trivial⟩) (λ aq e5 T dE=>?_);subst T;obtain⟨v,hr,jZ⟩:=pd aB (fn:=f126) (d:=.bg [fy eN,jQ {x with gone:=M.gone},dB true]) dE rfl;refine⟨v,hr,v,_,[],e5.cut (aF []) λ _=>false,rfl,rfl,⟨rfl,.inl ⟨x,M,hm,rfl⟩⟩,ly dE trivial,jZ.cut rfl,⟨dE.env.kept,dE.env.cl,λ b k I=>?_,λ b T=>by cases T⟩⟩;cases I
    ·skip
     obtain⟨e4,kT,bY⟩:=eQ a3 e3 io;show Leaves prog f126 a3.tmps _ a3.defers (.panicking [pe (iz a)]) e3.w;rw[bY.df,<-kT];have kQ:DReps e4 cG [.ptr 22 0,.ptr 21 0,.ptr 23 0,.ptr 24 0]:=⟨cY.1,λ i v d hv F=>by
      match i,hv,F with
      |0,hv,F=>cases F;exact eU (cY.2 0 v _ hv rfl) b2 (bY.env.kb 22 k2 rfl)
      |1,hv,F=>cases F;exact eU (cY.2 1 v _ hv rfl) b1 (bY.env.kb 21 k1 rfl)
      |2,hv,F=>cases F;exact eU (cY.2 2 v _ hv rfl) b3 (bY.env.kb 23 k3 rfl)
      |3,hv,F=>cases F;exact eU (cY.2 3 v _ hv rfl) b4 (bY.env.kb 24 k4 rfl)⟩
     refine rh bY (λ a w=>call153 a w) kQ rfl (by(repeat(first|exact trivial|refine⟨⟨rfl,rfl⟩,?_⟩))) ⟨.inr rfl,.inr rfl,.inr rfl,.inr rfl,trivial⟩ rfl (by simp) rfl (λ e0 pW h1 A=>yS eN a _ rfl false h1 A) (λ aq T=>by subst T;exact⟨.inl rfl,.inl rfl,.inl rfl,.inl rfl,trivial⟩) (λ aq e5 T dE=>?_);subst T;obtain⟨v,hr,jZ⟩:=pd aB (fn:=f126) (d:=.bg [fy a,lz j8,dB false]) dE rfl;refine⟨v,hr,v,_,[],e5.cut (aF []) λ _=>false,rfl,rfl,⟨rfl,.inr ⟨a,hm,rfl⟩⟩,ly dE trivial,jZ.cut rfl,⟨dE.env.kept,dE.env.cl,λ b k I=>?_,λ b T=>by cases T⟩⟩;cases I
   ·refine go ?_;refine vX hC ?_ ?_
    ·rintro v U ⟨a,M,h,rfl,rfl⟩;refine gP ?_;exact .inr ⟨a,rfl,h,bN.trans (qN 21 rfl rfl) (zX)⟩
    rintro d U ⟨x,M,h,rfl,rfl⟩;refine gA ((pq M.gone (hg x M h)).pure) ?_;refine gW 3 [22] ?_;refine go ?_;exact .inl ⟨rfl,x,M,h,bN.trans (qN 21 rfl rfl) (zX)⟩
 ·refine gS ?_;refine bA 21 ?_;refine nA 22 ?_;refine nA 23 ?_;refine nA 24 ?_;exact kl ⟨rfl,rfl⟩
theorem v9{l:ag}{n:Int}:∀{k:Nat}{log:List aD}{s M:ah}{af:Unit},l9 l n k log s=.ok (af,M)->M.gone=s.gone
 |0,log,s,M,af,h=>by cases h;rfl
 |k+1,log,s,M,af,h=>by
  rw[l9] at h;cases h1:cj l.free log s with
  |error a=>rw[bl h1] at h;cases h
  |ok q=>
   obtain⟨fr,s1⟩:=q;rw[aw h1] at h;have g1:s1.gone=s.gone:=by rw[(fE h1).1]
   cases A:eH (aE l n 7) (ay fr).idx log s1 with
   |error a=>rw[bl A] at h;cases h
   |ok q=>
    obtain⟨lk,s2⟩:=q;rw[aw A] at h;have g2:s2.gone=s.gone:=by rw[(nK A).1];exact g1
    cases K:eZ l.free fr (cf (co (ay fr) n)) log s2 with
    |error a=>rw[bl K] at h;cases h
    |ok q=>
     obtain⟨ok,s3⟩:=q;rw[aw K] at h;have g3:s3.gone=s.gone:=by rw[(iZ K).1];exact g2
     split at h
     ·cases h;exact g3
     ·exact(v9 h).trans g3
theorem Hd{l:ag}{aS c v n:Int}:∀{k:Nat}{log:List aD}{s M:ah}{x:bf},ve l aS c v n k log s=.ok (x,M)->M.gone=s.gone
 |0,log,s,M,x,h=>by cases h;rfl
 |k+1,log,s,M,x,h=>by
  rw[ve] at h;cases h1:vt l aS n log s with
  |error a=>rw[bl h1] at h;cases h
  |ok q=>
   obtain⟨b,s1⟩:=q;rw[aw h1] at h;have g1:=(Tj h1).1;cases b
   ·rw[if_neg (by decide)] at h;cases A:cj c log s1 with
    |error a=>rw[bl A] at h;cases h
    |ok q=>
     obtain⟨w,s2⟩:=q;rw[aw A] at h;have g2:s2.gone=s.gone:=by rw[(fE A).1];exact g1
     split at h
     ·cases K:eZ c w (mr v 1 (ll w+1)) log s2 with
      |error a=>rw[bl K] at h;cases h
      |ok q=>
       obtain⟨ok,s3⟩:=q;rw[aw K] at h;have g3:s3.gone=s.gone:=by rw[(iZ K).1];exact g2
       cases ok
       ·rw[if_neg (by decide)] at h;exact(Hd h).trans g3
       ·rw[if_pos rfl,aw eT] at h;cases h4:yK c (mr v 1 (ll w+1)) (mr 0 0 (ll w+1)) log s3 with
        |error a=>rw[bl h4] at h;cases h
        |ok q=>
         obtain⟨mt,s4⟩:=q;rw[aw h4] at h;have g4:=(Rj h4).1.trans g3;cases mt
         ·rw[if_neg (by decide)] at h;exact(Hd h).trans g4
         ·rw[if_pos rfl] at h;cases h5:eH c (mr 0 0 (ll w+1)) log s4 with
          |error a=>rw[bl h5] at h;cases h
          |ok q=>
           obtain⟨af,s5⟩:=q;rw[aw h5] at h;have g5:s5.gone=s.gone:=by rw[(nK h5).1];exact g4
           cases h6:mM l n log s5 with
           |error a=>rw[bl h6] at h;cases h
           |ok q=>obtain⟨af,s6⟩:=q;rw[aw h6] at h;cases h;exact(v9 h6).trans g5
     ·exact(Hd h).trans g2
   ·rw[if_pos rfl,aw eT] at h;cases h;exact g1
theorem ab1{l:ag}{aS c v:Int}{log:List aD}{s M:ah}{x:bf}(h:rz l aS c v log s=.ok (x,M)):M.gone=s.gone:=by
 unfold rz at h;cases h1:pT l log s with
 |error a=>rw[bl h1] at h;cases h
 |ok q=>
  obtain⟨p,s1⟩:=q;rw[aw h1] at h;have g1:s1.gone=s.gone:=(Ey h1).2;split at h
  ·cases A:eH (aE l p.1 1) v log s1 with
   |error a=>rw[bl A] at h;cases h
   |ok q=>
    obtain⟨af,s2⟩:=q;rw[aw A] at h;have g2:s2.gone=s.gone:=by rw[(nK A).1];exact g1
    exact(Hd h).trans g2
  ·cases h;exact g1
theorem D9{l:ag}{D aS c:Int}:∀{k:Nat}{log:List aD}{s M:ah}{x:bf},wT l D aS c k log s=.ok (x,M)->M.gone.length<=s.gone.length+1
 |0,log,s,M,x,h=>by cases h;omega
 |k+1,log,s,M,x,h=>by
  rw[wT] at h;cases h1:vr l D aS log s with
  |error a=>rw[bl h1] at h;cases h
  |ok q=>
   obtain⟨p,s1⟩:=q;rw[aw h1] at h;have g1:=(Ti h1).1;split at h
   ·cases A:ge l D log s1 with
    |error a=>rw[bl A] at h;cases h
    |ok q=>obtain⟨af,s2⟩:=q;rw[aw A] at h;cases h;have:M.gone=s.gone:=(jt A).trans g1;rw[this];omega
   ·split at h
    ·cases A:cj (aE l p.1 1) log s1 with
     |error a=>rw[bl A] at h;cases h
     |ok q=>
      obtain⟨af8,s2⟩:=q;rw[aw A] at h;have g2:s2.gone=s.gone:=by rw[(fE A).1];exact g1
      cases K:ge l D log s2 with
      |error a=>rw[bl K] at h;cases h
      |ok q=>
       obtain⟨af,s3⟩:=q;rw[aw K] at h;have g3:s3.gone=s.gone:=(jt K).trans g2;cases h4:jF l p.1 log s3 with
       |error a=>rw[bl h4] at h;cases h
       |ok q=>obtain⟨af,s4⟩:=q;rw[aw h4] at h;cases h;have:=Ej h4;rw[g3] at this;exact this
    ·cases A:cj c log s1 with
     |error a=>rw[bl A] at h;cases h
     |ok q=>
      obtain⟨w,s2⟩:=q;rw[aw A] at h;have g2:s2.gone=s.gone:=by rw[(fE A).1];exact g1
      split at h
      ·cases K:eZ c w (mr (u7 w) 2 (ll w)) log s2 with
       |error a=>rw[bl K] at h;cases h
       |ok q=>
        obtain⟨ok,s3⟩:=q;rw[aw K] at h;have g3:s3.gone=s.gone:=by rw[(iZ K).1];exact g2
        cases ok
        ·rw[if_neg (by decide)] at h;have:=D9 h;rw[g3] at this;exact this
        ·rw[if_pos rfl,aw eT] at h;cases h4:ge l D log s3 with
         |error a=>rw[bl h4] at h;cases h
         |ok q=>obtain⟨af,s4⟩:=q;rw[aw h4] at h;cases h;have:M.gone=s.gone:=(jt h4).trans g3;rw[this];omega
      ·have:=D9 h;rw[g2] at this;exact this
abbrev rT(r:aT×bf×Bool):G:=.bg [fy r.1,jQ r.2.1,dB r.2.2]
set_option maxHeartbeats 8000000 in
theorem DZ(l:ag)(Z:ca l)(D:Int)(tH:0<=D/\D<=1000000)(gone:List (Int×Int))(op:bt)(log:List aD)(fb:eu gone)(dp:gone.length<=10000)(R:log.length<=1000000):aX prog 106 [dD l,u D,d7 gone,zv op,gH log] (rT (dw l D gone op log)):=by
 generalize E:dw l D gone op log=aJ;unfold dw at E;refine sP func106 ntmps106 λ w cl=>?_
 refine gS ?_;refine bA 0 ?_;refine bA 16 ?_;refine nA 2 ?_;refine nA 3 ?_;refine go ?_;refine cA (Th l Z op.obj) ?_;refine nA 15 ?_;refine go ?_;generalize h1:decide (jK l op.obj<0)=cc;cases cc
 ·rw[if_neg (of_decide_eq_false h1)] at E;refine go ?_;refine cI (Ce l D gone log) ?_;rintro d U ⟨rfl,rfl⟩;refine nA 14 ?_;refine go ?_;refine cA (ado l Z D op.obj tH.1 tH.2) ?_;refine nA 17 ?_;refine go ?_;generalize A:decide (op.kind=4)=cc;cases cc
  ·have bs:=of_decide_eq_false A;rw[if_neg (λ h=>bs h.1)] at E;refine go ?_;generalize h5:decide (op.kind=5)=cc;cases cc
   ·rw[if_neg (of_decide_eq_false h5)] at E;refine gA (sH gone (by omega)) ?_;refine d8 ?_;rw[<-E]
   ·rw[if_pos (of_decide_eq_true h5)] at E;refine go ?_;refine hJ (Lw l D log ⟨0,gone,0,0,0⟩ (jK l op.obj) (pg l D op.obj) op _ (λ x M h=>by have:=D9 h;simp at this;omega) (K7 l Z D log ⟨0,gone,0,0,0⟩ (jK l op.obj) (pg l D op.obj) op fb dp (Nat.zero_le _) R)) rfl (λ a w=>call126 a w) rfl rfl (by(repeat(first|exact trivial|refine⟨⟨rfl,rfl⟩,?_⟩))) trivial rfl rfl rfl rfl ?_ ?_
    ·rintro d U ⟨rfl,_⟩;exact trivial
    rintro d U ⟨rfl,⟨x,M,hm,rfl⟩|⟨a,hm,rfl⟩⟩
    ·rw[hm] at E;refine gf ?_;rw[<-E];rfl
    ·rw[hm] at E;refine gf ?_;rw[<-E];rfl
  ·have bs:=of_decide_eq_true A;refine go ?_;generalize K:decide (op.a>=0)=cc;cases cc
   ·have dc:=of_decide_eq_false K;rw[if_neg (λ h=>dc h.2.1)] at E;refine go ?_;generalize h5:decide (op.kind=5)=cc;cases cc
    ·rw[if_neg (of_decide_eq_false h5)] at E;refine gA (sH gone (by omega)) ?_;refine d8 ?_;rw[<-E]
    ·rw[if_pos (of_decide_eq_true h5)] at E;refine go ?_;refine hJ (Lw l D log ⟨0,gone,0,0,0⟩ (jK l op.obj) (pg l D op.obj) op _ (λ x M h=>by have:=D9 h;simp at this;omega) (K7 l Z D log ⟨0,gone,0,0,0⟩ (jK l op.obj) (pg l D op.obj) op fb dp (Nat.zero_le _) R)) rfl (λ a w=>call126 a w) rfl rfl (by(repeat(first|exact trivial|refine⟨⟨rfl,rfl⟩,?_⟩))) trivial rfl rfl rfl rfl ?_ ?_
     ·rintro d U ⟨rfl,_⟩;exact trivial
     rintro d U ⟨rfl,⟨x,M,hm,rfl⟩|⟨a,hm,rfl⟩⟩
     ·rw[hm] at E;refine gf ?_;rw[<-E];rfl
     ·rw[hm] at E;refine gf ?_;rw[<-E];rfl
   ·have dc:=of_decide_eq_true K;refine go ?_;generalize h4:decide (op.a<4294967296)=cc;cases cc
    ·have oN:=of_decide_eq_false h4;rw[if_neg (λ h=>oN h.2.2)] at E;refine go ?_;generalize h5:decide (op.kind=5)=cc;cases cc
     ·rw[if_neg (of_decide_eq_false h5)] at E;refine gA (sH gone (by omega)) ?_;refine d8 ?_;rw[<-E]
     ·rw[if_pos (of_decide_eq_true h5)] at E;refine go ?_;refine hJ (Lw l D log ⟨0,gone,0,0,0⟩ (jK l op.obj) (pg l D op.obj) op _ (λ x M h=>by have:=D9 h;simp at this;omega) (K7 l Z D log ⟨0,gone,0,0,0⟩ (jK l op.obj) (pg l D op.obj) op fb dp (Nat.zero_le _) R)) rfl (λ a w=>call126 a w) rfl rfl (by(repeat(first|exact trivial|refine⟨⟨rfl,rfl⟩,?_⟩))) trivial rfl rfl rfl rfl ?_ ?_
      ·rintro d U ⟨rfl,_⟩;exact trivial
      rintro d U ⟨rfl,⟨x,M,hm,rfl⟩|⟨a,hm,rfl⟩⟩
      ·rw[hm] at E;refine gf ?_;rw[<-E];rfl
      ·rw[hm] at E;refine gf ?_;rw[<-E];rfl
    ·rw[if_pos ⟨bs,dc,of_decide_eq_true h4⟩] at E;refine go ?_;refine hJ (abM l D log ⟨0,gone,0,0,0⟩ (jK l op.obj) (pg l D op.obj) op _ (λ x M h=>by rw[ab1 h];simp;omega) (aaM l Z D log ⟨0,gone,0,0,0⟩ (jK l op.obj) (pg l D op.obj) op (Nat.zero_le _) R)) rfl (λ a w=>call126 a w) rfl rfl (by(repeat(first|exact trivial|refine⟨⟨rfl,rfl⟩,?_⟩))) trivial rfl rfl rfl rfl ?_ ?_
     ·rintro d U ⟨rfl,_⟩;exact trivial
     rintro d U ⟨rfl,⟨x,M,hm,rfl⟩|⟨a,hm,rfl⟩⟩
     ·rw[hm] at E;refine gf ?_;rw[<-E];rfl
     ·rw[hm] at E;refine gf ?_;rw[<-E];rfl
 ·rw[if_pos (of_decide_eq_true h1)] at E;refine gA (sH gone (by omega)) ?_;refine d8 ?_;rw[<-E]
end Go.Proofs.YtcnefjfboagbmaaGreat.Em
