/- The piece of a program once more: segment's. -/
import Derived.Test.YtcnefjfboagbmaaGreatWA
import Derived.Test.YtcnefjfboagbmaaGreatPA
namespace Go.Proofs.YtcnefjfboagbmaaGreat.Sg
open Go.Proofs.Tryz
open Go.RowKit
set_option maxRecDepth 100000
abbrev m9(l:ag)(D:Int)(s:ah):List G:=[u l.az,u l.nodes,u l.buckets,u l.bP,u l.tasks,u l.cells,u l.maps,u l.cZ,u l.bo,u l.done,u l.count,u l.era,u l.free,u l.alive,u l.owner,u l.kV,u l.rU,u l.ring,u l.task,u l.cell,u l.map,u l.stack,u l.chan,u l.node,u l.size,u D,d7 s.gone,u s.made,u s.e0,u s.e1,u s.e2,.fn (.func 168) [] [.ptr 12 0,.ptr 13 0]]
abbrev bZ(l:ag)(D:Int)(log:List aD)(s:ah):bE:=[(11,m9 l D s),(12,[.ptr 11 0]),(13,[gH log])]
theorem gB(l:ag)(R:ca l)(D:Int)(s:ah)(n i:Int)(hn:n<9223372036854775808)(X:i<9223372036854775808):aX prog 171 [.el (Bq l D s),u n,u i] (u (aE l n i)):=by
 refine sP func171 ntmps171 λ w cl=>?_
 refine gA (j7 l R n i hn X) ?_;refine d8 ?_
 rfl
theorem iV(l:ag)(D:Int)(s:ah)(h:(s.made:Int)<9223372036854775807):aX prog 174 [.el (Bq l D s)] (u ((s.made:Int)-1)):=by
 refine sP func174 ntmps174 λ w cl=>?_
 refine gf ?_
 rfl
abbrev iz(a:aT):Value:=.iface 185 (.agg #[.int .i64 a.kind,.int .i64 a.cell,.int .i64 a.fz,.int .i64 a.new])
def B3{ar:Type}(l:ag)(D:Int)(log:List aD)(m:Except aT (ar×ah))(s:ah)(enc:ar->G):G->bE->Prop:=λ d U=>∃x M,m=.ok (x,M)/\s.made<=M.made/\M.made<=log.length/\d=enc x/\U=bZ l D log M
def B4{ar:Type}(l:ag)(D:Int)(log:List aD)(m:Except aT (ar×ah)):Value->bE->Prop:=λ v U=>∃a M,m=.error a/\v=iz a/\U=bZ l D log M
abbrev fS{ar:Type}(f:FuncId)(l:ag)(D:Int)(log:List aD)(s:ah)(ds:List G)(m:Except aT (ar×ah))(enc:ar->G):Prop:=
 fI prog f [11,12,13] ds (bZ l D log s) (B3 l D log m s enc) (B4 l D log m)
theorem pu(l:ag)(D:Int)(log:List aD)(s:ah)(a:aT)(hm:s.made<=log.length)(R:log.length<=1000000):fS 168 l D log s [fy a,.ptr 12 0,.ptr 13 0] (fk a log s) xF:=by
 refine sX func168 ntmps168 λ w cl own kf=>?_
 refine go ?_;refine gD [] ?_;refine go ?_;generalize h1:decide ((s.made:Int)=(log.length:Int))=cc;cases cc
 ·have aP:=of_decide_eq_false h1;have ba:s.made<log.length:=by omega
  have hr:log[s.made]?=some log[s.made]:=List.getElem?_eq_getElem ba;generalize log[s.made]=r at hr;have pJ:log[((s.made:Int)+1-1).toNat]?=some r:=by rw[show((s.made:Int)+1-1).toNat=s.made by omega];exact hr
  refine go ?_;refine gW 8 [] ?_;refine ri [pI r.val,pB r.ok] (DR pJ) ?_;refine qg ?_;exact fX _ ⟨r,{s with made:=s.made+1},by rw[fk,hr],by simp,by simp;omega,rfl,rfl⟩
 ·have aP:log.length=s.made:=by have:=of_decide_eq_true h1;omega
  have hr:log[s.made]?=none:=List.getElem?_eq_none (by omega);refine go ?_;refine bn (DH aB rfl rfl rfl rfl rfl) rfl rfl rfl ?_;refine Cb rfl rfl rfl ?_;refine gP ?_;exact fP _ ⟨a,s,by rw[fk,hr],rfl,rfl⟩
theorem eh(l:ag)(D:Int)(log:List aD)(s:ah)(c:Int)(hm:s.made<=log.length)(R:log.length<=1000000):fS 172 l D log s [.ptr 11 0,u c] (cj c log s) u:=by
 refine sX func172 ntmps172 λ w cl own kf=>?_
 refine go ?_;refine vX (pu l D log s ⟨1,c,0,0⟩ hm R) ?_ ?_
 ·rintro v U ⟨a,M,h,rfl,rfl⟩;refine gP ?_;exact fP _ ⟨a,M,bl h,rfl,rfl⟩
 rintro d U ⟨x,M,h,ir,ci,rfl,rfl⟩;refine go ?_;exact fX _ ⟨x.val,M,aw h,ir,ci,rfl,rfl⟩
theorem ii(l:ag)(D:Int)(log:List aD)(s:ah)(c v:Int)(hm:s.made<=log.length)(R:log.length<=1000000):fS 198 l D log s [.ptr 11 0,u c,u v] (eH c v log s) (λ _=>.bg []):=by
 refine sX func198 ntmps198 λ w cl own kf=>?_
 refine go ?_;refine vX (pu l D log s ⟨2,c,0,v⟩ hm R) ?_ ?_
 ·rintro v U ⟨a,M,h,rfl,rfl⟩;refine gP ?_;exact fP _ ⟨a,M,bl h,rfl,rfl⟩
 rintro d U ⟨x,M,h,ir,ci,rfl,rfl⟩;refine go ?_;exact fX _ ⟨(),M,aw h,ir,ci,rfl,rfl⟩
theorem i3(l:ag)(D:Int)(log:List aD)(s:ah)(c o v:Int)(hm:s.made<=log.length)(R:log.length<=1000000):fS 173 l D log s [.ptr 11 0,u c,u o,u v] (eZ c o v log s) dB:=by
 refine sX func173 ntmps173 λ w cl own kf=>?_
 refine go ?_;refine vX (pu l D log s ⟨3,c,o,v⟩ hm R) ?_ ?_
 ·rintro v U ⟨a,M,h,rfl,rfl⟩;refine gP ?_;exact fP _ ⟨a,M,bl h,rfl,rfl⟩
 rintro d U ⟨x,M,h,ir,ci,rfl,rfl⟩;refine go ?_;exact fX _ ⟨x.ok,M,aw h,ir,ci,rfl,rfl⟩
set_option maxHeartbeats 4000000 in
theorem EB(l:ag)(Z:ca l)(D:Int)(log:List aD)(s:ah)(hm:s.made<=log.length)(R:log.length<=1000000):fS 178 l D log s [.ptr 11 0] (pT l log s) (λ p=>.bg [u p.1,u p.2.1,dB p.2.2]):=by
 generalize E:pT l log s=aJ;refine sX func178 ntmps178 λ w cl own kf=>?_
 refine go ?_;refine bW (λ p:Nat×ah=>s.made<=p.2.made/\p.2.made<=log.length/\log.length-p.2.made<p.1/\nM l p.1 log p.2=aJ) (λ p=>⟨[(0,.ptr 11 0)],bZ l D log p.2,[]⟩) (λ p=>p.1) (log.length+1-s.made,s) ⟨Nat.le_refl _,hm,by simp only;omega,E⟩ (zX) ?_;rintro⟨k,t⟩ ⟨cC,bB,iS,E⟩;simp only at cC bB iS E;obtain⟨k,rfl⟩:∃j,k=j+1:=⟨k-1,by omega⟩;refine(show aK _ _ _ _ ⟨[(0,.ptr 11 0)],bZ l D log t,[]⟩ from ?_);rw[nM] at E;refine go ?_;refine xP (eh l D log t l.free bB R) ?_;rintro d U ⟨fr,s1,bG,fM,cP,rfl,rfl⟩;rw[aw bG] at E;have e8:=iw bG;have bO:=lj fr;have dj:=sE fr;refine gA (kB fr) ?_;generalize h1:decide ((ay fr).idx=0)=cc;cases cc
 ·have aP:=of_decide_eq_false h1;rw[if_neg aP] at E;refine go ?_;refine lA (gB l Z D s1 (ay fr).idx 7 (by omega) (by omega)) ?_;refine go ?_;refine xP (eh l D log s1 (aE l (ay fr).idx 7) cP R) ?_;rintro d U ⟨lk,s2,bm,e7,cy,rfl,rfl⟩;rw[aw bm] at E;have iv:=iw bm;refine go ?_;refine dW 11 [] ?_;refine gQ (pU (ay fr) lk dj.1 dj.2) ?_;refine cQ (lZ (co (ay fr) lk)) ?_;refine bh ?_;refine xP (i3 l D log s2 l.free fr (cf (co (ay fr) lk)) cy R) ?_;rintro d U ⟨ig,s3,bT,fe,cw,rfl,rfl⟩;rw[aw bT] at E;have gJ:=lr bT;refine go ?_;cases ig
  ·rw[if_neg (by decide)] at E;refine go ?_;exact⟨(k,s3),⟨by simp only;omega,cw,by simp only;omega,E⟩,by simp only;omega,zX⟩
  ·rw[if_pos rfl,aw eT] at E;refine go ?_;refine lA (iV l D s3 (by omega)) ?_;refine go ?_;refine xP (eh l D log s3 l.era cw R) ?_;rintro d U ⟨bi,s4,cB,jb,ez,rfl,rfl⟩;rw[aw cB] at E;refine go ?_;refine lA (gB l Z D s4 (ay fr).idx 6 (by omega) (by omega)) ?_;refine go ?_;refine xP (ii l D log s4 (aE l (ay fr).idx 6) bi ez R) ?_;rintro d U ⟨af,s5,dt,kS,eK,rfl,rfl⟩;rw[aw dt] at E;refine go ?_;exact fX _ ⟨_,s5,E.symm,by omega,eK,rfl,rfl⟩
 ·rw[if_pos (of_decide_eq_true h1),aw eT] at E;refine go ?_;refine lA (iV l D s1 (by omega)) ?_;refine go ?_;exact fX _ ⟨_,s1,E.symm,by omega,cP,rfl,rfl⟩
set_option maxHeartbeats 4000000 in
theorem wa(l:ag)(Z:ca l)(D:Int)(log:List aD)(s:ah)(n:Int)(hn:n<9223372036854775808)(hm:s.made<=log.length)(R:log.length<=1000000):fS 175 l D log s [.ptr 11 0,u n] (mM l n log s) (λ _=>.bg []):=by
 generalize E:mM l n log s=aJ;refine sX func175 ntmps175 λ w cl own kf=>?_
 refine go ?_;refine bW (λ p:Nat×ah=>s.made<=p.2.made/\p.2.made<=log.length/\log.length-p.2.made<p.1/\l9 l n p.1 log p.2=aJ) (λ p=>⟨[(0,.ptr 11 0),(1,u n)],bZ l D log p.2,[]⟩) (λ p=>p.1) (log.length+1-s.made,s) ⟨Nat.le_refl _,hm,by simp only;omega,E⟩ (zX) ?_;rintro⟨k,t⟩ ⟨cC,bB,iS,E⟩;simp only at cC bB iS E;obtain⟨k,rfl⟩:∃j,k=j+1:=⟨k-1,by omega⟩;refine(show aK _ _ _ _ ⟨[(0,.ptr 11 0),(1,u n)],bZ l D log t,[]⟩ from ?_);rw[l9] at E;refine go ?_;refine xP (eh l D log t l.free bB R) ?_;rintro d U ⟨fr,s1,bG,fM,cP,rfl,rfl⟩;rw[aw bG] at E;have e8:=iw bG;have dj:=sE fr;refine gA (kB fr) ?_;refine gW 6 [] ?_;refine lQ (gB l Z D s1 n 7 hn (by omega)) ?_;refine bh ?_;refine xP (ii l D log s1 (aE l n 7) (ay fr).idx cP R) ?_;rintro d U ⟨af,s2,bm,e7,cy,rfl,rfl⟩;rw[aw bm] at E;have iv:=rE bm;refine go ?_;refine dW 11 [] ?_;refine gQ (pU (ay fr) n dj.1 dj.2) ?_;refine cQ (lZ (co (ay fr) n)) ?_;refine bh ?_;refine xP (i3 l D log s2 l.free fr (cf (co (ay fr) n)) cy R) ?_;rintro d U ⟨ig,s3,bT,fe,cw,rfl,rfl⟩;rw[aw bT] at E;have gJ:=lr bT;refine go ?_;cases ig
 ·rw[if_neg (by decide)] at E;refine go ?_;exact⟨(k,s3),⟨by simp only;omega,cw,by simp only;omega,E⟩,by simp only;omega,zX⟩
 ·rw[if_pos rfl] at E;refine go ?_;exact fX _ ⟨_,s3,E.symm,by omega,cw,rfl,rfl⟩
set_option maxHeartbeats 4000000 in
theorem Ah(l:ag)(Z:ca l)(D:Int)(log:List aD)(s:ah)(cell:Int)(hm:s.made<=log.length)(R:log.length<=1000000):fS 170 l D log s [.ptr 11 0,u 0,u cell] (kP l D 0 cell log s) (λ p=>.bg [u p.1,u p.2]):=by
 generalize E:kP l D 0 cell log s=aJ;refine sX func170 ntmps170 λ w cl own kf=>?_
 refine go ?_;refine bW (λ p:Nat×ah=>s.made<=p.2.made/\p.2.made<=log.length/\log.length-p.2.made<p.1/\kO l D 0 cell p.1 log p.2=aJ) (λ p=>⟨[(0,.ptr 11 0),(1,u 0),(2,u cell)],bZ l D log p.2,[]⟩) (λ p=>p.1) (log.length+1-s.made,s) ⟨Nat.le_refl _,hm,by simp only;omega,E⟩ (zX) ?_;rintro⟨k,t⟩ ⟨cC,bB,iS,E⟩;simp only at cC bB iS E;obtain⟨k,rfl⟩:∃j,k=j+1:=⟨k-1,by omega⟩;refine(show aK _ _ _ _ ⟨[(0,.ptr 11 0),(1,u 0),(2,u cell)],bZ l D log t,[]⟩ from ?_);rw[kO] at E;refine go ?_;refine xP (eh l D log t cell bB R) ?_;rintro d U ⟨v,s1,bG,fM,cP,rfl,rfl⟩;rw[aw bG,aw eT] at E;have e8:=iw bG;refine go ?_;refine lA (iV l D s1 (by omega)) ?_;refine go ?_;refine xP (eh l D log s1 l.era cP R) ?_;rintro d U ⟨er,s2,bm,e7,cy,rfl,rfl⟩;rw[aw bm] at E;have iv:=iw bm;refine go ?_;refine bn (gK aB rfl rfl rfl rfl rfl (by omega) (by omega)) rfl rfl rfl ?_;refine go ?_;generalize h1:decide (er=s2.e0)=cc;cases cc
 ·rw[if_neg (show¬er=s2.e 0 from of_decide_eq_false h1)] at E;refine go ?_;refine dW 12 [] ?_;refine gQ (kW l Z D 0 (by omega)) ?_;refine xP (ii l D log s2 (cg l D 0) er cy R) ?_;rintro d U ⟨af,s3,bT,fe,cw,rfl,rfl⟩;rw[aw bT] at E;have gJ:=rE bT;refine go ?_;refine bn (gK aB rfl rfl rfl rfl rfl (by omega) (by omega)) rfl rfl rfl ?_;refine go ?_;exact⟨(k,{s3 with e0:=er}),⟨by simp only;omega,by simp only;omega,by simp only;omega,E⟩,by simp only;omega,zX⟩
 ·rw[if_pos (show er=s2.e 0 from of_decide_eq_true h1)] at E;refine go ?_;exact fX _ ⟨_,s2,E.symm,by omega,cy,rfl,rfl⟩
set_option maxHeartbeats 4000000 in
theorem jP(l:ag)(Z:ca l)(D:Int)(log:List aD)(s:ah)(hm:s.made<=log.length)(R:log.length<=1000000):fS 176 l D log s [.ptr 11 0] (ge l D log s) (λ _=>.bg []):=by
 generalize E:ge l D log s=aJ;unfold ge at E;refine sX func176 ntmps176 λ w cl own kf=>?_
 refine go ?_;refine bW (λ p:Nat×ah=>p.1<=3/\s.made<=p.2.made/\p.2.made<=log.length/\gG l D p.1 ([s.e0,s.e1,s.e2].drop p.1) log p.2=aJ) (λ p=>⟨[(8,u p.1),(7,.agg [u s.e0,u s.e1,u s.e2]),(0,.ptr 11 0)],bZ l D log p.2,[]⟩) (λ p=>3-p.1) (0,s) ⟨by simp only;omega,Nat.le_refl _,hm,E⟩ (zX) ?_;rintro⟨i,t⟩ ⟨X,cC,bB,E⟩;simp only at X cC bB E;rcases(show i=0\/i=1\/i=2\/i=3 by omega) with rfl|rfl|rfl|rfl
 ·refine(show aK _ _ _ _ ⟨[(8,u 0),(7,.agg [u s.e0,u s.e1,u s.e2]),(0,.ptr 11 0)],bZ l D log t,[]⟩ from ?_);have E:(cX l D 0 s.e0).bind (λ _=>gG l D 1 ([s.e0,s.e1,s.e2].drop 1)) log t=aJ:=E;refine go ?_;refine cN (λ h1=>?_) (λ h1=>?_)<;>try rw[h1]
  ·refine go ?_;refine bn (uU aB (u s.e0) rfl rfl rfl rfl rfl rfl (by omega) (by omega) rfl) rfl rfl rfl ?_;refine go ?_;generalize A:decide (s.e0=0)=cc;cases cc
   ·rw[cX,if_neg (of_decide_eq_false A)] at E;refine go ?_;refine dW 11 [] ?_;refine gQ (kW l Z D 0 (by omega)) ?_;refine xX (ii l D log t (cg l D 0) 0 bB R) ?_ ?_
    ·rintro v U ⟨a,M,h,rfl,rfl⟩;refine gP ?_;exact fP _ ⟨a,M,by rw[<-E];exact bl (bl h),rfl,rfl⟩
    rintro d U ⟨af,s1,bG,fM,cP,rfl,rfl⟩;have mb:gG l D 1 ([s.e0,s.e1,s.e2].drop 1) log {s1 with e0:=0}=aJ:=by rw[<-E];exact(aw (f:=λ _=>gG l D 1 ([s.e0,s.e1,s.e2].drop 1)) (aw (f:=λ _=>oC 0) bG)).symm
    refine go ?_;refine bn (gK aB rfl rfl rfl rfl rfl (by omega) (by omega)) rfl rfl rfl ?_;refine go ?_;exact⟨(1,{s1 with e0:=0}),⟨by simp only;omega,by simp only;omega,by simp only;omega,mb⟩,by simp only;omega,zX⟩
   ·rw[cX,if_pos (of_decide_eq_true A)] at E;refine go ?_;exact⟨(1,t),⟨by simp only;omega,cC,bB,E⟩,by simp only;omega,zX⟩
  ·exact absurd h1 (by decide)
 ·refine(show aK _ _ _ _ ⟨[(8,u 1),(7,.agg [u s.e0,u s.e1,u s.e2]),(0,.ptr 11 0)],bZ l D log t,[]⟩ from ?_);have E:(cX l D 1 s.e1).bind (λ _=>gG l D 2 ([s.e0,s.e1,s.e2].drop 2)) log t=aJ:=E;refine go ?_;refine cN (λ h1=>?_) (λ h1=>?_)<;>try rw[h1]
  ·refine go ?_;refine bn (uU aB (u s.e1) rfl rfl rfl rfl rfl rfl (by omega) (by omega) rfl) rfl rfl rfl ?_;refine go ?_;generalize A:decide (s.e1=0)=cc;cases cc
   ·rw[cX,if_neg (of_decide_eq_false A)] at E;refine go ?_;refine dW 11 [] ?_;refine gQ (kW l Z D 1 (by omega)) ?_;refine xX (ii l D log t (cg l D 1) 0 bB R) ?_ ?_
    ·rintro v U ⟨a,M,h,rfl,rfl⟩;refine gP ?_;exact fP _ ⟨a,M,by rw[<-E];exact bl (bl h),rfl,rfl⟩
    rintro d U ⟨af,s1,bG,fM,cP,rfl,rfl⟩;have mb:gG l D 2 ([s.e0,s.e1,s.e2].drop 2) log {s1 with e1:=0}=aJ:=by rw[<-E];exact(aw (f:=λ _=>gG l D 2 ([s.e0,s.e1,s.e2].drop 2)) (aw (f:=λ _=>oC 1) bG)).symm
    refine go ?_;refine bn (gK aB rfl rfl rfl rfl rfl (by omega) (by omega)) rfl rfl rfl ?_;refine go ?_;exact⟨(2,{s1 with e1:=0}),⟨by simp only;omega,by simp only;omega,by simp only;omega,mb⟩,by simp only;omega,zX⟩
   ·rw[cX,if_pos (of_decide_eq_true A)] at E;refine go ?_;exact⟨(2,t),⟨by simp only;omega,cC,bB,E⟩,by simp only;omega,zX⟩
  ·exact absurd h1 (by decide)
 ·refine(show aK _ _ _ _ ⟨[(8,u 2),(7,.agg [u s.e0,u s.e1,u s.e2]),(0,.ptr 11 0)],bZ l D log t,[]⟩ from ?_);have E:(cX l D 2 s.e2).bind (λ _=>gG l D 3 ([s.e0,s.e1,s.e2].drop 3)) log t=aJ:=E;refine go ?_;refine cN (λ h1=>?_) (λ h1=>?_)<;>try rw[h1]
  ·refine go ?_;refine bn (uU aB (u s.e2) rfl rfl rfl rfl rfl rfl (by omega) (by omega) rfl) rfl rfl rfl ?_;refine go ?_;generalize A:decide (s.e2=0)=cc;cases cc
   ·rw[cX,if_neg (of_decide_eq_false A)] at E;refine go ?_;refine dW 11 [] ?_;refine gQ (kW l Z D 2 (by omega)) ?_;refine xX (ii l D log t (cg l D 2) 0 bB R) ?_ ?_
    ·rintro v U ⟨a,M,h,rfl,rfl⟩;refine gP ?_;exact fP _ ⟨a,M,by rw[<-E];exact bl (bl h),rfl,rfl⟩
    rintro d U ⟨af,s1,bG,fM,cP,rfl,rfl⟩;have mb:gG l D 3 ([s.e0,s.e1,s.e2].drop 3) log {s1 with e2:=0}=aJ:=by rw[<-E];exact(aw (f:=λ _=>gG l D 3 ([s.e0,s.e1,s.e2].drop 3)) (aw (f:=λ _=>oC 2) bG)).symm
    refine go ?_;refine bn (gK aB rfl rfl rfl rfl rfl (by omega) (by omega)) rfl rfl rfl ?_;refine go ?_;exact⟨(3,{s1 with e2:=0}),⟨by simp only;omega,by simp only;omega,by simp only;omega,mb⟩,by simp only;omega,zX⟩
   ·rw[cX,if_pos (of_decide_eq_true A)] at E;refine go ?_;exact⟨(3,t),⟨by simp only;omega,cC,bB,E⟩,by simp only;omega,zX⟩
  ·exact absurd h1 (by decide)
 ·refine(show aK _ _ _ _ ⟨[(8,u 3),(7,.agg [u s.e0,u s.e1,u s.e2]),(0,.ptr 11 0)],bZ l D log t,[]⟩ from ?_);refine go ?_;refine cN (λ h1=>?_) (λ h1=>?_)<;>try rw[h1]
  ·exact absurd h1 (by decide)
  ·refine go ?_;exact fX _ ⟨(),t,E.symm,cC,bB,rfl,rfl⟩
theorem Cp(r f g0 g1:Int):aX prog 199 [u r,.el [pI f],.el [pI g0,pI g1]] (dB (gZ f g1 r)):=by
 refine sP func199 ntmps199 λ w cl=>?_
 refine go ?_;generalize h1:decide (f<=r)=cc;cases cc
 ·refine gf ?_;rw[gZ,h1];rfl
 ·refine go ?_;refine bn (KA aB rfl rfl rfl rfl rfl (by omega) (by omega) rfl) rfl rfl rfl ?_;refine gf ?_;rw[gZ,h1];rfl
abbrev rQ(f g0 g1:Int):G:=.fn (.func 199) [] [.el [pI f],.el [pI g0,pI g1]]
set_option maxHeartbeats 4000000 in
theorem DG(aM:List Int)(hh:aM.length<=1000000)(f g0 g1:Int):aX prog 217 [bq aM,rQ f g0 g1] (u (l7 (gZ f g1) aM 0)):=by
 generalize E:l7 (gZ f g1) aM 0=aJ;refine sP func217 ntmps217 λ w cl=>?_
 refine go ?_;refine bW (λ i:Nat=>i<=aM.length/\l7 (gZ f g1) (aM.drop i) i=aJ) (λ i=>⟨[(8,u i),(7,u aM.length),(6,bq aM),(0,bq aM),(1,rQ f g0 g1)],[],[]⟩) (λ i=>aM.length-i) 0 ⟨Nat.zero_le _,E⟩ (zX) ?_;rintro i ⟨X,E⟩;refine go ?_;refine cN (λ h1=>?_) (λ h1=>?_)<;>try rw[h1]
 ·have aP:=of_decide_eq_true h1;have du:i<aM.length:=by omega
  obtain⟨x,O⟩:=l8 (l:=aM) (i:=i) (by omega) aP;have F:aM.drop i=x::aM.drop (i+1):=by rw[List.drop_eq_getElem_cons du];simp only[Int.toNat_natCast] at O;rw[(List.getElem?_eq_some_iff.1 O).2]
  rw[F,l7] at E;refine go ?_;refine ai [pI x] (gk O) ?_;refine go ?_;refine bn (vN (Cp x f g0 g1) rfl (λ a w=>call199 a w) rfl rfl) rfl rfl rfl ?_;refine go ?_;generalize A:gZ f g1 x=cc;cases cc
  ·rw[A,if_neg (by decide)] at E;refine go ?_;exact⟨i+1,⟨by omega,E⟩,by omega,zX⟩
  ·rw[A,if_pos rfl] at E;refine gf ?_;rw[E]
 ·have du:aM.length<=i:=by have:=of_decide_eq_false h1;omega
  rw[List.drop_of_length_le du,l7] at E;refine gf ?_;rw[<-E]
theorem Cq(aM:List Int)(hh:aM.length<=1000000)(f g0 g1:Int):aX prog 196 [bq aM,rQ f g0 g1] (dB (aM.any (gZ f g1))):=by
 refine sP func196 ntmps196 λ w cl=>?_
 refine gA (DG aM hh f g0 g1) ?_;refine d8 ?_;rw[<-Fg _ aM 0]
set_option maxHeartbeats 8000000 in
theorem yW(l:ag)(Z:ca l)(D:Int)(log:List aD)(s:ah)(n:Int)(hn:n<9223372036854775808)(fb:eu s.gone)(dp:s.gone.length<=10000)(hm:s.made<=log.length)(R:log.length<=1000000):fS 181 l D log s [.ptr 11 0,u n] (jF l n log s) (λ _=>.bg []):=by
 have uN:=Z.az;unfold lH at uN;generalize E:jF l n log s=aJ;unfold jF at E;refine sX func181 ntmps181 λ w cl own kf=>?_
 refine go ?_;refine xP (eh l D log s l.era hm R) ?_;rintro d U ⟨er,s1,bG,fM,cP,rfl,rfl⟩;rw[aw bG] at E;have e8:=fE bG;refine go ?_;refine gW 10 [] ?_;refine vP (pu l D log s1 ⟨4,l.era,0,1⟩ cP R) ?_;rintro d U ⟨dr,s2,bm,e7,cy,rfl,rfl⟩;rw[aw bm] at E;have de:s2.gone=s.gone:=by rw[(un bm).1,e8.1]
 rw[de] at E;have n4:s.made<=s2.made:=by omega
 clear bG bm e8 fM e7 cP;refine go ?_;refine Ih 0 (pq s2.gone (by rw[de];omega)) rfl (λ a w=>call71 a w) rfl rfl rfl rfl rfl (G7 _) ?_;refine go ?_;refine hE aB rfl rfl rfl rfl rfl rfl rfl rfl rfl rfl rfl rfl rfl (by rw[de];unfold maxLen;omega) (by show(_+_)*16<=_;rw[de];omega) ?_;refine hZ ?_;refine nf ?_;refine dO (qC 11 (aO:=m9 l D {s2 with gone:=s.gone++[(n,er)]}) rfl (by
  show List.map lF _=_;have e:vc (s.gone++[(n,er)])=.sl false (s.gone.length+1) (gL s.gone++[pI n,pI er]):=by rw[vc,Bn,List.length_append];rfl
  simp only[List.map,lF,yG,de,m9,d7];rw[e])) ?_
 generalize wm:s.gone++[(n,er)]=gN at E;have Po:gN.length=s.gone.length+1:=by rw[<-wm];simp
 have C5:eu gN:=by
  intro p hp;rw[<-wm] at hp;rcases List.mem_append.1 hp with hp|hp
  ·exact fb p hp
  ·simp at hp;rw[hp];exact hn
 have ew:IntKind.i64.wrap (2*l.az)=2*l.az:=eI (by omega) (by omega);refine dO (bU:=⟨[(0,.ptr 11 0)],bZ l D log {s2 with gone:=gN},[]⟩) (zX) ?_;generalize gJ:({s2 with gone:=gN}:ah)=s3 at E⊢;have cw:s3.made<=log.length:=by rw[<-gJ];exact cy
 have fe:s.made<=s3.made:=by rw[<-gJ];exact n4
 have fV:s3.gone=gN:=by rw[<-gJ]
 refine go ?_;refine gD [] ?_;rw[ew];refine qg ?_;rw[fV];generalize h1:decide ((gN.length:Int)<2*l.az)=cc;cases cc
 ·have aP:=of_decide_eq_false h1;rw[if_neg (by omega),pR] at E;refine go ?_;refine dO (kF 5 0 3 1 rfl rfl rfl) ?_;refine bW (λ p:Nat×List Int×Nat×ah=>p.1+p.2.2.1=l.az.toNat/\p.2.1.length=3*p.1/\s.made<=p.2.2.2.made/\p.2.2.2.made<=log.length/\p.2.2.2.gone=gN/\(j5 p.2.1 (jE l p.1 p.2.2.1)).bind (λ aM=>(fa l aM gN []).bind λ aY=>ji aY) log p.2.2.2=aJ) (λ p=>⟨[(62,u p.1),(61,u l.az),(5,.aW 0 p.2.1.length (bb p.2.1)),(0,.ptr 11 0)],bZ l D log p.2.2.2,[(0,⟨3,1,p.2.1.length⟩)]⟩) (λ p=>p.2.2.1) (0,[],l.az.toNat,s3) ⟨by simp,rfl,fe,cw,fV,E⟩ (zX) ?_;rintro⟨j,acc,m,t⟩ ⟨hj,mN,cC,bB,eX,E⟩;simp only at hj mN cC bB eX E;refine(show aK _ _ _ _ ⟨[(62,u j),(61,u l.az),(5,.aW 0 acc.length (bb acc)),(0,.ptr 11 0)],bZ l D log t,[(0,⟨3,1,acc.length⟩)]⟩ from ?_);refine go ?_;refine cN (λ A=>?_) (λ A=>?_)<;>try rw[A]
  ·have bs:=of_decide_eq_true A;obtain⟨m,rfl⟩:∃k,m=k+1:=⟨m-1,by omega⟩;rw[jE] at E;refine go ?_;refine bW (λ q:Nat×List Int×ah=>q.1<=3/\q.2.1.length=3*j+q.1/\s.made<=q.2.2.made/\q.2.2.made<=log.length/\q.2.2.gone=gN/\(j5 q.2.1 (([cg l j 0,cg l j 1,cg l j 2].drop q.1)++jE l (j+1) m)).bind (λ aM=>(fa l aM gN []).bind λ aY=>ji aY) log q.2.2=aJ) (λ q=>⟨[(65,u q.1),(62,u j),(61,u l.az),(6,u j),(5,.aW 0 q.2.1.length (bb q.2.1)),(0,.ptr 11 0)],bZ l D log q.2.2,[(0,⟨3,1,q.2.1.length⟩)]⟩) (λ q=>3-q.1) (0,acc,t) ⟨by simp only;omega,by simp only;omega,cC,bB,eX,E⟩ (zX) ?_;rintro⟨i,ac,t⟩ ⟨X,CQ,cC,bB,eX,E⟩;simp only at X CQ cC bB eX E;rcases(show i=0\/i=1\/i=2\/i=3 by omega) with rfl|rfl|rfl|rfl
   ·refine(show aK _ _ _ _ ⟨[(65,u 0),(62,u j),(61,u l.az),(6,u j),(5,.aW 0 ac.length (bb ac)),(0,.ptr 11 0)],bZ l D log t,[(0,⟨3,1,ac.length⟩)]⟩ from ?_);have E:((cj (cg l j 0)).bind λ v=>j5 (ac++[v]) (([cg l j 0,cg l j 1,cg l j 2].drop 1)++jE l (j+1) m)).bind (λ aM=>(fa l aM gN []).bind λ aY=>ji aY) log t=aJ:=E;rw[bind_assoc] at E;refine go ?_;refine cN (λ K=>?_) (λ K=>?_)<;>try rw[K]
    ·refine gA (kW l Z j 0 (by omega)) ?_;refine xP (eh l D log t (cg l j 0) bB R) ?_;rintro d U ⟨v,s4,cB,jb,ez,rfl,rfl⟩;rw[aw cB] at E;have iq:s4.gone=gN:=by rw[(fE cB).1];exact eX
     refine go ?_;refine pA rfl ?_;rw[ow,show ac.length+1=(ac++[v]).length by simp];refine go ?_;exact⟨(1,ac++[v],s4),⟨by simp only;omega,by simp only[List.length_append,List.length_cons,List.length_nil];omega,by simp only;omega,ez,iq,E⟩,by simp only;omega,zX⟩
    ·exact absurd K (by decide)
   ·refine(show aK _ _ _ _ ⟨[(65,u 1),(62,u j),(61,u l.az),(6,u j),(5,.aW 0 ac.length (bb ac)),(0,.ptr 11 0)],bZ l D log t,[(0,⟨3,1,ac.length⟩)]⟩ from ?_);have E:((cj (cg l j 1)).bind λ v=>j5 (ac++[v]) (([cg l j 0,cg l j 1,cg l j 2].drop 2)++jE l (j+1) m)).bind (λ aM=>(fa l aM gN []).bind λ aY=>ji aY) log t=aJ:=E;rw[bind_assoc] at E;refine go ?_;refine cN (λ K=>?_) (λ K=>?_)<;>try rw[K]
    ·refine gA (kW l Z j 1 (by omega)) ?_;refine xP (eh l D log t (cg l j 1) bB R) ?_;rintro d U ⟨v,s4,cB,jb,ez,rfl,rfl⟩;rw[aw cB] at E;have iq:s4.gone=gN:=by rw[(fE cB).1];exact eX
     refine go ?_;refine pA rfl ?_;rw[ow,show ac.length+1=(ac++[v]).length by simp];refine go ?_;exact⟨(2,ac++[v],s4),⟨by simp only;omega,by simp only[List.length_append,List.length_cons,List.length_nil];omega,by simp only;omega,ez,iq,E⟩,by simp only;omega,zX⟩
    ·exact absurd K (by decide)
   ·refine(show aK _ _ _ _ ⟨[(65,u 2),(62,u j),(61,u l.az),(6,u j),(5,.aW 0 ac.length (bb ac)),(0,.ptr 11 0)],bZ l D log t,[(0,⟨3,1,ac.length⟩)]⟩ from ?_);have E:((cj (cg l j 2)).bind λ v=>j5 (ac++[v]) (([cg l j 0,cg l j 1,cg l j 2].drop 3)++jE l (j+1) m)).bind (λ aM=>(fa l aM gN []).bind λ aY=>ji aY) log t=aJ:=E;rw[bind_assoc] at E;refine go ?_;refine cN (λ K=>?_) (λ K=>?_)<;>try rw[K]
    ·refine gA (kW l Z j 2 (by omega)) ?_;refine xP (eh l D log t (cg l j 2) bB R) ?_;rintro d U ⟨v,s4,cB,jb,ez,rfl,rfl⟩;rw[aw cB] at E;have iq:s4.gone=gN:=by rw[(fE cB).1];exact eX
     refine go ?_;refine pA rfl ?_;rw[ow,show ac.length+1=(ac++[v]).length by simp];refine go ?_;exact⟨(3,ac++[v],s4),⟨by simp only;omega,by simp only[List.length_append,List.length_cons,List.length_nil];omega,by simp only;omega,ez,iq,E⟩,by simp only;omega,zX⟩
    ·exact absurd K (by decide)
   ·refine(show aK _ _ _ _ ⟨[(65,u 3),(62,u j),(61,u l.az),(6,u j),(5,.aW 0 ac.length (bb ac)),(0,.ptr 11 0)],bZ l D log t,[(0,⟨3,1,ac.length⟩)]⟩ from ?_);refine go ?_;refine cN (λ K=>?_) (λ K=>?_)<;>try rw[K]
    ·exact absurd K (by decide)
    ·refine go ?_;exact⟨(j+1,ac,m,t),⟨by simp only;omega,by simp only;omega,cC,bB,eX,E⟩,by simp only;omega,zX⟩
  ·have bs:=of_decide_eq_false A;obtain rfl:m=0:=by omega
   have E:((fa l acc gN []).bind λ aY=>ji aY) log t=aJ:=E;subst eX;refine dO (AY 5 (dR:=bq acc) rfl rfl) ?_;refine go ?_;refine dO (kF 8 1 110 2 rfl rfl rfl) ?_;refine bW (λ q:Nat×List (Int×Int)×ah=>q.1<=t.gone.length/\q.2.1.length<=q.1/\s.made<=q.2.2.made/\q.2.2.made<=log.length/\((fa l acc (t.gone.drop q.1) q.2.1).bind λ aY=>ji aY) log q.2.2=aJ) (λ q=>⟨[(87,u q.1),(86,u t.gone.length),(85,d7 t.gone),(8,.aW 1 q.2.1.length (gL q.2.1)),(5,bq acc),(0,.ptr 11 0)],bZ l D log q.2.2,[(1,⟨110,2,q.2.1.length⟩)]⟩) (λ q=>t.gone.length-q.1) (0,[],t) ⟨Nat.zero_le _,Nat.le_refl _,cC,bB,E⟩ (zX) ?_;rintro⟨i,aY,af⟩ ⟨X,jx,tL,lV,E⟩;simp only at X jx tL lV E;refine(show aK _ _ _ _ ⟨[(87,u i),(86,u t.gone.length),(85,d7 t.gone),(8,.aW 1 aY.length (gL aY)),(5,bq acc),(0,.ptr 11 0)],bZ l D log af,[(1,⟨110,2,aY.length⟩)]⟩ from ?_);refine go ?_;refine cN (λ K=>?_) (λ K=>?_)<;>try rw[K]
   ·have dc:=of_decide_eq_true K;have du:i<t.gone.length:=by omega
    obtain⟨gg,nX⟩:=l8 (l:=t.gone) (i:=i) (by omega) dc;have wn:=C5 gg (List.mem_of_getElem? nX);have F:t.gone.drop i=gg::t.gone.drop (i+1):=by rw[List.drop_eq_getElem_cons du];simp only[Int.toNat_natCast] at nX;rw[(List.getElem?_eq_some_iff.1 nX).2]
    rw[F,fa,bind_assoc] at E;refine go ?_;refine ai [pI gg.1,pI gg.2] (CD nX) ?_;refine go ?_;refine bn (gK aB rfl rfl rfl rfl rfl (by omega) (by omega)) rfl rfl rfl ?_;refine go ?_;refine lA (gB l Z D af gg.1 6 wn (by omega)) ?_;refine go ?_;refine xP (eh l D log af (aE l gg.1 6) lV R) ?_;rintro d U ⟨bi,s5,dt,kS,eK,rfl,rfl⟩;rw[aw dt] at E;refine go ?_;refine bn (GO rfl rfl rfl) rfl rfl rfl ?_;refine(show bp _ _ _ _ _ ⟨(97,u (nI bi))::_,_,_⟩ from ?_);refine go ?_;refine lA (Cq acc (by omega) (nI bi) gg.1 gg.2) ?_;refine go ?_;generalize h4:acc.any (gZ (nI bi) gg.2)=cc;cases cc
    ·rw[h4,if_neg (by decide),bind_assoc] at E;refine go ?_;refine bn (gK aB rfl rfl rfl rfl rfl (by omega) (by omega)) rfl rfl rfl ?_;refine go ?_;refine xP (wa l Z D log s5 gg.1 wn eK R) ?_;rintro d U ⟨uu,s6,jX,uG,mU,rfl,rfl⟩;rw[aw jX] at E;refine go ?_;exact⟨(i+1,aY,s6),⟨by simp only;omega,by simp only;omega,by simp only;omega,mU,E⟩,by simp only;omega,zX⟩
    ·rw[h4,if_pos rfl] at E;refine go ?_;refine pA rfl ?_;rw[<-Bn aY gg,show aY.length+1=(aY++[gg]).length by simp];refine go ?_;exact⟨(i+1,aY++[gg],s5),⟨by simp only;omega,by simp only[List.length_append,List.length_cons,List.length_nil];omega,by simp only;omega,eK,E⟩,by simp only;omega,zX⟩
   ·have dc:=of_decide_eq_false K;rw[List.drop_of_length_le (by omega),fa] at E;have E:(Except.ok ((),{af with gone:=aY}):Except aT (Unit×ah))=aJ:=E;refine dO (AY 8 (dR:=d7 aY) rfl rfl) ?_;refine go ?_;exact fX _ ⟨(),{af with gone:=aY},E.symm,tL,lV,rfl,rfl⟩
 ·have aP:=of_decide_eq_true h1;rw[if_pos (by omega)] at E;refine go ?_;exact fX _ ⟨(),s3,E.symm,fe,cw,rfl,rfl⟩
theorem sH(g:List (Int×Int))(hg:g.length<=100000):aX prog 131 [d7 g] (.bg [fy eN,jQ ⟨0,false,1,-1,g⟩,dB true]):=by
 refine sP func131 ntmps131 λ w cl=>?_
 refine gA ((pq g hg).pure) ?_;refine d8 ?_
 rfl
theorem Ce(l:ag)(D:Int)(g:List (Int×Int))(log:List aD):eo prog 132 [] [dD l,u D,d7 g,gH log] [] (λ d U=>d=.ptr 11 0/\U=bZ l D log ⟨0,g,0,0,0⟩):=by
 refine sI func132 ntmps132 λ w cl own kf=>?_
 refine gS ?_;refine bA 0 ?_;refine bA 13 ?_;refine nl aB rfl rfl rfl rfl ?_;refine kl ?_;refine gS ?_;refine nl aB rfl rfl rfl rfl ?_;refine nl aB rfl rfl rfl rfl ?_;refine nl aB rfl rfl rfl rfl ?_;refine bn (zn aB rfl rfl rfl) rfl rfl rfl ?_;refine bA 11 ?_;refine nA 12 ?_;refine go ?_;refine im (bZ l D log ⟨0,g,0,0,0⟩) rfl rfl (by(repeat(first|exact trivial|refine⟨⟨rfl,rfl⟩,?_⟩))) trivial ?_;exact⟨rfl,rfl⟩
theorem yR{e:aA}{vs:List Value}(a:aT)(o:bf)(dn:Bool)(hI:fR (jg a (ot o) dn) e)(hv:DReps e vs [.ptr 22 0,.ptr 21 0,.ptr 23 0,.ptr 24 0]):
 CallsD prog 182 vs.toArray .returning e.w λ r u2 aI=>∃Y aq,r=.returned (.tuple #[])/\u2=.returning/\Y.w=aI/\fR aq Y/\Left [21,22,23,24] e Y/\aq=jg a (ot o) dn:=by
 refine wY (ae:=tb) func182 rfl ntmps182 rfl rfl rfl (by(repeat(first|exact trivial|refine⟨rfl,?_⟩))) (λ _ _=>rfl) (λ _=>rfl) rfl rfl .no (λ w cl own kf=>?_) hI hv;refine go ?_;refine bn (Gt underlying20 rfl rfl) rfl rfl rfl ?_;refine go ?_;refine jR (jg a (ot o) dn) rfl rfl (by(repeat(first|exact trivial|refine⟨⟨rfl,rfl⟩,?_⟩))) (by(repeat(first|exact trivial|refine⟨rfl,?_⟩))) rfl
theorem yS{e:aA}{vs:List Value}(a br:aT)(od:List G)(ho:od=[u 0,dB false,u 0,u 0,.p (.sl true 0 [])])(dn:Bool)(hI:fR (jg a od dn) e)(hv:DReps e vs [.ptr 22 0,.ptr 21 0,.ptr 23 0,.ptr 24 0]):
 CallsD prog 182 vs.toArray (.panicking [pe (iz br)]) e.w λ r u2 aI=>∃Y aq,r=.returned (.tuple #[])/\u2=.panicking [{v:=iz br,recovered:=true}]/\Y.w=aI/\fR aq Y/\Left [21,22,23,24] e Y/\aq=jg br od dn:=by
 subst ho;refine wY (ae:=tb) func182 rfl ntmps182 rfl rfl rfl (by(repeat(first|exact trivial|refine⟨rfl,?_⟩))) (λ _ _=>rfl) (λ _=>rfl) rfl rfl (.yes (iz br)) (λ w cl own kf=>?_) hI hv;refine go ?_;refine bn (Gu underlying20 rfl rfl) rfl rfl rfl ?_;refine go ?_;refine bn (EP aB rfl rfl rfl rfl) rfl rfl rfl ?_;refine go ?_;refine jR (jg br _ dn) rfl rfl (by(repeat(first|exact trivial|refine⟨⟨rfl,rfl⟩,?_⟩))) (by(repeat(first|exact trivial|refine⟨rfl,?_⟩))) rfl
theorem FM(l:ag)(R:ca l)(c:Int):aX prog 75 [dD l,u c] (u (jw l c)):=by
 have e1:=R.chan;have e2:=R.bo;refine sP func75 ntmps75 λ w cl=>?_
 refine gA (xj l.chan l.bo 2 c 0 e1 e2 (by omega) (by omega)) ?_;refine d8 ?_
 rfl
theorem Te(l:ag)(R:ca l)(c:Int):aX prog 76 [dD l,u c] (u (nL l c)):=by
 have e1:=R.chan;have e2:=R.bo;refine sP func76 ntmps76 λ w cl=>?_
 refine gA (xj l.chan l.bo 2 c 1 e1 e2 (by omega) (by omega)) ?_;refine d8 ?_
 rfl
def qG(a:Int)(n i:Nat):List Int:=(List.range (n-i)).map λ(j:Nat)=>a+i+j
theorem LN{a:Int}{n i:Nat}(h:i<n):qG a n i=(a+i)::qG a n (i+1):=by
 unfold qG;obtain⟨k,I⟩:∃k,n-i=k+1:=⟨n-i-1,by omega⟩;rw[I,show n-(i+1)=k by omega,List.range_succ_eq_map,List.map_cons,List.map_map]
 congr 1
 ·omega
 ·apply List.map_congr_left;intro j _;simp only[Function.comp];omega
theorem LO{a:Int}{n i:Nat}(h:n<=i):qG a n i=[]:=by unfold qG;rw[show n-i=0 by omega];rfl
set_option maxHeartbeats 4000000 in
theorem Wm(l:ag)(Z:ca l)(D:Int)(log:List aD)(s:ah)(n v:Int)(hn:n<9223372036854775808)(yx:0<=v)(Gm:v<4294967296)(hm:s.made<=log.length)(R:log.length<=1000000):fS 179 l D log s [.ptr 11 0,u n,u v] (tg l n v log s) (λ _=>.bg []):=by
 generalize E:tg l n v log s=aJ;unfold tg at E;refine sX func179 ntmps179 λ w cl own kf=>?_
 refine go ?_;refine lA (gB l Z D s n 0 (by omega) (by omega)) ?_;refine go ?_;refine xP (ii l D log s (aE l n 0) 0 hm R) ?_;rintro d U ⟨af,s1,bG,fM,cP,rfl,rfl⟩;rw[aw bG] at E;refine go ?_;refine lA (gB l Z D s1 n 1 (by omega) (by omega)) ?_;refine go ?_;refine xP (ii l D log s1 (aE l n 1) (v+2) cP R) ?_;rintro d U ⟨af,s2,bm,e7,cy,rfl,rfl⟩;rw[aw bm,show[2,3,4,5]=qG 2 4 0 by decide] at E;refine go ?_;refine bW (λ p:Nat×ah=>p.1<=4/\s.made<=p.2.made/\p.2.made<=log.length/\tf l n (qG 2 4 p.1) log p.2=aJ) (λ p=>⟨[(19,u p.1),(0,.ptr 11 0),(1,u n)],bZ l D log p.2,[]⟩) (λ p=>4-p.1) (0,s2) ⟨by simp only;omega,by simp only;omega,cy,E⟩ (zX) ?_;rintro⟨i,t⟩ ⟨X,cC,bB,E⟩;simp only at X cC bB E;refine(show aK _ _ _ _ ⟨[(19,u i),(0,.ptr 11 0),(1,u n)],bZ l D log t,[]⟩ from ?_);refine go ?_;refine cN (λ h1=>?_) (λ h1=>?_)<;>try rw[h1]
 ·have aP:=of_decide_eq_true h1;rw[LN (by omega),tf] at E;refine go ?_;refine lA (gB l Z D t n (2+(i:Int)) (by omega) (by omega)) ?_;refine go ?_;refine xP (ii l D log t (aE l n (2+(i:Int))) 0 bB R) ?_;rintro d U ⟨af,s3,bT,fe,cw,rfl,rfl⟩;have mb:tf l n (qG 2 4 (i+1)) log s3=aJ:=by rw[<-E];exact(aw (f:=λ _=>tf l n (qG 2 4 (i+1))) bT).symm
  refine go ?_;exact⟨(i+1,s3),⟨by simp only;omega,by simp only;omega,cw,mb⟩,by simp only;omega,zX⟩
 ·have aP:=of_decide_eq_false h1;rw[LO (by omega),tf] at E;refine go ?_;exact fX _ ⟨_,t,E.symm,cC,bB,rfl,rfl⟩
abbrev yZ(l:ag)(D:Int)(log:List aD)(tl v bX:Int)(s:ah):bE:=[(11,m9 l D s),(12,[.ptr 11 0]),(13,[gH log]),(14,[.ptr 11 0]),(15,[u tl]),(16,[u v]),(17,[u bX])]
def TX(l:ag)(D:Int)(log:List aD)(tl v:Int)(s:ah)(m:Except aT ((Option bf×Int)×ah)):G->bE->Prop:=λ d U=>∃r M,m=.ok (r,M)/\s.made<M.made/\M.made<=log.length/\M.gone=s.gone/\0<=r.2/\r.2<65536/\d=.bg [lz (r.1.getD j8),dB r.1.isSome]/\U=yZ l D log tl v r.2 M
def TY(l:ag)(D:Int)(log:List aD)(tl v:Int)(m:Except aT ((Option bf×Int)×ah)):Value->bE->Prop:=λ x U=>∃a M bX,m=.error a/\x=iz a/\U=yZ l D log tl v bX M
theorem v9{l:ag}{n:Int}:∀{k:Nat}{log:List aD}{s M:ah}{af:Unit},l9 l n k log s=.ok (af,M)->M.gone=s.gone
 |0,log,s,M,af,h=>by cases h;rfl
 |k+1,log,s,M,af,h=>by
  rw[l9] at h;cases h1:cj l.free log s with
  |error a=>rw[bl h1] at h;cases h
  |ok q=>
   obtain⟨fr,s1⟩:=q;rw[aw h1] at h;have g1:s1.gone=s.gone:=by rw[(fE h1).1]
   cases A:eH (aE l n 7) (ay fr).idx log s1 with
   |error a=>rw[bl A] at h;cases h
   |ok q=>
    obtain⟨lk,s2⟩:=q;rw[aw A] at h;have g2:s2.gone=s.gone:=by rw[(nK A).1];exact g1
    cases K:eZ l.free fr (cf (co (ay fr) n)) log s2 with
    |error a=>rw[bl K] at h;cases h
    |ok q=>
     obtain⟨ok,s3⟩:=q;rw[aw K] at h;have g3:s3.gone=s.gone:=by rw[(iZ K).1];exact g2
     split at h
     ·cases h;exact g3
     ·exact(v9 h).trans g3
theorem N7{l:ag}{n:Int}:∀{is:List Int}{log:List aD}{s M:ah}{af:Unit},tf l n is log s=.ok (af,M)->M.gone=s.gone
 |[],log,s,M,af,h=>by cases h;rfl
 |i::is,log,s,M,af,h=>by
  rw[tf] at h;cases A:eH (aE l n i) 0 log s with
  |error a=>rw[bl A] at h;cases h
  |ok q=>obtain⟨lk,s2⟩:=q;rw[aw A] at h;exact(N7 h).trans (by rw[(nK A).1])
theorem Wk{l:ag}{n v:Int}{log:List aD}{s M:ah}{af:Unit}(h:tg l n v log s=.ok (af,M)):M.gone=s.gone:=by
 rw[tg] at h;cases h1:eH (aE l n 0) 0 log s with
 |error a=>rw[bl h1] at h;cases h
 |ok q=>
  obtain⟨u1,s1⟩:=q;rw[aw h1] at h;cases A:eH (aE l n 1) (v+2) log s1 with
  |error a=>rw[bl A] at h;cases h
  |ok q=>obtain⟨u2,s2⟩:=q;rw[aw A] at h;rw[N7 h,(nK A).1,(nK h1).1]
theorem Ez{l:ag}:∀{k:Nat}{log:List aD}{s M:ah}{p:Int×Int×Bool},nM l k log s=.ok (p,M)->0<=p.1
 |0,log,s,M,p,h=>by cases h;simp
 |k+1,log,s,M,p,h=>by
  rw[nM] at h;cases h1:cj l.free log s with
  |error a=>rw[bl h1] at h;cases h
  |ok q=>
   obtain⟨fr,s1⟩:=q;rw[aw h1] at h;split at h
   ·rw[aw eT] at h;cases h;simp
   ·cases A:cj (aE l (ay fr).idx 7) log s1 with
    |error a=>rw[bl A] at h;cases h
    |ok q=>
     obtain⟨lk,s2⟩:=q;rw[aw A] at h;cases K:eZ l.free fr (cf (co (ay fr) lk)) log s2 with
     |error a=>rw[bl K] at h;cases h
     |ok q=>
      obtain⟨ok,s3⟩:=q;rw[aw K] at h;split at h
      ·rw[aw eT] at h;cases h4:cj l.era log s3 with
       |error a=>rw[bl h4] at h;cases h
       |ok q=>
        obtain⟨bi,s4⟩:=q;rw[aw h4] at h;cases h5:eH (aE l (ay fr).idx 6) bi log s4 with
        |error a=>rw[bl h5] at h;cases h
        |ok q=>obtain⟨af,s5⟩:=q;rw[aw h5] at h;cases h;exact(lj fr).1
      ·exact Ez h
set_option maxHeartbeats 8000000 in
theorem ac8(l:ag)(Z:ca l)(D:Int)(log:List aD)(s:ah)(tl v bX:Int)(yx:0<=v)(Gm:v<4294967296)(ml:0<=bX)(ky:bX<65536)(hm:s.made<=log.length)(R:log.length<=1000000):
 fI prog 169 [11,12,13,14,15,16,17] [.ptr 14 0,.ptr 15 0,.ptr 16 0,.ptr 17 0] (yZ l D log tl v bX s) (TX l D log tl v s (xu l D tl v bX log s)) (TY l D log tl v (xu l D tl v bX log s)):=by
 generalize E:xu l D tl v bX log s=aJ;unfold xu at E;refine sX func169 ntmps169 λ w cl own kf=>?_
 refine go ?_;refine xX (Ah l Z D log s tl hm R) ?_ ?_
 ·rintro v U ⟨a,M,h,rfl,rfl⟩;refine gP ?_;exact fP _ ⟨a,M,bX,by rw[<-E];exact bl h,rfl,rfl⟩
 rintro d U ⟨p,s1,bG,fM,cP,rfl,rfl⟩;rw[aw bG] at E;have ip:s1.gone=s.gone:=Ai bG;obtain⟨bM,at_⟩:=p;simp only at E;have bO:=lj bM;have dj:=sE bM;refine gA (kB bM) ?_;generalize hF:(λ o:Option Int=>match o with
  |some a=>if bX=0 then(ge l D).bind λ _=>Pm.pure (some (⟨0,true,0,a,[]⟩:bf),bX) else(mM l bX).bind λ _=>(ge l D).bind λ _=>Pm.pure (some ⟨0,true,0,a,[]⟩,bX)
  |none=>(cj (aE l (ay bM).idx 0)).bind λ next=>if next=0 then(if bX=0 then(pT l).bind λ t=>if t.2.2=true then(tg l t.1 v).bind λ _=>vJ l D tl bM t.1 else(ge l D).bind λ _=>Pm.pure (some ⟨0,false,8,t.2.1,[]⟩,bX) else vJ l D tl bM bX)
   else(eZ tl bM (cf (co (ay bM) next))).bind λ _=>Pm.pure (none,bX))=Fk at E
 rw[show iG=qG 1 5 0 by decide] at E;refine bW (λ p:Nat×ah=>p.1<=5/\s.made<=p.2.made/\p.2.made<=log.length/\p.2.gone=s.gone/\(wS l (ay bM).idx v (qG 1 5 p.1)).bind Fk log p.2=aJ) (λ p=>⟨[(25,u p.1),(0,.ptr 14 0),(1,.ptr 15 0),(2,.ptr 16 0),(3,.ptr 17 0),(4,.ptr 7 0),(6,u bM),(8,.ptr 8 0)],(8,[u (ay bM).idx,dB (ay bM).mark,u (ay bM).mG])::(7,[u 0,dB false,u 0,u 0,.p (.sl true 0 [])])::yZ l D log tl v bX p.2,[]⟩) (λ p=>5-p.1) (0,s1) ⟨by simp only;omega,by simp only;omega,cP,ip,E⟩ (zX) ?_;rintro⟨i,t⟩ ⟨X,cC,bB,eX,E⟩;simp only at X cC bB eX E;refine(show aK _ _ _ _ ⟨[(25,u i),(0,.ptr 14 0),(1,.ptr 15 0),(2,.ptr 16 0),(3,.ptr 17 0),(4,.ptr 7 0),(6,u bM),(8,.ptr 8 0)],(8,[u (ay bM).idx,dB (ay bM).mark,u (ay bM).mG])::(7,[u 0,dB false,u 0,u 0,.p (.sl true 0 [])])::yZ l D log tl v bX t,[]⟩ from ?_);refine go ?_;refine cN (λ h1=>?_) (λ h1=>?_)<;>try rw[h1]
 ·have aP:=of_decide_eq_true h1;rw[LN (by omega),wS,bind_assoc] at E;refine go ?_;refine lA (gB l Z D t (ay bM).idx (1+(i:Int)) (by omega) (by omega)) ?_;refine go ?_;refine xX (eh l D log t (aE l (ay bM).idx (1+(i:Int))) bB R) ?_ ?_
  ·rintro v U ⟨a,M,h,rfl,rfl⟩;refine gP ?_;exact fP _ ⟨a,M,bX,by rw[<-E];exact bl h,rfl,rfl⟩
  rintro d U ⟨x,s2,bm,e7,cy,rfl,rfl⟩;rw[aw bm] at E;have de:s2.gone=s.gone:=by rw[(fE bm).1];exact eX
  have iv:=iw bm;refine go ?_;generalize A:decide (x=0)=cc;cases cc
  ·rw[if_neg (of_decide_eq_false A)] at E;refine go ?_;exact⟨(i+1,s2),⟨by simp only;omega,by simp only;omega,cy,de,E⟩,by simp only;omega,zX⟩
  ·rw[if_pos (of_decide_eq_true A),bind_assoc] at E;refine go ?_;refine xX (i3 l D log s2 (aE l (ay bM).idx (1+(i:Int))) 0 (v+2) cy R) ?_ ?_
   ·rintro v U ⟨a,M,h,rfl,rfl⟩;refine gP ?_;exact fP _ ⟨a,M,bX,by rw[<-E];exact bl h,rfl,rfl⟩
   rintro d U ⟨ig,s3,bT,fe,cw,rfl,rfl⟩;rw[aw bT] at E;have gJ:=lr bT;have fV:s3.gone=s.gone:=by rw[(iZ bT).1];exact de
   refine go ?_;cases ig
   ·rw[if_neg (by decide)] at E;refine go ?_;exact⟨(i+1,s3),⟨by simp only;omega,by simp only;omega,cw,fV,E⟩,by simp only;omega,zX⟩
   ·rw[if_pos rfl,bind_assoc,aw eT] at E;have E:Fk (some ((s3.made:Int)-1)) log s3=aJ:=E;rw[<-hF] at E;simp only at E;refine go ?_;refine lA (iV l D s3 (by omega)) ?_;refine go ?_;generalize K:decide (bX=0)=cc;cases cc
    ·rw[if_neg (of_decide_eq_false K)] at E;refine go ?_;refine xX (wa l Z D log s3 bX (by omega) cw R) ?_ ?_
     ·rintro v U ⟨a,M,h,rfl,rfl⟩;refine gP ?_;exact fP _ ⟨a,M,bX,by rw[<-E];exact bl h,rfl,rfl⟩
     rintro d U ⟨af,s4,cB,jb,ez,rfl,rfl⟩;rw[aw cB] at E;have iq:s4.gone=s.gone:=(v9 cB).trans fV;refine go ?_;refine xX (jP l Z D log s4 ez R) ?_ ?_
     ·rintro v U ⟨a,M,h,rfl,rfl⟩;refine gP ?_;exact fP _ ⟨a,M,bX,by rw[<-E];exact bl h,rfl,rfl⟩
     rintro d U ⟨af,s5,dt,kS,eK,rfl,rfl⟩;rw[aw dt] at E;have jS:s5.gone=s.gone:=(jt dt).trans iq;refine go ?_;exact fX _ ⟨_,s5,E.symm,by omega,eK,jS,ml,ky,rfl,rfl⟩
    ·rw[if_pos (of_decide_eq_true K)] at E;refine go ?_;refine xX (jP l Z D log s3 cw R) ?_ ?_
     ·rintro v U ⟨a,M,h,rfl,rfl⟩;refine gP ?_;exact fP _ ⟨a,M,bX,by rw[<-E];exact bl h,rfl,rfl⟩
     rintro d U ⟨af,s5,dt,kS,eK,rfl,rfl⟩;rw[aw dt] at E;have jS:s5.gone=s.gone:=(jt dt).trans fV;refine go ?_;exact fX _ ⟨_,s5,E.symm,by omega,eK,jS,ml,ky,rfl,rfl⟩
 ·have aP:=of_decide_eq_false h1;rw[LO (by omega),wS] at E;have E:Fk none log t=aJ:=E;rw[<-hF] at E;simp only at E;refine go ?_;refine gW 5 [] ?_;refine lQ (gB l Z D t (ay bM).idx 0 (by omega) (by omega)) ?_;refine bh ?_;refine xX (eh l D log t (aE l (ay bM).idx 0) bB R) ?_ ?_
  ·rintro v U ⟨a,M,h,rfl,rfl⟩;refine gP ?_;exact fP _ ⟨a,M,bX,by rw[<-E];exact bl h,rfl,rfl⟩
  rintro d U ⟨next,s2,bm,e7,cy,rfl,rfl⟩;rw[aw bm] at E;have de:s2.gone=s.gone:=by rw[(fE bm).1];exact eX
  have iv:=iw bm;refine go ?_;generalize A:decide (next=0)=cc;cases cc
  ·rw[if_neg (of_decide_eq_false A)] at E;refine go ?_;refine dW 7 [] ?_;refine gQ (pU (ay bM) next dj.1 dj.2) ?_;refine cQ (lZ (co (ay bM) next)) ?_;refine bh ?_;refine xX (i3 l D log s2 tl bM (cf (co (ay bM) next)) cy R) ?_ ?_
   ·rintro v U ⟨a,M,h,rfl,rfl⟩;refine gP ?_;exact fP _ ⟨a,M,bX,by rw[<-E];exact bl h,rfl,rfl⟩
   rintro d U ⟨ig,s3,bT,fe,cw,rfl,rfl⟩;rw[aw bT] at E;have fV:s3.gone=s.gone:=by rw[(iZ bT).1];exact de
   refine go ?_;exact fX _ ⟨_,s3,E.symm,by omega,cw,fV,ml,ky,rfl,rfl⟩
  ·rw[if_pos (of_decide_eq_true A)] at E;refine go ?_;generalize K:decide (bX=0)=cc;cases cc
   ·rw[if_neg (of_decide_eq_false K),vJ] at E;refine go ?_;refine gW 6 [] ?_;refine lQ (gB l Z D s2 (ay bM).idx 0 (by omega) (by omega)) ?_;refine bh ?_;refine xX (i3 l D log s2 (aE l (ay bM).idx 0) 0 bX cy R) ?_ ?_
    ·rintro v U ⟨a,M,h,rfl,rfl⟩;refine gP ?_;exact fP _ ⟨a,M,bX,by rw[<-E];exact bl h,rfl,rfl⟩
    rintro d U ⟨ig,s3,bT,fe,cw,rfl,rfl⟩;rw[aw bT] at E;have fV:s3.gone=s.gone:=by rw[(iZ bT).1];exact de
    have gJ:=lr bT;refine go ?_;cases ig
    ·rw[if_neg (by decide)] at E;refine go ?_;exact fX _ ⟨_,s3,E.symm,by omega,cw,fV,ml,ky,rfl,rfl⟩
    ·rw[if_pos rfl,aw eT] at E;refine go ?_;refine lA (iV l D s3 (by omega)) ?_;refine go ?_;refine dW 7 [] ?_;refine gQ (pU (ay bM) bX dj.1 dj.2) ?_;refine cQ (lZ (co (ay bM) bX)) ?_;refine bh ?_;refine xX (i3 l D log s3 tl bM (cf (co (ay bM) bX)) cw R) ?_ ?_
     ·rintro v U ⟨a,M,h,rfl,rfl⟩;refine gP ?_;exact fP _ ⟨a,M,bX,by rw[<-E];exact bl h,rfl,rfl⟩
     rintro d U ⟨Li,s4,cB,jb,ez,rfl,rfl⟩;rw[aw cB] at E;have iq:s4.gone=s.gone:=by rw[(iZ cB).1];exact fV
     refine go ?_;refine xX (jP l Z D log s4 ez R) ?_ ?_
     ·rintro v U ⟨a,M,h,rfl,rfl⟩;refine gP ?_;exact fP _ ⟨a,M,bX,by rw[<-E];exact bl h,rfl,rfl⟩
     rintro d U ⟨af,s5,dt,kS,eK,rfl,rfl⟩;rw[aw dt] at E;have jS:s5.gone=s.gone:=(jt dt).trans iq;refine go ?_;exact fX _ ⟨_,s5,E.symm,by omega,eK,jS,ml,ky,rfl,rfl⟩
   ·rw[if_pos (of_decide_eq_true K)] at E;refine go ?_;refine xX (EB l Z D log s2 cy R) ?_ ?_
    ·rintro v U ⟨a,M,h,rfl,rfl⟩;refine gP ?_;exact fP _ ⟨a,M,bX,by rw[<-E];exact bl h,rfl,rfl⟩
    rintro d U ⟨p,s3,bT,fe,cw,rfl,rfl⟩;rw[aw bT] at E;have wz:=Ey bT;have fV:s3.gone=s.gone:=wz.2.trans de;have Ds:=Ez bT;obtain⟨n,UG,ig⟩:=p;simp only at E wz Ds;refine go ?_;cases ig
    ·rw[if_neg (by decide)] at E;refine go ?_;refine xX (jP l Z D log s3 cw R) ?_ ?_
     ·rintro v U ⟨a,M,h,rfl,rfl⟩;refine gP ?_;exact fP _ ⟨a,M,bX,by rw[<-E];exact bl h,rfl,rfl⟩
     rintro d U ⟨af,s4,cB,jb,ez,rfl,rfl⟩;rw[aw cB] at E;have iq:s4.gone=s.gone:=(jt cB).trans fV;refine go ?_;exact fX _ ⟨_,s4,E.symm,by omega,ez,iq,ml,ky,rfl,rfl⟩
    ·rw[if_pos rfl] at E;refine go ?_;refine xX (Wm l Z D log s3 n v (by omega) yx Gm cw R) ?_ ?_
     ·rintro v U ⟨a,M,h,rfl,rfl⟩;refine gP ?_;exact fP _ ⟨a,M,n,by rw[<-E];exact bl h,rfl,rfl⟩
     rintro d U ⟨af,s4,cB,jb,ez,rfl,rfl⟩;rw[aw cB] at E;have iq:s4.gone=s.gone:=(Wk cB).trans fV;rw[vJ] at E;refine go ?_;refine gW 6 [] ?_;refine lQ (gB l Z D s4 (ay bM).idx 0 (by omega) (by omega)) ?_;refine bh ?_;refine xX (i3 l D log s4 (aE l (ay bM).idx 0) 0 n ez R) ?_ ?_
     ·rintro v U ⟨a,M,h,rfl,rfl⟩;refine gP ?_;exact fP _ ⟨a,M,n,by rw[<-E];exact bl h,rfl,rfl⟩
     rintro d U ⟨ig,s5,dt,kS,eK,rfl,rfl⟩;rw[aw dt] at E;have jS:s5.gone=s.gone:=by rw[(iZ dt).1];exact iq
     have Km:=lr dt;refine go ?_;cases ig
     ·rw[if_neg (by decide)] at E;refine go ?_;exact fX _ ⟨_,s5,E.symm,by omega,eK,jS,Ds,wz.1,rfl,rfl⟩
     ·rw[if_pos rfl,aw eT] at E;refine go ?_;refine lA (iV l D s5 (by omega)) ?_;refine go ?_;refine dW 7 [] ?_;refine gQ (pU (ay bM) n dj.1 dj.2) ?_;refine cQ (lZ (co (ay bM) n)) ?_;refine bh ?_;refine xX (i3 l D log s5 tl bM (cf (co (ay bM) n)) eK R) ?_ ?_
      ·rintro v U ⟨a,M,h,rfl,rfl⟩;refine gP ?_;exact fP _ ⟨a,M,n,by rw[<-E];exact bl h,rfl,rfl⟩
      rintro d U ⟨Li,s6,jX,uG,mU,rfl,rfl⟩;rw[aw jX] at E;have sh:s6.gone=s.gone:=by rw[(iZ jX).1];exact jS
      refine go ?_;refine xX (jP l Z D log s6 mU R) ?_ ?_
      ·rintro v U ⟨a,M,h,rfl,rfl⟩;refine gP ?_;exact fP _ ⟨a,M,n,by rw[<-E];exact bl h,rfl,rfl⟩
      rintro d U ⟨af,s7,oW,Dc,uH,rfl,rfl⟩;rw[aw oW] at E;have XV:s7.gone=s.gone:=(jt oW).trans sh;refine go ?_;exact fX _ ⟨_,s7,E.symm,by omega,uH,XV,Ds,wz.1,rfl,rfl⟩
theorem y1{l:ag}{aM:List Int}:∀{gs aY:List (Int×Int)}{log:List aD}{s M:ah}{r:List (Int×Int)},fa l aM gs aY log s=.ok (r,M)->eu gs->eu aY->eu r
 |[],aY,log,s,M,r,h,_,A=>by cases h;exact A
 |g::gs,aY,log,s,M,r,h,h1,A=>by
  have aP:eu gs:=λ p hp=>h1 p (List.mem_cons_of_mem _ hp)
  rw[fa] at h;cases k1:cj (aE l g.1 6) log s with
  |error a=>rw[bl k1] at h;cases h
  |ok q=>
   obtain⟨b,s1⟩:=q;rw[aw k1] at h;split at h
   ·exact y1 h aP (λ p hp=>by
     rw[List.mem_append,List.mem_singleton] at hp;rcases hp with hp|rfl
     ·exact A p hp
     ·exact h1 _ (by simp))
   ·cases k2:mM l g.1 log s1 with
    |error a=>rw[bl k2] at h;cases h
    |ok q=>obtain⟨af,s2⟩:=q;rw[aw k2] at h;exact y1 h aP A
theorem Ja{g:List (Int×Int)}{n e:Int}(h:eu g)(hn:n<9223372036854775808):eu (g++[(n,e)]):=by
 intro p hp;rw[List.mem_append,List.mem_singleton] at hp;rcases hp with hp|rfl
 ·exact h p hp
 ·exact hn
theorem Ek{l:ag}{n:Int}{log:List aD}{s M:ah}{af:Unit}(h:jF l n log s=.ok (af,M))(hg:eu s.gone)(hn:n<9223372036854775808):eu M.gone:=by
 unfold jF at h;cases h1:cj l.era log s with
 |error a=>rw[bl h1] at h;cases h
 |ok q=>
  obtain⟨er,s1⟩:=q;rw[aw h1] at h;have g1:s1.gone=s.gone:=by rw[(fE h1).1]
  cases A:fk ⟨4,l.era,0,1⟩ log s1 with
  |error a=>rw[bl A] at h;cases h
  |ok q=>
   obtain⟨r,s2⟩:=q;rw[aw A] at h;have g2:s2.gone=s.gone:=by rw[(un A).1];exact g1
   have hq:eu (s2.gone++[(n,er)]):=by rw[g2];exact Ja hg hn
   split at h
   ·cases h;exact hq
   ·unfold pR at h;cases K:j5 [] (jE l 0 l.az.toNat) log {s2 with gone:=s2.gone++[(n,er)]} with
    |error a=>rw[bl K] at h;cases h
    |ok q=>
     obtain⟨aM,s3⟩:=q;rw[aw K] at h;cases h4:fa l aM (s2.gone++[(n,er)]) [] log s3 with
     |error a=>rw[bl h4] at h;cases h
     |ok q=>obtain⟨aY,s4⟩:=q;rw[aw h4] at h;unfold ji at h;cases h;exact y1 h4 hq (λ p hp=>by simp at hp)
abbrev yV(l:ag)(D:Int)(log:List aD)(F tl:Int)(s:ah):bE:=[(11,m9 l D s),(12,[.ptr 11 0]),(13,[gH log]),(14,[.ptr 11 0]),(15,[u F]),(16,[u tl])]
def TU(l:ag)(D:Int)(log:List aD)(F tl:Int)(s:ah)(m:Except aT (Option bf×ah)):G->bE->Prop:=λ d U=>∃r M,m=.ok (r,M)/\s.made<M.made/\M.made<=log.length/\eu M.gone/\M.gone.length+s.made<=s.gone.length+M.made/\d=.bg [lz (r.getD j8),dB r.isSome]/\U=yV l D log F tl M
def TV(l:ag)(D:Int)(log:List aD)(F tl:Int)(m:Except aT (Option bf×ah)):Value->bE->Prop:=λ x U=>∃a M,m=.error a/\x=iz a/\U=yV l D log F tl M
set_option maxHeartbeats 8000000 in
theorem acy(l:ag)(Z:ca l)(D:Int)(log:List aD)(s:ah)(F tl:Int)(fb:eu s.gone)(dp:s.gone.length<=10000)(hm:s.made<=log.length)(R:log.length<=1000000):
 fI prog 180 [11,12,13,14,15,16] [.ptr 14 0,.ptr 15 0,.ptr 16 0] (yV l D log F tl s) (TU l D log F tl s (sV l D F tl log s)) (TV l D log F tl (sV l D F tl log s)):=by
 generalize E:sV l D F tl log s=aJ;unfold sV at E;refine sX func180 ntmps180 λ w cl own kf=>?_
 refine go ?_;refine xP (Ah l Z D log s F hm R) ?_;rintro d U ⟨p,s1,bG,fM,cP,rfl,rfl⟩;rw[aw bG] at E;have ip:s1.gone=s.gone:=Ai bG;obtain⟨bM,at_⟩:=p;simp only at E;have bO:=lj bM;have dj:=sE bM;refine gA (kB bM) ?_;generalize hF:(λ o:Option bf=>match o with
  |some o=>(ge l D).bind λ _=>Pm.pure (some o)
  |none=>(cj (aE l (ay bM).idx 0)).bind λ next=>if next=0 then j4.bind λ a=>(ge l D).bind λ _=>Pm.pure (some (⟨0,false,0,a,[]⟩:bf))
   else(cj tl).bind λ en=>if(ay en).idx=(ay bM).idx then(eZ tl en (cf (co (ay en) next))).bind λ _=>vH l D F bM next else vH l D F bM next)=Fk at E
 rw[show iG=qG 1 5 0 by decide] at E;refine bW (λ p:Nat×ah=>p.1<=5/\s.made<=p.2.made/\p.2.made<=log.length/\p.2.gone=s.gone/\(wR l (ay bM).idx (qG 1 5 p.1)).bind Fk log p.2=aJ) (λ p=>⟨[(24,u p.1),(0,.ptr 14 0),(1,.ptr 15 0),(2,.ptr 16 0),(3,.ptr 6 0),(5,u bM),(7,.ptr 7 0)],(7,[u (ay bM).idx,dB (ay bM).mark,u (ay bM).mG])::(6,[u 0,dB false,u 0,u 0,.p (.sl true 0 [])])::yV l D log F tl p.2,[]⟩) (λ p=>5-p.1) (0,s1) ⟨by simp only;omega,by simp only;omega,cP,ip,E⟩ (zX) ?_;rintro⟨i,t⟩ ⟨X,cC,bB,eX,E⟩;simp only at X cC bB eX E;refine(show aK _ _ _ _ ⟨[(24,u i),(0,.ptr 14 0),(1,.ptr 15 0),(2,.ptr 16 0),(3,.ptr 6 0),(5,u bM),(7,.ptr 7 0)],(7,[u (ay bM).idx,dB (ay bM).mark,u (ay bM).mG])::(6,[u 0,dB false,u 0,u 0,.p (.sl true 0 [])])::yV l D log F tl t,[]⟩ from ?_);refine go ?_;refine cN (λ h1=>?_) (λ h1=>?_)<;>try rw[h1]
 ·have aP:=of_decide_eq_true h1;rw[LN (by omega),wR,bind_assoc] at E;refine go ?_;refine lA (gB l Z D t (ay bM).idx (1+(i:Int)) (by omega) (by omega)) ?_;refine go ?_;refine xP (eh l D log t (aE l (ay bM).idx (1+(i:Int))) bB R) ?_;rintro d U ⟨x,s2,bm,e7,cy,rfl,rfl⟩;rw[aw bm,bind_assoc,aw eT] at E;have iv:=iw bm;have de:s2.gone=s.gone:=by rw[(fE bm).1];exact eX
  refine go ?_;refine lA (iV l D s2 (by omega)) ?_;refine go ?_;generalize A:decide (x=0)=cc;cases cc
  ·rw[if_neg (of_decide_eq_false A)] at E;refine go ?_;generalize K:decide (x=1)=cc;cases cc
   ·rw[if_neg (of_decide_eq_false K),bind_assoc] at E;refine go ?_;refine xP (i3 l D log s2 (aE l (ay bM).idx (1+(i:Int))) x 1 cy R) ?_;rintro d U ⟨ig,s3,bT,fe,cw,rfl,rfl⟩;rw[aw bT] at E;have gJ:=lr bT;have fV:s3.gone=s.gone:=by rw[(iZ bT).1];exact de
    refine go ?_;cases ig
    ·rw[if_neg (by decide)] at E;refine go ?_;exact⟨(i+1,s3),⟨by simp only;omega,by simp only;omega,cw,fV,E⟩,by simp only;omega,zX⟩
    ·rw[if_pos rfl,bind_assoc,aw eT] at E;have E:Fk (some ⟨lm (x-2),true,0,(s3.made:Int)-1,[]⟩) log s3=aJ:=E;rw[<-hF] at E;simp only at E;refine go ?_;refine lA (iV l D s3 (by omega)) ?_;refine go ?_;refine xP (jP l Z D log s3 cw R) ?_;rintro d U ⟨af,s5,dt,kS,eK,rfl,rfl⟩;rw[aw dt] at E;have jS:s5.gone=s.gone:=(jt dt).trans fV;refine go ?_;rw[wrap64];refine go ?_;exact fX _ ⟨_,s5,E.symm,by omega,eK,by rw[jS];exact fb,by rw[jS];omega,rfl,rfl⟩
   ·rw[if_pos (of_decide_eq_true K)] at E;refine go ?_;exact⟨(i+1,s2),⟨by simp only;omega,by simp only;omega,cy,de,E⟩,by simp only;omega,zX⟩
  ·rw[if_pos (of_decide_eq_true A)] at E;have E:Fk (some ⟨0,false,0,(s2.made:Int)-1,[]⟩) log s2=aJ:=E;rw[<-hF] at E;simp only at E;refine go ?_;refine xP (jP l Z D log s2 cy R) ?_;rintro d U ⟨af,s5,dt,kS,eK,rfl,rfl⟩;rw[aw dt] at E;have jS:s5.gone=s.gone:=(jt dt).trans de;refine go ?_;exact fX _ ⟨_,s5,E.symm,by omega,eK,by rw[jS];exact fb,by rw[jS];omega,rfl,rfl⟩
 ·have aP:=of_decide_eq_false h1;rw[LO (by omega),wR] at E;have E:Fk none log t=aJ:=E;rw[<-hF] at E;simp only at E;refine go ?_;refine gW 5 [] ?_;refine lQ (gB l Z D t (ay bM).idx 0 (by omega) (by omega)) ?_;refine bh ?_;refine xP (eh l D log t (aE l (ay bM).idx 0) bB R) ?_;rintro d U ⟨next,s2,bm,e7,cy,rfl,rfl⟩;rw[aw bm] at E;have iv:=iw bm;have de:s2.gone=s.gone:=by rw[(fE bm).1];exact eX
  refine go ?_;generalize A:decide (next=0)=cc;cases cc
  ·rw[if_neg (of_decide_eq_false A)] at E;refine go ?_;refine xP (eh l D log s2 tl cy R) ?_;rintro d U ⟨en,s3,bT,fe,cw,rfl,rfl⟩;rw[aw bT] at E;have fV:s3.gone=s.gone:=by rw[(fE bT).1];exact de
   have Gq:=sE en;refine gA (kB en) ?_;generalize K:decide ((ay en).idx=(ay bM).idx)=cc;cases cc
   ·rw[if_neg (of_decide_eq_false K)] at E;refine go ?_;rw[vH] at E;refine dW 7 [] ?_;refine gQ (pU (ay bM) next dj.1 dj.2) ?_;refine cQ (lZ (co (ay bM) next)) ?_;refine bh ?_;refine xP (i3 l D log s3 F bM (cf (co (ay bM) next)) cw R) ?_;rintro d U ⟨ig,s5,dt,kS,eK,rfl,rfl⟩;rw[aw dt] at E;have jS:s5.gone=s.gone:=by rw[(iZ dt).1];exact fV
    have Km:=lr dt;refine go ?_;cases ig
    ·rw[if_neg (by decide)] at E;refine go ?_;exact fX _ ⟨_,s5,E.symm,by omega,eK,by rw[jS];exact fb,by rw[jS];omega,rfl,rfl⟩
    ·rw[if_pos rfl] at E;refine go ?_;refine xP (jP l Z D log s5 eK R) ?_;rintro d U ⟨af,s6,jX,uG,mU,rfl,rfl⟩;rw[aw jX] at E;have sh:s6.gone=s.gone:=(jt jX).trans jS;refine go ?_;refine xP (yW l Z D log s6 (ay bM).idx (by omega) (by rw[sh];exact fb) (by rw[sh];exact dp) mU R) ?_;rintro d U ⟨af,s7,oW,Dc,uH,rfl,rfl⟩;rw[aw oW] at E;have jc:=Ej oW;have mY:=Ek oW (by rw[sh];exact fb) (by omega);rw[sh] at jc;refine go ?_;exact fX _ ⟨_,s7,E.symm,by omega,uH,mY,by omega,rfl,rfl⟩
   ·rw[if_pos (of_decide_eq_true K)] at E;refine go ?_;refine dW 7 [] ?_;refine gQ (pU (ay en) next Gq.1 Gq.2) ?_;refine cQ (lZ (co (ay en) next)) ?_;refine bh ?_;refine xP (i3 l D log s3 tl en (cf (co (ay en) next)) cw R) ?_;rintro d U ⟨RA,s4,cB,jb,ez,rfl,rfl⟩;rw[aw cB] at E;have iq:s4.gone=s.gone:=by rw[(iZ cB).1];exact fV
    have Za:=lr cB;refine go ?_;rw[vH] at E;refine dW 7 [] ?_;refine gQ (pU (ay bM) next dj.1 dj.2) ?_;refine cQ (lZ (co (ay bM) next)) ?_;refine bh ?_;refine xP (i3 l D log s4 F bM (cf (co (ay bM) next)) ez R) ?_;rintro d U ⟨ig,s5,dt,kS,eK,rfl,rfl⟩;rw[aw dt] at E;have jS:s5.gone=s.gone:=by rw[(iZ dt).1];exact iq
    have Km:=lr dt;refine go ?_;cases ig
    ·rw[if_neg (by decide)] at E;refine go ?_;exact fX _ ⟨_,s5,E.symm,by omega,eK,by rw[jS];exact fb,by rw[jS];omega,rfl,rfl⟩
    ·rw[if_pos rfl] at E;refine go ?_;refine xP (jP l Z D log s5 eK R) ?_;rintro d U ⟨af,s6,jX,uG,mU,rfl,rfl⟩;rw[aw jX] at E;have sh:s6.gone=s.gone:=(jt jX).trans jS;refine go ?_;refine xP (yW l Z D log s6 (ay bM).idx (by omega) (by rw[sh];exact fb) (by rw[sh];exact dp) mU R) ?_;rintro d U ⟨af,s7,oW,Dc,uH,rfl,rfl⟩;rw[aw oW] at E;have jc:=Ej oW;have mY:=Ek oW (by rw[sh];exact fb) (by omega);rw[sh] at jc;refine go ?_;exact fX _ ⟨_,s7,E.symm,by omega,uH,mY,by omega,rfl,rfl⟩
  ·rw[if_pos (of_decide_eq_true A),aw eT] at E;refine go ?_;refine lA (iV l D s2 (by omega)) ?_;refine go ?_;refine xP (jP l Z D log s2 cy R) ?_;rintro d U ⟨af,s5,dt,kS,eK,rfl,rfl⟩;rw[aw dt] at E;have jS:s5.gone=s.gone:=(jt dt).trans de;refine go ?_;exact fX _ ⟨_,s5,E.symm,by omega,eK,by rw[jS];exact fb,by rw[jS];omega,rfl,rfl⟩
abbrev Sz:G:=.fn (.func 169) [] [.ptr 14 0,.ptr 15 0,.ptr 16 0,.ptr 17 0]
abbrev Si:G:=.fn (.func 180) [] [.ptr 14 0,.ptr 15 0,.ptr 16 0]
abbrev w9(l:ag)(D:Int)(log:List aD)(tl v bX:Int)(s:ah):bE:=[(11,m9 l D s),(12,[.ptr 11 0]),(13,[gH log]),(14,[.ptr 11 0]),(15,[u tl]),(16,[u v]),(17,[u bX]),(18,[Sz])]
abbrev wX(l:ag)(D:Int)(log:List aD)(F tl:Int)(s:ah):bE:=[(11,m9 l D s),(12,[.ptr 11 0]),(13,[gH log]),(14,[.ptr 11 0]),(15,[u F]),(16,[u tl]),(18,[Si])]
theorem ada(l:ag)(D:Int)(log:List aD)(s:ah)(tl v:Int):eo prog 133 [11,12,13] [.ptr 11 0,u tl,u v] (bZ l D log s) (λ d U=>d=Sz/\U=yZ l D log tl v 0 s):=by
 refine sI func133 ntmps133 λ w cl own kf=>?_
 refine gS ?_;refine bA 14 ?_;refine bA 15 ?_;refine bA 16 ?_;refine nl aB rfl rfl rfl rfl ?_;refine kl ?_;refine gS ?_;refine nA 17 ?_;refine go ?_;refine im (yZ l D log tl v 0 s) rfl rfl (by(repeat(first|exact trivial|refine⟨⟨rfl,rfl⟩,?_⟩))) (by(repeat(first|exact trivial|refine⟨rfl,?_⟩))) ?_;exact⟨rfl,rfl⟩
theorem acx(l:ag)(D:Int)(log:List aD)(s:ah)(F tl:Int):eo prog 134 [11,12,13] [.ptr 11 0,u F,u tl] (bZ l D log s) (λ d U=>d=Si/\U=yV l D log F tl s):=by
 refine sI func134 ntmps134 λ w cl own kf=>?_
 refine gS ?_;refine bA 14 ?_;refine bA 15 ?_;refine bA 16 ?_;refine nl aB rfl rfl rfl rfl ?_;refine kl ?_;refine gS ?_;refine go ?_;refine im (yV l D log F tl s) rfl rfl (by(repeat(first|exact trivial|refine⟨⟨rfl,rfl⟩,?_⟩))) (by(repeat(first|exact trivial|refine⟨rfl,?_⟩))) ?_;exact⟨rfl,rfl⟩
def ML(l:ag)(D:Int)(log:List aD)(tl v:Int)(s:ah)(m:Except aT (bf×ah)):G->bE->Prop:=λ d U=>∃x M bX,m=.ok (x,M)/\M.gone=s.gone/\d=lz x/\U=w9 l D log tl v bX M
def MM(l:ag)(D:Int)(log:List aD)(tl v:Int)(m:Except aT (bf×ah)):Value->bE->Prop:=λ y U=>∃a M bX,m=.error a/\y=iz a/\U=w9 l D log tl v bX M
set_option maxHeartbeats 4000000 in
theorem aaO(l:ag)(Z:ca l)(D:Int)(log:List aD)(s:ah)(tl v:Int)(yx:0<=v)(Gm:v<4294967296)(hm:s.made<=log.length)(R:log.length<=1000000):
 fI prog 136 [11,12,13,14,15,16,17,18] [.ptr 18 0] (w9 l D log tl v 0 s) (ML l D log tl v s (vo l D tl v log s)) (MM l D log tl v (vo l D tl v log s)):=by
 generalize E:vo l D tl v log s=aJ;unfold vo at E;refine sX func136 ntmps136 λ w cl own kf=>?_
 refine go ?_;refine bW (λ p:Nat×Int×ah=>s.made<=p.2.2.made/\p.2.2.made<=log.length/\log.length-p.2.2.made<p.1/\p.2.2.gone=s.gone/\0<=p.2.1/\p.2.1<65536/\BC l D tl v p.1 p.2.1 log p.2.2=aJ) (λ p=>⟨[(0,.ptr 18 0),(1,.ptr 8 0)],(8,[u 0,dB false,u 0,u 0,.p (.sl true 0 [])])::w9 l D log tl v p.2.1 p.2.2,[]⟩) (λ p=>p.1) (log.length+1-s.made,0,s) ⟨Nat.le_refl _,hm,by simp only;omega,rfl,by simp,by simp,E⟩ (zX) ?_;rintro⟨k,bX,t⟩ ⟨cC,bB,iS,eX,ml,ky,E⟩;simp only at cC bB iS eX ml ky E;obtain⟨k,rfl⟩:∃j,k=j+1:=⟨k-1,by omega⟩;refine(show aK _ _ _ _ ⟨[(0,.ptr 18 0),(1,.ptr 8 0)],(8,[u 0,dB false,u 0,u 0,.p (.sl true 0 [])])::w9 l D log tl v bX t,[]⟩ from ?_);rw[BC] at E;refine go ?_;refine vX (ac8 l Z D log t tl v bX yx Gm ml ky bB R) ?_ ?_
 ·rintro y U ⟨a,M,Bc,h,rfl,rfl⟩;refine gP ?_;exact fP _ ⟨a,M,Bc,by rw[<-E];exact bl h,rfl,rfl⟩
 rintro d U ⟨r,s1,bG,fM,cP,ip,ym,jc,rfl,rfl⟩;rw[aw bG] at E;obtain⟨ro,Bc⟩:=r;simp only at E ym jc;refine go ?_;cases ro with
 |none=>rw[show((none,Bc):Option bf×Int).1.isSome=false from rfl];refine go ?_;exact⟨(k,Bc,s1),⟨by simp only;omega,cP,by simp only;omega,by simp only;rw[ip];exact eX,ym,jc,E⟩,by simp only;omega,zX⟩
 |some o=>rw[show((some o,Bc):Option bf×Int).1.isSome=true from rfl];refine go ?_;exact fX _ ⟨o,s1,Bc,E.symm,by rw[ip];exact eX,rfl,rfl⟩
def MI(l:ag)(D:Int)(log:List aD)(F tl:Int)(s:ah)(m:Except aT (bf×ah)):G->bE->Prop:=λ d U=>∃x M,m=.ok (x,M)/\eu M.gone/\M.gone.length+s.made<=s.gone.length+M.made/\M.made<=log.length/\d=lz x/\U=wX l D log F tl M
def MJ(l:ag)(D:Int)(log:List aD)(F tl:Int)(m:Except aT (bf×ah)):Value->bE->Prop:=λ y U=>∃a M,m=.error a/\y=iz a/\U=wX l D log F tl M
set_option maxHeartbeats 4000000 in
theorem aaN(l:ag)(Z:ca l)(D:Int)(log:List aD)(s:ah)(F tl:Int)(fb:eu s.gone)(dp:s.gone.length+log.length<=10000)(hm:s.made<=log.length)(R:log.length<=1000000):
 fI prog 136 [11,12,13,14,15,16,18] [.ptr 18 0] (wX l D log F tl s) (MI l D log F tl s (vh l D F tl log s)) (MJ l D log F tl (vh l D F tl log s)):=by
 generalize E:vh l D F tl log s=aJ;unfold vh at E;refine sX func136 ntmps136 λ w cl own kf=>?_
 refine go ?_;refine bW (λ p:Nat×ah=>s.made<=p.2.made/\p.2.made<=log.length/\log.length-p.2.made<p.1/\eu p.2.gone/\p.2.gone.length+s.made<=s.gone.length+p.2.made/\Ee l D F tl p.1 log p.2=aJ) (λ p=>⟨[(0,.ptr 18 0),(1,.ptr 7 0)],(7,[u 0,dB false,u 0,u 0,.p (.sl true 0 [])])::wX l D log F tl p.2,[]⟩) (λ p=>p.1) (log.length+1-s.made,s) ⟨Nat.le_refl _,hm,by simp only;omega,fb,Nat.le_refl _,E⟩ (zX) ?_;rintro⟨k,t⟩ ⟨cC,bB,iS,eX,gz,E⟩;simp only at cC bB iS eX gz E;obtain⟨k,rfl⟩:∃j,k=j+1:=⟨k-1,by omega⟩;refine(show aK _ _ _ _ ⟨[(0,.ptr 18 0),(1,.ptr 7 0)],(7,[u 0,dB false,u 0,u 0,.p (.sl true 0 [])])::wX l D log F tl t,[]⟩ from ?_);rw[Ee] at E;refine go ?_;refine vX (acy l Z D log t F tl eX (by omega) bB R) ?_ ?_
 ·rintro y U ⟨a,M,h,rfl,rfl⟩;refine gP ?_;exact fP _ ⟨a,M,by rw[<-E];exact bl h,rfl,rfl⟩
 rintro d U ⟨ro,s1,bG,fM,cP,ip,de,rfl,rfl⟩;rw[aw bG] at E;refine go ?_;cases ro with
 |none=>rw[show(none:Option bf).isSome=false from rfl];refine go ?_;exact⟨(k,s1),⟨by simp only;omega,cP,by simp only;omega,ip,by simp only;omega,E⟩,by simp only;omega,zX⟩
 |some o=>rw[show(some o).isSome=true from rfl];refine go ?_;exact fX _ ⟨o,s1,E.symm,ip,by omega,cP,rfl,rfl⟩
def ub(m:Except aT (bf×ah)):G->bE->Prop:=λ d U=>U=[]/\((∃x M,m=.ok (x,M)/\d=.bg [fy eN,jQ {x with gone:=M.gone},dB true])\/∃a,m=.error a/\d=.bg [fy a,lz j8,dB false])
abbrev vW(a:aT)(od:List G)(dn:Bool):St:=⟨[(4,.ptr 22 0),(5,.ptr 23 0),(6,.ptr 24 0)],jg a od dn,[]⟩
def xq(m:Except aT (bf×ah))(Γ:bI):Exit->St->Prop:=λ ex J=>(ex=.ret/\∃x M,m=.ok (x,M)/\bN Γ J (vW eN (ot {x with gone:=M.gone}) true))\/∃a,ex=.panic [pe (iz a)]/\m=.error a/\bN Γ J (vW eN [u 0,dB false,u 0,u 0,.p (.sl true 0 [])] false)
set_option maxHeartbeats 4000000 in
theorem abO(l:ag)(D:Int)(log:List aD)(s:ah)(tl v:Int)(m:Except aT (bf×ah))(tC:s.gone.length<=100000)(hC:fI prog 136 [11,12,13,14,15,16,17,18] [.ptr 18 0] (w9 l D log tl v 0 s) (ML l D log tl v s m) (MM l D log tl v m)):
 eo prog 135 [] [.ptr 11 0,.fn (.func 136) [] [.ptr 18 0]] (w9 l D log tl v 0 s) (ub m):=by
 intro e vs hI hv;refine calls_of_wp_defers func135 rfl ?_;have h2:=uT (fn:=f135) (f:=69) (aU:=[]) [] (by decide) trivial hI hv rfl;refine wp_seq (Code.wp_mono (λ ex a1 w1 hh=>?_) (aK.run (Q:=λ ex J=>ex=.normal/\J=⟨[(6,.ptr 24 0),(5,.ptr 23 0),(4,.ptr 22 0),(2,.ptr 21 0),(0,.ptr 11 0),(1,.fn (.func 136) [] [.ptr 18 0])],(24,[dB false])::(23,[u 0,dB false,u 0,u 0,.p (.sl true 0 [])])::(22,[u 0,u 0,u 0,u 0])::(21,[.ptr 11 0])::w9 l D log tl v 0 s,[]⟩) ?_ _ e h2))
 ·obtain⟨nN,e1,rfl,bR,rfl,rfl⟩:=hh;obtain⟨k1,_,_,b1,_,_⟩:=bR.boxes 21 _ rfl;obtain⟨k2,_,_,b2,_,_⟩:=bR.boxes 22 _ rfl;obtain⟨k3,_,_,b3,_,_⟩:=bR.boxes 23 _ rfl;obtain⟨k4,_,_,b4,_,_⟩:=bR.boxes 24 _ rfl;refine wp_seq (BJ bR rfl rfl rfl rfl rfl rfl rfl rfl [(21,k1),(22,k2),(23,k3),(24,k4)] (λ b k I=>?_) (λ a2 cG cY eE=>?_))
  ·simp only[cM] at I;split at I
   ·rename_i q;cases I;rw[<-q];exact b1
   ·split at I
    ·rename_i q;cases I;rw[<-q];exact b2
    ·split at I
     ·rename_i q;cases I;rw[<-q];exact b3
     ·split at I
      ·rename_i q;cases I;rw[<-q];exact b4
      ·cases I
  ·refine Code.wp_mono (λ ex a3 w3 hh=>?_) (aK.run (Γ:=⟨18,e.w,e.cl,λ k=>∃b,e.bx b=some k,[(21,k1),(22,k2),(23,k3),(24,k4)],[{target:=.fn (.func 182) cG.toArray,args:=#[]}]⟩) (Q:=xq m ⟨18,e.w,e.cl,λ k=>∃b,e.bx b=some k,[(21,k1),(22,k2),(23,k3),(24,k4)],[{target:=.fn (.func 182) cG.toArray,args:=#[]}]⟩) ?_ a2 e1 eE)
   ·obtain⟨ED,e3,rfl,io,hq⟩:=hh;rcases hq with⟨rfl,x,M,hm,eQ⟩|⟨a,rfl,hm,eQ⟩
    ·skip
     obtain⟨e4,kT,bY⟩:=eQ a3 e3 io;show Leaves prog f135 a3.tmps _ a3.defers .returning e3.w;rw[bY.df,<-kT];have kQ:DReps e4 cG [.ptr 22 0,.ptr 21 0,.ptr 23 0,.ptr 24 0]:=⟨cY.1,λ i v d hv F=>by
      match i,hv,F with
      |0,hv,F=>cases F;exact eU (cY.2 0 v _ hv rfl) b2 (bY.env.kb 22 k2 rfl)
      |1,hv,F=>cases F;exact eU (cY.2 1 v _ hv rfl) b1 (bY.env.kb 21 k1 rfl)
      |2,hv,F=>cases F;exact eU (cY.2 2 v _ hv rfl) b3 (bY.env.kb 23 k3 rfl)
      |3,hv,F=>cases F;exact eU (cY.2 3 v _ hv rfl) b4 (bY.env.kb 24 k4 rfl)⟩
     refine rh bY (λ a w=>call182 a w) kQ rfl (by(repeat(first|exact trivial|refine⟨⟨rfl,rfl⟩,?_⟩))) ⟨.inr rfl,.inr rfl,.inr rfl,.inr rfl,trivial⟩ rfl (by simp) rfl (λ e0 pW h1 A=>yR eN {x with gone:=M.gone} true h1 A) (λ aq T=>by subst T;exact⟨.inl rfl,.inl rfl,.inl rfl,.inl rfl,trivial⟩) (λ aq e5 T dE=>?_);subst T;obtain⟨v,hr,jZ⟩:=pd aB (fn:=f135) (d:=.bg [fy eN,jQ {x with gone:=M.gone},dB true]) dE rfl;refine⟨v,hr,v,_,[],e5.cut (aF []) λ _=>false,rfl,rfl,⟨rfl,.inl ⟨x,M,hm,rfl⟩⟩,ly dE trivial,jZ.cut rfl,⟨dE.env.kept,dE.env.cl,λ b k I=>?_,λ b T=>by cases T⟩⟩;cases I
    ·skip
     obtain⟨e4,kT,bY⟩:=eQ a3 e3 io;show Leaves prog f135 a3.tmps _ a3.defers (.panicking [pe (iz a)]) e3.w;rw[bY.df,<-kT];have kQ:DReps e4 cG [.ptr 22 0,.ptr 21 0,.ptr 23 0,.ptr 24 0]:=⟨cY.1,λ i v d hv F=>by
      match i,hv,F with
      |0,hv,F=>cases F;exact eU (cY.2 0 v _ hv rfl) b2 (bY.env.kb 22 k2 rfl)
      |1,hv,F=>cases F;exact eU (cY.2 1 v _ hv rfl) b1 (bY.env.kb 21 k1 rfl)
      |2,hv,F=>cases F;exact eU (cY.2 2 v _ hv rfl) b3 (bY.env.kb 23 k3 rfl)
      |3,hv,F=>cases F;exact eU (cY.2 3 v _ hv rfl) b4 (bY.env.kb 24 k4 rfl)⟩
     refine rh bY (λ a w=>call182 a w) kQ rfl (by(repeat(first|exact trivial|refine⟨⟨rfl,rfl⟩,?_⟩))) ⟨.inr rfl,.inr rfl,.inr rfl,.inr rfl,trivial⟩ rfl (by simp) rfl (λ e0 pW h1 A=>yS eN a _ rfl false h1 A) (λ aq T=>by subst T;exact⟨.inl rfl,.inl rfl,.inl rfl,.inl rfl,trivial⟩) (λ aq e5 T dE=>?_);subst T;obtain⟨v,hr,jZ⟩:=pd aB (fn:=f135) (d:=.bg [fy a,lz j8,dB false]) dE rfl;refine⟨v,hr,v,_,[],e5.cut (aF []) λ _=>false,rfl,rfl,⟨rfl,.inr ⟨a,hm,rfl⟩⟩,ly dE trivial,jZ.cut rfl,⟨dE.env.kept,dE.env.cl,λ b k I=>?_,λ b T=>by cases T⟩⟩;cases I
   ·refine go ?_;refine vX hC ?_ ?_
    ·rintro v U ⟨a,M,bX,h,rfl,rfl⟩;refine gP ?_;exact .inr ⟨a,rfl,h,bN.trans (qN 21 rfl rfl) (zX)⟩
    rintro d U ⟨x,M,bX,h,x2,rfl,rfl⟩;refine gA ((pq M.gone (by rw[x2];exact tC)).pure) ?_;refine gW 3 [22] ?_;refine go ?_;exact .inl ⟨rfl,x,M,h,bN.trans (qN 21 rfl rfl) (zX)⟩
 ·refine gS ?_;refine bA 21 ?_;refine nA 22 ?_;refine nA 23 ?_;refine nA 24 ?_;exact kl ⟨rfl,rfl⟩
set_option maxHeartbeats 4000000 in
theorem abN(l:ag)(D:Int)(log:List aD)(s:ah)(F tl:Int)(m:Except aT (bf×ah))(tC:s.gone.length+log.length<=100000)(hC:fI prog 136 [11,12,13,14,15,16,18] [.ptr 18 0] (wX l D log F tl s) (MI l D log F tl s m) (MJ l D log F tl m)):
 eo prog 135 [] [.ptr 11 0,.fn (.func 136) [] [.ptr 18 0]] (wX l D log F tl s) (ub m):=by
 intro e vs hI hv;refine calls_of_wp_defers func135 rfl ?_;have h2:=uT (fn:=f135) (f:=69) (aU:=[]) [] (by decide) trivial hI hv rfl;refine wp_seq (Code.wp_mono (λ ex a1 w1 hh=>?_) (aK.run (Q:=λ ex J=>ex=.normal/\J=⟨[(6,.ptr 24 0),(5,.ptr 23 0),(4,.ptr 22 0),(2,.ptr 21 0),(0,.ptr 11 0),(1,.fn (.func 136) [] [.ptr 18 0])],(24,[dB false])::(23,[u 0,dB false,u 0,u 0,.p (.sl true 0 [])])::(22,[u 0,u 0,u 0,u 0])::(21,[.ptr 11 0])::wX l D log F tl s,[]⟩) ?_ _ e h2))
 ·obtain⟨nN,e1,rfl,bR,rfl,rfl⟩:=hh;obtain⟨k1,_,_,b1,_,_⟩:=bR.boxes 21 _ rfl;obtain⟨k2,_,_,b2,_,_⟩:=bR.boxes 22 _ rfl;obtain⟨k3,_,_,b3,_,_⟩:=bR.boxes 23 _ rfl;obtain⟨k4,_,_,b4,_,_⟩:=bR.boxes 24 _ rfl;refine wp_seq (BJ bR rfl rfl rfl rfl rfl rfl rfl rfl [(21,k1),(22,k2),(23,k3),(24,k4)] (λ b k I=>?_) (λ a2 cG cY eE=>?_))
  ·simp only[cM] at I;split at I
   ·rename_i q;cases I;rw[<-q];exact b1
   ·split at I
    ·rename_i q;cases I;rw[<-q];exact b2
    ·split at I
     ·rename_i q;cases I;rw[<-q];exact b3
     ·split at I
      ·rename_i q;cases I;rw[<-q];exact b4
      ·cases I
  ·refine Code.wp_mono (λ ex a3 w3 hh=>?_) (aK.run (Γ:=⟨18,e.w,e.cl,λ k=>∃b,e.bx b=some k,[(21,k1),(22,k2),(23,k3),(24,k4)],[{target:=.fn (.func 182) cG.toArray,args:=#[]}]⟩) (Q:=xq m ⟨18,e.w,e.cl,λ k=>∃b,e.bx b=some k,[(21,k1),(22,k2),(23,k3),(24,k4)],[{target:=.fn (.func 182) cG.toArray,args:=#[]}]⟩) ?_ a2 e1 eE)
   ·obtain⟨ED,e3,rfl,io,hq⟩:=hh;rcases hq with⟨rfl,x,M,hm,eQ⟩|⟨a,rfl,hm,eQ⟩
    ·skip
     obtain⟨e4,kT,bY⟩:=eQ a3 e3 io;show Leaves prog f135 a3.tmps _ a3.defers .returning e3.w;rw[bY.df,<-kT];have kQ:DReps e4 cG [.ptr 22 0,.ptr 21 0,.ptr 23 0,.ptr 24 0]:=⟨cY.1,λ i v d hv F=>by
      match i,hv,F with
      |0,hv,F=>cases F;exact eU (cY.2 0 v _ hv rfl) b2 (bY.env.kb 22 k2 rfl)
      |1,hv,F=>cases F;exact eU (cY.2 1 v _ hv rfl) b1 (bY.env.kb 21 k1 rfl)
      |2,hv,F=>cases F;exact eU (cY.2 2 v _ hv rfl) b3 (bY.env.kb 23 k3 rfl)
      |3,hv,F=>cases F;exact eU (cY.2 3 v _ hv rfl) b4 (bY.env.kb 24 k4 rfl)⟩
     refine rh bY (λ a w=>call182 a w) kQ rfl (by(repeat(first|exact trivial|refine⟨⟨rfl,rfl⟩,?_⟩))) ⟨.inr rfl,.inr rfl,.inr rfl,.inr rfl,trivial⟩ rfl (by simp) rfl (λ e0 pW h1 A=>yR eN {x with gone:=M.gone} true h1 A) (λ aq T=>by subst T;exact⟨.inl rfl,.inl rfl,.inl rfl,.inl rfl,trivial⟩) (λ aq e5 T dE=>?_);subst T;obtain⟨v,hr,jZ⟩:=pd aB (fn:=f135) (d:=.bg [fy eN,jQ {x with gone:=M.gone},dB true]) dE rfl;refine⟨v,hr,v,_,[],e5.cut (aF []) λ _=>false,rfl,rfl,⟨rfl,.inl ⟨x,M,hm,rfl⟩⟩,ly dE trivial,jZ.cut rfl,⟨dE.env.kept,dE.env.cl,λ b k I=>?_,λ b T=>by cases T⟩⟩;cases I
    ·skip
     obtain⟨e4,kT,bY⟩:=eQ a3 e3 io;show Leaves prog f135 a3.tmps _ a3.defers (.panicking [pe (iz a)]) e3.w;rw[bY.df,<-kT];have kQ:DReps e4 cG [.ptr 22 0,.ptr 21 0,.ptr 23 0,.ptr 24 0]:=⟨cY.1,λ i v d hv F=>by
      match i,hv,F with
      |0,hv,F=>cases F;exact eU (cY.2 0 v _ hv rfl) b2 (bY.env.kb 22 k2 rfl)
      |1,hv,F=>cases F;exact eU (cY.2 1 v _ hv rfl) b1 (bY.env.kb 21 k1 rfl)
      |2,hv,F=>cases F;exact eU (cY.2 2 v _ hv rfl) b3 (bY.env.kb 23 k3 rfl)
      |3,hv,F=>cases F;exact eU (cY.2 3 v _ hv rfl) b4 (bY.env.kb 24 k4 rfl)⟩
     refine rh bY (λ a w=>call182 a w) kQ rfl (by(repeat(first|exact trivial|refine⟨⟨rfl,rfl⟩,?_⟩))) ⟨.inr rfl,.inr rfl,.inr rfl,.inr rfl,trivial⟩ rfl (by simp) rfl (λ e0 pW h1 A=>yS eN a _ rfl false h1 A) (λ aq T=>by subst T;exact⟨.inl rfl,.inl rfl,.inl rfl,.inl rfl,trivial⟩) (λ aq e5 T dE=>?_);subst T;obtain⟨v,hr,jZ⟩:=pd aB (fn:=f135) (d:=.bg [fy a,lz j8,dB false]) dE rfl;refine⟨v,hr,v,_,[],e5.cut (aF []) λ _=>false,rfl,rfl,⟨rfl,.inr ⟨a,hm,rfl⟩⟩,ly dE trivial,jZ.cut rfl,⟨dE.env.kept,dE.env.cl,λ b k I=>?_,λ b T=>by cases T⟩⟩;cases I
   ·refine go ?_;refine vX hC ?_ ?_
    ·rintro v U ⟨a,M,h,rfl,rfl⟩;refine gP ?_;exact .inr ⟨a,rfl,h,bN.trans (qN 21 rfl rfl) (zX)⟩
    rintro d U ⟨x,M,h,_,x2,nE,rfl,rfl⟩;refine gA ((pq M.gone (by omega)).pure) ?_;refine gW 3 [22] ?_;refine go ?_;exact .inl ⟨rfl,x,M,h,bN.trans (qN 21 rfl rfl) (zX)⟩
 ·refine gS ?_;refine bA 21 ?_;refine nA 22 ?_;refine nA 23 ?_;refine nA 24 ?_;exact kl ⟨rfl,rfl⟩
abbrev rT(r:aT×bf×Bool):G:=.bg [fy r.1,jQ r.2.1,dB r.2.2]
set_option maxHeartbeats 8000000 in
theorem DZ(l:ag)(Z:ca l)(D:Int)(gone:List (Int×Int))(op:bt)(log:List aD)(hv:op.kind=6->0<=op.a/\op.a<4294967296)(fb:eu gone)(dp:gone.length+log.length<=10000):aX prog 107 [dD l,u D,d7 gone,zv op,gH log] (rT (dw l D gone op log)):=by
 generalize E:dw l D gone op log=aJ;unfold dw at E;have R:log.length<=1000000:=by omega
 refine sP func107 ntmps107 λ w cl=>?_
 refine gS ?_;refine bA 0 ?_;refine bA 1 ?_;refine nA 2 ?_;refine nA 3 ?_;refine go ?_;refine dQ [] ?_;refine gQ (FM l Z op.obj) ?_;refine cQ (Te l Z op.obj) ?_;refine qg ?_;generalize h1:decide (jw l op.obj<0)=cc;cases cc
 ·rw[if_neg (of_decide_eq_false h1)] at E;refine go ?_;refine cI (Ce l D gone log) ?_;rintro d U ⟨rfl,rfl⟩;refine hZ ?_;refine gS ?_;refine nA 18 ?_;refine go ?_;generalize A:decide (op.kind=6)=cc;cases cc
  ·rw[if_neg (of_decide_eq_false A)] at E;refine go ?_;generalize K:decide (op.kind=7)=cc;cases cc
   ·rw[if_neg (of_decide_eq_false K)] at E;refine gA (sH gone (by omega)) ?_;refine d8 ?_;rw[<-E]
   ·rw[if_pos (of_decide_eq_true K)] at E;refine go ?_;refine cI (acx l D log ⟨0,gone,0,0,0⟩ (jw l op.obj) (nL l op.obj)) ?_;rintro d U ⟨rfl,rfl⟩;refine go ?_;refine hJ (abN l D log ⟨0,gone,0,0,0⟩ (jw l op.obj) (nL l op.obj) _ (by simp only;omega) (aaN l Z D log ⟨0,gone,0,0,0⟩ (jw l op.obj) (nL l op.obj) fb dp (Nat.zero_le _) R)) rfl (λ a w=>call135 a w) rfl rfl (by(repeat(first|exact trivial|refine⟨⟨rfl,rfl⟩,?_⟩))) trivial rfl rfl rfl rfl ?_ ?_
    ·rintro d U ⟨rfl,_⟩;exact trivial
    rintro d U ⟨rfl,⟨x,M,hm,rfl⟩|⟨a,hm,rfl⟩⟩
    ·rw[hm] at E;refine gf ?_;rw[<-E];rfl
    ·rw[hm] at E;refine gf ?_;rw[<-E];rfl
  ·rw[if_pos (of_decide_eq_true A)] at E;have Qp:=hv (of_decide_eq_true A);refine go ?_;refine cI (ada l D log ⟨0,gone,0,0,0⟩ (nL l op.obj) op.a) ?_;rintro d U ⟨rfl,rfl⟩;refine go ?_;refine hJ (abO l D log ⟨0,gone,0,0,0⟩ (nL l op.obj) op.a _ (by simp only;omega) (aaO l Z D log ⟨0,gone,0,0,0⟩ (nL l op.obj) op.a Qp.1 Qp.2 (Nat.zero_le _) R)) rfl (λ a w=>call135 a w) rfl rfl (by(repeat(first|exact trivial|refine⟨⟨rfl,rfl⟩,?_⟩))) trivial rfl rfl rfl rfl ?_ ?_
   ·rintro d U ⟨rfl,_⟩;exact trivial
   rintro d U ⟨rfl,⟨x,M,hm,rfl⟩|⟨a,hm,rfl⟩⟩
   ·rw[hm] at E;refine gf ?_;rw[<-E];rfl
   ·rw[hm] at E;refine gf ?_;rw[<-E];rfl
 ·rw[if_pos (of_decide_eq_true h1)] at E;refine gA (sH gone (by omega)) ?_;refine d8 ?_;rw[<-E]
end Go.Proofs.YtcnefjfboagbmaaGreat.Sg
