/- The piece of a program once more: segment's. -/
import Derived.Test.YtcnefjfboagbmaaGreatWA
import Derived.Test.YtcnefjfboagbmaaGreatPA
namespace Go.Proofs.YtcnefjfboagbmaaGreat.Sg
open Go.Proofs.Tryz
open Go.RowKit
set_option maxRecDepth 100000
abbrev me(l:ab)(E:Int)(s:af):List F:=[z l.aA,z l.nodes,z l.buckets,z l.bm,z l.tasks,z l.cells,z l.maps,z l.bo,z l.aL,z l.done,z l.count,z l.era,z l.free,z l.alive,z l.owner,z l.lI,z l.pL,z l.ring,z l.task,z l.cell,z l.map,z l.stack,z l.chan,z l.node,z l.size,z E,cT s.gone,z s.made,z s.e0,z s.e1,z s.e2,.fn (.func 168) [] [.ptr 12 0,.ptr 13 0]]
abbrev bX(l:ab)(E:Int)(log:List aB)(s:af):bH:=[(11,me l E s),(12,[.ptr 11 0]),(13,[fS log])]
theorem fY(l:ab)(M:bQ l)(E:Int)(s:af)(n i:Int)(hn:n<9223372036854775808)(Z:i<9223372036854775808):aW prog 171 [.el (zs l E s),z n,z i] (z (am l n i)):=by
 refine sP func171 ntmps171 λ w cl=>?_
 refine gA (jD l M n i hn Z) ?_;refine dt ?_
 rfl
theorem im(l:ab)(E:Int)(s:af)(h:(s.made:Int)<9223372036854775807):aW prog 174 [.el (zs l E s)] (z ((s.made:Int)-1)):=by
 refine sP func174 ntmps174 λ w cl=>?_
 refine gf ?_
 rfl
abbrev hk(a:aS):Value:=.iface 185 (.agg #[.int .i64 a.kind,.int .i64 a.cell,.int .i64 a.eh,.int .i64 a.new])
def Ay{aq:Type}(l:ab)(E:Int)(log:List aB)(m:Except aS (aq×af))(s:af)(enc:aq->F):F->bH->Prop:=λ d O=>∃x U,m=.ok (x,U)/\s.made<=U.made/\U.made<=log.length/\d=enc x/\O=bX l E log U
def Az{aq:Type}(l:ab)(E:Int)(log:List aB)(m:Except aS (aq×af)):Value->bH->Prop:=λ v O=>∃a U,m=.error a/\v=hk a/\O=bX l E log U
abbrev fH{aq:Type}(f:FuncId)(l:ab)(E:Int)(log:List aB)(s:af)(ds:List F)(m:Except aS (aq×af))(enc:aq->F):Prop:=
 fu prog f [11,12,13] ds (bX l E log s) (Ay l E log m s enc) (Az l E log m)
theorem oq(l:ab)(E:Int)(log:List aB)(s:af)(a:aS)(hm:s.made<=log.length)(M:log.length<=1000000):fH 168 l E log s [eW a,.ptr 12 0,.ptr 13 0] (fw a log s) vO:=by
 refine sX func168 ntmps168 λ w cl own kf=>?_
 refine go ?_;refine gD [] ?_;refine go ?_;generalize u:decide ((s.made:Int)=(log.length:Int))=cc;cases cc
 ·have aN:=of_decide_eq_false u;have bh:s.made<log.length:=by omega
  have hr:log[s.made]?=some log[s.made]:=List.getElem?_eq_getElem bh;generalize log[s.made]=r at hr;have oD:log[((s.made:Int)+1-1).toNat]?=some r:=by rw[show((s.made:Int)+1-1).toNat=s.made by omega];exact hr
  refine go ?_;refine gW 8 [] ?_;refine ri [pI r.val,pB r.ok] (B4 oD) ?_;refine qg ?_;exact fX _ ⟨r,{s with made:=s.made+1},by rw[fw,hr],by simp,by simp;omega,rfl,rfl⟩
 ·have aN:log.length=s.made:=by have:=of_decide_eq_true u;omega
  have hr:log[s.made]?=none:=List.getElem?_eq_none (by omega);refine go ?_;refine bf (BV aw rfl rfl rfl rfl rfl) rfl rfl rfl ?_;refine AD rfl rfl rfl ?_;refine gP ?_;exact fP _ ⟨a,s,by rw[fw,hr],rfl,rfl⟩
theorem dV(l:ab)(E:Int)(log:List aB)(s:af)(c:Int)(hm:s.made<=log.length)(M:log.length<=1000000):fH 172 l E log s [.ptr 11 0,z c] (cy c log s) z:=by
 refine sX func172 ntmps172 λ w cl own kf=>?_
 refine go ?_;refine vX (oq l E log s ⟨1,c,0,0⟩ hm M) ?_ ?_
 ·rintro v O ⟨a,U,h,rfl,rfl⟩;refine gP ?_;exact fP _ ⟨a,U,bl h,rfl,rfl⟩
 rintro d O ⟨x,U,h,gY,cg,rfl,rfl⟩;refine go ?_;exact fX _ ⟨x.val,U,au h,gY,cg,rfl,rfl⟩
theorem gM(l:ab)(E:Int)(log:List aB)(s:af)(c v:Int)(hm:s.made<=log.length)(M:log.length<=1000000):fH 198 l E log s [.ptr 11 0,z c,z v] (fa c v log s) (λ _=>.bc []):=by
 refine sX func198 ntmps198 λ w cl own kf=>?_
 refine go ?_;refine vX (oq l E log s ⟨2,c,0,v⟩ hm M) ?_ ?_
 ·rintro v O ⟨a,U,h,rfl,rfl⟩;refine gP ?_;exact fP _ ⟨a,U,bl h,rfl,rfl⟩
 rintro d O ⟨x,U,h,gY,cg,rfl,rfl⟩;refine go ?_;exact fX _ ⟨(),U,au h,gY,cg,rfl,rfl⟩
theorem iu(l:ab)(E:Int)(log:List aB)(s:af)(c o v:Int)(hm:s.made<=log.length)(M:log.length<=1000000):fH 173 l E log s [.ptr 11 0,z c,z o,z v] (fv c o v log s) dB:=by
 refine sX func173 ntmps173 λ w cl own kf=>?_
 refine go ?_;refine vX (oq l E log s ⟨3,c,o,v⟩ hm M) ?_ ?_
 ·rintro v O ⟨a,U,h,rfl,rfl⟩;refine gP ?_;exact fP _ ⟨a,U,bl h,rfl,rfl⟩
 rintro d O ⟨x,U,h,gY,cg,rfl,rfl⟩;refine go ?_;exact fX _ ⟨x.ok,U,au h,gY,cg,rfl,rfl⟩
set_option maxHeartbeats 4000000 in
theorem CP(l:ab)(hL:bQ l)(E:Int)(log:List aB)(s:af)(hm:s.made<=log.length)(M:log.length<=1000000):fH 178 l E log s [.ptr 11 0] (qk l log s) (λ p=>.bc [z p.1,z p.2.1,dB p.2.2]):=by
 generalize A:qk l log s=aK;refine sX func178 ntmps178 λ w cl own kf=>?_
 refine go ?_;refine bL (λ p:Nat×af=>s.made<=p.2.made/\p.2.made<=log.length/\log.length-p.2.made<p.1/\mV l p.1 log p.2=aK) (λ p=>⟨[(0,.ptr 11 0)],bX l E log p.2,[]⟩) (λ p=>p.1) (log.length+1-s.made,s) ⟨Nat.le_refl _,hm,by simp only;omega,A⟩ (zX) ?_;rintro⟨k,t⟩ ⟨cw,bB,ij,A⟩;simp only at cw bB ij A;obtain⟨k,rfl⟩:∃j,k=j+1:=⟨k-1,by omega⟩;refine(show aJ _ _ _ _ ⟨[(0,.ptr 11 0)],bX l E log t,[]⟩ from ?_);rw[mV] at A;refine go ?_;refine xP (dV l E log t l.free bB M) ?_;rintro d O ⟨fr,s1,bJ,fB,cN,rfl,rfl⟩;rw[au bJ] at A;have eM:=g9 bJ;have bV:=j8 fr;have cZ:=q6 fr;refine gA (jS fr) ?_;generalize u:decide ((az fr).idx=0)=cc;cases cc
 ·have aN:=of_decide_eq_false u;rw[if_neg aN] at A;refine go ?_;refine lA (fY l hL E s1 (az fr).idx 7 (by omega) (by omega)) ?_;refine go ?_;refine xP (dV l E log s1 (am l (az fr).idx 7) cN M) ?_;rintro d O ⟨lk,s2,bg,eK,cn,rfl,rfl⟩;rw[au bg] at A;have g8:=g9 bg;refine go ?_;refine dW 11 [] ?_;refine gQ (oI (az fr) lk cZ.1 cZ.2) ?_;refine cQ (li (eo (az fr) lk)) ?_;refine ba ?_;refine xP (iu l E log s2 l.free fr (dJ (eo (az fr) lk)) cn M) ?_;rintro d O ⟨gL,s3,bR,eQ,ci,rfl,rfl⟩;rw[au bR] at A;have gC:=ky bR;refine go ?_;cases gL
  ·rw[if_neg (by decide)] at A;refine go ?_;exact⟨(k,s3),⟨by simp only;omega,ci,by simp only;omega,A⟩,by simp only;omega,zX⟩
  ·rw[if_pos rfl,au eC] at A;refine go ?_;refine lA (im l E s3 (by omega)) ?_;refine go ?_;refine xP (dV l E log s3 l.era ci M) ?_;rintro d O ⟨bi,s4,ct,iB,ef,rfl,rfl⟩;rw[au ct] at A;refine go ?_;refine lA (fY l hL E s4 (az fr).idx 6 (by omega) (by omega)) ?_;refine go ?_;refine xP (gM l E log s4 (am l (az fr).idx 6) bi ef M) ?_;rintro d O ⟨aa,s5,di,j6,ej,rfl,rfl⟩;rw[au di] at A;refine go ?_;exact fX _ ⟨_,s5,A.symm,by omega,ej,rfl,rfl⟩
 ·rw[if_pos (of_decide_eq_true u),au eC] at A;refine go ?_;refine lA (im l E s1 (by omega)) ?_;refine go ?_;exact fX _ ⟨_,s1,A.symm,by omega,cN,rfl,rfl⟩
set_option maxHeartbeats 4000000 in
theorem uf(l:ab)(hL:bQ l)(E:Int)(log:List aB)(s:af)(n:Int)(hn:n<9223372036854775808)(hm:s.made<=log.length)(M:log.length<=1000000):fH 175 l E log s [.ptr 11 0,z n] (m8 l n log s) (λ _=>.bc []):=by
 generalize A:m8 l n log s=aK;refine sX func175 ntmps175 λ w cl own kf=>?_
 refine go ?_;refine bL (λ p:Nat×af=>s.made<=p.2.made/\p.2.made<=log.length/\log.length-p.2.made<p.1/\lu l n p.1 log p.2=aK) (λ p=>⟨[(0,.ptr 11 0),(1,z n)],bX l E log p.2,[]⟩) (λ p=>p.1) (log.length+1-s.made,s) ⟨Nat.le_refl _,hm,by simp only;omega,A⟩ (zX) ?_;rintro⟨k,t⟩ ⟨cw,bB,ij,A⟩;simp only at cw bB ij A;obtain⟨k,rfl⟩:∃j,k=j+1:=⟨k-1,by omega⟩;refine(show aJ _ _ _ _ ⟨[(0,.ptr 11 0),(1,z n)],bX l E log t,[]⟩ from ?_);rw[lu] at A;refine go ?_;refine xP (dV l E log t l.free bB M) ?_;rintro d O ⟨fr,s1,bJ,fB,cN,rfl,rfl⟩;rw[au bJ] at A;have eM:=g9 bJ;have cZ:=q6 fr;refine gA (jS fr) ?_;refine gW 6 [] ?_;refine lQ (fY l hL E s1 n 7 hn (by omega)) ?_;refine ba ?_;refine xP (gM l E log s1 (am l n 7) (az fr).idx cN M) ?_;rintro d O ⟨aa,s2,bg,eK,cn,rfl,rfl⟩;rw[au bg] at A;have g8:=qi bg;refine go ?_;refine dW 11 [] ?_;refine gQ (oI (az fr) n cZ.1 cZ.2) ?_;refine cQ (li (eo (az fr) n)) ?_;refine ba ?_;refine xP (iu l E log s2 l.free fr (dJ (eo (az fr) n)) cn M) ?_;rintro d O ⟨gL,s3,bR,eQ,ci,rfl,rfl⟩;rw[au bR] at A;have gC:=ky bR;refine go ?_;cases gL
 ·rw[if_neg (by decide)] at A;refine go ?_;exact⟨(k,s3),⟨by simp only;omega,ci,by simp only;omega,A⟩,by simp only;omega,zX⟩
 ·rw[if_pos rfl] at A;refine go ?_;exact fX _ ⟨_,s3,A.symm,by omega,ci,rfl,rfl⟩
set_option maxHeartbeats 4000000 in
theorem yr(l:ab)(hL:bQ l)(E:Int)(log:List aB)(s:af)(cell:Int)(hm:s.made<=log.length)(M:log.length<=1000000):fH 170 l E log s [.ptr 11 0,z 0,z cell] (kT l E 0 cell log s) (λ p=>.bc [z p.1,z p.2]):=by
 generalize A:kT l E 0 cell log s=aK;refine sX func170 ntmps170 λ w cl own kf=>?_
 refine go ?_;refine bL (λ p:Nat×af=>s.made<=p.2.made/\p.2.made<=log.length/\log.length-p.2.made<p.1/\kq l E 0 cell p.1 log p.2=aK) (λ p=>⟨[(0,.ptr 11 0),(1,z 0),(2,z cell)],bX l E log p.2,[]⟩) (λ p=>p.1) (log.length+1-s.made,s) ⟨Nat.le_refl _,hm,by simp only;omega,A⟩ (zX) ?_;rintro⟨k,t⟩ ⟨cw,bB,ij,A⟩;simp only at cw bB ij A;obtain⟨k,rfl⟩:∃j,k=j+1:=⟨k-1,by omega⟩;refine(show aJ _ _ _ _ ⟨[(0,.ptr 11 0),(1,z 0),(2,z cell)],bX l E log t,[]⟩ from ?_);rw[kq] at A;refine go ?_;refine xP (dV l E log t cell bB M) ?_;rintro d O ⟨v,s1,bJ,fB,cN,rfl,rfl⟩;rw[au bJ,au eC] at A;have eM:=g9 bJ;refine go ?_;refine lA (im l E s1 (by omega)) ?_;refine go ?_;refine xP (dV l E log s1 l.era cN M) ?_;rintro d O ⟨er,s2,bg,eK,cn,rfl,rfl⟩;rw[au bg] at A;have g8:=g9 bg;refine go ?_;refine bf (gh aw rfl rfl rfl rfl rfl (by omega) (by omega)) rfl rfl rfl ?_;refine go ?_;generalize u:decide (er=s2.e0)=cc;cases cc
 ·rw[if_neg (show¬er=s2.e 0 from of_decide_eq_false u)] at A;refine go ?_;refine dW 12 [] ?_;refine gQ (ke l hL E 0 (by omega)) ?_;refine xP (gM l E log s2 (b7 l E 0) er cn M) ?_;rintro d O ⟨aa,s3,bR,eQ,ci,rfl,rfl⟩;rw[au bR] at A;have gC:=qi bR;refine go ?_;refine bf (gh aw rfl rfl rfl rfl rfl (by omega) (by omega)) rfl rfl rfl ?_;refine go ?_;exact⟨(k,{s3 with e0:=er}),⟨by simp only;omega,by simp only;omega,by simp only;omega,A⟩,by simp only;omega,zX⟩
 ·rw[if_pos (show er=s2.e 0 from of_decide_eq_true u)] at A;refine go ?_;exact fX _ ⟨_,s2,A.symm,by omega,cn,rfl,rfl⟩
set_option maxHeartbeats 4000000 in
theorem jk(l:ab)(hL:bQ l)(E:Int)(log:List aB)(s:af)(hm:s.made<=log.length)(M:log.length<=1000000):fH 176 l E log s [.ptr 11 0] (fZ l E log s) (λ _=>.bc []):=by
 generalize A:fZ l E log s=aK;unfold fZ at A;refine sX func176 ntmps176 λ w cl own kf=>?_
 refine go ?_;refine bL (λ p:Nat×af=>p.1<=3/\s.made<=p.2.made/\p.2.made<=log.length/\ge l E p.1 ([s.e0,s.e1,s.e2].drop p.1) log p.2=aK) (λ p=>⟨[(8,z p.1),(7,.agg [z s.e0,z s.e1,z s.e2]),(0,.ptr 11 0)],bX l E log p.2,[]⟩) (λ p=>3-p.1) (0,s) ⟨by simp only;omega,Nat.le_refl _,hm,A⟩ (zX) ?_;rintro⟨i,t⟩ ⟨Z,cw,bB,A⟩;simp only at Z cw bB A;rcases(show i=0\/i=1\/i=2\/i=3 by omega) with rfl|rfl|rfl|rfl
 ·refine(show aJ _ _ _ _ ⟨[(8,z 0),(7,.agg [z s.e0,z s.e1,z s.e2]),(0,.ptr 11 0)],bX l E log t,[]⟩ from ?_);have A:(db l E 0 s.e0).bind (λ _=>ge l E 1 ([s.e0,s.e1,s.e2].drop 1)) log t=aK:=A;refine go ?_;refine cz (λ u=>?_) (λ u=>?_)<;>try rw[u]
  ·refine go ?_;refine bf (tm aw (z s.e0) rfl rfl rfl rfl rfl rfl (by omega) (by omega) rfl) rfl rfl rfl ?_;refine go ?_;generalize D:decide (s.e0=0)=cc;cases cc
   ·rw[db,if_neg (of_decide_eq_false D)] at A;refine go ?_;refine dW 11 [] ?_;refine gQ (ke l hL E 0 (by omega)) ?_;refine xX (gM l E log t (b7 l E 0) 0 bB M) ?_ ?_
    ·rintro v O ⟨a,U,h,rfl,rfl⟩;refine gP ?_;exact fP _ ⟨a,U,by rw[<-A];exact bl (bl h),rfl,rfl⟩
    rintro d O ⟨aa,s1,bJ,fB,cN,rfl,rfl⟩;have lv:ge l E 1 ([s.e0,s.e1,s.e2].drop 1) log {s1 with e0:=0}=aK:=by rw[<-A];exact(au (f:=λ _=>ge l E 1 ([s.e0,s.e1,s.e2].drop 1)) (au (f:=λ _=>n7 0) bJ)).symm
    refine go ?_;refine bf (gh aw rfl rfl rfl rfl rfl (by omega) (by omega)) rfl rfl rfl ?_;refine go ?_;exact⟨(1,{s1 with e0:=0}),⟨by simp only;omega,by simp only;omega,by simp only;omega,lv⟩,by simp only;omega,zX⟩
   ·rw[db,if_pos (of_decide_eq_true D)] at A;refine go ?_;exact⟨(1,t),⟨by simp only;omega,cw,bB,A⟩,by simp only;omega,zX⟩
  ·exact absurd u (by decide)
 ·refine(show aJ _ _ _ _ ⟨[(8,z 1),(7,.agg [z s.e0,z s.e1,z s.e2]),(0,.ptr 11 0)],bX l E log t,[]⟩ from ?_);have A:(db l E 1 s.e1).bind (λ _=>ge l E 2 ([s.e0,s.e1,s.e2].drop 2)) log t=aK:=A;refine go ?_;refine cz (λ u=>?_) (λ u=>?_)<;>try rw[u]
  ·refine go ?_;refine bf (tm aw (z s.e1) rfl rfl rfl rfl rfl rfl (by omega) (by omega) rfl) rfl rfl rfl ?_;refine go ?_;generalize D:decide (s.e1=0)=cc;cases cc
   ·rw[db,if_neg (of_decide_eq_false D)] at A;refine go ?_;refine dW 11 [] ?_;refine gQ (ke l hL E 1 (by omega)) ?_;refine xX (gM l E log t (b7 l E 1) 0 bB M) ?_ ?_
    ·rintro v O ⟨a,U,h,rfl,rfl⟩;refine gP ?_;exact fP _ ⟨a,U,by rw[<-A];exact bl (bl h),rfl,rfl⟩
    rintro d O ⟨aa,s1,bJ,fB,cN,rfl,rfl⟩;have lv:ge l E 2 ([s.e0,s.e1,s.e2].drop 2) log {s1 with e1:=0}=aK:=by rw[<-A];exact(au (f:=λ _=>ge l E 2 ([s.e0,s.e1,s.e2].drop 2)) (au (f:=λ _=>n7 1) bJ)).symm
    refine go ?_;refine bf (gh aw rfl rfl rfl rfl rfl (by omega) (by omega)) rfl rfl rfl ?_;refine go ?_;exact⟨(2,{s1 with e1:=0}),⟨by simp only;omega,by simp only;omega,by simp only;omega,lv⟩,by simp only;omega,zX⟩
   ·rw[db,if_pos (of_decide_eq_true D)] at A;refine go ?_;exact⟨(2,t),⟨by simp only;omega,cw,bB,A⟩,by simp only;omega,zX⟩
  ·exact absurd u (by decide)
 ·refine(show aJ _ _ _ _ ⟨[(8,z 2),(7,.agg [z s.e0,z s.e1,z s.e2]),(0,.ptr 11 0)],bX l E log t,[]⟩ from ?_);have A:(db l E 2 s.e2).bind (λ _=>ge l E 3 ([s.e0,s.e1,s.e2].drop 3)) log t=aK:=A;refine go ?_;refine cz (λ u=>?_) (λ u=>?_)<;>try rw[u]
  ·refine go ?_;refine bf (tm aw (z s.e2) rfl rfl rfl rfl rfl rfl (by omega) (by omega) rfl) rfl rfl rfl ?_;refine go ?_;generalize D:decide (s.e2=0)=cc;cases cc
   ·rw[db,if_neg (of_decide_eq_false D)] at A;refine go ?_;refine dW 11 [] ?_;refine gQ (ke l hL E 2 (by omega)) ?_;refine xX (gM l E log t (b7 l E 2) 0 bB M) ?_ ?_
    ·rintro v O ⟨a,U,h,rfl,rfl⟩;refine gP ?_;exact fP _ ⟨a,U,by rw[<-A];exact bl (bl h),rfl,rfl⟩
    rintro d O ⟨aa,s1,bJ,fB,cN,rfl,rfl⟩;have lv:ge l E 3 ([s.e0,s.e1,s.e2].drop 3) log {s1 with e2:=0}=aK:=by rw[<-A];exact(au (f:=λ _=>ge l E 3 ([s.e0,s.e1,s.e2].drop 3)) (au (f:=λ _=>n7 2) bJ)).symm
    refine go ?_;refine bf (gh aw rfl rfl rfl rfl rfl (by omega) (by omega)) rfl rfl rfl ?_;refine go ?_;exact⟨(3,{s1 with e2:=0}),⟨by simp only;omega,by simp only;omega,by simp only;omega,lv⟩,by simp only;omega,zX⟩
   ·rw[db,if_pos (of_decide_eq_true D)] at A;refine go ?_;exact⟨(3,t),⟨by simp only;omega,cw,bB,A⟩,by simp only;omega,zX⟩
  ·exact absurd u (by decide)
 ·refine(show aJ _ _ _ _ ⟨[(8,z 3),(7,.agg [z s.e0,z s.e1,z s.e2]),(0,.ptr 11 0)],bX l E log t,[]⟩ from ?_);refine go ?_;refine cz (λ u=>?_) (λ u=>?_)<;>try rw[u]
  ·exact absurd u (by decide)
  ·refine go ?_;exact fX _ ⟨(),t,A.symm,cw,bB,rfl,rfl⟩
theorem AQ(r f g0 g1:Int):aW prog 199 [z r,.el [pI f],.el [pI g0,pI g1]] (dB (hx f g1 r)):=by
 refine sP func199 ntmps199 λ w cl=>?_
 refine go ?_;generalize u:decide (f<=r)=cc;cases cc
 ·refine gf ?_;rw[hx,u];rfl
 ·refine go ?_;refine bf (yV aw rfl rfl rfl rfl rfl (by omega) (by omega) rfl) rfl rfl rfl ?_;refine gf ?_;rw[hx,u];rfl
abbrev qv(f g0 g1:Int):F:=.fn (.func 199) [] [.el [pI f],.el [pI g0,pI g1]]
set_option maxHeartbeats 4000000 in
theorem BU(aM:List Int)(hh:aM.length<=1000000)(f g0 g1:Int):aW prog 217 [aV aM,qv f g0 g1] (z (lr (hx f g1) aM 0)):=by
 generalize A:lr (hx f g1) aM 0=aK;refine sP func217 ntmps217 λ w cl=>?_
 refine go ?_;refine bL (λ i:Nat=>i<=aM.length/\lr (hx f g1) (aM.drop i) i=aK) (λ i=>⟨[(8,z i),(7,z aM.length),(6,aV aM),(0,aV aM),(1,qv f g0 g1)],[],[]⟩) (λ i=>aM.length-i) 0 ⟨Nat.zero_le _,A⟩ (zX) ?_;rintro i ⟨Z,A⟩;refine go ?_;refine cz (λ u=>?_) (λ u=>?_)<;>try rw[u]
 ·have aN:=of_decide_eq_true u;have dw:i<aM.length:=by omega
  obtain⟨x,T⟩:=j3 (l:=aM) (i:=i) (by omega) aN;have G:aM.drop i=x::aM.drop (i+1):=by rw[List.drop_eq_getElem_cons dw];simp only[Int.toNat_natCast] at T;rw[(List.getElem?_eq_some_iff.1 T).2]
  rw[G,lr] at A;refine go ?_;refine ai [pI x] (gK T) ?_;refine go ?_;refine bf (tV (AQ x f g0 g1) rfl (λ a w=>call199 a w) rfl rfl) rfl rfl rfl ?_;refine go ?_;generalize D:hx f g1 x=cc;cases cc
  ·rw[D,if_neg (by decide)] at A;refine go ?_;exact⟨i+1,⟨by omega,A⟩,by omega,zX⟩
  ·rw[D,if_pos rfl] at A;refine gf ?_;rw[A]
 ·have dw:aM.length<=i:=by have:=of_decide_eq_false u;omega
  rw[List.drop_of_length_le dw,lr] at A;refine gf ?_;rw[<-A]
theorem AS(aM:List Int)(hh:aM.length<=1000000)(f g0 g1:Int):aW prog 196 [aV aM,qv f g0 g1] (dB (aM.any (hx f g1))):=by
 refine sP func196 ntmps196 λ w cl=>?_
 refine gA (BU aM hh f g0 g1) ?_;refine dt ?_;rw[<-Dp _ aM 0]
set_option maxHeartbeats 8000000 in
theorem xu(l:ab)(hL:bQ l)(E:Int)(log:List aB)(s:af)(n:Int)(hn:n<9223372036854775808)(eO:ee s.gone)(gz:s.gone.length<=10000)(hm:s.made<=log.length)(M:log.length<=1000000):fH 181 l E log s [.ptr 11 0,z n] (kg l n log s) (λ _=>.bc []):=by
 have ph:=hL.aA;unfold kM at ph;generalize A:kg l n log s=aK;unfold kg at A;refine sX func181 ntmps181 λ w cl own kf=>?_
 refine go ?_;refine xP (dV l E log s l.era hm M) ?_;rintro d O ⟨er,s1,bJ,fB,cN,rfl,rfl⟩;rw[au bJ] at A;have eM:=fm bJ;refine go ?_;refine gW 10 [] ?_;refine vP (oq l E log s1 ⟨4,l.era,0,1⟩ cN M) ?_;rintro d O ⟨dr,s2,bg,eK,cn,rfl,rfl⟩;rw[au bg] at A;have dS:s2.gone=s.gone:=by rw[(sF bg).1,eM.1]
 rw[dS] at A;have rX:s.made<=s2.made:=by omega
 clear bJ bg eM fB eK cN;refine go ?_;refine CW 0 (ol s2.gone (by rw[dS];omega)) rfl (λ a w=>call71 a w) rfl rfl rfl rfl rfl (EW _) ?_;refine go ?_;refine ln aw rfl rfl rfl rfl rfl rfl rfl rfl rfl rfl rfl rfl rfl (by rw[dS];unfold maxLen;omega) (by show(_+_)*16<=_;rw[dS];omega) ?_;refine gG ?_;refine mg ?_;refine da (nV 11 (aO:=me l E {s2 with gone:=s.gone++[(n,er)]}) rfl (by
  show List.map kJ _=_;have e:tD (s.gone++[(n,er)])=.sl false (s.gone.length+1) (fp s.gone++[pI n,pI er]):=by rw[tD,xf,List.length_append];rfl
  simp only[List.map,kJ,wU,dS,me,cT];rw[e])) ?_
 generalize un:s.gone++[(n,er)]=gN at A;have LR:gN.length=s.gone.length+1:=by rw[<-un];simp
 have Bs:ee gN:=by
  intro p hp;rw[<-un] at hp;rcases List.mem_append.1 hp with hp|hp
  ·exact eO p hp
  ·simp at hp;rw[hp];exact hn
 have ew:IntKind.i64.wrap (2*l.aA)=2*l.aA:=d6 (by omega) (by omega);refine da (bS:=⟨[(0,.ptr 11 0)],bX l E log {s2 with gone:=gN},[]⟩) (zX) ?_;generalize gC:({s2 with gone:=gN}:af)=s3 at A⊢;have ci:s3.made<=log.length:=by rw[<-gC];exact cn
 have eQ:s.made<=s3.made:=by rw[<-gC];exact rX
 have gX:s3.gone=gN:=by rw[<-gC]
 refine go ?_;refine gD [] ?_;rw[ew];refine qg ?_;rw[gX];generalize u:decide ((gN.length:Int)<2*l.aA)=cc;cases cc
 ·have aN:=of_decide_eq_false u;rw[if_neg (by omega),rc] at A;refine go ?_;refine da (gO 5 0 3 1 rfl rfl rfl) ?_;refine bL (λ p:Nat×List Int×Nat×af=>p.1+p.2.2.1=l.aA.toNat/\p.2.1.length=3*p.1/\s.made<=p.2.2.2.made/\p.2.2.2.made<=log.length/\p.2.2.2.gone=gN/\(jy p.2.1 (je l p.1 p.2.2.1)).bind (λ aM=>(eU l aM gN []).bind λ aY=>iG aY) log p.2.2.2=aK) (λ p=>⟨[(62,z p.1),(61,z l.aA),(5,.aU 0 p.2.1.length (aZ p.2.1)),(0,.ptr 11 0)],bX l E log p.2.2.2,[(0,⟨3,1,p.2.1.length⟩)]⟩) (λ p=>p.2.2.1) (0,[],l.aA.toNat,s3) ⟨by simp,rfl,eQ,ci,gX,A⟩ (zX) ?_;rintro⟨j,acc,m,t⟩ ⟨hj,ly,cw,bB,eH,A⟩;simp only at hj ly cw bB eH A;refine(show aJ _ _ _ _ ⟨[(62,z j),(61,z l.aA),(5,.aU 0 acc.length (aZ acc)),(0,.ptr 11 0)],bX l E log t,[(0,⟨3,1,acc.length⟩)]⟩ from ?_);refine go ?_;refine cz (λ D=>?_) (λ D=>?_)<;>try rw[D]
  ·have bd:=of_decide_eq_true D;obtain⟨m,rfl⟩:∃k,m=k+1:=⟨m-1,by omega⟩;rw[je] at A;refine go ?_;refine bL (λ q:Nat×List Int×af=>q.1<=3/\q.2.1.length=3*j+q.1/\s.made<=q.2.2.made/\q.2.2.made<=log.length/\q.2.2.gone=gN/\(jy q.2.1 (([b7 l j 0,b7 l j 1,b7 l j 2].drop q.1)++je l (j+1) m)).bind (λ aM=>(eU l aM gN []).bind λ aY=>iG aY) log q.2.2=aK) (λ q=>⟨[(65,z q.1),(62,z j),(61,z l.aA),(6,z j),(5,.aU 0 q.2.1.length (aZ q.2.1)),(0,.ptr 11 0)],bX l E log q.2.2,[(0,⟨3,1,q.2.1.length⟩)]⟩) (λ q=>3-q.1) (0,acc,t) ⟨by simp only;omega,by simp only;omega,cw,bB,eH,A⟩ (zX) ?_;rintro⟨i,ac,t⟩ ⟨Z,Bf,cw,bB,eH,A⟩;simp only at Z Bf cw bB eH A;rcases(show i=0\/i=1\/i=2\/i=3 by omega) with rfl|rfl|rfl|rfl
   ·refine(show aJ _ _ _ _ ⟨[(65,z 0),(62,z j),(61,z l.aA),(6,z j),(5,.aU 0 ac.length (aZ ac)),(0,.ptr 11 0)],bX l E log t,[(0,⟨3,1,ac.length⟩)]⟩ from ?_);have A:((cy (b7 l j 0)).bind λ v=>jy (ac++[v]) (([b7 l j 0,b7 l j 1,b7 l j 2].drop 1)++je l (j+1) m)).bind (λ aM=>(eU l aM gN []).bind λ aY=>iG aY) log t=aK:=A;rw[bind_assoc] at A;refine go ?_;refine cz (λ K=>?_) (λ K=>?_)<;>try rw[K]
    ·refine gA (ke l hL j 0 (by omega)) ?_;refine xP (dV l E log t (b7 l j 0) bB M) ?_;rintro d O ⟨v,s4,ct,iB,ef,rfl,rfl⟩;rw[au ct] at A;have iO:s4.gone=gN:=by rw[(fm ct).1];exact eH
     refine go ?_;refine pA rfl ?_;rw[ku,show ac.length+1=(ac++[v]).length by simp];refine go ?_;exact⟨(1,ac++[v],s4),⟨by simp only;omega,by simp only[List.length_append,List.length_cons,List.length_nil];omega,by simp only;omega,ef,iO,A⟩,by simp only;omega,zX⟩
    ·exact absurd K (by decide)
   ·refine(show aJ _ _ _ _ ⟨[(65,z 1),(62,z j),(61,z l.aA),(6,z j),(5,.aU 0 ac.length (aZ ac)),(0,.ptr 11 0)],bX l E log t,[(0,⟨3,1,ac.length⟩)]⟩ from ?_);have A:((cy (b7 l j 1)).bind λ v=>jy (ac++[v]) (([b7 l j 0,b7 l j 1,b7 l j 2].drop 2)++je l (j+1) m)).bind (λ aM=>(eU l aM gN []).bind λ aY=>iG aY) log t=aK:=A;rw[bind_assoc] at A;refine go ?_;refine cz (λ K=>?_) (λ K=>?_)<;>try rw[K]
    ·refine gA (ke l hL j 1 (by omega)) ?_;refine xP (dV l E log t (b7 l j 1) bB M) ?_;rintro d O ⟨v,s4,ct,iB,ef,rfl,rfl⟩;rw[au ct] at A;have iO:s4.gone=gN:=by rw[(fm ct).1];exact eH
     refine go ?_;refine pA rfl ?_;rw[ku,show ac.length+1=(ac++[v]).length by simp];refine go ?_;exact⟨(2,ac++[v],s4),⟨by simp only;omega,by simp only[List.length_append,List.length_cons,List.length_nil];omega,by simp only;omega,ef,iO,A⟩,by simp only;omega,zX⟩
    ·exact absurd K (by decide)
   ·refine(show aJ _ _ _ _ ⟨[(65,z 2),(62,z j),(61,z l.aA),(6,z j),(5,.aU 0 ac.length (aZ ac)),(0,.ptr 11 0)],bX l E log t,[(0,⟨3,1,ac.length⟩)]⟩ from ?_);have A:((cy (b7 l j 2)).bind λ v=>jy (ac++[v]) (([b7 l j 0,b7 l j 1,b7 l j 2].drop 3)++je l (j+1) m)).bind (λ aM=>(eU l aM gN []).bind λ aY=>iG aY) log t=aK:=A;rw[bind_assoc] at A;refine go ?_;refine cz (λ K=>?_) (λ K=>?_)<;>try rw[K]
    ·refine gA (ke l hL j 2 (by omega)) ?_;refine xP (dV l E log t (b7 l j 2) bB M) ?_;rintro d O ⟨v,s4,ct,iB,ef,rfl,rfl⟩;rw[au ct] at A;have iO:s4.gone=gN:=by rw[(fm ct).1];exact eH
     refine go ?_;refine pA rfl ?_;rw[ku,show ac.length+1=(ac++[v]).length by simp];refine go ?_;exact⟨(3,ac++[v],s4),⟨by simp only;omega,by simp only[List.length_append,List.length_cons,List.length_nil];omega,by simp only;omega,ef,iO,A⟩,by simp only;omega,zX⟩
    ·exact absurd K (by decide)
   ·refine(show aJ _ _ _ _ ⟨[(65,z 3),(62,z j),(61,z l.aA),(6,z j),(5,.aU 0 ac.length (aZ ac)),(0,.ptr 11 0)],bX l E log t,[(0,⟨3,1,ac.length⟩)]⟩ from ?_);refine go ?_;refine cz (λ K=>?_) (λ K=>?_)<;>try rw[K]
    ·exact absurd K (by decide)
    ·refine go ?_;exact⟨(j+1,ac,m,t),⟨by simp only;omega,by simp only;omega,cw,bB,eH,A⟩,by simp only;omega,zX⟩
  ·have bd:=of_decide_eq_false D;obtain rfl:m=0:=by omega
   have A:((eU l acc gN []).bind λ aY=>iG aY) log t=aK:=A;subst eH;refine da (wV 5 (dH:=aV acc) rfl rfl) ?_;refine go ?_;refine da (gO 8 1 110 2 rfl rfl rfl) ?_;refine bL (λ q:Nat×List (Int×Int)×af=>q.1<=t.gone.length/\q.2.1.length<=q.1/\s.made<=q.2.2.made/\q.2.2.made<=log.length/\((eU l acc (t.gone.drop q.1) q.2.1).bind λ aY=>iG aY) log q.2.2=aK) (λ q=>⟨[(87,z q.1),(86,z t.gone.length),(85,cT t.gone),(8,.aU 1 q.2.1.length (fp q.2.1)),(5,aV acc),(0,.ptr 11 0)],bX l E log q.2.2,[(1,⟨110,2,q.2.1.length⟩)]⟩) (λ q=>t.gone.length-q.1) (0,[],t) ⟨Nat.zero_le _,Nat.le_refl _,cw,bB,A⟩ (zX) ?_;rintro⟨i,aY,aa⟩ ⟨Z,iS,r6,kZ,A⟩;simp only at Z iS r6 kZ A;refine(show aJ _ _ _ _ ⟨[(87,z i),(86,z t.gone.length),(85,cT t.gone),(8,.aU 1 aY.length (fp aY)),(5,aV acc),(0,.ptr 11 0)],bX l E log aa,[(1,⟨110,2,aY.length⟩)]⟩ from ?_);refine go ?_;refine cz (λ K=>?_) (λ K=>?_)<;>try rw[K]
   ·have cK:=of_decide_eq_true K;have dw:i<t.gone.length:=by omega
    obtain⟨gg,nf⟩:=j3 (l:=t.gone) (i:=i) (by omega) cK;have uo:=Bs gg (List.mem_of_getElem? nf);have G:t.gone.drop i=gg::t.gone.drop (i+1):=by rw[List.drop_eq_getElem_cons dw];simp only[Int.toNat_natCast] at nf;rw[(List.getElem?_eq_some_iff.1 nf).2]
    rw[G,eU,bind_assoc] at A;refine go ?_;refine ai [pI gg.1,pI gg.2] (uh nf) ?_;refine go ?_;refine bf (gh aw rfl rfl rfl rfl rfl (by omega) (by omega)) rfl rfl rfl ?_;refine go ?_;refine lA (fY l hL E aa gg.1 6 uo (by omega)) ?_;refine go ?_;refine xP (dV l E log aa (am l gg.1 6) kZ M) ?_;rintro d O ⟨bi,s5,di,j6,ej,rfl,rfl⟩;rw[au di] at A;refine go ?_;refine bf (ED rfl rfl rfl) rfl rfl rfl ?_;refine(show bp _ _ _ _ _ ⟨(97,z (p5 bi))::_,_,_⟩ from ?_);refine go ?_;refine lA (AS acc (by omega) (p5 bi) gg.1 gg.2) ?_;refine go ?_;generalize h4:acc.any (hx (p5 bi) gg.2)=cc;cases cc
    ·rw[h4,if_neg (by decide),bind_assoc] at A;refine go ?_;refine bf (gh aw rfl rfl rfl rfl rfl (by omega) (by omega)) rfl rfl rfl ?_;refine go ?_;refine xP (uf l hL E log s5 gg.1 uo ej M) ?_;rintro d O ⟨uu,s6,jv,sW,l4,rfl,rfl⟩;rw[au jv] at A;refine go ?_;exact⟨(i+1,aY,s6),⟨by simp only;omega,by simp only;omega,by simp only;omega,l4,A⟩,by simp only;omega,zX⟩
    ·rw[h4,if_pos rfl] at A;refine go ?_;refine pA rfl ?_;rw[<-xf aY gg,show aY.length+1=(aY++[gg]).length by simp];refine go ?_;exact⟨(i+1,aY++[gg],s5),⟨by simp only;omega,by simp only[List.length_append,List.length_cons,List.length_nil];omega,by simp only;omega,ej,A⟩,by simp only;omega,zX⟩
   ·have cK:=of_decide_eq_false K;rw[List.drop_of_length_le (by omega),eU] at A;have A:(Except.ok ((),{aa with gone:=aY}):Except aS (Unit×af))=aK:=A;refine da (wV 8 (dH:=cT aY) rfl rfl) ?_;refine go ?_;exact fX _ ⟨(),{aa with gone:=aY},A.symm,r6,kZ,rfl,rfl⟩
 ·have aN:=of_decide_eq_true u;rw[if_pos (by omega)] at A;refine go ?_;exact fX _ ⟨(),s3,A.symm,eQ,ci,rfl,rfl⟩
theorem ra(g:List (Int×Int))(hg:g.length<=100000):aW prog 131 [cT g] (.bc [eW eF,jm ⟨0,false,1,-1,g⟩,dB true]):=by
 refine sP func131 ntmps131 λ w cl=>?_
 refine gA ((ol g hg).pure) ?_;refine dt ?_
 rfl
theorem AH(l:ab)(E:Int)(g:List (Int×Int))(log:List aB):d8 prog 132 [] [cF l,z E,cT g,fS log] [] (λ d O=>d=.ptr 11 0/\O=bX l E log ⟨0,g,0,0,0⟩):=by
 refine sI func132 ntmps132 λ w cl own kf=>?_
 refine gm ?_;refine bA 0 ?_;refine bA 13 ?_;refine mq aw rfl rfl rfl rfl ?_;refine jK ?_;refine gm ?_;refine mq aw rfl rfl rfl rfl ?_;refine mq aw rfl rfl rfl rfl ?_;refine mq aw rfl rfl rfl rfl ?_;refine bf (ya aw rfl rfl rfl) rfl rfl rfl ?_;refine bA 11 ?_;refine nA 12 ?_;refine go ?_;refine gU (bX l E log ⟨0,g,0,0,0⟩) rfl rfl (by(repeat(first|exact trivial|refine⟨⟨rfl,rfl⟩,?_⟩))) trivial ?_;exact⟨rfl,rfl⟩
theorem xl{e:ay}{vs:List Value}(a:aS)(o:br)(dn:Bool)(hI:fG (iF a (nn o) dn) e)(hv:DReps e vs [.ptr 22 0,.ptr 21 0,.ptr 23 0,.ptr 24 0]):
 CallsD prog 182 vs.toArray .returning e.w λ r u2 aH=>∃V ag,r=.returned (.tuple #[])/\u2=.returning/\V.w=aH/\fG ag V/\Left [21,22,23,24] e V/\ag=iF a (nn o) dn:=by
 refine uU (ah:=tb) func182 rfl ntmps182 rfl rfl rfl (by(repeat(first|exact trivial|refine⟨rfl,?_⟩))) (λ _ _=>rfl) (λ _=>rfl) rfl rfl .no (λ w cl own kf=>?_) hI hv;refine go ?_;refine bf (Ej underlying20 rfl rfl) rfl rfl rfl ?_;refine go ?_;refine jn (iF a (nn o) dn) rfl rfl (by(repeat(first|exact trivial|refine⟨⟨rfl,rfl⟩,?_⟩))) (by(repeat(first|exact trivial|refine⟨rfl,?_⟩))) rfl
theorem xm{e:ay}{vs:List Value}(a bu:aS)(od:List F)(X:od=[z 0,dB false,z 0,z 0,.p (.sl true 0 [])])(dn:Bool)(hI:fG (iF a od dn) e)(hv:DReps e vs [.ptr 22 0,.ptr 21 0,.ptr 23 0,.ptr 24 0]):
 CallsD prog 182 vs.toArray (.panicking [pe (hk bu)]) e.w λ r u2 aH=>∃V ag,r=.returned (.tuple #[])/\u2=.panicking [{v:=hk bu,recovered:=true}]/\V.w=aH/\fG ag V/\Left [21,22,23,24] e V/\ag=iF bu od dn:=by
 subst X;refine uU (ah:=tb) func182 rfl ntmps182 rfl rfl rfl (by(repeat(first|exact trivial|refine⟨rfl,?_⟩))) (λ _ _=>rfl) (λ _=>rfl) rfl rfl (.yes (hk bu)) (λ w cl own kf=>?_) hI hv;refine go ?_;refine bf (Ek underlying20 rfl rfl) rfl rfl rfl ?_;refine go ?_;refine bf (C0 aw rfl rfl rfl rfl) rfl rfl rfl ?_;refine go ?_;refine jn (iF bu _ dn) rfl rfl (by(repeat(first|exact trivial|refine⟨⟨rfl,rfl⟩,?_⟩))) (by(repeat(first|exact trivial|refine⟨rfl,?_⟩))) rfl
theorem DI(l:ab)(M:bQ l)(c:Int):aW prog 75 [cF l,z c] (z (gV l c)):=by
 have e1:=M.chan;have e2:=M.aL;refine sP func75 ntmps75 λ w cl=>?_
 refine gA (vi l.chan l.aL 2 c 0 e1 e2 (by omega) (by omega)) ?_;refine dt ?_
 rfl
theorem PH(l:ab)(M:bQ l)(c:Int):aW prog 76 [cF l,z c] (z (mU l c)):=by
 have e1:=M.chan;have e2:=M.aL;refine sP func76 ntmps76 λ w cl=>?_
 refine gA (vi l.chan l.aL 2 c 1 e1 e2 (by omega) (by omega)) ?_;refine dt ?_
 rfl
def pr(a:Int)(n i:Nat):List Int:=(List.range (n-i)).map λ(j:Nat)=>a+i+j
theorem Jf{a:Int}{n i:Nat}(h:i<n):pr a n i=(a+i)::pr a n (i+1):=by
 unfold pr;obtain⟨k,J⟩:∃k,n-i=k+1:=⟨n-i-1,by omega⟩;rw[J,show n-(i+1)=k by omega,List.range_succ_eq_map,List.map_cons,List.map_map]
 congr 1
 ·omega
 ·apply List.map_congr_left;intro j _;simp only[Function.comp];omega
theorem Jg{a:Int}{n i:Nat}(h:n<=i):pr a n i=[]:=by unfold pr;rw[show n-i=0 by omega];rfl
set_option maxHeartbeats 4000000 in
theorem R3(l:ab)(hL:bQ l)(E:Int)(log:List aB)(s:af)(n v:Int)(hn:n<9223372036854775808)(wM:0<=v)(wN:v<4294967296)(hm:s.made<=log.length)(M:log.length<=1000000):fH 179 l E log s [.ptr 11 0,z n,z v] (ud l n v log s) (λ _=>.bc []):=by
 generalize A:ud l n v log s=aK;unfold ud at A;refine sX func179 ntmps179 λ w cl own kf=>?_
 refine go ?_;refine lA (fY l hL E s n 0 (by omega) (by omega)) ?_;refine go ?_;refine xP (gM l E log s (am l n 0) 0 hm M) ?_;rintro d O ⟨aa,s1,bJ,fB,cN,rfl,rfl⟩;rw[au bJ] at A;refine go ?_;refine lA (fY l hL E s1 n 1 (by omega) (by omega)) ?_;refine go ?_;refine xP (gM l E log s1 (am l n 1) (v+2) cN M) ?_;rintro d O ⟨aa,s2,bg,eK,cn,rfl,rfl⟩;rw[au bg,show[2,3,4,5]=pr 2 4 0 by decide] at A;refine go ?_;refine bL (λ p:Nat×af=>p.1<=4/\s.made<=p.2.made/\p.2.made<=log.length/\rC l n (pr 2 4 p.1) log p.2=aK) (λ p=>⟨[(19,z p.1),(0,.ptr 11 0),(1,z n)],bX l E log p.2,[]⟩) (λ p=>4-p.1) (0,s2) ⟨by simp only;omega,by simp only;omega,cn,A⟩ (zX) ?_;rintro⟨i,t⟩ ⟨Z,cw,bB,A⟩;simp only at Z cw bB A;refine(show aJ _ _ _ _ ⟨[(19,z i),(0,.ptr 11 0),(1,z n)],bX l E log t,[]⟩ from ?_);refine go ?_;refine cz (λ u=>?_) (λ u=>?_)<;>try rw[u]
 ·have aN:=of_decide_eq_true u;rw[Jf (by omega),rC] at A;refine go ?_;refine lA (fY l hL E t n (2+(i:Int)) (by omega) (by omega)) ?_;refine go ?_;refine xP (gM l E log t (am l n (2+(i:Int))) 0 bB M) ?_;rintro d O ⟨aa,s3,bR,eQ,ci,rfl,rfl⟩;have lv:rC l n (pr 2 4 (i+1)) log s3=aK:=by rw[<-A];exact(au (f:=λ _=>rC l n (pr 2 4 (i+1))) bR).symm
  refine go ?_;exact⟨(i+1,s3),⟨by simp only;omega,by simp only;omega,ci,lv⟩,by simp only;omega,zX⟩
 ·have aN:=of_decide_eq_false u;rw[Jg (by omega),rC] at A;refine go ?_;exact fX _ ⟨_,t,A.symm,cw,bB,rfl,rfl⟩
abbrev xy(l:ab)(E:Int)(log:List aB)(tl v bW:Int)(s:af):bH:=[(11,me l E s),(12,[.ptr 11 0]),(13,[fS log]),(14,[.ptr 11 0]),(15,[z tl]),(16,[z v]),(17,[z bW])]
def Qj(l:ab)(E:Int)(log:List aB)(tl v:Int)(s:af)(m:Except aS ((Option br×Int)×af)):F->bH->Prop:=λ d O=>∃r U,m=.ok (r,U)/\s.made<U.made/\U.made<=log.length/\U.gone=s.gone/\0<=r.2/\r.2<65536/\d=.bc [kC (r.1.getD lH),dB r.1.isSome]/\O=xy l E log tl v r.2 U
def Qk(l:ab)(E:Int)(log:List aB)(tl v:Int)(m:Except aS ((Option br×Int)×af)):Value->bH->Prop:=λ x O=>∃a U bW,m=.error a/\x=hk a/\O=xy l E log tl v bW U
theorem ue{l:ab}{n:Int}:∀{k:Nat}{log:List aB}{s U:af}{aa:Unit},lu l n k log s=.ok (aa,U)->U.gone=s.gone
 |0,log,s,U,aa,h=>by cases h;rfl
 |k+1,log,s,U,aa,h=>by
  rw[lu] at h;cases u:cy l.free log s with
  |error a=>rw[bl u] at h;cases h
  |ok q=>
   obtain⟨fr,s1⟩:=q;rw[au u] at h;have g1:s1.gone=s.gone:=by rw[(fm u).1]
   cases D:fa (am l n 7) (az fr).idx log s1 with
   |error a=>rw[bl D] at h;cases h
   |ok q=>
    obtain⟨lk,s2⟩:=q;rw[au D] at h;have g2:s2.gone=s.gone:=by rw[(mT D).1];exact g1
    cases K:fv l.free fr (dJ (eo (az fr) n)) log s2 with
    |error a=>rw[bl K] at h;cases h
    |ok q=>
     obtain⟨ok,s3⟩:=q;rw[au K] at h;have g3:s3.gone=s.gone:=by rw[(ir K).1];exact g2
     split at h
     ·cases h;exact g3
     ·exact(ue h).trans g3
theorem K3{l:ab}{n:Int}:∀{is:List Int}{log:List aB}{s U:af}{aa:Unit},rC l n is log s=.ok (aa,U)->U.gone=s.gone
 |[],log,s,U,aa,h=>by cases h;rfl
 |i::is,log,s,U,aa,h=>by
  rw[rC] at h;cases D:fa (am l n i) 0 log s with
  |error a=>rw[bl D] at h;cases h
  |ok q=>obtain⟨lk,s2⟩:=q;rw[au D] at h;exact(K3 h).trans (by rw[(mT D).1])
theorem R0{l:ab}{n v:Int}{log:List aB}{s U:af}{aa:Unit}(h:ud l n v log s=.ok (aa,U)):U.gone=s.gone:=by
 rw[ud] at h;cases u:fa (am l n 0) 0 log s with
 |error a=>rw[bl u] at h;cases h
 |ok q=>
  obtain⟨u1,s1⟩:=q;rw[au u] at h;cases D:fa (am l n 1) (v+2) log s1 with
  |error a=>rw[bl D] at h;cases h
  |ok q=>obtain⟨u2,s2⟩:=q;rw[au D] at h;rw[K3 h,(mT D).1,(mT u).1]
theorem CO{l:ab}:∀{k:Nat}{log:List aB}{s U:af}{p:Int×Int×Bool},mV l k log s=.ok (p,U)->0<=p.1
 |0,log,s,U,p,h=>by cases h;simp
 |k+1,log,s,U,p,h=>by
  rw[mV] at h;cases u:cy l.free log s with
  |error a=>rw[bl u] at h;cases h
  |ok q=>
   obtain⟨fr,s1⟩:=q;rw[au u] at h;split at h
   ·rw[au eC] at h;cases h;simp
   ·cases D:cy (am l (az fr).idx 7) log s1 with
    |error a=>rw[bl D] at h;cases h
    |ok q=>
     obtain⟨lk,s2⟩:=q;rw[au D] at h;cases K:fv l.free fr (dJ (eo (az fr) lk)) log s2 with
     |error a=>rw[bl K] at h;cases h
     |ok q=>
      obtain⟨ok,s3⟩:=q;rw[au K] at h;split at h
      ·rw[au eC] at h;cases h4:cy l.era log s3 with
       |error a=>rw[bl h4] at h;cases h
       |ok q=>
        obtain⟨bi,s4⟩:=q;rw[au h4] at h;cases h5:fa (am l (az fr).idx 6) bi log s4 with
        |error a=>rw[bl h5] at h;cases h
        |ok q=>obtain⟨aa,s5⟩:=q;rw[au h5] at h;cases h;exact(j8 fr).1
      ·exact CO h
set_option maxHeartbeats 8000000 in
theorem Yr(l:ab)(hL:bQ l)(E:Int)(log:List aB)(s:af)(tl v bW:Int)(wM:0<=v)(wN:v<4294967296)(kW:0<=bW)(lD:bW<65536)(hm:s.made<=log.length)(M:log.length<=1000000):
 fu prog 169 [11,12,13,14,15,16,17] [.ptr 14 0,.ptr 15 0,.ptr 16 0,.ptr 17 0] (xy l E log tl v bW s) (Qj l E log tl v s (xU l E tl v bW log s)) (Qk l E log tl v (xU l E tl v bW log s)):=by
 generalize A:xU l E tl v bW log s=aK;unfold xU at A;refine sX func169 ntmps169 λ w cl own kf=>?_
 refine go ?_;refine xX (yr l hL E log s tl hm M) ?_ ?_
 ·rintro v O ⟨a,U,h,rfl,rfl⟩;refine gP ?_;exact fP _ ⟨a,U,bW,by rw[<-A];exact bl h,rfl,rfl⟩
 rintro d O ⟨p,s1,bJ,fB,cN,rfl,rfl⟩;rw[au bJ] at A;have i8:s1.gone=s.gone:=yu bJ;obtain⟨bO,at_⟩:=p;simp only at A;have bV:=j8 bO;have cZ:=q6 bO;refine gA (jS bO) ?_;generalize hF:(λ o:Option Int=>match o with
  |some a=>if bW=0 then(fZ l E).bind λ _=>Pm.pure (some (⟨0,true,0,a,[]⟩:br),bW) else(m8 l bW).bind λ _=>(fZ l E).bind λ _=>Pm.pure (some ⟨0,true,0,a,[]⟩,bW)
  |none=>(cy (am l (az bO).idx 0)).bind λ next=>if next=0 then(if bW=0 then(qk l).bind λ t=>if t.2.2=true then(ud l t.1 v).bind λ _=>vF l E tl bO t.1 else(fZ l E).bind λ _=>Pm.pure (some ⟨0,false,8,t.2.1,[]⟩,bW) else vF l E tl bO bW)
   else(fv tl bO (dJ (eo (az bO) next))).bind λ _=>Pm.pure (none,bW))=Fk at A
 rw[show zu=pr 1 5 0 by decide] at A;refine bL (λ p:Nat×af=>p.1<=5/\s.made<=p.2.made/\p.2.made<=log.length/\p.2.gone=s.gone/\(xk l (az bO).idx v (pr 1 5 p.1)).bind Fk log p.2=aK) (λ p=>⟨[(25,z p.1),(0,.ptr 14 0),(1,.ptr 15 0),(2,.ptr 16 0),(3,.ptr 17 0),(4,.ptr 7 0),(6,z bO),(8,.ptr 8 0)],(8,[z (az bO).idx,dB (az bO).mark,z (az bO).pH])::(7,[z 0,dB false,z 0,z 0,.p (.sl true 0 [])])::xy l E log tl v bW p.2,[]⟩) (λ p=>5-p.1) (0,s1) ⟨by simp only;omega,by simp only;omega,cN,i8,A⟩ (zX) ?_;rintro⟨i,t⟩ ⟨Z,cw,bB,eH,A⟩;simp only at Z cw bB eH A;refine(show aJ _ _ _ _ ⟨[(25,z i),(0,.ptr 14 0),(1,.ptr 15 0),(2,.ptr 16 0),(3,.ptr 17 0),(4,.ptr 7 0),(6,z bO),(8,.ptr 8 0)],(8,[z (az bO).idx,dB (az bO).mark,z (az bO).pH])::(7,[z 0,dB false,z 0,z 0,.p (.sl true 0 [])])::xy l E log tl v bW t,[]⟩ from ?_);refine go ?_;refine cz (λ u=>?_) (λ u=>?_)<;>try rw[u]
 ·have aN:=of_decide_eq_true u;rw[Jf (by omega),xk,bind_assoc] at A;refine go ?_;refine lA (fY l hL E t (az bO).idx (1+(i:Int)) (by omega) (by omega)) ?_;refine go ?_;refine xX (dV l E log t (am l (az bO).idx (1+(i:Int))) bB M) ?_ ?_
  ·rintro v O ⟨a,U,h,rfl,rfl⟩;refine gP ?_;exact fP _ ⟨a,U,bW,by rw[<-A];exact bl h,rfl,rfl⟩
  rintro d O ⟨x,s2,bg,eK,cn,rfl,rfl⟩;rw[au bg] at A;have dS:s2.gone=s.gone:=by rw[(fm bg).1];exact eH
  have g8:=g9 bg;refine go ?_;generalize D:decide (x=0)=cc;cases cc
  ·rw[if_neg (of_decide_eq_false D)] at A;refine go ?_;exact⟨(i+1,s2),⟨by simp only;omega,by simp only;omega,cn,dS,A⟩,by simp only;omega,zX⟩
  ·rw[if_pos (of_decide_eq_true D),bind_assoc] at A;refine go ?_;refine xX (iu l E log s2 (am l (az bO).idx (1+(i:Int))) 0 (v+2) cn M) ?_ ?_
   ·rintro v O ⟨a,U,h,rfl,rfl⟩;refine gP ?_;exact fP _ ⟨a,U,bW,by rw[<-A];exact bl h,rfl,rfl⟩
   rintro d O ⟨gL,s3,bR,eQ,ci,rfl,rfl⟩;rw[au bR] at A;have gC:=ky bR;have gX:s3.gone=s.gone:=by rw[(ir bR).1];exact dS
   refine go ?_;cases gL
   ·rw[if_neg (by decide)] at A;refine go ?_;exact⟨(i+1,s3),⟨by simp only;omega,by simp only;omega,ci,gX,A⟩,by simp only;omega,zX⟩
   ·rw[if_pos rfl,bind_assoc,au eC] at A;have A:Fk (some ((s3.made:Int)-1)) log s3=aK:=A;rw[<-hF] at A;simp only at A;refine go ?_;refine lA (im l E s3 (by omega)) ?_;refine go ?_;generalize K:decide (bW=0)=cc;cases cc
    ·rw[if_neg (of_decide_eq_false K)] at A;refine go ?_;refine xX (uf l hL E log s3 bW (by omega) ci M) ?_ ?_
     ·rintro v O ⟨a,U,h,rfl,rfl⟩;refine gP ?_;exact fP _ ⟨a,U,bW,by rw[<-A];exact bl h,rfl,rfl⟩
     rintro d O ⟨aa,s4,ct,iB,ef,rfl,rfl⟩;rw[au ct] at A;have iO:s4.gone=s.gone:=(ue ct).trans gX;refine go ?_;refine xX (jk l hL E log s4 ef M) ?_ ?_
     ·rintro v O ⟨a,U,h,rfl,rfl⟩;refine gP ?_;exact fP _ ⟨a,U,bW,by rw[<-A];exact bl h,rfl,rfl⟩
     rintro d O ⟨aa,s5,di,j6,ej,rfl,rfl⟩;rw[au di] at A;have jq:s5.gone=s.gone:=(i6 di).trans iO;refine go ?_;exact fX _ ⟨_,s5,A.symm,by omega,ej,jq,kW,lD,rfl,rfl⟩
    ·rw[if_pos (of_decide_eq_true K)] at A;refine go ?_;refine xX (jk l hL E log s3 ci M) ?_ ?_
     ·rintro v O ⟨a,U,h,rfl,rfl⟩;refine gP ?_;exact fP _ ⟨a,U,bW,by rw[<-A];exact bl h,rfl,rfl⟩
     rintro d O ⟨aa,s5,di,j6,ej,rfl,rfl⟩;rw[au di] at A;have jq:s5.gone=s.gone:=(i6 di).trans gX;refine go ?_;exact fX _ ⟨_,s5,A.symm,by omega,ej,jq,kW,lD,rfl,rfl⟩
 ·have aN:=of_decide_eq_false u;rw[Jg (by omega),xk] at A;have A:Fk none log t=aK:=A;rw[<-hF] at A;simp only at A;refine go ?_;refine gW 5 [] ?_;refine lQ (fY l hL E t (az bO).idx 0 (by omega) (by omega)) ?_;refine ba ?_;refine xX (dV l E log t (am l (az bO).idx 0) bB M) ?_ ?_
  ·rintro v O ⟨a,U,h,rfl,rfl⟩;refine gP ?_;exact fP _ ⟨a,U,bW,by rw[<-A];exact bl h,rfl,rfl⟩
  rintro d O ⟨next,s2,bg,eK,cn,rfl,rfl⟩;rw[au bg] at A;have dS:s2.gone=s.gone:=by rw[(fm bg).1];exact eH
  have g8:=g9 bg;refine go ?_;generalize D:decide (next=0)=cc;cases cc
  ·rw[if_neg (of_decide_eq_false D)] at A;refine go ?_;refine dW 7 [] ?_;refine gQ (oI (az bO) next cZ.1 cZ.2) ?_;refine cQ (li (eo (az bO) next)) ?_;refine ba ?_;refine xX (iu l E log s2 tl bO (dJ (eo (az bO) next)) cn M) ?_ ?_
   ·rintro v O ⟨a,U,h,rfl,rfl⟩;refine gP ?_;exact fP _ ⟨a,U,bW,by rw[<-A];exact bl h,rfl,rfl⟩
   rintro d O ⟨gL,s3,bR,eQ,ci,rfl,rfl⟩;rw[au bR] at A;have gX:s3.gone=s.gone:=by rw[(ir bR).1];exact dS
   refine go ?_;exact fX _ ⟨_,s3,A.symm,by omega,ci,gX,kW,lD,rfl,rfl⟩
  ·rw[if_pos (of_decide_eq_true D)] at A;refine go ?_;generalize K:decide (bW=0)=cc;cases cc
   ·rw[if_neg (of_decide_eq_false K),vF] at A;refine go ?_;refine gW 6 [] ?_;refine lQ (fY l hL E s2 (az bO).idx 0 (by omega) (by omega)) ?_;refine ba ?_;refine xX (iu l E log s2 (am l (az bO).idx 0) 0 bW cn M) ?_ ?_
    ·rintro v O ⟨a,U,h,rfl,rfl⟩;refine gP ?_;exact fP _ ⟨a,U,bW,by rw[<-A];exact bl h,rfl,rfl⟩
    rintro d O ⟨gL,s3,bR,eQ,ci,rfl,rfl⟩;rw[au bR] at A;have gX:s3.gone=s.gone:=by rw[(ir bR).1];exact dS
    have gC:=ky bR;refine go ?_;cases gL
    ·rw[if_neg (by decide)] at A;refine go ?_;exact fX _ ⟨_,s3,A.symm,by omega,ci,gX,kW,lD,rfl,rfl⟩
    ·rw[if_pos rfl,au eC] at A;refine go ?_;refine lA (im l E s3 (by omega)) ?_;refine go ?_;refine dW 7 [] ?_;refine gQ (oI (az bO) bW cZ.1 cZ.2) ?_;refine cQ (li (eo (az bO) bW)) ?_;refine ba ?_;refine xX (iu l E log s3 tl bO (dJ (eo (az bO) bW)) ci M) ?_ ?_
     ·rintro v O ⟨a,U,h,rfl,rfl⟩;refine gP ?_;exact fP _ ⟨a,U,bW,by rw[<-A];exact bl h,rfl,rfl⟩
     rintro d O ⟨IR,s4,ct,iB,ef,rfl,rfl⟩;rw[au ct] at A;have iO:s4.gone=s.gone:=by rw[(ir ct).1];exact gX
     refine go ?_;refine xX (jk l hL E log s4 ef M) ?_ ?_
     ·rintro v O ⟨a,U,h,rfl,rfl⟩;refine gP ?_;exact fP _ ⟨a,U,bW,by rw[<-A];exact bl h,rfl,rfl⟩
     rintro d O ⟨aa,s5,di,j6,ej,rfl,rfl⟩;rw[au di] at A;have jq:s5.gone=s.gone:=(i6 di).trans iO;refine go ?_;exact fX _ ⟨_,s5,A.symm,by omega,ej,jq,kW,lD,rfl,rfl⟩
   ·rw[if_pos (of_decide_eq_true K)] at A;refine go ?_;refine xX (CP l hL E log s2 cn M) ?_ ?_
    ·rintro v O ⟨a,U,h,rfl,rfl⟩;refine gP ?_;exact fP _ ⟨a,U,bW,by rw[<-A];exact bl h,rfl,rfl⟩
    rintro d O ⟨p,s3,bR,eQ,ci,rfl,rfl⟩;rw[au bR] at A;have D5:=CN bR;have gX:s3.gone=s.gone:=D5.2.trans dS;have BK:=CO bR;obtain⟨n,QV,gL⟩:=p;simp only at A D5 BK;refine go ?_;cases gL
    ·rw[if_neg (by decide)] at A;refine go ?_;refine xX (jk l hL E log s3 ci M) ?_ ?_
     ·rintro v O ⟨a,U,h,rfl,rfl⟩;refine gP ?_;exact fP _ ⟨a,U,bW,by rw[<-A];exact bl h,rfl,rfl⟩
     rintro d O ⟨aa,s4,ct,iB,ef,rfl,rfl⟩;rw[au ct] at A;have iO:s4.gone=s.gone:=(i6 ct).trans gX;refine go ?_;exact fX _ ⟨_,s4,A.symm,by omega,ef,iO,kW,lD,rfl,rfl⟩
    ·rw[if_pos rfl] at A;refine go ?_;refine xX (R3 l hL E log s3 n v (by omega) wM wN ci M) ?_ ?_
     ·rintro v O ⟨a,U,h,rfl,rfl⟩;refine gP ?_;exact fP _ ⟨a,U,n,by rw[<-A];exact bl h,rfl,rfl⟩
     rintro d O ⟨aa,s4,ct,iB,ef,rfl,rfl⟩;rw[au ct] at A;have iO:s4.gone=s.gone:=(R0 ct).trans gX;rw[vF] at A;refine go ?_;refine gW 6 [] ?_;refine lQ (fY l hL E s4 (az bO).idx 0 (by omega) (by omega)) ?_;refine ba ?_;refine xX (iu l E log s4 (am l (az bO).idx 0) 0 n ef M) ?_ ?_
     ·rintro v O ⟨a,U,h,rfl,rfl⟩;refine gP ?_;exact fP _ ⟨a,U,n,by rw[<-A];exact bl h,rfl,rfl⟩
     rintro d O ⟨gL,s5,di,j6,ej,rfl,rfl⟩;rw[au di] at A;have jq:s5.gone=s.gone:=by rw[(ir di).1];exact iO
     have HZ:=ky di;refine go ?_;cases gL
     ·rw[if_neg (by decide)] at A;refine go ?_;exact fX _ ⟨_,s5,A.symm,by omega,ej,jq,BK,D5.1,rfl,rfl⟩
     ·rw[if_pos rfl,au eC] at A;refine go ?_;refine lA (im l E s5 (by omega)) ?_;refine go ?_;refine dW 7 [] ?_;refine gQ (oI (az bO) n cZ.1 cZ.2) ?_;refine cQ (li (eo (az bO) n)) ?_;refine ba ?_;refine xX (iu l E log s5 tl bO (dJ (eo (az bO) n)) ej M) ?_ ?_
      ·rintro v O ⟨a,U,h,rfl,rfl⟩;refine gP ?_;exact fP _ ⟨a,U,n,by rw[<-A];exact bl h,rfl,rfl⟩
      rintro d O ⟨IR,s6,jv,sW,l4,rfl,rfl⟩;rw[au jv] at A;have qJ:s6.gone=s.gone:=by rw[(ir jv).1];exact jq
      refine go ?_;refine xX (jk l hL E log s6 l4 M) ?_ ?_
      ·rintro v O ⟨a,U,h,rfl,rfl⟩;refine gP ?_;exact fP _ ⟨a,U,n,by rw[<-A];exact bl h,rfl,rfl⟩
      rintro d O ⟨aa,s7,nQ,Bz,sY,rfl,rfl⟩;rw[au nQ] at A;have Tk:s7.gone=s.gone:=(i6 nQ).trans qJ;refine go ?_;exact fX _ ⟨_,s7,A.symm,by omega,sY,Tk,BK,D5.1,rfl,rfl⟩
theorem xA{l:ab}{aM:List Int}:∀{gs aY:List (Int×Int)}{log:List aB}{s U:af}{r:List (Int×Int)},eU l aM gs aY log s=.ok (r,U)->ee gs->ee aY->ee r
 |[],aY,log,s,U,r,h,_,D=>by cases h;exact D
 |g::gs,aY,log,s,U,r,h,u,D=>by
  have aN:ee gs:=λ p hp=>u p (List.mem_cons_of_mem _ hp)
  rw[eU] at h;cases k1:cy (am l g.1 6) log s with
  |error a=>rw[bl k1] at h;cases h
  |ok q=>
   obtain⟨b,s1⟩:=q;rw[au k1] at h;split at h
   ·exact xA h aN (λ p hp=>by
     rw[List.mem_append,List.mem_singleton] at hp;rcases hp with hp|rfl
     ·exact D p hp
     ·exact u _ (by simp))
   ·cases k2:m8 l g.1 log s1 with
    |error a=>rw[bl k2] at h;cases h
    |ok q=>obtain⟨aa,s2⟩:=q;rw[au k2] at h;exact xA h aN D
theorem GQ{g:List (Int×Int)}{n e:Int}(h:ee g)(hn:n<9223372036854775808):ee (g++[(n,e)]):=by
 intro p hp;rw[List.mem_append,List.mem_singleton] at hp;rcases hp with hp|rfl
 ·exact h p hp
 ·exact hn
theorem Cy{l:ab}{n:Int}{log:List aB}{s U:af}{aa:Unit}(h:kg l n log s=.ok (aa,U))(hg:ee s.gone)(hn:n<9223372036854775808):ee U.gone:=by
 unfold kg at h;cases u:cy l.era log s with
 |error a=>rw[bl u] at h;cases h
 |ok q=>
  obtain⟨er,s1⟩:=q;rw[au u] at h;have g1:s1.gone=s.gone:=by rw[(fm u).1]
  cases D:fw ⟨4,l.era,0,1⟩ log s1 with
  |error a=>rw[bl D] at h;cases h
  |ok q=>
   obtain⟨r,s2⟩:=q;rw[au D] at h;have g2:s2.gone=s.gone:=by rw[(sF D).1];exact g1
   have hq:ee (s2.gone++[(n,er)]):=by rw[g2];exact GQ hg hn
   split at h
   ·cases h;exact hq
   ·unfold rc at h;cases K:jy [] (je l 0 l.aA.toNat) log {s2 with gone:=s2.gone++[(n,er)]} with
    |error a=>rw[bl K] at h;cases h
    |ok q=>
     obtain⟨aM,s3⟩:=q;rw[au K] at h;cases h4:eU l aM (s2.gone++[(n,er)]) [] log s3 with
     |error a=>rw[bl h4] at h;cases h
     |ok q=>obtain⟨aY,s4⟩:=q;rw[au h4] at h;unfold iG at h;cases h;exact xA h4 hq (λ p hp=>by simp at hp)
abbrev xq(l:ab)(E:Int)(log:List aB)(G tl:Int)(s:af):bH:=[(11,me l E s),(12,[.ptr 11 0]),(13,[fS log]),(14,[.ptr 11 0]),(15,[z G]),(16,[z tl])]
def Qg(l:ab)(E:Int)(log:List aB)(G tl:Int)(s:af)(m:Except aS (Option br×af)):F->bH->Prop:=λ d O=>∃r U,m=.ok (r,U)/\s.made<U.made/\U.made<=log.length/\ee U.gone/\U.gone.length+s.made<=s.gone.length+U.made/\d=.bc [kC (r.getD lH),dB r.isSome]/\O=xq l E log G tl U
def Qh(l:ab)(E:Int)(log:List aB)(G tl:Int)(m:Except aS (Option br×af)):Value->bH->Prop:=λ x O=>∃a U,m=.error a/\x=hk a/\O=xq l E log G tl U
set_option maxHeartbeats 8000000 in
theorem XQ(l:ab)(hL:bQ l)(E:Int)(log:List aB)(s:af)(G tl:Int)(eO:ee s.gone)(gz:s.gone.length<=10000)(hm:s.made<=log.length)(M:log.length<=1000000):
 fu prog 180 [11,12,13,14,15,16] [.ptr 14 0,.ptr 15 0,.ptr 16 0] (xq l E log G tl s) (Qg l E log G tl s (xT l E G tl log s)) (Qh l E log G tl (xT l E G tl log s)):=by
 generalize A:xT l E G tl log s=aK;unfold xT at A;refine sX func180 ntmps180 λ w cl own kf=>?_
 refine go ?_;refine xP (yr l hL E log s G hm M) ?_;rintro d O ⟨p,s1,bJ,fB,cN,rfl,rfl⟩;rw[au bJ] at A;have i8:s1.gone=s.gone:=yu bJ;obtain⟨bO,at_⟩:=p;simp only at A;have bV:=j8 bO;have cZ:=q6 bO;refine gA (jS bO) ?_;generalize hF:(λ o:Option br=>match o with
  |some o=>(fZ l E).bind λ _=>Pm.pure (some o)
  |none=>(cy (am l (az bO).idx 0)).bind λ next=>if next=0 then k9.bind λ a=>(fZ l E).bind λ _=>Pm.pure (some (⟨0,false,0,a,[]⟩:br))
   else(cy tl).bind λ en=>if(az en).idx=(az bO).idx then(fv tl en (dJ (eo (az en) next))).bind λ _=>vE l E G bO next else vE l E G bO next)=Fk at A
 rw[show zu=pr 1 5 0 by decide] at A;refine bL (λ p:Nat×af=>p.1<=5/\s.made<=p.2.made/\p.2.made<=log.length/\p.2.gone=s.gone/\(xj l (az bO).idx (pr 1 5 p.1)).bind Fk log p.2=aK) (λ p=>⟨[(24,z p.1),(0,.ptr 14 0),(1,.ptr 15 0),(2,.ptr 16 0),(3,.ptr 6 0),(5,z bO),(7,.ptr 7 0)],(7,[z (az bO).idx,dB (az bO).mark,z (az bO).pH])::(6,[z 0,dB false,z 0,z 0,.p (.sl true 0 [])])::xq l E log G tl p.2,[]⟩) (λ p=>5-p.1) (0,s1) ⟨by simp only;omega,by simp only;omega,cN,i8,A⟩ (zX) ?_;rintro⟨i,t⟩ ⟨Z,cw,bB,eH,A⟩;simp only at Z cw bB eH A;refine(show aJ _ _ _ _ ⟨[(24,z i),(0,.ptr 14 0),(1,.ptr 15 0),(2,.ptr 16 0),(3,.ptr 6 0),(5,z bO),(7,.ptr 7 0)],(7,[z (az bO).idx,dB (az bO).mark,z (az bO).pH])::(6,[z 0,dB false,z 0,z 0,.p (.sl true 0 [])])::xq l E log G tl t,[]⟩ from ?_);refine go ?_;refine cz (λ u=>?_) (λ u=>?_)<;>try rw[u]
 ·have aN:=of_decide_eq_true u;rw[Jf (by omega),xj,bind_assoc] at A;refine go ?_;refine lA (fY l hL E t (az bO).idx (1+(i:Int)) (by omega) (by omega)) ?_;refine go ?_;refine xP (dV l E log t (am l (az bO).idx (1+(i:Int))) bB M) ?_;rintro d O ⟨x,s2,bg,eK,cn,rfl,rfl⟩;rw[au bg,bind_assoc,au eC] at A;have g8:=g9 bg;have dS:s2.gone=s.gone:=by rw[(fm bg).1];exact eH
  refine go ?_;refine lA (im l E s2 (by omega)) ?_;refine go ?_;generalize D:decide (x=0)=cc;cases cc
  ·rw[if_neg (of_decide_eq_false D)] at A;refine go ?_;generalize K:decide (x=1)=cc;cases cc
   ·rw[if_neg (of_decide_eq_false K),bind_assoc] at A;refine go ?_;refine xP (iu l E log s2 (am l (az bO).idx (1+(i:Int))) x 1 cn M) ?_;rintro d O ⟨gL,s3,bR,eQ,ci,rfl,rfl⟩;rw[au bR] at A;have gC:=ky bR;have gX:s3.gone=s.gone:=by rw[(ir bR).1];exact dS
    refine go ?_;cases gL
    ·rw[if_neg (by decide)] at A;refine go ?_;exact⟨(i+1,s3),⟨by simp only;omega,by simp only;omega,ci,gX,A⟩,by simp only;omega,zX⟩
    ·rw[if_pos rfl,bind_assoc,au eC] at A;have A:Fk (some ⟨Am (x-2),true,0,(s3.made:Int)-1,[]⟩) log s3=aK:=A;rw[<-hF] at A;simp only at A;refine go ?_;refine lA (im l E s3 (by omega)) ?_;refine go ?_;refine xP (jk l hL E log s3 ci M) ?_;rintro d O ⟨aa,s5,di,j6,ej,rfl,rfl⟩;rw[au di] at A;have jq:s5.gone=s.gone:=(i6 di).trans gX;refine go ?_;rw[wrap64];refine go ?_;exact fX _ ⟨_,s5,A.symm,by omega,ej,by rw[jq];exact eO,by rw[jq];omega,rfl,rfl⟩
   ·rw[if_pos (of_decide_eq_true K)] at A;refine go ?_;exact⟨(i+1,s2),⟨by simp only;omega,by simp only;omega,cn,dS,A⟩,by simp only;omega,zX⟩
  ·rw[if_pos (of_decide_eq_true D)] at A;have A:Fk (some ⟨0,false,0,(s2.made:Int)-1,[]⟩) log s2=aK:=A;rw[<-hF] at A;simp only at A;refine go ?_;refine xP (jk l hL E log s2 cn M) ?_;rintro d O ⟨aa,s5,di,j6,ej,rfl,rfl⟩;rw[au di] at A;have jq:s5.gone=s.gone:=(i6 di).trans dS;refine go ?_;exact fX _ ⟨_,s5,A.symm,by omega,ej,by rw[jq];exact eO,by rw[jq];omega,rfl,rfl⟩
 ·have aN:=of_decide_eq_false u;rw[Jg (by omega),xj] at A;have A:Fk none log t=aK:=A;rw[<-hF] at A;simp only at A;refine go ?_;refine gW 5 [] ?_;refine lQ (fY l hL E t (az bO).idx 0 (by omega) (by omega)) ?_;refine ba ?_;refine xP (dV l E log t (am l (az bO).idx 0) bB M) ?_;rintro d O ⟨next,s2,bg,eK,cn,rfl,rfl⟩;rw[au bg] at A;have g8:=g9 bg;have dS:s2.gone=s.gone:=by rw[(fm bg).1];exact eH
  refine go ?_;generalize D:decide (next=0)=cc;cases cc
  ·rw[if_neg (of_decide_eq_false D)] at A;refine go ?_;refine xP (dV l E log s2 tl cn M) ?_;rintro d O ⟨en,s3,bR,eQ,ci,rfl,rfl⟩;rw[au bR] at A;have gX:s3.gone=s.gone:=by rw[(fm bR).1];exact dS
   have Eg:=q6 en;refine gA (jS en) ?_;generalize K:decide ((az en).idx=(az bO).idx)=cc;cases cc
   ·rw[if_neg (of_decide_eq_false K)] at A;refine go ?_;rw[vE] at A;refine dW 7 [] ?_;refine gQ (oI (az bO) next cZ.1 cZ.2) ?_;refine cQ (li (eo (az bO) next)) ?_;refine ba ?_;refine xP (iu l E log s3 G bO (dJ (eo (az bO) next)) ci M) ?_;rintro d O ⟨gL,s5,di,j6,ej,rfl,rfl⟩;rw[au di] at A;have jq:s5.gone=s.gone:=by rw[(ir di).1];exact gX
    have HZ:=ky di;refine go ?_;cases gL
    ·rw[if_neg (by decide)] at A;refine go ?_;exact fX _ ⟨_,s5,A.symm,by omega,ej,by rw[jq];exact eO,by rw[jq];omega,rfl,rfl⟩
    ·rw[if_pos rfl] at A;refine go ?_;refine xP (jk l hL E log s5 ej M) ?_;rintro d O ⟨aa,s6,jv,sW,l4,rfl,rfl⟩;rw[au jv] at A;have qJ:s6.gone=s.gone:=(i6 jv).trans jq;refine go ?_;refine xP (xu l hL E log s6 (az bO).idx (by omega) (by rw[qJ];exact eO) (by rw[qJ];exact gz) l4 M) ?_;rintro d O ⟨aa,s7,nQ,Bz,sY,rfl,rfl⟩;rw[au nQ] at A;have iC:=Cx nQ;have l8:=Cy nQ (by rw[qJ];exact eO) (by omega);rw[qJ] at iC;refine go ?_;exact fX _ ⟨_,s7,A.symm,by omega,sY,l8,by omega,rfl,rfl⟩
   ·rw[if_pos (of_decide_eq_true K)] at A;refine go ?_;refine dW 7 [] ?_;refine gQ (oI (az en) next Eg.1 Eg.2) ?_;refine cQ (li (eo (az en) next)) ?_;refine ba ?_;refine xP (iu l E log s3 tl en (dJ (eo (az en) next)) ci M) ?_;rintro d O ⟨NZ,s4,ct,iB,ef,rfl,rfl⟩;rw[au ct] at A;have iO:s4.gone=s.gone:=by rw[(ir ct).1];exact gX
    have UE:=ky ct;refine go ?_;rw[vE] at A;refine dW 7 [] ?_;refine gQ (oI (az bO) next cZ.1 cZ.2) ?_;refine cQ (li (eo (az bO) next)) ?_;refine ba ?_;refine xP (iu l E log s4 G bO (dJ (eo (az bO) next)) ef M) ?_;rintro d O ⟨gL,s5,di,j6,ej,rfl,rfl⟩;rw[au di] at A;have jq:s5.gone=s.gone:=by rw[(ir di).1];exact iO
    have HZ:=ky di;refine go ?_;cases gL
    ·rw[if_neg (by decide)] at A;refine go ?_;exact fX _ ⟨_,s5,A.symm,by omega,ej,by rw[jq];exact eO,by rw[jq];omega,rfl,rfl⟩
    ·rw[if_pos rfl] at A;refine go ?_;refine xP (jk l hL E log s5 ej M) ?_;rintro d O ⟨aa,s6,jv,sW,l4,rfl,rfl⟩;rw[au jv] at A;have qJ:s6.gone=s.gone:=(i6 jv).trans jq;refine go ?_;refine xP (xu l hL E log s6 (az bO).idx (by omega) (by rw[qJ];exact eO) (by rw[qJ];exact gz) l4 M) ?_;rintro d O ⟨aa,s7,nQ,Bz,sY,rfl,rfl⟩;rw[au nQ] at A;have iC:=Cx nQ;have l8:=Cy nQ (by rw[qJ];exact eO) (by omega);rw[qJ] at iC;refine go ?_;exact fX _ ⟨_,s7,A.symm,by omega,sY,l8,by omega,rfl,rfl⟩
  ·rw[if_pos (of_decide_eq_true D),au eC] at A;refine go ?_;refine lA (im l E s2 (by omega)) ?_;refine go ?_;refine xP (jk l hL E log s2 cn M) ?_;rintro d O ⟨aa,s5,di,j6,ej,rfl,rfl⟩;rw[au di] at A;have jq:s5.gone=s.gone:=(i6 di).trans dS;refine go ?_;exact fX _ ⟨_,s5,A.symm,by omega,ej,by rw[jq];exact eO,by rw[jq];omega,rfl,rfl⟩
abbrev O3:F:=.fn (.func 169) [] [.ptr 14 0,.ptr 15 0,.ptr 16 0,.ptr 17 0]
abbrev OF:F:=.fn (.func 180) [] [.ptr 14 0,.ptr 15 0,.ptr 16 0]
abbrev u9(l:ab)(E:Int)(log:List aB)(tl v bW:Int)(s:af):bH:=[(11,me l E s),(12,[.ptr 11 0]),(13,[fS log]),(14,[.ptr 11 0]),(15,[z tl]),(16,[z v]),(17,[z bW]),(18,[O3])]
abbrev uT(l:ab)(E:Int)(log:List aB)(G tl:Int)(s:af):bH:=[(11,me l E s),(12,[.ptr 11 0]),(13,[fS log]),(14,[.ptr 11 0]),(15,[z G]),(16,[z tl]),(18,[OF])]
theorem Ys(l:ab)(E:Int)(log:List aB)(s:af)(tl v:Int):d8 prog 133 [11,12,13] [.ptr 11 0,z tl,z v] (bX l E log s) (λ d O=>d=O3/\O=xy l E log tl v 0 s):=by
 refine sI func133 ntmps133 λ w cl own kf=>?_
 refine gm ?_;refine bA 14 ?_;refine bA 15 ?_;refine bA 16 ?_;refine mq aw rfl rfl rfl rfl ?_;refine jK ?_;refine gm ?_;refine nA 17 ?_;refine go ?_;refine gU (xy l E log tl v 0 s) rfl rfl (by(repeat(first|exact trivial|refine⟨⟨rfl,rfl⟩,?_⟩))) (by(repeat(first|exact trivial|refine⟨rfl,?_⟩))) ?_;exact⟨rfl,rfl⟩
theorem XP(l:ab)(E:Int)(log:List aB)(s:af)(G tl:Int):d8 prog 134 [11,12,13] [.ptr 11 0,z G,z tl] (bX l E log s) (λ d O=>d=OF/\O=xq l E log G tl s):=by
 refine sI func134 ntmps134 λ w cl own kf=>?_
 refine gm ?_;refine bA 14 ?_;refine bA 15 ?_;refine bA 16 ?_;refine mq aw rfl rfl rfl rfl ?_;refine jK ?_;refine gm ?_;refine go ?_;refine gU (xq l E log G tl s) rfl rfl (by(repeat(first|exact trivial|refine⟨⟨rfl,rfl⟩,?_⟩))) (by(repeat(first|exact trivial|refine⟨rfl,?_⟩))) ?_;exact⟨rfl,rfl⟩
def J2(l:ab)(E:Int)(log:List aB)(tl v:Int)(s:af)(m:Except aS (br×af)):F->bH->Prop:=λ d O=>∃x U bW,m=.ok (x,U)/\U.gone=s.gone/\d=kC x/\O=u9 l E log tl v bW U
def J3(l:ab)(E:Int)(log:List aB)(tl v:Int)(m:Except aS (br×af)):Value->bH->Prop:=λ y O=>∃a U bW,m=.error a/\y=hk a/\O=u9 l E log tl v bW U
set_option maxHeartbeats 4000000 in
theorem Wd(l:ab)(hL:bQ l)(E:Int)(log:List aB)(s:af)(tl v:Int)(wM:0<=v)(wN:v<4294967296)(hm:s.made<=log.length)(M:log.length<=1000000):
 fu prog 136 [11,12,13,14,15,16,17,18] [.ptr 18 0] (u9 l E log tl v 0 s) (J2 l E log tl v s (Ag l E tl v log s)) (J3 l E log tl v (Ag l E tl v log s)):=by
 generalize A:Ag l E tl v log s=aK;unfold Ag at A;refine sX func136 ntmps136 λ w cl own kf=>?_
 refine go ?_;refine bL (λ p:Nat×Int×af=>s.made<=p.2.2.made/\p.2.2.made<=log.length/\log.length-p.2.2.made<p.1/\p.2.2.gone=s.gone/\0<=p.2.1/\p.2.1<65536/\CC l E tl v p.1 p.2.1 log p.2.2=aK) (λ p=>⟨[(0,.ptr 18 0),(1,.ptr 8 0)],(8,[z 0,dB false,z 0,z 0,.p (.sl true 0 [])])::u9 l E log tl v p.2.1 p.2.2,[]⟩) (λ p=>p.1) (log.length+1-s.made,0,s) ⟨Nat.le_refl _,hm,by simp only;omega,rfl,by simp,by simp,A⟩ (zX) ?_;rintro⟨k,bW,t⟩ ⟨cw,bB,ij,eH,kW,lD,A⟩;simp only at cw bB ij eH kW lD A;obtain⟨k,rfl⟩:∃j,k=j+1:=⟨k-1,by omega⟩;refine(show aJ _ _ _ _ ⟨[(0,.ptr 18 0),(1,.ptr 8 0)],(8,[z 0,dB false,z 0,z 0,.p (.sl true 0 [])])::u9 l E log tl v bW t,[]⟩ from ?_);rw[CC] at A;refine go ?_;refine vX (Yr l hL E log t tl v bW wM wN kW lD bB M) ?_ ?_
 ·rintro y O ⟨a,U,zh,h,rfl,rfl⟩;refine gP ?_;exact fP _ ⟨a,U,zh,by rw[<-A];exact bl h,rfl,rfl⟩
 rintro d O ⟨r,s1,bJ,fB,cN,i8,D7,iC,rfl,rfl⟩;rw[au bJ] at A;obtain⟨ro,zh⟩:=r;simp only at A D7 iC;refine go ?_;cases ro with
 |none=>rw[show((none,zh):Option br×Int).1.isSome=false from rfl];refine go ?_;exact⟨(k,zh,s1),⟨by simp only;omega,cN,by simp only;omega,by simp only;rw[i8];exact eH,D7,iC,A⟩,by simp only;omega,zX⟩
 |some o=>rw[show((some o,zh):Option br×Int).1.isSome=true from rfl];refine go ?_;exact fX _ ⟨o,s1,zh,A.symm,by rw[i8];exact eH,rfl,rfl⟩
def JZ(l:ab)(E:Int)(log:List aB)(G tl:Int)(s:af)(m:Except aS (br×af)):F->bH->Prop:=λ d O=>∃x U,m=.ok (x,U)/\ee U.gone/\U.gone.length+s.made<=s.gone.length+U.made/\U.made<=log.length/\d=kC x/\O=uT l E log G tl U
def J0(l:ab)(E:Int)(log:List aB)(G tl:Int)(m:Except aS (br×af)):Value->bH->Prop:=λ y O=>∃a U,m=.error a/\y=hk a/\O=uT l E log G tl U
set_option maxHeartbeats 4000000 in
theorem Wc(l:ab)(hL:bQ l)(E:Int)(log:List aB)(s:af)(G tl:Int)(eO:ee s.gone)(gz:s.gone.length+log.length<=10000)(hm:s.made<=log.length)(M:log.length<=1000000):
 fu prog 136 [11,12,13,14,15,16,18] [.ptr 18 0] (uT l E log G tl s) (JZ l E log G tl s (zz l E G tl log s)) (J0 l E log G tl (zz l E G tl log s)):=by
 generalize A:zz l E G tl log s=aK;unfold zz at A;refine sX func136 ntmps136 λ w cl own kf=>?_
 refine go ?_;refine bL (λ p:Nat×af=>s.made<=p.2.made/\p.2.made<=log.length/\log.length-p.2.made<p.1/\ee p.2.gone/\p.2.gone.length+s.made<=s.gone.length+p.2.made/\Cs l E G tl p.1 log p.2=aK) (λ p=>⟨[(0,.ptr 18 0),(1,.ptr 7 0)],(7,[z 0,dB false,z 0,z 0,.p (.sl true 0 [])])::uT l E log G tl p.2,[]⟩) (λ p=>p.1) (log.length+1-s.made,s) ⟨Nat.le_refl _,hm,by simp only;omega,eO,Nat.le_refl _,A⟩ (zX) ?_;rintro⟨k,t⟩ ⟨cw,bB,ij,eH,gq,A⟩;simp only at cw bB ij eH gq A;obtain⟨k,rfl⟩:∃j,k=j+1:=⟨k-1,by omega⟩;refine(show aJ _ _ _ _ ⟨[(0,.ptr 18 0),(1,.ptr 7 0)],(7,[z 0,dB false,z 0,z 0,.p (.sl true 0 [])])::uT l E log G tl t,[]⟩ from ?_);rw[Cs] at A;refine go ?_;refine vX (XQ l hL E log t G tl eH (by omega) bB M) ?_ ?_
 ·rintro y O ⟨a,U,h,rfl,rfl⟩;refine gP ?_;exact fP _ ⟨a,U,by rw[<-A];exact bl h,rfl,rfl⟩
 rintro d O ⟨ro,s1,bJ,fB,cN,i8,dS,rfl,rfl⟩;rw[au bJ] at A;refine go ?_;cases ro with
 |none=>rw[show(none:Option br).isSome=false from rfl];refine go ?_;exact⟨(k,s1),⟨by simp only;omega,cN,by simp only;omega,i8,by simp only;omega,A⟩,by simp only;omega,zX⟩
 |some o=>rw[show(some o).isSome=true from rfl];refine go ?_;exact fX _ ⟨o,s1,A.symm,i8,by omega,cN,rfl,rfl⟩
def sq(m:Except aS (br×af)):F->bH->Prop:=λ d O=>O=[]/\((∃x U,m=.ok (x,U)/\d=.bc [eW eF,jm {x with gone:=U.gone},dB true])\/∃a,m=.error a/\d=.bc [eW a,kC lH,dB false])
abbrev t7(a:aS)(od:List F)(dn:Bool):St:=⟨[(4,.ptr 22 0),(5,.ptr 23 0),(6,.ptr 24 0)],iF a od dn,[]⟩
def vr(m:Except aS (br×af))(Γ:bE):Exit->St->Prop:=λ ex I=>(ex=.ret/\∃x U,m=.ok (x,U)/\bF Γ I (t7 eF (nn {x with gone:=U.gone}) true))\/∃a,ex=.panic [pe (hk a)]/\m=.error a/\bF Γ I (t7 eF [z 0,dB false,z 0,z 0,.p (.sl true 0 [])] false)
set_option maxHeartbeats 4000000 in
theorem Xb(l:ab)(E:Int)(log:List aB)(s:af)(tl v:Int)(m:Except aS (br×af))(rT:s.gone.length<=100000)(hC:fu prog 136 [11,12,13,14,15,16,17,18] [.ptr 18 0] (u9 l E log tl v 0 s) (J2 l E log tl v s m) (J3 l E log tl v m)):
 d8 prog 135 [] [.ptr 11 0,.fn (.func 136) [] [.ptr 18 0]] (u9 l E log tl v 0 s) (sq m):=by
 intro e vs hI hv;refine calls_of_wp_defers func135 rfl ?_;have ho:=tg (fn:=f135) (f:=69) (aX:=[]) [] (by decide) trivial hI hv rfl;refine wp_seq (Code.wp_mono (λ ex a1 w1 hh=>?_) (aJ.run (Q:=λ ex I=>ex=.normal/\I=⟨[(6,.ptr 24 0),(5,.ptr 23 0),(4,.ptr 22 0),(2,.ptr 21 0),(0,.ptr 11 0),(1,.fn (.func 136) [] [.ptr 18 0])],(24,[dB false])::(23,[z 0,dB false,z 0,z 0,.p (.sl true 0 [])])::(22,[z 0,z 0,z 0,z 0])::(21,[.ptr 11 0])::u9 l E log tl v 0 s,[]⟩) ?_ _ e ho))
 ·obtain⟨mX,e1,rfl,cb,rfl,rfl⟩:=hh;obtain⟨k1,_,_,b1,_,_⟩:=cb.boxes 21 _ rfl;obtain⟨k2,_,_,b2,_,_⟩:=cb.boxes 22 _ rfl;obtain⟨k3,_,_,b3,_,_⟩:=cb.boxes 23 _ rfl;obtain⟨k4,_,_,b4,_,_⟩:=cb.boxes 24 _ rfl;refine wp_seq (Ao cb rfl rfl rfl rfl rfl rfl rfl rfl [(21,k1),(22,k2),(23,k3),(24,k4)] (λ b k J=>?_) (λ a2 cC cS ez=>?_))
  ·simp only[cL] at J;split at J
   ·rename_i q;cases J;rw[<-q];exact b1
   ·split at J
    ·rename_i q;cases J;rw[<-q];exact b2
    ·split at J
     ·rename_i q;cases J;rw[<-q];exact b3
     ·split at J
      ·rename_i q;cases J;rw[<-q];exact b4
      ·cases J
  ·refine Code.wp_mono (λ ex a3 w3 hh=>?_) (aJ.run (Γ:=⟨18,e.w,e.cl,λ k=>∃b,e.bx b=some k,[(21,k1),(22,k2),(23,k3),(24,k4)],[{target:=.fn (.func 182) cC.toArray,args:=#[]}]⟩) (Q:=vr m ⟨18,e.w,e.cl,λ k=>∃b,e.bx b=some k,[(21,k1),(22,k2),(23,k3),(24,k4)],[{target:=.fn (.func 182) cC.toArray,args:=#[]}]⟩) ?_ a2 e1 ez)
   ·obtain⟨CQ,e3,rfl,ib,hq⟩:=hh;rcases hq with⟨rfl,x,U,hm,eA⟩|⟨a,rfl,hm,eA⟩
    ·skip
     obtain⟨e4,j7,bY⟩:=eA a3 e3 ib;show Leaves prog f135 a3.tmps _ a3.defers .returning e3.w;rw[bY.df,<-j7];have j4:DReps e4 cC [.ptr 22 0,.ptr 21 0,.ptr 23 0,.ptr 24 0]:=⟨cS.1,λ i v d hv G=>by
      match i,hv,G with
      |0,hv,G=>cases G;exact eE (cS.2 0 v _ hv rfl) b2 (bY.env.kb 22 k2 rfl)
      |1,hv,G=>cases G;exact eE (cS.2 1 v _ hv rfl) b1 (bY.env.kb 21 k1 rfl)
      |2,hv,G=>cases G;exact eE (cS.2 2 v _ hv rfl) b3 (bY.env.kb 23 k3 rfl)
      |3,hv,G=>cases G;exact eE (cS.2 3 v _ hv rfl) b4 (bY.env.kb 24 k4 rfl)⟩
     refine p3 bY (λ a w=>call182 a w) j4 rfl (by(repeat(first|exact trivial|refine⟨⟨rfl,rfl⟩,?_⟩))) ⟨.inr rfl,.inr rfl,.inr rfl,.inr rfl,trivial⟩ rfl (by simp) rfl (λ e0 oK u D=>xl eF {x with gone:=U.gone} true u D) (λ ag R=>by subst R;exact⟨.inl rfl,.inl rfl,.inl rfl,.inl rfl,trivial⟩) (λ ag e5 R du=>?_);subst R;obtain⟨v,hr,jx⟩:=n5 aw (fn:=f135) (d:=.bc [eW eF,jm {x with gone:=U.gone},dB true]) du rfl;refine⟨v,hr,v,_,[],e5.cut (aC []) λ _=>false,rfl,rfl,⟨rfl,.inl ⟨x,U,hm,rfl⟩⟩,kB du trivial,jx.cut rfl,⟨du.env.kept,du.env.cl,λ b k J=>?_,λ b R=>by cases R⟩⟩;cases J
    ·skip
     obtain⟨e4,j7,bY⟩:=eA a3 e3 ib;show Leaves prog f135 a3.tmps _ a3.defers (.panicking [pe (hk a)]) e3.w;rw[bY.df,<-j7];have j4:DReps e4 cC [.ptr 22 0,.ptr 21 0,.ptr 23 0,.ptr 24 0]:=⟨cS.1,λ i v d hv G=>by
      match i,hv,G with
      |0,hv,G=>cases G;exact eE (cS.2 0 v _ hv rfl) b2 (bY.env.kb 22 k2 rfl)
      |1,hv,G=>cases G;exact eE (cS.2 1 v _ hv rfl) b1 (bY.env.kb 21 k1 rfl)
      |2,hv,G=>cases G;exact eE (cS.2 2 v _ hv rfl) b3 (bY.env.kb 23 k3 rfl)
      |3,hv,G=>cases G;exact eE (cS.2 3 v _ hv rfl) b4 (bY.env.kb 24 k4 rfl)⟩
     refine p3 bY (λ a w=>call182 a w) j4 rfl (by(repeat(first|exact trivial|refine⟨⟨rfl,rfl⟩,?_⟩))) ⟨.inr rfl,.inr rfl,.inr rfl,.inr rfl,trivial⟩ rfl (by simp) rfl (λ e0 oK u D=>xm eF a _ rfl false u D) (λ ag R=>by subst R;exact⟨.inl rfl,.inl rfl,.inl rfl,.inl rfl,trivial⟩) (λ ag e5 R du=>?_);subst R;obtain⟨v,hr,jx⟩:=n5 aw (fn:=f135) (d:=.bc [eW a,kC lH,dB false]) du rfl;refine⟨v,hr,v,_,[],e5.cut (aC []) λ _=>false,rfl,rfl,⟨rfl,.inr ⟨a,hm,rfl⟩⟩,kB du trivial,jx.cut rfl,⟨du.env.kept,du.env.cl,λ b k J=>?_,λ b R=>by cases R⟩⟩;cases J
   ·refine go ?_;refine vX hC ?_ ?_
    ·rintro v O ⟨a,U,bW,h,rfl,rfl⟩;refine gP ?_;exact .inr ⟨a,rfl,h,bF.trans (pF 21 rfl rfl) (zX)⟩
    rintro d O ⟨x,U,bW,h,wk,rfl,rfl⟩;refine gA ((ol U.gone (by rw[wk];exact rT)).pure) ?_;refine gW 3 [22] ?_;refine go ?_;exact .inl ⟨rfl,x,U,h,bF.trans (pF 21 rfl rfl) (zX)⟩
 ·refine gm ?_;refine bA 21 ?_;refine nA 22 ?_;refine nA 23 ?_;refine nA 24 ?_;exact jK ⟨rfl,rfl⟩
set_option maxHeartbeats 4000000 in
theorem Xa(l:ab)(E:Int)(log:List aB)(s:af)(G tl:Int)(m:Except aS (br×af))(rT:s.gone.length+log.length<=100000)(hC:fu prog 136 [11,12,13,14,15,16,18] [.ptr 18 0] (uT l E log G tl s) (JZ l E log G tl s m) (J0 l E log G tl m)):
 d8 prog 135 [] [.ptr 11 0,.fn (.func 136) [] [.ptr 18 0]] (uT l E log G tl s) (sq m):=by
 intro e vs hI hv;refine calls_of_wp_defers func135 rfl ?_;have ho:=tg (fn:=f135) (f:=69) (aX:=[]) [] (by decide) trivial hI hv rfl;refine wp_seq (Code.wp_mono (λ ex a1 w1 hh=>?_) (aJ.run (Q:=λ ex I=>ex=.normal/\I=⟨[(6,.ptr 24 0),(5,.ptr 23 0),(4,.ptr 22 0),(2,.ptr 21 0),(0,.ptr 11 0),(1,.fn (.func 136) [] [.ptr 18 0])],(24,[dB false])::(23,[z 0,dB false,z 0,z 0,.p (.sl true 0 [])])::(22,[z 0,z 0,z 0,z 0])::(21,[.ptr 11 0])::uT l E log G tl s,[]⟩) ?_ _ e ho))
 ·obtain⟨mX,e1,rfl,cb,rfl,rfl⟩:=hh;obtain⟨k1,_,_,b1,_,_⟩:=cb.boxes 21 _ rfl;obtain⟨k2,_,_,b2,_,_⟩:=cb.boxes 22 _ rfl;obtain⟨k3,_,_,b3,_,_⟩:=cb.boxes 23 _ rfl;obtain⟨k4,_,_,b4,_,_⟩:=cb.boxes 24 _ rfl;refine wp_seq (Ao cb rfl rfl rfl rfl rfl rfl rfl rfl [(21,k1),(22,k2),(23,k3),(24,k4)] (λ b k J=>?_) (λ a2 cC cS ez=>?_))
  ·simp only[cL] at J;split at J
   ·rename_i q;cases J;rw[<-q];exact b1
   ·split at J
    ·rename_i q;cases J;rw[<-q];exact b2
    ·split at J
     ·rename_i q;cases J;rw[<-q];exact b3
     ·split at J
      ·rename_i q;cases J;rw[<-q];exact b4
      ·cases J
  ·refine Code.wp_mono (λ ex a3 w3 hh=>?_) (aJ.run (Γ:=⟨18,e.w,e.cl,λ k=>∃b,e.bx b=some k,[(21,k1),(22,k2),(23,k3),(24,k4)],[{target:=.fn (.func 182) cC.toArray,args:=#[]}]⟩) (Q:=vr m ⟨18,e.w,e.cl,λ k=>∃b,e.bx b=some k,[(21,k1),(22,k2),(23,k3),(24,k4)],[{target:=.fn (.func 182) cC.toArray,args:=#[]}]⟩) ?_ a2 e1 ez)
   ·obtain⟨CQ,e3,rfl,ib,hq⟩:=hh;rcases hq with⟨rfl,x,U,hm,eA⟩|⟨a,rfl,hm,eA⟩
    ·skip
     obtain⟨e4,j7,bY⟩:=eA a3 e3 ib;show Leaves prog f135 a3.tmps _ a3.defers .returning e3.w;rw[bY.df,<-j7];have j4:DReps e4 cC [.ptr 22 0,.ptr 21 0,.ptr 23 0,.ptr 24 0]:=⟨cS.1,λ i v d hv G=>by
      match i,hv,G with
      |0,hv,G=>cases G;exact eE (cS.2 0 v _ hv rfl) b2 (bY.env.kb 22 k2 rfl)
      |1,hv,G=>cases G;exact eE (cS.2 1 v _ hv rfl) b1 (bY.env.kb 21 k1 rfl)
      |2,hv,G=>cases G;exact eE (cS.2 2 v _ hv rfl) b3 (bY.env.kb 23 k3 rfl)
      |3,hv,G=>cases G;exact eE (cS.2 3 v _ hv rfl) b4 (bY.env.kb 24 k4 rfl)⟩
     refine p3 bY (λ a w=>call182 a w) j4 rfl (by(repeat(first|exact trivial|refine⟨⟨rfl,rfl⟩,?_⟩))) ⟨.inr rfl,.inr rfl,.inr rfl,.inr rfl,trivial⟩ rfl (by simp) rfl (λ e0 oK u D=>xl eF {x with gone:=U.gone} true u D) (λ ag R=>by subst R;exact⟨.inl rfl,.inl rfl,.inl rfl,.inl rfl,trivial⟩) (λ ag e5 R du=>?_);subst R;obtain⟨v,hr,jx⟩:=n5 aw (fn:=f135) (d:=.bc [eW eF,jm {x with gone:=U.gone},dB true]) du rfl;refine⟨v,hr,v,_,[],e5.cut (aC []) λ _=>false,rfl,rfl,⟨rfl,.inl ⟨x,U,hm,rfl⟩⟩,kB du trivial,jx.cut rfl,⟨du.env.kept,du.env.cl,λ b k J=>?_,λ b R=>by cases R⟩⟩;cases J
    ·skip
     obtain⟨e4,j7,bY⟩:=eA a3 e3 ib;show Leaves prog f135 a3.tmps _ a3.defers (.panicking [pe (hk a)]) e3.w;rw[bY.df,<-j7];have j4:DReps e4 cC [.ptr 22 0,.ptr 21 0,.ptr 23 0,.ptr 24 0]:=⟨cS.1,λ i v d hv G=>by
      match i,hv,G with
      |0,hv,G=>cases G;exact eE (cS.2 0 v _ hv rfl) b2 (bY.env.kb 22 k2 rfl)
      |1,hv,G=>cases G;exact eE (cS.2 1 v _ hv rfl) b1 (bY.env.kb 21 k1 rfl)
      |2,hv,G=>cases G;exact eE (cS.2 2 v _ hv rfl) b3 (bY.env.kb 23 k3 rfl)
      |3,hv,G=>cases G;exact eE (cS.2 3 v _ hv rfl) b4 (bY.env.kb 24 k4 rfl)⟩
     refine p3 bY (λ a w=>call182 a w) j4 rfl (by(repeat(first|exact trivial|refine⟨⟨rfl,rfl⟩,?_⟩))) ⟨.inr rfl,.inr rfl,.inr rfl,.inr rfl,trivial⟩ rfl (by simp) rfl (λ e0 oK u D=>xm eF a _ rfl false u D) (λ ag R=>by subst R;exact⟨.inl rfl,.inl rfl,.inl rfl,.inl rfl,trivial⟩) (λ ag e5 R du=>?_);subst R;obtain⟨v,hr,jx⟩:=n5 aw (fn:=f135) (d:=.bc [eW a,kC lH,dB false]) du rfl;refine⟨v,hr,v,_,[],e5.cut (aC []) λ _=>false,rfl,rfl,⟨rfl,.inr ⟨a,hm,rfl⟩⟩,kB du trivial,jx.cut rfl,⟨du.env.kept,du.env.cl,λ b k J=>?_,λ b R=>by cases R⟩⟩;cases J
   ·refine go ?_;refine vX hC ?_ ?_
    ·rintro v O ⟨a,U,h,rfl,rfl⟩;refine gP ?_;exact .inr ⟨a,rfl,h,bF.trans (pF 21 rfl rfl) (zX)⟩
    rintro d O ⟨x,U,h,_,wk,nK,rfl,rfl⟩;refine gA ((ol U.gone (by omega)).pure) ?_;refine gW 3 [22] ?_;refine go ?_;exact .inl ⟨rfl,x,U,h,bF.trans (pF 21 rfl rfl) (zX)⟩
 ·refine gm ?_;refine bA 21 ?_;refine nA 22 ?_;refine nA 23 ?_;refine nA 24 ?_;exact jK ⟨rfl,rfl⟩
abbrev qx(r:aS×br×Bool):F:=.bc [eW r.1,jm r.2.1,dB r.2.2]
set_option maxHeartbeats 8000000 in
theorem Cd(l:ab)(hL:bQ l)(E:Int)(gone:List (Int×Int))(op:cq)(log:List aB)(hv:op.kind=6->0<=op.a/\op.a<4294967296)(eO:ee gone)(gz:gone.length+log.length<=10000):aW prog 107 [cF l,z E,cT gone,Gy op,fS log] (qx (dC l E gone op log)):=by
 generalize A:dC l E gone op log=aK;unfold dC at A;have M:log.length<=1000000:=by omega
 refine sP func107 ntmps107 λ w cl=>?_
 refine gm ?_;refine bA 0 ?_;refine bA 1 ?_;refine nA 2 ?_;refine nA 3 ?_;refine go ?_;refine dQ [] ?_;refine gQ (DI l hL op.obj) ?_;refine cQ (PH l hL op.obj) ?_;refine qg ?_;generalize u:decide (gV l op.obj<0)=cc;cases cc
 ·rw[if_neg (of_decide_eq_false u)] at A;refine go ?_;refine cI (AH l E gone log) ?_;rintro d O ⟨rfl,rfl⟩;refine gG ?_;refine gm ?_;refine nA 18 ?_;refine go ?_;generalize D:decide (op.kind=6)=cc;cases cc
  ·rw[if_neg (of_decide_eq_false D)] at A;refine go ?_;generalize K:decide (op.kind=7)=cc;cases cc
   ·rw[if_neg (of_decide_eq_false K)] at A;refine gA (ra gone (by omega)) ?_;refine dt ?_;rw[<-A]
   ·rw[if_pos (of_decide_eq_true K)] at A;refine go ?_;refine cI (XP l E log ⟨0,gone,0,0,0⟩ (gV l op.obj) (mU l op.obj)) ?_;rintro d O ⟨rfl,rfl⟩;refine go ?_;refine gk (Xa l E log ⟨0,gone,0,0,0⟩ (gV l op.obj) (mU l op.obj) _ (by simp only;omega) (Wc l hL E log ⟨0,gone,0,0,0⟩ (gV l op.obj) (mU l op.obj) eO gz (Nat.zero_le _) M)) rfl (λ a w=>call135 a w) rfl rfl (by(repeat(first|exact trivial|refine⟨⟨rfl,rfl⟩,?_⟩))) trivial rfl rfl rfl rfl ?_ ?_
    ·rintro d O ⟨rfl,_⟩;exact trivial
    rintro d O ⟨rfl,⟨x,U,hm,rfl⟩|⟨a,hm,rfl⟩⟩
    ·rw[hm] at A;refine gf ?_;rw[<-A];rfl
    ·rw[hm] at A;refine gf ?_;rw[<-A];rfl
  ·rw[if_pos (of_decide_eq_true D)] at A;have MH:=hv (of_decide_eq_true D);refine go ?_;refine cI (Ys l E log ⟨0,gone,0,0,0⟩ (mU l op.obj) op.a) ?_;rintro d O ⟨rfl,rfl⟩;refine go ?_;refine gk (Xb l E log ⟨0,gone,0,0,0⟩ (mU l op.obj) op.a _ (by simp only;omega) (Wd l hL E log ⟨0,gone,0,0,0⟩ (mU l op.obj) op.a MH.1 MH.2 (Nat.zero_le _) M)) rfl (λ a w=>call135 a w) rfl rfl (by(repeat(first|exact trivial|refine⟨⟨rfl,rfl⟩,?_⟩))) trivial rfl rfl rfl rfl ?_ ?_
   ·rintro d O ⟨rfl,_⟩;exact trivial
   rintro d O ⟨rfl,⟨x,U,hm,rfl⟩|⟨a,hm,rfl⟩⟩
   ·rw[hm] at A;refine gf ?_;rw[<-A];rfl
   ·rw[hm] at A;refine gf ?_;rw[<-A];rfl
 ·rw[if_pos (of_decide_eq_true u)] at A;refine gA (ra gone (by omega)) ?_;refine dt ?_;rw[<-A]
end Go.Proofs.YtcnefjfboagbmaaGreat.Sg
