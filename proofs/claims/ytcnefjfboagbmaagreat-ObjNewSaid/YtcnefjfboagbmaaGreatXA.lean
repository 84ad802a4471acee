/- The piece of a program once more: elim's. -/
import Derived.Test.YtcnefjfboagbmaaGreatWA
import Derived.Test.YtcnefjfboagbmaaGreatPA
namespace Go.Proofs.YtcnefjfboagbmaaGreat.Em
open Go.Proofs.Tryz
open Go.RowKit
set_option maxRecDepth 100000
abbrev me(l:ab)(E:Int)(s:af):List F:=[z l.aA,z l.nodes,z l.buckets,z l.bm,z l.tasks,z l.cells,z l.maps,z l.bo,z l.aL,z l.done,z l.count,z l.era,z l.free,z l.alive,z l.owner,z l.lI,z l.pL,z l.ring,z l.task,z l.cell,z l.map,z l.stack,z l.chan,z l.node,z l.size,z E,cT s.gone,z s.made,z s.e0,z s.e1,z s.e2,.fn (.func 151) [] [.ptr 12 0,.ptr 13 0]]
abbrev bX(l:ab)(E:Int)(log:List aB)(s:af):bH:=[(11,me l E s),(12,[.ptr 11 0]),(13,[fS log])]
theorem fY(l:ab)(M:bQ l)(E:Int)(s:af)(n i:Int)(hn:n<9223372036854775808)(Z:i<9223372036854775808):aW prog 156 [.el (zs l E s),z n,z i] (z (am l n i)):=by
 refine sP func156 ntmps156 λ w cl=>?_
 refine gA (jD l M n i hn Z) ?_;refine dt ?_
 rfl
theorem im(l:ab)(E:Int)(s:af)(h:(s.made:Int)<9223372036854775807):aW prog 158 [.el (zs l E s)] (z ((s.made:Int)-1)):=by
 refine sP func158 ntmps158 λ w cl=>?_
 refine gf ?_
 rfl
abbrev hk(a:aS):Value:=.iface 174 (.agg #[.int .i64 a.kind,.int .i64 a.cell,.int .i64 a.eh,.int .i64 a.new])
def Ay{aq:Type}(l:ab)(E:Int)(log:List aB)(m:Except aS (aq×af))(s:af)(enc:aq->F):F->bH->Prop:=λ d O=>∃x U,m=.ok (x,U)/\s.made<=U.made/\U.made<=log.length/\d=enc x/\O=bX l E log U
def Az{aq:Type}(l:ab)(E:Int)(log:List aB)(m:Except aS (aq×af)):Value->bH->Prop:=λ v O=>∃a U,m=.error a/\v=hk a/\O=bX l E log U
abbrev fH{aq:Type}(f:FuncId)(l:ab)(E:Int)(log:List aB)(s:af)(ds:List F)(m:Except aS (aq×af))(enc:aq->F):Prop:=
 fu prog f [11,12,13] ds (bX l E log s) (Ay l E log m s enc) (Az l E log m)
theorem oq(l:ab)(E:Int)(log:List aB)(s:af)(a:aS)(hm:s.made<=log.length)(M:log.length<=1000000):fH 151 l E log s [eW a,.ptr 12 0,.ptr 13 0] (fw a log s) vO:=by
 refine sX func151 ntmps151 λ w cl own kf=>?_
 refine go ?_;refine gD [] ?_;refine go ?_;generalize u:decide ((s.made:Int)=(log.length:Int))=cc;cases cc
 ·have aN:=of_decide_eq_false u;have bh:s.made<log.length:=by omega
  have hr:log[s.made]?=some log[s.made]:=List.getElem?_eq_getElem bh;generalize log[s.made]=r at hr;have oD:log[((s.made:Int)+1-1).toNat]?=some r:=by rw[show((s.made:Int)+1-1).toNat=s.made by omega];exact hr
  refine go ?_;refine gW 8 [] ?_;refine ri [pI r.val,pB r.ok] (B4 oD) ?_;refine qg ?_;exact fX _ ⟨r,{s with made:=s.made+1},by rw[fw,hr],by simp,by simp;omega,rfl,rfl⟩
 ·have aN:log.length=s.made:=by have:=of_decide_eq_true u;omega
  have hr:log[s.made]?=none:=List.getElem?_eq_none (by omega);refine go ?_;refine bf (BV aw rfl rfl rfl rfl rfl) rfl rfl rfl ?_;refine AD rfl rfl rfl ?_;refine gP ?_;exact fP _ ⟨a,s,by rw[fw,hr],rfl,rfl⟩
theorem dV(l:ab)(E:Int)(log:List aB)(s:af)(c:Int)(hm:s.made<=log.length)(M:log.length<=1000000):fH 159 l E log s [.ptr 11 0,z c] (cy c log s) z:=by
 refine sX func159 ntmps159 λ w cl own kf=>?_
 refine go ?_;refine vX (oq l E log s ⟨1,c,0,0⟩ hm M) ?_ ?_
 ·rintro v O ⟨a,U,h,rfl,rfl⟩;refine gP ?_;exact fP _ ⟨a,U,bl h,rfl,rfl⟩
 rintro d O ⟨x,U,h,gY,cg,rfl,rfl⟩;refine go ?_;exact fX _ ⟨x.val,U,au h,gY,cg,rfl,rfl⟩
theorem gM(l:ab)(E:Int)(log:List aB)(s:af)(c v:Int)(hm:s.made<=log.length)(M:log.length<=1000000):fH 155 l E log s [.ptr 11 0,z c,z v] (fa c v log s) (λ _=>.bc []):=by
 refine sX func155 ntmps155 λ w cl own kf=>?_
 refine go ?_;refine vX (oq l E log s ⟨2,c,0,v⟩ hm M) ?_ ?_
 ·rintro v O ⟨a,U,h,rfl,rfl⟩;refine gP ?_;exact fP _ ⟨a,U,bl h,rfl,rfl⟩
 rintro d O ⟨x,U,h,gY,cg,rfl,rfl⟩;refine go ?_;exact fX _ ⟨(),U,au h,gY,cg,rfl,rfl⟩
theorem iu(l:ab)(E:Int)(log:List aB)(s:af)(c o v:Int)(hm:s.made<=log.length)(M:log.length<=1000000):fH 162 l E log s [.ptr 11 0,z c,z o,z v] (fv c o v log s) dB:=by
 refine sX func162 ntmps162 λ w cl own kf=>?_
 refine go ?_;refine vX (oq l E log s ⟨3,c,o,v⟩ hm M) ?_ ?_
 ·rintro v O ⟨a,U,h,rfl,rfl⟩;refine gP ?_;exact fP _ ⟨a,U,bl h,rfl,rfl⟩
 rintro d O ⟨x,U,h,gY,cg,rfl,rfl⟩;refine go ?_;exact fX _ ⟨x.ok,U,au h,gY,cg,rfl,rfl⟩
set_option maxHeartbeats 4000000 in
theorem CP(l:ab)(hL:bQ l)(E:Int)(log:List aB)(s:af)(hm:s.made<=log.length)(M:log.length<=1000000):fH 154 l E log s [.ptr 11 0] (qk l log s) (λ p=>.bc [z p.1,z p.2.1,dB p.2.2]):=by
 generalize A:qk l log s=aK;refine sX func154 ntmps154 λ w cl own kf=>?_
 refine go ?_;refine bL (λ p:Nat×af=>s.made<=p.2.made/\p.2.made<=log.length/\log.length-p.2.made<p.1/\mV l p.1 log p.2=aK) (λ p=>⟨[(0,.ptr 11 0)],bX l E log p.2,[]⟩) (λ p=>p.1) (log.length+1-s.made,s) ⟨Nat.le_refl _,hm,by simp only;omega,A⟩ (zX) ?_;rintro⟨k,t⟩ ⟨cw,bB,ij,A⟩;simp only at cw bB ij A;obtain⟨k,rfl⟩:∃j,k=j+1:=⟨k-1,by omega⟩;refine(show aJ _ _ _ _ ⟨[(0,.ptr 11 0)],bX l E log t,[]⟩ from ?_);rw[mV] at A;refine go ?_;refine xP (dV l E log t l.free bB M) ?_;rintro d O ⟨fr,s1,bJ,fB,cN,rfl,rfl⟩;rw[au bJ] at A;have eM:=g9 bJ;have bV:=j8 fr;have cZ:=q6 fr;refine gA (jS fr) ?_;generalize u:decide ((az fr).idx=0)=cc;cases cc
 ·have aN:=of_decide_eq_false u;rw[if_neg aN] at A;refine go ?_;refine lA (fY l hL E s1 (az fr).idx 7 (by omega) (by omega)) ?_;refine go ?_;refine xP (dV l E log s1 (am l (az fr).idx 7) cN M) ?_;rintro d O ⟨lk,s2,bg,eK,cn,rfl,rfl⟩;rw[au bg] at A;have g8:=g9 bg;refine go ?_;refine dW 11 [] ?_;refine gQ (oI (az fr) lk cZ.1 cZ.2) ?_;refine cQ (li (eo (az fr) lk)) ?_;refine ba ?_;refine xP (iu l E log s2 l.free fr (dJ (eo (az fr) lk)) cn M) ?_;rintro d O ⟨gL,s3,bR,eQ,ci,rfl,rfl⟩;rw[au bR] at A;have gC:=ky bR;refine go ?_;cases gL
  ·rw[if_neg (by decide)] at A;refine go ?_;exact⟨(k,s3),⟨by simp only;omega,ci,by simp only;omega,A⟩,by simp only;omega,zX⟩
  ·rw[if_pos rfl,au eC] at A;refine go ?_;refine lA (im l E s3 (by omega)) ?_;refine go ?_;refine xP (dV l E log s3 l.era ci M) ?_;rintro d O ⟨bi,s4,ct,iB,ef,rfl,rfl⟩;rw[au ct] at A;refine go ?_;refine lA (fY l hL E s4 (az fr).idx 6 (by omega) (by omega)) ?_;refine go ?_;refine xP (gM l E log s4 (am l (az fr).idx 6) bi ef M) ?_;rintro d O ⟨aa,s5,di,j6,ej,rfl,rfl⟩;rw[au di] at A;refine go ?_;exact fX _ ⟨_,s5,A.symm,by omega,ej,rfl,rfl⟩
 ·rw[if_pos (of_decide_eq_true u),au eC] at A;refine go ?_;refine lA (im l E s1 (by omega)) ?_;refine go ?_;exact fX _ ⟨_,s1,A.symm,by omega,cN,rfl,rfl⟩
set_option maxHeartbeats 4000000 in
theorem uf(l:ab)(hL:bQ l)(E:Int)(log:List aB)(s:af)(n:Int)(hn:n<9223372036854775808)(hm:s.made<=log.length)(M:log.length<=1000000):fH 164 l E log s [.ptr 11 0,z n] (m8 l n log s) (λ _=>.bc []):=by
 generalize A:m8 l n log s=aK;refine sX func164 ntmps164 λ w cl own kf=>?_
 refine go ?_;refine bL (λ p:Nat×af=>s.made<=p.2.made/\p.2.made<=log.length/\log.length-p.2.made<p.1/\lu l n p.1 log p.2=aK) (λ p=>⟨[(0,.ptr 11 0),(1,z n)],bX l E log p.2,[]⟩) (λ p=>p.1) (log.length+1-s.made,s) ⟨Nat.le_refl _,hm,by simp only;omega,A⟩ (zX) ?_;rintro⟨k,t⟩ ⟨cw,bB,ij,A⟩;simp only at cw bB ij A;obtain⟨k,rfl⟩:∃j,k=j+1:=⟨k-1,by omega⟩;refine(show aJ _ _ _ _ ⟨[(0,.ptr 11 0),(1,z n)],bX l E log t,[]⟩ from ?_);rw[lu] at A;refine go ?_;refine xP (dV l E log t l.free bB M) ?_;rintro d O ⟨fr,s1,bJ,fB,cN,rfl,rfl⟩;rw[au bJ] at A;have eM:=g9 bJ;have cZ:=q6 fr;refine gA (jS fr) ?_;refine gW 6 [] ?_;refine lQ (fY l hL E s1 n 7 hn (by omega)) ?_;refine ba ?_;refine xP (gM l E log s1 (am l n 7) (az fr).idx cN M) ?_;rintro d O ⟨aa,s2,bg,eK,cn,rfl,rfl⟩;rw[au bg] at A;have g8:=qi bg;refine go ?_;refine dW 11 [] ?_;refine gQ (oI (az fr) n cZ.1 cZ.2) ?_;refine cQ (li (eo (az fr) n)) ?_;refine ba ?_;refine xP (iu l E log s2 l.free fr (dJ (eo (az fr) n)) cn M) ?_;rintro d O ⟨gL,s3,bR,eQ,ci,rfl,rfl⟩;rw[au bR] at A;have gC:=ky bR;refine go ?_;cases gL
 ·rw[if_neg (by decide)] at A;refine go ?_;exact⟨(k,s3),⟨by simp only;omega,ci,by simp only;omega,A⟩,by simp only;omega,zX⟩
 ·rw[if_pos rfl] at A;refine go ?_;exact fX _ ⟨_,s3,A.symm,by omega,ci,rfl,rfl⟩
set_option maxHeartbeats 4000000 in
theorem yr(l:ab)(hL:bQ l)(E:Int)(log:List aB)(s:af)(cell:Int)(hm:s.made<=log.length)(M:log.length<=1000000):fH 194 l E log s [.ptr 11 0,z 0,z cell] (kT l E 0 cell log s) (λ p=>.bc [z p.1,z p.2]):=by
 generalize A:kT l E 0 cell log s=aK;refine sX func194 ntmps194 λ w cl own kf=>?_
 refine go ?_;refine bL (λ p:Nat×af=>s.made<=p.2.made/\p.2.made<=log.length/\log.length-p.2.made<p.1/\kq l E 0 cell p.1 log p.2=aK) (λ p=>⟨[(0,.ptr 11 0),(1,z 0),(2,z cell)],bX l E log p.2,[]⟩) (λ p=>p.1) (log.length+1-s.made,s) ⟨Nat.le_refl _,hm,by simp only;omega,A⟩ (zX) ?_;rintro⟨k,t⟩ ⟨cw,bB,ij,A⟩;simp only at cw bB ij A;obtain⟨k,rfl⟩:∃j,k=j+1:=⟨k-1,by omega⟩;refine(show aJ _ _ _ _ ⟨[(0,.ptr 11 0),(1,z 0),(2,z cell)],bX l E log t,[]⟩ from ?_);rw[kq] at A;refine go ?_;refine xP (dV l E log t cell bB M) ?_;rintro d O ⟨v,s1,bJ,fB,cN,rfl,rfl⟩;rw[au bJ,au eC] at A;have eM:=g9 bJ;refine go ?_;refine lA (im l E s1 (by omega)) ?_;refine go ?_;refine xP (dV l E log s1 l.era cN M) ?_;rintro d O ⟨er,s2,bg,eK,cn,rfl,rfl⟩;rw[au bg] at A;have g8:=g9 bg;refine go ?_;refine bf (gh aw rfl rfl rfl rfl rfl (by omega) (by omega)) rfl rfl rfl ?_;refine go ?_;generalize u:decide (er=s2.e0)=cc;cases cc
 ·rw[if_neg (show¬er=s2.e 0 from of_decide_eq_false u)] at A;refine go ?_;refine dW 12 [] ?_;refine gQ (ke l hL E 0 (by omega)) ?_;refine xP (gM l E log s2 (b7 l E 0) er cn M) ?_;rintro d O ⟨aa,s3,bR,eQ,ci,rfl,rfl⟩;rw[au bR] at A;have gC:=qi bR;refine go ?_;refine bf (gh aw rfl rfl rfl rfl rfl (by omega) (by omega)) rfl rfl rfl ?_;refine go ?_;exact⟨(k,{s3 with e0:=er}),⟨by simp only;omega,by simp only;omega,by simp only;omega,A⟩,by simp only;omega,zX⟩
 ·rw[if_pos (show er=s2.e 0 from of_decide_eq_true u)] at A;refine go ?_;exact fX _ ⟨_,s2,A.symm,by omega,cn,rfl,rfl⟩
set_option maxHeartbeats 4000000 in
theorem jk(l:ab)(hL:bQ l)(E:Int)(log:List aB)(s:af)(hm:s.made<=log.length)(M:log.length<=1000000):fH 166 l E log s [.ptr 11 0] (fZ l E log s) (λ _=>.bc []):=by
 generalize A:fZ l E log s=aK;unfold fZ at A;refine sX func166 ntmps166 λ w cl own kf=>?_
 refine go ?_;refine bL (λ p:Nat×af=>p.1<=3/\s.made<=p.2.made/\p.2.made<=log.length/\ge l E p.1 ([s.e0,s.e1,s.e2].drop p.1) log p.2=aK) (λ p=>⟨[(8,z p.1),(7,.agg [z s.e0,z s.e1,z s.e2]),(0,.ptr 11 0)],bX l E log p.2,[]⟩) (λ p=>3-p.1) (0,s) ⟨by simp only;omega,Nat.le_refl _,hm,A⟩ (zX) ?_;rintro⟨i,t⟩ ⟨Z,cw,bB,A⟩;simp only at Z cw bB A;rcases(show i=0\/i=1\/i=2\/i=3 by omega) with rfl|rfl|rfl|rfl
 ·refine(show aJ _ _ _ _ ⟨[(8,z 0),(7,.agg [z s.e0,z s.e1,z s.e2]),(0,.ptr 11 0)],bX l E log t,[]⟩ from ?_);have A:(db l E 0 s.e0).bind (λ _=>ge l E 1 ([s.e0,s.e1,s.e2].drop 1)) log t=aK:=A;refine go ?_;refine cz (λ u=>?_) (λ u=>?_)<;>try rw[u]
  ·refine go ?_;refine bf (tm aw (z s.e0) rfl rfl rfl rfl rfl rfl (by omega) (by omega) rfl) rfl rfl rfl ?_;refine go ?_;generalize D:decide (s.e0=0)=cc;cases cc
   ·rw[db,if_neg (of_decide_eq_false D)] at A;refine go ?_;refine dW 11 [] ?_;refine gQ (ke l hL E 0 (by omega)) ?_;refine xX (gM l E log t (b7 l E 0) 0 bB M) ?_ ?_
    ·rintro v O ⟨a,U,h,rfl,rfl⟩;refine gP ?_;exact fP _ ⟨a,U,by rw[<-A];exact bl (bl h),rfl,rfl⟩
    rintro d O ⟨aa,s1,bJ,fB,cN,rfl,rfl⟩;have lv:ge l E 1 ([s.e0,s.e1,s.e2].drop 1) log {s1 with e0:=0}=aK:=by rw[<-A];exact(au (f:=λ _=>ge l E 1 ([s.e0,s.e1,s.e2].drop 1)) (au (f:=λ _=>n7 0) bJ)).symm
    refine go ?_;refine bf (gh aw rfl rfl rfl rfl rfl (by omega) (by omega)) rfl rfl rfl ?_;refine go ?_;exact⟨(1,{s1 with e0:=0}),⟨by simp only;omega,by simp only;omega,by simp only;omega,lv⟩,by simp only;omega,zX⟩
   ·rw[db,if_pos (of_decide_eq_true D)] at A;refine go ?_;exact⟨(1,t),⟨by simp only;omega,cw,bB,A⟩,by simp only;omega,zX⟩
  ·exact absurd u (by decide)
 ·refine(show aJ _ _ _ _ ⟨[(8,z 1),(7,.agg [z s.e0,z s.e1,z s.e2]),(0,.ptr 11 0)],bX l E log t,[]⟩ from ?_);have A:(db l E 1 s.e1).bind (λ _=>ge l E 2 ([s.e0,s.e1,s.e2].drop 2)) log t=aK:=A;refine go ?_;refine cz (λ u=>?_) (λ u=>?_)<;>try rw[u]
  ·refine go ?_;refine bf (tm aw (z s.e1) rfl rfl rfl rfl rfl rfl (by omega) (by omega) rfl) rfl rfl rfl ?_;refine go ?_;generalize D:decide (s.e1=0)=cc;cases cc
   ·rw[db,if_neg (of_decide_eq_false D)] at A;refine go ?_;refine dW 11 [] ?_;refine gQ (ke l hL E 1 (by omega)) ?_;refine xX (gM l E log t (b7 l E 1) 0 bB M) ?_ ?_
    ·rintro v O ⟨a,U,h,rfl,rfl⟩;refine gP ?_;exact fP _ ⟨a,U,by rw[<-A];exact bl (bl h),rfl,rfl⟩
    rintro d O ⟨aa,s1,bJ,fB,cN,rfl,rfl⟩;have lv:ge l E 2 ([s.e0,s.e1,s.e2].drop 2) log {s1 with e1:=0}=aK:=by rw[<-A];exact(au (f:=λ _=>ge l E 2 ([s.e0,s.e1,s.e2].drop 2)) (au (f:=λ _=>n7 1) bJ)).symm
    refine go ?_;refine bf (gh aw rfl rfl rfl rfl rfl (by omega) (by omega)) rfl rfl rfl ?_;refine go ?_;exact⟨(2,{s1 with e1:=0}),⟨by simp only;omega,by simp only;omega,by simp only;omega,lv⟩,by simp only;omega,zX⟩
   ·rw[db,if_pos (of_decide_eq_true D)] at A;refine go ?_;exact⟨(2,t),⟨by simp only;omega,cw,bB,A⟩,by simp only;omega,zX⟩
  ·exact absurd u (by decide)
 ·refine(show aJ _ _ _ _ ⟨[(8,z 2),(7,.agg [z s.e0,z s.e1,z s.e2]),(0,.ptr 11 0)],bX l E log t,[]⟩ from ?_);have A:(db l E 2 s.e2).bind (λ _=>ge l E 3 ([s.e0,s.e1,s.e2].drop 3)) log t=aK:=A;refine go ?_;refine cz (λ u=>?_) (λ u=>?_)<;>try rw[u]
  ·refine go ?_;refine bf (tm aw (z s.e2) rfl rfl rfl rfl rfl rfl (by omega) (by omega) rfl) rfl rfl rfl ?_;refine go ?_;generalize D:decide (s.e2=0)=cc;cases cc
   ·rw[db,if_neg (of_decide_eq_false D)] at A;refine go ?_;refine dW 11 [] ?_;refine gQ (ke l hL E 2 (by omega)) ?_;refine xX (gM l E log t (b7 l E 2) 0 bB M) ?_ ?_
    ·rintro v O ⟨a,U,h,rfl,rfl⟩;refine gP ?_;exact fP _ ⟨a,U,by rw[<-A];exact bl (bl h),rfl,rfl⟩
    rintro d O ⟨aa,s1,bJ,fB,cN,rfl,rfl⟩;have lv:ge l E 3 ([s.e0,s.e1,s.e2].drop 3) log {s1 with e2:=0}=aK:=by rw[<-A];exact(au (f:=λ _=>ge l E 3 ([s.e0,s.e1,s.e2].drop 3)) (au (f:=λ _=>n7 2) bJ)).symm
    refine go ?_;refine bf (gh aw rfl rfl rfl rfl rfl (by omega) (by omega)) rfl rfl rfl ?_;refine go ?_;exact⟨(3,{s1 with e2:=0}),⟨by simp only;omega,by simp only;omega,by simp only;omega,lv⟩,by simp only;omega,zX⟩
   ·rw[db,if_pos (of_decide_eq_true D)] at A;refine go ?_;exact⟨(3,t),⟨by simp only;omega,cw,bB,A⟩,by simp only;omega,zX⟩
  ·exact absurd u (by decide)
 ·refine(show aJ _ _ _ _ ⟨[(8,z 3),(7,.agg [z s.e0,z s.e1,z s.e2]),(0,.ptr 11 0)],bX l E log t,[]⟩ from ?_);refine go ?_;refine cz (λ u=>?_) (λ u=>?_)<;>try rw[u]
  ·exact absurd u (by decide)
  ·refine go ?_;exact fX _ ⟨(),t,A.symm,cw,bB,rfl,rfl⟩
theorem AQ(r f g0 g1:Int):aW prog 197 [z r,.el [pI f],.el [pI g0,pI g1]] (dB (hx f g1 r)):=by
 refine sP func197 ntmps197 λ w cl=>?_
 refine go ?_;generalize u:decide (f<=r)=cc;cases cc
 ·refine gf ?_;rw[hx,u];rfl
 ·refine go ?_;refine bf (yV aw rfl rfl rfl rfl rfl (by omega) (by omega) rfl) rfl rfl rfl ?_;refine gf ?_;rw[hx,u];rfl
abbrev qv(f g0 g1:Int):F:=.fn (.func 197) [] [.el [pI f],.el [pI g0,pI g1]]
set_option maxHeartbeats 4000000 in
theorem BU(aM:List Int)(hh:aM.length<=1000000)(f g0 g1:Int):aW prog 217 [aV aM,qv f g0 g1] (z (lr (hx f g1) aM 0)):=by
 generalize A:lr (hx f g1) aM 0=aK;refine sP func217 ntmps217 λ w cl=>?_
 refine go ?_;refine bL (λ i:Nat=>i<=aM.length/\lr (hx f g1) (aM.drop i) i=aK) (λ i=>⟨[(8,z i),(7,z aM.length),(6,aV aM),(0,aV aM),(1,qv f g0 g1)],[],[]⟩) (λ i=>aM.length-i) 0 ⟨Nat.zero_le _,A⟩ (zX) ?_;rintro i ⟨Z,A⟩;refine go ?_;refine cz (λ u=>?_) (λ u=>?_)<;>try rw[u]
 ·have aN:=of_decide_eq_true u;have dw:i<aM.length:=by omega
  obtain⟨x,T⟩:=j3 (l:=aM) (i:=i) (by omega) aN;have G:aM.drop i=x::aM.drop (i+1):=by rw[List.drop_eq_getElem_cons dw];simp only[Int.toNat_natCast] at T;rw[(List.getElem?_eq_some_iff.1 T).2]
  rw[G,lr] at A;refine go ?_;refine ai [pI x] (gK T) ?_;refine go ?_;refine bf (tV (AQ x f g0 g1) rfl (λ a w=>call197 a w) rfl rfl) rfl rfl rfl ?_;refine go ?_;generalize D:hx f g1 x=cc;cases cc
  ·rw[D,if_neg (by decide)] at A;refine go ?_;exact⟨i+1,⟨by omega,A⟩,by omega,zX⟩
  ·rw[D,if_pos rfl] at A;refine gf ?_;rw[A]
 ·have dw:aM.length<=i:=by have:=of_decide_eq_false u;omega
  rw[List.drop_of_length_le dw,lr] at A;refine gf ?_;rw[<-A]
theorem AS(aM:List Int)(hh:aM.length<=1000000)(f g0 g1:Int):aW prog 196 [aV aM,qv f g0 g1] (dB (aM.any (hx f g1))):=by
 refine sP func196 ntmps196 λ w cl=>?_
 refine gA (BU aM hh f g0 g1) ?_;refine dt ?_;rw[<-Dp _ aM 0]
set_option maxHeartbeats 8000000 in
theorem xu(l:ab)(hL:bQ l)(E:Int)(log:List aB)(s:af)(n:Int)(hn:n<9223372036854775808)(eO:ee s.gone)(gz:s.gone.length<=10000)(hm:s.made<=log.length)(M:log.length<=1000000):fH 167 l E log s [.ptr 11 0,z n] (kg l n log s) (λ _=>.bc []):=by
 have ph:=hL.aA;unfold kM at ph;generalize A:kg l n log s=aK;unfold kg at A;refine sX func167 ntmps167 λ w cl own kf=>?_
 refine go ?_;refine xP (dV l E log s l.era hm M) ?_;rintro d O ⟨er,s1,bJ,fB,cN,rfl,rfl⟩;rw[au bJ] at A;have eM:=fm bJ;refine go ?_;refine gW 10 [] ?_;refine vP (oq l E log s1 ⟨4,l.era,0,1⟩ cN M) ?_;rintro d O ⟨dr,s2,bg,eK,cn,rfl,rfl⟩;rw[au bg] at A;have dS:s2.gone=s.gone:=by rw[(sF bg).1,eM.1]
 rw[dS] at A;have rX:s.made<=s2.made:=by omega
 clear bJ bg eM fB eK cN;refine go ?_;refine CW 0 (ol s2.gone (by rw[dS];omega)) rfl (λ a w=>call71 a w) rfl rfl rfl rfl rfl (EW _) ?_;refine go ?_;refine ln aw rfl rfl rfl rfl rfl rfl rfl rfl rfl rfl rfl rfl rfl (by rw[dS];unfold maxLen;omega) (by show(_+_)*16<=_;rw[dS];omega) ?_;refine gG ?_;refine mg ?_;refine da (nV 11 (aO:=me l E {s2 with gone:=s.gone++[(n,er)]}) rfl (by
  show List.map kJ _=_;have e:tD (s.gone++[(n,er)])=.sl false (s.gone.length+1) (fp s.gone++[pI n,pI er]):=by rw[tD,xf,List.length_append];rfl
  simp only[List.map,kJ,wU,dS,me,cT];rw[e])) ?_
 generalize un:s.gone++[(n,er)]=gN at A;have LR:gN.length=s.gone.length+1:=by rw[<-un];simp
 have Bs:ee gN:=by
  intro p hp;rw[<-un] at hp;rcases List.mem_append.1 hp with hp|hp
  ·exact eO p hp
  ·simp at hp;rw[hp];exact hn
 have ew:IntKind.i64.wrap (2*l.aA)=2*l.aA:=d6 (by omega) (by omega);refine da (bS:=⟨[(0,.ptr 11 0)],bX l E log {s2 with gone:=gN},[]⟩) (zX) ?_;generalize gC:({s2 with gone:=gN}:af)=s3 at A⊢;have ci:s3.made<=log.length:=by rw[<-gC];exact cn
 have eQ:s.made<=s3.made:=by rw[<-gC];exact rX
 have gX:s3.gone=gN:=by rw[<-gC]
 refine go ?_;refine gD [] ?_;rw[ew];refine qg ?_;rw[gX];generalize u:decide ((gN.length:Int)<2*l.aA)=cc;cases cc
 ·have aN:=of_decide_eq_false u;rw[if_neg (by omega),rc] at A;refine go ?_;refine da (gO 5 0 3 1 rfl rfl rfl) ?_;refine bL (λ p:Nat×List Int×Nat×af=>p.1+p.2.2.1=l.aA.toNat/\p.2.1.length=3*p.1/\s.made<=p.2.2.2.made/\p.2.2.2.made<=log.length/\p.2.2.2.gone=gN/\(jy p.2.1 (je l p.1 p.2.2.1)).bind (λ aM=>(eU l aM gN []).bind λ aY=>iG aY) log p.2.2.2=aK) (λ p=>⟨[(62,z p.1),(61,z l.aA),(5,.aU 0 p.2.1.length (aZ p.2.1)),(0,.ptr 11 0)],bX l E log p.2.2.2,[(0,⟨3,1,p.2.1.length⟩)]⟩) (λ p=>p.2.2.1) (0,[],l.aA.toNat,s3) ⟨by simp,rfl,eQ,ci,gX,A⟩ (zX) ?_;rintro⟨j,acc,m,t⟩ ⟨hj,ly,cw,bB,eH,A⟩;simp only at hj ly cw bB eH A;refine(show aJ _ _ _ _ ⟨[(62,z j),(61,z l.aA),(5,.aU 0 acc.length (aZ acc)),(0,.ptr 11 0)],bX l E log t,[(0,⟨3,1,acc.length⟩)]⟩ from ?_);refine go ?_;refine cz (λ D=>?_) (λ D=>?_)<;>try rw[D]
  ·have bd:=of_decide_eq_true D;obtain⟨m,rfl⟩:∃k,m=k+1:=⟨m-1,by omega⟩;rw[je] at A;refine go ?_;refine bL (λ q:Nat×List Int×af=>q.1<=3/\q.2.1.length=3*j+q.1/\s.made<=q.2.2.made/\q.2.2.made<=log.length/\q.2.2.gone=gN/\(jy q.2.1 (([b7 l j 0,b7 l j 1,b7 l j 2].drop q.1)++je l (j+1) m)).bind (λ aM=>(eU l aM gN []).bind λ aY=>iG aY) log q.2.2=aK) (λ q=>⟨[(65,z q.1),(62,z j),(61,z l.aA),(6,z j),(5,.aU 0 q.2.1.length (aZ q.2.1)),(0,.ptr 11 0)],bX l E log q.2.2,[(0,⟨3,1,q.2.1.length⟩)]⟩) (λ q=>3-q.1) (0,acc,t) ⟨by simp only;omega,by simp only;omega,cw,bB,eH,A⟩ (zX) ?_;rintro⟨i,ac,t⟩ ⟨Z,Bf,cw,bB,eH,A⟩;simp only at Z Bf cw bB eH A;rcases(show i=0\/i=1\/i=2\/i=3 by omega) with rfl|rfl|rfl|rfl
   ·refine(show aJ _ _ _ _ ⟨[(65,z 0),(62,z j),(61,z l.aA),(6,z j),(5,.aU 0 ac.length (aZ ac)),(0,.ptr 11 0)],bX l E log t,[(0,⟨3,1,ac.length⟩)]⟩ from ?_);have A:((cy (b7 l j 0)).bind λ v=>jy (ac++[v]) (([b7 l j 0,b7 l j 1,b7 l j 2].drop 1)++je l (j+1) m)).bind (λ aM=>(eU l aM gN []).bind λ aY=>iG aY) log t=aK:=A;rw[bind_assoc] at A;refine go ?_;refine cz (λ K=>?_) (λ K=>?_)<;>try rw[K]
    ·refine gA (ke l hL j 0 (by omega)) ?_;refine xP (dV l E log t (b7 l j 0) bB M) ?_;rintro d O ⟨v,s4,ct,iB,ef,rfl,rfl⟩;rw[au ct] at A;have iO:s4.gone=gN:=by rw[(fm ct).1];exact eH
     refine go ?_;refine pA rfl ?_;rw[ku,show ac.length+1=(ac++[v]).length by simp];refine go ?_;exact⟨(1,ac++[v],s4),⟨by simp only;omega,by simp only[List.length_append,List.length_cons,List.length_nil];omega,by simp only;omega,ef,iO,A⟩,by simp only;omega,zX⟩
    ·exact absurd K (by decide)
   ·refine(show aJ _ _ _ _ ⟨[(65,z 1),(62,z j),(61,z l.aA),(6,z j),(5,.aU 0 ac.length (aZ ac)),(0,.ptr 11 0)],bX l E log t,[(0,⟨3,1,ac.length⟩)]⟩ from ?_);have A:((cy (b7 l j 1)).bind λ v=>jy (ac++[v]) (([b7 l j 0,b7 l j 1,b7 l j 2].drop 2)++je l (j+1) m)).bind (λ aM=>(eU l aM gN []).bind λ aY=>iG aY) log t=aK:=A;rw[bind_assoc] at A;refine go ?_;refine cz (λ K=>?_) (λ K=>?_)<;>try rw[K]
    ·refine gA (ke l hL j 1 (by omega)) ?_;refine xP (dV l E log t (b7 l j 1) bB M) ?_;rintro d O ⟨v,s4,ct,iB,ef,rfl,rfl⟩;rw[au ct] at A;have iO:s4.gone=gN:=by rw[(fm ct).1];exact eH
     refine go ?_;refine pA rfl ?_;rw[ku,show ac.length+1=(ac++[v]).length by simp];refine go ?_;exact⟨(2,ac++[v],s4),⟨by simp only;omega,by simp only[List.length_append,List.length_cons,List.length_nil];omega,by simp only;omega,ef,iO,A⟩,by simp only;omega,zX⟩
    ·exact absurd K (by decide)
   ·refine(show aJ _ _ _ _ ⟨[(65,z 2),(62,z j),(61,z l.aA),(6,z j),(5,.aU 0 ac.length (aZ ac)),(0,.ptr 11 0)],bX l E log t,[(0,⟨3,1,ac.length⟩)]⟩ from ?_);have A:((cy (b7 l j 2)).bind λ v=>jy (ac++[v]) (([b7 l j 0,b7 l j 1,b7 l j 2].drop 3)++je l (j+1) m)).bind (λ aM=>(eU l aM gN []).bind λ aY=>iG aY) log t=aK:=A;rw[bind_assoc] at A;refine go ?_;refine cz (λ K=>?_) (λ K=>?_)<;>try rw[K]
    ·refine gA (ke l hL j 2 (by omega)) ?_;refine xP (dV l E log t (b7 l j 2) bB M) ?_;rintro d O ⟨v,s4,ct,iB,ef,rfl,rfl⟩;rw[au ct] at A;have iO:s4.gone=gN:=by rw[(fm ct).1];exact eH
     refine go ?_;refine pA rfl ?_;rw[ku,show ac.length+1=(ac++[v]).length by simp];refine go ?_;exact⟨(3,ac++[v],s4),⟨by simp only;omega,by simp only[List.length_append,List.length_cons,List.length_nil];omega,by simp only;omega,ef,iO,A⟩,by simp only;omega,zX⟩
    ·exact absurd K (by decide)
   ·refine(show aJ _ _ _ _ ⟨[(65,z 3),(62,z j),(61,z l.aA),(6,z j),(5,.aU 0 ac.length (aZ ac)),(0,.ptr 11 0)],bX l E log t,[(0,⟨3,1,ac.length⟩)]⟩ from ?_);refine go ?_;refine cz (λ K=>?_) (λ K=>?_)<;>try rw[K]
    ·exact absurd K (by decide)
    ·refine go ?_;exact⟨(j+1,ac,m,t),⟨by simp only;omega,by simp only;omega,cw,bB,eH,A⟩,by simp only;omega,zX⟩
  ·have bd:=of_decide_eq_false D;obtain rfl:m=0:=by omega
   have A:((eU l acc gN []).bind λ aY=>iG aY) log t=aK:=A;subst eH;refine da (wV 5 (dH:=aV acc) rfl rfl) ?_;refine go ?_;refine da (gO 8 1 110 2 rfl rfl rfl) ?_;refine bL (λ q:Nat×List (Int×Int)×af=>q.1<=t.gone.length/\q.2.1.length<=q.1/\s.made<=q.2.2.made/\q.2.2.made<=log.length/\((eU l acc (t.gone.drop q.1) q.2.1).bind λ aY=>iG aY) log q.2.2=aK) (λ q=>⟨[(87,z q.1),(86,z t.gone.length),(85,cT t.gone),(8,.aU 1 q.2.1.length (fp q.2.1)),(5,aV acc),(0,.ptr 11 0)],bX l E log q.2.2,[(1,⟨110,2,q.2.1.length⟩)]⟩) (λ q=>t.gone.length-q.1) (0,[],t) ⟨Nat.zero_le _,Nat.le_refl _,cw,bB,A⟩ (zX) ?_;rintro⟨i,aY,aa⟩ ⟨Z,iS,r6,kZ,A⟩;simp only at Z iS r6 kZ A;refine(show aJ _ _ _ _ ⟨[(87,z i),(86,z t.gone.length),(85,cT t.gone),(8,.aU 1 aY.length (fp aY)),(5,aV acc),(0,.ptr 11 0)],bX l E log aa,[(1,⟨110,2,aY.length⟩)]⟩ from ?_);refine go ?_;refine cz (λ K=>?_) (λ K=>?_)<;>try rw[K]
   ·have cK:=of_decide_eq_true K;have dw:i<t.gone.length:=by omega
    obtain⟨gg,nf⟩:=j3 (l:=t.gone) (i:=i) (by omega) cK;have uo:=Bs gg (List.mem_of_getElem? nf);have G:t.gone.drop i=gg::t.gone.drop (i+1):=by rw[List.drop_eq_getElem_cons dw];simp only[Int.toNat_natCast] at nf;rw[(List.getElem?_eq_some_iff.1 nf).2]
    rw[G,eU,bind_assoc] at A;refine go ?_;refine ai [pI gg.1,pI gg.2] (uh nf) ?_;refine go ?_;refine bf (gh aw rfl rfl rfl rfl rfl (by omega) (by omega)) rfl rfl rfl ?_;refine go ?_;refine lA (fY l hL E aa gg.1 6 uo (by omega)) ?_;refine go ?_;refine xP (dV l E log aa (am l gg.1 6) kZ M) ?_;rintro d O ⟨bi,s5,di,j6,ej,rfl,rfl⟩;rw[au di] at A;refine go ?_;refine bf (ED rfl rfl rfl) rfl rfl rfl ?_;refine(show bp _ _ _ _ _ ⟨(97,z (p5 bi))::_,_,_⟩ from ?_);refine go ?_;refine lA (AS acc (by omega) (p5 bi) gg.1 gg.2) ?_;refine go ?_;generalize h4:acc.any (hx (p5 bi) gg.2)=cc;cases cc
    ·rw[h4,if_neg (by decide),bind_assoc] at A;refine go ?_;refine bf (gh aw rfl rfl rfl rfl rfl (by omega) (by omega)) rfl rfl rfl ?_;refine go ?_;refine xP (uf l hL E log s5 gg.1 uo ej M) ?_;rintro d O ⟨uu,s6,jv,sW,l4,rfl,rfl⟩;rw[au jv] at A;refine go ?_;exact⟨(i+1,aY,s6),⟨by simp only;omega,by simp only;omega,by simp only;omega,l4,A⟩,by simp only;omega,zX⟩
    ·rw[h4,if_pos rfl] at A;refine go ?_;refine pA rfl ?_;rw[<-xf aY gg,show aY.length+1=(aY++[gg]).length by simp];refine go ?_;exact⟨(i+1,aY++[gg],s5),⟨by simp only;omega,by simp only[List.length_append,List.length_cons,List.length_nil];omega,by simp only;omega,ej,A⟩,by simp only;omega,zX⟩
   ·have cK:=of_decide_eq_false K;rw[List.drop_of_length_le (by omega),eU] at A;have A:(Except.ok ((),{aa with gone:=aY}):Except aS (Unit×af))=aK:=A;refine da (wV 8 (dH:=cT aY) rfl rfl) ?_;refine go ?_;exact fX _ ⟨(),{aa with gone:=aY},A.symm,r6,kZ,rfl,rfl⟩
 ·have aN:=of_decide_eq_true u;rw[if_pos (by omega)] at A;refine go ?_;exact fX _ ⟨(),s3,A.symm,eQ,ci,rfl,rfl⟩
theorem ra(g:List (Int×Int))(hg:g.length<=100000):aW prog 123 [cT g] (.bc [eW eF,jm ⟨0,false,1,-1,g⟩,dB true]):=by
 refine sP func123 ntmps123 λ w cl=>?_
 refine gA ((ol g hg).pure) ?_;refine dt ?_
 rfl
theorem AH(l:ab)(E:Int)(g:List (Int×Int))(log:List aB):d8 prog 124 [] [cF l,z E,cT g,fS log] [] (λ d O=>d=.ptr 11 0/\O=bX l E log ⟨0,g,0,0,0⟩):=by
 refine sI func124 ntmps124 λ w cl own kf=>?_
 refine gm ?_;refine bA 0 ?_;refine bA 13 ?_;refine mq aw rfl rfl rfl rfl ?_;refine jK ?_;refine gm ?_;refine mq aw rfl rfl rfl rfl ?_;refine mq aw rfl rfl rfl rfl ?_;refine mq aw rfl rfl rfl rfl ?_;refine bf (ya aw rfl rfl rfl) rfl rfl rfl ?_;refine bA 11 ?_;refine nA 12 ?_;refine go ?_;refine gU (bX l E log ⟨0,g,0,0,0⟩) rfl rfl (by(repeat(first|exact trivial|refine⟨⟨rfl,rfl⟩,?_⟩))) trivial ?_;exact⟨rfl,rfl⟩
theorem xl{e:ay}{vs:List Value}(a:aS)(o:br)(dn:Bool)(hI:fG (iF a (nn o) dn) e)(hv:DReps e vs [.ptr 22 0,.ptr 21 0,.ptr 23 0,.ptr 24 0]):
 CallsD prog 153 vs.toArray .returning e.w λ r u2 aH=>∃V ag,r=.returned (.tuple #[])/\u2=.returning/\V.w=aH/\fG ag V/\Left [21,22,23,24] e V/\ag=iF a (nn o) dn:=by
 refine uU (ah:=tb) func153 rfl ntmps153 rfl rfl rfl (by(repeat(first|exact trivial|refine⟨rfl,?_⟩))) (λ _ _=>rfl) (λ _=>rfl) rfl rfl .no (λ w cl own kf=>?_) hI hv;refine go ?_;refine bf (Ej underlying20 rfl rfl) rfl rfl rfl ?_;refine go ?_;refine jn (iF a (nn o) dn) rfl rfl (by(repeat(first|exact trivial|refine⟨⟨rfl,rfl⟩,?_⟩))) (by(repeat(first|exact trivial|refine⟨rfl,?_⟩))) rfl
theorem xm{e:ay}{vs:List Value}(a bu:aS)(od:List F)(X:od=[z 0,dB false,z 0,z 0,.p (.sl true 0 [])])(dn:Bool)(hI:fG (iF a od dn) e)(hv:DReps e vs [.ptr 22 0,.ptr 21 0,.ptr 23 0,.ptr 24 0]):
 CallsD prog 153 vs.toArray (.panicking [pe (hk bu)]) e.w λ r u2 aH=>∃V ag,r=.returned (.tuple #[])/\u2=.panicking [{v:=hk bu,recovered:=true}]/\V.w=aH/\fG ag V/\Left [21,22,23,24] e V/\ag=iF bu od dn:=by
 subst X;refine uU (ah:=tb) func153 rfl ntmps153 rfl rfl rfl (by(repeat(first|exact trivial|refine⟨rfl,?_⟩))) (λ _ _=>rfl) (λ _=>rfl) rfl rfl (.yes (hk bu)) (λ w cl own kf=>?_) hI hv;refine go ?_;refine bf (Ek underlying20 rfl rfl) rfl rfl rfl ?_;refine go ?_;refine bf (C0 aw rfl rfl rfl rfl) rfl rfl rfl ?_;refine go ?_;refine jn (iF bu _ dn) rfl rfl (by(repeat(first|exact trivial|refine⟨⟨rfl,rfl⟩,?_⟩))) (by(repeat(first|exact trivial|refine⟨rfl,?_⟩))) rfl
theorem Ns(n:Int):aW prog 92 [z n,z 32] (z (n%4294967296)):=wW n 32 (by omega)
theorem Nr(n:Int):aW prog 92 [z n,z 2] (z (n%4)):=wW n 2 (by omega)
theorem NX(n:Int):aW prog 160 [z n] (.bc [z (tz n),z (uL n),z (kr n)]):=by
 refine sP func160 ntmps160 λ w cl=>?_
 refine gA (Ns n) ?_;refine bf (CG 32 rfl rfl rfl (by omega)) rfl rfl rfl ?_;refine gA (Nr (n/2^32)) ?_;refine bf (CG 34 rfl rfl rfl (by omega)) rfl rfl rfl ?_;refine gA (B6 (n/2^34)) ?_;refine dt ?_
 rfl
theorem Vo(a b c:Int):aW prog 108 [.p (.sl false 3 [pI a,pI 32,pI b,pI 2,pI c,pI 28])] (z (lG a b c)):=by
 have a0:0<=a%4294967296:=Int.emod_nonneg _ (by omega);have a1:a%4294967296<4294967296:=Int.emod_lt_of_pos _ (by omega);have b0:0<=b%4:=Int.emod_nonneg _ (by omega);have b1:b%4<4:=Int.emod_lt_of_pos _ (by omega);have c0:0<=c%268435456:=Int.emod_nonneg _ (by omega);have c1:c%268435456<268435456:=Int.emod_lt_of_pos _ (by omega);refine sP func108 ntmps108 λ w cl=>?_
 refine go ?_;refine bL (λ i:Nat=>i<=3) (λ i=>⟨[(9,z i),(8,z 3),(7,.p (.sl false 3 [pI a,pI 32,pI b,pI 2,pI c,pI 28])),(3,z (if i=0 then 0 else if i=1 then a%4294967296 else if i=2 then a%4294967296+4294967296*(b%4) else lG a b c)),(4,z (if i=0 then 0 else if i=1 then 32 else if i=2 then 34 else 62))],[],[]⟩) (λ i=>3-i) 0 (by omega) (zX) ?_;intro i Z;rcases(show i=0\/i=1\/i=2\/i=3 by omega) with rfl|rfl|rfl|rfl
 ·refine(show aJ _ _ _ _ ⟨[(9,z 0),(8,z 3),(7,.p (.sl false 3 [pI a,pI 32,pI b,pI 2,pI c,pI 28])),(3,z (0)),(4,z 0)],[],[]⟩ from ?_);refine go ?_;refine cz (λ u=>?_) (λ u=>?_)<;>try rw[u]
  ·refine go ?_;refine ai [pI a,pI 32] (y6 rfl rfl) ?_;refine gA (Ns a) ?_;refine bf (tL 0 rfl rfl rfl rfl (by omega) (by omega) (by omega)) rfl rfl rfl ?_;rw[show a%4294967296*2^0=a%4294967296 by omega];refine go ?_;refine bf (zn 0 (a%4294967296) rfl rfl rfl (by omega) (by omega) (by omega) (by omega) (by omega)) rfl rfl rfl ?_;rw[show 0+a%4294967296=a%4294967296 by omega];refine go ?_;exact⟨1,by omega,by omega,zX⟩
  ·exact absurd u (by decide)
 ·refine(show aJ _ _ _ _ ⟨[(9,z 1),(8,z 3),(7,.p (.sl false 3 [pI a,pI 32,pI b,pI 2,pI c,pI 28])),(3,z (a%4294967296)),(4,z 32)],[],[]⟩ from ?_);refine go ?_;refine cz (λ u=>?_) (λ u=>?_)<;>try rw[u]
  ·refine go ?_;refine ai [pI b,pI 2] (y6 rfl rfl) ?_;refine gA (Nr b) ?_;refine bf (tL 32 rfl rfl rfl rfl (by omega) (by omega) (by omega)) rfl rfl rfl ?_;rw[show b%4*2^32=4294967296*(b%4) by omega];refine go ?_;refine bf (zn 32 (b%4) rfl rfl rfl (by omega) (by omega) (by omega) (by omega) (by omega)) rfl rfl rfl ?_;refine go ?_;exact⟨2,by omega,by omega,zX⟩
  ·exact absurd u (by decide)
 ·refine(show aJ _ _ _ _ ⟨[(9,z 2),(8,z 3),(7,.p (.sl false 3 [pI a,pI 32,pI b,pI 2,pI c,pI 28])),(3,z (a%4294967296+4294967296*(b%4))),(4,z 34)],[],[]⟩ from ?_);refine go ?_;refine cz (λ u=>?_) (λ u=>?_)<;>try rw[u]
  ·refine go ?_;refine ai [pI c,pI 28] (y6 rfl rfl) ?_;refine gA (B6 c) ?_;refine bf (tL 34 rfl rfl rfl rfl (by omega) (by omega) (by omega)) rfl rfl rfl ?_;rw[show c%268435456*2^34=17179869184*(c%268435456) by omega];refine go ?_;refine bf (zn 34 (c%268435456) rfl rfl rfl (by omega) (by omega) (by omega) (by omega) (by omega)) rfl rfl rfl ?_;refine go ?_;exact⟨3,by omega,by omega,zX⟩
  ·exact absurd u (by decide)
 ·refine(show aJ _ _ _ _ ⟨[(9,z 3),(8,z 3),(7,.p (.sl false 3 [pI a,pI 32,pI b,pI 2,pI c,pI 28])),(3,z (lG a b c)),(4,z 62)],[],[]⟩ from ?_);refine go ?_;refine cz (λ u=>?_) (λ u=>?_)<;>try rw[u]
  ·exact absurd u (by decide)
  ·refine gf ?_
   rfl
theorem IN(a b c:Int):aW prog 161 [z a,z b,z c] (z (lG a b c)):=by
 refine sP func161 ntmps161 λ w cl=>?_
 refine gA (Vo a b c) ?_;refine dt ?_
 rfl
theorem PM(l:ab)(M:bQ l)(s:Int):aW prog 94 [cF l,z s] (z (hd l s)):=by
 have hs:=M.bm;refine sP func94 ntmps94 λ w cl=>?_
 refine gA (vi l.stack l.bo (1+l.bm) s 0 M.stack M.bo (by omega) (by omega)) ?_;refine dt ?_
 rfl
theorem YD(l:ab)(M:bQ l)(s i:Int):aW prog 152 [cF l,z s,z i] (z (CH l s i)):=by
 have hs:=M.bm;refine sP func152 ntmps152 λ w cl=>?_
 refine go ?_;generalize k1:decide (i<0)=cc;cases cc
 ·have qX:=of_decide_eq_false k1;refine go ?_;generalize k2:decide (i>=l.bm)=cc;cases cc
  ·have uE:=of_decide_eq_false k2;refine gA (vi l.stack l.bo (1+l.bm) s (1+i) M.stack M.bo (by omega) (by omega)) ?_;refine dt ?_;rw[CH,if_neg (by omega)]
  ·refine gf ?_;have:=of_decide_eq_true k2;rw[CH,if_pos (by omega)]
 ·refine gf ?_;have:=of_decide_eq_true k1;rw[CH,if_pos (by omega)]
theorem YE(l:ab)(M:bQ l)(E s:Int)(h0:0<=E)(_:E<=1000000):aW prog 125 [cF l,z E,z s] (z (px l E s)):=by
 have hs:=M.bm;refine sP func125 ntmps125 λ w cl=>?_
 refine go ?_;generalize k1:decide (l.bm<1)=cc;cases cc
 ·have qX:=of_decide_eq_false k1;have r0:0<=E%l.bm:=Int.emod_nonneg _ (by omega);have r1:E%l.bm<l.bm:=Int.emod_lt_of_pos _ (by omega);refine go ?_;refine gW 9 [] ?_;refine cD (E7 rfl rfl rfl h0 (by omega)) rfl rfl ?_;refine ba ?_;refine cD (E7 rfl rfl rfl (by omega) (by omega)) rfl rfl ?_;refine ba ?_;refine cA (YD l M s ((E%l.bm+l.bm)%l.bm)) ?_;refine gf ?_;rw[px,if_neg qX]
 ·refine gf ?_;rw[px,if_pos (of_decide_eq_true k1)]
set_option maxHeartbeats 4000000 in
theorem Y4(l:ab)(hL:bQ l)(E:Int)(log:List aB)(s:af)(bI n:Int)(hn:n<9223372036854775808)(hm:s.made<=log.length)(M:log.length<=1000000):fH 157 l E log s [.ptr 11 0,z bI,z n] (vg l bI n log s) (λ b=>dB b):=by
 generalize A:vg l bI n log s=aK;unfold vg at A;refine sX func157 ntmps157 λ w cl own kf=>?_
 refine go ?_;refine xP (dV l E log s bI hm M) ?_;rintro d O ⟨bO,s3,bR,eQ,ci,rfl,rfl⟩;rw[au bR] at A;have cZ:=q6 bO;refine gA (jS bO) ?_;refine gW 6 [] ?_;refine lQ (fY l hL E s3 n 0 hn (by omega)) ?_;refine ba ?_;refine xP (gM l E log s3 (am l n 0) (az bO).idx ci M) ?_;rintro d O ⟨aa,s4,ct,iB,ef,rfl,rfl⟩;rw[au ct] at A;refine gA (oI (az bO) n cZ.1 cZ.2) ?_;refine cA (li (eo (az bO) n)) ?_;refine go ?_;refine xP (iu l E log s4 bI bO (dJ (eo (az bO) n)) ef M) ?_;rintro d O ⟨gL,s5,di,j6,ej,rfl,rfl⟩;refine go ?_;exact fX _ ⟨gL,s5,by rw[<-A];exact di,by omega,ej,rfl,rfl⟩
def Cb(c bW no:Int):Nat->Pm Bool
 |0=>(fv c bW no).bind λ ok=>.pure (!ok)
 |k+1=>(cy c).bind λ x=>if x=bW then Cb c bW no k else .pure true
set_option maxHeartbeats 4000000 in
theorem V4(l:ab)(E:Int)(log:List aB)(s:af)(c bW no:Int)(hm:s.made<=log.length)(M:log.length<=1000000):fH 163 l E log s [.ptr 11 0,z c,z bW,z no] (wZ c bW no log s) (λ b=>dB b):=by
 generalize A:wZ c bW no log s=aK;have A:Cb c bW no 2 log s=aK:=A;refine sX func163 ntmps163 λ w cl own kf=>?_
 refine go ?_;refine bL (λ p:Nat×af=>p.1<=2/\s.made<=p.2.made/\p.2.made<=log.length/\Cb c bW no (2-p.1) log p.2=aK) (λ p=>⟨[(9,z p.1),(0,.ptr 11 0),(1,z c),(2,z bW),(3,z no),(8,dB false)],bX l E log p.2,[]⟩) (λ p=>2-p.1) (0,s) ⟨by simp only;omega,Nat.le_refl _,hm,A⟩ (zX) ?_;rintro⟨i,t⟩ ⟨Z,cw,bB,A⟩;simp only at Z cw bB A;refine(show aJ _ _ _ _ ⟨[(9,z i),(0,.ptr 11 0),(1,z c),(2,z bW),(3,z no),(8,dB false)],bX l E log t,[]⟩ from ?_);refine go ?_;refine cz (λ u=>?_) (λ u=>?_)<;>try rw[u]
 ·have aN:=of_decide_eq_true u;rw[show 2-i=(2-(i+1))+1 by omega,Cb] at A;refine go ?_;refine xP (dV l E log t c bB M) ?_;rintro d O ⟨x,s1,bJ,fB,cN,rfl,rfl⟩;rw[au bJ] at A;refine go ?_;generalize D:decide (x=bW)=cc;cases cc
  ·rw[if_neg (of_decide_eq_false D)] at A;refine go ?_;exact fX _ ⟨true,s1,A.symm,by omega,cN,rfl,rfl⟩
  ·rw[if_pos (of_decide_eq_true D)] at A;refine go ?_;exact⟨(i+1,s1),⟨by simp only;omega,by simp only;omega,cN,A⟩,by simp only;omega,zX⟩
 ·have aN:=of_decide_eq_false u;rw[show 2-i=0 by omega,Cb] at A;refine go ?_;refine xP (iu l E log t c bW no bB M) ?_;rintro d O ⟨gL,s1,bJ,fB,cN,rfl,rfl⟩;rw[au bJ] at A;refine go ?_;exact fX _ ⟨!gL,s1,A.symm,by omega,cN,rfl,rfl⟩
set_option maxHeartbeats 4000000 in
theorem Y3(l:ab)(hL:bQ l)(E:Int)(log:List aB)(s:af)(bI:Int)(hm:s.made<=log.length)(M:log.length<=1000000):fH 165 l E log s [.ptr 11 0,z bI] (vf l E bI log s) (λ p=>.bc [z p.1,z p.2.1,z p.2.2]):=by
 generalize A:vf l E bI log s=aK;unfold vf at A;refine sX func165 ntmps165 λ w cl own kf=>?_
 refine go ?_;refine xP (yr l hL E log s bI hm M) ?_;rintro d O ⟨p,s1,bJ,fB,cN,rfl,rfl⟩;rw[au bJ] at A;obtain⟨bO,at_⟩:=p;simp only at A;have bV:=j8 bO;have cZ:=q6 bO;refine gA (jS bO) ?_;generalize u:decide ((az bO).idx=0)=cc;cases cc
 ·rw[if_neg (of_decide_eq_false u)] at A;refine go ?_;refine lA (fY l hL E s1 (az bO).idx 0 (by omega) (by omega)) ?_;refine go ?_;refine xP (dV l E log s1 (am l (az bO).idx 0) cN M) ?_;rintro d O ⟨below,s2,bg,eK,cn,rfl,rfl⟩;rw[au bg] at A;refine gA (oI (az bO) below cZ.1 cZ.2) ?_;refine cA (li (eo (az bO) below)) ?_;refine go ?_;refine xP (iu l E log s2 bI bO (dJ (eo (az bO) below)) cn M) ?_;rintro d O ⟨gL,s3,bR,eQ,ci,rfl,rfl⟩;rw[au bR] at A;have gC:=ky bR;refine go ?_;cases gL
  ·rw[if_neg (by decide),au eC] at A;refine go ?_;refine lA (im l E s3 (by omega)) ?_;refine go ?_;exact fX _ ⟨_,s3,A.symm,by omega,ci,rfl,rfl⟩
  ·rw[if_pos rfl,au eC] at A;refine go ?_;refine gW 4 [] ?_;refine lQ (im l E s3 (by omega)) ?_;refine qg ?_;exact fX _ ⟨_,s3,A.symm,by omega,ci,rfl,rfl⟩
 ·rw[if_pos (of_decide_eq_true u)] at A;refine go ?_;exact fX _ ⟨_,s1,A.symm,fB,cN,rfl,rfl⟩
theorem PO{l:ab}{bI n:Int}{log:List aB}{s U:af}{b:Bool}(h:vg l bI n log s=.ok (b,U)):U.gone=s.gone/\U.made=s.made+3:=by
 unfold vg at h;cases u:cy bI log s with
 |error a=>rw[bl u] at h;cases h
 |ok q=>
  obtain⟨w,s1⟩:=q;rw[au u] at h;cases D:fa (am l n 0) (az w).idx log s1 with
  |error a=>rw[bl D] at h;cases h
  |ok q=>obtain⟨aa,s2⟩:=q;rw[au D] at h;rw[(ir h).1,(mT D).1,(fm u).1];exact⟨rfl,rfl⟩
theorem NE{c bW no:Int}{log:List aB}{s U:af}{b:Bool}(h:wZ c bW no log s=.ok (b,U)):U.gone=s.gone/\s.made<U.made:=by
 unfold wZ at h;cases u:cy c log s with
 |error a=>rw[bl u] at h;cases h
 |ok q=>
  obtain⟨x,s1⟩:=q;rw[au u] at h;have g1:=(fm u).1;split at h
  ·cases D:cy c log s1 with
   |error a=>rw[bl D] at h;cases h
   |ok q=>
    obtain⟨y,s2⟩:=q;rw[au D] at h;have g2:=(fm D).1;split at h
    ·cases K:fv c bW no log s2 with
     |error a=>rw[bl K] at h;cases h
     |ok q=>obtain⟨ok,s3⟩:=q;rw[au K] at h;cases h;rw[(ir K).1,g2,g1];exact⟨rfl,by simp only;omega⟩
    ·cases h;rw[g2,g1];exact⟨rfl,by simp only;omega⟩
  ·cases h;rw[g1];exact⟨rfl,by simp only;omega⟩
theorem I6(x:af)(i v:Int):(x.mf i v).made=x.made:=by
 unfold af.mf;split
 ·rfl
 ·split<;>rfl
theorem A8{l:ab}{E i cell:Int}:∀{k:Nat}{log:List aB}{s U:af}{p:Int×Int},kq l E i cell k log s=.ok (p,U)->s.made<=U.made/\(0<k->s.made<U.made)
 |0,log,s,U,p,h=>by cases h;exact⟨Nat.le_refl _,λ h=>absurd h (Nat.lt_irrefl _)⟩
 |k+1,log,s,U,p,h=>by
  rw[kq] at h;cases u:cy cell log s with
  |error a=>rw[bl u] at h;cases h
  |ok q=>
   obtain⟨v,s1⟩:=q;rw[au u,au eC] at h;have g1:=g9 u;cases D:cy l.era log s1 with
   |error a=>rw[bl D] at h;cases h
   |ok q=>
    obtain⟨er,s2⟩:=q;rw[au D] at h;have g2:=g9 D;split at h
    ·cases h;exact⟨by omega,λ _=>by omega⟩
    ·cases K:fa (b7 l E i) er log s2 with
     |error a=>rw[bl K] at h;cases h
     |ok q=>obtain⟨aa,s3⟩:=q;rw[au K] at h;have g3:=qi K;have g4:=(A8 h).1;rw[I6] at g4;exact⟨by omega,λ _=>by omega⟩
theorem GS{l:ab}{E i cell:Int}{log:List aB}{s U:af}{p:Int×Int}(hm:s.made<=log.length)(h:kT l E i cell log s=.ok (p,U)):s.made<U.made:=(A8 h).2 (by omega)
theorem PN{l:ab}{E bI:Int}{log:List aB}{s U:af}{p:Int×Int×Int}(h:vf l E bI log s=.ok (p,U)):U.gone=s.gone/\(s.made<=log.length->s.made<U.made)/\0<=p.1/\p.1<65536/\(p.2.2=0\/p.2.2=1\/p.2.2=2):=by
 unfold vf at h;cases u:kT l E 0 bI log s with
 |error a=>rw[bl u] at h;cases h
 |ok q=>
  obtain⟨p0,s1⟩:=q;rw[au u] at h;have g1:s1.gone=s.gone:=yu u;have m1:s.made<=log.length->s.made<s1.made:=λ hm=>GS hm u
  split at h
  ·cases h;exact⟨g1,m1,by simp,by simp,.inl rfl⟩
  ·cases D:cy (am l (az p0.1).idx 0) log s1 with
   |error a=>rw[bl D] at h;cases h
   |ok q=>
    obtain⟨be,s2⟩:=q;rw[au D] at h;have g2:=(fm D).1;cases K:fv bI p0.1 (dJ (eo (az p0.1) be)) log s2 with
    |error a=>rw[bl K] at h;cases h
    |ok q=>
     obtain⟨ok,s3⟩:=q;rw[au K] at h;have g3:=(ir K).1;have T:=j8 p0.1;cases ok
     ·rw[if_neg (by decide),au eC] at h;cases h;rw[g3,g2];exact⟨g1,λ hm=>by have:=m1 hm;simp only;omega,by simp,by simp,.inr (.inl rfl)⟩
     ·rw[if_pos rfl,au eC] at h;cases h;rw[g3,g2];exact⟨g1,λ hm=>by have:=m1 hm;simp only;omega,T.1,T.2,.inr (.inr rfl)⟩
set_option maxHeartbeats 8000000 in
theorem Xq(l:ab)(hL:bQ l)(E:Int)(log:List aB)(s:af)(bI c v:Int)(hm:s.made<=log.length)(M:log.length<=1000000):fH 128 l E log s [.ptr 11 0,z bI,z c,z v] (tG l bI c v log s) kC:=by
 generalize A:tG l bI c v log s=aK;unfold tG at A;refine sX func128 ntmps128 λ w cl own kf=>?_
 refine go ?_;refine xP (CP l hL E log s hm M) ?_;rintro d O ⟨p,s1,bJ,fB,cN,rfl,rfl⟩;rw[au bJ] at A;have qO:=(CN bJ).1;obtain⟨n,at_,ok⟩:=p;simp only at A qO;refine go ?_;cases ok
 ·rw[if_neg (by decide)] at A;refine go ?_;exact fX _ ⟨_,s1,A.symm,fB,cN,rfl,rfl⟩
 ·rw[if_pos rfl] at A;refine go ?_;refine lA (fY l hL E s1 n 1 (by omega) (by omega)) ?_;refine go ?_;refine xP (gM l E log s1 (am l n 1) v cN M) ?_;rintro d O ⟨aa,s2,bg,eK,cn,rfl,rfl⟩;rw[au bg] at A;refine go ?_;refine bL (λ p:Nat×af=>s.made<=p.2.made/\p.2.made<=log.length/\log.length-p.2.made<p.1/\tF l bI c v n p.1 log p.2=aK) (λ p=>⟨[(0,.ptr 11 0),(1,z bI),(2,z c),(3,z v),(9,z n),(8,.ptr 3 0)],(3,[z 0,dB false,z 0,z 0,.p (.sl true 0 [])])::bX l E log p.2,[]⟩) (λ p=>p.1) (log.length+1-s2.made,s2) ⟨by simp only;omega,cn,by simp only;omega,A⟩ (zX) ?_;rintro⟨k,t⟩ ⟨cw,bB,ij,A⟩;simp only at cw bB ij A;obtain⟨k,rfl⟩:∃j,k=j+1:=⟨k-1,by omega⟩;refine(show aJ _ _ _ _ ⟨[(0,.ptr 11 0),(1,z bI),(2,z c),(3,z v),(9,z n),(8,.ptr 3 0)],(3,[z 0,dB false,z 0,z 0,.p (.sl true 0 [])])::bX l E log t,[]⟩ from ?_);rw[tF] at A;refine go ?_;refine xP (Y4 l hL E log t bI n (by omega) bB M) ?_;rintro d O ⟨IQ,s3,bR,eQ,ci,rfl,rfl⟩;rw[au bR] at A;have gC:=(PO bR).2;refine go ?_;cases IQ
  ·rw[if_neg (by decide)] at A;refine go ?_;refine xP (dV l E log s3 c ci M) ?_;rintro d O ⟨w,s4,ct,iB,ef,rfl,rfl⟩;rw[au ct] at A;have UE:=g9 ct;have HH:0<=uL w/\uL w<4:=by unfold uL;omega
   have ho:0<=kr w/\kr w<268435456:=by unfold kr;omega
   refine gA (NX w) ?_;generalize u:decide (uL w=0)=cc;cases cc
   ·rw[if_neg (of_decide_eq_false u)] at A;refine go ?_;exact⟨(k,s4),⟨by simp only;omega,ef,by simp only;omega,A⟩,by simp only;omega,zX⟩
   ·rw[if_pos (of_decide_eq_true u)] at A;refine gA (IN v 1 (kr w+1)) ?_;refine cA (IN 0 0 (kr w+1)) ?_;refine go ?_;refine xP (iu l E log s4 c w (lG v 1 (kr w+1)) ef M) ?_;rintro d O ⟨IR,s5,di,j6,ej,rfl,rfl⟩;rw[au di] at A;have HZ:=ky di;refine go ?_;cases IR
    ·rw[if_neg (by decide)] at A;refine go ?_;exact⟨(k,s5),⟨by simp only;omega,ej,by simp only;omega,A⟩,by simp only;omega,zX⟩
    ·rw[if_pos rfl,au eC] at A;refine go ?_;refine lA (im l E s5 (by omega)) ?_;refine go ?_;refine xP (V4 l E log s5 c (lG v 1 (kr w+1)) (lG 0 0 (kr w+1)) ej M) ?_;rintro d O ⟨mt,s6,jv,sW,l4,rfl,rfl⟩;rw[au jv] at A;have aan:=(NE jv).2;refine go ?_;cases mt
     ·rw[if_neg (by decide)] at A;refine go ?_;exact⟨(k,s6),⟨by simp only;omega,l4,by simp only;omega,A⟩,by simp only;omega,zX⟩
     ·rw[if_pos rfl] at A;refine go ?_;refine xP (gM l E log s6 c (lG 0 0 (kr w+1)) l4 M) ?_;rintro d O ⟨aa,s7,nQ,Bz,sY,rfl,rfl⟩;rw[au nQ] at A;refine go ?_;refine xP (uf l hL E log s7 n (by omega) sY M) ?_;rintro d O ⟨aa,s8,Uy,Z4,TZ,rfl,rfl⟩;rw[au Uy] at A;refine go ?_;rw[show IntKind.i64.wrap (0-((s5.made:Int)-1))=-((s5.made:Int)-1) by rw[d6 (by omega) (by omega)];omega,show IntKind.i64.wrap (-((s5.made:Int)-1)-2)=-((s5.made:Int)-1)-2 from d6 (by omega) (by omega)];exact fX _ ⟨_,s8,A.symm,by omega,TZ,rfl,rfl⟩
  ·rw[if_pos rfl,au eC] at A;refine go ?_;refine lA (im l E s3 (by omega)) ?_;refine go ?_;exact fX _ ⟨_,s3,A.symm,by omega,ci,rfl,rfl⟩
set_option maxHeartbeats 8000000 in
theorem Xe(l:ab)(hL:bQ l)(E:Int)(log:List aB)(s:af)(bI c:Int)(eO:ee s.gone)(gz:s.gone.length<=10000)(hm:s.made<=log.length)(M:log.length<=1000000):fH 130 l E log s [.ptr 11 0,z bI,z c] (xn l E bI c log s) kC:=by
 generalize A:xn l E bI c log s=aK;unfold xn at A;refine sX func130 ntmps130 λ w cl own kf=>?_
 refine go ?_;refine bL (λ p:Nat×af=>s.made<=p.2.made/\p.2.made<=log.length/\log.length-p.2.made<p.1/\p.2.gone=s.gone/\uP l E bI c p.1 log p.2=aK) (λ p=>⟨[(0,.ptr 11 0),(1,z bI),(2,z c),(6,.ptr 3 0),(7,.ptr 4 0)],(4,[z 0,dB false,z 0,z 0,.p (.sl true 0 [])])::(3,[z 0,dB false,z 0,z 0,.p (.sl true 0 [])])::bX l E log p.2,[]⟩) (λ p=>p.1) (log.length+1-s.made,s) ⟨Nat.le_refl _,hm,by simp only;omega,rfl,A⟩ (zX) ?_;rintro⟨k,t⟩ ⟨cw,bB,ij,eH,A⟩;simp only at cw bB ij eH A;obtain⟨k,rfl⟩:∃j,k=j+1:=⟨k-1,by omega⟩;refine(show aJ _ _ _ _ ⟨[(0,.ptr 11 0),(1,z bI),(2,z c),(6,.ptr 3 0),(7,.ptr 4 0)],(4,[z 0,dB false,z 0,z 0,.p (.sl true 0 [])])::(3,[z 0,dB false,z 0,z 0,.p (.sl true 0 [])])::bX l E log t,[]⟩ from ?_);rw[uP] at A;refine go ?_;refine xP (Y3 l hL E log t bI bB M) ?_;rintro d O ⟨p,s1,bJ,fB,cN,rfl,rfl⟩;rw[au bJ] at A;obtain⟨g1,m1,n0,n1,jp⟩:=PN bJ;have eM:=m1 bB;have i8:s1.gone=s.gone:=g1.trans eH;obtain⟨n,at_,Zt⟩:=p;simp only at A n0 n1 jp;refine go ?_;rcases jp with rfl|rfl|rfl
 ·rw[if_pos rfl] at A;rw[show decide ((0:Int)=0)=true from rfl];refine go ?_;refine xP (jk l hL E log s1 cN M) ?_;rintro d O ⟨aa,s2,bg,eK,cn,rfl,rfl⟩;rw[au bg] at A;refine go ?_;exact fX _ ⟨_,s2,A.symm,by omega,cn,rfl,rfl⟩
 ·rw[if_neg (by decide),if_neg (by decide)] at A;rw[show decide ((1:Int)=0)=false from rfl];refine go ?_;rw[show decide ((1:Int)=2)=false from rfl];refine go ?_;refine xP (dV l E log s1 c cN M) ?_;rintro d O ⟨w,s2,bg,eK,cn,rfl,rfl⟩;rw[au bg] at A;have g8:=g9 bg;have dS:s2.gone=s.gone:=by rw[(fm bg).1];exact i8
  have wM:0<=tz w/\tz w<4294967296:=by unfold tz;omega
  refine gA (NX w) ?_;generalize u:decide (uL w=1)=cc;cases cc
  ·rw[if_neg (of_decide_eq_false u)] at A;refine go ?_;exact⟨(k,s2),⟨by simp only;omega,cn,by simp only;omega,dS,A⟩,by simp only;omega,zX⟩
  ·rw[if_pos (of_decide_eq_true u)] at A;refine gA (IN (tz w) 2 (kr w)) ?_;refine xP (iu l E log s2 c w (lG (tz w) 2 (kr w)) cn M) ?_;rintro d O ⟨IQ,s3,bR,eQ,ci,rfl,rfl⟩;rw[au bR] at A;have gC:=ky bR;have gX:s3.gone=s.gone:=by rw[(ir bR).1];exact dS
   refine go ?_;cases IQ
   ·rw[if_neg (by decide)] at A;refine go ?_;exact⟨(k,s3),⟨by simp only;omega,ci,by simp only;omega,gX,A⟩,by simp only;omega,zX⟩
   ·rw[if_pos rfl,au eC] at A;refine go ?_;refine lA (im l E s3 (by omega)) ?_;refine go ?_;refine xP (jk l hL E log s3 ci M) ?_;rintro d O ⟨aa,s4,ct,iB,ef,rfl,rfl⟩;rw[au ct] at A;refine go ?_;exact fX _ ⟨_,s4,A.symm,by omega,ef,rfl,rfl⟩
 ·rw[if_neg (by decide),if_pos rfl] at A;rw[show decide ((2:Int)=0)=false from rfl];refine go ?_;rw[show decide ((2:Int)=2)=true from rfl];refine go ?_;refine lA (fY l hL E s1 n 1 (by omega) (by omega)) ?_;refine go ?_;refine xP (dV l E log s1 (am l n 1) cN M) ?_;rintro d O ⟨w,s2,bg,eK,cn,rfl,rfl⟩;rw[au bg] at A;have dS:s2.gone=s.gone:=by rw[(fm bg).1];exact i8
  refine go ?_;refine xP (jk l hL E log s2 cn M) ?_;rintro d O ⟨aa,s3,bR,eQ,ci,rfl,rfl⟩;rw[au bR] at A;have gX:s3.gone=s.gone:=(i6 bR).trans dS;refine go ?_;refine xP (xu l hL E log s3 n (by omega) (by rw[gX];exact eO) (by rw[gX];exact gz) ci M) ?_;rintro d O ⟨aa,s4,ct,iB,ef,rfl,rfl⟩;rw[au ct] at A;refine go ?_;exact fX _ ⟨_,s4,A.symm,by omega,ef,rfl,rfl⟩
abbrev sc(l:ab)(E:Int)(log:List aB)(bI c:Int)(op:cq)(s:af):bH:=[(11,me l E s),(12,[.ptr 11 0]),(13,[fS log]),(14,[.ptr 11 0]),(15,[z bI]),(17,[z c]),(16,qb op)]
def sn{aq:Type}(l:ab)(E:Int)(log:List aB)(bI c:Int)(op:cq)(m:Except aS (aq×af))(enc:aq->F):F->bH->Prop:=λ d O=>∃x U,m=.ok (x,U)/\d=enc x/\O=sc l E log bI c op U
def so{aq:Type}(l:ab)(E:Int)(log:List aB)(bI c:Int)(op:cq)(m:Except aS (aq×af)):Value->bH->Prop:=λ v O=>∃a U,m=.error a/\v=hk a/\O=sc l E log bI c op U
theorem Wb(l:ab)(hL:bQ l)(E:Int)(log:List aB)(s:af)(bI c:Int)(op:cq)(hm:s.made<=log.length)(M:log.length<=1000000):fu prog 127 [11,12,13,14,15,17,16] [.ptr 14 0,.ptr 15 0,.ptr 17 0,.ptr 16 0] (sc l E log bI c op s) (sn l E log bI c op (tG l bI c op.a log s) kC) (so l E log bI c op (tG l bI c op.a log s)):=by
 refine sX func127 ntmps127 λ w cl own kf=>?_
 refine go ?_;refine xX (Xq l hL E log s bI c op.a hm M) ?_ ?_
 ·rintro v O ⟨a,U,h,rfl,rfl⟩;refine gP ?_;exact fP _ ⟨a,U,h,rfl,rfl⟩
 rintro d O ⟨x,U,h,gY,cg,rfl,rfl⟩;refine go ?_;exact fX _ ⟨x,U,h,rfl,rfl⟩
theorem IG(l:ab)(hL:bQ l)(E:Int)(log:List aB)(s:af)(bI c:Int)(op:cq)(eO:ee s.gone)(gz:s.gone.length<=10000)(hm:s.made<=log.length)(M:log.length<=1000000):fu prog 129 [11,12,13,14,15,17,16] [.ptr 14 0,.ptr 15 0,.ptr 17 0] (sc l E log bI c op s) (sn l E log bI c op (xn l E bI c log s) kC) (so l E log bI c op (xn l E bI c log s)):=by
 refine sX func129 ntmps129 λ w cl own kf=>?_
 refine go ?_;refine xX (Xe l hL E log s bI c eO gz hm M) ?_ ?_
 ·rintro v O ⟨a,U,h,rfl,rfl⟩;refine gP ?_;exact fP _ ⟨a,U,h,rfl,rfl⟩
 rintro d O ⟨x,U,h,gY,cg,rfl,rfl⟩;refine go ?_;exact fX _ ⟨x,U,h,rfl,rfl⟩
def sq(m:Except aS (br×af)):F->bH->Prop:=λ d O=>O=[]/\((∃x U,m=.ok (x,U)/\d=.bc [eW eF,jm {x with gone:=U.gone},dB true])\/∃a,m=.error a/\d=.bc [eW a,kC lH,dB false])
abbrev t7(a:aS)(od:List F)(dn:Bool):St:=⟨[(4,.ptr 22 0),(5,.ptr 23 0),(6,.ptr 24 0)],iF a od dn,[]⟩
def vr(m:Except aS (br×af))(Γ:bE):Exit->St->Prop:=λ ex I=>(ex=.ret/\∃x U,m=.ok (x,U)/\bF Γ I (t7 eF (nn {x with gone:=U.gone}) true))\/∃a,ex=.panic [pe (hk a)]/\m=.error a/\bF Γ I (t7 eF [z 0,dB false,z 0,z 0,.p (.sl true 0 [])] false)
set_option maxHeartbeats 4000000 in
theorem W9(l:ab)(E:Int)(log:List aB)(s:af)(bI c:Int)(op:cq)(m:Except aS (br×af))(hg:∀x U,m=.ok (x,U)->U.gone.length<=100000)(hC:fu prog 127 [11,12,13,14,15,17,16] [.ptr 14 0,.ptr 15 0,.ptr 17 0,.ptr 16 0] (sc l E log bI c op s) (sn l E log bI c op m kC) (so l E log bI c op m)):
 d8 prog 126 [] [.ptr 11 0,.fn (.func 127) [] [.ptr 14 0,.ptr 15 0,.ptr 17 0,.ptr 16 0]] (sc l E log bI c op s) (sq m):=by
 intro e vs hI hv;refine calls_of_wp_defers func126 rfl ?_;have ho:=tg (fn:=f126) (f:=126) (aX:=[]) [] (by decide) trivial hI hv rfl;refine wp_seq (Code.wp_mono (λ ex a1 w1 hh=>?_) (aJ.run (Q:=λ ex I=>ex=.normal/\I=⟨[(6,.ptr 24 0),(5,.ptr 23 0),(4,.ptr 22 0),(2,.ptr 21 0),(0,.ptr 11 0),(1,.fn (.func 127) [] [.ptr 14 0,.ptr 15 0,.ptr 17 0,.ptr 16 0])],(24,[dB false])::(23,[z 0,dB false,z 0,z 0,.p (.sl true 0 [])])::(22,[z 0,z 0,z 0,z 0])::(21,[.ptr 11 0])::sc l E log bI c op s,[]⟩) ?_ _ e ho))
 ·obtain⟨mX,e1,rfl,cb,rfl,rfl⟩:=hh;obtain⟨k1,_,_,b1,_,_⟩:=cb.boxes 21 _ rfl;obtain⟨k2,_,_,b2,_,_⟩:=cb.boxes 22 _ rfl;obtain⟨k3,_,_,b3,_,_⟩:=cb.boxes 23 _ rfl;obtain⟨k4,_,_,b4,_,_⟩:=cb.boxes 24 _ rfl;refine wp_seq (Ao cb rfl rfl rfl rfl rfl rfl rfl rfl [(21,k1),(22,k2),(23,k3),(24,k4)] (λ b k J=>?_) (λ a2 cC cS ez=>?_))
  ·simp only[cL] at J;split at J
   ·rename_i q;cases J;rw[<-q];exact b1
   ·split at J
    ·rename_i q;cases J;rw[<-q];exact b2
    ·split at J
     ·rename_i q;cases J;rw[<-q];exact b3
     ·split at J
      ·rename_i q;cases J;rw[<-q];exact b4
      ·cases J
  ·refine Code.wp_mono (λ ex a3 w3 hh=>?_) (aJ.run (Γ:=⟨18,e.w,e.cl,λ k=>∃b,e.bx b=some k,[(21,k1),(22,k2),(23,k3),(24,k4)],[{target:=.fn (.func 153) cC.toArray,args:=#[]}]⟩) (Q:=vr m ⟨18,e.w,e.cl,λ k=>∃b,e.bx b=some k,[(21,k1),(22,k2),(23,k3),(24,k4)],[{target:=.fn (.func 153) cC.toArray,args:=#[]}]⟩) ?_ a2 e1 ez)
   ·obtain⟨CQ,e3,rfl,ib,hq⟩:=hh;rcases hq with⟨rfl,x,U,hm,eA⟩|⟨a,rfl,hm,eA⟩
    ·skip
     obtain⟨e4,j7,bY⟩:=eA a3 e3 ib;show Leaves prog f126 a3.tmps _ a3.defers .returning e3.w;rw[bY.df,<-j7];have j4:DReps e4 cC [.ptr 22 0,.ptr 21 0,.ptr 23 0,.ptr 24 0]:=⟨cS.1,λ i v d hv G=>by
      match i,hv,G with
      |0,hv,G=>cases G;exact eE (cS.2 0 v _ hv rfl) b2 (bY.env.kb 22 k2 rfl)
      |1,hv,G=>cases G;exact eE (cS.2 1 v _ hv rfl) b1 (bY.env.kb 21 k1 rfl)
      |2,hv,G=>cases G;exact eE (cS.2 2 v _ hv rfl) b3 (bY.env.kb 23 k3 rfl)
      |3,hv,G=>cases G;exact eE (cS.2 3 v _ hv rfl) b4 (bY.env.kb 24 k4 rfl)⟩
     refine p3 bY (λ a w=>call153 a w) j4 rfl (by(repeat(first|exact trivial|refine⟨⟨rfl,rfl⟩,?_⟩))) ⟨.inr rfl,.inr rfl,.inr rfl,.inr rfl,trivial⟩ rfl (by simp) rfl (λ e0 oK u D=>xl eF {x with gone:=U.gone} true u D) (λ ag R=>by subst R;exact⟨.inl rfl,.inl rfl,.inl rfl,.inl rfl,trivial⟩) (λ ag e5 R du=>?_);subst R;obtain⟨v,hr,jx⟩:=n5 aw (fn:=f126) (d:=.bc [eW eF,jm {x with gone:=U.gone},dB true]) du rfl;refine⟨v,hr,v,_,[],e5.cut (aC []) λ _=>false,rfl,rfl,⟨rfl,.inl ⟨x,U,hm,rfl⟩⟩,kB du trivial,jx.cut rfl,⟨du.env.kept,du.env.cl,λ b k J=>?_,λ b R=>by cases R⟩⟩;cases J
    ·skip
     obtain⟨e4,j7,bY⟩:=eA a3 e3 ib;show Leaves prog f126 a3.tmps _ a3.defers (.panicking [pe (hk a)]) e3.w;rw[bY.df,<-j7];have j4:DReps e4 cC [.ptr 22 0,.ptr 21 0,.ptr 23 0,.ptr 24 0]:=⟨cS.1,λ i v d hv G=>by
      match i,hv,G with
      |0,hv,G=>cases G;exact eE (cS.2 0 v _ hv rfl) b2 (bY.env.kb 22 k2 rfl)
      |1,hv,G=>cases G;exact eE (cS.2 1 v _ hv rfl) b1 (bY.env.kb 21 k1 rfl)
      |2,hv,G=>cases G;exact eE (cS.2 2 v _ hv rfl) b3 (bY.env.kb 23 k3 rfl)
      |3,hv,G=>cases G;exact eE (cS.2 3 v _ hv rfl) b4 (bY.env.kb 24 k4 rfl)⟩
     refine p3 bY (λ a w=>call153 a w) j4 rfl (by(repeat(first|exact trivial|refine⟨⟨rfl,rfl⟩,?_⟩))) ⟨.inr rfl,.inr rfl,.inr rfl,.inr rfl,trivial⟩ rfl (by simp) rfl (λ e0 oK u D=>xm eF a _ rfl false u D) (λ ag R=>by subst R;exact⟨.inl rfl,.inl rfl,.inl rfl,.inl rfl,trivial⟩) (λ ag e5 R du=>?_);subst R;obtain⟨v,hr,jx⟩:=n5 aw (fn:=f126) (d:=.bc [eW a,kC lH,dB false]) du rfl;refine⟨v,hr,v,_,[],e5.cut (aC []) λ _=>false,rfl,rfl,⟨rfl,.inr ⟨a,hm,rfl⟩⟩,kB du trivial,jx.cut rfl,⟨du.env.kept,du.env.cl,λ b k J=>?_,λ b R=>by cases R⟩⟩;cases J
   ·refine go ?_;refine vX hC ?_ ?_
    ·rintro v O ⟨a,U,h,rfl,rfl⟩;refine gP ?_;exact .inr ⟨a,rfl,h,bF.trans (pF 21 rfl rfl) (zX)⟩
    rintro d O ⟨x,U,h,rfl,rfl⟩;refine gA ((ol U.gone (hg x U h)).pure) ?_;refine gW 3 [22] ?_;refine go ?_;exact .inl ⟨rfl,x,U,h,bF.trans (pF 21 rfl rfl) (zX)⟩
 ·refine gm ?_;refine bA 21 ?_;refine nA 22 ?_;refine nA 23 ?_;refine nA 24 ?_;exact jK ⟨rfl,rfl⟩
set_option maxHeartbeats 4000000 in
theorem I4(l:ab)(E:Int)(log:List aB)(s:af)(bI c:Int)(op:cq)(m:Except aS (br×af))(hg:∀x U,m=.ok (x,U)->U.gone.length<=100000)(hC:fu prog 129 [11,12,13,14,15,17,16] [.ptr 14 0,.ptr 15 0,.ptr 17 0] (sc l E log bI c op s) (sn l E log bI c op m kC) (so l E log bI c op m)):
 d8 prog 126 [] [.ptr 11 0,.fn (.func 129) [] [.ptr 14 0,.ptr 15 0,.ptr 17 0]] (sc l E log bI c op s) (sq m):=by
 intro e vs hI hv;refine calls_of_wp_defers func126 rfl ?_;have ho:=tg (fn:=f126) (f:=126) (aX:=[]) [] (by decide) trivial hI hv rfl;refine wp_seq (Code.wp_mono (λ ex a1 w1 hh=>?_) (aJ.run (Q:=λ ex I=>ex=.normal/\I=⟨[(6,.ptr 24 0),(5,.ptr 23 0),(4,.ptr 22 0),(2,.ptr 21 0),(0,.ptr 11 0),(1,.fn (.func 129) [] [.ptr 14 0,.ptr 15 0,.ptr 17 0])],(24,[dB false])::(23,[z 0,dB false,z 0,z 0,.p (.sl true 0 [])])::(22,[z 0,z 0,z 0,z 0])::(21,[.ptr 11 0])::sc l E log bI c op s,[]⟩) ?_ _ e ho))
 ·obtain⟨mX,e1,rfl,cb,rfl,rfl⟩:=hh;obtain⟨k1,_,_,b1,_,_⟩:=cb.boxes 21 _ rfl;obtain⟨k2,_,_,b2,_,_⟩:=cb.boxes 22 _ rfl;obtain⟨k3,_,_,b3,_,_⟩:=cb.boxes 23 _ rfl;obtain⟨k4,_,_,b4,_,_⟩:=cb.boxes 24 _ rfl;refine wp_seq (Ao cb rfl rfl rfl rfl rfl rfl rfl rfl [(21,k1),(22,k2),(23,k3),(24,k4)] (λ b k J=>?_) (λ a2 cC cS ez=>?_))
  ·simp only[cL] at J;split at J
   ·rename_i q;cases J;rw[<-q];exact b1
   ·split at J
    ·rename_i q;cases J;rw[<-q];exact b2
    ·split at J
     ·rename_i q;cases J;rw[<-q];exact b3
     ·split at J
      ·rename_i q;cases J;rw[<-q];exact b4
      ·cases J
  ·refine Code.wp_mono (λ ex a3 w3 hh=>?_) (aJ.run (Γ:=⟨18,e.w,e.cl,λ k=>∃b,e.bx b=some k,[(21,k1),(22,k2),(23,k3),(24,k4)],[{target:=.fn (.func 153) cC.toArray,args:=#[]}]⟩) (Q:=vr m ⟨18,e.w,e.cl,λ k=>∃b,e.bx b=some k,[(21,k1),(22,k2),(23,k3),(24,k4)],[{target:=.fn (.func 153) cC.toArray,args:=#[]}]⟩) ?_ a2 e1 ez)
   ·obtain⟨CQ,e3,rfl,ib,hq⟩:=hh;rcases hq with⟨rfl,x,U,hm,eA⟩|⟨a,rfl,hm,eA⟩
    ·skip
     obtain⟨e4,j7,bY⟩:=eA a3 e3 ib;show Leaves prog f126 a3.tmps _ a3.defers .returning e3.w;rw[bY.df,<-j7];have j4:DReps e4 cC [.ptr 22 0,.ptr 21 0,.ptr 23 0,.ptr 24 0]:=⟨cS.1,λ i v d hv G=>by
      match i,hv,G with
      |0,hv,G=>cases G;exact eE (cS.2 0 v _ hv rfl) b2 (bY.env.kb 22 k2 rfl)
      |1,hv,G=>cases G;exact eE (cS.2 1 v _ hv rfl) b1 (bY.env.kb 21 k1 rfl)
      |2,hv,G=>cases G;exact eE (cS.2 2 v _ hv rfl) b3 (bY.env.kb 23 k3 rfl)
      |3,hv,G=>cases G;exact eE (cS.2 3 v _ hv rfl) b4 (bY.env.kb 24 k4 rfl)⟩
     refine p3 bY (λ a w=>call153 a w) j4 rfl (by(repeat(first|exact trivial|refine⟨⟨rfl,rfl⟩,?_⟩))) ⟨.inr rfl,.inr rfl,.inr rfl,.inr rfl,trivial⟩ rfl (by simp) rfl (λ e0 oK u D=>xl eF {x with gone:=U.gone} true u D) (λ ag R=>by subst R;exact⟨.inl rfl,.inl rfl,.inl rfl,.inl rfl,trivial⟩) (λ ag e5 R du=>?_);subst R;obtain⟨v,hr,jx⟩:=n5 aw (fn:=f126) (d:=.bc [eW eF,jm {x with gone:=U.gone},dB true]) du rfl;refine⟨v,hr,v,_,[],e5.cut (aC []) λ _=>false,rfl,rfl,⟨rfl,.inl ⟨x,U,hm,rfl⟩⟩,kB du trivial,jx.cut rfl,⟨du.env.kept,du.env.cl,λ b k J=>?_,λ b R=>by cases R⟩⟩;cases J
    ·skip
     obtain⟨e4,j7,bY⟩:=eA a3 e3 ib;show Leaves prog f126 a3.tmps _ a3.defers (.panicking [pe (hk a)]) e3.w;rw[bY.df,<-j7];have j4:DReps e4 cC [.ptr 22 0,.ptr 21 0,.ptr 23 0,.ptr 24 0]:=⟨cS.1,λ i v d hv G=>by
      match i,hv,G with
      |0,hv,G=>cases G;exact eE (cS.2 0 v _ hv rfl) b2 (bY.env.kb 22 k2 rfl)
      |1,hv,G=>cases G;exact eE (cS.2 1 v _ hv rfl) b1 (bY.env.kb 21 k1 rfl)
      |2,hv,G=>cases G;exact eE (cS.2 2 v _ hv rfl) b3 (bY.env.kb 23 k3 rfl)
      |3,hv,G=>cases G;exact eE (cS.2 3 v _ hv rfl) b4 (bY.env.kb 24 k4 rfl)⟩
     refine p3 bY (λ a w=>call153 a w) j4 rfl (by(repeat(first|exact trivial|refine⟨⟨rfl,rfl⟩,?_⟩))) ⟨.inr rfl,.inr rfl,.inr rfl,.inr rfl,trivial⟩ rfl (by simp) rfl (λ e0 oK u D=>xm eF a _ rfl false u D) (λ ag R=>by subst R;exact⟨.inl rfl,.inl rfl,.inl rfl,.inl rfl,trivial⟩) (λ ag e5 R du=>?_);subst R;obtain⟨v,hr,jx⟩:=n5 aw (fn:=f126) (d:=.bc [eW a,kC lH,dB false]) du rfl;refine⟨v,hr,v,_,[],e5.cut (aC []) λ _=>false,rfl,rfl,⟨rfl,.inr ⟨a,hm,rfl⟩⟩,kB du trivial,jx.cut rfl,⟨du.env.kept,du.env.cl,λ b k J=>?_,λ b R=>by cases R⟩⟩;cases J
   ·refine go ?_;refine vX hC ?_ ?_
    ·rintro v O ⟨a,U,h,rfl,rfl⟩;refine gP ?_;exact .inr ⟨a,rfl,h,bF.trans (pF 21 rfl rfl) (zX)⟩
    rintro d O ⟨x,U,h,rfl,rfl⟩;refine gA ((ol U.gone (hg x U h)).pure) ?_;refine gW 3 [22] ?_;refine go ?_;exact .inl ⟨rfl,x,U,h,bF.trans (pF 21 rfl rfl) (zX)⟩
 ·refine gm ?_;refine bA 21 ?_;refine nA 22 ?_;refine nA 23 ?_;refine nA 24 ?_;exact jK ⟨rfl,rfl⟩
theorem ue{l:ab}{n:Int}:∀{k:Nat}{log:List aB}{s U:af}{aa:Unit},lu l n k log s=.ok (aa,U)->U.gone=s.gone
 |0,log,s,U,aa,h=>by cases h;rfl
 |k+1,log,s,U,aa,h=>by
  rw[lu] at h;cases u:cy l.free log s with
  |error a=>rw[bl u] at h;cases h
  |ok q=>
   obtain⟨fr,s1⟩:=q;rw[au u] at h;have g1:s1.gone=s.gone:=by rw[(fm u).1]
   cases D:fa (am l n 7) (az fr).idx log s1 with
   |error a=>rw[bl D] at h;cases h
   |ok q=>
    obtain⟨lk,s2⟩:=q;rw[au D] at h;have g2:s2.gone=s.gone:=by rw[(mT D).1];exact g1
    cases K:fv l.free fr (dJ (eo (az fr) n)) log s2 with
    |error a=>rw[bl K] at h;cases h
    |ok q=>
     obtain⟨ok,s3⟩:=q;rw[au K] at h;have g3:s3.gone=s.gone:=by rw[(ir K).1];exact g2
     split at h
     ·cases h;exact g3
     ·exact(ue h).trans g3
theorem E1{l:ab}{bI c v n:Int}:∀{k:Nat}{log:List aB}{s U:af}{x:br},tF l bI c v n k log s=.ok (x,U)->U.gone=s.gone
 |0,log,s,U,x,h=>by cases h;rfl
 |k+1,log,s,U,x,h=>by
  rw[tF] at h;cases u:vg l bI n log s with
  |error a=>rw[bl u] at h;cases h
  |ok q=>
   obtain⟨b,s1⟩:=q;rw[au u] at h;have g1:=(PO u).1;cases b
   ·rw[if_neg (by decide)] at h;cases D:cy c log s1 with
    |error a=>rw[bl D] at h;cases h
    |ok q=>
     obtain⟨w,s2⟩:=q;rw[au D] at h;have g2:s2.gone=s.gone:=by rw[(fm D).1];exact g1
     split at h
     ·cases K:fv c w (lG v 1 (kr w+1)) log s2 with
      |error a=>rw[bl K] at h;cases h
      |ok q=>
       obtain⟨ok,s3⟩:=q;rw[au K] at h;have g3:s3.gone=s.gone:=by rw[(ir K).1];exact g2
       cases ok
       ·rw[if_neg (by decide)] at h;exact(E1 h).trans g3
       ·rw[if_pos rfl,au eC] at h;cases h4:wZ c (lG v 1 (kr w+1)) (lG 0 0 (kr w+1)) log s3 with
        |error a=>rw[bl h4] at h;cases h
        |ok q=>
         obtain⟨mt,s4⟩:=q;rw[au h4] at h;have g4:=(NE h4).1.trans g3;cases mt
         ·rw[if_neg (by decide)] at h;exact(E1 h).trans g4
         ·rw[if_pos rfl] at h;cases h5:fa c (lG 0 0 (kr w+1)) log s4 with
          |error a=>rw[bl h5] at h;cases h
          |ok q=>
           obtain⟨aa,s5⟩:=q;rw[au h5] at h;have g5:s5.gone=s.gone:=by rw[(mT h5).1];exact g4
           cases h6:m8 l n log s5 with
           |error a=>rw[bl h6] at h;cases h
           |ok q=>obtain⟨aa,s6⟩:=q;rw[au h6] at h;cases h;exact(ue h6).trans g5
     ·exact(E1 h).trans g2
   ·rw[if_pos rfl,au eC] at h;cases h;exact g1
theorem Xp{l:ab}{bI c v:Int}{log:List aB}{s U:af}{x:br}(h:tG l bI c v log s=.ok (x,U)):U.gone=s.gone:=by
 unfold tG at h;cases u:qk l log s with
 |error a=>rw[bl u] at h;cases h
 |ok q=>
  obtain⟨p,s1⟩:=q;rw[au u] at h;have g1:s1.gone=s.gone:=(CN u).2;split at h
  ·cases D:fa (am l p.1 1) v log s1 with
   |error a=>rw[bl D] at h;cases h
   |ok q=>
    obtain⟨aa,s2⟩:=q;rw[au D] at h;have g2:s2.gone=s.gone:=by rw[(mT D).1];exact g1
    exact(E1 h).trans g2
  ·cases h;exact g1
theorem Cm{l:ab}{E bI c:Int}:∀{k:Nat}{log:List aB}{s U:af}{x:br},uP l E bI c k log s=.ok (x,U)->U.gone.length<=s.gone.length+1
 |0,log,s,U,x,h=>by cases h;omega
 |k+1,log,s,U,x,h=>by
  rw[uP] at h;cases u:vf l E bI log s with
  |error a=>rw[bl u] at h;cases h
  |ok q=>
   obtain⟨p,s1⟩:=q;rw[au u] at h;have g1:=(PN u).1;split at h
   ·cases D:fZ l E log s1 with
    |error a=>rw[bl D] at h;cases h
    |ok q=>obtain⟨aa,s2⟩:=q;rw[au D] at h;cases h;have:U.gone=s.gone:=(i6 D).trans g1;rw[this];omega
   ·split at h
    ·cases D:cy (am l p.1 1) log s1 with
     |error a=>rw[bl D] at h;cases h
     |ok q=>
      obtain⟨aaO,s2⟩:=q;rw[au D] at h;have g2:s2.gone=s.gone:=by rw[(fm D).1];exact g1
      cases K:fZ l E log s2 with
      |error a=>rw[bl K] at h;cases h
      |ok q=>
       obtain⟨aa,s3⟩:=q;rw[au K] at h;have g3:s3.gone=s.gone:=(i6 K).trans g2;cases h4:kg l p.1 log s3 with
       |error a=>rw[bl h4] at h;cases h
       |ok q=>obtain⟨aa,s4⟩:=q;rw[au h4] at h;cases h;have:=Cx h4;rw[g3] at this;exact this
    ·cases D:cy c log s1 with
     |error a=>rw[bl D] at h;cases h
     |ok q=>
      obtain⟨w,s2⟩:=q;rw[au D] at h;have g2:s2.gone=s.gone:=by rw[(fm D).1];exact g1
      split at h
      ·cases K:fv c w (lG (tz w) 2 (kr w)) log s2 with
       |error a=>rw[bl K] at h;cases h
       |ok q=>
        obtain⟨ok,s3⟩:=q;rw[au K] at h;have g3:s3.gone=s.gone:=by rw[(ir K).1];exact g2
        cases ok
        ·rw[if_neg (by decide)] at h;have:=Cm h;rw[g3] at this;exact this
        ·rw[if_pos rfl,au eC] at h;cases h4:fZ l E log s3 with
         |error a=>rw[bl h4] at h;cases h
         |ok q=>obtain⟨aa,s4⟩:=q;rw[au h4] at h;cases h;have:U.gone=s.gone:=(i6 h4).trans g3;rw[this];omega
      ·have:=Cm h;rw[g2] at this;exact this
abbrev qx(r:aS×br×Bool):F:=.bc [eW r.1,jm r.2.1,dB r.2.2]
set_option maxHeartbeats 8000000 in
theorem Cd(l:ab)(hL:bQ l)(E:Int)(rY:0<=E/\E<=1000000)(gone:List (Int×Int))(op:cq)(log:List aB)(eO:ee gone)(gz:gone.length<=10000)(M:log.length<=1000000):aW prog 106 [cF l,z E,cT gone,Gy op,fS log] (qx (dC l E gone op log)):=by
 generalize A:dC l E gone op log=aK;unfold dC at A;refine sP func106 ntmps106 λ w cl=>?_
 refine gm ?_;refine bA 0 ?_;refine bA 16 ?_;refine nA 2 ?_;refine nA 3 ?_;refine go ?_;refine cA (PM l hL op.obj) ?_;refine nA 15 ?_;refine go ?_;generalize u:decide (hd l op.obj<0)=cc;cases cc
 ·rw[if_neg (of_decide_eq_false u)] at A;refine go ?_;refine cI (AH l E gone log) ?_;rintro d O ⟨rfl,rfl⟩;refine nA 14 ?_;refine go ?_;refine cA (YE l hL E op.obj rY.1 rY.2) ?_;refine nA 17 ?_;refine go ?_;generalize D:decide (op.kind=4)=cc;cases cc
  ·have bd:=of_decide_eq_false D;rw[if_neg (λ h=>bd h.1)] at A;refine go ?_;generalize h5:decide (op.kind=5)=cc;cases cc
   ·rw[if_neg (of_decide_eq_false h5)] at A;refine gA (ra gone (by omega)) ?_;refine dt ?_;rw[<-A]
   ·rw[if_pos (of_decide_eq_true h5)] at A;refine go ?_;refine gk (I4 l E log ⟨0,gone,0,0,0⟩ (hd l op.obj) (px l E op.obj) op _ (λ x U h=>by have:=Cm h;simp at this;omega) (IG l hL E log ⟨0,gone,0,0,0⟩ (hd l op.obj) (px l E op.obj) op eO gz (Nat.zero_le _) M)) rfl (λ a w=>call126 a w) rfl rfl (by(repeat(first|exact trivial|refine⟨⟨rfl,rfl⟩,?_⟩))) trivial rfl rfl rfl rfl ?_ ?_
    ·rintro d O ⟨rfl,_⟩;exact trivial
    rintro d O ⟨rfl,⟨x,U,hm,rfl⟩|⟨a,hm,rfl⟩⟩
    ·rw[hm] at A;refine gf ?_;rw[<-A];rfl
    ·rw[hm] at A;refine gf ?_;rw[<-A];rfl
  ·have bd:=of_decide_eq_true D;refine go ?_;generalize K:decide (op.a>=0)=cc;cases cc
   ·have cK:=of_decide_eq_false K;rw[if_neg (λ h=>cK h.2.1)] at A;refine go ?_;generalize h5:decide (op.kind=5)=cc;cases cc
    ·rw[if_neg (of_decide_eq_false h5)] at A;refine gA (ra gone (by omega)) ?_;refine dt ?_;rw[<-A]
    ·rw[if_pos (of_decide_eq_true h5)] at A;refine go ?_;refine gk (I4 l E log ⟨0,gone,0,0,0⟩ (hd l op.obj) (px l E op.obj) op _ (λ x U h=>by have:=Cm h;simp at this;omega) (IG l hL E log ⟨0,gone,0,0,0⟩ (hd l op.obj) (px l E op.obj) op eO gz (Nat.zero_le _) M)) rfl (λ a w=>call126 a w) rfl rfl (by(repeat(first|exact trivial|refine⟨⟨rfl,rfl⟩,?_⟩))) trivial rfl rfl rfl rfl ?_ ?_
     ·rintro d O ⟨rfl,_⟩;exact trivial
     rintro d O ⟨rfl,⟨x,U,hm,rfl⟩|⟨a,hm,rfl⟩⟩
     ·rw[hm] at A;refine gf ?_;rw[<-A];rfl
     ·rw[hm] at A;refine gf ?_;rw[<-A];rfl
   ·have cK:=of_decide_eq_true K;refine go ?_;generalize h4:decide (op.a<4294967296)=cc;cases cc
    ·have jM:=of_decide_eq_false h4;rw[if_neg (λ h=>jM h.2.2)] at A;refine go ?_;generalize h5:decide (op.kind=5)=cc;cases cc
     ·rw[if_neg (of_decide_eq_false h5)] at A;refine gA (ra gone (by omega)) ?_;refine dt ?_;rw[<-A]
     ·rw[if_pos (of_decide_eq_true h5)] at A;refine go ?_;refine gk (I4 l E log ⟨0,gone,0,0,0⟩ (hd l op.obj) (px l E op.obj) op _ (λ x U h=>by have:=Cm h;simp at this;omega) (IG l hL E log ⟨0,gone,0,0,0⟩ (hd l op.obj) (px l E op.obj) op eO gz (Nat.zero_le _) M)) rfl (λ a w=>call126 a w) rfl rfl (by(repeat(first|exact trivial|refine⟨⟨rfl,rfl⟩,?_⟩))) trivial rfl rfl rfl rfl ?_ ?_
      ·rintro d O ⟨rfl,_⟩;exact trivial
      rintro d O ⟨rfl,⟨x,U,hm,rfl⟩|⟨a,hm,rfl⟩⟩
      ·rw[hm] at A;refine gf ?_;rw[<-A];rfl
      ·rw[hm] at A;refine gf ?_;rw[<-A];rfl
    ·rw[if_pos ⟨bd,cK,of_decide_eq_true h4⟩] at A;refine go ?_;refine gk (W9 l E log ⟨0,gone,0,0,0⟩ (hd l op.obj) (px l E op.obj) op _ (λ x U h=>by rw[Xp h];simp;omega) (Wb l hL E log ⟨0,gone,0,0,0⟩ (hd l op.obj) (px l E op.obj) op (Nat.zero_le _) M)) rfl (λ a w=>call126 a w) rfl rfl (by(repeat(first|exact trivial|refine⟨⟨rfl,rfl⟩,?_⟩))) trivial rfl rfl rfl rfl ?_ ?_
     ·rintro d O ⟨rfl,_⟩;exact trivial
     rintro d O ⟨rfl,⟨x,U,hm,rfl⟩|⟨a,hm,rfl⟩⟩
     ·rw[hm] at A;refine gf ?_;rw[<-A];rfl
     ·rw[hm] at A;refine gf ?_;rw[<-A];rfl
 ·rw[if_pos (of_decide_eq_true u)] at A;refine gA (ra gone (by omega)) ?_;refine dt ?_;rw[<-A]
end Go.Proofs.YtcnefjfboagbmaaGreat.Em
