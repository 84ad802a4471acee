/- The piece of a program once more: elim's. -/
import Derived.Test.YtcnefjfboagbmaaGreatWA
import Derived.Test.YtcnefjfboagbmaaGreatPA
namespace Go.Proofs.YtcnefjfboagbmaaGreat.Em
open Go.Proofs.Tryz
open Go.RowKit
set_option maxRecDepth 100000
abbrev nH(l:ah)(G:Int)(s:af):List K:=[E l.ar,E l.nodes,E l.buckets,E l.bU,E l.tasks,E l.cells,E l.maps,E l.dl,E l.bo,E l.done,E l.count,E l.era,E l.free,E l.alive,E l.owner,E l.mB,E l.sJ,E l.ring,E l.task,E l.cell,E l.map,E l.stack,E l.chan,E l.node,E l.size,E G,eh s.gone,E s.made,E s.e0,E s.e1,E s.e2,.fn (.func 151) [] [.ptr 12 0,.ptr 13 0]]
abbrev co(l:ah)(G:Int)(log:List aF)(s:af):bJ:=[(11,nH l G s),(12,[.ptr 11 0]),(13,[gT log])]
theorem gJ(l:ah)(U:cr l)(G:Int)(s:af)(n i:Int)(hn:n<9223372036854775808)(hi:i<9223372036854775808):bc prog 156 [.el (Cr l G s),E n,E i] (E (aN l n i)):=by
 refine sP func156 ntmps156 λ w cl=>?_
 refine gA (kD l U n i hn hi) ?_;refine ez ?_
 rfl
theorem i6(l:ah)(G:Int)(s:af)(h:(s.made:Int)<9223372036854775807):bc prog 158 [.el (Cr l G s)] (E ((s.made:Int)-1)):=by
 refine sP func158 ntmps158 λ w cl=>?_
 refine gf ?_
 rfl
abbrev iK(a:aX):Value:=.iface 174 (.agg #[.int .i64 a.kind,.int .i64 a.cell,.int .i64 a.dg,.int .i64 a.new])
def C0{av:Type}(l:ah)(G:Int)(log:List aF)(m:Except aX (av×af))(s:af)(enc:av->K):K->bJ->Prop:=λ d Y=>∃x aa,m=.ok (x,aa)/\s.made<=aa.made/\aa.made<=log.length/\d=enc x/\Y=co l G log aa
def C3{av:Type}(l:ah)(G:Int)(log:List aF)(m:Except aX (av×af)):Value->bJ->Prop:=λ v Y=>∃a aa,m=.error a/\v=iK a/\Y=co l G log aa
abbrev fZ{av:Type}(f:FuncId)(l:ah)(G:Int)(log:List aF)(s:af)(ds:List K)(m:Except aX (av×af))(enc:av->K):Prop:=
 fM prog f [11,12,13] ds (co l G log s) (C0 l G log m s enc) (C3 l G log m)
theorem pW(l:ah)(G:Int)(log:List aF)(s:af)(a:aX)(hm:s.made<=log.length)(U:log.length<=1000000):fZ 151 l G log s [fC a,.ptr 12 0,.ptr 13 0] (fO a log s) yz:=by
 refine sX func151 ntmps151 λ w cl own kf=>?_
 refine go ?_;refine gD [] ?_;refine go ?_;generalize A:decide ((s.made:Int)=(log.length:Int))=cc;cases cc
 ·have aU:=of_decide_eq_false A;have bm:s.made<log.length:=by omega
  have hr:log[s.made]?=some log[s.made]:=List.getElem?_eq_getElem bm;generalize log[s.made]=r at hr;have qd:log[((s.made:Int)+1-1).toNat]?=some r:=by rw[show((s.made:Int)+1-1).toNat=s.made by omega];exact hr
  refine go ?_;refine gW 8 [] ?_;refine ri [pI r.val,pB r.ok] (EL qd) ?_;refine qg ?_;exact fX _ ⟨r,{s with made:=s.made+1},by rw[fO,hr],by simp,by simp;omega,rfl,rfl⟩
 ·have aU:log.length=s.made:=by have:=of_decide_eq_true A;omega
  have hr:log[s.made]?=none:=List.getElem?_eq_none (by omega);refine go ?_;refine bh (ED aD rfl rfl rfl rfl rfl) rfl rfl rfl ?_;refine C7 rfl rfl rfl ?_;refine gP ?_;exact fP _ ⟨a,s,by rw[fO,hr],rfl,rfl⟩
theorem eC(l:ah)(G:Int)(log:List aF)(s:af)(c:Int)(hm:s.made<=log.length)(U:log.length<=1000000):fZ 159 l G log s [.ptr 11 0,E c] (cZ c log s) E:=by
 refine sX func159 ntmps159 λ w cl own kf=>?_
 refine go ?_;refine vX (pW l G log s ⟨1,c,0,0⟩ hm U) ?_ ?_
 ·rintro v Y ⟨a,aa,h,rfl,rfl⟩;refine gP ?_;exact fP _ ⟨a,aa,bj h,rfl,rfl⟩
 rintro d Y ⟨x,aa,h,iE,cD,rfl,rfl⟩;refine go ?_;exact fX _ ⟨x.val,aa,az h,iE,cD,rfl,rfl⟩
theorem iy(l:ah)(G:Int)(log:List aF)(s:af)(c v:Int)(hm:s.made<=log.length)(U:log.length<=1000000):fZ 155 l G log s [.ptr 11 0,E c,E v] (fA c v log s) (λ _=>.bd []):=by
 refine sX func155 ntmps155 λ w cl own kf=>?_
 refine go ?_;refine vX (pW l G log s ⟨2,c,0,v⟩ hm U) ?_ ?_
 ·rintro v Y ⟨a,aa,h,rfl,rfl⟩;refine gP ?_;exact fP _ ⟨a,aa,bj h,rfl,rfl⟩
 rintro d Y ⟨x,aa,h,iE,cD,rfl,rfl⟩;refine go ?_;exact fX _ ⟨(),aa,az h,iE,cD,rfl,rfl⟩
theorem jb(l:ah)(G:Int)(log:List aF)(s:af)(c o v:Int)(hm:s.made<=log.length)(U:log.length<=1000000):fZ 162 l G log s [.ptr 11 0,E c,E o,E v] (fN c o v log s) dB:=by
 refine sX func162 ntmps162 λ w cl own kf=>?_
 refine go ?_;refine vX (pW l G log s ⟨3,c,o,v⟩ hm U) ?_ ?_
 ·rintro v Y ⟨a,aa,h,rfl,rfl⟩;refine gP ?_;exact fP _ ⟨a,aa,bj h,rfl,rfl⟩
 rintro d Y ⟨x,aa,h,iE,cD,rfl,rfl⟩;refine go ?_;exact fX _ ⟨x.ok,aa,az h,iE,cD,rfl,rfl⟩
set_option maxHeartbeats 4000000 in
theorem FA(l:ah)(hL:cr l)(G:Int)(log:List aF)(s:af)(hm:s.made<=log.length)(U:log.length<=1000000):fZ 154 l G log s [.ptr 11 0] (sr l log s) (λ p=>.bd [E p.1,E p.2.1,dB p.2.2]):=by
 generalize I:sr l log s=aQ;refine sX func154 ntmps154 λ w cl own kf=>?_
 refine go ?_;refine cn (λ p:Nat×af=>s.made<=p.2.made/\p.2.made<=log.length/\log.length-p.2.made<p.1/\ou l p.1 log p.2=aQ) (λ p=>⟨[(0,.ptr 11 0)],co l G log p.2,[]⟩) (λ p=>p.1) (log.length+1-s.made,s) ⟨Nat.le_refl _,hm,by simp only;omega,I⟩ (zX) ?_;rintro⟨k,t⟩ ⟨cY,bw,iZ,I⟩;simp only at cY bw iZ I;obtain⟨k,rfl⟩:∃j,k=j+1:=⟨k-1,by omega⟩;refine(show aP _ _ _ _ ⟨[(0,.ptr 11 0)],co l G log t,[]⟩ from ?_);rw[ou] at I;refine go ?_;refine xP (eC l G log t l.free bw U) ?_;rintro d Y ⟨fr,s1,bO,fT,dc,rfl,rfl⟩;rw[az bO] at I;have fe:=iH bO;have cj:=kU fr;have du:=tr fr;refine gA (kV fr) ?_;generalize A:decide ((ae fr).idx=0)=cc;cases cc
 ·have aU:=of_decide_eq_false A;rw[if_neg aU] at I;refine go ?_;refine lA (gJ l hL G s1 (ae fr).idx 7 (by omega) (by omega)) ?_;refine go ?_;refine xP (eC l G log s1 (aN l (ae fr).idx 7) dc U) ?_;rintro d Y ⟨lk,s2,bg,fj,cN,rfl,rfl⟩;rw[az bg] at I;have fD:=iH bg;refine go ?_;refine dW 11 [] ?_;refine gQ (qp (ae fr) lk du.1 du.2) ?_;refine cQ (my (ca (ae fr) lk)) ?_;refine br ?_;refine xP (jb l G log s2 l.free fr (bK (ca (ae fr) lk)) cN U) ?_;rintro d Y ⟨iv,s3,bV,fv,cS,rfl,rfl⟩;rw[az bV] at I;have gx:=lO bV;refine go ?_;cases iv
  ·rw[if_neg (by decide)] at I;refine go ?_;exact⟨(k,s3),⟨by simp only;omega,cS,by simp only;omega,I⟩,by simp only;omega,zX⟩
  ·rw[if_pos rfl,az eu] at I;refine go ?_;refine lA (i6 l G s3 (by omega)) ?_;refine go ?_;refine xP (eC l G log s3 l.era cS U) ?_;rintro d Y ⟨bi,s4,cX,jf,eQ,rfl,rfl⟩;rw[az cX] at I;refine go ?_;refine lA (gJ l hL G s4 (ae fr).idx 6 (by omega) (by omega)) ?_;refine go ?_;refine xP (iy l G log s4 (aN l (ae fr).idx 6) bi eQ U) ?_;rintro d Y ⟨u,s5,dD,li,eW,rfl,rfl⟩;rw[az dD] at I;refine go ?_;exact fX _ ⟨_,s5,I.symm,by omega,eW,rfl,rfl⟩
 ·rw[if_pos (of_decide_eq_true A),az eu] at I;refine go ?_;refine lA (i6 l G s1 (by omega)) ?_;refine go ?_;exact fX _ ⟨_,s1,I.symm,by omega,dc,rfl,rfl⟩
set_option maxHeartbeats 4000000 in
theorem w9(l:ah)(hL:cr l)(G:Int)(log:List aF)(s:af)(n:Int)(hn:n<9223372036854775808)(hm:s.made<=log.length)(U:log.length<=1000000):fZ 164 l G log s [.ptr 11 0,E n] (oI l n log s) (λ _=>.bd []):=by
 generalize I:oI l n log s=aQ;refine sX func164 ntmps164 λ w cl own kf=>?_
 refine go ?_;refine cn (λ p:Nat×af=>s.made<=p.2.made/\p.2.made<=log.length/\log.length-p.2.made<p.1/\mH l n p.1 log p.2=aQ) (λ p=>⟨[(0,.ptr 11 0),(1,E n)],co l G log p.2,[]⟩) (λ p=>p.1) (log.length+1-s.made,s) ⟨Nat.le_refl _,hm,by simp only;omega,I⟩ (zX) ?_;rintro⟨k,t⟩ ⟨cY,bw,iZ,I⟩;simp only at cY bw iZ I;obtain⟨k,rfl⟩:∃j,k=j+1:=⟨k-1,by omega⟩;refine(show aP _ _ _ _ ⟨[(0,.ptr 11 0),(1,E n)],co l G log t,[]⟩ from ?_);rw[mH] at I;refine go ?_;refine xP (eC l G log t l.free bw U) ?_;rintro d Y ⟨fr,s1,bO,fT,dc,rfl,rfl⟩;rw[az bO] at I;have fe:=iH bO;have du:=tr fr;refine gA (kV fr) ?_;refine gW 6 [] ?_;refine lQ (gJ l hL G s1 n 7 hn (by omega)) ?_;refine br ?_;refine xP (iy l G log s1 (aN l n 7) (ae fr).idx dc U) ?_;rintro d Y ⟨u,s2,bg,fj,cN,rfl,rfl⟩;rw[az bg] at I;have fD:=so bg;refine go ?_;refine dW 11 [] ?_;refine gQ (qp (ae fr) n du.1 du.2) ?_;refine cQ (my (ca (ae fr) n)) ?_;refine br ?_;refine xP (jb l G log s2 l.free fr (bK (ca (ae fr) n)) cN U) ?_;rintro d Y ⟨iv,s3,bV,fv,cS,rfl,rfl⟩;rw[az bV] at I;have gx:=lO bV;refine go ?_;cases iv
 ·rw[if_neg (by decide)] at I;refine go ?_;exact⟨(k,s3),⟨by simp only;omega,cS,by simp only;omega,I⟩,by simp only;omega,zX⟩
 ·rw[if_pos rfl] at I;refine go ?_;exact fX _ ⟨_,s3,I.symm,by omega,cS,rfl,rfl⟩
set_option maxHeartbeats 4000000 in
theorem Bl(l:ah)(hL:cr l)(G:Int)(log:List aF)(s:af)(cell:Int)(hm:s.made<=log.length)(U:log.length<=1000000):fZ 194 l G log s [.ptr 11 0,E 0,E cell] (mg l G 0 cell log s) (λ p=>.bd [E p.1,E p.2]):=by
 generalize I:mg l G 0 cell log s=aQ;refine sX func194 ntmps194 λ w cl own kf=>?_
 refine go ?_;refine cn (λ p:Nat×af=>s.made<=p.2.made/\p.2.made<=log.length/\log.length-p.2.made<p.1/\lC l G 0 cell p.1 log p.2=aQ) (λ p=>⟨[(0,.ptr 11 0),(1,E 0),(2,E cell)],co l G log p.2,[]⟩) (λ p=>p.1) (log.length+1-s.made,s) ⟨Nat.le_refl _,hm,by simp only;omega,I⟩ (zX) ?_;rintro⟨k,t⟩ ⟨cY,bw,iZ,I⟩;simp only at cY bw iZ I;obtain⟨k,rfl⟩:∃j,k=j+1:=⟨k-1,by omega⟩;refine(show aP _ _ _ _ ⟨[(0,.ptr 11 0),(1,E 0),(2,E cell)],co l G log t,[]⟩ from ?_);rw[lC] at I;refine go ?_;refine xP (eC l G log t cell bw U) ?_;rintro d Y ⟨v,s1,bO,fT,dc,rfl,rfl⟩;rw[az bO,az eu] at I;have fe:=iH bO;refine go ?_;refine lA (i6 l G s1 (by omega)) ?_;refine go ?_;refine xP (eC l G log s1 l.era dc U) ?_;rintro d Y ⟨er,s2,bg,fj,cN,rfl,rfl⟩;rw[az bg] at I;have fD:=iH bg;refine go ?_;refine bh (gY aD rfl rfl rfl rfl rfl (by omega) (by omega)) rfl rfl rfl ?_;refine go ?_;generalize A:decide (er=s2.e0)=cc;cases cc
 ·rw[if_neg (show¬er=s2.e 0 from of_decide_eq_false A)] at I;refine go ?_;refine dW 12 [] ?_;refine gQ (lq l hL G 0 (by omega)) ?_;refine xP (iy l G log s2 (cE l G 0) er cN U) ?_;rintro d Y ⟨u,s3,bV,fv,cS,rfl,rfl⟩;rw[az bV] at I;have gx:=so bV;refine go ?_;refine bh (gY aD rfl rfl rfl rfl rfl (by omega) (by omega)) rfl rfl rfl ?_;refine go ?_;exact⟨(k,{s3 with e0:=er}),⟨by simp only;omega,by simp only;omega,by simp only;omega,I⟩,by simp only;omega,zX⟩
 ·rw[if_pos (show er=s2.e 0 from of_decide_eq_true A)] at I;refine go ?_;exact fX _ ⟨_,s2,I.symm,by omega,cN,rfl,rfl⟩
set_option maxHeartbeats 4000000 in
theorem kh(l:ah)(hL:cr l)(G:Int)(log:List aF)(s:af)(hm:s.made<=log.length)(U:log.length<=1000000):fZ 166 l G log s [.ptr 11 0] (gB l G log s) (λ _=>.bd []):=by
 generalize I:gB l G log s=aQ;unfold gB at I;refine sX func166 ntmps166 λ w cl own kf=>?_
 refine go ?_;refine cn (λ p:Nat×af=>p.1<=3/\s.made<=p.2.made/\p.2.made<=log.length/\gS l G p.1 ([s.e0,s.e1,s.e2].drop p.1) log p.2=aQ) (λ p=>⟨[(8,E p.1),(7,.agg [E s.e0,E s.e1,E s.e2]),(0,.ptr 11 0)],co l G log p.2,[]⟩) (λ p=>3-p.1) (0,s) ⟨by simp only;omega,Nat.le_refl _,hm,I⟩ (zX) ?_;rintro⟨i,t⟩ ⟨hi,cY,bw,I⟩;simp only at hi cY bw I;rcases(show i=0\/i=1\/i=2\/i=3 by omega) with rfl|rfl|rfl|rfl
 ·refine(show aP _ _ _ _ ⟨[(8,E 0),(7,.agg [E s.e0,E s.e1,E s.e2]),(0,.ptr 11 0)],co l G log t,[]⟩ from ?_);have I:(dw l G 0 s.e0).bind (λ _=>gS l G 1 ([s.e0,s.e1,s.e2].drop 1)) log t=aQ:=I;refine go ?_;refine dk (λ A=>?_) (λ A=>?_)<;>try rw[A]
  ·refine go ?_;refine bh (vT aD (E s.e0) rfl rfl rfl rfl rfl rfl (by omega) (by omega) rfl) rfl rfl rfl ?_;refine go ?_;generalize F:decide (s.e0=0)=cc;cases cc
   ·rw[dw,if_neg (of_decide_eq_false F)] at I;refine go ?_;refine dW 11 [] ?_;refine gQ (lq l hL G 0 (by omega)) ?_;refine xX (iy l G log t (cE l G 0) 0 bw U) ?_ ?_
    ·rintro v Y ⟨a,aa,h,rfl,rfl⟩;refine gP ?_;exact fP _ ⟨a,aa,by rw[<-I];exact bj (bj h),rfl,rfl⟩
    rintro d Y ⟨u,s1,bO,fT,dc,rfl,rfl⟩;have mJ:gS l G 1 ([s.e0,s.e1,s.e2].drop 1) log {s1 with e0:=0}=aQ:=by rw[<-I];exact(az (f:=λ _=>gS l G 1 ([s.e0,s.e1,s.e2].drop 1)) (az (f:=λ _=>pM 0) bO)).symm
    refine go ?_;refine bh (gY aD rfl rfl rfl rfl rfl (by omega) (by omega)) rfl rfl rfl ?_;refine go ?_;exact⟨(1,{s1 with e0:=0}),⟨by simp only;omega,by simp only;omega,by simp only;omega,mJ⟩,by simp only;omega,zX⟩
   ·rw[dw,if_pos (of_decide_eq_true F)] at I;refine go ?_;exact⟨(1,t),⟨by simp only;omega,cY,bw,I⟩,by simp only;omega,zX⟩
  ·exact absurd A (by decide)
 ·refine(show aP _ _ _ _ ⟨[(8,E 1),(7,.agg [E s.e0,E s.e1,E s.e2]),(0,.ptr 11 0)],co l G log t,[]⟩ from ?_);have I:(dw l G 1 s.e1).bind (λ _=>gS l G 2 ([s.e0,s.e1,s.e2].drop 2)) log t=aQ:=I;refine go ?_;refine dk (λ A=>?_) (λ A=>?_)<;>try rw[A]
  ·refine go ?_;refine bh (vT aD (E s.e1) rfl rfl rfl rfl rfl rfl (by omega) (by omega) rfl) rfl rfl rfl ?_;refine go ?_;generalize F:decide (s.e1=0)=cc;cases cc
   ·rw[dw,if_neg (of_decide_eq_false F)] at I;refine go ?_;refine dW 11 [] ?_;refine gQ (lq l hL G 1 (by omega)) ?_;refine xX (iy l G log t (cE l G 1) 0 bw U) ?_ ?_
    ·rintro v Y ⟨a,aa,h,rfl,rfl⟩;refine gP ?_;exact fP _ ⟨a,aa,by rw[<-I];exact bj (bj h),rfl,rfl⟩
    rintro d Y ⟨u,s1,bO,fT,dc,rfl,rfl⟩;have mJ:gS l G 2 ([s.e0,s.e1,s.e2].drop 2) log {s1 with e1:=0}=aQ:=by rw[<-I];exact(az (f:=λ _=>gS l G 2 ([s.e0,s.e1,s.e2].drop 2)) (az (f:=λ _=>pM 1) bO)).symm
    refine go ?_;refine bh (gY aD rfl rfl rfl rfl rfl (by omega) (by omega)) rfl rfl rfl ?_;refine go ?_;exact⟨(2,{s1 with e1:=0}),⟨by simp only;omega,by simp only;omega,by simp only;omega,mJ⟩,by simp only;omega,zX⟩
   ·rw[dw,if_pos (of_decide_eq_true F)] at I;refine go ?_;exact⟨(2,t),⟨by simp only;omega,cY,bw,I⟩,by simp only;omega,zX⟩
  ·exact absurd A (by decide)
 ·refine(show aP _ _ _ _ ⟨[(8,E 2),(7,.agg [E s.e0,E s.e1,E s.e2]),(0,.ptr 11 0)],co l G log t,[]⟩ from ?_);have I:(dw l G 2 s.e2).bind (λ _=>gS l G 3 ([s.e0,s.e1,s.e2].drop 3)) log t=aQ:=I;refine go ?_;refine dk (λ A=>?_) (λ A=>?_)<;>try rw[A]
  ·refine go ?_;refine bh (vT aD (E s.e2) rfl rfl rfl rfl rfl rfl (by omega) (by omega) rfl) rfl rfl rfl ?_;refine go ?_;generalize F:decide (s.e2=0)=cc;cases cc
   ·rw[dw,if_neg (of_decide_eq_false F)] at I;refine go ?_;refine dW 11 [] ?_;refine gQ (lq l hL G 2 (by omega)) ?_;refine xX (iy l G log t (cE l G 2) 0 bw U) ?_ ?_
    ·rintro v Y ⟨a,aa,h,rfl,rfl⟩;refine gP ?_;exact fP _ ⟨a,aa,by rw[<-I];exact bj (bj h),rfl,rfl⟩
    rintro d Y ⟨u,s1,bO,fT,dc,rfl,rfl⟩;have mJ:gS l G 3 ([s.e0,s.e1,s.e2].drop 3) log {s1 with e2:=0}=aQ:=by rw[<-I];exact(az (f:=λ _=>gS l G 3 ([s.e0,s.e1,s.e2].drop 3)) (az (f:=λ _=>pM 2) bO)).symm
    refine go ?_;refine bh (gY aD rfl rfl rfl rfl rfl (by omega) (by omega)) rfl rfl rfl ?_;refine go ?_;exact⟨(3,{s1 with e2:=0}),⟨by simp only;omega,by simp only;omega,by simp only;omega,mJ⟩,by simp only;omega,zX⟩
   ·rw[dw,if_pos (of_decide_eq_true F)] at I;refine go ?_;exact⟨(3,t),⟨by simp only;omega,cY,bw,I⟩,by simp only;omega,zX⟩
  ·exact absurd A (by decide)
 ·refine(show aP _ _ _ _ ⟨[(8,E 3),(7,.agg [E s.e0,E s.e1,E s.e2]),(0,.ptr 11 0)],co l G log t,[]⟩ from ?_);refine go ?_;refine dk (λ A=>?_) (λ A=>?_)<;>try rw[A]
  ·exact absurd A (by decide)
  ·refine go ?_;exact fX _ ⟨(),t,I.symm,cY,bw,rfl,rfl⟩
theorem Dl(r f g0 g1:Int):bc prog 197 [E r,.el [pI f],.el [pI g0,pI g1]] (dB (fE f g1 r)):=by
 refine sP func197 ntmps197 λ w cl=>?_
 refine go ?_;generalize A:decide (f<=r)=cc;cases cc
 ·refine gf ?_;rw[fE,A];rfl
 ·refine go ?_;refine bh (Ls aD rfl rfl rfl rfl rfl (by omega) (by omega) rfl) rfl rfl rfl ?_;refine gf ?_;rw[fE,A];rfl
abbrev sF(f g0 g1:Int):K:=.fn (.func 197) [] [.el [pI f],.el [pI g0,pI g1]]
set_option maxHeartbeats 4000000 in
theorem EC(aw:List Int)(hh:aw.length<=1000000)(f g0 g1:Int):bc prog 217 [bX aw,sF f g0 g1] (E (mG (fE f g1) aw 0)):=by
 generalize I:mG (fE f g1) aw 0=aQ;refine sP func217 ntmps217 λ w cl=>?_
 refine go ?_;refine cn (λ i:Nat=>i<=aw.length/\mG (fE f g1) (aw.drop i) i=aQ) (λ i=>⟨[(8,E i),(7,E aw.length),(6,bX aw),(0,bX aw),(1,sF f g0 g1)],[],[]⟩) (λ i=>aw.length-i) 0 ⟨Nat.zero_le _,I⟩ (zX) ?_;rintro i ⟨hi,I⟩;refine go ?_;refine dk (λ A=>?_) (λ A=>?_)<;>try rw[A]
 ·have aU:=of_decide_eq_true A;have dT:i<aw.length:=by omega
  obtain⟨x,T⟩:=nh (l:=aw) (i:=i) (by omega) aU;have D:aw.drop i=x::aw.drop (i+1):=by rw[List.drop_eq_getElem_cons dT];simp only[Int.toNat_natCast] at T;rw[(List.getElem?_eq_some_iff.1 T).2]
  rw[D,mG] at I;refine go ?_;refine ai [pI x] (jE T) ?_;refine go ?_;refine bh (wP (Dl x f g0 g1) rfl (λ a w=>call197 a w) rfl rfl) rfl rfl rfl ?_;refine go ?_;generalize F:fE f g1 x=cc;cases cc
  ·rw[F,if_neg (by decide)] at I;refine go ?_;exact⟨i+1,⟨by omega,I⟩,by omega,zX⟩
  ·rw[F,if_pos rfl] at I;refine gf ?_;rw[I]
 ·have dT:aw.length<=i:=by have:=of_decide_eq_false A;omega
  rw[List.drop_of_length_le dT,mG] at I;refine gf ?_;rw[<-I]
theorem Dm(aw:List Int)(hh:aw.length<=1000000)(f g0 g1:Int):bc prog 196 [bX aw,sF f g0 g1] (dB (aw.any (fE f g1))):=by
 refine sP func196 ntmps196 λ w cl=>?_
 refine gA (EC aw hh f g0 g1) ?_;refine ez ?_;rw[<-Gs _ aw 0]
set_option maxHeartbeats 8000000 in
theorem Ay(l:ah)(hL:cr l)(G:Int)(log:List aF)(s:af)(n:Int)(hn:n<9223372036854775808)(fp:eN s.gone)(gU:s.gone.length<=10000)(hm:s.made<=log.length)(U:log.length<=1000000):fZ 167 l G log s [.ptr 11 0,E n] (lr l n log s) (λ _=>.bd []):=by
 have zi:=hL.ar;unfold mb at zi;generalize I:lr l n log s=aQ;unfold lr at I;refine sX func167 ntmps167 λ w cl own kf=>?_
 refine go ?_;refine xP (eC l G log s l.era hm U) ?_;rintro d Y ⟨er,s1,bO,fT,dc,rfl,rfl⟩;rw[az bO] at I;have fe:=fK bO;refine go ?_;refine gW 10 [] ?_;refine vP (pW l G log s1 ⟨4,l.era,0,1⟩ dc U) ?_;rintro d Y ⟨dr,s2,bg,fj,cN,rfl,rfl⟩;rw[az bg] at I;have d4:s2.gone=s.gone:=by rw[(vc bg).1,fe.1]
 rw[d4] at I;have un:s.made<=s2.made:=by omega
 clear bO bg fe fT fj dc;refine go ?_;refine Jb 0 (pT s2.gone (by rw[d4];omega)) rfl (λ a w=>call71 a w) rfl rfl rfl rfl rfl (H4 _) ?_;refine go ?_;refine oE aD rfl rfl rfl rfl rfl rfl rfl rfl rfl rfl rfl rfl rfl (by rw[d4];unfold maxLen;omega) (by show(_+_)*16<=_;rw[d4];omega) ?_;refine im ?_;refine nI ?_;refine ey (q6 11 (aS:=nH l G {s2 with gone:=s.gone++[(n,er)]}) rfl (by
  show List.map l7 _=_;have e:v9 (s.gone++[(n,er)])=.sl false (s.gone.length+1) (g6 s.gone++[pI n,pI er]):=by rw[v9,Cm,List.length_append];rfl
  simp only[List.map,l7,zZ,d4,nH,eh];rw[e])) ?_
 generalize xm:s.gone++[(n,er)]=gN at I;have Qr:gN.length=s.gone.length+1:=by rw[<-xm];simp
 have D4:eN gN:=by
  intro p hp;rw[<-xm] at hp;rcases List.mem_append.1 hp with hp|hp
  ·exact fp p hp
  ·simp at hp;rw[hp];exact hn
 have ew:IntKind.i64.wrap (2*l.ar)=2*l.ar:=eU (by omega) (by omega);refine ey (cb:=⟨[(0,.ptr 11 0)],co l G log {s2 with gone:=gN},[]⟩) (zX) ?_;generalize gx:({s2 with gone:=gN}:af)=s3 at I⊢;have cS:s3.made<=log.length:=by rw[<-gx];exact cN
 have fv:s.made<=s3.made:=by rw[<-gx];exact un
 have iD:s3.gone=gN:=by rw[<-gx]
 refine go ?_;refine gD [] ?_;rw[ew];refine qg ?_;rw[iD];generalize A:decide ((gN.length:Int)<2*l.ar)=cc;cases cc
 ·have aU:=of_decide_eq_false A;rw[if_neg (by omega),tB] at I;refine go ?_;refine ey (lu 5 0 3 1 rfl rfl rfl) ?_;refine cn (λ p:Nat×List Int×Nat×af=>p.1+p.2.2.1=l.ar.toNat/\p.2.1.length=3*p.1/\s.made<=p.2.2.2.made/\p.2.2.2.made<=log.length/\p.2.2.2.gone=gN/\(kz p.2.1 (j4 l p.1 p.2.2.1)).bind (λ aw=>(fx l aw gN []).bind λ aL=>jq aL) log p.2.2.2=aQ) (λ p=>⟨[(62,E p.1),(61,E l.ar),(5,.aW 0 p.2.1.length (cy p.2.1)),(0,.ptr 11 0)],co l G log p.2.2.2,[(0,⟨3,1,p.2.1.length⟩)]⟩) (λ p=>p.2.2.1) (0,[],l.ar.toNat,s3) ⟨by simp,rfl,fv,cS,iD,I⟩ (zX) ?_;rintro⟨j,acc,m,t⟩ ⟨hj,ni,cY,bw,ff,I⟩;simp only at hj ni cY bw ff I;refine(show aP _ _ _ _ ⟨[(62,E j),(61,E l.ar),(5,.aW 0 acc.length (cy acc)),(0,.ptr 11 0)],co l G log t,[(0,⟨3,1,acc.length⟩)]⟩ from ?_);refine go ?_;refine dk (λ F=>?_) (λ F=>?_)<;>try rw[F]
  ·have bB:=of_decide_eq_true F;obtain⟨m,rfl⟩:∃k,m=k+1:=⟨m-1,by omega⟩;rw[j4] at I;refine go ?_;refine cn (λ q:Nat×List Int×af=>q.1<=3/\q.2.1.length=3*j+q.1/\s.made<=q.2.2.made/\q.2.2.made<=log.length/\q.2.2.gone=gN/\(kz q.2.1 (([cE l j 0,cE l j 1,cE l j 2].drop q.1)++j4 l (j+1) m)).bind (λ aw=>(fx l aw gN []).bind λ aL=>jq aL) log q.2.2=aQ) (λ q=>⟨[(65,E q.1),(62,E j),(61,E l.ar),(6,E j),(5,.aW 0 q.2.1.length (cy q.2.1)),(0,.ptr 11 0)],co l G log q.2.2,[(0,⟨3,1,q.2.1.length⟩)]⟩) (λ q=>3-q.1) (0,acc,t) ⟨by simp only;omega,by simp only;omega,cY,bw,ff,I⟩ (zX) ?_;rintro⟨i,ac,t⟩ ⟨hi,DQ,cY,bw,ff,I⟩;simp only at hi DQ cY bw ff I;rcases(show i=0\/i=1\/i=2\/i=3 by omega) with rfl|rfl|rfl|rfl
   ·refine(show aP _ _ _ _ ⟨[(65,E 0),(62,E j),(61,E l.ar),(6,E j),(5,.aW 0 ac.length (cy ac)),(0,.ptr 11 0)],co l G log t,[(0,⟨3,1,ac.length⟩)]⟩ from ?_);have I:((cZ (cE l j 0)).bind λ v=>kz (ac++[v]) (([cE l j 0,cE l j 1,cE l j 2].drop 1)++j4 l (j+1) m)).bind (λ aw=>(fx l aw gN []).bind λ aL=>jq aL) log t=aQ:=I;rw[bind_assoc] at I;refine go ?_;refine dk (λ O=>?_) (λ O=>?_)<;>try rw[O]
    ·refine gA (lq l hL j 0 (by omega)) ?_;refine xP (eC l G log t (cE l j 0) bw U) ?_;rintro d Y ⟨v,s4,cX,jf,eQ,rfl,rfl⟩;rw[az cX] at I;have jz:s4.gone=gN:=by rw[(fK cX).1];exact ff
     refine go ?_;refine pA rfl ?_;rw[oW,show ac.length+1=(ac++[v]).length by simp];refine go ?_;exact⟨(1,ac++[v],s4),⟨by simp only;omega,by simp only[List.length_append,List.length_cons,List.length_nil];omega,by simp only;omega,eQ,jz,I⟩,by simp only;omega,zX⟩
    ·exact absurd O (by decide)
   ·refine(show aP _ _ _ _ ⟨[(65,E 1),(62,E j),(61,E l.ar),(6,E j),(5,.aW 0 ac.length (cy ac)),(0,.ptr 11 0)],co l G log t,[(0,⟨3,1,ac.length⟩)]⟩ from ?_);have I:((cZ (cE l j 1)).bind λ v=>kz (ac++[v]) (([cE l j 0,cE l j 1,cE l j 2].drop 2)++j4 l (j+1) m)).bind (λ aw=>(fx l aw gN []).bind λ aL=>jq aL) log t=aQ:=I;rw[bind_assoc] at I;refine go ?_;refine dk (λ O=>?_) (λ O=>?_)<;>try rw[O]
    ·refine gA (lq l hL j 1 (by omega)) ?_;refine xP (eC l G log t (cE l j 1) bw U) ?_;rintro d Y ⟨v,s4,cX,jf,eQ,rfl,rfl⟩;rw[az cX] at I;have jz:s4.gone=gN:=by rw[(fK cX).1];exact ff
     refine go ?_;refine pA rfl ?_;rw[oW,show ac.length+1=(ac++[v]).length by simp];refine go ?_;exact⟨(2,ac++[v],s4),⟨by simp only;omega,by simp only[List.length_append,List.length_cons,List.length_nil];omega,by simp only;omega,eQ,jz,I⟩,by simp only;omega,zX⟩
    ·exact absurd O (by decide)
   ·refine(show aP _ _ _ _ ⟨[(65,E 2),(62,E j),(61,E l.ar),(6,E j),(5,.aW 0 ac.length (cy ac)),(0,.ptr 11 0)],co l G log t,[(0,⟨3,1,ac.length⟩)]⟩ from ?_);have I:((cZ (cE l j 2)).bind λ v=>kz (ac++[v]) (([cE l j 0,cE l j 1,cE l j 2].drop 3)++j4 l (j+1) m)).bind (λ aw=>(fx l aw gN []).bind λ aL=>jq aL) log t=aQ:=I;rw[bind_assoc] at I;refine go ?_;refine dk (λ O=>?_) (λ O=>?_)<;>try rw[O]
    ·refine gA (lq l hL j 2 (by omega)) ?_;refine xP (eC l G log t (cE l j 2) bw U) ?_;rintro d Y ⟨v,s4,cX,jf,eQ,rfl,rfl⟩;rw[az cX] at I;have jz:s4.gone=gN:=by rw[(fK cX).1];exact ff
     refine go ?_;refine pA rfl ?_;rw[oW,show ac.length+1=(ac++[v]).length by simp];refine go ?_;exact⟨(3,ac++[v],s4),⟨by simp only;omega,by simp only[List.length_append,List.length_cons,List.length_nil];omega,by simp only;omega,eQ,jz,I⟩,by simp only;omega,zX⟩
    ·exact absurd O (by decide)
   ·refine(show aP _ _ _ _ ⟨[(65,E 3),(62,E j),(61,E l.ar),(6,E j),(5,.aW 0 ac.length (cy ac)),(0,.ptr 11 0)],co l G log t,[(0,⟨3,1,ac.length⟩)]⟩ from ?_);refine go ?_;refine dk (λ O=>?_) (λ O=>?_)<;>try rw[O]
    ·exact absurd O (by decide)
    ·refine go ?_;exact⟨(j+1,ac,m,t),⟨by simp only;omega,by simp only;omega,cY,bw,ff,I⟩,by simp only;omega,zX⟩
  ·have bB:=of_decide_eq_false F;obtain rfl:m=0:=by omega
   have I:((fx l acc gN []).bind λ aL=>jq aL) log t=aQ:=I;subst ff;refine ey (B3 5 (d9:=bX acc) rfl rfl) ?_;refine go ?_;refine ey (lu 8 1 110 2 rfl rfl rfl) ?_;refine cn (λ q:Nat×List (Int×Int)×af=>q.1<=t.gone.length/\q.2.1.length<=q.1/\s.made<=q.2.2.made/\q.2.2.made<=log.length/\((fx l acc (t.gone.drop q.1) q.2.1).bind λ aL=>jq aL) log q.2.2=aQ) (λ q=>⟨[(87,E q.1),(86,E t.gone.length),(85,eh t.gone),(8,.aW 1 q.2.1.length (g6 q.2.1)),(5,bX acc),(0,.ptr 11 0)],co l G log q.2.2,[(1,⟨110,2,q.2.1.length⟩)]⟩) (λ q=>t.gone.length-q.1) (0,[],t) ⟨Nat.zero_le _,Nat.le_refl _,cY,bw,I⟩ (zX) ?_;rintro⟨i,aL,u⟩ ⟨hi,jD,ut,mo,I⟩;simp only at hi jD ut mo I;refine(show aP _ _ _ _ ⟨[(87,E i),(86,E t.gone.length),(85,eh t.gone),(8,.aW 1 aL.length (g6 aL)),(5,bX acc),(0,.ptr 11 0)],co l G log u,[(1,⟨110,2,aL.length⟩)]⟩ from ?_);refine go ?_;refine dk (λ O=>?_) (λ O=>?_)<;>try rw[O]
   ·have dt:=of_decide_eq_true O;have dT:i<t.gone.length:=by omega
    obtain⟨gg,oL⟩:=nh (l:=t.gone) (i:=i) (by omega) dt;have xn:=D4 gg (List.mem_of_getElem? oL);have D:t.gone.drop i=gg::t.gone.drop (i+1):=by rw[List.drop_eq_getElem_cons dT];simp only[Int.toNat_natCast] at oL;rw[(List.getElem?_eq_some_iff.1 oL).2]
    rw[D,fx,bind_assoc] at I;refine go ?_;refine ai [pI gg.1,pI gg.2] (Dy oL) ?_;refine go ?_;refine bh (gY aD rfl rfl rfl rfl rfl (by omega) (by omega)) rfl rfl rfl ?_;refine go ?_;refine lA (gJ l hL G u gg.1 6 xn (by omega)) ?_;refine go ?_;refine xP (eC l G log u (aN l gg.1 6) mo U) ?_;rintro d Y ⟨bi,s5,dD,li,eW,rfl,rfl⟩;rw[az dD] at I;refine go ?_;refine bh (HR rfl rfl rfl) rfl rfl rfl ?_;refine(show bq _ _ _ _ _ ⟨(97,E (kT bi))::_,_,_⟩ from ?_);refine go ?_;refine lA (Dm acc (by omega) (kT bi) gg.1 gg.2) ?_;refine go ?_;generalize h4:acc.any (fE (kT bi) gg.2)=cc;cases cc
    ·rw[h4,if_neg (by decide),bind_assoc] at I;refine go ?_;refine bh (gY aD rfl rfl rfl rfl rfl (by omega) (by omega)) rfl rfl rfl ?_;refine go ?_;refine xP (w9 l hL G log s5 gg.1 xn eW U) ?_;rintro d Y ⟨uu,s6,kw,vC,nt,rfl,rfl⟩;rw[az kw] at I;refine go ?_;exact⟨(i+1,aL,s6),⟨by simp only;omega,by simp only;omega,by simp only;omega,nt,I⟩,by simp only;omega,zX⟩
    ·rw[h4,if_pos rfl] at I;refine go ?_;refine pA rfl ?_;rw[<-Cm aL gg,show aL.length+1=(aL++[gg]).length by simp];refine go ?_;exact⟨(i+1,aL++[gg],s5),⟨by simp only;omega,by simp only[List.length_append,List.length_cons,List.length_nil];omega,by simp only;omega,eW,I⟩,by simp only;omega,zX⟩
   ·have dt:=of_decide_eq_false O;rw[List.drop_of_length_le (by omega),fx] at I;have I:(Except.ok ((),{u with gone:=aL}):Except aX (Unit×af))=aQ:=I;refine ey (B3 8 (d9:=eh aL) rfl rfl) ?_;refine go ?_;exact fX _ ⟨(),{u with gone:=aL},I.symm,ut,mo,rfl,rfl⟩
 ·have aU:=of_decide_eq_true A;rw[if_pos (by omega)] at I;refine go ?_;exact fX _ ⟨(),s3,I.symm,fv,cS,rfl,rfl⟩
theorem tz(g:List (Int×Int))(hg:g.length<=100000):bc prog 123 [eh g] (.bd [fC eZ,kj ⟨0,false,1,-1,g⟩,dB true]):=by
 refine sP func123 ntmps123 λ w cl=>?_
 refine gA ((pT g hg).pure) ?_;refine ez ?_
 rfl
theorem Db(l:ah)(G:Int)(g:List (Int×Int))(log:List aF):eI prog 124 [] [dP l,E G,eh g,gT log] [] (λ d Y=>d=.ptr 11 0/\Y=co l G log ⟨0,g,0,0,0⟩):=by
 refine sI func124 ntmps124 λ w cl own kf=>?_
 refine gE ?_;refine bA 0 ?_;refine bA 13 ?_;refine nP aD rfl rfl rfl rfl ?_;refine kM ?_;refine gE ?_;refine nP aD rfl rfl rfl rfl ?_;refine nP aD rfl rfl rfl rfl ?_;refine nP aD rfl rfl rfl rfl ?_;refine bh (A4 aD rfl rfl rfl) rfl rfl rfl ?_;refine bA 11 ?_;refine nA 12 ?_;refine go ?_;refine iB (co l G log ⟨0,g,0,0,0⟩) rfl rfl (by(repeat(first|exact trivial|refine⟨⟨rfl,rfl⟩,?_⟩))) trivial ?_;exact⟨rfl,rfl⟩
theorem Ar{e:aC}{vs:List Value}(a:aX)(o:aY)(dn:Bool)(hI:fY (jo a (oU o) dn) e)(hv:DReps e vs [.ptr 22 0,.ptr 21 0,.ptr 23 0,.ptr 24 0]):
 CallsD prog 153 vs.toArray .returning e.w λ r u2 aM=>∃ab aq,r=.returned (.tuple #[])/\u2=.returning/\ab.w=aM/\fY aq ab/\Left [21,22,23,24] e ab/\aq=jo a (oU o) dn:=by
 refine xQ (ap:=tb) func153 rfl ntmps153 rfl rfl rfl (by(repeat(first|exact trivial|refine⟨rfl,?_⟩))) (λ _ _=>rfl) (λ _=>rfl) rfl rfl .no (λ w cl own kf=>?_) hI hv;refine go ?_;refine bh (Hw underlying20 rfl rfl) rfl rfl rfl ?_;refine go ?_;refine km (jo a (oU o) dn) rfl rfl (by(repeat(first|exact trivial|refine⟨⟨rfl,rfl⟩,?_⟩))) (by(repeat(first|exact trivial|refine⟨rfl,?_⟩))) rfl
theorem As{e:aC}{vs:List Value}(a bs:aX)(od:List K)(ho:od=[E 0,dB false,E 0,E 0,.p (.sl true 0 [])])(dn:Bool)(hI:fY (jo a od dn) e)(hv:DReps e vs [.ptr 22 0,.ptr 21 0,.ptr 23 0,.ptr 24 0]):
 CallsD prog 153 vs.toArray (.panicking [pe (iK bs)]) e.w λ r u2 aM=>∃ab aq,r=.returned (.tuple #[])/\u2=.panicking [{v:=iK bs,recovered:=true}]/\ab.w=aM/\fY aq ab/\Left [21,22,23,24] e ab/\aq=jo bs od dn:=by
 subst ho;refine xQ (ap:=tb) func153 rfl ntmps153 rfl rfl rfl (by(repeat(first|exact trivial|refine⟨rfl,?_⟩))) (λ _ _=>rfl) (λ _=>rfl) rfl rfl (.yes (iK bs)) (λ w cl own kf=>?_) hI hv;refine go ?_;refine bh (Hx underlying20 rfl rfl) rfl rfl rfl ?_;refine go ?_;refine bh (FQ aD rfl rfl rfl rfl) rfl rfl rfl ?_;refine go ?_;refine km (jo bs _ dn) rfl rfl (by(repeat(first|exact trivial|refine⟨⟨rfl,rfl⟩,?_⟩))) (by(repeat(first|exact trivial|refine⟨rfl,?_⟩))) rfl
theorem Sl(n:Int):bc prog 92 [E n,E 32] (E (n%4294967296)):=Aa n 32 (by omega)
theorem Sj(n:Int):bc prog 92 [E n,E 2] (E (n%4)):=Aa n 2 (by omega)
theorem SP(n:Int):bc prog 160 [E n] (.bd [E (v6 n),E (xH n),E (lG n)]):=by
 refine sP func160 ntmps160 λ w cl=>?_
 refine gA (Sl n) ?_;refine bh (Fq 32 rfl rfl rfl (by omega)) rfl rfl rfl ?_;refine gA (Sj (n/2^32)) ?_;refine bh (Fq 34 rfl rfl rfl (by omega)) rfl rfl rfl ?_;refine gA (EN (n/2^34)) ?_;refine ez ?_
 rfl
theorem abg(a b c:Int):bc prog 108 [.p (.sl false 3 [pI a,pI 32,pI b,pI 2,pI c,pI 28])] (E (mS a b c)):=by
 have a0:0<=a%4294967296:=Int.emod_nonneg _ (by omega);have a1:a%4294967296<4294967296:=Int.emod_lt_of_pos _ (by omega);have b0:0<=b%4:=Int.emod_nonneg _ (by omega);have b1:b%4<4:=Int.emod_lt_of_pos _ (by omega);have c0:0<=c%268435456:=Int.emod_nonneg _ (by omega);have c1:c%268435456<268435456:=Int.emod_lt_of_pos _ (by omega);refine sP func108 ntmps108 λ w cl=>?_
 refine go ?_;refine cn (λ i:Nat=>i<=3) (λ i=>⟨[(9,E i),(8,E 3),(7,.p (.sl false 3 [pI a,pI 32,pI b,pI 2,pI c,pI 28])),(3,E (if i=0 then 0 else if i=1 then a%4294967296 else if i=2 then a%4294967296+4294967296*(b%4) else mS a b c)),(4,E (if i=0 then 0 else if i=1 then 32 else if i=2 then 34 else 62))],[],[]⟩) (λ i=>3-i) 0 (by omega) (zX) ?_;intro i hi;rcases(show i=0\/i=1\/i=2\/i=3 by omega) with rfl|rfl|rfl|rfl
 ·refine(show aP _ _ _ _ ⟨[(9,E 0),(8,E 3),(7,.p (.sl false 3 [pI a,pI 32,pI b,pI 2,pI c,pI 28])),(3,E (0)),(4,E 0)],[],[]⟩ from ?_);refine go ?_;refine dk (λ A=>?_) (λ A=>?_)<;>try rw[A]
  ·refine go ?_;refine ai [pI a,pI 32] (BZ rfl rfl) ?_;refine gA (Sl a) ?_;refine bh (wo 0 rfl rfl rfl rfl (by omega) (by omega) (by omega)) rfl rfl rfl ?_;rw[show a%4294967296*2^0=a%4294967296 by omega];refine go ?_;refine bh (Cj 0 (a%4294967296) rfl rfl rfl (by omega) (by omega) (by omega) (by omega) (by omega)) rfl rfl rfl ?_;rw[show 0+a%4294967296=a%4294967296 by omega];refine go ?_;exact⟨1,by omega,by omega,zX⟩
  ·exact absurd A (by decide)
 ·refine(show aP _ _ _ _ ⟨[(9,E 1),(8,E 3),(7,.p (.sl false 3 [pI a,pI 32,pI b,pI 2,pI c,pI 28])),(3,E (a%4294967296)),(4,E 32)],[],[]⟩ from ?_);refine go ?_;refine dk (λ A=>?_) (λ A=>?_)<;>try rw[A]
  ·refine go ?_;refine ai [pI b,pI 2] (BZ rfl rfl) ?_;refine gA (Sj b) ?_;refine bh (wo 32 rfl rfl rfl rfl (by omega) (by omega) (by omega)) rfl rfl rfl ?_;rw[show b%4*2^32=4294967296*(b%4) by omega];refine go ?_;refine bh (Cj 32 (b%4) rfl rfl rfl (by omega) (by omega) (by omega) (by omega) (by omega)) rfl rfl rfl ?_;refine go ?_;exact⟨2,by omega,by omega,zX⟩
  ·exact absurd A (by decide)
 ·refine(show aP _ _ _ _ ⟨[(9,E 2),(8,E 3),(7,.p (.sl false 3 [pI a,pI 32,pI b,pI 2,pI c,pI 28])),(3,E (a%4294967296+4294967296*(b%4))),(4,E 34)],[],[]⟩ from ?_);refine go ?_;refine dk (λ A=>?_) (λ A=>?_)<;>try rw[A]
  ·refine go ?_;refine ai [pI c,pI 28] (BZ rfl rfl) ?_;refine gA (EN c) ?_;refine bh (wo 34 rfl rfl rfl rfl (by omega) (by omega) (by omega)) rfl rfl rfl ?_;rw[show c%268435456*2^34=17179869184*(c%268435456) by omega];refine go ?_;refine bh (Cj 34 (c%268435456) rfl rfl rfl (by omega) (by omega) (by omega) (by omega) (by omega)) rfl rfl rfl ?_;refine go ?_;exact⟨3,by omega,by omega,zX⟩
  ·exact absurd A (by decide)
 ·refine(show aP _ _ _ _ ⟨[(9,E 3),(8,E 3),(7,.p (.sl false 3 [pI a,pI 32,pI b,pI 2,pI c,pI 28])),(3,E (mS a b c)),(4,E 62)],[],[]⟩ from ?_);refine go ?_;refine dk (λ A=>?_) (λ A=>?_)<;>try rw[A]
  ·exact absurd A (by decide)
  ·refine gf ?_
   rfl
theorem Ma(a b c:Int):bc prog 161 [E a,E b,E c] (E (mS a b c)):=by
 refine sP func161 ntmps161 λ w cl=>?_
 refine gA (abg a b c) ?_;refine ez ?_
 rfl
theorem UR(l:ah)(U:cr l)(s:Int):bc prog 94 [dP l,E s] (E (mc l s)):=by
 have hs:=U.bU;refine sP func94 ntmps94 λ w cl=>?_
 refine gA (yf l.stack l.dl (1+l.bU) s 0 U.stack U.dl (by omega) (by omega)) ?_;refine ez ?_
 rfl
theorem ae5(l:ah)(U:cr l)(s i:Int):bc prog 152 [dP l,E s,E i] (E (Fr l s i)):=by
 have hs:=U.bU;refine sP func152 ntmps152 λ w cl=>?_
 refine go ?_;generalize k1:decide (i<0)=cc;cases cc
 ·have qh:=of_decide_eq_false k1;refine go ?_;generalize k2:decide (i>=l.bU)=cc;cases cc
  ·have xD:=of_decide_eq_false k2;refine gA (yf l.stack l.dl (1+l.bU) s (1+i) U.stack U.dl (by omega) (by omega)) ?_;refine ez ?_;rw[Fr,if_neg (by omega)]
  ·refine gf ?_;have:=of_decide_eq_true k2;rw[Fr,if_pos (by omega)]
 ·refine gf ?_;have:=of_decide_eq_true k1;rw[Fr,if_pos (by omega)]
theorem ae6(l:ah)(U:cr l)(G s:Int)(h0:0<=G)(_:G<=1000000):bc prog 125 [dP l,E G,E s] (E (rm l G s)):=by
 have hs:=U.bU;refine sP func125 ntmps125 λ w cl=>?_
 refine go ?_;generalize k1:decide (l.bU<1)=cc;cases cc
 ·have qh:=of_decide_eq_false k1;have r0:0<=G%l.bU:=Int.emod_nonneg _ (by omega);have r1:G%l.bU<l.bU:=Int.emod_lt_of_pos _ (by omega);refine go ?_;refine gW 9 [] ?_;refine cV (Fa rfl rfl rfl h0 (by omega)) rfl rfl ?_;refine br ?_;refine cV (Fa rfl rfl rfl (by omega) (by omega)) rfl rfl ?_;refine br ?_;refine cA (ae5 l U s ((G%l.bU+l.bU)%l.bU)) ?_;refine gf ?_;rw[rm,if_neg qh]
 ·refine gf ?_;rw[rm,if_pos (of_decide_eq_true k1)]
set_option maxHeartbeats 4000000 in
theorem afy(l:ah)(hL:cr l)(G:Int)(log:List aF)(s:af)(bI n:Int)(hn:n<9223372036854775808)(hm:s.made<=log.length)(U:log.length<=1000000):fZ 157 l G log s [.ptr 11 0,E bI,E n] (yc l bI n log s) (λ b=>dB b):=by
 generalize I:yc l bI n log s=aQ;unfold yc at I;refine sX func157 ntmps157 λ w cl own kf=>?_
 refine go ?_;refine xP (eC l G log s bI hm U) ?_;rintro d Y ⟨bR,s3,bV,fv,cS,rfl,rfl⟩;rw[az bV] at I;have du:=tr bR;refine gA (kV bR) ?_;refine gW 6 [] ?_;refine lQ (gJ l hL G s3 n 0 hn (by omega)) ?_;refine br ?_;refine xP (iy l G log s3 (aN l n 0) (ae bR).idx cS U) ?_;rintro d Y ⟨u,s4,cX,jf,eQ,rfl,rfl⟩;rw[az cX] at I;refine gA (qp (ae bR) n du.1 du.2) ?_;refine cA (my (ca (ae bR) n)) ?_;refine go ?_;refine xP (jb l G log s4 bI bR (bK (ca (ae bR) n)) eQ U) ?_;rintro d Y ⟨iv,s5,dD,li,eW,rfl,rfl⟩;refine go ?_;exact fX _ ⟨iv,s5,by rw[<-I];exact dD,by omega,eW,rfl,rfl⟩
def ES(c aZ no:Int):Nat->Pm Bool
 |0=>(fN c aZ no).bind λ ok=>.pure (!ok)
 |k+1=>(cZ c).bind λ x=>if x=aZ then ES c aZ no k else .pure true
set_option maxHeartbeats 4000000 in
theorem abP(l:ah)(G:Int)(log:List aF)(s:af)(c aZ no:Int)(hm:s.made<=log.length)(U:log.length<=1000000):fZ 163 l G log s [.ptr 11 0,E c,E aZ,E no] (Ag c aZ no log s) (λ b=>dB b):=by
 generalize I:Ag c aZ no log s=aQ;have I:ES c aZ no 2 log s=aQ:=I;refine sX func163 ntmps163 λ w cl own kf=>?_
 refine go ?_;refine cn (λ p:Nat×af=>p.1<=2/\s.made<=p.2.made/\p.2.made<=log.length/\ES c aZ no (2-p.1) log p.2=aQ) (λ p=>⟨[(9,E p.1),(0,.ptr 11 0),(1,E c),(2,E aZ),(3,E no),(8,dB false)],co l G log p.2,[]⟩) (λ p=>2-p.1) (0,s) ⟨by simp only;omega,Nat.le_refl _,hm,I⟩ (zX) ?_;rintro⟨i,t⟩ ⟨hi,cY,bw,I⟩;simp only at hi cY bw I;refine(show aP _ _ _ _ ⟨[(9,E i),(0,.ptr 11 0),(1,E c),(2,E aZ),(3,E no),(8,dB false)],co l G log t,[]⟩ from ?_);refine go ?_;refine dk (λ A=>?_) (λ A=>?_)<;>try rw[A]
 ·have aU:=of_decide_eq_true A;rw[show 2-i=(2-(i+1))+1 by omega,ES] at I;refine go ?_;refine xP (eC l G log t c bw U) ?_;rintro d Y ⟨x,s1,bO,fT,dc,rfl,rfl⟩;rw[az bO] at I;refine go ?_;generalize F:decide (x=aZ)=cc;cases cc
  ·rw[if_neg (of_decide_eq_false F)] at I;refine go ?_;exact fX _ ⟨true,s1,I.symm,by omega,dc,rfl,rfl⟩
  ·rw[if_pos (of_decide_eq_true F)] at I;refine go ?_;exact⟨(i+1,s1),⟨by simp only;omega,by simp only;omega,dc,I⟩,by simp only;omega,zX⟩
 ·have aU:=of_decide_eq_false A;rw[show 2-i=0 by omega,ES] at I;refine go ?_;refine xP (jb l G log t c aZ no bw U) ?_;rintro d Y ⟨iv,s1,bO,fT,dc,rfl,rfl⟩;rw[az bO] at I;refine go ?_;exact fX _ ⟨!iv,s1,I.symm,by omega,dc,rfl,rfl⟩
set_option maxHeartbeats 4000000 in
theorem afx(l:ah)(hL:cr l)(G:Int)(log:List aF)(s:af)(bI:Int)(hm:s.made<=log.length)(U:log.length<=1000000):fZ 165 l G log s [.ptr 11 0,E bI] (ya l G bI log s) (λ p=>.bd [E p.1,E p.2.1,E p.2.2]):=by
 generalize I:ya l G bI log s=aQ;unfold ya at I;refine sX func165 ntmps165 λ w cl own kf=>?_
 refine go ?_;refine xP (Bl l hL G log s bI hm U) ?_;rintro d Y ⟨p,s1,bO,fT,dc,rfl,rfl⟩;rw[az bO] at I;obtain⟨bR,at_⟩:=p;simp only at I;have cj:=kU bR;have du:=tr bR;refine gA (kV bR) ?_;generalize A:decide ((ae bR).idx=0)=cc;cases cc
 ·rw[if_neg (of_decide_eq_false A)] at I;refine go ?_;refine lA (gJ l hL G s1 (ae bR).idx 0 (by omega) (by omega)) ?_;refine go ?_;refine xP (eC l G log s1 (aN l (ae bR).idx 0) dc U) ?_;rintro d Y ⟨below,s2,bg,fj,cN,rfl,rfl⟩;rw[az bg] at I;refine gA (qp (ae bR) below du.1 du.2) ?_;refine cA (my (ca (ae bR) below)) ?_;refine go ?_;refine xP (jb l G log s2 bI bR (bK (ca (ae bR) below)) cN U) ?_;rintro d Y ⟨iv,s3,bV,fv,cS,rfl,rfl⟩;rw[az bV] at I;have gx:=lO bV;refine go ?_;cases iv
  ·rw[if_neg (by decide),az eu] at I;refine go ?_;refine lA (i6 l G s3 (by omega)) ?_;refine go ?_;exact fX _ ⟨_,s3,I.symm,by omega,cS,rfl,rfl⟩
  ·rw[if_pos rfl,az eu] at I;refine go ?_;refine gW 4 [] ?_;refine lQ (i6 l G s3 (by omega)) ?_;refine qg ?_;exact fX _ ⟨_,s3,I.symm,by omega,cS,rfl,rfl⟩
 ·rw[if_pos (of_decide_eq_true A)] at I;refine go ?_;exact fX _ ⟨_,s1,I.symm,fT,dc,rfl,rfl⟩
theorem UU{l:ah}{bI n:Int}{log:List aF}{s aa:af}{b:Bool}(h:yc l bI n log s=.ok (b,aa)):aa.gone=s.gone/\aa.made=s.made+3:=by
 unfold yc at h;cases A:cZ bI log s with
 |error a=>rw[bj A] at h;cases h
 |ok q=>
  obtain⟨w,s1⟩:=q;rw[az A] at h;cases F:fA (aN l n 0) (ae w).idx log s1 with
  |error a=>rw[bj F] at h;cases h
  |ok q=>obtain⟨u,s2⟩:=q;rw[az F] at h;rw[(ja h).1,(ot F).1,(fK A).1];exact⟨rfl,rfl⟩
theorem Sw{c aZ no:Int}{log:List aF}{s aa:af}{b:Bool}(h:Ag c aZ no log s=.ok (b,aa)):aa.gone=s.gone/\s.made<aa.made:=by
 unfold Ag at h;cases A:cZ c log s with
 |error a=>rw[bj A] at h;cases h
 |ok q=>
  obtain⟨x,s1⟩:=q;rw[az A] at h;have g1:=(fK A).1;split at h
  ·cases F:cZ c log s1 with
   |error a=>rw[bj F] at h;cases h
   |ok q=>
    obtain⟨y,s2⟩:=q;rw[az F] at h;have g2:=(fK F).1;split at h
    ·cases O:fN c aZ no log s2 with
     |error a=>rw[bj O] at h;cases h
     |ok q=>obtain⟨ok,s3⟩:=q;rw[az O] at h;cases h;rw[(ja O).1,g2,g1];exact⟨rfl,by simp only;omega⟩
    ·cases h;rw[g2,g1];exact⟨rfl,by simp only;omega⟩
  ·cases h;rw[g1];exact⟨rfl,by simp only;omega⟩
theorem Mw(x:af)(i v:Int):(x.fb i v).made=x.made:=by
 unfold af.fb;split
 ·rfl
 ·split<;>rfl
theorem Dz{l:ah}{G i cell:Int}:∀{k:Nat}{log:List aF}{s aa:af}{p:Int×Int},lC l G i cell k log s=.ok (p,aa)->s.made<=aa.made/\(0<k->s.made<aa.made)
 |0,log,s,aa,p,h=>by cases h;exact⟨Nat.le_refl _,λ h=>absurd h (Nat.lt_irrefl _)⟩
 |k+1,log,s,aa,p,h=>by
  rw[lC] at h;cases A:cZ cell log s with
  |error a=>rw[bj A] at h;cases h
  |ok q=>
   obtain⟨v,s1⟩:=q;rw[az A,az eu] at h;have g1:=iH A;cases F:cZ l.era log s1 with
   |error a=>rw[bj F] at h;cases h
   |ok q=>
    obtain⟨er,s2⟩:=q;rw[az F] at h;have g2:=iH F;split at h
    ·cases h;exact⟨by omega,λ _=>by omega⟩
    ·cases O:fA (cE l G i) er log s2 with
     |error a=>rw[bj O] at h;cases h
     |ok q=>obtain⟨u,s3⟩:=q;rw[az O] at h;have g3:=so O;have g4:=(Dz h).1;rw[Mw] at g4;exact⟨by omega,λ _=>by omega⟩
theorem J0{l:ah}{G i cell:Int}{log:List aF}{s aa:af}{p:Int×Int}(hm:s.made<=log.length)(h:mg l G i cell log s=.ok (p,aa)):s.made<aa.made:=(Dz h).2 (by omega)
theorem UT{l:ah}{G bI:Int}{log:List aF}{s aa:af}{p:Int×Int×Int}(h:ya l G bI log s=.ok (p,aa)):aa.gone=s.gone/\(s.made<=log.length->s.made<aa.made)/\0<=p.1/\p.1<65536/\(p.2.2=0\/p.2.2=1\/p.2.2=2):=by
 unfold ya at h;cases A:mg l G 0 bI log s with
 |error a=>rw[bj A] at h;cases h
 |ok q=>
  obtain⟨p0,s1⟩:=q;rw[az A] at h;have g1:s1.gone=s.gone:=Bm A;have m1:s.made<=log.length->s.made<s1.made:=λ hm=>J0 hm A
  split at h
  ·cases h;exact⟨g1,m1,by simp,by simp,.inl rfl⟩
  ·cases F:cZ (aN l (ae p0.1).idx 0) log s1 with
   |error a=>rw[bj F] at h;cases h
   |ok q=>
    obtain⟨be,s2⟩:=q;rw[az F] at h;have g2:=(fK F).1;cases O:fN bI p0.1 (bK (ca (ae p0.1) be)) log s2 with
    |error a=>rw[bj O] at h;cases h
    |ok q=>
     obtain⟨ok,s3⟩:=q;rw[az O] at h;have g3:=(ja O).1;have T:=kU p0.1;cases ok
     ·rw[if_neg (by decide),az eu] at h;cases h;rw[g3,g2];exact⟨g1,λ hm=>by have:=m1 hm;simp only;omega,by simp,by simp,.inr (.inl rfl)⟩
     ·rw[if_pos rfl,az eu] at h;cases h;rw[g3,g2];exact⟨g1,λ hm=>by have:=m1 hm;simp only;omega,T.1,T.2,.inr (.inr rfl)⟩
set_option maxHeartbeats 8000000 in
theorem adK(l:ah)(hL:cr l)(G:Int)(log:List aF)(s:af)(bI c v:Int)(hm:s.made<=log.length)(U:log.length<=1000000):fZ 128 l G log s [.ptr 11 0,E bI,E c,E v] (we l bI c v log s) lU:=by
 generalize I:we l bI c v log s=aQ;unfold we at I;refine sX func128 ntmps128 λ w cl own kf=>?_
 refine go ?_;refine xP (FA l hL G log s hm U) ?_;rintro d Y ⟨p,s1,bO,fT,dc,rfl,rfl⟩;rw[az bO] at I;have ta:=(Fy bO).1;obtain⟨n,at_,ok⟩:=p;simp only at I ta;refine go ?_;cases ok
 ·rw[if_neg (by decide)] at I;refine go ?_;exact fX _ ⟨_,s1,I.symm,fT,dc,rfl,rfl⟩
 ·rw[if_pos rfl] at I;refine go ?_;refine lA (gJ l hL G s1 n 1 (by omega) (by omega)) ?_;refine go ?_;refine xP (iy l G log s1 (aN l n 1) v dc U) ?_;rintro d Y ⟨u,s2,bg,fj,cN,rfl,rfl⟩;rw[az bg] at I;refine go ?_;refine cn (λ p:Nat×af=>s.made<=p.2.made/\p.2.made<=log.length/\log.length-p.2.made<p.1/\wd l bI c v n p.1 log p.2=aQ) (λ p=>⟨[(0,.ptr 11 0),(1,E bI),(2,E c),(3,E v),(9,E n),(8,.ptr 3 0)],(3,[E 0,dB false,E 0,E 0,.p (.sl true 0 [])])::co l G log p.2,[]⟩) (λ p=>p.1) (log.length+1-s2.made,s2) ⟨by simp only;omega,cN,by simp only;omega,I⟩ (zX) ?_;rintro⟨k,t⟩ ⟨cY,bw,iZ,I⟩;simp only at cY bw iZ I;obtain⟨k,rfl⟩:∃j,k=j+1:=⟨k-1,by omega⟩;refine(show aP _ _ _ _ ⟨[(0,.ptr 11 0),(1,E bI),(2,E c),(3,E v),(9,E n),(8,.ptr 3 0)],(3,[E 0,dB false,E 0,E 0,.p (.sl true 0 [])])::co l G log t,[]⟩ from ?_);rw[wd] at I;refine go ?_;refine xP (afy l hL G log t bI n (by omega) bw U) ?_;rintro d Y ⟨Md,s3,bV,fv,cS,rfl,rfl⟩;rw[az bV] at I;have gx:=(UU bV).2;refine go ?_;cases Md
  ·rw[if_neg (by decide)] at I;refine go ?_;refine xP (eC l G log s3 c cS U) ?_;rintro d Y ⟨w,s4,cX,jf,eQ,rfl,rfl⟩;rw[az cX] at I;have aap:=iH cX;have xq:0<=xH w/\xH w<4:=by unfold xH;omega
   have ip:0<=lG w/\lG w<268435456:=by unfold lG;omega
   refine gA (SP w) ?_;generalize A:decide (xH w=0)=cc;cases cc
   ·rw[if_neg (of_decide_eq_false A)] at I;refine go ?_;exact⟨(k,s4),⟨by simp only;omega,eQ,by simp only;omega,I⟩,by simp only;omega,zX⟩
   ·rw[if_pos (of_decide_eq_true A)] at I;refine gA (Ma v 1 (lG w+1)) ?_;refine cA (Ma 0 0 (lG w+1)) ?_;refine go ?_;refine xP (jb l G log s4 c w (mS v 1 (lG w+1)) eQ U) ?_;rintro d Y ⟨Me,s5,dD,li,eW,rfl,rfl⟩;rw[az dD] at I;have Lc:=lO dD;refine go ?_;cases Me
    ·rw[if_neg (by decide)] at I;refine go ?_;exact⟨(k,s5),⟨by simp only;omega,eW,by simp only;omega,I⟩,by simp only;omega,zX⟩
    ·rw[if_pos rfl,az eu] at I;refine go ?_;refine lA (i6 l G s5 (by omega)) ?_;refine go ?_;refine xP (abP l G log s5 c (mS v 1 (lG w+1)) (mS 0 0 (lG w+1)) eW U) ?_;rintro d Y ⟨mt,s6,kw,vC,nt,rfl,rfl⟩;rw[az kw] at I;have ahr:=(Sw kw).2;refine go ?_;cases mt
     ·rw[if_neg (by decide)] at I;refine go ?_;exact⟨(k,s6),⟨by simp only;omega,nt,by simp only;omega,I⟩,by simp only;omega,zX⟩
     ·rw[if_pos rfl] at I;refine go ?_;refine xP (iy l G log s6 c (mS 0 0 (lG w+1)) nt U) ?_;rintro d Y ⟨u,s7,pu,Ed,vD,rfl,rfl⟩;rw[az pu] at I;refine go ?_;refine xP (w9 l hL G log s7 n (by omega) vD U) ?_;rintro d Y ⟨u,aeC,aaj,ag7,ZI,rfl,rfl⟩;rw[az aaj] at I;refine go ?_;rw[show IntKind.i64.wrap (0-((s5.made:Int)-1))=-((s5.made:Int)-1) by rw[eU (by omega) (by omega)];omega,show IntKind.i64.wrap (-((s5.made:Int)-1)-2)=-((s5.made:Int)-1)-2 from eU (by omega) (by omega)];exact fX _ ⟨_,aeC,I.symm,by omega,ZI,rfl,rfl⟩
  ·rw[if_pos rfl,az eu] at I;refine go ?_;refine lA (i6 l G s3 (by omega)) ?_;refine go ?_;exact fX _ ⟨_,s3,I.symm,by omega,cS,rfl,rfl⟩
set_option maxHeartbeats 8000000 in
theorem adu(l:ah)(hL:cr l)(G:Int)(log:List aF)(s:af)(bI c:Int)(fp:eN s.gone)(gU:s.gone.length<=10000)(hm:s.made<=log.length)(U:log.length<=1000000):fZ 130 l G log s [.ptr 11 0,E bI,E c] (At l G bI c log s) lU:=by
 generalize I:At l G bI c log s=aQ;unfold At at I;refine sX func130 ntmps130 λ w cl own kf=>?_
 refine go ?_;refine cn (λ p:Nat×af=>s.made<=p.2.made/\p.2.made<=log.length/\log.length-p.2.made<p.1/\p.2.gone=s.gone/\xK l G bI c p.1 log p.2=aQ) (λ p=>⟨[(0,.ptr 11 0),(1,E bI),(2,E c),(6,.ptr 3 0),(7,.ptr 4 0)],(4,[E 0,dB false,E 0,E 0,.p (.sl true 0 [])])::(3,[E 0,dB false,E 0,E 0,.p (.sl true 0 [])])::co l G log p.2,[]⟩) (λ p=>p.1) (log.length+1-s.made,s) ⟨Nat.le_refl _,hm,by simp only;omega,rfl,I⟩ (zX) ?_;rintro⟨k,t⟩ ⟨cY,bw,iZ,ff,I⟩;simp only at cY bw iZ ff I;obtain⟨k,rfl⟩:∃j,k=j+1:=⟨k-1,by omega⟩;refine(show aP _ _ _ _ ⟨[(0,.ptr 11 0),(1,E bI),(2,E c),(6,.ptr 3 0),(7,.ptr 4 0)],(4,[E 0,dB false,E 0,E 0,.p (.sl true 0 [])])::(3,[E 0,dB false,E 0,E 0,.p (.sl true 0 [])])::co l G log t,[]⟩ from ?_);rw[xK] at I;refine go ?_;refine xP (afx l hL G log t bI bw U) ?_;rintro d Y ⟨p,s1,bO,fT,dc,rfl,rfl⟩;rw[az bO] at I;obtain⟨g1,m1,n0,n1,lc⟩:=UT bO;have fe:=m1 bw;have jT:s1.gone=s.gone:=g1.trans ff;obtain⟨n,at_,agn⟩:=p;simp only at I n0 n1 lc;refine go ?_;rcases lc with rfl|rfl|rfl
 ·rw[if_pos rfl] at I;rw[show decide ((0:Int)=0)=true from rfl];refine go ?_;refine xP (kh l hL G log s1 dc U) ?_;rintro d Y ⟨u,s2,bg,fj,cN,rfl,rfl⟩;rw[az bg] at I;refine go ?_;exact fX _ ⟨_,s2,I.symm,by omega,cN,rfl,rfl⟩
 ·rw[if_neg (by decide),if_neg (by decide)] at I;rw[show decide ((1:Int)=0)=false from rfl];refine go ?_;rw[show decide ((1:Int)=2)=false from rfl];refine go ?_;refine xP (eC l G log s1 c dc U) ?_;rintro d Y ⟨w,s2,bg,fj,cN,rfl,rfl⟩;rw[az bg] at I;have fD:=iH bg;have d4:s2.gone=s.gone:=by rw[(fK bg).1];exact jT
  have zp:0<=v6 w/\v6 w<4294967296:=by unfold v6;omega
  refine gA (SP w) ?_;generalize A:decide (xH w=1)=cc;cases cc
  ·rw[if_neg (of_decide_eq_false A)] at I;refine go ?_;exact⟨(k,s2),⟨by simp only;omega,cN,by simp only;omega,d4,I⟩,by simp only;omega,zX⟩
  ·rw[if_pos (of_decide_eq_true A)] at I;refine gA (Ma (v6 w) 2 (lG w)) ?_;refine xP (jb l G log s2 c w (mS (v6 w) 2 (lG w)) cN U) ?_;rintro d Y ⟨Md,s3,bV,fv,cS,rfl,rfl⟩;rw[az bV] at I;have gx:=lO bV;have iD:s3.gone=s.gone:=by rw[(ja bV).1];exact d4
   refine go ?_;cases Md
   ·rw[if_neg (by decide)] at I;refine go ?_;exact⟨(k,s3),⟨by simp only;omega,cS,by simp only;omega,iD,I⟩,by simp only;omega,zX⟩
   ·rw[if_pos rfl,az eu] at I;refine go ?_;refine lA (i6 l G s3 (by omega)) ?_;refine go ?_;refine xP (kh l hL G log s3 cS U) ?_;rintro d Y ⟨u,s4,cX,jf,eQ,rfl,rfl⟩;rw[az cX] at I;refine go ?_;exact fX _ ⟨_,s4,I.symm,by omega,eQ,rfl,rfl⟩
 ·rw[if_neg (by decide),if_pos rfl] at I;rw[show decide ((2:Int)=0)=false from rfl];refine go ?_;rw[show decide ((2:Int)=2)=true from rfl];refine go ?_;refine lA (gJ l hL G s1 n 1 (by omega) (by omega)) ?_;refine go ?_;refine xP (eC l G log s1 (aN l n 1) dc U) ?_;rintro d Y ⟨w,s2,bg,fj,cN,rfl,rfl⟩;rw[az bg] at I;have d4:s2.gone=s.gone:=by rw[(fK bg).1];exact jT
  refine go ?_;refine xP (kh l hL G log s2 cN U) ?_;rintro d Y ⟨u,s3,bV,fv,cS,rfl,rfl⟩;rw[az bV] at I;have iD:s3.gone=s.gone:=(jP bV).trans d4;refine go ?_;refine xP (Ay l hL G log s3 n (by omega) (by rw[iD];exact fp) (by rw[iD];exact gU) cS U) ?_;rintro d Y ⟨u,s4,cX,jf,eQ,rfl,rfl⟩;rw[az cX] at I;refine go ?_;exact fX _ ⟨_,s4,I.symm,by omega,eQ,rfl,rfl⟩
abbrev uz(l:ah)(G:Int)(log:List aF)(bI c:Int)(op:bl)(s:af):bJ:=[(11,nH l G s),(12,[.ptr 11 0]),(13,[gT log]),(14,[.ptr 11 0]),(15,[E bI]),(17,[E c]),(16,r9 op)]
def uR{av:Type}(l:ah)(G:Int)(log:List aF)(bI c:Int)(op:bl)(m:Except aX (av×af))(enc:av->K):K->bJ->Prop:=λ d Y=>∃x aa,m=.ok (x,aa)/\d=enc x/\Y=uz l G log bI c op aa
def uS{av:Type}(l:ah)(G:Int)(log:List aF)(bI c:Int)(op:bl)(m:Except aX (av×af)):Value->bJ->Prop:=λ v Y=>∃a aa,m=.error a/\v=iK a/\Y=uz l G log bI c op aa
theorem ab0(l:ah)(hL:cr l)(G:Int)(log:List aF)(s:af)(bI c:Int)(op:bl)(hm:s.made<=log.length)(U:log.length<=1000000):fM prog 127 [11,12,13,14,15,17,16] [.ptr 14 0,.ptr 15 0,.ptr 17 0,.ptr 16 0] (uz l G log bI c op s) (uR l G log bI c op (we l bI c op.a log s) lU) (uS l G log bI c op (we l bI c op.a log s)):=by
 refine sX func127 ntmps127 λ w cl own kf=>?_
 refine go ?_;refine xX (adK l hL G log s bI c op.a hm U) ?_ ?_
 ·rintro v Y ⟨a,aa,h,rfl,rfl⟩;refine gP ?_;exact fP _ ⟨a,aa,h,rfl,rfl⟩
 rintro d Y ⟨x,aa,h,iE,cD,rfl,rfl⟩;refine go ?_;exact fX _ ⟨x,aa,h,rfl,rfl⟩
theorem L2(l:ah)(hL:cr l)(G:Int)(log:List aF)(s:af)(bI c:Int)(op:bl)(fp:eN s.gone)(gU:s.gone.length<=10000)(hm:s.made<=log.length)(U:log.length<=1000000):fM prog 129 [11,12,13,14,15,17,16] [.ptr 14 0,.ptr 15 0,.ptr 17 0] (uz l G log bI c op s) (uR l G log bI c op (At l G bI c log s) lU) (uS l G log bI c op (At l G bI c log s)):=by
 refine sX func129 ntmps129 λ w cl own kf=>?_
 refine go ?_;refine xX (adu l hL G log s bI c fp gU hm U) ?_ ?_
 ·rintro v Y ⟨a,aa,h,rfl,rfl⟩;refine gP ?_;exact fP _ ⟨a,aa,h,rfl,rfl⟩
 rintro d Y ⟨x,aa,h,iE,cD,rfl,rfl⟩;refine go ?_;exact fX _ ⟨x,aa,h,rfl,rfl⟩
def uT(m:Except aX (aY×af)):K->bJ->Prop:=λ d Y=>Y=[]/\((∃x aa,m=.ok (x,aa)/\d=.bd [fC eZ,kj {x with gone:=aa.gone},dB true])\/∃a,m=.error a/\d=.bd [fC a,lU mw,dB false])
abbrev wU(a:aX)(od:List K)(dn:Bool):St:=⟨[(4,.ptr 22 0),(5,.ptr 23 0),(6,.ptr 24 0)],jo a od dn,[]⟩
def ym(m:Except aX (aY×af))(Γ:bN):Exit->St->Prop:=λ ex M=>(ex=.ret/\∃x aa,m=.ok (x,aa)/\bY Γ M (wU eZ (oU {x with gone:=aa.gone}) true))\/∃a,ex=.panic [pe (iK a)]/\m=.error a/\bY Γ M (wU eZ [E 0,dB false,E 0,E 0,.p (.sl true 0 [])] false)
set_option maxHeartbeats 4000000 in
theorem adk(l:ah)(G:Int)(log:List aF)(s:af)(bI c:Int)(op:bl)(m:Except aX (aY×af))(hg:∀x aa,m=.ok (x,aa)->aa.gone.length<=100000)(hC:fM prog 127 [11,12,13,14,15,17,16] [.ptr 14 0,.ptr 15 0,.ptr 17 0,.ptr 16 0] (uz l G log bI c op s) (uR l G log bI c op m lU) (uS l G log bI c op m)):
 eI prog 126 [] [.ptr 11 0,.fn (.func 127) [] [.ptr 14 0,.ptr 15 0,.ptr 17 0,.ptr 16 0]] (uz l G log bI c op s) (uT m):=by
 intro e vs hI hv;refine calls_of_wp_defers func126 rfl ?_;have ip:=vS (fn:=f126) (f:=126) (aV:=[]) [] (by decide) trivial hI hv rfl;refine wp_seq (Code.wp_mono (λ ex a1 w1 hh=>?_) (aP.run (Q:=λ ex M=>ex=.normal/\M=⟨[(6,.ptr 24 0),(5,.ptr 23 0),(4,.ptr 22 0),(2,.ptr 21 0),(0,.ptr 11 0),(1,.fn (.func 127) [] [.ptr 14 0,.ptr 15 0,.ptr 17 0,.ptr 16 0])],(24,[dB false])::(23,[E 0,dB false,E 0,E 0,.p (.sl true 0 [])])::(22,[E 0,E 0,E 0,E 0])::(21,[.ptr 11 0])::uz l G log bI c op s,[]⟩) ?_ _ e ip))
 ·obtain⟨ow,e1,rfl,cM,rfl,rfl⟩:=hh;obtain⟨k1,_,_,b1,_,_⟩:=cM.boxes 21 _ rfl;obtain⟨k2,_,_,b2,_,_⟩:=cM.boxes 22 _ rfl;obtain⟨k3,_,_,b3,_,_⟩:=cM.boxes 23 _ rfl;obtain⟨k4,_,_,b4,_,_⟩:=cM.boxes 24 _ rfl;refine wp_seq (CL cM rfl rfl rfl rfl rfl rfl rfl rfl [(21,k1),(22,k2),(23,k3),(24,k4)] (λ b k J=>?_) (λ a2 c7 dj e9=>?_))
  ·simp only[da] at J;split at J
   ·rename_i q;cases J;rw[<-q];exact b1
   ·split at J
    ·rename_i q;cases J;rw[<-q];exact b2
    ·split at J
     ·rename_i q;cases J;rw[<-q];exact b3
     ·split at J
      ·rename_i q;cases J;rw[<-q];exact b4
      ·cases J
  ·refine Code.wp_mono (λ ex a3 w3 hh=>?_) (aP.run (Γ:=⟨18,e.w,e.cl,λ k=>∃b,e.bx b=some k,[(21,k1),(22,k2),(23,k3),(24,k4)],[{target:=.fn (.func 153) c7.toArray,args:=#[]}]⟩) (Q:=ym m ⟨18,e.w,e.cl,λ k=>∃b,e.bx b=some k,[(21,k1),(22,k2),(23,k3),(24,k4)],[{target:=.fn (.func 153) c7.toArray,args:=#[]}]⟩) ?_ a2 e1 e9)
   ·obtain⟨FG,e3,rfl,iW,hq⟩:=hh;rcases hq with⟨rfl,x,aa,hm,fm⟩|⟨a,rfl,hm,fm⟩
    ·skip
     obtain⟨e4,lj,cq⟩:=fm a3 e3 iW;show Leaves prog f126 a3.tmps _ a3.defers .returning e3.w;rw[cq.df,<-lj];have lb:DReps e4 c7 [.ptr 22 0,.ptr 21 0,.ptr 23 0,.ptr 24 0]:=⟨dj.1,λ i v d hv D=>by
      match i,hv,D with
      |0,hv,D=>cases D;exact fa (dj.2 0 v _ hv rfl) b2 (cq.env.kb 22 k2 rfl)
      |1,hv,D=>cases D;exact fa (dj.2 1 v _ hv rfl) b1 (cq.env.kb 21 k1 rfl)
      |2,hv,D=>cases D;exact fa (dj.2 2 v _ hv rfl) b3 (cq.env.kb 23 k3 rfl)
      |3,hv,D=>cases D;exact fa (dj.2 3 v _ hv rfl) b4 (cq.env.kb 24 k4 rfl)⟩
     refine rX cq (λ a w=>call153 a w) lb rfl (by(repeat(first|exact trivial|refine⟨⟨rfl,rfl⟩,?_⟩))) ⟨.inr rfl,.inr rfl,.inr rfl,.inr rfl,trivial⟩ rfl (by simp) rfl (λ e0 qr A F=>Ar eZ {x with gone:=aa.gone} true A F) (λ aq Z=>by subst Z;exact⟨.inl rfl,.inl rfl,.inl rfl,.inl rfl,trivial⟩) (λ aq e5 Z dS=>?_);subst Z;obtain⟨v,hr,ky⟩:=pJ aD (fn:=f126) (d:=.bd [fC eZ,kj {x with gone:=aa.gone},dB true]) dS rfl;refine⟨v,hr,v,_,[],e5.cut (aI []) λ _=>false,rfl,rfl,⟨rfl,.inl ⟨x,aa,hm,rfl⟩⟩,lT dS trivial,ky.cut rfl,⟨dS.env.kept,dS.env.cl,λ b k J=>?_,λ b Z=>by cases Z⟩⟩;cases J
    ·skip
     obtain⟨e4,lj,cq⟩:=fm a3 e3 iW;show Leaves prog f126 a3.tmps _ a3.defers (.panicking [pe (iK a)]) e3.w;rw[cq.df,<-lj];have lb:DReps e4 c7 [.ptr 22 0,.ptr 21 0,.ptr 23 0,.ptr 24 0]:=⟨dj.1,λ i v d hv D=>by
      match i,hv,D with
      |0,hv,D=>cases D;exact fa (dj.2 0 v _ hv rfl) b2 (cq.env.kb 22 k2 rfl)
      |1,hv,D=>cases D;exact fa (dj.2 1 v _ hv rfl) b1 (cq.env.kb 21 k1 rfl)
      |2,hv,D=>cases D;exact fa (dj.2 2 v _ hv rfl) b3 (cq.env.kb 23 k3 rfl)
      |3,hv,D=>cases D;exact fa (dj.2 3 v _ hv rfl) b4 (cq.env.kb 24 k4 rfl)⟩
     refine rX cq (λ a w=>call153 a w) lb rfl (by(repeat(first|exact trivial|refine⟨⟨rfl,rfl⟩,?_⟩))) ⟨.inr rfl,.inr rfl,.inr rfl,.inr rfl,trivial⟩ rfl (by simp) rfl (λ e0 qr A F=>As eZ a _ rfl false A F) (λ aq Z=>by subst Z;exact⟨.inl rfl,.inl rfl,.inl rfl,.inl rfl,trivial⟩) (λ aq e5 Z dS=>?_);subst Z;obtain⟨v,hr,ky⟩:=pJ aD (fn:=f126) (d:=.bd [fC a,lU mw,dB false]) dS rfl;refine⟨v,hr,v,_,[],e5.cut (aI []) λ _=>false,rfl,rfl,⟨rfl,.inr ⟨a,hm,rfl⟩⟩,lT dS trivial,ky.cut rfl,⟨dS.env.kept,dS.env.cl,λ b k J=>?_,λ b Z=>by cases Z⟩⟩;cases J
   ·refine go ?_;refine vX hC ?_ ?_
    ·rintro v Y ⟨a,aa,h,rfl,rfl⟩;refine gP ?_;exact .inr ⟨a,rfl,h,bY.trans (rB 21 rfl rfl) (zX)⟩
    rintro d Y ⟨x,aa,h,rfl,rfl⟩;refine gA ((pT aa.gone (hg x aa h)).pure) ?_;refine gW 3 [22] ?_;refine go ?_;exact .inl ⟨rfl,x,aa,h,bY.trans (rB 21 rfl rfl) (zX)⟩
 ·refine gE ?_;refine bA 21 ?_;refine nA 22 ?_;refine nA 23 ?_;refine nA 24 ?_;exact kM ⟨rfl,rfl⟩
set_option maxHeartbeats 4000000 in
theorem Mt(l:ah)(G:Int)(log:List aF)(s:af)(bI c:Int)(op:bl)(m:Except aX (aY×af))(hg:∀x aa,m=.ok (x,aa)->aa.gone.length<=100000)(hC:fM prog 129 [11,12,13,14,15,17,16] [.ptr 14 0,.ptr 15 0,.ptr 17 0] (uz l G log bI c op s) (uR l G log bI c op m lU) (uS l G log bI c op m)):
 eI prog 126 [] [.ptr 11 0,.fn (.func 129) [] [.ptr 14 0,.ptr 15 0,.ptr 17 0]] (uz l G log bI c op s) (uT m):=by
 intro e vs hI hv;refine calls_of_wp_defers func126 rfl ?_;have ip:=vS (fn:=f126) (f:=126) (aV:=[]) [] (by decide) trivial hI hv rfl;refine wp_seq (Code.wp_mono (λ ex a1 w1 hh=>?_) (aP.run (Q:=λ ex M=>ex=.normal/\M=⟨[(6,.ptr 24 0),(5,.ptr 23 0),(4,.ptr 22 0),(2,.ptr 21 0),(0,.ptr 11 0),(1,.fn (.func 129) [] [.ptr 14 0,.ptr 15 0,.ptr 17 0])],(24,[dB false])::(23,[E 0,dB false,E 0,E 0,.p (.sl true 0 [])])::(22,[E 0,E 0,E 0,E 0])::(21,[.ptr 11 0])::uz l G log bI c op s,[]⟩) ?_ _ e ip))
 ·obtain⟨ow,e1,rfl,cM,rfl,rfl⟩:=hh;obtain⟨k1,_,_,b1,_,_⟩:=cM.boxes 21 _ rfl;obtain⟨k2,_,_,b2,_,_⟩:=cM.boxes 22 _ rfl;obtain⟨k3,_,_,b3,_,_⟩:=cM.boxes 23 _ rfl;obtain⟨k4,_,_,b4,_,_⟩:=cM.boxes 24 _ rfl;refine wp_seq (CL cM rfl rfl rfl rfl rfl rfl rfl rfl [(21,k1),(22,k2),(23,k3),(24,k4)] (λ b k J=>?_) (λ a2 c7 dj e9=>?_))
  ·simp only[da] at J;split at J
   ·rename_i q;cases J;rw[<-q];exact b1
   ·split at J
    ·rename_i q;cases J;rw[<-q];exact b2
    ·split at J
     ·rename_i q;cases J;rw[<-q];exact b3
     ·split at J
      ·rename_i q;cases J;rw[<-q];exact b4
      ·cases J
  ·refine Code.wp_mono (λ ex a3 w3 hh=>?_) (aP.run (Γ:=⟨18,e.w,e.cl,λ k=>∃b,e.bx b=some k,[(21,k1),(22,k2),(23,k3),(24,k4)],[{target:=.fn (.func 153) c7.toArray,args:=#[]}]⟩) (Q:=ym m ⟨18,e.w,e.cl,λ k=>∃b,e.bx b=some k,[(21,k1),(22,k2),(23,k3),(24,k4)],[{target:=.fn (.func 153) c7.toArray,args:=#[]}]⟩) ?_ a2 e1 e9)
   ·obtain⟨FG,e3,rfl,iW,hq⟩:=hh;rcases hq with⟨rfl,x,aa,hm,fm⟩|⟨a,rfl,hm,fm⟩
    ·skip
     obtain⟨e4,lj,cq⟩:=fm a3 e3 iW;show Leaves prog f126 a3.tmps _ a3.defers .returning e3.w;rw[cq.df,<-lj];have lb:DReps e4 c7 [.ptr 22 0,.ptr 21 0,.ptr 23 0,.ptr 24 0]:=⟨dj.1,λ i v d hv D=>by
      match i,hv,D with
      |0,hv,D=>cases D;exact fa (dj.2 0 v _ hv rfl) b2 (cq.env.kb 22 k2 rfl)
      |1,hv,D=>cases D;exact fa (dj.2 1 v _ hv rfl) b1 (cq.env.kb 21 k1 rfl)
      |2,hv,D=>cases D;exact fa (dj.2 2 v _ hv rfl) b3 (cq.env.kb 23 k3 rfl)
      |3,hv,D=>cases D;exact fa (dj.2 3 v _ hv rfl) b4 (cq.env.kb 24 k4 rfl)⟩
     refine rX cq (λ a w=>call153 a w) lb rfl (by(repeat(first|exact trivial|refine⟨⟨rfl,rfl⟩,?_⟩))) ⟨.inr rfl,.inr rfl,.inr rfl,.inr rfl,trivial⟩ rfl (by simp) rfl (λ e0 qr A F=>Ar eZ {x with gone:=aa.gone} true A F) (λ aq Z=>by subst Z;exact⟨.inl rfl,.inl rfl,.inl rfl,.inl rfl,trivial⟩) (λ aq e5 Z dS=>?_);subst Z;obtain⟨v,hr,ky⟩:=pJ aD (fn:=f126) (d:=.bd [fC eZ,kj {x with gone:=aa.gone},dB true]) dS rfl;refine⟨v,hr,v,_,[],e5.cut (aI []) λ _=>false,rfl,rfl,⟨rfl,.inl ⟨x,aa,hm,rfl⟩⟩,lT dS trivial,ky.cut rfl,⟨dS.env.kept,dS.env.cl,λ b k J=>?_,λ b Z=>by cases Z⟩⟩;cases J
    ·skip
     obtain⟨e4,lj,cq⟩:=fm a3 e3 iW;show Leaves prog f126 a3.tmps _ a3.defers (.panicking [pe (iK a)]) e3.w;rw[cq.df,<-lj];have lb:DReps e4 c7 [.ptr 22 0,.ptr 21 0,.ptr 23 0,.ptr 24 0]:=⟨dj.1,λ i v d hv D=>by
      match i,hv,D with
      |0,hv,D=>cases D;exact fa (dj.2 0 v _ hv rfl) b2 (cq.env.kb 22 k2 rfl)
      |1,hv,D=>cases D;exact fa (dj.2 1 v _ hv rfl) b1 (cq.env.kb 21 k1 rfl)
      |2,hv,D=>cases D;exact fa (dj.2 2 v _ hv rfl) b3 (cq.env.kb 23 k3 rfl)
      |3,hv,D=>cases D;exact fa (dj.2 3 v _ hv rfl) b4 (cq.env.kb 24 k4 rfl)⟩
     refine rX cq (λ a w=>call153 a w) lb rfl (by(repeat(first|exact trivial|refine⟨⟨rfl,rfl⟩,?_⟩))) ⟨.inr rfl,.inr rfl,.inr rfl,.inr rfl,trivial⟩ rfl (by simp) rfl (λ e0 qr A F=>As eZ a _ rfl false A F) (λ aq Z=>by subst Z;exact⟨.inl rfl,.inl rfl,.inl rfl,.inl rfl,trivial⟩) (λ aq e5 Z dS=>?_);subst Z;obtain⟨v,hr,ky⟩:=pJ aD (fn:=f126) (d:=.bd [fC a,lU mw,dB false]) dS rfl;refine⟨v,hr,v,_,[],e5.cut (aI []) λ _=>false,rfl,rfl,⟨rfl,.inr ⟨a,hm,rfl⟩⟩,lT dS trivial,ky.cut rfl,⟨dS.env.kept,dS.env.cl,λ b k J=>?_,λ b Z=>by cases Z⟩⟩;cases J
   ·refine go ?_;refine vX hC ?_ ?_
    ·rintro v Y ⟨a,aa,h,rfl,rfl⟩;refine gP ?_;exact .inr ⟨a,rfl,h,bY.trans (rB 21 rfl rfl) (zX)⟩
    rintro d Y ⟨x,aa,h,rfl,rfl⟩;refine gA ((pT aa.gone (hg x aa h)).pure) ?_;refine gW 3 [22] ?_;refine go ?_;exact .inl ⟨rfl,x,aa,h,bY.trans (rB 21 rfl rfl) (zX)⟩
 ·refine gE ?_;refine bA 21 ?_;refine nA 22 ?_;refine nA 23 ?_;refine nA 24 ?_;exact kM ⟨rfl,rfl⟩
theorem w8{l:ah}{n:Int}:∀{k:Nat}{log:List aF}{s aa:af}{u:Unit},mH l n k log s=.ok (u,aa)->aa.gone=s.gone
 |0,log,s,aa,u,h=>by cases h;rfl
 |k+1,log,s,aa,u,h=>by
  rw[mH] at h;cases A:cZ l.free log s with
  |error a=>rw[bj A] at h;cases h
  |ok q=>
   obtain⟨fr,s1⟩:=q;rw[az A] at h;have g1:s1.gone=s.gone:=by rw[(fK A).1]
   cases F:fA (aN l n 7) (ae fr).idx log s1 with
   |error a=>rw[bj F] at h;cases h
   |ok q=>
    obtain⟨lk,s2⟩:=q;rw[az F] at h;have g2:s2.gone=s.gone:=by rw[(ot F).1];exact g1
    cases O:fN l.free fr (bK (ca (ae fr) n)) log s2 with
    |error a=>rw[bj O] at h;cases h
    |ok q=>
     obtain⟨ok,s3⟩:=q;rw[az O] at h;have g3:s3.gone=s.gone:=by rw[(ja O).1];exact g2
     split at h
     ·cases h;exact g3
     ·exact(w8 h).trans g3
theorem H9{l:ah}{bI c v n:Int}:∀{k:Nat}{log:List aF}{s aa:af}{x:aY},wd l bI c v n k log s=.ok (x,aa)->aa.gone=s.gone
 |0,log,s,aa,x,h=>by cases h;rfl
 |k+1,log,s,aa,x,h=>by
  rw[wd] at h;cases A:yc l bI n log s with
  |error a=>rw[bj A] at h;cases h
  |ok q=>
   obtain⟨b,s1⟩:=q;rw[az A] at h;have g1:=(UU A).1;cases b
   ·rw[if_neg (by decide)] at h;cases F:cZ c log s1 with
    |error a=>rw[bj F] at h;cases h
    |ok q=>
     obtain⟨w,s2⟩:=q;rw[az F] at h;have g2:s2.gone=s.gone:=by rw[(fK F).1];exact g1
     split at h
     ·cases O:fN c w (mS v 1 (lG w+1)) log s2 with
      |error a=>rw[bj O] at h;cases h
      |ok q=>
       obtain⟨ok,s3⟩:=q;rw[az O] at h;have g3:s3.gone=s.gone:=by rw[(ja O).1];exact g2
       cases ok
       ·rw[if_neg (by decide)] at h;exact(H9 h).trans g3
       ·rw[if_pos rfl,az eu] at h;cases h4:Ag c (mS v 1 (lG w+1)) (mS 0 0 (lG w+1)) log s3 with
        |error a=>rw[bj h4] at h;cases h
        |ok q=>
         obtain⟨mt,s4⟩:=q;rw[az h4] at h;have g4:=(Sw h4).1.trans g3;cases mt
         ·rw[if_neg (by decide)] at h;exact(H9 h).trans g4
         ·rw[if_pos rfl] at h;cases h5:fA c (mS 0 0 (lG w+1)) log s4 with
          |error a=>rw[bj h5] at h;cases h
          |ok q=>
           obtain⟨u,s5⟩:=q;rw[az h5] at h;have g5:s5.gone=s.gone:=by rw[(ot h5).1];exact g4
           cases h6:oI l n log s5 with
           |error a=>rw[bj h6] at h;cases h
           |ok q=>obtain⟨u,s6⟩:=q;rw[az h6] at h;cases h;exact(w8 h6).trans g5
     ·exact(H9 h).trans g2
   ·rw[if_pos rfl,az eu] at h;cases h;exact g1
theorem adJ{l:ah}{bI c v:Int}{log:List aF}{s aa:af}{x:aY}(h:we l bI c v log s=.ok (x,aa)):aa.gone=s.gone:=by
 unfold we at h;cases A:sr l log s with
 |error a=>rw[bj A] at h;cases h
 |ok q=>
  obtain⟨p,s1⟩:=q;rw[az A] at h;have g1:s1.gone=s.gone:=(Fy A).2;split at h
  ·cases F:fA (aN l p.1 1) v log s1 with
   |error a=>rw[bj F] at h;cases h
   |ok q=>
    obtain⟨u,s2⟩:=q;rw[az F] at h;have g2:s2.gone=s.gone:=by rw[(ot F).1];exact g1
    exact(H9 h).trans g2
  ·cases h;exact g1
theorem E5{l:ah}{G bI c:Int}:∀{k:Nat}{log:List aF}{s aa:af}{x:aY},xK l G bI c k log s=.ok (x,aa)->aa.gone.length<=s.gone.length+1
 |0,log,s,aa,x,h=>by cases h;omega
 |k+1,log,s,aa,x,h=>by
  rw[xK] at h;cases A:ya l G bI log s with
  |error a=>rw[bj A] at h;cases h
  |ok q=>
   obtain⟨p,s1⟩:=q;rw[az A] at h;have g1:=(UT A).1;split at h
   ·cases F:gB l G log s1 with
    |error a=>rw[bj F] at h;cases h
    |ok q=>obtain⟨u,s2⟩:=q;rw[az F] at h;cases h;have:aa.gone=s.gone:=(jP F).trans g1;rw[this];omega
   ·split at h
    ·cases F:cZ (aN l p.1 1) log s1 with
     |error a=>rw[bj F] at h;cases h
     |ok q=>
      obtain⟨ahX,s2⟩:=q;rw[az F] at h;have g2:s2.gone=s.gone:=by rw[(fK F).1];exact g1
      cases O:gB l G log s2 with
      |error a=>rw[bj O] at h;cases h
      |ok q=>
       obtain⟨u,s3⟩:=q;rw[az O] at h;have g3:s3.gone=s.gone:=(jP O).trans g2;cases h4:lr l p.1 log s3 with
       |error a=>rw[bj h4] at h;cases h
       |ok q=>obtain⟨u,s4⟩:=q;rw[az h4] at h;cases h;have:=Ff h4;rw[g3] at this;exact this
    ·cases F:cZ c log s1 with
     |error a=>rw[bj F] at h;cases h
     |ok q=>
      obtain⟨w,s2⟩:=q;rw[az F] at h;have g2:s2.gone=s.gone:=by rw[(fK F).1];exact g1
      split at h
      ·cases O:fN c w (mS (v6 w) 2 (lG w)) log s2 with
       |error a=>rw[bj O] at h;cases h
       |ok q=>
        obtain⟨ok,s3⟩:=q;rw[az O] at h;have g3:s3.gone=s.gone:=by rw[(ja O).1];exact g2
        cases ok
        ·rw[if_neg (by decide)] at h;have:=E5 h;rw[g3] at this;exact this
        ·rw[if_pos rfl,az eu] at h;cases h4:gB l G log s3 with
         |error a=>rw[bj h4] at h;cases h
         |ok q=>obtain⟨u,s4⟩:=q;rw[az h4] at h;cases h;have:aa.gone=s.gone:=(jP h4).trans g3;rw[this];omega
      ·have:=E5 h;rw[g2] at this;exact this
abbrev sH(r:aX×aY×Bool):K:=.bd [fC r.1,kj r.2.1,dB r.2.2]
set_option maxHeartbeats 8000000 in
theorem EU(l:ah)(hL:cr l)(G:Int)(uo:0<=G/\G<=1000000)(gone:List (Int×Int))(op:bl)(log:List aF)(fp:eN gone)(gU:gone.length<=10000)(U:log.length<=1000000):bc prog 106 [dP l,E G,eh gone,JD op,gT log] (sH (dJ l G gone op log)):=by
 generalize I:dJ l G gone op log=aQ;unfold dJ at I;refine sP func106 ntmps106 λ w cl=>?_
 refine gE ?_;refine bA 0 ?_;refine bA 16 ?_;refine nA 2 ?_;refine nA 3 ?_;refine go ?_;refine cA (UR l hL op.obj) ?_;refine nA 15 ?_;refine go ?_;generalize A:decide (mc l op.obj<0)=cc;cases cc
 ·rw[if_neg (of_decide_eq_false A)] at I;refine go ?_;refine cI (Db l G gone log) ?_;rintro d Y ⟨rfl,rfl⟩;refine nA 14 ?_;refine go ?_;refine cA (ae6 l hL G op.obj uo.1 uo.2) ?_;refine nA 17 ?_;refine go ?_;generalize F:decide (op.kind=4)=cc;cases cc
  ·have bB:=of_decide_eq_false F;rw[if_neg (λ h=>bB h.1)] at I;refine go ?_;generalize h5:decide (op.kind=5)=cc;cases cc
   ·rw[if_neg (of_decide_eq_false h5)] at I;refine gA (tz gone (by omega)) ?_;refine ez ?_;rw[<-I]
   ·rw[if_pos (of_decide_eq_true h5)] at I;refine go ?_;refine il (Mt l G log ⟨0,gone,0,0,0⟩ (mc l op.obj) (rm l G op.obj) op _ (λ x aa h=>by have:=E5 h;simp at this;omega) (L2 l hL G log ⟨0,gone,0,0,0⟩ (mc l op.obj) (rm l G op.obj) op fp gU (Nat.zero_le _) U)) rfl (λ a w=>call126 a w) rfl rfl (by(repeat(first|exact trivial|refine⟨⟨rfl,rfl⟩,?_⟩))) trivial rfl rfl rfl rfl ?_ ?_
    ·rintro d Y ⟨rfl,_⟩;exact trivial
    rintro d Y ⟨rfl,⟨x,aa,hm,rfl⟩|⟨a,hm,rfl⟩⟩
    ·rw[hm] at I;refine gf ?_;rw[<-I];rfl
    ·rw[hm] at I;refine gf ?_;rw[<-I];rfl
  ·have bB:=of_decide_eq_true F;refine go ?_;generalize O:decide (op.a>=0)=cc;cases cc
   ·have dt:=of_decide_eq_false O;rw[if_neg (λ h=>dt h.2.1)] at I;refine go ?_;generalize h5:decide (op.kind=5)=cc;cases cc
    ·rw[if_neg (of_decide_eq_false h5)] at I;refine gA (tz gone (by omega)) ?_;refine ez ?_;rw[<-I]
    ·rw[if_pos (of_decide_eq_true h5)] at I;refine go ?_;refine il (Mt l G log ⟨0,gone,0,0,0⟩ (mc l op.obj) (rm l G op.obj) op _ (λ x aa h=>by have:=E5 h;simp at this;omega) (L2 l hL G log ⟨0,gone,0,0,0⟩ (mc l op.obj) (rm l G op.obj) op fp gU (Nat.zero_le _) U)) rfl (λ a w=>call126 a w) rfl rfl (by(repeat(first|exact trivial|refine⟨⟨rfl,rfl⟩,?_⟩))) trivial rfl rfl rfl rfl ?_ ?_
     ·rintro d Y ⟨rfl,_⟩;exact trivial
     rintro d Y ⟨rfl,⟨x,aa,hm,rfl⟩|⟨a,hm,rfl⟩⟩
     ·rw[hm] at I;refine gf ?_;rw[<-I];rfl
     ·rw[hm] at I;refine gf ?_;rw[<-I];rfl
   ·have dt:=of_decide_eq_true O;refine go ?_;generalize h4:decide (op.a<4294967296)=cc;cases cc
    ·have rI:=of_decide_eq_false h4;rw[if_neg (λ h=>rI h.2.2)] at I;refine go ?_;generalize h5:decide (op.kind=5)=cc;cases cc
     ·rw[if_neg (of_decide_eq_false h5)] at I;refine gA (tz gone (by omega)) ?_;refine ez ?_;rw[<-I]
     ·rw[if_pos (of_decide_eq_true h5)] at I;refine go ?_;refine il (Mt l G log ⟨0,gone,0,0,0⟩ (mc l op.obj) (rm l G op.obj) op _ (λ x aa h=>by have:=E5 h;simp at this;omega) (L2 l hL G log ⟨0,gone,0,0,0⟩ (mc l op.obj) (rm l G op.obj) op fp gU (Nat.zero_le _) U)) rfl (λ a w=>call126 a w) rfl rfl (by(repeat(first|exact trivial|refine⟨⟨rfl,rfl⟩,?_⟩))) trivial rfl rfl rfl rfl ?_ ?_
      ·rintro d Y ⟨rfl,_⟩;exact trivial
      rintro d Y ⟨rfl,⟨x,aa,hm,rfl⟩|⟨a,hm,rfl⟩⟩
      ·rw[hm] at I;refine gf ?_;rw[<-I];rfl
      ·rw[hm] at I;refine gf ?_;rw[<-I];rfl
    ·rw[if_pos ⟨bB,dt,of_decide_eq_true h4⟩] at I;refine go ?_;refine il (adk l G log ⟨0,gone,0,0,0⟩ (mc l op.obj) (rm l G op.obj) op _ (λ x aa h=>by rw[adJ h];simp;omega) (ab0 l hL G log ⟨0,gone,0,0,0⟩ (mc l op.obj) (rm l G op.obj) op (Nat.zero_le _) U)) rfl (λ a w=>call126 a w) rfl rfl (by(repeat(first|exact trivial|refine⟨⟨rfl,rfl⟩,?_⟩))) trivial rfl rfl rfl rfl ?_ ?_
     ·rintro d Y ⟨rfl,_⟩;exact trivial
     rintro d Y ⟨rfl,⟨x,aa,hm,rfl⟩|⟨a,hm,rfl⟩⟩
     ·rw[hm] at I;refine gf ?_;rw[<-I];rfl
     ·rw[hm] at I;refine gf ?_;rw[<-I];rfl
 ·rw[if_pos (of_decide_eq_true A)] at I;refine gA (tz gone (by omega)) ?_;refine ez ?_;rw[<-I]
end Go.Proofs.YtcnefjfboagbmaaGreat.Em
