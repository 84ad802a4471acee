/- The piece of a program once more: segment's. -/
import Derived.Test.YtcnefjfboagbmaaGreatWA
import Derived.Test.YtcnefjfboagbmaaGreatPA
namespace Go.Proofs.YtcnefjfboagbmaaGreat.Sg
open Go.Proofs.Tryz
open Go.RowKit
set_option maxRecDepth 100000
abbrev nH(l:ah)(G:Int)(s:af):List K:=[E l.ar,E l.nodes,E l.buckets,E l.bU,E l.tasks,E l.cells,E l.maps,E l.dl,E l.bo,E l.done,E l.count,E l.era,E l.free,E l.alive,E l.owner,E l.mB,E l.sJ,E l.ring,E l.task,E l.cell,E l.map,E l.stack,E l.chan,E l.node,E l.size,E G,eh s.gone,E s.made,E s.e0,E s.e1,E s.e2,.fn (.func 168) [] [.ptr 12 0,.ptr 13 0]]
abbrev co(l:ah)(G:Int)(log:List aF)(s:af):bJ:=[(11,nH l G s),(12,[.ptr 11 0]),(13,[gT log])]
theorem gJ(l:ah)(U:cr l)(G:Int)(s:af)(n i:Int)(hn:n<9223372036854775808)(hi:i<9223372036854775808):bc prog 171 [.el (Cr l G s),E n,E i] (E (aN l n i)):=by
 refine sP func171 ntmps171 λ w cl=>?_
 refine gA (kD l U n i hn hi) ?_;refine ez ?_
 rfl
theorem i6(l:ah)(G:Int)(s:af)(h:(s.made:Int)<9223372036854775807):bc prog 174 [.el (Cr l G s)] (E ((s.made:Int)-1)):=by
 refine sP func174 ntmps174 λ w cl=>?_
 refine gf ?_
 rfl
abbrev iK(a:aX):Value:=.iface 185 (.agg #[.int .i64 a.kind,.int .i64 a.cell,.int .i64 a.dg,.int .i64 a.new])
def C0{av:Type}(l:ah)(G:Int)(log:List aF)(m:Except aX (av×af))(s:af)(enc:av->K):K->bJ->Prop:=λ d Y=>∃x aa,m=.ok (x,aa)/\s.made<=aa.made/\aa.made<=log.length/\d=enc x/\Y=co l G log aa
def C3{av:Type}(l:ah)(G:Int)(log:List aF)(m:Except aX (av×af)):Value->bJ->Prop:=λ v Y=>∃a aa,m=.error a/\v=iK a/\Y=co l G log aa
abbrev fZ{av:Type}(f:FuncId)(l:ah)(G:Int)(log:List aF)(s:af)(ds:List K)(m:Except aX (av×af))(enc:av->K):Prop:=
 fM prog f [11,12,13] ds (co l G log s) (C0 l G log m s enc) (C3 l G log m)
theorem pW(l:ah)(G:Int)(log:List aF)(s:af)(a:aX)(hm:s.made<=log.length)(U:log.length<=1000000):fZ 168 l G log s [fC a,.ptr 12 0,.ptr 13 0] (fO a log s) yz:=by
 refine sX func168 ntmps168 λ w cl own kf=>?_
 refine go ?_;refine gD [] ?_;refine go ?_;generalize A:decide ((s.made:Int)=(log.length:Int))=cc;cases cc
 ·have aU:=of_decide_eq_false A;have bm:s.made<log.length:=by omega
  have hr:log[s.made]?=some log[s.made]:=List.getElem?_eq_getElem bm;generalize log[s.made]=r at hr;have qd:log[((s.made:Int)+1-1).toNat]?=some r:=by rw[show((s.made:Int)+1-1).toNat=s.made by omega];exact hr
  refine go ?_;refine gW 8 [] ?_;refine ri [pI r.val,pB r.ok] (EL qd) ?_;refine qg ?_;exact fX _ ⟨r,{s with made:=s.made+1},by rw[fO,hr],by simp,by simp;omega,rfl,rfl⟩
 ·have aU:log.length=s.made:=by have:=of_decide_eq_true A;omega
  have hr:log[s.made]?=none:=List.getElem?_eq_none (by omega);refine go ?_;refine bh (ED aD rfl rfl rfl rfl rfl) rfl rfl rfl ?_;refine C7 rfl rfl rfl ?_;refine gP ?_;exact fP _ ⟨a,s,by rw[fO,hr],rfl,rfl⟩
theorem eC(l:ah)(G:Int)(log:List aF)(s:af)(c:Int)(hm:s.made<=log.length)(U:log.length<=1000000):fZ 172 l G log s [.ptr 11 0,E c] (cZ c log s) E:=by
 refine sX func172 ntmps172 λ w cl own kf=>?_
 refine go ?_;refine vX (pW l G log s ⟨1,c,0,0⟩ hm U) ?_ ?_
 ·rintro v Y ⟨a,aa,h,rfl,rfl⟩;refine gP ?_;exact fP _ ⟨a,aa,bj h,rfl,rfl⟩
 rintro d Y ⟨x,aa,h,iE,cD,rfl,rfl⟩;refine go ?_;exact fX _ ⟨x.val,aa,az h,iE,cD,rfl,rfl⟩
theorem iy(l:ah)(G:Int)(log:List aF)(s:af)(c v:Int)(hm:s.made<=log.length)(U:log.length<=1000000):fZ 198 l G log s [.ptr 11 0,E c,E v] (fA c v log s) (λ _=>.bd []):=by
 refine sX func198 ntmps198 λ w cl own kf=>?_
 refine go ?_;refine vX (pW l G log s ⟨2,c,0,v⟩ hm U) ?_ ?_
 ·rintro v Y ⟨a,aa,h,rfl,rfl⟩;refine gP ?_;exact fP _ ⟨a,aa,bj h,rfl,rfl⟩
 rintro d Y ⟨x,aa,h,iE,cD,rfl,rfl⟩;refine go ?_;exact fX _ ⟨(),aa,az h,iE,cD,rfl,rfl⟩
theorem jb(l:ah)(G:Int)(log:List aF)(s:af)(c o v:Int)(hm:s.made<=log.length)(U:log.length<=1000000):fZ 173 l G log s [.ptr 11 0,E c,E o,E v] (fN c o v log s) dB:=by
 refine sX func173 ntmps173 λ w cl own kf=>?_
 refine go ?_;refine vX (pW l G log s ⟨3,c,o,v⟩ hm U) ?_ ?_
 ·rintro v Y ⟨a,aa,h,rfl,rfl⟩;refine gP ?_;exact fP _ ⟨a,aa,bj h,rfl,rfl⟩
 rintro d Y ⟨x,aa,h,iE,cD,rfl,rfl⟩;refine go ?_;exact fX _ ⟨x.ok,aa,az h,iE,cD,rfl,rfl⟩
set_option maxHeartbeats 4000000 in
theorem FA(l:ah)(hL:cr l)(G:Int)(log:List aF)(s:af)(hm:s.made<=log.length)(U:log.length<=1000000):fZ 178 l G log s [.ptr 11 0] (sr l log s) (λ p=>.bd [E p.1,E p.2.1,dB p.2.2]):=by
 generalize I:sr l log s=aQ;refine sX func178 ntmps178 λ w cl own kf=>?_
 refine go ?_;refine cn (λ p:Nat×af=>s.made<=p.2.made/\p.2.made<=log.length/\log.length-p.2.made<p.1/\ou l p.1 log p.2=aQ) (λ p=>⟨[(0,.ptr 11 0)],co l G log p.2,[]⟩) (λ p=>p.1) (log.length+1-s.made,s) ⟨Nat.le_refl _,hm,by simp only;omega,I⟩ (zX) ?_;rintro⟨k,t⟩ ⟨cY,bw,iZ,I⟩;simp only at cY bw iZ I;obtain⟨k,rfl⟩:∃j,k=j+1:=⟨k-1,by omega⟩;refine(show aP _ _ _ _ ⟨[(0,.ptr 11 0)],co l G log t,[]⟩ from ?_);rw[ou] at I;refine go ?_;refine xP (eC l G log t l.free bw U) ?_;rintro d Y ⟨fr,s1,bO,fT,dc,rfl,rfl⟩;rw[az bO] at I;have fe:=iH bO;have cj:=kU fr;have du:=tr fr;refine gA (kV fr) ?_;generalize A:decide ((ae fr).idx=0)=cc;cases cc
 ·have aU:=of_decide_eq_false A;rw[if_neg aU] at I;refine go ?_;refine lA (gJ l hL G s1 (ae fr).idx 7 (by omega) (by omega)) ?_;refine go ?_;refine xP (eC l G log s1 (aN l (ae fr).idx 7) dc U) ?_;rintro d Y ⟨lk,s2,bg,fj,cN,rfl,rfl⟩;rw[az bg] at I;have fD:=iH bg;refine go ?_;refine dW 11 [] ?_;refine gQ (qp (ae fr) lk du.1 du.2) ?_;refine cQ (my (ca (ae fr) lk)) ?_;refine br ?_;refine xP (jb l G log s2 l.free fr (bK (ca (ae fr) lk)) cN U) ?_;rintro d Y ⟨iv,s3,bV,fv,cS,rfl,rfl⟩;rw[az bV] at I;have gx:=lO bV;refine go ?_;cases iv
  ·rw[if_neg (by decide)] at I;refine go ?_;exact⟨(k,s3),⟨by simp only;omega,cS,by simp only;omega,I⟩,by simp only;omega,zX⟩
  ·rw[if_pos rfl,az eu] at I;refine go ?_;refine lA (i6 l G s3 (by omega)) ?_;refine go ?_;refine xP (eC l G log s3 l.era cS U) ?_;rintro d Y ⟨bi,s4,cX,jf,eQ,rfl,rfl⟩;rw[az cX] at I;refine go ?_;refine lA (gJ l hL G s4 (ae fr).idx 6 (by omega) (by omega)) ?_;refine go ?_;refine xP (iy l G log s4 (aN l (ae fr).idx 6) bi eQ U) ?_;rintro d Y ⟨u,s5,dD,li,eW,rfl,rfl⟩;rw[az dD] at I;refine go ?_;exact fX _ ⟨_,s5,I.symm,by omega,eW,rfl,rfl⟩
 ·rw[if_pos (of_decide_eq_true A),az eu] at I;refine go ?_;refine lA (i6 l G s1 (by omega)) ?_;refine go ?_;exact fX _ ⟨_,s1,I.symm,by omega,dc,rfl,rfl⟩
set_option maxHeartbeats 4000000 in
theorem w9(l:ah)(hL:cr l)(G:Int)(log:List aF)(s:af)(n:Int)(hn:n<9223372036854775808)(hm:s.made<=log.length)(U:log.length<=1000000):fZ 175 l G log s [.ptr 11 0,E n] (oI l n log s) (λ _=>.bd []):=by
 generalize I:oI l n log s=aQ;refine sX func175 ntmps175 λ w cl own kf=>?_
 refine go ?_;refine cn (λ p:Nat×af=>s.made<=p.2.made/\p.2.made<=log.length/\log.length-p.2.made<p.1/\mH l n p.1 log p.2=aQ) (λ p=>⟨[(0,.ptr 11 0),(1,E n)],co l G log p.2,[]⟩) (λ p=>p.1) (log.length+1-s.made,s) ⟨Nat.le_refl _,hm,by simp only;omega,I⟩ (zX) ?_;rintro⟨k,t⟩ ⟨cY,bw,iZ,I⟩;simp only at cY bw iZ I;obtain⟨k,rfl⟩:∃j,k=j+1:=⟨k-1,by omega⟩;refine(show aP _ _ _ _ ⟨[(0,.ptr 11 0),(1,E n)],co l G log t,[]⟩ from ?_);rw[mH] at I;refine go ?_;refine xP (eC l G log t l.free bw U) ?_;rintro d Y ⟨fr,s1,bO,fT,dc,rfl,rfl⟩;rw[az bO] at I;have fe:=iH bO;have du:=tr fr;refine gA (kV fr) ?_;refine gW 6 [] ?_;refine lQ (gJ l hL G s1 n 7 hn (by omega)) ?_;refine br ?_;refine xP (iy l G log s1 (aN l n 7) (ae fr).idx dc U) ?_;rintro d Y ⟨u,s2,bg,fj,cN,rfl,rfl⟩;rw[az bg] at I;have fD:=so bg;refine go ?_;refine dW 11 [] ?_;refine gQ (qp (ae fr) n du.1 du.2) ?_;refine cQ (my (ca (ae fr) n)) ?_;refine br ?_;refine xP (jb l G log s2 l.free fr (bK (ca (ae fr) n)) cN U) ?_;rintro d Y ⟨iv,s3,bV,fv,cS,rfl,rfl⟩;rw[az bV] at I;have gx:=lO bV;refine go ?_;cases iv
 ·rw[if_neg (by decide)] at I;refine go ?_;exact⟨(k,s3),⟨by simp only;omega,cS,by simp only;omega,I⟩,by simp only;omega,zX⟩
 ·rw[if_pos rfl] at I;refine go ?_;exact fX _ ⟨_,s3,I.symm,by omega,cS,rfl,rfl⟩
set_option maxHeartbeats 4000000 in
theorem Bl(l:ah)(hL:cr l)(G:Int)(log:List aF)(s:af)(cell:Int)(hm:s.made<=log.length)(U:log.length<=1000000):fZ 170 l G log s [.ptr 11 0,E 0,E cell] (mg l G 0 cell log s) (λ p=>.bd [E p.1,E p.2]):=by
 generalize I:mg l G 0 cell log s=aQ;refine sX func170 ntmps170 λ w cl own kf=>?_
 refine go ?_;refine cn (λ p:Nat×af=>s.made<=p.2.made/\p.2.made<=log.length/\log.length-p.2.made<p.1/\lC l G 0 cell p.1 log p.2=aQ) (λ p=>⟨[(0,.ptr 11 0),(1,E 0),(2,E cell)],co l G log p.2,[]⟩) (λ p=>p.1) (log.length+1-s.made,s) ⟨Nat.le_refl _,hm,by simp only;omega,I⟩ (zX) ?_;rintro⟨k,t⟩ ⟨cY,bw,iZ,I⟩;simp only at cY bw iZ I;obtain⟨k,rfl⟩:∃j,k=j+1:=⟨k-1,by omega⟩;refine(show aP _ _ _ _ ⟨[(0,.ptr 11 0),(1,E 0),(2,E cell)],co l G log t,[]⟩ from ?_);rw[lC] at I;refine go ?_;refine xP (eC l G log t cell bw U) ?_;rintro d Y ⟨v,s1,bO,fT,dc,rfl,rfl⟩;rw[az bO,az eu] at I;have fe:=iH bO;refine go ?_;refine lA (i6 l G s1 (by omega)) ?_;refine go ?_;refine xP (eC l G log s1 l.era dc U) ?_;rintro d Y ⟨er,s2,bg,fj,cN,rfl,rfl⟩;rw[az bg] at I;have fD:=iH bg;refine go ?_;refine bh (gY aD rfl rfl rfl rfl rfl (by omega) (by omega)) rfl rfl rfl ?_;refine go ?_;generalize A:decide (er=s2.e0)=cc;cases cc
 ·rw[if_neg (show¬er=s2.e 0 from of_decide_eq_false A)] at I;refine go ?_;refine dW 12 [] ?_;refine gQ (lq l hL G 0 (by omega)) ?_;refine xP (iy l G log s2 (cE l G 0) er cN U) ?_;rintro d Y ⟨u,s3,bV,fv,cS,rfl,rfl⟩;rw[az bV] at I;have gx:=so bV;refine go ?_;refine bh (gY aD rfl rfl rfl rfl rfl (by omega) (by omega)) rfl rfl rfl ?_;refine go ?_;exact⟨(k,{s3 with e0:=er}),⟨by simp only;omega,by simp only;omega,by simp only;omega,I⟩,by simp only;omega,zX⟩
 ·rw[if_pos (show er=s2.e 0 from of_decide_eq_true A)] at I;refine go ?_;exact fX _ ⟨_,s2,I.symm,by omega,cN,rfl,rfl⟩
set_option maxHeartbeats 4000000 in
theorem kh(l:ah)(hL:cr l)(G:Int)(log:List aF)(s:af)(hm:s.made<=log.length)(U:log.length<=1000000):fZ 176 l G log s [.ptr 11 0] (gB l G log s) (λ _=>.bd []):=by
 generalize I:gB l G log s=aQ;unfold gB at I;refine sX func176 ntmps176 λ w cl own kf=>?_
 refine go ?_;refine cn (λ p:Nat×af=>p.1<=3/\s.made<=p.2.made/\p.2.made<=log.length/\gS l G p.1 ([s.e0,s.e1,s.e2].drop p.1) log p.2=aQ) (λ p=>⟨[(8,E p.1),(7,.agg [E s.e0,E s.e1,E s.e2]),(0,.ptr 11 0)],co l G log p.2,[]⟩) (λ p=>3-p.1) (0,s) ⟨by simp only;omega,Nat.le_refl _,hm,I⟩ (zX) ?_;rintro⟨i,t⟩ ⟨hi,cY,bw,I⟩;simp only at hi cY bw I;rcases(show i=0\/i=1\/i=2\/i=3 by omega) with rfl|rfl|rfl|rfl
 ·refine(show aP _ _ _ _ ⟨[(8,E 0),(7,.agg [E s.e0,E s.e1,E s.e2]),(0,.ptr 11 0)],co l G log t,[]⟩ from ?_);have I:(dw l G 0 s.e0).bind (λ _=>gS l G 1 ([s.e0,s.e1,s.e2].drop 1)) log t=aQ:=I;refine go ?_;refine dk (λ A=>?_) (λ A=>?_)<;>try rw[A]
  ·refine go ?_;refine bh (vT aD (E s.e0) rfl rfl rfl rfl rfl rfl (by omega) (by omega) rfl) rfl rfl rfl ?_;refine go ?_;generalize F:decide (s.e0=0)=cc;cases cc
   ·rw[dw,if_neg (of_decide_eq_false F)] at I;refine go ?_;refine dW 11 [] ?_;refine gQ (lq l hL G 0 (by omega)) ?_;refine xX (iy l G log t (cE l G 0) 0 bw U) ?_ ?_
    ·rintro v Y ⟨a,aa,h,rfl,rfl⟩;refine gP ?_;exact fP _ ⟨a,aa,by rw[<-I];exact bj (bj h),rfl,rfl⟩
    rintro d Y ⟨u,s1,bO,fT,dc,rfl,rfl⟩;have mJ:gS l G 1 ([s.e0,s.e1,s.e2].drop 1) log {s1 with e0:=0}=aQ:=by rw[<-I];exact(az (f:=λ _=>gS l G 1 ([s.e0,s.e1,s.e2].drop 1)) (az (f:=λ _=>pM 0) bO)).symm
    refine go ?_;refine bh (gY aD rfl rfl rfl rfl rfl (by omega) (by omega)) rfl rfl rfl ?_;refine go ?_;exact⟨(1,{s1 with e0:=0}),⟨by simp only;omega,by simp only;omega,by simp only;omega,mJ⟩,by simp only;omega,zX⟩
   ·rw[dw,if_pos (of_decide_eq_true F)] at I;refine go ?_;exact⟨(1,t),⟨by simp only;omega,cY,bw,I⟩,by simp only;omega,zX⟩
  ·exact absurd A (by decide)
 ·refine(show aP _ _ _ _ ⟨[(8,E 1),(7,.agg [E s.e0,E s.e1,E s.e2]),(0,.ptr 11 0)],co l G log t,[]⟩ from ?_);have I:(dw l G 1 s.e1).bind (λ _=>gS l G 2 ([s.e0,s.e1,s.e2].drop 2)) log t=aQ:=I;refine go ?_;refine dk (λ A=>?_) (λ A=>?_)<;>try rw[A]
  ·refine go ?_;refine bh (vT aD (E s.e1) rfl rfl rfl rfl rfl rfl (by omega) (by omega) rfl) rfl rfl rfl ?_;refine go ?_;generalize F:decide (s.e1=0)=cc;cases cc
   ·rw[dw,if_neg (of_decide_eq_false F)] at I;refine go ?_;refine dW 11 [] ?_;refine gQ (lq l hL G 1 (by omega)) ?_;refine xX (iy l G log t (cE l G 1) 0 bw U) ?_ ?_
    ·rintro v Y ⟨a,aa,h,rfl,rfl⟩;refine gP ?_;exact fP _ ⟨a,aa,by rw[<-I];exact bj (bj h),rfl,rfl⟩
    rintro d Y ⟨u,s1,bO,fT,dc,rfl,rfl⟩;have mJ:gS l G 2 ([s.e0,s.e1,s.e2].drop 2) log {s1 with e1:=0}=aQ:=by rw[<-I];exact(az (f:=λ _=>gS l G 2 ([s.e0,s.e1,s.e2].drop 2)) (az (f:=λ _=>pM 1) bO)).symm
    refine go ?_;refine bh (gY aD rfl rfl rfl rfl rfl (by omega) (by omega)) rfl rfl rfl ?_;refine go ?_;exact⟨(2,{s1 with e1:=0}),⟨by simp only;omega,by simp only;omega,by simp only;omega,mJ⟩,by simp only;omega,zX⟩
   ·rw[dw,if_pos (of_decide_eq_true F)] at I;refine go ?_;exact⟨(2,t),⟨by simp only;omega,cY,bw,I⟩,by simp only;omega,zX⟩
  ·exact absurd A (by decide)
 ·refine(show aP _ _ _ _ ⟨[(8,E 2),(7,.agg [E s.e0,E s.e1,E s.e2]),(0,.ptr 11 0)],co l G log t,[]⟩ from ?_);have I:(dw l G 2 s.e2).bind (λ _=>gS l G 3 ([s.e0,s.e1,s.e2].drop 3)) log t=aQ:=I;refine go ?_;refine dk (λ A=>?_) (λ A=>?_)<;>try rw[A]
  ·refine go ?_;refine bh (vT aD (E s.e2) rfl rfl rfl rfl rfl rfl (by omega) (by omega) rfl) rfl rfl rfl ?_;refine go ?_;generalize F:decide (s.e2=0)=cc;cases cc
   ·rw[dw,if_neg (of_decide_eq_false F)] at I;refine go ?_;refine dW 11 [] ?_;refine gQ (lq l hL G 2 (by omega)) ?_;refine xX (iy l G log t (cE l G 2) 0 bw U) ?_ ?_
    ·rintro v Y ⟨a,aa,h,rfl,rfl⟩;refine gP ?_;exact fP _ ⟨a,aa,by rw[<-I];exact bj (bj h),rfl,rfl⟩
    rintro d Y ⟨u,s1,bO,fT,dc,rfl,rfl⟩;have mJ:gS l G 3 ([s.e0,s.e1,s.e2].drop 3) log {s1 with e2:=0}=aQ:=by rw[<-I];exact(az (f:=λ _=>gS l G 3 ([s.e0,s.e1,s.e2].drop 3)) (az (f:=λ _=>pM 2) bO)).symm
    refine go ?_;refine bh (gY aD rfl rfl rfl rfl rfl (by omega) (by omega)) rfl rfl rfl ?_;refine go ?_;exact⟨(3,{s1 with e2:=0}),⟨by simp only;omega,by simp only;omega,by simp only;omega,mJ⟩,by simp only;omega,zX⟩
   ·rw[dw,if_pos (of_decide_eq_true F)] at I;refine go ?_;exact⟨(3,t),⟨by simp only;omega,cY,bw,I⟩,by simp only;omega,zX⟩
  ·exact absurd A (by decide)
 ·refine(show aP _ _ _ _ ⟨[(8,E 3),(7,.agg [E s.e0,E s.e1,E s.e2]),(0,.ptr 11 0)],co l G log t,[]⟩ from ?_);refine go ?_;refine dk (λ A=>?_) (λ A=>?_)<;>try rw[A]
  ·exact absurd A (by decide)
  ·refine go ?_;exact fX _ ⟨(),t,I.symm,cY,bw,rfl,rfl⟩
theorem Dl(r f g0 g1:Int):bc prog 199 [E r,.el [pI f],.el [pI g0,pI g1]] (dB (fE f g1 r)):=by
 refine sP func199 ntmps199 λ w cl=>?_
 refine go ?_;generalize A:decide (f<=r)=cc;cases cc
 ·refine gf ?_;rw[fE,A];rfl
 ·refine go ?_;refine bh (Ls aD rfl rfl rfl rfl rfl (by omega) (by omega) rfl) rfl rfl rfl ?_;refine gf ?_;rw[fE,A];rfl
abbrev sF(f g0 g1:Int):K:=.fn (.func 199) [] [.el [pI f],.el [pI g0,pI g1]]
set_option maxHeartbeats 4000000 in
theorem EC(aw:List Int)(hh:aw.length<=1000000)(f g0 g1:Int):bc prog 217 [bX aw,sF f g0 g1] (E (mG (fE f g1) aw 0)):=by
 generalize I:mG (fE f g1) aw 0=aQ;refine sP func217 ntmps217 λ w cl=>?_
 refine go ?_;refine cn (λ i:Nat=>i<=aw.length/\mG (fE f g1) (aw.drop i) i=aQ) (λ i=>⟨[(8,E i),(7,E aw.length),(6,bX aw),(0,bX aw),(1,sF f g0 g1)],[],[]⟩) (λ i=>aw.length-i) 0 ⟨Nat.zero_le _,I⟩ (zX) ?_;rintro i ⟨hi,I⟩;refine go ?_;refine dk (λ A=>?_) (λ A=>?_)<;>try rw[A]
 ·have aU:=of_decide_eq_true A;have dT:i<aw.length:=by omega
  obtain⟨x,T⟩:=nh (l:=aw) (i:=i) (by omega) aU;have D:aw.drop i=x::aw.drop (i+1):=by rw[List.drop_eq_getElem_cons dT];simp only[Int.toNat_natCast] at T;rw[(List.getElem?_eq_some_iff.1 T).2]
  rw[D,mG] at I;refine go ?_;refine ai [pI x] (jE T) ?_;refine go ?_;refine bh (wP (Dl x f g0 g1) rfl (λ a w=>call199 a w) rfl rfl) rfl rfl rfl ?_;refine go ?_;generalize F:fE f g1 x=cc;cases cc
  ·rw[F,if_neg (by decide)] at I;refine go ?_;exact⟨i+1,⟨by omega,I⟩,by omega,zX⟩
  ·rw[F,if_pos rfl] at I;refine gf ?_;rw[I]
 ·have dT:aw.length<=i:=by have:=of_decide_eq_false A;omega
  rw[List.drop_of_length_le dT,mG] at I;refine gf ?_;rw[<-I]
theorem Dm(aw:List Int)(hh:aw.length<=1000000)(f g0 g1:Int):bc prog 196 [bX aw,sF f g0 g1] (dB (aw.any (fE f g1))):=by
 refine sP func196 ntmps196 λ w cl=>?_
 refine gA (EC aw hh f g0 g1) ?_;refine ez ?_;rw[<-Gs _ aw 0]
set_option maxHeartbeats 8000000 in
theorem Ay(l:ah)(hL:cr l)(G:Int)(log:List aF)(s:af)(n:Int)(hn:n<9223372036854775808)(fp:eN s.gone)(gU:s.gone.length<=10000)(hm:s.made<=log.length)(U:log.length<=1000000):fZ 181 l G log s [.ptr 11 0,E n] (lr l n log s) (λ _=>.bd []):=by
 have zi:=hL.ar;unfold mb at zi;generalize I:lr l n log s=aQ;unfold lr at I;refine sX func181 ntmps181 λ w cl own kf=>?_
 refine go ?_;refine xP (eC l G log s l.era hm U) ?_;rintro d Y ⟨er,s1,bO,fT,dc,rfl,rfl⟩;rw[az bO] at I;have fe:=fK bO;refine go ?_;refine gW 10 [] ?_;refine vP (pW l G log s1 ⟨4,l.era,0,1⟩ dc U) ?_;rintro d Y ⟨dr,s2,bg,fj,cN,rfl,rfl⟩;rw[az bg] at I;have d4:s2.gone=s.gone:=by rw[(vc bg).1,fe.1]
 rw[d4] at I;have un:s.made<=s2.made:=by omega
 clear bO bg fe fT fj dc;refine go ?_;refine Jb 0 (pT s2.gone (by rw[d4];omega)) rfl (λ a w=>call71 a w) rfl rfl rfl rfl rfl (H4 _) ?_;refine go ?_;refine oE aD rfl rfl rfl rfl rfl rfl rfl rfl rfl rfl rfl rfl rfl (by rw[d4];unfold maxLen;omega) (by show(_+_)*16<=_;rw[d4];omega) ?_;refine im ?_;refine nI ?_;refine ey (q6 11 (aS:=nH l G {s2 with gone:=s.gone++[(n,er)]}) rfl (by
  show List.map l7 _=_;have e:v9 (s.gone++[(n,er)])=.sl false (s.gone.length+1) (g6 s.gone++[pI n,pI er]):=by rw[v9,Cm,List.length_append];rfl
  simp only[List.map,l7,zZ,d4,nH,eh];rw[e])) ?_
 generalize xm:s.gone++[(n,er)]=gN at I;have Qr:gN.length=s.gone.length+1:=by rw[<-xm];simp
 have D4:eN gN:=by
  intro p hp;rw[<-xm] at hp;rcases List.mem_append.1 hp with hp|hp
  ·exact fp p hp
  ·simp at hp;rw[hp];exact hn
 have ew:IntKind.i64.wrap (2*l.ar)=2*l.ar:=eU (by omega) (by omega);refine ey (cb:=⟨[(0,.ptr 11 0)],co l G log {s2 with gone:=gN},[]⟩) (zX) ?_;generalize gx:({s2 with gone:=gN}:af)=s3 at I⊢;have cS:s3.made<=log.length:=by rw[<-gx];exact cN
 have fv:s.made<=s3.made:=by rw[<-gx];exact un
 have iD:s3.gone=gN:=by rw[<-gx]
 refine go ?_;refine gD [] ?_;rw[ew];refine qg ?_;rw[iD];generalize A:decide ((gN.length:Int)<2*l.ar)=cc;cases cc
 ·have aU:=of_decide_eq_false A;rw[if_neg (by omega),tB] at I;refine go ?_;refine ey (lu 5 0 3 1 rfl rfl rfl) ?_;refine cn (λ p:Nat×List Int×Nat×af=>p.1+p.2.2.1=l.ar.toNat/\p.2.1.length=3*p.1/\s.made<=p.2.2.2.made/\p.2.2.2.made<=log.length/\p.2.2.2.gone=gN/\(kz p.2.1 (j4 l p.1 p.2.2.1)).bind (λ aw=>(fx l aw gN []).bind λ aL=>jq aL) log p.2.2.2=aQ) (λ p=>⟨[(62,E p.1),(61,E l.ar),(5,.aW 0 p.2.1.length (cy p.2.1)),(0,.ptr 11 0)],co l G log p.2.2.2,[(0,⟨3,1,p.2.1.length⟩)]⟩) (λ p=>p.2.2.1) (0,[],l.ar.toNat,s3) ⟨by simp,rfl,fv,cS,iD,I⟩ (zX) ?_;rintro⟨j,acc,m,t⟩ ⟨hj,ni,cY,bw,ff,I⟩;simp only at hj ni cY bw ff I;refine(show aP _ _ _ _ ⟨[(62,E j),(61,E l.ar),(5,.aW 0 acc.length (cy acc)),(0,.ptr 11 0)],co l G log t,[(0,⟨3,1,acc.length⟩)]⟩ from ?_);refine go ?_;refine dk (λ F=>?_) (λ F=>?_)<;>try rw[F]
  ·have bB:=of_decide_eq_true F;obtain⟨m,rfl⟩:∃k,m=k+1:=⟨m-1,by omega⟩;rw[j4] at I;refine go ?_;refine cn (λ q:Nat×List Int×af=>q.1<=3/\q.2.1.length=3*j+q.1/\s.made<=q.2.2.made/\q.2.2.made<=log.length/\q.2.2.gone=gN/\(kz q.2.1 (([cE l j 0,cE l j 1,cE l j 2].drop q.1)++j4 l (j+1) m)).bind (λ aw=>(fx l aw gN []).bind λ aL=>jq aL) log q.2.2=aQ) (λ q=>⟨[(65,E q.1),(62,E j),(61,E l.ar),(6,E j),(5,.aW 0 q.2.1.length (cy q.2.1)),(0,.ptr 11 0)],co l G log q.2.2,[(0,⟨3,1,q.2.1.length⟩)]⟩) (λ q=>3-q.1) (0,acc,t) ⟨by simp only;omega,by simp only;omega,cY,bw,ff,I⟩ (zX) ?_;rintro⟨i,ac,t⟩ ⟨hi,DQ,cY,bw,ff,I⟩;simp only at hi DQ cY bw ff I;rcases(show i=0\/i=1\/i=2\/i=3 by omega) with rfl|rfl|rfl|rfl
   ·refine(show aP _ _ _ _ ⟨[(65,E 0),(62,E j),(61,E l.ar),(6,E j),(5,.aW 0 ac.length (cy ac)),(0,.ptr 11 0)],co l G log t,[(0,⟨3,1,ac.length⟩)]⟩ from ?_);have I:((cZ (cE l j 0)).bind λ v=>kz (ac++[v]) (([cE l j 0,cE l j 1,cE l j 2].drop 1)++j4 l (j+1) m)).bind (λ aw=>(fx l aw gN []).bind λ aL=>jq aL) log t=aQ:=I;rw[bind_assoc] at I;refine go ?_;refine dk (λ O=>?_) (λ O=>?_)<;>try rw[O]
    ·refine gA (lq l hL j 0 (by omega)) ?_;refine xP (eC l G log t (cE l j 0) bw U) ?_;rintro d Y ⟨v,s4,cX,jf,eQ,rfl,rfl⟩;rw[az cX] at I;have jz:s4.gone=gN:=by rw[(fK cX).1];exact ff
     refine go ?_;refine pA rfl ?_;rw[oW,show ac.length+1=(ac++[v]).length by simp];refine go ?_;exact⟨(1,ac++[v],s4),⟨by simp only;omega,by simp only[List.length_append,List.length_cons,List.length_nil];omega,by simp only;omega,eQ,jz,I⟩,by simp only;omega,zX⟩
    ·exact absurd O (by decide)
   ·refine(show aP _ _ _ _ ⟨[(65,E 1),(62,E j),(61,E l.ar),(6,E j),(5,.aW 0 ac.length (cy ac)),(0,.ptr 11 0)],co l G log t,[(0,⟨3,1,ac.length⟩)]⟩ from ?_);have I:((cZ (cE l j 1)).bind λ v=>kz (ac++[v]) (([cE l j 0,cE l j 1,cE l j 2].drop 2)++j4 l (j+1) m)).bind (λ aw=>(fx l aw gN []).bind λ aL=>jq aL) log t=aQ:=I;rw[bind_assoc] at I;refine go ?_;refine dk (λ O=>?_) (λ O=>?_)<;>try rw[O]
    ·refine gA (lq l hL j 1 (by omega)) ?_;refine xP (eC l G log t (cE l j 1) bw U) ?_;rintro d Y ⟨v,s4,cX,jf,eQ,rfl,rfl⟩;rw[az cX] at I;have jz:s4.gone=gN:=by rw[(fK cX).1];exact ff
     refine go ?_;refine pA rfl ?_;rw[oW,show ac.length+1=(ac++[v]).length by simp];refine go ?_;exact⟨(2,ac++[v],s4),⟨by simp only;omega,by simp only[List.length_append,List.length_cons,List.length_nil];omega,by simp only;omega,eQ,jz,I⟩,by simp only;omega,zX⟩
    ·exact absurd O (by decide)
   ·refine(show aP _ _ _ _ ⟨[(65,E 2),(62,E j),(61,E l.ar),(6,E j),(5,.aW 0 ac.length (cy ac)),(0,.ptr 11 0)],co l G log t,[(0,⟨3,1,ac.length⟩)]⟩ from ?_);have I:((cZ (cE l j 2)).bind λ v=>kz (ac++[v]) (([cE l j 0,cE l j 1,cE l j 2].drop 3)++j4 l (j+1) m)).bind (λ aw=>(fx l aw gN []).bind λ aL=>jq aL) log t=aQ:=I;rw[bind_assoc] at I;refine go ?_;refine dk (λ O=>?_) (λ O=>?_)<;>try rw[O]
    ·refine gA (lq l hL j 2 (by omega)) ?_;refine xP (eC l G log t (cE l j 2) bw U) ?_;rintro d Y ⟨v,s4,cX,jf,eQ,rfl,rfl⟩;rw[az cX] at I;have jz:s4.gone=gN:=by rw[(fK cX).1];exact ff
     refine go ?_;refine pA rfl ?_;rw[oW,show ac.length+1=(ac++[v]).length by simp];refine go ?_;exact⟨(3,ac++[v],s4),⟨by simp only;omega,by simp only[List.length_append,List.length_cons,List.length_nil];omega,by simp only;omega,eQ,jz,I⟩,by simp only;omega,zX⟩
    ·exact absurd O (by decide)
   ·refine(show aP _ _ _ _ ⟨[(65,E 3),(62,E j),(61,E l.ar),(6,E j),(5,.aW 0 ac.length (cy ac)),(0,.ptr 11 0)],co l G log t,[(0,⟨3,1,ac.length⟩)]⟩ from ?_);refine go ?_;refine dk (λ O=>?_) (λ O=>?_)<;>try rw[O]
    ·exact absurd O (by decide)
    ·refine go ?_;exact⟨(j+1,ac,m,t),⟨by simp only;omega,by simp only;omega,cY,bw,ff,I⟩,by simp only;omega,zX⟩
  ·have bB:=of_decide_eq_false F;obtain rfl:m=0:=by omega
   have I:((fx l acc gN []).bind λ aL=>jq aL) log t=aQ:=I;subst ff;refine ey (B3 5 (d9:=bX acc) rfl rfl) ?_;refine go ?_;refine ey (lu 8 1 110 2 rfl rfl rfl) ?_;refine cn (λ q:Nat×List (Int×Int)×af=>q.1<=t.gone.length/\q.2.1.length<=q.1/\s.made<=q.2.2.made/\q.2.2.made<=log.length/\((fx l acc (t.gone.drop q.1) q.2.1).bind λ aL=>jq aL) log q.2.2=aQ) (λ q=>⟨[(87,E q.1),(86,E t.gone.length),(85,eh t.gone),(8,.aW 1 q.2.1.length (g6 q.2.1)),(5,bX acc),(0,.ptr 11 0)],co l G log q.2.2,[(1,⟨110,2,q.2.1.length⟩)]⟩) (λ q=>t.gone.length-q.1) (0,[],t) ⟨Nat.zero_le _,Nat.le_refl _,cY,bw,I⟩ (zX) ?_;rintro⟨i,aL,u⟩ ⟨hi,jD,ut,mo,I⟩;simp only at hi jD ut mo I;refine(show aP _ _ _ _ ⟨[(87,E i),(86,E t.gone.length),(85,eh t.gone),(8,.aW 1 aL.length (g6 aL)),(5,bX acc),(0,.ptr 11 0)],co l G log u,[(1,⟨110,2,aL.length⟩)]⟩ from ?_);refine go ?_;refine dk (λ O=>?_) (λ O=>?_)<;>try rw[O]
   ·have dt:=of_decide_eq_true O;have dT:i<t.gone.length:=by omega
    obtain⟨gg,oL⟩:=nh (l:=t.gone) (i:=i) (by omega) dt;have xn:=D4 gg (List.mem_of_getElem? oL);have D:t.gone.drop i=gg::t.gone.drop (i+1):=by rw[List.drop_eq_getElem_cons dT];simp only[Int.toNat_natCast] at oL;rw[(List.getElem?_eq_some_iff.1 oL).2]
    rw[D,fx,bind_assoc] at I;refine go ?_;refine ai [pI gg.1,pI gg.2] (Dy oL) ?_;refine go ?_;refine bh (gY aD rfl rfl rfl rfl rfl (by omega) (by omega)) rfl rfl rfl ?_;refine go ?_;refine lA (gJ l hL G u gg.1 6 xn (by omega)) ?_;refine go ?_;refine xP (eC l G log u (aN l gg.1 6) mo U) ?_;rintro d Y ⟨bi,s5,dD,li,eW,rfl,rfl⟩;rw[az dD] at I;refine go ?_;refine bh (HR rfl rfl rfl) rfl rfl rfl ?_;refine(show bq _ _ _ _ _ ⟨(97,E (kT bi))::_,_,_⟩ from ?_);refine go ?_;refine lA (Dm acc (by omega) (kT bi) gg.1 gg.2) ?_;refine go ?_;generalize h4:acc.any (fE (kT bi) gg.2)=cc;cases cc
    ·rw[h4,if_neg (by decide),bind_assoc] at I;refine go ?_;refine bh (gY aD rfl rfl rfl rfl rfl (by omega) (by omega)) rfl rfl rfl ?_;refine go ?_;refine xP (w9 l hL G log s5 gg.1 xn eW U) ?_;rintro d Y ⟨uu,s6,kw,vC,nt,rfl,rfl⟩;rw[az kw] at I;refine go ?_;exact⟨(i+1,aL,s6),⟨by simp only;omega,by simp only;omega,by simp only;omega,nt,I⟩,by simp only;omega,zX⟩
    ·rw[h4,if_pos rfl] at I;refine go ?_;refine pA rfl ?_;rw[<-Cm aL gg,show aL.length+1=(aL++[gg]).length by simp];refine go ?_;exact⟨(i+1,aL++[gg],s5),⟨by simp only;omega,by simp only[List.length_append,List.length_cons,List.length_nil];omega,by simp only;omega,eW,I⟩,by simp only;omega,zX⟩
   ·have dt:=of_decide_eq_false O;rw[List.drop_of_length_le (by omega),fx] at I;have I:(Except.ok ((),{u with gone:=aL}):Except aX (Unit×af))=aQ:=I;refine ey (B3 8 (d9:=eh aL) rfl rfl) ?_;refine go ?_;exact fX _ ⟨(),{u with gone:=aL},I.symm,ut,mo,rfl,rfl⟩
 ·have aU:=of_decide_eq_true A;rw[if_pos (by omega)] at I;refine go ?_;exact fX _ ⟨(),s3,I.symm,fv,cS,rfl,rfl⟩
theorem tz(g:List (Int×Int))(hg:g.length<=100000):bc prog 131 [eh g] (.bd [fC eZ,kj ⟨0,false,1,-1,g⟩,dB true]):=by
 refine sP func131 ntmps131 λ w cl=>?_
 refine gA ((pT g hg).pure) ?_;refine ez ?_
 rfl
theorem Db(l:ah)(G:Int)(g:List (Int×Int))(log:List aF):eI prog 132 [] [dP l,E G,eh g,gT log] [] (λ d Y=>d=.ptr 11 0/\Y=co l G log ⟨0,g,0,0,0⟩):=by
 refine sI func132 ntmps132 λ w cl own kf=>?_
 refine gE ?_;refine bA 0 ?_;refine bA 13 ?_;refine nP aD rfl rfl rfl rfl ?_;refine kM ?_;refine gE ?_;refine nP aD rfl rfl rfl rfl ?_;refine nP aD rfl rfl rfl rfl ?_;refine nP aD rfl rfl rfl rfl ?_;refine bh (A4 aD rfl rfl rfl) rfl rfl rfl ?_;refine bA 11 ?_;refine nA 12 ?_;refine go ?_;refine iB (co l G log ⟨0,g,0,0,0⟩) rfl rfl (by(repeat(first|exact trivial|refine⟨⟨rfl,rfl⟩,?_⟩))) trivial ?_;exact⟨rfl,rfl⟩
theorem Ar{e:aC}{vs:List Value}(a:aX)(o:aY)(dn:Bool)(hI:fY (jo a (oU o) dn) e)(hv:DReps e vs [.ptr 22 0,.ptr 21 0,.ptr 23 0,.ptr 24 0]):
 CallsD prog 182 vs.toArray .returning e.w λ r u2 aM=>∃ab aq,r=.returned (.tuple #[])/\u2=.returning/\ab.w=aM/\fY aq ab/\Left [21,22,23,24] e ab/\aq=jo a (oU o) dn:=by
 refine xQ (ap:=tb) func182 rfl ntmps182 rfl rfl rfl (by(repeat(first|exact trivial|refine⟨rfl,?_⟩))) (λ _ _=>rfl) (λ _=>rfl) rfl rfl .no (λ w cl own kf=>?_) hI hv;refine go ?_;refine bh (Hw underlying20 rfl rfl) rfl rfl rfl ?_;refine go ?_;refine km (jo a (oU o) dn) rfl rfl (by(repeat(first|exact trivial|refine⟨⟨rfl,rfl⟩,?_⟩))) (by(repeat(first|exact trivial|refine⟨rfl,?_⟩))) rfl
theorem As{e:aC}{vs:List Value}(a bs:aX)(od:List K)(ho:od=[E 0,dB false,E 0,E 0,.p (.sl true 0 [])])(dn:Bool)(hI:fY (jo a od dn) e)(hv:DReps e vs [.ptr 22 0,.ptr 21 0,.ptr 23 0,.ptr 24 0]):
 CallsD prog 182 vs.toArray (.panicking [pe (iK bs)]) e.w λ r u2 aM=>∃ab aq,r=.returned (.tuple #[])/\u2=.panicking [{v:=iK bs,recovered:=true}]/\ab.w=aM/\fY aq ab/\Left [21,22,23,24] e ab/\aq=jo bs od dn:=by
 subst ho;refine xQ (ap:=tb) func182 rfl ntmps182 rfl rfl rfl (by(repeat(first|exact trivial|refine⟨rfl,?_⟩))) (λ _ _=>rfl) (λ _=>rfl) rfl rfl (.yes (iK bs)) (λ w cl own kf=>?_) hI hv;refine go ?_;refine bh (Hx underlying20 rfl rfl) rfl rfl rfl ?_;refine go ?_;refine bh (FQ aD rfl rfl rfl rfl) rfl rfl rfl ?_;refine go ?_;refine km (jo bs _ dn) rfl rfl (by(repeat(first|exact trivial|refine⟨⟨rfl,rfl⟩,?_⟩))) (by(repeat(first|exact trivial|refine⟨rfl,?_⟩))) rfl
theorem GV(l:ah)(U:cr l)(c:Int):bc prog 75 [dP l,E c] (E (gm l c)):=by
 have e1:=U.chan;have e2:=U.bo;refine sP func75 ntmps75 λ w cl=>?_
 refine gA (yf l.chan l.bo 2 c 0 e1 e2 (by omega) (by omega)) ?_;refine ez ?_
 rfl
theorem UM(l:ah)(U:cr l)(c:Int):bc prog 76 [dP l,E c] (E (mY l c)):=by
 have e1:=U.chan;have e2:=U.bo;refine sP func76 ntmps76 λ w cl=>?_
 refine gA (yf l.chan l.bo 2 c 1 e1 e2 (by omega) (by omega)) ?_;refine ez ?_
 rfl
def rb(a:Int)(n i:Nat):List Int:=(List.range (n-i)).map λ(j:Nat)=>a+i+j
theorem MJ{a:Int}{n i:Nat}(h:i<n):rb a n i=(a+i)::rb a n (i+1):=by
 unfold rb;obtain⟨k,J⟩:∃k,n-i=k+1:=⟨n-i-1,by omega⟩;rw[J,show n-(i+1)=k by omega,List.range_succ_eq_map,List.map_cons,List.map_map]
 congr 1
 ·omega
 ·apply List.map_congr_left;intro j _;simp only[Function.comp];omega
theorem MK{a:Int}{n i:Nat}(h:n<=i):rb a n i=[]:=by unfold rb;rw[show n-i=0 by omega];rfl
set_option maxHeartbeats 4000000 in
theorem XD(l:ah)(hL:cr l)(G:Int)(log:List aF)(s:af)(n v:Int)(hn:n<9223372036854775808)(zp:0<=v)(BQ:v<4294967296)(hm:s.made<=log.length)(U:log.length<=1000000):fZ 179 l G log s [.ptr 11 0,E n,E v] (tY l n v log s) (λ _=>.bd []):=by
 generalize I:tY l n v log s=aQ;unfold tY at I;refine sX func179 ntmps179 λ w cl own kf=>?_
 refine go ?_;refine lA (gJ l hL G s n 0 (by omega) (by omega)) ?_;refine go ?_;refine xP (iy l G log s (aN l n 0) 0 hm U) ?_;rintro d Y ⟨u,s1,bO,fT,dc,rfl,rfl⟩;rw[az bO] at I;refine go ?_;refine lA (gJ l hL G s1 n 1 (by omega) (by omega)) ?_;refine go ?_;refine xP (iy l G log s1 (aN l n 1) (v+2) dc U) ?_;rintro d Y ⟨u,s2,bg,fj,cN,rfl,rfl⟩;rw[az bg,show[2,3,4,5]=rb 2 4 0 by decide] at I;refine go ?_;refine cn (λ p:Nat×af=>p.1<=4/\s.made<=p.2.made/\p.2.made<=log.length/\pX l n (rb 2 4 p.1) log p.2=aQ) (λ p=>⟨[(19,E p.1),(0,.ptr 11 0),(1,E n)],co l G log p.2,[]⟩) (λ p=>4-p.1) (0,s2) ⟨by simp only;omega,by simp only;omega,cN,I⟩ (zX) ?_;rintro⟨i,t⟩ ⟨hi,cY,bw,I⟩;simp only at hi cY bw I;refine(show aP _ _ _ _ ⟨[(19,E i),(0,.ptr 11 0),(1,E n)],co l G log t,[]⟩ from ?_);refine go ?_;refine dk (λ A=>?_) (λ A=>?_)<;>try rw[A]
 ·have aU:=of_decide_eq_true A;rw[MJ (by omega),pX] at I;refine go ?_;refine lA (gJ l hL G t n (2+(i:Int)) (by omega) (by omega)) ?_;refine go ?_;refine xP (iy l G log t (aN l n (2+(i:Int))) 0 bw U) ?_;rintro d Y ⟨u,s3,bV,fv,cS,rfl,rfl⟩;have mJ:pX l n (rb 2 4 (i+1)) log s3=aQ:=by rw[<-I];exact(az (f:=λ _=>pX l n (rb 2 4 (i+1))) bV).symm
  refine go ?_;exact⟨(i+1,s3),⟨by simp only;omega,by simp only;omega,cS,mJ⟩,by simp only;omega,zX⟩
 ·have aU:=of_decide_eq_false A;rw[MK (by omega),pX] at I;refine go ?_;exact fX _ ⟨_,t,I.symm,cY,bw,rfl,rfl⟩
abbrev AC(l:ah)(G:Int)(log:List aF)(R v aZ:Int)(s:af):bJ:=[(11,nH l G s),(12,[.ptr 11 0]),(13,[gT log]),(14,[.ptr 11 0]),(15,[E R]),(16,[E v]),(17,[E aZ])]
def Vu(l:ah)(G:Int)(log:List aF)(R v:Int)(s:af)(m:Except aX ((Option aY×Int)×af)):K->bJ->Prop:=λ d Y=>∃r aa,m=.ok (r,aa)/\s.made<aa.made/\aa.made<=log.length/\aa.gone=s.gone/\0<=r.2/\r.2<65536/\d=.bd [lU (r.1.getD mw),dB r.1.isSome]/\Y=AC l G log R v r.2 aa
def Vv(l:ah)(G:Int)(log:List aF)(R v:Int)(m:Except aX ((Option aY×Int)×af)):Value->bJ->Prop:=λ x Y=>∃a aa aZ,m=.error a/\x=iK a/\Y=AC l G log R v aZ aa
theorem w8{l:ah}{n:Int}:∀{k:Nat}{log:List aF}{s aa:af}{u:Unit},mH l n k log s=.ok (u,aa)->aa.gone=s.gone
 |0,log,s,aa,u,h=>by cases h;rfl
 |k+1,log,s,aa,u,h=>by
  rw[mH] at h;cases A:cZ l.free log s with
  |error a=>rw[bj A] at h;cases h
  |ok q=>
   obtain⟨fr,s1⟩:=q;rw[az A] at h;have g1:s1.gone=s.gone:=by rw[(fK A).1]
   cases F:fA (aN l n 7) (ae fr).idx log s1 with
   |error a=>rw[bj F] at h;cases h
   |ok q=>
    obtain⟨lk,s2⟩:=q;rw[az F] at h;have g2:s2.gone=s.gone:=by rw[(ot F).1];exact g1
    cases O:fN l.free fr (bK (ca (ae fr) n)) log s2 with
    |error a=>rw[bj O] at h;cases h
    |ok q=>
     obtain⟨ok,s3⟩:=q;rw[az O] at h;have g3:s3.gone=s.gone:=by rw[(ja O).1];exact g2
     split at h
     ·cases h;exact g3
     ·exact(w8 h).trans g3
theorem Px{l:ah}{n:Int}:∀{is:List Int}{log:List aF}{s aa:af}{u:Unit},pX l n is log s=.ok (u,aa)->aa.gone=s.gone
 |[],log,s,aa,u,h=>by cases h;rfl
 |i::is,log,s,aa,u,h=>by
  rw[pX] at h;cases F:fA (aN l n i) 0 log s with
  |error a=>rw[bj F] at h;cases h
  |ok q=>obtain⟨lk,s2⟩:=q;rw[az F] at h;exact(Px h).trans (by rw[(ot F).1])
theorem XB{l:ah}{n v:Int}{log:List aF}{s aa:af}{u:Unit}(h:tY l n v log s=.ok (u,aa)):aa.gone=s.gone:=by
 rw[tY] at h;cases A:fA (aN l n 0) 0 log s with
 |error a=>rw[bj A] at h;cases h
 |ok q=>
  obtain⟨u1,s1⟩:=q;rw[az A] at h;cases F:fA (aN l n 1) (v+2) log s1 with
  |error a=>rw[bj F] at h;cases h
  |ok q=>obtain⟨u2,s2⟩:=q;rw[az F] at h;rw[Px h,(ot F).1,(ot A).1]
theorem Fz{l:ah}:∀{k:Nat}{log:List aF}{s aa:af}{p:Int×Int×Bool},ou l k log s=.ok (p,aa)->0<=p.1
 |0,log,s,aa,p,h=>by cases h;simp
 |k+1,log,s,aa,p,h=>by
  rw[ou] at h;cases A:cZ l.free log s with
  |error a=>rw[bj A] at h;cases h
  |ok q=>
   obtain⟨fr,s1⟩:=q;rw[az A] at h;split at h
   ·rw[az eu] at h;cases h;simp
   ·cases F:cZ (aN l (ae fr).idx 7) log s1 with
    |error a=>rw[bj F] at h;cases h
    |ok q=>
     obtain⟨lk,s2⟩:=q;rw[az F] at h;cases O:fN l.free fr (bK (ca (ae fr) lk)) log s2 with
     |error a=>rw[bj O] at h;cases h
     |ok q=>
      obtain⟨ok,s3⟩:=q;rw[az O] at h;split at h
      ·rw[az eu] at h;cases h4:cZ l.era log s3 with
       |error a=>rw[bj h4] at h;cases h
       |ok q=>
        obtain⟨bi,s4⟩:=q;rw[az h4] at h;cases h5:fA (aN l (ae fr).idx 6) bi log s4 with
        |error a=>rw[bj h5] at h;cases h
        |ok q=>obtain⟨u,s5⟩:=q;rw[az h5] at h;cases h;exact(kU fr).1
      ·exact Fz h
set_option maxHeartbeats 8000000 in
theorem aeM(l:ah)(hL:cr l)(G:Int)(log:List aF)(s:af)(R v aZ:Int)(zp:0<=v)(BQ:v<4294967296)(l4:0<=aZ)(mj:aZ<65536)(hm:s.made<=log.length)(U:log.length<=1000000):
 fM prog 169 [11,12,13,14,15,16,17] [.ptr 14 0,.ptr 15 0,.ptr 16 0,.ptr 17 0] (AC l G log R v aZ s) (Vu l G log R v s (wK l G R v aZ log s)) (Vv l G log R v (wK l G R v aZ log s)):=by
 generalize I:wK l G R v aZ log s=aQ;unfold wK at I;refine sX func169 ntmps169 λ w cl own kf=>?_
 refine go ?_;refine xX (Bl l hL G log s R hm U) ?_ ?_
 ·rintro v Y ⟨a,aa,h,rfl,rfl⟩;refine gP ?_;exact fP _ ⟨a,aa,aZ,by rw[<-I];exact bj h,rfl,rfl⟩
 rintro d Y ⟨p,s1,bO,fT,dc,rfl,rfl⟩;rw[az bO] at I;have jT:s1.gone=s.gone:=Bm bO;obtain⟨bR,at_⟩:=p;simp only at I;have cj:=kU bR;have du:=tr bR;refine gA (kV bR) ?_;generalize hF:(λ o:Option Int=>match o with
  |some a=>if aZ=0 then(gB l G).bind λ _=>Pm.pure (some (⟨0,true,0,a,[]⟩:aY),aZ) else(oI l aZ).bind λ _=>(gB l G).bind λ _=>Pm.pure (some ⟨0,true,0,a,[]⟩,aZ)
  |none=>(cZ (aN l (ae bR).idx 0)).bind λ next=>if next=0 then(if aZ=0 then(sr l).bind λ t=>if t.2.2=true then(tY l t.1 v).bind λ _=>uW l G R bR t.1 else(gB l G).bind λ _=>Pm.pure (some ⟨0,false,8,t.2.1,[]⟩,aZ) else uW l G R bR aZ)
   else(fN R bR (bK (ca (ae bR) next))).bind λ _=>Pm.pure (none,aZ))=Fk at I
 rw[show Aq=rb 1 5 0 by decide] at I;refine cn (λ p:Nat×af=>p.1<=5/\s.made<=p.2.made/\p.2.made<=log.length/\p.2.gone=s.gone/\(uG l (ae bR).idx v (rb 1 5 p.1)).bind Fk log p.2=aQ) (λ p=>⟨[(25,E p.1),(0,.ptr 14 0),(1,.ptr 15 0),(2,.ptr 16 0),(3,.ptr 17 0),(4,.ptr 7 0),(6,E bR),(8,.ptr 8 0)],(8,[E (ae bR).idx,dB (ae bR).mark,E (ae bR).mF])::(7,[E 0,dB false,E 0,E 0,.p (.sl true 0 [])])::AC l G log R v aZ p.2,[]⟩) (λ p=>5-p.1) (0,s1) ⟨by simp only;omega,by simp only;omega,dc,jT,I⟩ (zX) ?_;rintro⟨i,t⟩ ⟨hi,cY,bw,ff,I⟩;simp only at hi cY bw ff I;refine(show aP _ _ _ _ ⟨[(25,E i),(0,.ptr 14 0),(1,.ptr 15 0),(2,.ptr 16 0),(3,.ptr 17 0),(4,.ptr 7 0),(6,E bR),(8,.ptr 8 0)],(8,[E (ae bR).idx,dB (ae bR).mark,E (ae bR).mF])::(7,[E 0,dB false,E 0,E 0,.p (.sl true 0 [])])::AC l G log R v aZ t,[]⟩ from ?_);refine go ?_;refine dk (λ A=>?_) (λ A=>?_)<;>try rw[A]
 ·have aU:=of_decide_eq_true A;rw[MJ (by omega),uG,bind_assoc] at I;refine go ?_;refine lA (gJ l hL G t (ae bR).idx (1+(i:Int)) (by omega) (by omega)) ?_;refine go ?_;refine xX (eC l G log t (aN l (ae bR).idx (1+(i:Int))) bw U) ?_ ?_
  ·rintro v Y ⟨a,aa,h,rfl,rfl⟩;refine gP ?_;exact fP _ ⟨a,aa,aZ,by rw[<-I];exact bj h,rfl,rfl⟩
  rintro d Y ⟨x,s2,bg,fj,cN,rfl,rfl⟩;rw[az bg] at I;have d4:s2.gone=s.gone:=by rw[(fK bg).1];exact ff
  have fD:=iH bg;refine go ?_;generalize F:decide (x=0)=cc;cases cc
  ·rw[if_neg (of_decide_eq_false F)] at I;refine go ?_;exact⟨(i+1,s2),⟨by simp only;omega,by simp only;omega,cN,d4,I⟩,by simp only;omega,zX⟩
  ·rw[if_pos (of_decide_eq_true F),bind_assoc] at I;refine go ?_;refine xX (jb l G log s2 (aN l (ae bR).idx (1+(i:Int))) 0 (v+2) cN U) ?_ ?_
   ·rintro v Y ⟨a,aa,h,rfl,rfl⟩;refine gP ?_;exact fP _ ⟨a,aa,aZ,by rw[<-I];exact bj h,rfl,rfl⟩
   rintro d Y ⟨iv,s3,bV,fv,cS,rfl,rfl⟩;rw[az bV] at I;have gx:=lO bV;have iD:s3.gone=s.gone:=by rw[(ja bV).1];exact d4
   refine go ?_;cases iv
   ·rw[if_neg (by decide)] at I;refine go ?_;exact⟨(i+1,s3),⟨by simp only;omega,by simp only;omega,cS,iD,I⟩,by simp only;omega,zX⟩
   ·rw[if_pos rfl,bind_assoc,az eu] at I;have I:Fk (some ((s3.made:Int)-1)) log s3=aQ:=I;rw[<-hF] at I;simp only at I;refine go ?_;refine lA (i6 l G s3 (by omega)) ?_;refine go ?_;generalize O:decide (aZ=0)=cc;cases cc
    ·rw[if_neg (of_decide_eq_false O)] at I;refine go ?_;refine xX (w9 l hL G log s3 aZ (by omega) cS U) ?_ ?_
     ·rintro v Y ⟨a,aa,h,rfl,rfl⟩;refine gP ?_;exact fP _ ⟨a,aa,aZ,by rw[<-I];exact bj h,rfl,rfl⟩
     rintro d Y ⟨u,s4,cX,jf,eQ,rfl,rfl⟩;rw[az cX] at I;have jz:s4.gone=s.gone:=(w8 cX).trans iD;refine go ?_;refine xX (kh l hL G log s4 eQ U) ?_ ?_
     ·rintro v Y ⟨a,aa,h,rfl,rfl⟩;refine gP ?_;exact fP _ ⟨a,aa,aZ,by rw[<-I];exact bj h,rfl,rfl⟩
     rintro d Y ⟨u,s5,dD,li,eW,rfl,rfl⟩;rw[az dD] at I;have kp:s5.gone=s.gone:=(jP dD).trans jz;refine go ?_;exact fX _ ⟨_,s5,I.symm,by omega,eW,kp,l4,mj,rfl,rfl⟩
    ·rw[if_pos (of_decide_eq_true O)] at I;refine go ?_;refine xX (kh l hL G log s3 cS U) ?_ ?_
     ·rintro v Y ⟨a,aa,h,rfl,rfl⟩;refine gP ?_;exact fP _ ⟨a,aa,aZ,by rw[<-I];exact bj h,rfl,rfl⟩
     rintro d Y ⟨u,s5,dD,li,eW,rfl,rfl⟩;rw[az dD] at I;have kp:s5.gone=s.gone:=(jP dD).trans iD;refine go ?_;exact fX _ ⟨_,s5,I.symm,by omega,eW,kp,l4,mj,rfl,rfl⟩
 ·have aU:=of_decide_eq_false A;rw[MK (by omega),uG] at I;have I:Fk none log t=aQ:=I;rw[<-hF] at I;simp only at I;refine go ?_;refine gW 5 [] ?_;refine lQ (gJ l hL G t (ae bR).idx 0 (by omega) (by omega)) ?_;refine br ?_;refine xX (eC l G log t (aN l (ae bR).idx 0) bw U) ?_ ?_
  ·rintro v Y ⟨a,aa,h,rfl,rfl⟩;refine gP ?_;exact fP _ ⟨a,aa,aZ,by rw[<-I];exact bj h,rfl,rfl⟩
  rintro d Y ⟨next,s2,bg,fj,cN,rfl,rfl⟩;rw[az bg] at I;have d4:s2.gone=s.gone:=by rw[(fK bg).1];exact ff
  have fD:=iH bg;refine go ?_;generalize F:decide (next=0)=cc;cases cc
  ·rw[if_neg (of_decide_eq_false F)] at I;refine go ?_;refine dW 7 [] ?_;refine gQ (qp (ae bR) next du.1 du.2) ?_;refine cQ (my (ca (ae bR) next)) ?_;refine br ?_;refine xX (jb l G log s2 R bR (bK (ca (ae bR) next)) cN U) ?_ ?_
   ·rintro v Y ⟨a,aa,h,rfl,rfl⟩;refine gP ?_;exact fP _ ⟨a,aa,aZ,by rw[<-I];exact bj h,rfl,rfl⟩
   rintro d Y ⟨iv,s3,bV,fv,cS,rfl,rfl⟩;rw[az bV] at I;have iD:s3.gone=s.gone:=by rw[(ja bV).1];exact d4
   refine go ?_;exact fX _ ⟨_,s3,I.symm,by omega,cS,iD,l4,mj,rfl,rfl⟩
  ·rw[if_pos (of_decide_eq_true F)] at I;refine go ?_;generalize O:decide (aZ=0)=cc;cases cc
   ·rw[if_neg (of_decide_eq_false O),uW] at I;refine go ?_;refine gW 6 [] ?_;refine lQ (gJ l hL G s2 (ae bR).idx 0 (by omega) (by omega)) ?_;refine br ?_;refine xX (jb l G log s2 (aN l (ae bR).idx 0) 0 aZ cN U) ?_ ?_
    ·rintro v Y ⟨a,aa,h,rfl,rfl⟩;refine gP ?_;exact fP _ ⟨a,aa,aZ,by rw[<-I];exact bj h,rfl,rfl⟩
    rintro d Y ⟨iv,s3,bV,fv,cS,rfl,rfl⟩;rw[az bV] at I;have iD:s3.gone=s.gone:=by rw[(ja bV).1];exact d4
    have gx:=lO bV;refine go ?_;cases iv
    ·rw[if_neg (by decide)] at I;refine go ?_;exact fX _ ⟨_,s3,I.symm,by omega,cS,iD,l4,mj,rfl,rfl⟩
    ·rw[if_pos rfl,az eu] at I;refine go ?_;refine lA (i6 l G s3 (by omega)) ?_;refine go ?_;refine dW 7 [] ?_;refine gQ (qp (ae bR) aZ du.1 du.2) ?_;refine cQ (my (ca (ae bR) aZ)) ?_;refine br ?_;refine xX (jb l G log s3 R bR (bK (ca (ae bR) aZ)) cS U) ?_ ?_
     ·rintro v Y ⟨a,aa,h,rfl,rfl⟩;refine gP ?_;exact fP _ ⟨a,aa,aZ,by rw[<-I];exact bj h,rfl,rfl⟩
     rintro d Y ⟨Me,s4,cX,jf,eQ,rfl,rfl⟩;rw[az cX] at I;have jz:s4.gone=s.gone:=by rw[(ja cX).1];exact iD
     refine go ?_;refine xX (kh l hL G log s4 eQ U) ?_ ?_
     ·rintro v Y ⟨a,aa,h,rfl,rfl⟩;refine gP ?_;exact fP _ ⟨a,aa,aZ,by rw[<-I];exact bj h,rfl,rfl⟩
     rintro d Y ⟨u,s5,dD,li,eW,rfl,rfl⟩;rw[az dD] at I;have kp:s5.gone=s.gone:=(jP dD).trans jz;refine go ?_;exact fX _ ⟨_,s5,I.symm,by omega,eW,kp,l4,mj,rfl,rfl⟩
   ·rw[if_pos (of_decide_eq_true O)] at I;refine go ?_;refine xX (FA l hL G log s2 cN U) ?_ ?_
    ·rintro v Y ⟨a,aa,h,rfl,rfl⟩;refine gP ?_;exact fP _ ⟨a,aa,aZ,by rw[<-I];exact bj h,rfl,rfl⟩
    rintro d Y ⟨p,s3,bV,fv,cS,rfl,rfl⟩;rw[az bV] at I;have Hi:=Fy bV;have iD:s3.gone=s.gone:=Hi.2.trans d4;have Eu:=Fz bV;obtain⟨n,Wh,iv⟩:=p;simp only at I Hi Eu;refine go ?_;cases iv
    ·rw[if_neg (by decide)] at I;refine go ?_;refine xX (kh l hL G log s3 cS U) ?_ ?_
     ·rintro v Y ⟨a,aa,h,rfl,rfl⟩;refine gP ?_;exact fP _ ⟨a,aa,aZ,by rw[<-I];exact bj h,rfl,rfl⟩
     rintro d Y ⟨u,s4,cX,jf,eQ,rfl,rfl⟩;rw[az cX] at I;have jz:s4.gone=s.gone:=(jP cX).trans iD;refine go ?_;exact fX _ ⟨_,s4,I.symm,by omega,eQ,jz,l4,mj,rfl,rfl⟩
    ·rw[if_pos rfl] at I;refine go ?_;refine xX (XD l hL G log s3 n v (by omega) zp BQ cS U) ?_ ?_
     ·rintro v Y ⟨a,aa,h,rfl,rfl⟩;refine gP ?_;exact fP _ ⟨a,aa,n,by rw[<-I];exact bj h,rfl,rfl⟩
     rintro d Y ⟨u,s4,cX,jf,eQ,rfl,rfl⟩;rw[az cX] at I;have jz:s4.gone=s.gone:=(XB cX).trans iD;rw[uW] at I;refine go ?_;refine gW 6 [] ?_;refine lQ (gJ l hL G s4 (ae bR).idx 0 (by omega) (by omega)) ?_;refine br ?_;refine xX (jb l G log s4 (aN l (ae bR).idx 0) 0 n eQ U) ?_ ?_
     ·rintro v Y ⟨a,aa,h,rfl,rfl⟩;refine gP ?_;exact fP _ ⟨a,aa,n,by rw[<-I];exact bj h,rfl,rfl⟩
     rintro d Y ⟨iv,s5,dD,li,eW,rfl,rfl⟩;rw[az dD] at I;have kp:s5.gone=s.gone:=by rw[(ja dD).1];exact jz
     have Lc:=lO dD;refine go ?_;cases iv
     ·rw[if_neg (by decide)] at I;refine go ?_;exact fX _ ⟨_,s5,I.symm,by omega,eW,kp,Eu,Hi.1,rfl,rfl⟩
     ·rw[if_pos rfl,az eu] at I;refine go ?_;refine lA (i6 l G s5 (by omega)) ?_;refine go ?_;refine dW 7 [] ?_;refine gQ (qp (ae bR) n du.1 du.2) ?_;refine cQ (my (ca (ae bR) n)) ?_;refine br ?_;refine xX (jb l G log s5 R bR (bK (ca (ae bR) n)) eW U) ?_ ?_
      ·rintro v Y ⟨a,aa,h,rfl,rfl⟩;refine gP ?_;exact fP _ ⟨a,aa,n,by rw[<-I];exact bj h,rfl,rfl⟩
      rintro d Y ⟨Me,s6,kw,vC,nt,rfl,rfl⟩;rw[az kw] at I;have sY:s6.gone=s.gone:=by rw[(ja kw).1];exact kp
      refine go ?_;refine xX (kh l hL G log s6 nt U) ?_ ?_
      ·rintro v Y ⟨a,aa,h,rfl,rfl⟩;refine gP ?_;exact fP _ ⟨a,aa,n,by rw[<-I];exact bj h,rfl,rfl⟩
      rintro d Y ⟨u,s7,pu,Ed,vD,rfl,rfl⟩;rw[az pu] at I;have Y4:s7.gone=s.gone:=(jP pu).trans sY;refine go ?_;exact fX _ ⟨_,s7,I.symm,by omega,vD,Y4,Eu,Hi.1,rfl,rfl⟩
theorem AF{l:ah}{aw:List Int}:∀{gs aL:List (Int×Int)}{log:List aF}{s aa:af}{r:List (Int×Int)},fx l aw gs aL log s=.ok (r,aa)->eN gs->eN aL->eN r
 |[],aL,log,s,aa,r,h,_,F=>by cases h;exact F
 |g::gs,aL,log,s,aa,r,h,A,F=>by
  have aU:eN gs:=λ p hp=>A p (List.mem_cons_of_mem _ hp)
  rw[fx] at h;cases k1:cZ (aN l g.1 6) log s with
  |error a=>rw[bj k1] at h;cases h
  |ok q=>
   obtain⟨b,s1⟩:=q;rw[az k1] at h;split at h
   ·exact AF h aU (λ p hp=>by
     rw[List.mem_append,List.mem_singleton] at hp;rcases hp with hp|rfl
     ·exact F p hp
     ·exact A _ (by simp))
   ·cases k2:oI l g.1 log s1 with
    |error a=>rw[bj k2] at h;cases h
    |ok q=>obtain⟨u,s2⟩:=q;rw[az k2] at h;exact AF h aU F
theorem JY{g:List (Int×Int)}{n e:Int}(h:eN g)(hn:n<9223372036854775808):eN (g++[(n,e)]):=by
 intro p hp;rw[List.mem_append,List.mem_singleton] at hp;rcases hp with hp|rfl
 ·exact h p hp
 ·exact hn
theorem Fg{l:ah}{n:Int}{log:List aF}{s aa:af}{u:Unit}(h:lr l n log s=.ok (u,aa))(hg:eN s.gone)(hn:n<9223372036854775808):eN aa.gone:=by
 unfold lr at h;cases A:cZ l.era log s with
 |error a=>rw[bj A] at h;cases h
 |ok q=>
  obtain⟨er,s1⟩:=q;rw[az A] at h;have g1:s1.gone=s.gone:=by rw[(fK A).1]
  cases F:fO ⟨4,l.era,0,1⟩ log s1 with
  |error a=>rw[bj F] at h;cases h
  |ok q=>
   obtain⟨r,s2⟩:=q;rw[az F] at h;have g2:s2.gone=s.gone:=by rw[(vc F).1];exact g1
   have hq:eN (s2.gone++[(n,er)]):=by rw[g2];exact JY hg hn
   split at h
   ·cases h;exact hq
   ·unfold tB at h;cases O:kz [] (j4 l 0 l.ar.toNat) log {s2 with gone:=s2.gone++[(n,er)]} with
    |error a=>rw[bj O] at h;cases h
    |ok q=>
     obtain⟨aw,s3⟩:=q;rw[az O] at h;cases h4:fx l aw (s2.gone++[(n,er)]) [] log s3 with
     |error a=>rw[bj h4] at h;cases h
     |ok q=>obtain⟨aL,s4⟩:=q;rw[az h4] at h;unfold jq at h;cases h;exact AF h4 hq (λ p hp=>by simp at hp)
abbrev Aw(l:ah)(G:Int)(log:List aF)(D R:Int)(s:af):bJ:=[(11,nH l G s),(12,[.ptr 11 0]),(13,[gT log]),(14,[.ptr 11 0]),(15,[E D]),(16,[E R])]
def Vr(l:ah)(G:Int)(log:List aF)(D R:Int)(s:af)(m:Except aX (Option aY×af)):K->bJ->Prop:=λ d Y=>∃r aa,m=.ok (r,aa)/\s.made<aa.made/\aa.made<=log.length/\eN aa.gone/\aa.gone.length+s.made<=s.gone.length+aa.made/\d=.bd [lU (r.getD mw),dB r.isSome]/\Y=Aw l G log D R aa
def Vs(l:ah)(G:Int)(log:List aF)(D R:Int)(m:Except aX (Option aY×af)):Value->bJ->Prop:=λ x Y=>∃a aa,m=.error a/\x=iK a/\Y=Aw l G log D R aa
set_option maxHeartbeats 8000000 in
theorem ad9(l:ah)(hL:cr l)(G:Int)(log:List aF)(s:af)(D R:Int)(fp:eN s.gone)(gU:s.gone.length<=10000)(hm:s.made<=log.length)(U:log.length<=1000000):
 fM prog 180 [11,12,13,14,15,16] [.ptr 14 0,.ptr 15 0,.ptr 16 0] (Aw l G log D R s) (Vr l G log D R s (wJ l G D R log s)) (Vs l G log D R (wJ l G D R log s)):=by
 generalize I:wJ l G D R log s=aQ;unfold wJ at I;refine sX func180 ntmps180 λ w cl own kf=>?_
 refine go ?_;refine xP (Bl l hL G log s D hm U) ?_;rintro d Y ⟨p,s1,bO,fT,dc,rfl,rfl⟩;rw[az bO] at I;have jT:s1.gone=s.gone:=Bm bO;obtain⟨bR,at_⟩:=p;simp only at I;have cj:=kU bR;have du:=tr bR;refine gA (kV bR) ?_;generalize hF:(λ o:Option aY=>match o with
  |some o=>(gB l G).bind λ _=>Pm.pure (some o)
  |none=>(cZ (aN l (ae bR).idx 0)).bind λ next=>if next=0 then mq.bind λ a=>(gB l G).bind λ _=>Pm.pure (some (⟨0,false,0,a,[]⟩:aY))
   else(cZ R).bind λ en=>if(ae en).idx=(ae bR).idx then(fN R en (bK (ca (ae en) next))).bind λ _=>uV l G D bR next else uV l G D bR next)=Fk at I
 rw[show Aq=rb 1 5 0 by decide] at I;refine cn (λ p:Nat×af=>p.1<=5/\s.made<=p.2.made/\p.2.made<=log.length/\p.2.gone=s.gone/\(tu l (ae bR).idx (rb 1 5 p.1)).bind Fk log p.2=aQ) (λ p=>⟨[(24,E p.1),(0,.ptr 14 0),(1,.ptr 15 0),(2,.ptr 16 0),(3,.ptr 6 0),(5,E bR),(7,.ptr 7 0)],(7,[E (ae bR).idx,dB (ae bR).mark,E (ae bR).mF])::(6,[E 0,dB false,E 0,E 0,.p (.sl true 0 [])])::Aw l G log D R p.2,[]⟩) (λ p=>5-p.1) (0,s1) ⟨by simp only;omega,by simp only;omega,dc,jT,I⟩ (zX) ?_;rintro⟨i,t⟩ ⟨hi,cY,bw,ff,I⟩;simp only at hi cY bw ff I;refine(show aP _ _ _ _ ⟨[(24,E i),(0,.ptr 14 0),(1,.ptr 15 0),(2,.ptr 16 0),(3,.ptr 6 0),(5,E bR),(7,.ptr 7 0)],(7,[E (ae bR).idx,dB (ae bR).mark,E (ae bR).mF])::(6,[E 0,dB false,E 0,E 0,.p (.sl true 0 [])])::Aw l G log D R t,[]⟩ from ?_);refine go ?_;refine dk (λ A=>?_) (λ A=>?_)<;>try rw[A]
 ·have aU:=of_decide_eq_true A;rw[MJ (by omega),tu,bind_assoc] at I;refine go ?_;refine lA (gJ l hL G t (ae bR).idx (1+(i:Int)) (by omega) (by omega)) ?_;refine go ?_;refine xP (eC l G log t (aN l (ae bR).idx (1+(i:Int))) bw U) ?_;rintro d Y ⟨x,s2,bg,fj,cN,rfl,rfl⟩;rw[az bg,bind_assoc,az eu] at I;have fD:=iH bg;have d4:s2.gone=s.gone:=by rw[(fK bg).1];exact ff
  refine go ?_;refine lA (i6 l G s2 (by omega)) ?_;refine go ?_;generalize F:decide (x=0)=cc;cases cc
  ·rw[if_neg (of_decide_eq_false F)] at I;refine go ?_;generalize O:decide (x=1)=cc;cases cc
   ·rw[if_neg (of_decide_eq_false O),bind_assoc] at I;refine go ?_;refine xP (jb l G log s2 (aN l (ae bR).idx (1+(i:Int))) x 1 cN U) ?_;rintro d Y ⟨iv,s3,bV,fv,cS,rfl,rfl⟩;rw[az bV] at I;have gx:=lO bV;have iD:s3.gone=s.gone:=by rw[(ja bV).1];exact d4
    refine go ?_;cases iv
    ·rw[if_neg (by decide)] at I;refine go ?_;exact⟨(i+1,s3),⟨by simp only;omega,by simp only;omega,cS,iD,I⟩,by simp only;omega,zX⟩
    ·rw[if_pos rfl,bind_assoc,az eu] at I;have I:Fk (some ⟨m4 (x-2),true,0,(s3.made:Int)-1,[]⟩) log s3=aQ:=I;rw[<-hF] at I;simp only at I;refine go ?_;refine lA (i6 l G s3 (by omega)) ?_;refine go ?_;refine xP (kh l hL G log s3 cS U) ?_;rintro d Y ⟨u,s5,dD,li,eW,rfl,rfl⟩;rw[az dD] at I;have kp:s5.gone=s.gone:=(jP dD).trans iD;refine go ?_;rw[wrap64];refine go ?_;exact fX _ ⟨_,s5,I.symm,by omega,eW,by rw[kp];exact fp,by rw[kp];omega,rfl,rfl⟩
   ·rw[if_pos (of_decide_eq_true O)] at I;refine go ?_;exact⟨(i+1,s2),⟨by simp only;omega,by simp only;omega,cN,d4,I⟩,by simp only;omega,zX⟩
  ·rw[if_pos (of_decide_eq_true F)] at I;have I:Fk (some ⟨0,false,0,(s2.made:Int)-1,[]⟩) log s2=aQ:=I;rw[<-hF] at I;simp only at I;refine go ?_;refine xP (kh l hL G log s2 cN U) ?_;rintro d Y ⟨u,s5,dD,li,eW,rfl,rfl⟩;rw[az dD] at I;have kp:s5.gone=s.gone:=(jP dD).trans d4;refine go ?_;exact fX _ ⟨_,s5,I.symm,by omega,eW,by rw[kp];exact fp,by rw[kp];omega,rfl,rfl⟩
 ·have aU:=of_decide_eq_false A;rw[MK (by omega),tu] at I;have I:Fk none log t=aQ:=I;rw[<-hF] at I;simp only at I;refine go ?_;refine gW 5 [] ?_;refine lQ (gJ l hL G t (ae bR).idx 0 (by omega) (by omega)) ?_;refine br ?_;refine xP (eC l G log t (aN l (ae bR).idx 0) bw U) ?_;rintro d Y ⟨next,s2,bg,fj,cN,rfl,rfl⟩;rw[az bg] at I;have fD:=iH bg;have d4:s2.gone=s.gone:=by rw[(fK bg).1];exact ff
  refine go ?_;generalize F:decide (next=0)=cc;cases cc
  ·rw[if_neg (of_decide_eq_false F)] at I;refine go ?_;refine xP (eC l G log s2 R cN U) ?_;rintro d Y ⟨en,s3,bV,fv,cS,rfl,rfl⟩;rw[az bV] at I;have iD:s3.gone=s.gone:=by rw[(fK bV).1];exact d4
   have Hr:=tr en;refine gA (kV en) ?_;generalize O:decide ((ae en).idx=(ae bR).idx)=cc;cases cc
   ·rw[if_neg (of_decide_eq_false O)] at I;refine go ?_;rw[uV] at I;refine dW 7 [] ?_;refine gQ (qp (ae bR) next du.1 du.2) ?_;refine cQ (my (ca (ae bR) next)) ?_;refine br ?_;refine xP (jb l G log s3 D bR (bK (ca (ae bR) next)) cS U) ?_;rintro d Y ⟨iv,s5,dD,li,eW,rfl,rfl⟩;rw[az dD] at I;have kp:s5.gone=s.gone:=by rw[(ja dD).1];exact iD
    have Lc:=lO dD;refine go ?_;cases iv
    ·rw[if_neg (by decide)] at I;refine go ?_;exact fX _ ⟨_,s5,I.symm,by omega,eW,by rw[kp];exact fp,by rw[kp];omega,rfl,rfl⟩
    ·rw[if_pos rfl] at I;refine go ?_;refine xP (kh l hL G log s5 eW U) ?_;rintro d Y ⟨u,s6,kw,vC,nt,rfl,rfl⟩;rw[az kw] at I;have sY:s6.gone=s.gone:=(jP kw).trans kp;refine go ?_;refine xP (Ay l hL G log s6 (ae bR).idx (by omega) (by rw[sY];exact fp) (by rw[sY];exact gU) nt U) ?_;rintro d Y ⟨u,s7,pu,Ed,vD,rfl,rfl⟩;rw[az pu] at I;have jh:=Ff pu;have nB:=Fg pu (by rw[sY];exact fp) (by omega);rw[sY] at jh;refine go ?_;exact fX _ ⟨_,s7,I.symm,by omega,vD,nB,by omega,rfl,rfl⟩
   ·rw[if_pos (of_decide_eq_true O)] at I;refine go ?_;refine dW 7 [] ?_;refine gQ (qp (ae en) next Hr.1 Hr.2) ?_;refine cQ (my (ca (ae en) next)) ?_;refine br ?_;refine xP (jb l G log s3 R en (bK (ca (ae en) next)) cS U) ?_;rintro d Y ⟨SQ,s4,cX,jf,eQ,rfl,rfl⟩;rw[az cX] at I;have jz:s4.gone=s.gone:=by rw[(ja cX).1];exact iD
    have aap:=lO cX;refine go ?_;rw[uV] at I;refine dW 7 [] ?_;refine gQ (qp (ae bR) next du.1 du.2) ?_;refine cQ (my (ca (ae bR) next)) ?_;refine br ?_;refine xP (jb l G log s4 D bR (bK (ca (ae bR) next)) eQ U) ?_;rintro d Y ⟨iv,s5,dD,li,eW,rfl,rfl⟩;rw[az dD] at I;have kp:s5.gone=s.gone:=by rw[(ja dD).1];exact jz
    have Lc:=lO dD;refine go ?_;cases iv
    ·rw[if_neg (by decide)] at I;refine go ?_;exact fX _ ⟨_,s5,I.symm,by omega,eW,by rw[kp];exact fp,by rw[kp];omega,rfl,rfl⟩
    ·rw[if_pos rfl] at I;refine go ?_;refine xP (kh l hL G log s5 eW U) ?_;rintro d Y ⟨u,s6,kw,vC,nt,rfl,rfl⟩;rw[az kw] at I;have sY:s6.gone=s.gone:=(jP kw).trans kp;refine go ?_;refine xP (Ay l hL G log s6 (ae bR).idx (by omega) (by rw[sY];exact fp) (by rw[sY];exact gU) nt U) ?_;rintro d Y ⟨u,s7,pu,Ed,vD,rfl,rfl⟩;rw[az pu] at I;have jh:=Ff pu;have nB:=Fg pu (by rw[sY];exact fp) (by omega);rw[sY] at jh;refine go ?_;exact fX _ ⟨_,s7,I.symm,by omega,vD,nB,by omega,rfl,rfl⟩
  ·rw[if_pos (of_decide_eq_true F),az eu] at I;refine go ?_;refine lA (i6 l G s2 (by omega)) ?_;refine go ?_;refine xP (kh l hL G log s2 cN U) ?_;rintro d Y ⟨u,s5,dD,li,eW,rfl,rfl⟩;rw[az dD] at I;have kp:s5.gone=s.gone:=(jP dD).trans d4;refine go ?_;exact fX _ ⟨_,s5,I.symm,by omega,eW,by rw[kp];exact fp,by rw[kp];omega,rfl,rfl⟩
abbrev T3:K:=.fn (.func 169) [] [.ptr 14 0,.ptr 15 0,.ptr 16 0,.ptr 17 0]
abbrev TB:K:=.fn (.func 180) [] [.ptr 14 0,.ptr 15 0,.ptr 16 0]
abbrev x4(l:ah)(G:Int)(log:List aF)(R v aZ:Int)(s:af):bJ:=[(11,nH l G s),(12,[.ptr 11 0]),(13,[gT log]),(14,[.ptr 11 0]),(15,[E R]),(16,[E v]),(17,[E aZ]),(18,[T3])]
abbrev xO(l:ah)(G:Int)(log:List aF)(D R:Int)(s:af):bJ:=[(11,nH l G s),(12,[.ptr 11 0]),(13,[gT log]),(14,[.ptr 11 0]),(15,[E D]),(16,[E R]),(18,[TB])]
theorem aeO(l:ah)(G:Int)(log:List aF)(s:af)(R v:Int):eI prog 133 [11,12,13] [.ptr 11 0,E R,E v] (co l G log s) (λ d Y=>d=T3/\Y=AC l G log R v 0 s):=by
 refine sI func133 ntmps133 λ w cl own kf=>?_
 refine gE ?_;refine bA 14 ?_;refine bA 15 ?_;refine bA 16 ?_;refine nP aD rfl rfl rfl rfl ?_;refine kM ?_;refine gE ?_;refine nA 17 ?_;refine go ?_;refine iB (AC l G log R v 0 s) rfl rfl (by(repeat(first|exact trivial|refine⟨⟨rfl,rfl⟩,?_⟩))) (by(repeat(first|exact trivial|refine⟨rfl,?_⟩))) ?_;exact⟨rfl,rfl⟩
theorem ad8(l:ah)(G:Int)(log:List aF)(s:af)(D R:Int):eI prog 134 [11,12,13] [.ptr 11 0,E D,E R] (co l G log s) (λ d Y=>d=TB/\Y=Aw l G log D R s):=by
 refine sI func134 ntmps134 λ w cl own kf=>?_
 refine gE ?_;refine bA 14 ?_;refine bA 15 ?_;refine bA 16 ?_;refine nP aD rfl rfl rfl rfl ?_;refine kM ?_;refine gE ?_;refine go ?_;refine iB (Aw l G log D R s) rfl rfl (by(repeat(first|exact trivial|refine⟨⟨rfl,rfl⟩,?_⟩))) (by(repeat(first|exact trivial|refine⟨rfl,?_⟩))) ?_;exact⟨rfl,rfl⟩
def N8(l:ah)(G:Int)(log:List aF)(R v:Int)(s:af)(m:Except aX (aY×af)):K->bJ->Prop:=λ d Y=>∃x aa aZ,m=.ok (x,aa)/\aa.gone=s.gone/\d=lU x/\Y=x4 l G log R v aZ aa
def N9(l:ah)(G:Int)(log:List aF)(R v:Int)(m:Except aX (aY×af)):Value->bJ->Prop:=λ y Y=>∃a aa aZ,m=.error a/\y=iK a/\Y=x4 l G log R v aZ aa
set_option maxHeartbeats 4000000 in
theorem ab2(l:ah)(hL:cr l)(G:Int)(log:List aF)(s:af)(R v:Int)(zp:0<=v)(BQ:v<4294967296)(hm:s.made<=log.length)(U:log.length<=1000000):
 fM prog 136 [11,12,13,14,15,16,17,18] [.ptr 18 0] (x4 l G log R v 0 s) (N8 l G log R v s (CD l G R v log s)) (N9 l G log R v (CD l G R v log s)):=by
 generalize I:CD l G R v log s=aQ;unfold CD at I;refine sX func136 ntmps136 λ w cl own kf=>?_
 refine go ?_;refine cn (λ p:Nat×Int×af=>s.made<=p.2.2.made/\p.2.2.made<=log.length/\log.length-p.2.2.made<p.1/\p.2.2.gone=s.gone/\0<=p.2.1/\p.2.1<65536/\AD l G R v p.1 p.2.1 log p.2.2=aQ) (λ p=>⟨[(0,.ptr 18 0),(1,.ptr 8 0)],(8,[E 0,dB false,E 0,E 0,.p (.sl true 0 [])])::x4 l G log R v p.2.1 p.2.2,[]⟩) (λ p=>p.1) (log.length+1-s.made,0,s) ⟨Nat.le_refl _,hm,by simp only;omega,rfl,by simp,by simp,I⟩ (zX) ?_;rintro⟨k,aZ,t⟩ ⟨cY,bw,iZ,ff,l4,mj,I⟩;simp only at cY bw iZ ff l4 mj I;obtain⟨k,rfl⟩:∃j,k=j+1:=⟨k-1,by omega⟩;refine(show aP _ _ _ _ ⟨[(0,.ptr 18 0),(1,.ptr 8 0)],(8,[E 0,dB false,E 0,E 0,.p (.sl true 0 [])])::x4 l G log R v aZ t,[]⟩ from ?_);rw[AD] at I;refine go ?_;refine vX (aeM l hL G log t R v aZ zp BQ l4 mj bw U) ?_ ?_
 ·rintro y Y ⟨a,aa,Cd,h,rfl,rfl⟩;refine gP ?_;exact fP _ ⟨a,aa,Cd,by rw[<-I];exact bj h,rfl,rfl⟩
 rintro d Y ⟨r,s1,bO,fT,dc,jT,BM,jh,rfl,rfl⟩;rw[az bO] at I;obtain⟨ro,Cd⟩:=r;simp only at I BM jh;refine go ?_;cases ro with
 |none=>rw[show((none,Cd):Option aY×Int).1.isSome=false from rfl];refine go ?_;exact⟨(k,Cd,s1),⟨by simp only;omega,dc,by simp only;omega,by simp only;rw[jT];exact ff,BM,jh,I⟩,by simp only;omega,zX⟩
 |some o=>rw[show((some o,Cd):Option aY×Int).1.isSome=true from rfl];refine go ?_;exact fX _ ⟨o,s1,Cd,I.symm,by rw[jT];exact ff,rfl,rfl⟩
def N5(l:ah)(G:Int)(log:List aF)(D R:Int)(s:af)(m:Except aX (aY×af)):K->bJ->Prop:=λ d Y=>∃x aa,m=.ok (x,aa)/\eN aa.gone/\aa.gone.length+s.made<=s.gone.length+aa.made/\aa.made<=log.length/\d=lU x/\Y=xO l G log D R aa
def N6(l:ah)(G:Int)(log:List aF)(D R:Int)(m:Except aX (aY×af)):Value->bJ->Prop:=λ y Y=>∃a aa,m=.error a/\y=iK a/\Y=xO l G log D R aa
set_option maxHeartbeats 4000000 in
theorem ab1(l:ah)(hL:cr l)(G:Int)(log:List aF)(s:af)(D R:Int)(fp:eN s.gone)(gU:s.gone.length+log.length<=10000)(hm:s.made<=log.length)(U:log.length<=1000000):
 fM prog 136 [11,12,13,14,15,16,18] [.ptr 18 0] (xO l G log D R s) (N5 l G log D R s (Cv l G D R log s)) (N6 l G log D R (Cv l G D R log s)):=by
 generalize I:Cv l G D R log s=aQ;unfold Cv at I;refine sX func136 ntmps136 λ w cl own kf=>?_
 refine go ?_;refine cn (λ p:Nat×af=>s.made<=p.2.made/\p.2.made<=log.length/\log.length-p.2.made<p.1/\eN p.2.gone/\p.2.gone.length+s.made<=s.gone.length+p.2.made/\Ax l G D R p.1 log p.2=aQ) (λ p=>⟨[(0,.ptr 18 0),(1,.ptr 7 0)],(7,[E 0,dB false,E 0,E 0,.p (.sl true 0 [])])::xO l G log D R p.2,[]⟩) (λ p=>p.1) (log.length+1-s.made,s) ⟨Nat.le_refl _,hm,by simp only;omega,fp,Nat.le_refl _,I⟩ (zX) ?_;rintro⟨k,t⟩ ⟨cY,bw,iZ,ff,gV,I⟩;simp only at cY bw iZ ff gV I;obtain⟨k,rfl⟩:∃j,k=j+1:=⟨k-1,by omega⟩;refine(show aP _ _ _ _ ⟨[(0,.ptr 18 0),(1,.ptr 7 0)],(7,[E 0,dB false,E 0,E 0,.p (.sl true 0 [])])::xO l G log D R t,[]⟩ from ?_);rw[Ax] at I;refine go ?_;refine vX (ad9 l hL G log t D R ff (by omega) bw U) ?_ ?_
 ·rintro y Y ⟨a,aa,h,rfl,rfl⟩;refine gP ?_;exact fP _ ⟨a,aa,by rw[<-I];exact bj h,rfl,rfl⟩
 rintro d Y ⟨ro,s1,bO,fT,dc,jT,d4,rfl,rfl⟩;rw[az bO] at I;refine go ?_;cases ro with
 |none=>rw[show(none:Option aY).isSome=false from rfl];refine go ?_;exact⟨(k,s1),⟨by simp only;omega,dc,by simp only;omega,jT,by simp only;omega,I⟩,by simp only;omega,zX⟩
 |some o=>rw[show(some o).isSome=true from rfl];refine go ?_;exact fX _ ⟨o,s1,I.symm,jT,by omega,dc,rfl,rfl⟩
def uT(m:Except aX (aY×af)):K->bJ->Prop:=λ d Y=>Y=[]/\((∃x aa,m=.ok (x,aa)/\d=.bd [fC eZ,kj {x with gone:=aa.gone},dB true])\/∃a,m=.error a/\d=.bd [fC a,lU mw,dB false])
abbrev wU(a:aX)(od:List K)(dn:Bool):St:=⟨[(4,.ptr 22 0),(5,.ptr 23 0),(6,.ptr 24 0)],jo a od dn,[]⟩
def ym(m:Except aX (aY×af))(Γ:bN):Exit->St->Prop:=λ ex M=>(ex=.ret/\∃x aa,m=.ok (x,aa)/\bY Γ M (wU eZ (oU {x with gone:=aa.gone}) true))\/∃a,ex=.panic [pe (iK a)]/\m=.error a/\bY Γ M (wU eZ [E 0,dB false,E 0,E 0,.p (.sl true 0 [])] false)
set_option maxHeartbeats 4000000 in
theorem adm(l:ah)(G:Int)(log:List aF)(s:af)(R v:Int)(m:Except aX (aY×af))(ui:s.gone.length<=100000)(hC:fM prog 136 [11,12,13,14,15,16,17,18] [.ptr 18 0] (x4 l G log R v 0 s) (N8 l G log R v s m) (N9 l G log R v m)):
 eI prog 135 [] [.ptr 11 0,.fn (.func 136) [] [.ptr 18 0]] (x4 l G log R v 0 s) (uT m):=by
 intro e vs hI hv;refine calls_of_wp_defers func135 rfl ?_;have ip:=vS (fn:=f135) (f:=69) (aV:=[]) [] (by decide) trivial hI hv rfl;refine wp_seq (Code.wp_mono (λ ex a1 w1 hh=>?_) (aP.run (Q:=λ ex M=>ex=.normal/\M=⟨[(6,.ptr 24 0),(5,.ptr 23 0),(4,.ptr 22 0),(2,.ptr 21 0),(0,.ptr 11 0),(1,.fn (.func 136) [] [.ptr 18 0])],(24,[dB false])::(23,[E 0,dB false,E 0,E 0,.p (.sl true 0 [])])::(22,[E 0,E 0,E 0,E 0])::(21,[.ptr 11 0])::x4 l G log R v 0 s,[]⟩) ?_ _ e ip))
 ·obtain⟨ow,e1,rfl,cM,rfl,rfl⟩:=hh;obtain⟨k1,_,_,b1,_,_⟩:=cM.boxes 21 _ rfl;obtain⟨k2,_,_,b2,_,_⟩:=cM.boxes 22 _ rfl;obtain⟨k3,_,_,b3,_,_⟩:=cM.boxes 23 _ rfl;obtain⟨k4,_,_,b4,_,_⟩:=cM.boxes 24 _ rfl;refine wp_seq (CL cM rfl rfl rfl rfl rfl rfl rfl rfl [(21,k1),(22,k2),(23,k3),(24,k4)] (λ b k J=>?_) (λ a2 c7 dj e9=>?_))
  ·simp only[da] at J;split at J
   ·rename_i q;cases J;rw[<-q];exact b1
   ·split at J
    ·rename_i q;cases J;rw[<-q];exact b2
    ·split at J
     ·rename_i q;cases J;rw[<-q];exact b3
     ·split at J
      ·rename_i q;cases J;rw[<-q];exact b4
      ·cases J
  ·refine Code.wp_mono (λ ex a3 w3 hh=>?_) (aP.run (Γ:=⟨18,e.w,e.cl,λ k=>∃b,e.bx b=some k,[(21,k1),(22,k2),(23,k3),(24,k4)],[{target:=.fn (.func 182) c7.toArray,args:=#[]}]⟩) (Q:=ym m ⟨18,e.w,e.cl,λ k=>∃b,e.bx b=some k,[(21,k1),(22,k2),(23,k3),(24,k4)],[{target:=.fn (.func 182) c7.toArray,args:=#[]}]⟩) ?_ a2 e1 e9)
   ·obtain⟨FG,e3,rfl,iW,hq⟩:=hh;rcases hq with⟨rfl,x,aa,hm,fm⟩|⟨a,rfl,hm,fm⟩
    ·skip
     obtain⟨e4,lj,cq⟩:=fm a3 e3 iW;show Leaves prog f135 a3.tmps _ a3.defers .returning e3.w;rw[cq.df,<-lj];have lb:DReps e4 c7 [.ptr 22 0,.ptr 21 0,.ptr 23 0,.ptr 24 0]:=⟨dj.1,λ i v d hv D=>by
      match i,hv,D with
      |0,hv,D=>cases D;exact fa (dj.2 0 v _ hv rfl) b2 (cq.env.kb 22 k2 rfl)
      |1,hv,D=>cases D;exact fa (dj.2 1 v _ hv rfl) b1 (cq.env.kb 21 k1 rfl)
      |2,hv,D=>cases D;exact fa (dj.2 2 v _ hv rfl) b3 (cq.env.kb 23 k3 rfl)
      |3,hv,D=>cases D;exact fa (dj.2 3 v _ hv rfl) b4 (cq.env.kb 24 k4 rfl)⟩
     refine rX cq (λ a w=>call182 a w) lb rfl (by(repeat(first|exact trivial|refine⟨⟨rfl,rfl⟩,?_⟩))) ⟨.inr rfl,.inr rfl,.inr rfl,.inr rfl,trivial⟩ rfl (by simp) rfl (λ e0 qr A F=>Ar eZ {x with gone:=aa.gone} true A F) (λ aq Z=>by subst Z;exact⟨.inl rfl,.inl rfl,.inl rfl,.inl rfl,trivial⟩) (λ aq e5 Z dS=>?_);subst Z;obtain⟨v,hr,ky⟩:=pJ aD (fn:=f135) (d:=.bd [fC eZ,kj {x with gone:=aa.gone},dB true]) dS rfl;refine⟨v,hr,v,_,[],e5.cut (aI []) λ _=>false,rfl,rfl,⟨rfl,.inl ⟨x,aa,hm,rfl⟩⟩,lT dS trivial,ky.cut rfl,⟨dS.env.kept,dS.env.cl,λ b k J=>?_,λ b Z=>by cases Z⟩⟩;cases J
    ·skip
     obtain⟨e4,lj,cq⟩:=fm a3 e3 iW;show Leaves prog f135 a3.tmps _ a3.defers (.panicking [pe (iK a)]) e3.w;rw[cq.df,<-lj];have lb:DReps e4 c7 [.ptr 22 0,.ptr 21 0,.ptr 23 0,.ptr 24 0]:=⟨dj.1,λ i v d hv D=>by
      match i,hv,D with
      |0,hv,D=>cases D;exact fa (dj.2 0 v _ hv rfl) b2 (cq.env.kb 22 k2 rfl)
      |1,hv,D=>cases D;exact fa (dj.2 1 v _ hv rfl) b1 (cq.env.kb 21 k1 rfl)
      |2,hv,D=>cases D;exact fa (dj.2 2 v _ hv rfl) b3 (cq.env.kb 23 k3 rfl)
      |3,hv,D=>cases D;exact fa (dj.2 3 v _ hv rfl) b4 (cq.env.kb 24 k4 rfl)⟩
     refine rX cq (λ a w=>call182 a w) lb rfl (by(repeat(first|exact trivial|refine⟨⟨rfl,rfl⟩,?_⟩))) ⟨.inr rfl,.inr rfl,.inr rfl,.inr rfl,trivial⟩ rfl (by simp) rfl (λ e0 qr A F=>As eZ a _ rfl false A F) (λ aq Z=>by subst Z;exact⟨.inl rfl,.inl rfl,.inl rfl,.inl rfl,trivial⟩) (λ aq e5 Z dS=>?_);subst Z;obtain⟨v,hr,ky⟩:=pJ aD (fn:=f135) (d:=.bd [fC a,lU mw,dB false]) dS rfl;refine⟨v,hr,v,_,[],e5.cut (aI []) λ _=>false,rfl,rfl,⟨rfl,.inr ⟨a,hm,rfl⟩⟩,lT dS trivial,ky.cut rfl,⟨dS.env.kept,dS.env.cl,λ b k J=>?_,λ b Z=>by cases Z⟩⟩;cases J
   ·refine go ?_;refine vX hC ?_ ?_
    ·rintro v Y ⟨a,aa,aZ,h,rfl,rfl⟩;refine gP ?_;exact .inr ⟨a,rfl,h,bY.trans (rB 21 rfl rfl) (zX)⟩
    rintro d Y ⟨x,aa,aZ,h,y0,rfl,rfl⟩;refine gA ((pT aa.gone (by rw[y0];exact ui)).pure) ?_;refine gW 3 [22] ?_;refine go ?_;exact .inl ⟨rfl,x,aa,h,bY.trans (rB 21 rfl rfl) (zX)⟩
 ·refine gE ?_;refine bA 21 ?_;refine nA 22 ?_;refine nA 23 ?_;refine nA 24 ?_;exact kM ⟨rfl,rfl⟩
set_option maxHeartbeats 4000000 in
theorem adl(l:ah)(G:Int)(log:List aF)(s:af)(D R:Int)(m:Except aX (aY×af))(ui:s.gone.length+log.length<=100000)(hC:fM prog 136 [11,12,13,14,15,16,18] [.ptr 18 0] (xO l G log D R s) (N5 l G log D R s m) (N6 l G log D R m)):
 eI prog 135 [] [.ptr 11 0,.fn (.func 136) [] [.ptr 18 0]] (xO l G log D R s) (uT m):=by
 intro e vs hI hv;refine calls_of_wp_defers func135 rfl ?_;have ip:=vS (fn:=f135) (f:=69) (aV:=[]) [] (by decide) trivial hI hv rfl;refine wp_seq (Code.wp_mono (λ ex a1 w1 hh=>?_) (aP.run (Q:=λ ex M=>ex=.normal/\M=⟨[(6,.ptr 24 0),(5,.ptr 23 0),(4,.ptr 22 0),(2,.ptr 21 0),(0,.ptr 11 0),(1,.fn (.func 136) [] [.ptr 18 0])],(24,[dB false])::(23,[E 0,dB false,E 0,E 0,.p (.sl true 0 [])])::(22,[E 0,E 0,E 0,E 0])::(21,[.ptr 11 0])::xO l G log D R s,[]⟩) ?_ _ e ip))
 ·obtain⟨ow,e1,rfl,cM,rfl,rfl⟩:=hh;obtain⟨k1,_,_,b1,_,_⟩:=cM.boxes 21 _ rfl;obtain⟨k2,_,_,b2,_,_⟩:=cM.boxes 22 _ rfl;obtain⟨k3,_,_,b3,_,_⟩:=cM.boxes 23 _ rfl;obtain⟨k4,_,_,b4,_,_⟩:=cM.boxes 24 _ rfl;refine wp_seq (CL cM rfl rfl rfl rfl rfl rfl rfl rfl [(21,k1),(22,k2),(23,k3),(24,k4)] (λ b k J=>?_) (λ a2 c7 dj e9=>?_))
  ·simp only[da] at J;split at J
   ·rename_i q;cases J;rw[<-q];exact b1
   ·split at J
    ·rename_i q;cases J;rw[<-q];exact b2
    ·split at J
     ·rename_i q;cases J;rw[<-q];exact b3
     ·split at J
      ·rename_i q;cases J;rw[<-q];exact b4
      ·cases J
  ·refine Code.wp_mono (λ ex a3 w3 hh=>?_) (aP.run (Γ:=⟨18,e.w,e.cl,λ k=>∃b,e.bx b=some k,[(21,k1),(22,k2),(23,k3),(24,k4)],[{target:=.fn (.func 182) c7.toArray,args:=#[]}]⟩) (Q:=ym m ⟨18,e.w,e.cl,λ k=>∃b,e.bx b=some k,[(21,k1),(22,k2),(23,k3),(24,k4)],[{target:=.fn (.func 182) c7.toArray,args:=#[]}]⟩) ?_ a2 e1 e9)
   ·obtain⟨FG,e3,rfl,iW,hq⟩:=hh;rcases hq with⟨rfl,x,aa,hm,fm⟩|⟨a,rfl,hm,fm⟩
    ·skip
     obtain⟨e4,lj,cq⟩:=fm a3 e3 iW;show Leaves prog f135 a3.tmps _ a3.defers .returning e3.w;rw[cq.df,<-lj];have lb:DReps e4 c7 [.ptr 22 0,.ptr 21 0,.ptr 23 0,.ptr 24 0]:=⟨dj.1,λ i v d hv D=>by
      match i,hv,D with
      |0,hv,D=>cases D;exact fa (dj.2 0 v _ hv rfl) b2 (cq.env.kb 22 k2 rfl)
      |1,hv,D=>cases D;exact fa (dj.2 1 v _ hv rfl) b1 (cq.env.kb 21 k1 rfl)
      |2,hv,D=>cases D;exact fa (dj.2 2 v _ hv rfl) b3 (cq.env.kb 23 k3 rfl)
      |3,hv,D=>cases D;exact fa (dj.2 3 v _ hv rfl) b4 (cq.env.kb 24 k4 rfl)⟩
     refine rX cq (λ a w=>call182 a w) lb rfl (by(repeat(first|exact trivial|refine⟨⟨rfl,rfl⟩,?_⟩))) ⟨.inr rfl,.inr rfl,.inr rfl,.inr rfl,trivial⟩ rfl (by simp) rfl (λ e0 qr A F=>Ar eZ {x with gone:=aa.gone} true A F) (λ aq Z=>by subst Z;exact⟨.inl rfl,.inl rfl,.inl rfl,.inl rfl,trivial⟩) (λ aq e5 Z dS=>?_);subst Z;obtain⟨v,hr,ky⟩:=pJ aD (fn:=f135) (d:=.bd [fC eZ,kj {x with gone:=aa.gone},dB true]) dS rfl;refine⟨v,hr,v,_,[],e5.cut (aI []) λ _=>false,rfl,rfl,⟨rfl,.inl ⟨x,aa,hm,rfl⟩⟩,lT dS trivial,ky.cut rfl,⟨dS.env.kept,dS.env.cl,λ b k J=>?_,λ b Z=>by cases Z⟩⟩;cases J
    ·skip
     obtain⟨e4,lj,cq⟩:=fm a3 e3 iW;show Leaves prog f135 a3.tmps _ a3.defers (.panicking [pe (iK a)]) e3.w;rw[cq.df,<-lj];have lb:DReps e4 c7 [.ptr 22 0,.ptr 21 0,.ptr 23 0,.ptr 24 0]:=⟨dj.1,λ i v d hv D=>by
      match i,hv,D with
      |0,hv,D=>cases D;exact fa (dj.2 0 v _ hv rfl) b2 (cq.env.kb 22 k2 rfl)
      |1,hv,D=>cases D;exact fa (dj.2 1 v _ hv rfl) b1 (cq.env.kb 21 k1 rfl)
      |2,hv,D=>cases D;exact fa (dj.2 2 v _ hv rfl) b3 (cq.env.kb 23 k3 rfl)
      |3,hv,D=>cases D;exact fa (dj.2 3 v _ hv rfl) b4 (cq.env.kb 24 k4 rfl)⟩
     refine rX cq (λ a w=>call182 a w) lb rfl (by(repeat(first|exact trivial|refine⟨⟨rfl,rfl⟩,?_⟩))) ⟨.inr rfl,.inr rfl,.inr rfl,.inr rfl,trivial⟩ rfl (by simp) rfl (λ e0 qr A F=>As eZ a _ rfl false A F) (λ aq Z=>by subst Z;exact⟨.inl rfl,.inl rfl,.inl rfl,.inl rfl,trivial⟩) (λ aq e5 Z dS=>?_);subst Z;obtain⟨v,hr,ky⟩:=pJ aD (fn:=f135) (d:=.bd [fC a,lU mw,dB false]) dS rfl;refine⟨v,hr,v,_,[],e5.cut (aI []) λ _=>false,rfl,rfl,⟨rfl,.inr ⟨a,hm,rfl⟩⟩,lT dS trivial,ky.cut rfl,⟨dS.env.kept,dS.env.cl,λ b k J=>?_,λ b Z=>by cases Z⟩⟩;cases J
   ·refine go ?_;refine vX hC ?_ ?_
    ·rintro v Y ⟨a,aa,h,rfl,rfl⟩;refine gP ?_;exact .inr ⟨a,rfl,h,bY.trans (rB 21 rfl rfl) (zX)⟩
    rintro d Y ⟨x,aa,h,_,y0,pp,rfl,rfl⟩;refine gA ((pT aa.gone (by omega)).pure) ?_;refine gW 3 [22] ?_;refine go ?_;exact .inl ⟨rfl,x,aa,h,bY.trans (rB 21 rfl rfl) (zX)⟩
 ·refine gE ?_;refine bA 21 ?_;refine nA 22 ?_;refine nA 23 ?_;refine nA 24 ?_;exact kM ⟨rfl,rfl⟩
abbrev sH(r:aX×aY×Bool):K:=.bd [fC r.1,kj r.2.1,dB r.2.2]
set_option maxHeartbeats 8000000 in
theorem EU(l:ah)(hL:cr l)(G:Int)(gone:List (Int×Int))(op:bl)(log:List aF)(hv:op.kind=6->0<=op.a/\op.a<4294967296)(fp:eN gone)(gU:gone.length+log.length<=10000):bc prog 107 [dP l,E G,eh gone,JD op,gT log] (sH (dJ l G gone op log)):=by
 generalize I:dJ l G gone op log=aQ;unfold dJ at I;have U:log.length<=1000000:=by omega
 refine sP func107 ntmps107 λ w cl=>?_
 refine gE ?_;refine bA 0 ?_;refine bA 1 ?_;refine nA 2 ?_;refine nA 3 ?_;refine go ?_;refine dQ [] ?_;refine gQ (GV l hL op.obj) ?_;refine cQ (UM l hL op.obj) ?_;refine qg ?_;generalize A:decide (gm l op.obj<0)=cc;cases cc
 ·rw[if_neg (of_decide_eq_false A)] at I;refine go ?_;refine cI (Db l G gone log) ?_;rintro d Y ⟨rfl,rfl⟩;refine im ?_;refine gE ?_;refine nA 18 ?_;refine go ?_;generalize F:decide (op.kind=6)=cc;cases cc
  ·rw[if_neg (of_decide_eq_false F)] at I;refine go ?_;generalize O:decide (op.kind=7)=cc;cases cc
   ·rw[if_neg (of_decide_eq_false O)] at I;refine gA (tz gone (by omega)) ?_;refine ez ?_;rw[<-I]
   ·rw[if_pos (of_decide_eq_true O)] at I;refine go ?_;refine cI (ad8 l G log ⟨0,gone,0,0,0⟩ (gm l op.obj) (mY l op.obj)) ?_;rintro d Y ⟨rfl,rfl⟩;refine go ?_;refine il (adl l G log ⟨0,gone,0,0,0⟩ (gm l op.obj) (mY l op.obj) _ (by simp only;omega) (ab1 l hL G log ⟨0,gone,0,0,0⟩ (gm l op.obj) (mY l op.obj) fp gU (Nat.zero_le _) U)) rfl (λ a w=>call135 a w) rfl rfl (by(repeat(first|exact trivial|refine⟨⟨rfl,rfl⟩,?_⟩))) trivial rfl rfl rfl rfl ?_ ?_
    ·rintro d Y ⟨rfl,_⟩;exact trivial
    rintro d Y ⟨rfl,⟨x,aa,hm,rfl⟩|⟨a,hm,rfl⟩⟩
    ·rw[hm] at I;refine gf ?_;rw[<-I];rfl
    ·rw[hm] at I;refine gf ?_;rw[<-I];rfl
  ·rw[if_pos (of_decide_eq_true F)] at I;have Rt:=hv (of_decide_eq_true F);refine go ?_;refine cI (aeO l G log ⟨0,gone,0,0,0⟩ (mY l op.obj) op.a) ?_;rintro d Y ⟨rfl,rfl⟩;refine go ?_;refine il (adm l G log ⟨0,gone,0,0,0⟩ (mY l op.obj) op.a _ (by simp only;omega) (ab2 l hL G log ⟨0,gone,0,0,0⟩ (mY l op.obj) op.a Rt.1 Rt.2 (Nat.zero_le _) U)) rfl (λ a w=>call135 a w) rfl rfl (by(repeat(first|exact trivial|refine⟨⟨rfl,rfl⟩,?_⟩))) trivial rfl rfl rfl rfl ?_ ?_
   ·rintro d Y ⟨rfl,_⟩;exact trivial
   rintro d Y ⟨rfl,⟨x,aa,hm,rfl⟩|⟨a,hm,rfl⟩⟩
   ·rw[hm] at I;refine gf ?_;rw[<-I];rfl
   ·rw[hm] at I;refine gf ?_;rw[<-I];rfl
 ·rw[if_pos (of_decide_eq_true A)] at I;refine gA (tz gone (by omega)) ?_;refine ez ?_;rw[<-I]
end Go.Proofs.YtcnefjfboagbmaaGreat.Sg
