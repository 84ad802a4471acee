/- A map's programs: what comes behind an operation; operations: their walks. -/
import Derived.Test.YtcnefjfboagbmaaGreatWC
import Derived.Test.YtcnefjfboagbmaaGreatWB
namespace Go.Proofs.YtcnefjfboagbmaaGreat
open Go.Proofs.Tryz
open Go.RowKit
set_option maxRecDepth 100000
theorem adv:∀n:Nat,n<65->1<=n->(decide (IntKind.i64.wrap (((BitVec.ofInt 64 (n:Int)&&&BitVec.ofInt 64 ((n:Int)-1)).toNat:Nat):Int)=0))=E6 (n:Int):=by decide+kernel
theorem adw{n:Int}(h0:1<=n)(A:n<=64):(decide (IntKind.i64.wrap (((BitVec.ofInt 64 n&&&BitVec.ofInt 64 (n-1)).toNat:Nat):Int)=0))=E6 n:=by obtain⟨m,rfl⟩:=Int.eq_ofNat_of_zero_le (show 0<=n by omega);exact adv m (by omega) (by omega)
theorem Ie(g:List (Int×Int))(hg:g.length<=100000):bc prog 116 [eh g] (.bd [fC eZ,kj ⟨0,false,1,-1,g⟩,dB true]):=by
 refine sP func116 ntmps116 λ w cl=>?_
 refine gA ((pT g hg).pure) ?_;refine ez ?_
 rfl
abbrev yr(l:ah)(G m:Int)(log:List aF)(s:af):bJ:=[(40,sf l G m log s),(53,[.ptr 40 0]),(54,[E (i3 l m 1)])]
theorem VW(l:ah)(hL:cr l)(hM:kJ l)(G m:Int)(log:List aF)(size:Int)(s:af)(ahF:1<=size)(RA:size<=64)(h0:m6 log s):
 CZ 142 [40,53,54] (yr l G m log) log s [E size,.ptr 53 0,.ptr 54 0] (sD l m 2 size log s) (λ _=>.bd []):=by
 generalize I:sD l m 2 size log s=aQ;rw[sD,if_pos rfl] at I;have ew:IntKind.i64.wrap (2*size)=2*size:=eU (by omega) (by omega);refine sX func142 ntmps142 λ w cl own kf=>?_
 refine go ?_;refine xP (CC l G m log s ⟨4,i3 l m 1,0,1⟩ h0) ?_;rintro d Y ⟨r,s1,bO,gk,rfl,rfl⟩;rw[az bO] at I;have A:=h0.next gk;refine go ?_;rw[ew];refine go ?_;generalize k1:decide (r.val>=2*size)=cc;cases cc
 ·rw[if_neg (λ h=>of_decide_eq_false k1 h.1)] at I;refine go ?_;exact fX _ ⟨(),s1,I.symm,gk,rfl,rfl⟩
 refine go ?_;generalize k2:decide (size<l.buckets)=cc;cases cc
 ·rw[if_neg (λ h=>of_decide_eq_false k2 h.2)] at I;refine go ?_;exact fX _ ⟨(),s1,I.symm,gk,rfl,rfl⟩
 rw[if_pos ⟨of_decide_eq_true k1,of_decide_eq_true k2⟩] at I;refine go ?_;refine dW 14 [] ?_;refine gQ (B9 l hL hM m 0 (by omega)) ?_;rw[ew];refine xP (CC l G m log s1 ⟨3,i3 l m 0,size,2*size⟩ A) ?_;rintro d Y ⟨r2,s2,bg,fQ,rfl,rfl⟩;rw[az bg] at I;refine go ?_;exact fX _ ⟨(),s2,I.symm,gk.AH fQ,rfl,rfl⟩
theorem VX(l:ah)(G m:Int)(log:List aF)(size:Int)(s:af)(h0:m6 log s):
 CZ 143 [40,53,54] (yr l G m log) log s [E size,.ptr 53 0,.ptr 54 0] (sD l m 3 size log s) (λ _=>.bd []):=by
 generalize I:sD l m 3 size log s=aQ;rw[sD,if_neg (by decide),if_pos rfl] at I;refine sX func143 ntmps143 λ w cl own kf=>?_
 refine go ?_;refine xP (CC l G m log s ⟨4,i3 l m 1,0,-1⟩ h0) ?_;rintro d Y ⟨r,s1,bO,gk,rfl,rfl⟩;rw[az bO] at I;refine go ?_;exact fX _ ⟨(),s1,I.symm,gk,rfl,rfl⟩
theorem VV(l:ah)(G m:Int)(log:List aF)(size:Int)(s:af)(h0:m6 log s):
 CZ 141 [40,53,54] (yr l G m log) log s [E size] (sD l m 1 size log s) (λ _=>.bd []):=by
 rw[show sD l m 1 size log s=.ok ((),s) by rw[sD,if_neg (by decide),if_neg (by decide)];rfl];refine sX func141 ntmps141 λ w cl own kf=>?_
 refine go ?_;exact fX _ ⟨(),s,rfl,h0.refl,rfl,rfl⟩
abbrev pF(gC:K)(l:ah)(G:Int)(op:bl)(log:List aF)(s:af):bJ:=[(40,sf l G op.obj log s),(55,[.ptr 40 0]),(56,cG l),(57,[E op.kind,E op.obj,E op.a,E op.b]),(58,[gC]),(53,[.ptr 40 0]),(54,[E (i3 l op.obj 1)])]
structure IW where
 o:aY
 s:af
 ex:Bool
 k:Nat
 ps:List Pl
abbrev S5(p:IW):K:=.agg [E p.o.val,dB p.o.is,E p.o.err,E p.o.c6,.p (.sl p.ex p.k p.ps)]
def IX(bx:af->bJ)(log:List aF)(m:Except aX (aY×af))(s:af):K->bJ->Prop:=λ d Y=>∃p:IW,m=.ok (p.o,p.s)/\ik log s p.s/\d=S5 p/\Y=bx p.s
abbrev JP:K:=.fn (.func 141) [] []
abbrev JQ:K:=.fn (.func 142) [] [.ptr 53 0,.ptr 54 0]
abbrev JR:K:=.fn (.func 143) [] [.ptr 53 0,.ptr 54 0]
structure FD(d:K):Prop where
 t:True
abbrev wZ{d:K}(_:FD d):K:=d
set_option maxHeartbeats 16000000 in
theorem Nb(gC:K)(l:ah)(hL:cr l)(hS:0<=l.ar)(hM:kJ l)(G:Int)(op:bl)(log:List aF)(s:af)(hf:op.kind=1/\gC=JP\/op.kind=2/\gC=JQ\/op.kind=3/\gC=JR)(yQ:0<=op.a)(yR:op.a<65536)(h0:m6 log s):
 fM prog 118 [40,53,54,55,56,57,58] [.ptr 55 0,.ptr 56 0,.ptr 57 0,.ptr 58 0] (pF gC l G op log s) (IX (pF gC l G op log) log (x6 l G op log s) s) (yk (pF gC l G op log) (x6 l G op log s)):=by
 generalize I:x6 l G op log s=aQ;rw[x6] at I;obtain⟨agT,agU⟩:=hM.b;obtain⟨kd,ob,ka,kb⟩:=op;simp only at hf yQ yR I;have vo:FD gC:=⟨trivial⟩;rcases hf with⟨sZ,rfl⟩|⟨sZ,rfl⟩|⟨sZ,rfl⟩
 all_goals
  refine sX func118 ntmps118 λ w cl own kf=>?_
  refine gE ?_;refine nA 47 ?_;refine go ?_;refine dW 8 [] ?_;refine gQ (B9 l hL hM ob 0 (by omega)) ?_;refine xP (CC l G ob log s ⟨1,i3 l ob 0,0,0⟩ h0) ?_;rintro d Y ⟨r,s1,bO,gk,rfl,rfl⟩;rw[az bO] at I;have A:=h0.next gk;have DT:(r.val<1\/l.buckets<r.val\/E6 r.val=false)->aQ=.ok (⟨0,false,1,-1,[]⟩,s1):=λ h=>by rw[if_pos h] at I;exact I.symm
  have Hj:∀p:IW,aQ=.ok (p.o,p.s)->ik log s p.s->IX (pF (wZ vo) l G ⟨kd,ob,ka,kb⟩ log) log aQ s (S5 p) (pF (wZ vo) l G ⟨kd,ob,ka,kb⟩ log p.s):=λ p A F=>⟨p,A,F,rfl,rfl⟩
  refine go ?_;generalize k1:decide (r.val<1)=cc;cases cc
  rotate_left
  ·refine go ?_;refine fX (pF (wZ vo) l G ⟨kd,ob,ka,kb⟩ log s1) ?_;exact Hj ⟨⟨0,false,1,-1,[]⟩,s1,true,0,[]⟩ (DT (.inl (of_decide_eq_true k1))) gk
  have qh:=of_decide_eq_false k1;refine go ?_;generalize k2:decide (r.val>l.buckets)=cc;cases cc
  rotate_left
  ·refine go ?_;refine fX (pF (wZ vo) l G ⟨kd,ob,ka,kb⟩ log s1) ?_;exact Hj ⟨⟨0,false,1,-1,[]⟩,s1,true,0,[]⟩ (DT (.inr (.inl (of_decide_eq_true k2)))) gk
  have xD:=of_decide_eq_false k2;have Ev:=adw (n:=r.val) (by omega) (by omega);refine go ?_;rw[Ev];cases xu:E6 r.val
  ·refine go ?_;refine fX (pF (wZ vo) l G ⟨kd,ob,ka,kb⟩ log s1) ?_;exact Hj ⟨⟨0,false,1,-1,[]⟩,s1,true,0,[]⟩ (DT (.inr (.inr xu))) gk
  rw[if_neg (by rw[xu];simp;omega)] at I;refine go ?_;have l4:=Int.emod_nonneg ka (show r.val≠0 by omega);have mj:=Int.emod_lt_of_pos ka (show 0<r.val by omega);have lc:=aeF l hL hS hM G ob log (ka%r.val) s1 l4 (by omega) A;refine FS (λ p:CP=>IJ log (nX l G ob 64 (ka%r.val) log s1) s1 p) (λ p=>⟨[(6,E p.n),(7,.ptr 48 0),(4,.ptr 47 0),(5,E r.val),(0,.ptr 55 0),(1,.ptr 56 0),(2,.ptr 57 0),(3,.ptr 58 0)],[(40,sf l G ob log p.s),(55,[.ptr 40 0]),(56,cG l),(57,[E kd,E ob,E ka,E kb]),(58,[(wZ vo)]),(53,[.ptr 40 0]),(54,[E (i3 l ob 1)]),(47,[E 0,dB false,E 0,E 0,.p (.sl true 0 [])]),(48,[E p.o.val,dB p.o.is,E p.o.err,E p.o.c6,.p (.sl p.ex p.k p.ps)])],[]⟩) ?_ ?_
  ·have yY:∀x,nX l G ob 64 (ka%r.val) log s1=.error x->aQ=.error x:=λ x h=>by rw[<-I];exact bj h
   refine xR 5 9 48 7 6 ?_;refine br ?_;refine cV (Fa rfl rfl rfl (by omega) (by omega)) rfl rfl ?_;refine br ?_;refine Jk rfl rfl rfl ?_ (λ hB=>?_)
   all_goals repeat' (first|refine tA 6 ?_|refine tA 7 ?_|refine tA 8 ?_|refine oA 5 ?_|refine oA 9 ?_|refine oA 10 ?_|refine oA 11 ?_|refine oB 5 9 ?_ ?_|exact dA ⟨rfl,⟨p,hp,zX⟩⟩|exact nx hB|refine xX lc ?_ ?_|(rintro v Y ⟨a,aa,h,rfl,rfl⟩;refine Mz (My ?_);refine gP ?_;exact fP _ ⟨a,aa,yY a h,rfl,rfl⟩)|(rintro d Y ⟨p,hp,rfl,rfl⟩;refine nx (FO ?_))|(refine nA 48 ?_;first|exact nx hB|refine nx ?_)|((first|refine z2 ?_|refine z5 ?_);refine nx ?_))
  rintro⟨dn,dq,s2,JJ,JH,Mu⟩ ⟨bg,fQ,YT,YU⟩;simp only at bg fQ YT YU;rw[az bg] at I;have F:=A.next fQ;have DD:=gk.AH fQ;simp only at I;refine go ?_;generalize k3:decide (dq.err=0)=cc;cases cc
  ·rw[if_pos (of_decide_eq_false k3)] at I;refine go ?_;refine fX (pF (wZ vo) l G ⟨kd,ob,ka,kb⟩ log s2) ?_;exact Hj ⟨dq,s2,JJ,JH,Mu⟩ I.symm DD
  rw[if_neg (λ h=>h (of_decide_eq_true k3))] at I;have KW:=Um l hL hS hM G ob log s2 kd dn (Ic ka) kb F (by omega);refine go ?_;refine Ji 9 10 [] rfl rfl (by kernel_rfl) (by kernel_rfl) (by kernel_rfl) rfl rfl ?_;refine gQ (ad7 ka) ?_;refine xP KW ?_;rintro d Y ⟨q,s3,bV,iV,rfl,rfl⟩;rw[az bV] at I;obtain⟨⟨ov,v7,oe,H2,og⟩,a3⟩:=q;have O:=F.next iV;have DE:=DD.AH iV;simp only at I;refine im ?_;refine abd [48] rfl rfl ?_;refine qg ?_;cases v7
  ·rw[if_neg (by decide)] at I;refine go ?_;exact fX _ ⟨⟨⟨ov,false,oe,H2,og⟩,s3,false,og.length,g6 og⟩,I.symm,DE,rfl,rfl⟩
  rw[if_pos rfl] at I;subst sZ;refine go ?_
 refine vP (VV l G ob log r.val s3 O) ?_
 rotate_left
 refine vP (VW l hL hM G ob log r.val s3 (by omega) (by omega) O) ?_
 rotate_left
 refine vP (VX l G ob log r.val s3 O) ?_
 rotate_left
 all_goals
  rintro d Y ⟨u,s4,cX,lY,rfl,rfl⟩;rw[az cX] at I;refine go ?_;exact fX _ ⟨⟨⟨ov,true,oe,H2,og⟩,s4,false,og.length,g6 og⟩,I.symm,DE.AH lY,rfl,rfl⟩
theorem aaf{e:aC}{vs:List Value}(a:aX)(o:aY)(dn:Bool)(hI:fY (jo a (oU o) dn) e)(hv:DReps e vs [.ptr 22 0,.ptr 21 0,.ptr 23 0,.ptr 24 0]):
 CallsD prog 144 vs.toArray .returning e.w λ r u2 aM=>∃ab aq,r=.returned (.tuple #[])/\u2=.returning/\ab.w=aM/\fY aq ab/\Left [21,22,23,24] e ab/\aq=jo a (oU o) dn:=by
 refine xQ (ap:=tb) func144 rfl ntmps144 rfl rfl rfl (by(repeat(first|exact trivial|refine⟨rfl,?_⟩))) (λ _ _=>rfl) (λ _=>rfl) rfl rfl .no (λ w cl own kf=>?_) hI hv;refine go ?_;refine bh (Hw underlying20 rfl rfl) rfl rfl rfl ?_;refine go ?_;refine km (jo a (oU o) dn) rfl rfl (by(repeat(first|exact trivial|refine⟨⟨rfl,rfl⟩,?_⟩))) (by(repeat(first|exact trivial|refine⟨rfl,?_⟩))) rfl
theorem aag{e:aC}{vs:List Value}(a bs:aX)(od:List K)(ho:od=[E 0,dB false,E 0,E 0,.p (.sl true 0 [])])(dn:Bool)(hI:fY (jo a od dn) e)(hv:DReps e vs [.ptr 22 0,.ptr 21 0,.ptr 23 0,.ptr 24 0]):
 CallsD prog 144 vs.toArray (.panicking [pe (AX bs)]) e.w λ r u2 aM=>∃ab aq,r=.returned (.tuple #[])/\u2=.panicking [{v:=AX bs,recovered:=true}]/\ab.w=aM/\fY aq ab/\Left [21,22,23,24] e ab/\aq=jo bs od dn:=by
 subst ho;refine xQ (ap:=tb) func144 rfl ntmps144 rfl rfl rfl (by(repeat(first|exact trivial|refine⟨rfl,?_⟩))) (λ _ _=>rfl) (λ _=>rfl) rfl rfl (.yes (AX bs)) (λ w cl own kf=>?_) hI hv;refine go ?_;refine bh (Hx underlying20 rfl rfl) rfl rfl rfl ?_;refine go ?_;refine bh (FQ aD rfl rfl rfl rfl) rfl rfl rfl ?_;refine go ?_;refine km (jo bs _ dn) rfl rfl (by(repeat(first|exact trivial|refine⟨⟨rfl,rfl⟩,?_⟩))) (by(repeat(first|exact trivial|refine⟨rfl,?_⟩))) rfl
abbrev Qn(a:aX)(od:List K)(dn:Bool):St:=⟨[(4,.ptr 22 0),(5,.ptr 23 0),(6,.ptr 24 0)],jo a od dn,[]⟩
def Vl(m:Except aX (aY×af))(Γ:bN):Exit->St->Prop:=λ ex M=>(ex=.ret/\∃x aa,m=.ok (x,aa)/\bY Γ M (Qn eZ (oU {x with gone:=aa.gone}) true))\/∃a,ex=.panic [pe (AX a)]/\m=.error a/\bY Γ M (Qn eZ [E 0,dB false,E 0,E 0,.p (.sl true 0 [])] false)
set_option maxHeartbeats 4000000 in
theorem K4(gC:K)(hf:gC=JP\/gC=JQ\/gC=JR)(l:ah)(G:Int)(log:List aF)(op:bl)(s:af)(m:Except aX (aY×af))(ui:s.gone.length+log.length<=100000)(hC:fM prog 118 [40,53,54,55,56,57,58] [.ptr 55 0,.ptr 56 0,.ptr 57 0,.ptr 58 0] (pF gC l G op log s) (IX (pF gC l G op log) log m s) (yk (pF gC l G op log) m)):
 eI prog 117 [] [.ptr 40 0,.fn (.func 118) [] [.ptr 55 0,.ptr 56 0,.ptr 57 0,.ptr 58 0]] (pF gC l G op log s) (uT m):=by
 have vo:FD gC:=⟨trivial⟩;rcases hf with rfl|rfl|rfl
 all_goals
  intro e vs hI hv;refine calls_of_wp_defers func117 rfl ?_;have ip:=vS (fn:=f117) (f:=117) (aV:=[]) [] (Nat.le_of_ble_eq_true (by kernel_rfl)) trivial hI hv rfl;refine wp_seq (Code.wp_mono (λ ex a1 w1 hh=>?_) (aP.run (Q:=λ ex M=>ex=.normal/\M=⟨[(6,.ptr 24 0),(5,.ptr 23 0),(4,.ptr 22 0),(2,.ptr 21 0),(0,.ptr 40 0),(1,.fn (.func 118) [] [.ptr 55 0,.ptr 56 0,.ptr 57 0,.ptr 58 0])],(24,[dB false])::(23,[E 0,dB false,E 0,E 0,.p (.sl true 0 [])])::(22,[E 0,E 0,E 0,E 0])::(21,[.ptr 40 0])::pF (wZ vo) l G op log s,[]⟩) ?_ _ e ip))
  ·obtain⟨ow,e1,rfl,cM,rfl,rfl⟩:=hh;obtain⟨k1,_,_,b1,_,_⟩:=cM.boxes 21 _ rfl;obtain⟨k2,_,_,b2,_,_⟩:=cM.boxes 22 _ rfl;obtain⟨k3,_,_,b3,_,_⟩:=cM.boxes 23 _ rfl;obtain⟨k4,_,_,b4,_,_⟩:=cM.boxes 24 _ rfl;refine wp_seq (CL cM rfl rfl rfl rfl rfl rfl rfl rfl [(21,k1),(22,k2),(23,k3),(24,k4)] (λ b k J=>?_) (λ a2 c7 dj e9=>?_))
   ·simp only[da] at J;split at J
    ·rename_i q;cases J;rw[<-q];exact b1
    ·split at J
     ·rename_i q;cases J;rw[<-q];exact b2
     ·split at J
      ·rename_i q;cases J;rw[<-q];exact b3
      ·split at J
       ·rename_i q;cases J;rw[<-q];exact b4
       ·cases J
   ·refine Code.wp_mono (λ ex a3 w3 hh=>?_) (aP.run (Γ:=⟨18,e.w,e.cl,λ k=>∃b,e.bx b=some k,[(21,k1),(22,k2),(23,k3),(24,k4)],[{target:=.fn (.func 144) c7.toArray,args:=#[]}]⟩) (Q:=Vl m ⟨18,e.w,e.cl,λ k=>∃b,e.bx b=some k,[(21,k1),(22,k2),(23,k3),(24,k4)],[{target:=.fn (.func 144) c7.toArray,args:=#[]}]⟩) ?_ a2 e1 e9)
    ·obtain⟨FG,e3,rfl,iW,hq⟩:=hh;rcases hq with⟨rfl,x,aa,hm,fm⟩|⟨a,rfl,hm,fm⟩
     ·skip
      obtain⟨e4,lj,cq⟩:=fm a3 e3 iW;show Leaves prog f117 a3.tmps _ a3.defers .returning e3.w;rw[cq.df,<-lj];have lb:DReps e4 c7 [.ptr 22 0,.ptr 21 0,.ptr 23 0,.ptr 24 0]:=⟨dj.1,λ i v d hv D=>by
       match i,hv,D with
       |0,hv,D=>cases D;exact fa (dj.2 0 v _ hv rfl) b2 (cq.env.kb 22 k2 rfl)
       |1,hv,D=>cases D;exact fa (dj.2 1 v _ hv rfl) b1 (cq.env.kb 21 k1 rfl)
       |2,hv,D=>cases D;exact fa (dj.2 2 v _ hv rfl) b3 (cq.env.kb 23 k3 rfl)
       |3,hv,D=>cases D;exact fa (dj.2 3 v _ hv rfl) b4 (cq.env.kb 24 k4 rfl)⟩
      refine rX cq (λ a w=>call144 a w) lb rfl (by(repeat(first|exact trivial|refine⟨⟨rfl,rfl⟩,?_⟩))) ⟨.inr rfl,.inr rfl,.inr rfl,.inr rfl,trivial⟩ rfl (by simp) rfl (λ e0 qr A F=>aaf eZ {x with gone:=aa.gone} true A F) (λ aq Z=>by subst Z;exact⟨.inl rfl,.inl rfl,.inl rfl,.inl rfl,trivial⟩) (λ aq e5 Z dS=>?_);subst Z;obtain⟨v,hr,ky⟩:=pJ aD (fn:=f117) (d:=.bd [fC eZ,kj {x with gone:=aa.gone},dB true]) dS rfl;refine⟨v,hr,v,_,[],e5.cut (aI []) λ _=>false,rfl,rfl,⟨rfl,.inl ⟨x,aa,hm,rfl⟩⟩,lT dS trivial,ky.cut rfl,⟨dS.env.kept,dS.env.cl,λ b k J=>?_,λ b Z=>by cases Z⟩⟩;cases J
     ·skip
      obtain⟨e4,lj,cq⟩:=fm a3 e3 iW;show Leaves prog f117 a3.tmps _ a3.defers (.panicking [pe (AX a)]) e3.w;rw[cq.df,<-lj];have lb:DReps e4 c7 [.ptr 22 0,.ptr 21 0,.ptr 23 0,.ptr 24 0]:=⟨dj.1,λ i v d hv D=>by
       match i,hv,D with
       |0,hv,D=>cases D;exact fa (dj.2 0 v _ hv rfl) b2 (cq.env.kb 22 k2 rfl)
       |1,hv,D=>cases D;exact fa (dj.2 1 v _ hv rfl) b1 (cq.env.kb 21 k1 rfl)
       |2,hv,D=>cases D;exact fa (dj.2 2 v _ hv rfl) b3 (cq.env.kb 23 k3 rfl)
       |3,hv,D=>cases D;exact fa (dj.2 3 v _ hv rfl) b4 (cq.env.kb 24 k4 rfl)⟩
      refine rX cq (λ a w=>call144 a w) lb rfl (by(repeat(first|exact trivial|refine⟨⟨rfl,rfl⟩,?_⟩))) ⟨.inr rfl,.inr rfl,.inr rfl,.inr rfl,trivial⟩ rfl (by simp) rfl (λ e0 qr A F=>aag eZ a _ rfl false A F) (λ aq Z=>by subst Z;exact⟨.inl rfl,.inl rfl,.inl rfl,.inl rfl,trivial⟩) (λ aq e5 Z dS=>?_);subst Z;obtain⟨v,hr,ky⟩:=pJ aD (fn:=f117) (d:=.bd [fC a,lU mw,dB false]) dS rfl;refine⟨v,hr,v,_,[],e5.cut (aI []) λ _=>false,rfl,rfl,⟨rfl,.inr ⟨a,hm,rfl⟩⟩,lT dS trivial,ky.cut rfl,⟨dS.env.kept,dS.env.cl,λ b k J=>?_,λ b Z=>by cases Z⟩⟩;cases J
    ·refine go ?_;refine vX hC ?_ ?_
     ·rintro v Y ⟨a,aa,h,rfl,rfl⟩;refine gP ?_;exact .inr ⟨a,rfl,h,bY.trans (rB 21 rfl rfl) (zX)⟩
     rintro d Y ⟨⟨x,aa,ex,k,ps⟩,h,pp,rfl,rfl⟩;simp only at h pp;have Zi:=pp.len;have Zj:=pp.le;refine gA ((pT aa.gone (by omega)).pure) ?_;refine gW 3 [22] ?_;refine go ?_;exact .inl ⟨rfl,x,aa,h,bY.trans (rB 21 rfl rfl) (zX)⟩
  ·refine gE ?_;refine bA 21 ?_;refine nA 22 ?_;refine nA 23 ?_;refine nA 24 ?_;exact kM ⟨rfl,rfl⟩
def Dc(f:FuncId)(kf:Nat->Nat):Value:=.func (.func f) #[] #[.pointer (some ⟨kf 53,0,none⟩),.pointer (some ⟨kf 54,0,none⟩)]
def OK(kf:Nat->Nat):Array MapEntry:=((#[].push ⟨.int .i64 1,.func (.func 141) #[] #[],0⟩).push ⟨.int .i64 2,Dc 142 kf,1⟩).push ⟨.int .i64 3,Dc 143 kf,2⟩
theorem WD(l:ah)(hL:cr l)(hM:kJ l)(G m:Int)(log:List aF)(s:af):N3 prog 115 [40] [.ptr 40 0] (xL l G m log s) (yr l G m log s) [53,54] OK:=by
 intro e vs hI hv;refine calls_of_wp func115 rfl ?_;have xq:kK (xL l G m log s) [40]:=⟨rfl,trivial⟩;have ip:=vS (fn:=f115) (f:=115) (aV:=[40]) [] (by decide) xq hI hv rfl;refine wp_seq (Code.wp_mono (λ ex a1 w1 hh=>?_) (aP.run (Q:=λ ex M=>ex=.normal/\M=⟨[(2,.p (.raw (.map none))),(1,.ptr 53 0),(0,.ptr 40 0)],(53,[.ptr 40 0])::xL l G m log s,[]⟩) ?_ _ e ip))
 ·obtain⟨ow,e1,rfl,cM,rfl,rfl⟩:=hh;refine wp_seq (Code.wp_mono (λ ex a2 w2 hh=>?_) (aP.run (Q:=λ ex M=>ex=.normal/\bY ⟨f115.ntmps,e.w,e.cl,λ k=>∃b,e.bx b=some k,mp (λ b=>(e.bx b).getD 0) [40],[]⟩ M ⟨[(3,.ptr 54 0),(1,.ptr 53 0)],yr l G m log s,[]⟩) ?_ _ e1 cM))
  ·obtain⟨rz,agv,rfl,YK,rfl,fm⟩:=hh;obtain⟨e2,aaK,e9⟩:=fm _ _ YK;rw[<-aaK];obtain⟨k1,_,_,b1,_,_⟩:=e9.boxes 40 _ rfl;obtain⟨k2,_,_,b2,_,_⟩:=e9.boxes 53 _ rfl;obtain⟨k3,_,_,b3,_,_⟩:=e9.boxes 54 _ rfl;obtain⟨kf,KP⟩:∃kf:Nat->Nat,kf=λ b=>(e2.bx b).getD 0:=⟨_,rfl⟩
   have q1:e2.bx 40=some (kf 40):=by rw[KP];simp only[b1,Option.getD_some]
   have q2:e2.bx 53=some (kf 53):=by rw[KP];simp only[b2,Option.getD_some]
   have q3:e2.bx 54=some (kf 54):=by rw[KP];simp only[b3,Option.getD_some]
   refine wp_seq (wp_region_lit (abV (kb:=mp kf [40,53,54]) rfl rfl rfl rfl e9 (λ b k J=>?_) (λ b k J=>?_) (λ r pZ=>?_)))
   ·obtain⟨A,rfl⟩:=BV J;simp only[List.mem_cons,List.mem_nil_iff,or_false] at A;rcases A with rfl|rfl|rfl
    ·exact q1
    ·exact q2
    ·exact q3
   ·have F:=e9.env.kb b k J;obtain⟨A,rfl⟩:=BV J;simp only[List.mem_cons,List.mem_nil_iff,or_false] at A;subst A;rw[q1] at F;rw[zx (by simp)];exact F
   ·refine L1 (v:=.func (.func 141) #[] #[]) pZ rfl rfl (by rfl) (by rfl) rfl rfl rfl rfl (λ _ _ _ e h u hu=>XM hu) rfl rfl ?_;refine HT aD rfl rfl rfl rfl ?_;refine L1 (v:=Dc 142 kf) pZ rfl rfl (by rfl) (by rfl) rfl rfl rfl rfl (λ _ _ _ e h u hu=>PC (h.kb 53 _ rfl) (h.kb 54 _ rfl) hu) rfl rfl ?_;refine HT aD rfl rfl rfl rfl ?_;refine L1 (v:=Dc 143 kf) pZ rfl rfl (by rfl) (by rfl) rfl rfl rfl rfl (λ _ _ _ e h u hu=>PC (h.kb 53 _ rfl) (h.kb 54 _ rfl) hu) rfl rfl ?_;refine HT aD rfl rfl rfl rfl ?_;refine HT aD rfl rfl rfl rfl ?_;refine⟨λ aM bv cw hi a3 e3 iW=>?_⟩;have cq:=hi.pU iW;obtain⟨v,hr,ky⟩:=pJ aD (fn:=f115) (d:=.p (.raw (.map (some r)))) cq rfl;have:=dh ky;subst this;refine wp_ret ⟨cq.df,_,hr,r,_,kf,e3.cut (aI (yr l G m log s)) λ _=>false,rfl,rfl,lT cq (by(repeat(first|exact trivial|refine⟨⟨rfl,rfl⟩,?_⟩))),imp_left hI xq cq ⟨rfl,trivial⟩,λ n hn=>?_,hi.now iW.env⟩;have dV:=iW.env.kb n (kf n) (zx (by simp at hn⊢;omega));show(if aI (yr l G m log s) n=true then e3.bx n else none)=_;rw[if_pos]
    ·exact dV
    ·simp only[List.mem_cons,List.mem_nil_iff,or_false] at hn;rcases hn with rfl|rfl<;>rfl
  ·refine gW 10 [] ?_;refine cQ (B9 l hL hM m 1 (by omega)) ?_;refine sj (wH aD 54 rfl rfl rfl rfl) rfl rfl rfl rfl ?_;refine qg ?_;exact⟨rfl,zX⟩
 ·refine gE ?_;refine bA 53 ?_;refine go ?_;exact⟨rfl,rfl⟩
set_option maxHeartbeats 16000000 in
theorem Hc(gC:K)(kn:Bool)(l:ah)(hL:cr l)(hM:kJ l)(G:Int)(gone:List (Int×Int))(op:bl)(log:List aF)(hg:gone.length<=100000)(GW:ux gC=true)(p5:Nat.beq gC.cells.length 1=true)(xl:∀x,tD [x] 0 gC some=some [gC])(Qp:∀B au,B 53=true->B 54=true->K.ok.eR B au [gC]=true)(Ec:kn=decide (1<=op.kind/\op.kind<=3))
 (ku:∀(Γ fg:bN)(r ck:Nat)(kf:Nat->Nat),o6 Γ fg r (OK kf) ck->fg.kb=mp kf [53,54]->FK prog fg 143 r op.kind gC kn)
 (bH:kn=true->0<=op.a->op.a<65536->eI prog 117 [] [.ptr 40 0,.fn (.func 118) [] [.ptr 55 0,.ptr 56 0,.ptr 57 0,.ptr 58 0]] (pF gC l G op log ⟨0,gone,0,0,0⟩) (uT (x6 l G op log ⟨0,gone,0,0,0⟩))):
 bc prog 105 [dP l,E G,eh gone,.agg [E op.kind,E op.obj,E op.a,E op.b],gT log] (.bd [fC (s8 l G gone op log).1,kj (s8 l G gone op log).2.1,dB (s8 l G gone op log).2.2]):=by
 generalize I:s8 l G gone op log=aQ;unfold s8 at I;refine sP func105 ntmps105 λ w cl=>?_
 refine gE ?_;refine bA 56 ?_;refine bA 57 ?_;refine nA 60 ?_;refine nA 61 ?_;refine z2 ?_;refine kM ?_;refine gE ?_;refine z2 ?_;refine z2 ?_;refine z2 ?_;refine z2 ?_;refine z2 ?_;refine z2 ?_;refine z6 ?_;refine bA 40 ?_;refine nA 55 ?_;refine go ?_;refine ey (cb:=⟨[(13,.ptr 55 0),(12,dB false),(11,.ptr 61 0),(10,.ptr 60 0),(8,.ptr 57 0),(5,.ptr 56 0),(2,eh gone)],[(40,sf l G op.obj log ⟨0,gone,0,0,0⟩),(55,[.ptr 40 0]),(56,cG l),(57,[E op.kind,E op.obj,E op.a,E op.b]),(60,[E 0,E 0,E 0,E 0]),(61,[E 0,dB false,E 0,E 0,.p (.sl true 0 [])])],[]⟩) zX ?_;refine FS (λ _:Unit=>True) (λ _=>⟨[(15,dB kn),(14,.ptr 58 0),(13,.ptr 55 0),(12,dB false),(11,.ptr 61 0),(10,.ptr 60 0),(8,.ptr 57 0),(5,.ptr 56 0),(2,eh gone)],[(40,sf l G op.obj log ⟨0,gone,0,0,0⟩),(55,[.ptr 40 0]),(56,cG l),(57,[E op.kind,E op.obj,E op.a,E op.b]),(58,[gC]),(53,[.ptr 40 0]),(54,[E (i3 l op.obj 1)]),(60,[E 0,E 0,E 0,E 0]),(61,[E 0,dB false,E 0,E 0,.p (.sl true 0 [])])],[]⟩) ?_ (λ _ _=>?_)
 ·skip
  refine Jj rfl (FO ?_)
  repeat' (first|refine tA 2 ?_|refine tA 5 ?_|refine tA 6 ?_|refine tA 7 ?_|refine wA 0 ?_|refine wA 1 ?_|refine wA 3 ?_|refine wA 4 ?_|refine wA 8 ?_|refine wA 9 ?_|refine wA 10 ?_|refine wB 4 8 ?_ ?_|refine wB 1 8 ?_ ?_|refine wB 1 3 ?_ ?_|refine wB 3 8 ?_ ?_|refine wB 0 8 ?_ ?_|refine wB 0 3 ?_ ?_|refine wC 0 3 8 ?_ ?_ ?_|refine wC 1 3 8 ?_ ?_ ?_|exact dA ⟨rfl,(),trivial,zX (Z:=by exact⟨⟨rfl,rfl⟩,⟨rfl,rfl⟩,⟨rfl,rfl⟩,⟨rfl,rfl⟩,⟨rfl,Qp _ _ rfl rfl⟩,⟨rfl,rfl⟩,⟨rfl,rfl⟩,⟨rfl,rfl⟩,⟨rfl,rfl⟩,trivial⟩)⟩|(refine acR (WD l hL hM G op.obj log ⟨0,gone,0,0,0⟩) (by exact rfl) rfl (by exact rfl) (λ a w=>call115 a w) (by exact rfl) (by exact rfl) (by exact by(repeat(first|exact trivial|refine⟨⟨rfl,rfl⟩,?_⟩|refine⟨rfl,?_⟩))) (by exact rfl) (by exact rfl) (by exact rfl) (by exact rfl) (by exact rfl) (by exact⟨.inl rfl,.inr rfl,.inr rfl,trivial⟩) (by exact⟨rfl,rfl,trivial⟩) (λ r ck kf aM bv cw hi=>?_);have n6:=ku _ _ r ck kf hi rfl;clear hi)|(refine acv ?_;(first|refine z2 ?_|refine VC n6 rfl rfl rfl rfl rfl rfl ?_|refine nA 58 ?_|refine z5 (U:=GW) (ci:=p5) (cF:=xl _) ?_);refine nx ?_))
 ·clear ku;generalize ZU:i3 l op.obj 0=abU at I;have Hb:=B9 l hL hM op.obj 0 (by omega);rw[ZU] at Hb;cases kn
  ·have ZB:¬(1<=op.kind/\op.kind<=3):=of_decide_eq_false Ec.symm;rw[if_pos (by omega)] at I;refine gA (Ie gone hg) ?_;refine ez ?_;rw[<-I]
  have ZB:1<=op.kind/\op.kind<=3:=of_decide_eq_true Ec.symm;refine gA Hb ?_;generalize k1:decide (abU<0)=cc;cases cc
  rotate_left
  ·have qh:=of_decide_eq_true k1;rw[if_pos (by omega)] at I;refine gA (Ie gone hg) ?_;refine ez ?_;rw[<-I]
  have qh:=of_decide_eq_false k1;refine go ?_;generalize k2:decide (op.a<0)=cc;cases cc
  rotate_left
  ·have xD:=of_decide_eq_true k2;rw[if_pos (by omega)] at I;refine gA (Ie gone hg) ?_;refine ez ?_;rw[<-I]
  have xD:=of_decide_eq_false k2;refine go ?_;generalize k3:decide (op.a>=65536)=cc;cases cc
  rotate_left
  ·have RO:=of_decide_eq_true k3;rw[if_pos (by omega)] at I;refine gA (Ie gone hg) ?_;refine ez ?_;rw[<-I]
  have RO:=of_decide_eq_false k3;rw[if_neg (by omega)] at I;refine go ?_;refine il (bH rfl (by omega) (by omega)) rfl (λ a w=>call117 a w) rfl rfl (by exact⟨⟨rfl,rfl⟩,⟨rfl,rfl⟩,⟨rfl,rfl⟩,⟨rfl,rfl⟩,⟨rfl,Qp _ _ rfl rfl⟩,⟨rfl,rfl⟩,⟨rfl,rfl⟩,trivial⟩) trivial rfl rfl rfl rfl ?_ ?_
  ·rintro d Y ⟨rfl,_⟩;exact trivial
  rintro d Y ⟨rfl,⟨x,aa,hm,rfl⟩|⟨a,hm,rfl⟩⟩
  ·rw[hm] at I;refine gf ?_;rw[<-I];rfl
  ·rw[hm] at I;refine gf ?_;rw[<-I];rfl
theorem Pg{Γ:bN}{e:aC}{f:FuncId}{kf:Nat->Nat}(he:h2 Γ e)(dV:Γ.kb=mp kf [53,54]):bz e (Dc f kf) (.fn (.func f) [] [.ptr 53 0,.ptr 54 0]):=by
 have A:e.bx 53=some (kf 53):=he.kb 53 _ (by rw[dV];exact zx (by simp));have F:e.bx 54=some (kf 54):=he.kb 54 _ (by rw[dV];exact zx (by simp));exact bz.fn (us:=[]) (vs:=[.pointer (some ⟨kf 53,0,none⟩),.pointer (some ⟨kf 54,0,none⟩)]) rfl rfl (λ i v d A F=>by simp at A) λ i v d q1 q2=>by
  match i,q1,q2 with
  |0,q1,q2=>cases q1;cases q2;exact .ptr A
  |1,q1,q2=>cases q1;cases q2;exact .ptr F
theorem Z1(l:ah)(hL:cr l)(hS:0<=l.ar)(hM:kJ l)(G:Int)(gone:List (Int×Int))(op:bl)(log:List aF)(hg:eN gone)(gU:gone.length+log.length<=10000)(BH:log.length<=5000):bc prog 105 [dP l,E G,eh gone,.agg [E op.kind,E op.obj,E op.a,E op.b],gT log] (sH (s8 l G gone op log)):=by
 have h0:m6 log ⟨0,gone,0,0,0⟩:=⟨hg,gU,Nat.zero_le _,BH⟩;have ui:gone.length+log.length<=100000:=by omega
 have je:gone.length<=100000:=by omega
 by_cases oN:op.kind=1
 ·exact Hc JP true l hL hM G gone op log je rfl rfl (λ _=>rfl) (λ _ _ _ _=>rfl) (by rw[oN];rfl) (λ Γ fg r ck kf hi dV=>LP hi underlying143 underlying3 (by rw[oN];rfl) λ e he=>bz.fn (us:=[]) (vs:=[]) rfl rfl (λ i v d A F=>by simp at A) (λ i v d A F=>by simp at A)) λ _ yQ yR=>K4 _ (.inl rfl) l G log op _ _ ui (Nb _ l hL hS hM G op log _ (.inl ⟨oN,rfl⟩) yQ yR h0)
 by_cases hk:op.kind=2
 ·exact Hc JQ true l hL hM G gone op log je rfl rfl (λ _=>rfl) (λ B au A F=>by simp[K.ok.eR,K.ok,A,F]) (by rw[hk];rfl) (λ Γ fg r ck kf hi dV=>LP hi underlying143 underlying3 (by rw[hk];rfl) λ e he=>Pg he dV) λ _ yQ yR=>K4 _ (.inr (.inl rfl)) l G log op _ _ ui (Nb _ l hL hS hM G op log _ (.inr (.inl ⟨hk,rfl⟩)) yQ yR h0)
 by_cases rP:op.kind=3
 ·exact Hc JR true l hL hM G gone op log je rfl rfl (λ _=>rfl) (λ B au A F=>by simp[K.ok.eR,K.ok,A,F]) (by rw[rP];rfl) (λ Γ fg r ck kf hi dV=>LP hi underlying143 underlying3 (by rw[rP];rfl) λ e he=>Pg he dV) λ _ yQ yR=>K4 _ (.inr (.inr rfl)) l G log op _ _ ui (Nb _ l hL hS hM G op log _ (.inr (.inr ⟨rP,rfl⟩)) yQ yR h0)
 ·refine Hc (.p (.raw .nilFunc)) false l hL hM G gone op log je rfl rfl (λ _=>rfl) (λ _ _ _ _=>rfl) (by rw[eq_comm,decide_eq_false_iff_not];omega) (λ Γ fg r ck kf hi dV=>abB aD hi underlying143 underlying3 (show tb 141=some _ from rfl) ?_) λ h=>by cases h
  have e1:∀k:Int,k≠op.kind->Instr.sameNow (.int .i64) (.int .i64 op.kind) (.int .i64 k)=some false:=λ k J=>by
   unfold Instr.sameNow;simp[J.symm]
  show Instr.findNow (.int .i64) (.int .i64 op.kind) [⟨.int .i64 1,_,_⟩,⟨.int .i64 2,_,_⟩,⟨.int .i64 3,_,_⟩] 0=some none;simp only[Instr.findNow,e1 1 (by omega),e1 2 (by omega),e1 3 (by omega)]
end Go.Proofs.YtcnefjfboagbmaaGreat
