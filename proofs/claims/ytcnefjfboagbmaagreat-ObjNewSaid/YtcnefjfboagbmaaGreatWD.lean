/- A map's programs: what comes behind an operation; operations: their walks. -/
import Derived.Test.YtcnefjfboagbmaaGreatWC
import Derived.Test.YtcnefjfboagbmaaGreatWB
namespace Go.Proofs.YtcnefjfboagbmaaGreat
open Go.Proofs.Tryz
open Go.RowKit
set_option maxRecDepth 100000
theorem Xg:∀n:Nat,n<65->1<=n->(decide (IntKind.i64.wrap (((BitVec.ofInt 64 (n:Int)&&&BitVec.ofInt 64 ((n:Int)-1)).toNat:Nat):Int)=0))=Cn (n:Int):=by decide+kernel
theorem Xh{n:Int}(h0:1<=n)(u:n<=64):(decide (IntKind.i64.wrap (((BitVec.ofInt 64 n&&&BitVec.ofInt 64 (n-1)).toNat:Nat):Int)=0))=Cn n:=by obtain⟨m,rfl⟩:=Int.eq_ofNat_of_zero_le (show 0<=n by omega);exact Xg m (by omega) (by omega)
theorem E5(g:List (Int×Int))(hg:g.length<=100000):aW prog 116 [cT g] (.bc [eW eF,jm ⟨0,false,1,-1,g⟩,dB true]):=by
 refine sP func116 ntmps116 λ w cl=>?_
 refine gA ((ol g hg).pure) ?_;refine dt ?_
 rfl
abbrev vD(l:ab)(E m:Int)(log:List aB)(s:af):bH:=[(40,qd l E m log s),(53,[.ptr 40 0]),(54,[z (hb l m 1)])]
theorem QH(l:ab)(hL:bQ l)(hM:iY l)(E m:Int)(log:List aB)(size:Int)(s:af)(aaw:1<=size)(MN:size<=64)(h0:lN log s):
 Ax 142 [40,53,54] (vD l E m log) log s [z size,.ptr 53 0,.ptr 54 0] (qr l m 2 size log s) (λ _=>.bc []):=by
 generalize A:qr l m 2 size log s=aK;rw[qr,if_pos rfl] at A;have ew:IntKind.i64.wrap (2*size)=2*size:=d6 (by omega) (by omega);refine sX func142 ntmps142 λ w cl own kf=>?_
 refine go ?_;refine xP (Af l E m log s ⟨4,hb l m 1,0,1⟩ h0) ?_;rintro d O ⟨r,s1,bJ,fI,rfl,rfl⟩;rw[au bJ] at A;have u:=h0.next fI;refine go ?_;rw[ew];refine go ?_;generalize k1:decide (r.val>=2*size)=cc;cases cc
 ·rw[if_neg (λ h=>of_decide_eq_false k1 h.1)] at A;refine go ?_;exact fX _ ⟨(),s1,A.symm,fI,rfl,rfl⟩
 refine go ?_;generalize k2:decide (size<l.buckets)=cc;cases cc
 ·rw[if_neg (λ h=>of_decide_eq_false k2 h.2)] at A;refine go ?_;exact fX _ ⟨(),s1,A.symm,fI,rfl,rfl⟩
 rw[if_pos ⟨of_decide_eq_true k1,of_decide_eq_true k2⟩] at A;refine go ?_;refine dW 14 [] ?_;refine gQ (ze l hL hM m 0 (by omega)) ?_;rw[ew];refine xP (Af l E m log s1 ⟨3,hb l m 0,size,2*size⟩ u) ?_;rintro d O ⟨r2,s2,bg,fx,rfl,rfl⟩;rw[au bg] at A;refine go ?_;exact fX _ ⟨(),s2,A.symm,fI.xD fx,rfl,rfl⟩
theorem QI(l:ab)(E m:Int)(log:List aB)(size:Int)(s:af)(h0:lN log s):
 Ax 143 [40,53,54] (vD l E m log) log s [z size,.ptr 53 0,.ptr 54 0] (qr l m 3 size log s) (λ _=>.bc []):=by
 generalize A:qr l m 3 size log s=aK;rw[qr,if_neg (by decide),if_pos rfl] at A;refine sX func143 ntmps143 λ w cl own kf=>?_
 refine go ?_;refine xP (Af l E m log s ⟨4,hb l m 1,0,-1⟩ h0) ?_;rintro d O ⟨r,s1,bJ,fI,rfl,rfl⟩;rw[au bJ] at A;refine go ?_;exact fX _ ⟨(),s1,A.symm,fI,rfl,rfl⟩
theorem QG(l:ab)(E m:Int)(log:List aB)(size:Int)(s:af)(h0:lN log s):
 Ax 141 [40,53,54] (vD l E m log) log s [z size] (qr l m 1 size log s) (λ _=>.bc []):=by
 rw[show qr l m 1 size log s=.ok ((),s) by rw[qr,if_neg (by decide),if_neg (by decide)];rfl];refine sX func141 ntmps141 λ w cl own kf=>?_
 refine go ?_;exact fX _ ⟨(),s,rfl,h0.refl,rfl,rfl⟩
abbrev nY(fT:F)(l:ab)(E:Int)(op:cq)(log:List aB)(s:af):bH:=[(40,qd l E op.obj log s),(55,[.ptr 40 0]),(56,bs l),(57,[z op.kind,z op.obj,z op.a,z op.b]),(58,[fT]),(53,[.ptr 40 0]),(54,[z (hb l op.obj 1)])]
structure FM where
 o:br
 s:af
 ex:Bool
 k:Nat
 ps:List Pl
abbrev N5(p:FM):F:=.agg [z p.o.val,dB p.o.is,z p.o.err,z p.o.cJ,.p (.sl p.ex p.k p.ps)]
def FN(bx:af->bH)(log:List aB)(m:Except aS (br×af))(s:af):F->bH->Prop:=λ d O=>∃p:FM,m=.ok (p.o,p.s)/\gF log s p.s/\d=N5 p/\O=bx p.s
abbrev GL:F:=.fn (.func 141) [] []
abbrev GM:F:=.fn (.func 142) [] [.ptr 53 0,.ptr 54 0]
abbrev GN:F:=.fn (.func 143) [] [.ptr 53 0,.ptr 54 0]
structure FD(d:F):Prop where
 t:True
abbrev uc{d:F}(_:FD d):F:=d
set_option maxHeartbeats 16000000 in
theorem Js(fT:F)(l:ab)(hL:bQ l)(hS:0<=l.aA)(hM:iY l)(E:Int)(op:cq)(log:List aB)(s:af)(hf:op.kind=1/\fT=GL\/op.kind=2/\fT=GM\/op.kind=3/\fT=GN)(v7:0<=op.a)(v8:op.a<65536)(h0:lN log s):
 fu prog 118 [40,53,54,55,56,57,58] [.ptr 55 0,.ptr 56 0,.ptr 57 0,.ptr 58 0] (nY fT l E op log s) (FN (nY fT l E op log) log (va l E op log s) s) (vq (nY fT l E op log) (va l E op log s)):=by
 generalize A:va l E op log s=aK;rw[va] at A;obtain⟨ZS,ZT⟩:=hM.b;obtain⟨kd,ob,ka,kb⟩:=op;simp only at hf v7 v8 A;have sN:FD fT:=⟨trivial⟩;rcases hf with⟨qL,rfl⟩|⟨qL,rfl⟩|⟨qL,rfl⟩
 all_goals
  refine sX func118 ntmps118 λ w cl own kf=>?_
  refine gm ?_;refine nA 47 ?_;refine go ?_;refine dW 8 [] ?_;refine gQ (ze l hL hM ob 0 (by omega)) ?_;refine xP (Af l E ob log s ⟨1,hb l ob 0,0,0⟩ h0) ?_;rintro d O ⟨r,s1,bJ,fI,rfl,rfl⟩;rw[au bJ] at A;have u:=h0.next fI;have He:(r.val<1\/l.buckets<r.val\/Cn r.val=false)->aK=.ok (⟨0,false,1,-1,[]⟩,s1):=λ h=>by rw[if_pos h] at A;exact A.symm
  have D9:∀p:FM,aK=.ok (p.o,p.s)->gF log s p.s->FN (nY (uc sN) l E ⟨kd,ob,ka,kb⟩ log) log aK s (N5 p) (nY (uc sN) l E ⟨kd,ob,ka,kb⟩ log p.s):=λ p u D=>⟨p,u,D,rfl,rfl⟩
  refine go ?_;generalize k1:decide (r.val<1)=cc;cases cc
  rotate_left
  ·refine go ?_;refine fX (nY (uc sN) l E ⟨kd,ob,ka,kb⟩ log s1) ?_;exact D9 ⟨⟨0,false,1,-1,[]⟩,s1,true,0,[]⟩ (He (.inl (of_decide_eq_true k1))) fI
  have qX:=of_decide_eq_false k1;refine go ?_;generalize k2:decide (r.val>l.buckets)=cc;cases cc
  rotate_left
  ·refine go ?_;refine fX (nY (uc sN) l E ⟨kd,ob,ka,kb⟩ log s1) ?_;exact D9 ⟨⟨0,false,1,-1,[]⟩,s1,true,0,[]⟩ (He (.inr (.inl (of_decide_eq_true k2)))) fI
  have uE:=of_decide_eq_false k2;have Ux:=Xh (n:=r.val) (by omega) (by omega);refine go ?_;rw[Ux];cases uw:Cn r.val
  ·refine go ?_;refine fX (nY (uc sN) l E ⟨kd,ob,ka,kb⟩ log s1) ?_;exact D9 ⟨⟨0,false,1,-1,[]⟩,s1,true,0,[]⟩ (He (.inr (.inr uw))) fI
  rw[if_neg (by rw[uw];simp;omega)] at A;refine go ?_;have kW:=Int.emod_nonneg ka (show r.val≠0 by omega);have lD:=Int.emod_lt_of_pos ka (show 0<r.val by omega);have jp:=Yp l hL hS hM E ob log (ka%r.val) s1 kW (by omega) u;refine C4 (λ p:Ap=>FA log (mx l E ob 64 (ka%r.val) log s1) s1 p) (λ p=>⟨[(6,z p.n),(7,.ptr 48 0),(4,.ptr 47 0),(5,z r.val),(0,.ptr 55 0),(1,.ptr 56 0),(2,.ptr 57 0),(3,.ptr 58 0)],[(40,qd l E ob log p.s),(55,[.ptr 40 0]),(56,bs l),(57,[z kd,z ob,z ka,z kb]),(58,[(uc sN)]),(53,[.ptr 40 0]),(54,[z (hb l ob 1)]),(47,[z 0,dB false,z 0,z 0,.p (.sl true 0 [])]),(48,[z p.o.val,dB p.o.is,z p.o.err,z p.o.cJ,.p (.sl p.ex p.k p.ps)])],[]⟩) ?_ ?_
  ·have Bo:∀x,mx l E ob 64 (ka%r.val) log s1=.error x->aK=.error x:=λ x h=>by rw[<-A];exact bl h
   refine xR 5 9 48 7 6 ?_;refine ba ?_;refine cD (E7 rfl rfl rfl (by omega) (by omega)) rfl rfl ?_;refine ba ?_;refine Gh rfl rfl rfl ?_ (λ hB=>?_)
   all_goals repeat' (first|refine tA 6 ?_|refine tA 7 ?_|refine tA 8 ?_|refine oA 5 ?_|refine oA 9 ?_|refine oA 10 ?_|refine oA 11 ?_|refine oB 5 9 ?_ ?_|exact dA ⟨rfl,⟨p,hp,zX⟩⟩|exact nx hB|refine xX jp ?_ ?_|(rintro v O ⟨a,U,h,rfl,rfl⟩;refine I8 (I7 ?_);refine gP ?_;exact fP _ ⟨a,U,Bo a h,rfl,rfl⟩)|(rintro d O ⟨p,hp,rfl,rfl⟩;refine nx (CX ?_))|(refine nA 48 ?_;first|exact nx hB|refine nx ?_)|((first|refine z2 ?_|refine z5 ?_);refine nx ?_))
  rintro⟨dn,dq,s2,GC,GA,I5⟩ ⟨bg,fx,S8,S9⟩;simp only at bg fx S8 S9;rw[au bg] at A;have D:=u.next fx;have Ba:=fI.xD fx;simp only at A;refine go ?_;generalize k3:decide (dq.err=0)=cc;cases cc
  ·rw[if_pos (of_decide_eq_false k3)] at A;refine go ?_;refine fX (nY (uc sN) l E ⟨kd,ob,ka,kb⟩ log s2) ?_;exact D9 ⟨dq,s2,GC,GA,I5⟩ A.symm Ba
  rw[if_neg (λ h=>h (of_decide_eq_true k3))] at A;have HO:=Pg l hL hS hM E ob log s2 kd dn (E4 ka) kb D (by omega);refine go ?_;refine Gf 9 10 [] rfl rfl (by kernel_rfl) (by kernel_rfl) (by kernel_rfl) rfl rfl ?_;refine gQ (XO ka) ?_;refine xP HO ?_;rintro d O ⟨q,s3,bR,ia,rfl,rfl⟩;rw[au bR] at A;obtain⟨⟨ov,tB,oe,ES,og⟩,a3⟩:=q;have K:=D.next ia;have Bb:=Ba.xD ia;simp only at A;refine gG ?_;refine Vm [48] rfl rfl ?_;refine qg ?_;cases tB
  ·rw[if_neg (by decide)] at A;refine go ?_;exact fX _ ⟨⟨⟨ov,false,oe,ES,og⟩,s3,false,og.length,fp og⟩,A.symm,Bb,rfl,rfl⟩
  rw[if_pos rfl] at A;subst qL;refine go ?_
 refine vP (QG l E ob log r.val s3 K) ?_
 rotate_left
 refine vP (QH l hL hM E ob log r.val s3 (by omega) (by omega) K) ?_
 rotate_left
 refine vP (QI l E ob log r.val s3 K) ?_
 rotate_left
 all_goals
  rintro d O ⟨aa,s4,ct,kD,rfl,rfl⟩;rw[au ct] at A;refine go ?_;exact fX _ ⟨⟨⟨ov,true,oe,ES,og⟩,s4,false,og.length,fp og⟩,A.symm,Bb.xD kD,rfl,rfl⟩
theorem Uu{e:ay}{vs:List Value}(a:aS)(o:br)(dn:Bool)(hI:fG (iF a (nn o) dn) e)(hv:DReps e vs [.ptr 22 0,.ptr 21 0,.ptr 23 0,.ptr 24 0]):
 CallsD prog 144 vs.toArray .returning e.w λ r u2 aH=>∃V ag,r=.returned (.tuple #[])/\u2=.returning/\V.w=aH/\fG ag V/\Left [21,22,23,24] e V/\ag=iF a (nn o) dn:=by
 refine uU (ah:=tb) func144 rfl ntmps144 rfl rfl rfl (by(repeat(first|exact trivial|refine⟨rfl,?_⟩))) (λ _ _=>rfl) (λ _=>rfl) rfl rfl .no (λ w cl own kf=>?_) hI hv;refine go ?_;refine bf (Ej underlying20 rfl rfl) rfl rfl rfl ?_;refine go ?_;refine jn (iF a (nn o) dn) rfl rfl (by(repeat(first|exact trivial|refine⟨⟨rfl,rfl⟩,?_⟩))) (by(repeat(first|exact trivial|refine⟨rfl,?_⟩))) rfl
theorem Uv{e:ay}{vs:List Value}(a bu:aS)(od:List F)(X:od=[z 0,dB false,z 0,z 0,.p (.sl true 0 [])])(dn:Bool)(hI:fG (iF a od dn) e)(hv:DReps e vs [.ptr 22 0,.ptr 21 0,.ptr 23 0,.ptr 24 0]):
 CallsD prog 144 vs.toArray (.panicking [pe (xS bu)]) e.w λ r u2 aH=>∃V ag,r=.returned (.tuple #[])/\u2=.panicking [{v:=xS bu,recovered:=true}]/\V.w=aH/\fG ag V/\Left [21,22,23,24] e V/\ag=iF bu od dn:=by
 subst X;refine uU (ah:=tb) func144 rfl ntmps144 rfl rfl rfl (by(repeat(first|exact trivial|refine⟨rfl,?_⟩))) (λ _ _=>rfl) (λ _=>rfl) rfl rfl (.yes (xS bu)) (λ w cl own kf=>?_) hI hv;refine go ?_;refine bf (Ek underlying20 rfl rfl) rfl rfl rfl ?_;refine go ?_;refine bf (C0 aw rfl rfl rfl rfl) rfl rfl rfl ?_;refine go ?_;refine jn (iF bu _ dn) rfl rfl (by(repeat(first|exact trivial|refine⟨⟨rfl,rfl⟩,?_⟩))) (by(repeat(first|exact trivial|refine⟨rfl,?_⟩))) rfl
abbrev LN(a:aS)(od:List F)(dn:Bool):St:=⟨[(4,.ptr 22 0),(5,.ptr 23 0),(6,.ptr 24 0)],iF a od dn,[]⟩
def Qb(m:Except aS (br×af))(Γ:bE):Exit->St->Prop:=λ ex I=>(ex=.ret/\∃x U,m=.ok (x,U)/\bF Γ I (LN eF (nn {x with gone:=U.gone}) true))\/∃a,ex=.panic [pe (xS a)]/\m=.error a/\bF Γ I (LN eF [z 0,dB false,z 0,z 0,.p (.sl true 0 [])] false)
set_option maxHeartbeats 4000000 in
theorem HT(fT:F)(hf:fT=GL\/fT=GM\/fT=GN)(l:ab)(E:Int)(log:List aB)(op:cq)(s:af)(m:Except aS (br×af))(rT:s.gone.length+log.length<=100000)(hC:fu prog 118 [40,53,54,55,56,57,58] [.ptr 55 0,.ptr 56 0,.ptr 57 0,.ptr 58 0] (nY fT l E op log s) (FN (nY fT l E op log) log m s) (vq (nY fT l E op log) m)):
 d8 prog 117 [] [.ptr 40 0,.fn (.func 118) [] [.ptr 55 0,.ptr 56 0,.ptr 57 0,.ptr 58 0]] (nY fT l E op log s) (sq m):=by
 have sN:FD fT:=⟨trivial⟩;rcases hf with rfl|rfl|rfl
 all_goals
  intro e vs hI hv;refine calls_of_wp_defers func117 rfl ?_;have ho:=tg (fn:=f117) (f:=117) (aX:=[]) [] (Nat.le_of_ble_eq_true (by kernel_rfl)) trivial hI hv rfl;refine wp_seq (Code.wp_mono (λ ex a1 w1 hh=>?_) (aJ.run (Q:=λ ex I=>ex=.normal/\I=⟨[(6,.ptr 24 0),(5,.ptr 23 0),(4,.ptr 22 0),(2,.ptr 21 0),(0,.ptr 40 0),(1,.fn (.func 118) [] [.ptr 55 0,.ptr 56 0,.ptr 57 0,.ptr 58 0])],(24,[dB false])::(23,[z 0,dB false,z 0,z 0,.p (.sl true 0 [])])::(22,[z 0,z 0,z 0,z 0])::(21,[.ptr 40 0])::nY (uc sN) l E op log s,[]⟩) ?_ _ e ho))
  ·obtain⟨mX,e1,rfl,cb,rfl,rfl⟩:=hh;obtain⟨k1,_,_,b1,_,_⟩:=cb.boxes 21 _ rfl;obtain⟨k2,_,_,b2,_,_⟩:=cb.boxes 22 _ rfl;obtain⟨k3,_,_,b3,_,_⟩:=cb.boxes 23 _ rfl;obtain⟨k4,_,_,b4,_,_⟩:=cb.boxes 24 _ rfl;refine wp_seq (Ao cb rfl rfl rfl rfl rfl rfl rfl rfl [(21,k1),(22,k2),(23,k3),(24,k4)] (λ b k J=>?_) (λ a2 cC cS ez=>?_))
   ·simp only[cL] at J;split at J
    ·rename_i q;cases J;rw[<-q];exact b1
    ·split at J
     ·rename_i q;cases J;rw[<-q];exact b2
     ·split at J
      ·rename_i q;cases J;rw[<-q];exact b3
      ·split at J
       ·rename_i q;cases J;rw[<-q];exact b4
       ·cases J
   ·refine Code.wp_mono (λ ex a3 w3 hh=>?_) (aJ.run (Γ:=⟨18,e.w,e.cl,λ k=>∃b,e.bx b=some k,[(21,k1),(22,k2),(23,k3),(24,k4)],[{target:=.fn (.func 144) cC.toArray,args:=#[]}]⟩) (Q:=Qb m ⟨18,e.w,e.cl,λ k=>∃b,e.bx b=some k,[(21,k1),(22,k2),(23,k3),(24,k4)],[{target:=.fn (.func 144) cC.toArray,args:=#[]}]⟩) ?_ a2 e1 ez)
    ·obtain⟨CQ,e3,rfl,ib,hq⟩:=hh;rcases hq with⟨rfl,x,U,hm,eA⟩|⟨a,rfl,hm,eA⟩
     ·skip
      obtain⟨e4,j7,bY⟩:=eA a3 e3 ib;show Leaves prog f117 a3.tmps _ a3.defers .returning e3.w;rw[bY.df,<-j7];have j4:DReps e4 cC [.ptr 22 0,.ptr 21 0,.ptr 23 0,.ptr 24 0]:=⟨cS.1,λ i v d hv G=>by
       match i,hv,G with
       |0,hv,G=>cases G;exact eE (cS.2 0 v _ hv rfl) b2 (bY.env.kb 22 k2 rfl)
       |1,hv,G=>cases G;exact eE (cS.2 1 v _ hv rfl) b1 (bY.env.kb 21 k1 rfl)
       |2,hv,G=>cases G;exact eE (cS.2 2 v _ hv rfl) b3 (bY.env.kb 23 k3 rfl)
       |3,hv,G=>cases G;exact eE (cS.2 3 v _ hv rfl) b4 (bY.env.kb 24 k4 rfl)⟩
      refine p3 bY (λ a w=>call144 a w) j4 rfl (by(repeat(first|exact trivial|refine⟨⟨rfl,rfl⟩,?_⟩))) ⟨.inr rfl,.inr rfl,.inr rfl,.inr rfl,trivial⟩ rfl (by simp) rfl (λ e0 oK u D=>Uu eF {x with gone:=U.gone} true u D) (λ ag R=>by subst R;exact⟨.inl rfl,.inl rfl,.inl rfl,.inl rfl,trivial⟩) (λ ag e5 R du=>?_);subst R;obtain⟨v,hr,jx⟩:=n5 aw (fn:=f117) (d:=.bc [eW eF,jm {x with gone:=U.gone},dB true]) du rfl;refine⟨v,hr,v,_,[],e5.cut (aC []) λ _=>false,rfl,rfl,⟨rfl,.inl ⟨x,U,hm,rfl⟩⟩,kB du trivial,jx.cut rfl,⟨du.env.kept,du.env.cl,λ b k J=>?_,λ b R=>by cases R⟩⟩;cases J
     ·skip
      obtain⟨e4,j7,bY⟩:=eA a3 e3 ib;show Leaves prog f117 a3.tmps _ a3.defers (.panicking [pe (xS a)]) e3.w;rw[bY.df,<-j7];have j4:DReps e4 cC [.ptr 22 0,.ptr 21 0,.ptr 23 0,.ptr 24 0]:=⟨cS.1,λ i v d hv G=>by
       match i,hv,G with
       |0,hv,G=>cases G;exact eE (cS.2 0 v _ hv rfl) b2 (bY.env.kb 22 k2 rfl)
       |1,hv,G=>cases G;exact eE (cS.2 1 v _ hv rfl) b1 (bY.env.kb 21 k1 rfl)
       |2,hv,G=>cases G;exact eE (cS.2 2 v _ hv rfl) b3 (bY.env.kb 23 k3 rfl)
       |3,hv,G=>cases G;exact eE (cS.2 3 v _ hv rfl) b4 (bY.env.kb 24 k4 rfl)⟩
      refine p3 bY (λ a w=>call144 a w) j4 rfl (by(repeat(first|exact trivial|refine⟨⟨rfl,rfl⟩,?_⟩))) ⟨.inr rfl,.inr rfl,.inr rfl,.inr rfl,trivial⟩ rfl (by simp) rfl (λ e0 oK u D=>Uv eF a _ rfl false u D) (λ ag R=>by subst R;exact⟨.inl rfl,.inl rfl,.inl rfl,.inl rfl,trivial⟩) (λ ag e5 R du=>?_);subst R;obtain⟨v,hr,jx⟩:=n5 aw (fn:=f117) (d:=.bc [eW a,kC lH,dB false]) du rfl;refine⟨v,hr,v,_,[],e5.cut (aC []) λ _=>false,rfl,rfl,⟨rfl,.inr ⟨a,hm,rfl⟩⟩,kB du trivial,jx.cut rfl,⟨du.env.kept,du.env.cl,λ b k J=>?_,λ b R=>by cases R⟩⟩;cases J
    ·refine go ?_;refine vX hC ?_ ?_
     ·rintro v O ⟨a,U,h,rfl,rfl⟩;refine gP ?_;exact .inr ⟨a,rfl,h,bF.trans (pF 21 rfl rfl) (zX)⟩
     rintro d O ⟨⟨x,U,ex,k,ps⟩,h,nK,rfl,rfl⟩;simp only at h nK;have Tw:=nK.len;have Tx:=nK.le;refine gA ((ol U.gone (by omega)).pure) ?_;refine gW 3 [22] ?_;refine go ?_;exact .inl ⟨rfl,x,U,h,bF.trans (pF 21 rfl rfl) (zX)⟩
  ·refine gm ?_;refine bA 21 ?_;refine nA 22 ?_;refine nA 23 ?_;refine nA 24 ?_;exact jK ⟨rfl,rfl⟩
def AI(f:FuncId)(kf:Nat->Nat):Value:=.func (.func f) #[] #[.pointer (some ⟨kf 53,0,none⟩),.pointer (some ⟨kf 54,0,none⟩)]
def Kp(kf:Nat->Nat):Array MapEntry:=((#[].push ⟨.int .i64 1,.func (.func 141) #[] #[],0⟩).push ⟨.int .i64 2,AI 142 kf,1⟩).push ⟨.int .i64 3,AI 143 kf,2⟩
theorem Rc(l:ab)(hL:bQ l)(hM:iY l)(E m:Int)(log:List aB)(s:af):JY prog 115 [40] [.ptr 40 0] (uQ l E m log s) (vD l E m log s) [53,54] Kp:=by
 intro e vs hI hv;refine calls_of_wp func115 rfl ?_;have HH:jJ (uQ l E m log s) [40]:=⟨rfl,trivial⟩;have ho:=tg (fn:=f115) (f:=115) (aX:=[40]) [] (by decide) HH hI hv rfl;refine wp_seq (Code.wp_mono (λ ex a1 w1 hh=>?_) (aJ.run (Q:=λ ex I=>ex=.normal/\I=⟨[(2,.p (.raw (.map none))),(1,.ptr 53 0),(0,.ptr 40 0)],(53,[.ptr 40 0])::uQ l E m log s,[]⟩) ?_ _ e ho))
 ·obtain⟨mX,e1,rfl,cb,rfl,rfl⟩:=hh;refine wp_seq (Code.wp_mono (λ ex a2 w2 hh=>?_) (aJ.run (Q:=λ ex I=>ex=.normal/\bF ⟨f115.ntmps,e.w,e.cl,λ k=>∃b,e.bx b=some k,k8 (λ b=>(e.bx b).getD 0) [40],[]⟩ I ⟨[(3,.ptr 54 0),(1,.ptr 53 0)],vD l E m log s,[]⟩) ?_ _ e1 cb))
  ·obtain⟨pC,ZB,rfl,SZ,rfl,eA⟩:=hh;obtain⟨e2,Ef,ez⟩:=eA _ _ SZ;rw[<-Ef];obtain⟨k1,_,_,b1,_,_⟩:=ez.boxes 40 _ rfl;obtain⟨k2,_,_,b2,_,_⟩:=ez.boxes 53 _ rfl;obtain⟨k3,_,_,b3,_,_⟩:=ez.boxes 54 _ rfl;obtain⟨kf,HJ⟩:∃kf:Nat->Nat,kf=λ b=>(e2.bx b).getD 0:=⟨_,rfl⟩
   have q1:e2.bx 40=some (kf 40):=by rw[HJ];simp only[b1,Option.getD_some]
   have q2:e2.bx 53=some (kf 53):=by rw[HJ];simp only[b2,Option.getD_some]
   have q3:e2.bx 54=some (kf 54):=by rw[HJ];simp only[b3,Option.getD_some]
   refine wp_seq (wp_region_lit (V6 (kb:=k8 kf [40,53,54]) rfl rfl rfl rfl ez (λ b k J=>?_) (λ b k J=>?_) (λ r ou=>?_)))
   ·obtain⟨u,rfl⟩:=yX J;simp only[List.mem_cons,List.mem_nil_iff,or_false] at u;rcases u with rfl|rfl|rfl
    ·exact q1
    ·exact q2
    ·exact q3
   ·have D:=ez.env.kb b k J;obtain⟨u,rfl⟩:=yX J;simp only[List.mem_cons,List.mem_nil_iff,or_false] at u;subst u;rw[q1] at D;rw[wR (by simp)];exact D
   ·refine IF (v:=.func (.func 141) #[] #[]) ou rfl rfl (by rfl) (by rfl) rfl rfl rfl rfl (λ _ _ _ e h aa hu=>R9 hu) rfl rfl ?_;refine EF aw rfl rfl rfl rfl ?_;refine IF (v:=AI 142 kf) ou rfl rfl (by rfl) (by rfl) rfl rfl rfl rfl (λ _ _ _ e h aa hu=>K7 (h.kb 53 _ rfl) (h.kb 54 _ rfl) hu) rfl rfl ?_;refine EF aw rfl rfl rfl rfl ?_;refine IF (v:=AI 143 kf) ou rfl rfl (by rfl) (by rfl) rfl rfl rfl rfl (λ _ _ _ e h aa hu=>K7 (h.kb 53 _ rfl) (h.kb 54 _ rfl) hu) rfl rfl ?_;refine EF aw rfl rfl rfl rfl ?_;refine EF aw rfl rfl rfl rfl ?_;refine⟨λ aH bz bZ Z a3 e3 ib=>?_⟩;have bY:=Z.om ib;obtain⟨v,hr,jx⟩:=n5 aw (fn:=f115) (d:=.p (.raw (.map (some r)))) bY rfl;have:=cE jx;subst this;refine wp_ret ⟨bY.df,_,hr,r,_,kf,e3.cut (aC (vD l E m log s)) λ _=>false,rfl,rfl,kB bY (by(repeat(first|exact trivial|refine⟨⟨rfl,rfl⟩,?_⟩))),imp_left hI HH bY ⟨rfl,trivial⟩,λ n hn=>?_,Z.now ib.env⟩;have dv:=ib.env.kb n (kf n) (wR (by simp at hn⊢;omega));show(if aC (vD l E m log s) n=true then e3.bx n else none)=_;rw[if_pos]
    ·exact dv
    ·simp only[List.mem_cons,List.mem_nil_iff,or_false] at hn;rcases hn with rfl|rfl<;>rfl
  ·refine gW 10 [] ?_;refine cQ (ze l hL hM m 1 (by omega)) ?_;refine qe (tQ aw 54 rfl rfl rfl rfl) rfl rfl rfl rfl ?_;refine qg ?_;exact⟨rfl,zX⟩
 ·refine gm ?_;refine bA 53 ?_;refine go ?_;exact⟨rfl,rfl⟩
set_option maxHeartbeats 16000000 in
theorem DX(fT:F)(kn:Bool)(l:ab)(hL:bQ l)(hM:iY l)(E:Int)(gone:List (Int×Int))(op:cq)(log:List aB)(hg:gone.length<=100000)(Td:sb fT=true)(ow:Nat.beq fT.cells.length 1=true)(ul:∀x,rd [x] 0 fT some=some [fT])(LP:∀B ak,B 53=true->B 54=true->F.ok.ec B ak [fT]=true)(By:kn=decide (1<=op.kind/\op.kind<=3))
 (yK:∀(Γ ep:bE)(r ck:Nat)(kf:Nat->Nat),nB Γ ep r (Kp kf) ck->ep.kb=k8 kf [53,54]->CS prog ep 143 r op.kind fT kn)
 (bG:kn=true->0<=op.a->op.a<65536->d8 prog 117 [] [.ptr 40 0,.fn (.func 118) [] [.ptr 55 0,.ptr 56 0,.ptr 57 0,.ptr 58 0]] (nY fT l E op log ⟨0,gone,0,0,0⟩) (sq (va l E op log ⟨0,gone,0,0,0⟩))):
 aW prog 105 [cF l,z E,cT gone,.agg [z op.kind,z op.obj,z op.a,z op.b],fS log] (.bc [eW (qM l E gone op log).1,jm (qM l E gone op log).2.1,dB (qM l E gone op log).2.2]):=by
 generalize A:qM l E gone op log=aK;unfold qM at A;refine sP func105 ntmps105 λ w cl=>?_
 refine gm ?_;refine bA 56 ?_;refine bA 57 ?_;refine nA 60 ?_;refine nA 61 ?_;refine z2 ?_;refine jK ?_;refine gm ?_;refine z2 ?_;refine z2 ?_;refine z2 ?_;refine z2 ?_;refine z2 ?_;refine z2 ?_;refine z6 ?_;refine bA 40 ?_;refine nA 55 ?_;refine go ?_;refine da (bS:=⟨[(13,.ptr 55 0),(12,dB false),(11,.ptr 61 0),(10,.ptr 60 0),(8,.ptr 57 0),(5,.ptr 56 0),(2,cT gone)],[(40,qd l E op.obj log ⟨0,gone,0,0,0⟩),(55,[.ptr 40 0]),(56,bs l),(57,[z op.kind,z op.obj,z op.a,z op.b]),(60,[z 0,z 0,z 0,z 0]),(61,[z 0,dB false,z 0,z 0,.p (.sl true 0 [])])],[]⟩) zX ?_;refine C4 (λ _:Unit=>True) (λ _=>⟨[(15,dB kn),(14,.ptr 58 0),(13,.ptr 55 0),(12,dB false),(11,.ptr 61 0),(10,.ptr 60 0),(8,.ptr 57 0),(5,.ptr 56 0),(2,cT gone)],[(40,qd l E op.obj log ⟨0,gone,0,0,0⟩),(55,[.ptr 40 0]),(56,bs l),(57,[z op.kind,z op.obj,z op.a,z op.b]),(58,[fT]),(53,[.ptr 40 0]),(54,[z (hb l op.obj 1)]),(60,[z 0,z 0,z 0,z 0]),(61,[z 0,dB false,z 0,z 0,.p (.sl true 0 [])])],[]⟩) ?_ (λ _ _=>?_)
 ·skip
  refine Gg rfl (CX ?_)
  repeat' (first|refine tA 2 ?_|refine tA 5 ?_|refine tA 6 ?_|refine tA 7 ?_|refine wA 0 ?_|refine wA 1 ?_|refine wA 3 ?_|refine wA 4 ?_|refine wA 8 ?_|refine wA 9 ?_|refine wA 10 ?_|refine wB 4 8 ?_ ?_|refine wB 1 8 ?_ ?_|refine wB 1 3 ?_ ?_|refine wB 3 8 ?_ ?_|refine wB 0 8 ?_ ?_|refine wB 0 3 ?_ ?_|refine wC 0 3 8 ?_ ?_ ?_|refine wC 1 3 8 ?_ ?_ ?_|exact dA ⟨rfl,(),trivial,zX (R:=by exact⟨⟨rfl,rfl⟩,⟨rfl,rfl⟩,⟨rfl,rfl⟩,⟨rfl,rfl⟩,⟨rfl,LP _ _ rfl rfl⟩,⟨rfl,rfl⟩,⟨rfl,rfl⟩,⟨rfl,rfl⟩,⟨rfl,rfl⟩,trivial⟩)⟩|(refine WT (Rc l hL hM E op.obj log ⟨0,gone,0,0,0⟩) (by exact rfl) rfl (by exact rfl) (λ a w=>call115 a w) (by exact rfl) (by exact rfl) (by exact by(repeat(first|exact trivial|refine⟨⟨rfl,rfl⟩,?_⟩|refine⟨rfl,?_⟩))) (by exact rfl) (by exact rfl) (by exact rfl) (by exact rfl) (by exact rfl) (by exact⟨.inl rfl,.inr rfl,.inr rfl,trivial⟩) (by exact⟨rfl,rfl,trivial⟩) (λ r ck kf aH bz bZ Z=>?_);have nN:=yK _ _ r ck kf Z rfl;clear Z)|(refine oW ?_;(first|refine z2 ?_|refine Qq nN rfl rfl rfl rfl rfl rfl ?_|refine nA 58 ?_|refine z5 (M:=Td) (bT:=ow) (b8:=ul _) ?_);refine nx ?_))
 ·clear yK;generalize Ua:hb l op.obj 0=mp at A;have DW:=ze l hL hM op.obj 0 (by omega);rw[Ua] at DW;cases kn
  ·have TR:¬(1<=op.kind/\op.kind<=3):=of_decide_eq_false By.symm;rw[if_pos (by omega)] at A;refine gA (E5 gone hg) ?_;refine dt ?_;rw[<-A]
  have TR:1<=op.kind/\op.kind<=3:=of_decide_eq_true By.symm;refine gA DW ?_;generalize k1:decide (mp<0)=cc;cases cc
  rotate_left
  ·have qX:=of_decide_eq_true k1;rw[if_pos (by omega)] at A;refine gA (E5 gone hg) ?_;refine dt ?_;rw[<-A]
  have qX:=of_decide_eq_false k1;refine go ?_;generalize k2:decide (op.a<0)=cc;cases cc
  rotate_left
  ·have uE:=of_decide_eq_true k2;rw[if_pos (by omega)] at A;refine gA (E5 gone hg) ?_;refine dt ?_;rw[<-A]
  have uE:=of_decide_eq_false k2;refine go ?_;generalize k3:decide (op.a>=65536)=cc;cases cc
  rotate_left
  ·have MW:=of_decide_eq_true k3;rw[if_pos (by omega)] at A;refine gA (E5 gone hg) ?_;refine dt ?_;rw[<-A]
  have MW:=of_decide_eq_false k3;rw[if_neg (by omega)] at A;refine go ?_;refine gk (bG rfl (by omega) (by omega)) rfl (λ a w=>call117 a w) rfl rfl (by exact⟨⟨rfl,rfl⟩,⟨rfl,rfl⟩,⟨rfl,rfl⟩,⟨rfl,rfl⟩,⟨rfl,LP _ _ rfl rfl⟩,⟨rfl,rfl⟩,⟨rfl,rfl⟩,trivial⟩) trivial rfl rfl rfl rfl ?_ ?_
  ·rintro d O ⟨rfl,_⟩;exact trivial
  rintro d O ⟨rfl,⟨x,U,hm,rfl⟩|⟨a,hm,rfl⟩⟩
  ·rw[hm] at A;refine gf ?_;rw[<-A];rfl
  ·rw[hm] at A;refine gf ?_;rw[<-A];rfl
theorem KL{Γ:bE}{e:ay}{f:FuncId}{kf:Nat->Nat}(he:gx Γ e)(dv:Γ.kb=k8 kf [53,54]):bt e (AI f kf) (.fn (.func f) [] [.ptr 53 0,.ptr 54 0]):=by
 have u:e.bx 53=some (kf 53):=he.kb 53 _ (by rw[dv];exact wR (by simp));have D:e.bx 54=some (kf 54):=he.kb 54 _ (by rw[dv];exact wR (by simp));exact bt.fn (us:=[]) (vs:=[.pointer (some ⟨kf 53,0,none⟩),.pointer (some ⟨kf 54,0,none⟩)]) rfl rfl (λ i v d u D=>by simp at u) λ i v d q1 q2=>by
  match i,q1,q2 with
  |0,q1,q2=>cases q1;cases q2;exact .ptr u
  |1,q1,q2=>cases q1;cases q2;exact .ptr D
theorem Uf(l:ab)(hL:bQ l)(hS:0<=l.aA)(hM:iY l)(E:Int)(gone:List (Int×Int))(op:cq)(log:List aB)(hg:ee gone)(gz:gone.length+log.length<=10000)(DU:log.length<=5000):aW prog 105 [cF l,z E,cT gone,.agg [z op.kind,z op.obj,z op.a,z op.b],fS log] (qx (qM l E gone op log)):=by
 have h0:lN log ⟨0,gone,0,0,0⟩:=⟨hg,gz,Nat.zero_le _,DU⟩;have rT:gone.length+log.length<=100000:=by omega
 have iA:gone.length<=100000:=by omega
 by_cases nL:op.kind=1
 ·exact DX GL true l hL hM E gone op log iA rfl rfl (λ _=>rfl) (λ _ _ _ _=>rfl) (by rw[nL];rfl) (λ Γ ep r ck kf Z dv=>Is Z underlying143 underlying3 (by rw[nL];rfl) λ e he=>bt.fn (us:=[]) (vs:=[]) rfl rfl (λ i v d u D=>by simp at u) (λ i v d u D=>by simp at u)) λ _ v7 v8=>HT _ (.inl rfl) l E log op _ _ rT (Js _ l hL hS hM E op log _ (.inl ⟨nL,rfl⟩) v7 v8 h0)
 by_cases kV:op.kind=2
 ·exact DX GM true l hL hM E gone op log iA rfl rfl (λ _=>rfl) (λ B ak u D=>by simp[F.ok.ec,F.ok,u,D]) (by rw[kV];rfl) (λ Γ ep r ck kf Z dv=>Is Z underlying143 underlying3 (by rw[kV];rfl) λ e he=>KL he dv) λ _ v7 v8=>HT _ (.inr (.inl rfl)) l E log op _ _ rT (Js _ l hL hS hM E op log _ (.inr (.inl ⟨kV,rfl⟩)) v7 v8 h0)
 by_cases pT:op.kind=3
 ·exact DX GN true l hL hM E gone op log iA rfl rfl (λ _=>rfl) (λ B ak u D=>by simp[F.ok.ec,F.ok,u,D]) (by rw[pT];rfl) (λ Γ ep r ck kf Z dv=>Is Z underlying143 underlying3 (by rw[pT];rfl) λ e he=>KL he dv) λ _ v7 v8=>HT _ (.inr (.inr rfl)) l E log op _ _ rT (Js _ l hL hS hM E op log _ (.inr (.inr ⟨pT,rfl⟩)) v7 v8 h0)
 ·refine DX (.p (.raw .nilFunc)) false l hL hM E gone op log iA rfl rfl (λ _=>rfl) (λ _ _ _ _=>rfl) (by rw[eq_comm,decide_eq_false_iff_not];omega) (λ Γ ep r ck kf Z dv=>VM aw Z underlying143 underlying3 (show tb 141=some _ from rfl) ?_) λ h=>by cases h
  have e1:∀k:Int,k≠op.kind->Instr.sameNow (.int .i64) (.int .i64 op.kind) (.int .i64 k)=some false:=λ k J=>by
   unfold Instr.sameNow;simp[J.symm]
  show Instr.findNow (.int .i64) (.int .i64 op.kind) [⟨.int .i64 1,_,_⟩,⟨.int .i64 2,_,_⟩,⟨.int .i64 3,_,_⟩] 0=some none;simp only[Instr.findNow,e1 1 (by omega),e1 2 (by omega),e1 3 (by omega)]
end Go.Proofs.YtcnefjfboagbmaaGreat
