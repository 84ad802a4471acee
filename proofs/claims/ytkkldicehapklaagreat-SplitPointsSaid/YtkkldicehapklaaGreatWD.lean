/- A map's programs: what comes behind an operation; operations: their walks. -/
import Derived.Test.YtkkldicehapklaaGreatWC
import Derived.Test.YtkkldicehapklaaGreatWB
namespace Go.Proofs.YtkkldicehapklaaGreat
open Go.Proofs.Tryz
open Go.RowKit
set_option maxRecDepth 100000
theorem aiI:∀n:Nat,n<65->1<=n->(decide (IntKind.i64.wrap (((BitVec.ofInt 64 (n:Int)&&&BitVec.ofInt 64 ((n:Int)-1)).toNat:Nat):Int)=0))=qR (n:Int):=by decide+kernel
theorem aiJ{n:Int}(h0:1<=n)(h1:n<=64):(decide (IntKind.i64.wrap (((BitVec.ofInt 64 n&&&BitVec.ofInt 64 (n-1)).toNat:Nat):Int)=0))=qR n:=by obtain⟨m,rfl⟩:=Int.eq_ofNat_of_zero_le (show 0<=n by omega);exact aiI m (by omega) (by omega)
theorem Kg(g:List (Int×Int))(hg:g.length<=100000):bH prog 39 [im g] (.ca [kx iB,pG ⟨0,false,1,-1,g⟩,dB true]):=by
 refine sP func39 ntmps39 λ w cl=>?_
 refine gA ((Ev g hg).pure) ?_;refine hp ?_
 rfl
abbrev zs(l:aI)(O m:Int)(log:List aJ)(s:ag):cn:=[(40,sY l O m log s),(53,[.ptr 40 0]),(54,[M (fq l m 1)])]
theorem Z1(l:aI)(hL:eT l)(hM:lN l)(O m:Int)(log:List aJ)(size:Int)(s:ag)(yD:1<=size)(yE:size<=64)(h0:m9 log s):
 Ef 69 [40,53,54] (zs l O m log) log s [M size,.ptr 53 0,.ptr 54 0] (q6 l m 2 size log s) (λ _=>.ca []):=by
 generalize Y:q6 l m 2 size log s=E;rw[q6,if_pos rfl] at Y;have ew:IntKind.i64.wrap (2*size)=2*size:=ln (by omega) (by omega);refine sX func69 ntmps69 λ w cl own kf=>?_
 refine go ?_;refine xP (DP l O m log s ⟨4,fq l m 1,0,1⟩ h0) ?_;rintro d bs ⟨r,s1,fE,gC,rfl,rfl⟩;rw[bl fE] at Y;have h1:=h0.next gC;refine go ?_;rw[ew];refine go ?_;generalize k1:decide (r.val>=2*size)=cc;cases cc
 ·rw[if_neg (λ h=>of_decide_eq_false k1 h.1)] at Y;refine go ?_;exact fX _ ⟨(),s1,Y.symm,gC,rfl,rfl⟩
 refine go ?_;generalize k2:decide (size<l.buckets)=cc;cases cc
 ·rw[if_neg (λ h=>of_decide_eq_false k2 h.2)] at Y;refine go ?_;exact fX _ ⟨(),s1,Y.symm,gC,rfl,rfl⟩
 rw[if_pos ⟨of_decide_eq_true k1,of_decide_eq_true k2⟩] at Y;refine go ?_;refine dW 14 [] ?_;refine gQ (Do l hL hM m 0 (by omega)) ?_;rw[ew];refine xP (DP l O m log s1 ⟨3,fq l m 0,size,2*size⟩ h1) ?_;rintro d bs ⟨r2,s2,cL,fW,rfl,rfl⟩;rw[bl cL] at Y;refine go ?_;exact fX _ ⟨(),s2,Y.symm,gC.B5 fW,rfl,rfl⟩
theorem Z2(l:aI)(O m:Int)(log:List aJ)(size:Int)(s:ag)(h0:m9 log s):
 Ef 70 [40,53,54] (zs l O m log) log s [M size,.ptr 53 0,.ptr 54 0] (q6 l m 3 size log s) (λ _=>.ca []):=by
 generalize Y:q6 l m 3 size log s=E;rw[q6,if_neg (by decide),if_pos rfl] at Y;refine sX func70 ntmps70 λ w cl own kf=>?_
 refine go ?_;refine xP (DP l O m log s ⟨4,fq l m 1,0,-1⟩ h0) ?_;rintro d bs ⟨r,s1,fE,gC,rfl,rfl⟩;rw[bl fE] at Y;refine go ?_;exact fX _ ⟨(),s1,Y.symm,gC,rfl,rfl⟩
theorem Z0(l:aI)(O m:Int)(log:List aJ)(size:Int)(s:ag)(h0:m9 log s):
 Ef 68 [40,53,54] (zs l O m log) log s [M size] (q6 l m 1 size log s) (λ _=>.ca []):=by
 rw[show q6 l m 1 size log s=.ok ((),s) by rw[q6,if_neg (by decide),if_neg (by decide)];rfl];refine sX func68 ntmps68 λ w cl own kf=>?_
 refine go ?_;exact fX _ ⟨(),s,rfl,h0.refl,rfl,rfl⟩
abbrev pW(fN:I)(l:aI)(O:Int)(op:a9)(log:List aJ)(s:ag):cn:=[(40,sY l O op.obj log s),(55,[.ptr 40 0]),(56,iK l),(57,[M op.kind,M op.obj,M op.a,M op.b]),(58,[fN]),(53,[.ptr 40 0]),(54,[M (fq l op.obj 1)])]
structure K7 where
 o:bd
 s:ag
 ex:Bool
 k:Nat
 ps:List Pl
abbrev WN(p:K7):I:=.agg [M p.o.val,dB p.o.is,M p.o.err,M p.o.aD,.p (.sl p.ex p.k p.ps)]
def K8(bx:ag->cn)(log:List aJ)(m:Except bz (bd×ag))(s:ag):I->cn->Prop:=λ d bs=>∃p:K7,m=.ok (p.o,p.s)/\iy log s p.s/\d=WN p/\bs=bx p.s
abbrev Mz:I:=.fn (.func 68) [] []
abbrev MA:I:=.fn (.func 69) [] [.ptr 53 0,.ptr 54 0]
abbrev MB:I:=.fn (.func 70) [] [.ptr 53 0,.ptr 54 0]
structure FD(d:I):Prop where
 t:True
abbrev x4{d:I}(_:FD d):I:=d
set_option maxHeartbeats 16000000 in
theorem Qt(fN:I)(l:aI)(hL:eT l)(hS:0<=l.ar)(hM:lN l)(O:Int)(op:a9)(log:List aJ)(s:ag)(hf:op.kind=1/\fN=Mz\/op.kind=2/\fN=MA\/op.kind=3/\fN=MB)(AK:0<=op.a)(AL:op.a<65536)(h0:m9 log s):
 jt prog 41 [40,53,54,55,56,57,58] [.ptr 55 0,.ptr 56 0,.ptr 57 0,.ptr 58 0] (pW fN l O op log s) (K8 (pW fN l O op log) log (uH l O op log s) s) (zh (pW fN l O op log) (uH l O op log s)):=by
 generalize Y:uH l O op log s=E;rw[uH] at Y;obtain⟨alO,alP⟩:=hM.b;obtain⟨kd,ob,ka,kb⟩:=op;simp only at hf AK AL Y;have tZ:FD fN:=⟨trivial⟩;rcases hf with⟨ua,rfl⟩|⟨ua,rfl⟩|⟨ua,rfl⟩
 all_goals
  refine sX func41 ntmps41 λ w cl own kf=>?_
  refine mK ?_;refine nA 47 ?_;refine go ?_;refine dW 8 [] ?_;refine gQ (Do l hL hM ob 0 (by omega)) ?_;refine xP (DP l O ob log s ⟨1,fq l ob 0,0,0⟩ h0) ?_;rintro d bs ⟨r,s1,fE,gC,rfl,rfl⟩;rw[bl fE] at Y;have h1:=h0.next gC;have Ns:(r.val<1\/l.buckets<r.val\/qR r.val=false)->E=.ok (⟨0,false,1,-1,[]⟩,s1):=λ h=>by rw[if_pos h] at Y;exact Y.symm
  have I7:∀p:K7,E=.ok (p.o,p.s)->iy log s p.s->K8 (pW (x4 tZ) l O ⟨kd,ob,ka,kb⟩ log) log E s (WN p) (pW (x4 tZ) l O ⟨kd,ob,ka,kb⟩ log p.s):=λ p h1 u=>⟨p,h1,u,rfl,rfl⟩
  refine go ?_;generalize k1:decide (r.val<1)=cc;cases cc
  rotate_left
  ·refine go ?_;refine fX (pW (x4 tZ) l O ⟨kd,ob,ka,kb⟩ log s1) ?_;exact I7 ⟨⟨0,false,1,-1,[]⟩,s1,true,0,[]⟩ (Ns (.inl (of_decide_eq_true k1))) gC
  have rS:=of_decide_eq_false k1;refine go ?_;generalize k2:decide (r.val>l.buckets)=cc;cases cc
  rotate_left
  ·refine go ?_;refine fX (pW (x4 tZ) l O ⟨kd,ob,ka,kb⟩ log s1) ?_;exact I7 ⟨⟨0,false,1,-1,[]⟩,s1,true,0,[]⟩ (Ns (.inr (.inl (of_decide_eq_true k2)))) gC
  have xe:=of_decide_eq_false k2;have afk:=aiJ (n:=r.val) (by omega) (by omega);refine go ?_;rw[afk];cases sO:qR r.val
  ·refine go ?_;refine fX (pW (x4 tZ) l O ⟨kd,ob,ka,kb⟩ log s1) ?_;exact I7 ⟨⟨0,false,1,-1,[]⟩,s1,true,0,[]⟩ (Ns (.inr (.inr sO))) gC
  rw[if_neg (by rw[sO];simp;omega)] at Y;refine go ?_;have ud:=Int.emod_nonneg ka (show r.val≠0 by omega);have wR:=Int.emod_lt_of_pos ka (show 0<r.val by omega);have mp:=ajP l hL hS hM O ob log (ka%r.val) s1 ud (by omega) h1;refine HH (λ p:D6=>KV log (mF l O ob 64 (ka%r.val) log s1) s1 p) (λ p=>⟨[(6,M p.n),(7,.ptr 48 0),(4,.ptr 47 0),(5,M r.val),(0,.ptr 55 0),(1,.ptr 56 0),(2,.ptr 57 0),(3,.ptr 58 0)],[(40,sY l O ob log p.s),(55,[.ptr 40 0]),(56,iK l),(57,[M kd,M ob,M ka,M kb]),(58,[(x4 tZ)]),(53,[.ptr 40 0]),(54,[M (fq l ob 1)]),(47,[M 0,dB false,M 0,M 0,.p (.sl true 0 [])]),(48,[M p.o.val,dB p.o.is,M p.o.err,M p.o.aD,.p (.sl p.ex p.k p.ps)])],[]⟩) ?_ ?_
  ·have o6:∀x,mF l O ob 64 (ka%r.val) log s1=.error x->E=.error x:=λ x h=>by rw[<-Y];exact eA h
   refine xR 5 9 48 7 6 ?_;refine bJ ?_;refine fL (XB rfl rfl rfl (by omega) (by omega)) rfl rfl ?_;refine bJ ?_;refine LG rfl rfl rfl ?_ (λ hB=>?_)
   all_goals repeat' (first|refine tA 6 ?_|refine tA 7 ?_|refine tA 8 ?_|refine oA 5 ?_|refine oA 9 ?_|refine oA 10 ?_|refine oA 11 ?_|refine oB 5 9 ?_ ?_|exact dA ⟨rfl,⟨p,G,zX⟩⟩|exact nx hB|refine xX mp ?_ ?_|(rintro v bs ⟨a,ah,h,rfl,rfl⟩;refine PK (PJ ?_);refine gP ?_;exact fP _ ⟨a,ah,o6 a h,rfl,rfl⟩)|(rintro d bs ⟨p,G,rfl,rfl⟩;refine nx (HA ?_))|(refine nA 48 ?_;first|exact nx hB|refine nx ?_)|((first|refine z2 ?_|refine z5 ?_);refine nx ?_))
  rintro⟨dn,dq,s2,Mo,Mj,PG⟩ ⟨cL,fW,ad7,ND⟩;simp only at cL fW ad7 ND;rw[bl cL] at Y;have u:=h1.next fW;have ET:=gC.B5 fW;simp only at Y;refine go ?_;generalize k3:decide (dq.err=0)=cc;cases cc
  ·rw[if_pos (of_decide_eq_false k3)] at Y;refine go ?_;refine fX (pW (x4 tZ) l O ⟨kd,ob,ka,kb⟩ log s2) ?_;exact I7 ⟨dq,s2,Mo,Mj,PG⟩ Y.symm ET
  rw[if_neg (λ h=>h (of_decide_eq_true k3))] at Y;have N5:=Ym l hL hS hM O ob log s2 kd dn (lH ka) kb u (by omega);refine go ?_;refine Lz 9 10 [] rfl rfl (by kernel_rfl) (by kernel_rfl) (by kernel_rfl) rfl rfl ?_;refine gQ (ajf ka) ?_;refine xP N5 ?_;rintro d bs ⟨q,s3,fx,ji,rfl,rfl⟩;rw[bl fx] at Y;obtain⟨⟨ov,xo,oe,J0,og⟩,a3⟩:=q;have J:=u.next ji;have EU:=ET.B5 ji;simp only at Y;refine qv ?_;refine agl [48] rfl rfl ?_;refine qg ?_;cases xo
  ·rw[if_neg (by decide)] at Y;refine go ?_;exact fX _ ⟨⟨⟨ov,false,oe,J0,og⟩,s3,false,og.length,jo og⟩,Y.symm,EU,rfl,rfl⟩
  rw[if_pos rfl] at Y;subst ua;refine go ?_
 refine vP (Z0 l O ob log r.val s3 J) ?_
 rotate_left
 refine vP (Z1 l hL hM O ob log r.val s3 (by omega) (by omega) J) ?_
 rotate_left
 refine vP (Z2 l O ob log r.val s3 J) ?_
 rotate_left
 all_goals
  rintro d bs ⟨aH,s4,i9,lU,rfl,rfl⟩;rw[bl i9] at Y;refine go ?_;exact fX _ ⟨⟨⟨ov,true,oe,J0,og⟩,s4,false,og.length,jo og⟩,Y.symm,EU.B5 lU,rfl,rfl⟩
theorem afg{e:aE}{vs:List Value}(a:bz)(o:bd)(dn:Bool)(hI:iW (qQ a (yP o) dn) e)(hv:DReps e vs [.ptr 22 0,.ptr 21 0,.ptr 23 0,.ptr 24 0]):
 CallsD prog 72 vs.toArray .returning e.w λ r u2 aA=>∃ae ay,r=.returned (.tuple #[])/\u2=.returning/\ae.w=aA/\iW ay ae/\Left [21,22,23,24] e ae/\ay=qQ a (yP o) dn:=by
 refine Kf (aq:=tb) func72 rfl ntmps72 rfl rfl rfl (by(repeat(first|exact trivial|refine⟨rfl,?_⟩))) (λ _ _=>rfl) (λ _=>rfl) rfl rfl .no (λ w cl own kf=>?_) hI hv;refine go ?_;refine cy (Vh underlying20 rfl rfl) rfl rfl rfl ?_;refine go ?_;refine pH (qQ a (yP o) dn) rfl rfl (by(repeat(first|exact trivial|refine⟨⟨rfl,rfl⟩,?_⟩))) (by(repeat(first|exact trivial|refine⟨rfl,?_⟩))) rfl
theorem afh{e:aE}{vs:List Value}(a bF:bz)(od:List I)(ho:od=[M 0,dB false,M 0,M 0,.p (.sl true 0 [])])(dn:Bool)(hI:iW (qQ a od dn) e)(hv:DReps e vs [.ptr 22 0,.ptr 21 0,.ptr 23 0,.ptr 24 0]):
 CallsD prog 72 vs.toArray (.panicking [pe (Cg bF)]) e.w λ r u2 aA=>∃ae ay,r=.returned (.tuple #[])/\u2=.panicking [{v:=Cg bF,recovered:=true}]/\ae.w=aA/\iW ay ae/\Left [21,22,23,24] e ae/\ay=qQ bF od dn:=by
 subst ho;refine Kf (aq:=tb) func72 rfl ntmps72 rfl rfl rfl (by(repeat(first|exact trivial|refine⟨rfl,?_⟩))) (λ _ _=>rfl) (λ _=>rfl) rfl rfl (.yes (Cg bF)) (λ w cl own kf=>?_) hI hv;refine go ?_;refine cy (Vi underlying20 rfl rfl) rfl rfl rfl ?_;refine go ?_;refine cy (Rx aX rfl rfl rfl rfl) rfl rfl rfl ?_;refine go ?_;refine pH (qQ bF _ dn) rfl rfl (by(repeat(first|exact trivial|refine⟨⟨rfl,rfl⟩,?_⟩))) (by(repeat(first|exact trivial|refine⟨rfl,?_⟩))) rfl
abbrev T2(a:bz)(od:List I)(dn:Bool):St:=⟨[(4,.ptr 22 0),(5,.ptr 23 0),(6,.ptr 24 0)],qQ a od dn,[]⟩
def Zr(m:Except bz (bd×ag))(Γ:bX):Exit->St->Prop:=λ ex L=>(ex=.ret/\∃x ah,m=.ok (x,ah)/\eI Γ L (T2 iB (yP {x with gone:=ah.gone}) true))\/∃a,ex=.panic [pe (Cg a)]/\m=.error a/\eI Γ L (T2 iB [M 0,dB false,M 0,M 0,.p (.sl true 0 [])] false)
set_option maxHeartbeats 4000000 in
theorem Oc(fN:I)(hf:fN=Mz\/fN=MA\/fN=MB)(l:aI)(O:Int)(log:List aJ)(op:a9)(s:ag)(m:Except bz (bd×ag))(AV:s.gone.length+log.length<=100000)(hC:jt prog 41 [40,53,54,55,56,57,58] [.ptr 55 0,.ptr 56 0,.ptr 57 0,.ptr 58 0] (pW fN l O op log s) (K8 (pW fN l O op log) log m s) (zh (pW fN l O op log) m)):
 gt prog 40 [] [.ptr 40 0,.fn (.func 41) [] [.ptr 55 0,.ptr 56 0,.ptr 57 0,.ptr 58 0]] (pW fN l O op log s) (La m):=by
 have tZ:FD fN:=⟨trivial⟩;rcases hf with rfl|rfl|rfl
 all_goals
  intro e vs hI hv;refine calls_of_wp_defers func40 rfl ?_;have lx:=Gb (fn:=f40) (f:=40) (bc:=[]) [] (Nat.le_of_ble_eq_true (by kernel_rfl)) trivial hI hv rfl;refine wp_seq (Code.wp_mono (λ ex a1 w1 hh=>?_) (a8.run (Q:=λ ex L=>ex=.normal/\L=⟨[(6,.ptr 24 0),(5,.ptr 23 0),(4,.ptr 22 0),(2,.ptr 21 0),(0,.ptr 40 0),(1,.fn (.func 41) [] [.ptr 55 0,.ptr 56 0,.ptr 57 0,.ptr 58 0])],(24,[dB false])::(23,[M 0,dB false,M 0,M 0,.p (.sl true 0 [])])::(22,[M 0,M 0,M 0,M 0])::(21,[.ptr 40 0])::pW (x4 tZ) l O op log s,[]⟩) ?_ _ e lx))
  ·obtain⟨sk,e1,rfl,c7,rfl,rfl⟩:=hh;obtain⟨k1,_,_,b1,_,_⟩:=c7.boxes 21 _ rfl;obtain⟨k2,_,_,b2,_,_⟩:=c7.boxes 22 _ rfl;obtain⟨k3,_,_,b3,_,_⟩:=c7.boxes 23 _ rfl;obtain⟨k4,_,_,b4,_,_⟩:=c7.boxes 24 _ rfl;refine wp_seq (Zc c7 rfl rfl rfl rfl rfl rfl rfl rfl [(21,k1),(22,k2),(23,k3),(24,k4)] (λ b k hk=>?_) (λ a2 dX kE fI=>?_))
   ·simp only[dc] at hk;split at hk
    ·rename_i q;cases hk;rw[<-q];exact b1
    ·split at hk
     ·rename_i q;cases hk;rw[<-q];exact b2
     ·split at hk
      ·rename_i q;cases hk;rw[<-q];exact b3
      ·split at hk
       ·rename_i q;cases hk;rw[<-q];exact b4
       ·cases hk
   ·refine Code.wp_mono (λ ex a3 w3 hh=>?_) (a8.run (Γ:=⟨18,e.w,e.cl,λ k=>∃b,e.bx b=some k,[(21,k1),(22,k2),(23,k3),(24,k4)],[{target:=.fn (.func 72) dX.toArray,args:=#[]}]⟩) (Q:=Zr m ⟨18,e.w,e.cl,λ k=>∃b,e.bx b=some k,[(21,k1),(22,k2),(23,k3),(24,k4)],[{target:=.fn (.func 72) dX.toArray,args:=#[]}]⟩) ?_ a2 e1 fI)
    ·obtain⟨akX,e3,rfl,n9,hq⟩:=hh;rcases hq with⟨rfl,x,ah,hm,ip⟩|⟨a,rfl,hm,ip⟩
     ·skip
      obtain⟨e4,Br,gJ⟩:=ip a3 e3 n9;show Leaves prog f40 a3.tmps _ a3.defers .returning e3.w;rw[gJ.df,<-Br];have AN:DReps e4 dX [.ptr 22 0,.ptr 21 0,.ptr 23 0,.ptr 24 0]:=⟨kE.1,λ i v d hv K=>by
       match i,hv,K with
       |0,hv,K=>cases K;exact pu (kE.2 0 v _ hv rfl) b2 (gJ.env.kb 22 k2 rfl)
       |1,hv,K=>cases K;exact pu (kE.2 1 v _ hv rfl) b1 (gJ.env.kb 21 k1 rfl)
       |2,hv,K=>cases K;exact pu (kE.2 2 v _ hv rfl) b3 (gJ.env.kb 23 k3 rfl)
       |3,hv,K=>cases K;exact pu (kE.2 3 v _ hv rfl) b4 (gJ.env.kb 24 k4 rfl)⟩
      refine Js gJ (λ a w=>call72 a w) AN rfl (by(repeat(first|exact trivial|refine⟨⟨rfl,rfl⟩,?_⟩))) ⟨.inr rfl,.inr rfl,.inr rfl,.inr rfl,trivial⟩ rfl (by simp) rfl (λ e0 D0 h1 u=>afg iB {x with gone:=ah.gone} true h1 u) (λ ay hb=>by subst hb;exact⟨.inl rfl,.inl rfl,.inl rfl,.inl rfl,trivial⟩) (λ ay e5 hb mO=>?_);subst hb;obtain⟨v,hr,w7⟩:=BU aX (fn:=f40) (d:=.ca [kx iB,pG {x with gone:=ah.gone},dB true]) mO rfl;refine⟨v,hr,v,_,[],e5.cut (aL []) λ _=>false,rfl,rfl,⟨rfl,.inl ⟨x,ah,hm,rfl⟩⟩,rg mO trivial,w7.cut rfl,⟨mO.env.kept,mO.env.cl,λ b k hk=>?_,λ b hb=>by cases hb⟩⟩;cases hk
     ·skip
      obtain⟨e4,Br,gJ⟩:=ip a3 e3 n9;show Leaves prog f40 a3.tmps _ a3.defers (.panicking [pe (Cg a)]) e3.w;rw[gJ.df,<-Br];have AN:DReps e4 dX [.ptr 22 0,.ptr 21 0,.ptr 23 0,.ptr 24 0]:=⟨kE.1,λ i v d hv K=>by
       match i,hv,K with
       |0,hv,K=>cases K;exact pu (kE.2 0 v _ hv rfl) b2 (gJ.env.kb 22 k2 rfl)
       |1,hv,K=>cases K;exact pu (kE.2 1 v _ hv rfl) b1 (gJ.env.kb 21 k1 rfl)
       |2,hv,K=>cases K;exact pu (kE.2 2 v _ hv rfl) b3 (gJ.env.kb 23 k3 rfl)
       |3,hv,K=>cases K;exact pu (kE.2 3 v _ hv rfl) b4 (gJ.env.kb 24 k4 rfl)⟩
      refine Js gJ (λ a w=>call72 a w) AN rfl (by(repeat(first|exact trivial|refine⟨⟨rfl,rfl⟩,?_⟩))) ⟨.inr rfl,.inr rfl,.inr rfl,.inr rfl,trivial⟩ rfl (by simp) rfl (λ e0 D0 h1 u=>afh iB a _ rfl false h1 u) (λ ay hb=>by subst hb;exact⟨.inl rfl,.inl rfl,.inl rfl,.inl rfl,trivial⟩) (λ ay e5 hb mO=>?_);subst hb;obtain⟨v,hr,w7⟩:=BU aX (fn:=f40) (d:=.ca [kx a,Ez gl,dB false]) mO rfl;refine⟨v,hr,v,_,[],e5.cut (aL []) λ _=>false,rfl,rfl,⟨rfl,.inr ⟨a,hm,rfl⟩⟩,rg mO trivial,w7.cut rfl,⟨mO.env.kept,mO.env.cl,λ b k hk=>?_,λ b hb=>by cases hb⟩⟩;cases hk
    ·refine go ?_;refine vX hC ?_ ?_
     ·rintro v bs ⟨a,ah,h,rfl,rfl⟩;refine gP ?_;exact .inr ⟨a,rfl,h,eI.trans (HD 21 rfl rfl) (zX)⟩
     rintro d bs ⟨⟨x,ah,ex,k,ps⟩,h,qB,rfl,rfl⟩;simp only at h qB;have aeo:=qB.len;have aep:=qB.le;refine gA ((Ev ah.gone (by omega)).pure) ?_;refine gW 3 [22] ?_;refine go ?_;exact .inl ⟨rfl,x,ah,h,eI.trans (HD 21 rfl rfl) (zX)⟩
  ·refine mK ?_;refine bA 21 ?_;refine nA 22 ?_;refine nA 23 ?_;refine nA 24 ?_;exact oR ⟨rfl,rfl⟩
def En(f:FuncId)(kf:Nat->Nat):Value:=.func (.func f) #[] #[.pointer (some ⟨kf 53,0,none⟩),.pointer (some ⟨kf 54,0,none⟩)]
def RD(kf:Nat->Nat):Array MapEntry:=((#[].push ⟨.int .i64 1,.func (.func 68) #[] #[],0⟩).push ⟨.int .i64 2,En 69 kf,1⟩).push ⟨.int .i64 3,En 70 kf,2⟩
theorem aaN(l:aI)(hL:eT l)(hM:lN l)(O m:Int)(log:List aJ)(s:ag):Q3 prog 37 [40] [.ptr 40 0] (yR l O m log s) (zs l O m log s) [53,54] RD:=by
 intro e vs hI hv;refine calls_of_wp func37 rfl ?_;have fY:ku (yR l O m log s) [40]:=⟨rfl,trivial⟩;have lx:=Gb (fn:=f37) (f:=37) (bc:=[40]) [] (by decide) fY hI hv rfl;refine wp_seq (Code.wp_mono (λ ex a1 w1 hh=>?_) (a8.run (Q:=λ ex L=>ex=.normal/\L=⟨[(2,.p (.raw (.map none))),(1,.ptr 53 0),(0,.ptr 40 0)],(53,[.ptr 40 0])::yR l O m log s,[]⟩) ?_ _ e lx))
 ·obtain⟨sk,e1,rfl,c7,rfl,rfl⟩:=hh;refine wp_seq (Code.wp_mono (λ ex a2 w2 hh=>?_) (a8.run (Q:=λ ex L=>ex=.normal/\eI ⟨f37.ntmps,e.w,e.cl,λ k=>∃b,e.bx b=some k,mz (λ b=>(e.bx b).getD 0) [40],[]⟩ L ⟨[(3,.ptr 54 0),(1,.ptr 53 0)],zs l O m log s,[]⟩) ?_ _ e1 c7))
  ·obtain⟨sm,als,rfl,ad0,rfl,ip⟩:=hh;obtain⟨e2,U9,fI⟩:=ip _ _ ad0;rw[<-U9];obtain⟨k1,_,_,b1,_,_⟩:=fI.boxes 40 _ rfl;obtain⟨k2,_,_,b2,_,_⟩:=fI.boxes 53 _ rfl;obtain⟨k3,_,_,b3,_,_⟩:=fI.boxes 54 _ rfl;obtain⟨kf,NX⟩:∃kf:Nat->Nat,kf=λ b=>(e2.bx b).getD 0:=⟨_,rfl⟩
   have q1:e2.bx 40=some (kf 40):=by rw[NX];simp only[b1,Option.getD_some]
   have q2:e2.bx 53=some (kf 53):=by rw[NX];simp only[b2,Option.getD_some]
   have q3:e2.bx 54=some (kf 54):=by rw[NX];simp only[b3,Option.getD_some]
   refine wp_seq (wp_region_lit (ahk (kb:=mz kf [40,53,54]) rfl rfl rfl rfl fI (λ b k hk=>?_) (λ b k hk=>?_) (λ r qx=>?_)))
   ·obtain⟨h1,rfl⟩:=Df hk;simp only[List.mem_cons,List.mem_nil_iff,or_false] at h1;rcases h1 with rfl|rfl|rfl
    ·exact q1
    ·exact q2
    ·exact q3
   ·have u:=fI.env.kb b k hk;obtain⟨h1,rfl⟩:=Df hk;simp only[List.mem_cons,List.mem_nil_iff,or_false] at h1;subst h1;rw[q1] at u;rw[Bv (by simp)];exact u
   ·refine O1 (v:=.func (.func 68) #[] #[]) qx rfl rfl (by rfl) (by rfl) rfl rfl rfl rfl (λ _ _ _ e h aH hu=>acJ hu) rfl rfl ?_;refine JO aX rfl rfl rfl rfl ?_;refine O1 (v:=En 69 kf) qx rfl rfl (by rfl) (by rfl) rfl rfl rfl rfl (λ _ _ _ e h aH hu=>S9 (h.kb 53 _ rfl) (h.kb 54 _ rfl) hu) rfl rfl ?_;refine JO aX rfl rfl rfl rfl ?_;refine O1 (v:=En 70 kf) qx rfl rfl (by rfl) (by rfl) rfl rfl rfl rfl (λ _ _ _ e h aH hu=>S9 (h.kb 53 _ rfl) (h.kb 54 _ rfl) hu) rfl rfl ?_;refine JO aX rfl rfl rfl rfl ?_;refine JO aX rfl rfl rfl rfl ?_;refine⟨λ aA bI cR hi a3 e3 n9=>?_⟩;have gJ:=hi.qq n9;obtain⟨v,hr,w7⟩:=BU aX (fn:=f37) (d:=.p (.raw (.map (some r)))) gJ rfl;have:=dg w7;subst this;refine wp_ret ⟨gJ.df,_,hr,r,_,kf,e3.cut (aL (zs l O m log s)) λ _=>false,rfl,rfl,rg gJ (by(repeat(first|exact trivial|refine⟨⟨rfl,rfl⟩,?_⟩))),imp_left hI fY gJ ⟨rfl,trivial⟩,λ n hn=>?_,hi.now n9.env⟩;have dI:=n9.env.kb n (kf n) (Bv (by simp at hn⊢;omega));show(if aL (zs l O m log s) n=true then e3.bx n else none)=_;rw[if_pos]
    ·exact dI
    ·simp only[List.mem_cons,List.mem_nil_iff,or_false] at hn;rcases hn with rfl|rfl<;>rfl
  ·refine gW 10 [] ?_;refine cQ (Do l hL hM m 1 (by omega)) ?_;refine s0 (xM aX 54 rfl rfl rfl rfl) rfl rfl rfl rfl ?_;refine qg ?_;exact⟨rfl,zX⟩
 ·refine mK ?_;refine bA 53 ?_;refine go ?_;exact⟨rfl,rfl⟩
set_option maxHeartbeats 16000000 in
theorem IV(fN:I)(kn:Bool)(l:aI)(hL:eT l)(hM:lN l)(O:Int)(gone:List (Int×Int))(op:a9)(log:List aJ)(hg:gone.length<=100000)(CS:vB fN=true)(ly:Nat.beq fN.cells.length 1=true)(yi:∀x,uI [x] 0 fN some=some [fN])(T3:∀B aa,B 53=true->B 54=true->I.ok.fy B aa [fN]=true)(FB:kn=decide (1<=op.kind/\op.kind<=3))
 (fT:∀(Γ eR:bX)(r ck:Nat)(kf:Nat->Nat),py Γ eR r (RD kf) ck->eR.kb=mz kf [53,54]->Hr prog eR 100 r op.kind fN kn)
 (cV:kn=true->0<=op.a->op.a<65536->gt prog 40 [] [.ptr 40 0,.fn (.func 41) [] [.ptr 55 0,.ptr 56 0,.ptr 57 0,.ptr 58 0]] (pW fN l O op log ⟨0,gone,0,0,0⟩) (La (uH l O op log ⟨0,gone,0,0,0⟩))):
 bH prog 18 [iZ l,M O,im gone,.agg [M op.kind,M op.obj,M op.a,M op.b],nZ log] (.ca [kx (oq l O gone op log).1,pG (oq l O gone op log).2.1,dB (oq l O gone op log).2.2]):=by
 generalize Y:oq l O gone op log=E;unfold oq at Y;refine sP func18 ntmps18 λ w cl=>?_
 refine mK ?_;refine bA 56 ?_;refine bA 57 ?_;refine nA 60 ?_;refine nA 61 ?_;refine z2 ?_;refine oR ?_;refine mK ?_;refine z2 ?_;refine z2 ?_;refine z2 ?_;refine z2 ?_;refine z2 ?_;refine z2 ?_;refine z6 ?_;refine bA 40 ?_;refine nA 55 ?_;refine go ?_;refine iP (bQ:=⟨[(13,.ptr 55 0),(12,dB false),(11,.ptr 61 0),(10,.ptr 60 0),(8,.ptr 57 0),(5,.ptr 56 0),(2,im gone)],[(40,sY l O op.obj log ⟨0,gone,0,0,0⟩),(55,[.ptr 40 0]),(56,iK l),(57,[M op.kind,M op.obj,M op.a,M op.b]),(60,[M 0,M 0,M 0,M 0]),(61,[M 0,dB false,M 0,M 0,.p (.sl true 0 [])])],[]⟩) zX ?_;refine HH (λ _:Unit=>True) (λ _=>⟨[(15,dB kn),(14,.ptr 58 0),(13,.ptr 55 0),(12,dB false),(11,.ptr 61 0),(10,.ptr 60 0),(8,.ptr 57 0),(5,.ptr 56 0),(2,im gone)],[(40,sY l O op.obj log ⟨0,gone,0,0,0⟩),(55,[.ptr 40 0]),(56,iK l),(57,[M op.kind,M op.obj,M op.a,M op.b]),(58,[fN]),(53,[.ptr 40 0]),(54,[M (fq l op.obj 1)]),(60,[M 0,M 0,M 0,M 0]),(61,[M 0,dB false,M 0,M 0,.p (.sl true 0 [])])],[]⟩) ?_ (λ _ _=>?_)
 ·skip
  refine LC rfl (HA ?_)
  repeat' (first|refine tA 2 ?_|refine tA 5 ?_|refine tA 6 ?_|refine tA 7 ?_|refine wA 0 ?_|refine wA 1 ?_|refine wA 3 ?_|refine wA 4 ?_|refine wA 8 ?_|refine wA 9 ?_|refine wA 10 ?_|refine wB 4 8 ?_ ?_|refine wB 1 8 ?_ ?_|refine wB 1 3 ?_ ?_|refine wB 3 8 ?_ ?_|refine wB 0 8 ?_ ?_|refine wB 0 3 ?_ ?_|refine wC 0 3 8 ?_ ?_ ?_|refine wC 1 3 8 ?_ ?_ ?_|exact dA ⟨rfl,(),trivial,zX (hb:=by exact⟨⟨rfl,rfl⟩,⟨rfl,rfl⟩,⟨rfl,rfl⟩,⟨rfl,rfl⟩,⟨rfl,T3 _ _ rfl rfl⟩,⟨rfl,rfl⟩,⟨rfl,rfl⟩,⟨rfl,rfl⟩,⟨rfl,rfl⟩,trivial⟩)⟩|(refine aii (aaN l hL hM O op.obj log ⟨0,gone,0,0,0⟩) (by exact rfl) rfl (by exact rfl) (λ a w=>call37 a w) (by exact rfl) (by exact rfl) (by exact by(repeat(first|exact trivial|refine⟨⟨rfl,rfl⟩,?_⟩|refine⟨rfl,?_⟩))) (by exact rfl) (by exact rfl) (by exact rfl) (by exact rfl) (by exact rfl) (by exact⟨.inl rfl,.inr rfl,.inr rfl,trivial⟩) (by exact⟨rfl,rfl,trivial⟩) (λ r ck kf aA bI cR hi=>?_);have pM:=fT _ _ r ck kf hi rfl;clear hi)|(refine ahX ?_;(first|refine z2 ?_|refine ZJ pM rfl rfl rfl rfl rfl rfl ?_|refine nA 58 ?_|refine z5 (Z:=CS) (hsz:=ly) (bY:=yi _) ?_);refine nx ?_))
 ·clear fT;generalize IQ:fq l op.obj 0=ahh at Y;have IP:=Do l hL hM op.obj 0 (by omega);rw[IQ] at IP;cases kn
  ·have aeE:¬(1<=op.kind/\op.kind<=3):=of_decide_eq_false FB.symm;rw[if_pos (by omega)] at Y;refine gA (Kg gone hg) ?_;refine hp ?_;rw[<-Y]
  have aeE:1<=op.kind/\op.kind<=3:=of_decide_eq_true FB.symm;refine gA IP ?_;generalize k1:decide (ahh<0)=cc;cases cc
  rotate_left
  ·have rS:=of_decide_eq_true k1;rw[if_pos (by omega)] at Y;refine gA (Kg gone hg) ?_;refine hp ?_;rw[<-Y]
  have rS:=of_decide_eq_false k1;refine go ?_;generalize k2:decide (op.a<0)=cc;cases cc
  rotate_left
  ·have xe:=of_decide_eq_true k2;rw[if_pos (by omega)] at Y;refine gA (Kg gone hg) ?_;refine hp ?_;rw[<-Y]
  have xe:=of_decide_eq_false k2;refine go ?_;generalize k3:decide (op.a>=65536)=cc;cases cc
  rotate_left
  ·have Jk:=of_decide_eq_true k3;rw[if_pos (by omega)] at Y;refine gA (Kg gone hg) ?_;refine hp ?_;rw[<-Y]
  have Jk:=of_decide_eq_false k3;rw[if_neg (by omega)] at Y;refine go ?_;refine nf (cV rfl (by omega) (by omega)) rfl (λ a w=>call40 a w) rfl rfl (by exact⟨⟨rfl,rfl⟩,⟨rfl,rfl⟩,⟨rfl,rfl⟩,⟨rfl,rfl⟩,⟨rfl,T3 _ _ rfl rfl⟩,⟨rfl,rfl⟩,⟨rfl,rfl⟩,trivial⟩) trivial rfl rfl rfl rfl ?_ ?_
  ·rintro d bs ⟨rfl,_⟩;exact trivial
  rintro d bs ⟨rfl,⟨x,ah,hm,rfl⟩|⟨a,hm,rfl⟩⟩
  ·rw[hm] at Y;refine gf ?_;rw[<-Y];rfl
  ·rw[hm] at Y;refine gf ?_;rw[<-Y];rfl
theorem Sn{Γ:bX}{e:aE}{f:FuncId}{kf:Nat->Nat}(he:gV Γ e)(dI:Γ.kb=mz kf [53,54]):bC e (En f kf) (.fn (.func f) [] [.ptr 53 0,.ptr 54 0]):=by
 have h1:e.bx 53=some (kf 53):=he.kb 53 _ (by rw[dI];exact Bv (by simp));have u:e.bx 54=some (kf 54):=he.kb 54 _ (by rw[dI];exact Bv (by simp));exact bC.fn (us:=[]) (vs:=[.pointer (some ⟨kf 53,0,none⟩),.pointer (some ⟨kf 54,0,none⟩)]) rfl rfl (λ i v d h1 u=>by simp at h1) λ i v d q1 q2=>by
  match i,q1,q2 with
  |0,q1,q2=>cases q1;cases q2;exact .ptr h1
  |1,q1,q2=>cases q1;cases q2;exact .ptr u
theorem UH(l:aI)(hL:eT l)(hS:0<=l.ar)(hM:lN l)(O:Int)(gone:List (Int×Int))(op:a9)(log:List aJ)(hg:js gone)(o7:gone.length+log.length<=10000)(mr:log.length<=5000):bH prog 18 [iZ l,M O,im gone,.agg [M op.kind,M op.obj,M op.a,M op.b],nZ log] (Ey (oq l O gone op log)):=by
 have h0:m9 log ⟨0,gone,0,0,0⟩:=⟨hg,o7,Nat.zero_le _,mr⟩;have AV:gone.length+log.length<=100000:=by omega
 have i7:gone.length<=100000:=by omega
 by_cases eN:op.kind=1
 ·exact IV Mz true l hL hM O gone op log i7 rfl rfl (λ _=>rfl) (λ _ _ _ _=>rfl) (by rw[eN];rfl) (λ Γ eR r ck kf hi dI=>OU hi underlying100 underlying3 (by rw[eN];rfl) λ e he=>bC.fn (us:=[]) (vs:=[]) rfl rfl (λ i v d h1 u=>by simp at h1) (λ i v d h1 u=>by simp at h1)) λ _ AK AL=>Oc _ (.inl rfl) l O log op _ _ AV (Qt _ l hL hS hM O op log _ (.inl ⟨eN,rfl⟩) AK AL h0)
 by_cases fR:op.kind=2
 ·exact IV MA true l hL hM O gone op log i7 rfl rfl (λ _=>rfl) (λ B aa h1 u=>by simp[I.ok.fy,I.ok,h1,u]) (by rw[fR];rfl) (λ Γ eR r ck kf hi dI=>OU hi underlying100 underlying3 (by rw[fR];rfl) λ e he=>Sn he dI) λ _ AK AL=>Oc _ (.inr (.inl rfl)) l O log op _ _ AV (Qt _ l hL hS hM O op log _ (.inr (.inl ⟨fR,rfl⟩)) AK AL h0)
 by_cases lW:op.kind=3
 ·exact IV MB true l hL hM O gone op log i7 rfl rfl (λ _=>rfl) (λ B aa h1 u=>by simp[I.ok.fy,I.ok,h1,u]) (by rw[lW];rfl) (λ Γ eR r ck kf hi dI=>OU hi underlying100 underlying3 (by rw[lW];rfl) λ e he=>Sn he dI) λ _ AK AL=>Oc _ (.inr (.inr rfl)) l O log op _ _ AV (Qt _ l hL hS hM O op log _ (.inr (.inr ⟨lW,rfl⟩)) AK AL h0)
 ·refine IV (.p (.raw .nilFunc)) false l hL hM O gone op log i7 rfl rfl (λ _=>rfl) (λ _ _ _ _=>rfl) (by rw[eq_comm,decide_eq_false_iff_not];omega) (λ Γ eR r ck kf hi dI=>agP aX hi underlying100 underlying3 (show tb 98=some _ from rfl) ?_) λ h=>by cases h
  have e1:∀k:Int,k≠op.kind->Instr.sameNow (.int .i64) (.int .i64 op.kind) (.int .i64 k)=some false:=λ k hk=>by
   unfold Instr.sameNow;simp[hk.symm]
  show Instr.findNow (.int .i64) (.int .i64 op.kind) [⟨.int .i64 1,_,_⟩,⟨.int .i64 2,_,_⟩,⟨.int .i64 3,_,_⟩] 0=some none;simp only[Instr.findNow,e1 1 (by omega),e1 2 (by omega),e1 3 (by omega)]
end Go.Proofs.YtkkldicehapklaaGreat
