/- A map's programs: what comes behind an operation; operations: their walks. -/
import Derived.Test.YtcnefjfboagbmaaGreatWC
import Derived.Test.YtcnefjfboagbmaaGreatWB
namespace Go.Proofs.YtcnefjfboagbmaaGreat
open Go.Proofs.Tryz
open Go.RowKit
set_option maxRecDepth 100000
theorem abS:∀n:Nat,n<65->1<=n->(decide (IntKind.i64.wrap (((BitVec.ofInt 64 (n:Int)&&&BitVec.ofInt 64 ((n:Int)-1)).toNat:Nat):Int)=0))=Bt (n:Int):=by decide+kernel
theorem abT{n:Int}(h0:1<=n)(h1:n<=64):(decide (IntKind.i64.wrap (((BitVec.ofInt 64 n&&&BitVec.ofInt 64 (n-1)).toNat:Nat):Int)=0))=Bt n:=by obtain⟨m,rfl⟩:=Int.eq_ofNat_of_zero_le (show 0<=n by omega);exact abS m (by omega) (by omega)
theorem Hm(g:List (Int×Int))(hg:g.length<=100000):aX prog 116 [d7 g] (.bg [fy eN,jQ ⟨0,false,1,-1,g⟩,dB true]):=by
 refine sP func116 ntmps116 λ w cl=>?_
 refine gA ((pq g hg).pure) ?_;refine d8 ?_
 rfl
abbrev xt(l:ag)(D m:Int)(log:List aD)(s:ah):bE:=[(40,ru l D m log s),(53,[.ptr 40 0]),(54,[u (hl l m 1)])]
theorem Up(l:ag)(Z:ca l)(hM:kh l)(D m:Int)(log:List aD)(size:Int)(s:ah)(Qy:1<=size)(AP:size<=64)(h0:mC log s):
 BZ 142 [40,53,54] (xt l D m log) log s [u size,.ptr 53 0,.ptr 54 0] (p7 l m 2 size log s) (λ _=>.bg []):=by
 generalize E:p7 l m 2 size log s=aJ;rw[p7,if_pos rfl] at E;have ew:IntKind.i64.wrap (2*size)=2*size:=eI (by omega) (by omega);refine sX func142 ntmps142 λ w cl own kf=>?_
 refine go ?_;refine xP (BB l D m log s ⟨4,hl l m 1,0,1⟩ h0) ?_;rintro d U ⟨r,s1,bG,fU,rfl,rfl⟩;rw[aw bG] at E;have h1:=h0.next fU;refine go ?_;rw[ew];refine go ?_;generalize k1:decide (r.val>=2*size)=cc;cases cc
 ·rw[if_neg (λ h=>of_decide_eq_false k1 h.1)] at E;refine go ?_;exact fX _ ⟨(),s1,E.symm,fU,rfl,rfl⟩
 refine go ?_;generalize k2:decide (size<l.buckets)=cc;cases cc
 ·rw[if_neg (λ h=>of_decide_eq_false k2 h.2)] at E;refine go ?_;exact fX _ ⟨(),s1,E.symm,fU,rfl,rfl⟩
 rw[if_pos ⟨of_decide_eq_true k1,of_decide_eq_true k2⟩] at E;refine go ?_;refine dW 14 [] ?_;refine gQ (A9 l Z hM m 0 (by omega)) ?_;rw[ew];refine xP (BB l D m log s1 ⟨3,hl l m 0,size,2*size⟩ h1) ?_;rintro d U ⟨r2,s2,bm,fJ,rfl,rfl⟩;rw[aw bm] at E;refine go ?_;exact fX _ ⟨(),s2,E.symm,fU.y4 fJ,rfl,rfl⟩
theorem Uq(l:ag)(D m:Int)(log:List aD)(size:Int)(s:ah)(h0:mC log s):
 BZ 143 [40,53,54] (xt l D m log) log s [u size,.ptr 53 0,.ptr 54 0] (p7 l m 3 size log s) (λ _=>.bg []):=by
 generalize E:p7 l m 3 size log s=aJ;rw[p7,if_neg (by decide),if_pos rfl] at E;refine sX func143 ntmps143 λ w cl own kf=>?_
 refine go ?_;refine xP (BB l D m log s ⟨4,hl l m 1,0,-1⟩ h0) ?_;rintro d U ⟨r,s1,bG,fU,rfl,rfl⟩;rw[aw bG] at E;refine go ?_;exact fX _ ⟨(),s1,E.symm,fU,rfl,rfl⟩
theorem Uo(l:ag)(D m:Int)(log:List aD)(size:Int)(s:ah)(h0:mC log s):
 BZ 141 [40,53,54] (xt l D m log) log s [u size] (p7 l m 1 size log s) (λ _=>.bg []):=by
 rw[show p7 l m 1 size log s=.ok ((),s) by rw[p7,if_neg (by decide),if_neg (by decide)];rfl];refine sX func141 ntmps141 λ w cl own kf=>?_
 refine go ?_;exact fX _ ⟨(),s,rfl,h0.refl,rfl,rfl⟩
abbrev pa(gt:G)(l:ag)(D:Int)(op:bt)(log:List aD)(s:ah):bE:=[(40,ru l D op.obj log s),(55,[.ptr 40 0]),(56,cn l),(57,[u op.kind,u op.obj,u op.a,u op.b]),(58,[gt]),(53,[.ptr 40 0]),(54,[u (hl l op.obj 1)])]
structure H2 where
 o:bf
 s:ah
 ex:Bool
 k:Nat
 ps:List Pl
abbrev RG(p:H2):G:=.agg [u p.o.val,dB p.o.is,u p.o.err,u p.o.bS,.p (.sl p.ex p.k p.ps)]
def H3(bx:ah->bE)(log:List aD)(m:Except aT (bf×ah))(s:ah):G->bE->Prop:=λ d U=>∃p:H2,m=.ok (p.o,p.s)/\hx log s p.s/\d=RG p/\U=bx p.s
abbrev I3:G:=.fn (.func 141) [] []
abbrev I4:G:=.fn (.func 142) [] [.ptr 53 0,.ptr 54 0]
abbrev I5:G:=.fn (.func 143) [] [.ptr 53 0,.ptr 54 0]
structure FD(d:G):Prop where
 t:True
abbrev v8{d:G}(_:FD d):G:=d
set_option maxHeartbeats 16000000 in
theorem L5(gt:G)(l:ag)(Z:ca l)(hS:0<=l.az)(hM:kh l)(D:Int)(op:bt)(log:List aD)(s:ah)(hf:op.kind=1/\gt=I3\/op.kind=2/\gt=I4\/op.kind=3/\gt=I5)(xS:0<=op.a)(xT:op.a<65536)(h0:mC log s):
 fI prog 118 [40,53,54,55,56,57,58] [.ptr 55 0,.ptr 56 0,.ptr 57 0,.ptr 58 0] (pa gt l D op log s) (H3 (pa gt l D op log) log (sL l D op log s) s) (xp (pa gt l D op log) (sL l D op log s)):=by
 generalize E:sL l D op log s=aJ;rw[sL] at E;obtain⟨afe,aff⟩:=hM.b;obtain⟨kd,ob,ka,kb⟩:=op;simp only at hf xS xT E;have ux:FD gt:=⟨trivial⟩;rcases hf with⟨si,rfl⟩|⟨si,rfl⟩|⟨si,rfl⟩
 all_goals
  refine sX func118 ntmps118 λ w cl own kf=>?_
  refine gS ?_;refine nA 47 ?_;refine go ?_;refine dW 8 [] ?_;refine gQ (A9 l Z hM ob 0 (by omega)) ?_;refine xP (BB l D ob log s ⟨1,hl l ob 0,0,0⟩ h0) ?_;rintro d U ⟨r,s1,bG,fU,rfl,rfl⟩;rw[aw bG] at E;have h1:=h0.next fU;have qY:(r.val<1\/l.buckets<r.val\/Bt r.val=false)->aJ=.ok (⟨0,false,1,-1,[]⟩,s1):=λ h=>by rw[if_pos h] at E;exact E.symm
  have tK:∀p:H2,aJ=.ok (p.o,p.s)->hx log s p.s->H3 (pa (v8 ux) l D ⟨kd,ob,ka,kb⟩ log) log aJ s (RG p) (pa (v8 ux) l D ⟨kd,ob,ka,kb⟩ log p.s):=λ p h1 A=>⟨p,h1,A,rfl,rfl⟩
  refine go ?_;generalize k1:decide (r.val<1)=cc;cases cc
  rotate_left
  ·refine go ?_;refine fX (pa (v8 ux) l D ⟨kd,ob,ka,kb⟩ log s1) ?_;exact tK ⟨⟨0,false,1,-1,[]⟩,s1,true,0,[]⟩ (qY (.inl (of_decide_eq_true k1))) fU
  have qA:=of_decide_eq_false k1;refine go ?_;generalize k2:decide (r.val>l.buckets)=cc;cases cc
  rotate_left
  ·refine go ?_;refine fX (pa (v8 ux) l D ⟨kd,ob,ka,kb⟩ log s1) ?_;exact tK ⟨⟨0,false,1,-1,[]⟩,s1,true,0,[]⟩ (qY (.inr (.inl (of_decide_eq_true k2)))) fU
  have tN:=of_decide_eq_false k2;have YZ:=abT (n:=r.val) (by omega) (by omega);refine go ?_;rw[YZ];cases n8:Bt r.val
  ·refine go ?_;refine fX (pa (v8 ux) l D ⟨kd,ob,ka,kb⟩ log s1) ?_;exact tK ⟨⟨0,false,1,-1,[]⟩,s1,true,0,[]⟩ (qY (.inr (.inr n8))) fU
  rw[if_neg (by rw[n8];simp;omega)] at E;refine go ?_;have ml:=Int.emod_nonneg ka (show r.val≠0 by omega);have ky:=Int.emod_lt_of_pos ka (show 0<r.val by omega);have h3:=ac6 l Z hS hM D ob log (ka%r.val) s1 ml (by omega) h1;refine ER (λ p:BM=>HR log (lu l D ob 64 (ka%r.val) log s1) s1 p) (λ p=>⟨[(6,u p.n),(7,.ptr 48 0),(4,.ptr 47 0),(5,u r.val),(0,.ptr 55 0),(1,.ptr 56 0),(2,.ptr 57 0),(3,.ptr 58 0)],[(40,ru l D ob log p.s),(55,[.ptr 40 0]),(56,cn l),(57,[u kd,u ob,u ka,u kb]),(58,[(v8 ux)]),(53,[.ptr 40 0]),(54,[u (hl l ob 1)]),(47,[u 0,dB false,u 0,u 0,.p (.sl true 0 [])]),(48,[u p.o.val,dB p.o.is,u p.o.err,u p.o.bS,.p (.sl p.ex p.k p.ps)])],[]⟩) ?_ ?_
  ·have CZ:∀x,lu l D ob 64 (ka%r.val) log s1=.error x->aJ=.error x:=λ x h=>by rw[<-E];exact bl h
   refine xR 5 9 48 7 6 ?_;refine bh ?_;refine cV (Ho rfl rfl rfl (by omega) (by omega)) rfl rfl ?_;refine bh ?_;refine It rfl rfl rfl ?_ (λ hB=>?_)
   all_goals repeat' (first|refine tA 6 ?_|refine tA 7 ?_|refine tA 8 ?_|refine oA 5 ?_|refine oA 9 ?_|refine oA 10 ?_|refine oA 11 ?_|refine oB 5 9 ?_ ?_|exact dA ⟨rfl,⟨p,hp,zX⟩⟩|exact nx hB|refine xX h3 ?_ ?_|(rintro v U ⟨a,M,h,rfl,rfl⟩;refine LD (LC ?_);refine gP ?_;exact fP _ ⟨a,M,CZ a h,rfl,rfl⟩)|(rintro d U ⟨p,hp,rfl,rfl⟩;refine nx (EN ?_))|(refine nA 48 ?_;first|exact nx hB|refine nx ?_)|((first|refine z2 ?_|refine z5 ?_);refine nx ?_))
  rintro⟨dn,dq,s2,IV,IS,Ly⟩ ⟨bm,fJ,XK,XL⟩;simp only at bm fJ XK XL;rw[aw bm] at E;have A:=h1.next fJ;have CI:=fU.y4 fJ;simp only at E;refine go ?_;generalize k3:decide (dq.err=0)=cc;cases cc
  ·rw[if_pos (of_decide_eq_false k3)] at E;refine go ?_;refine fX (pa (v8 ux) l D ⟨kd,ob,ka,kb⟩ log s2) ?_;exact tK ⟨dq,s2,IV,IS,Ly⟩ E.symm CI
  rw[if_neg (λ h=>h (of_decide_eq_true k3))] at E;have J3:=SM l Z hS hM D ob log s2 kd dn (l4 ka) kb A (by omega);refine go ?_;refine Ir 9 10 [] rfl rfl (by kernel_rfl) (by kernel_rfl) (by kernel_rfl) rfl rfl ?_;refine gQ (acw ka) ?_;refine xP J3 ?_;rintro d U ⟨q,s3,bT,iO,rfl,rfl⟩;rw[aw bT] at E;obtain⟨⟨ov,u9,oe,G4,og⟩,a3⟩:=q;have K:=A.next iO;have CJ:=CI.y4 iO;simp only at E;refine hZ ?_;refine ZT [48] rfl rfl ?_;refine qg ?_;cases u9
  ·rw[if_neg (by decide)] at E;refine go ?_;exact fX _ ⟨⟨⟨ov,false,oe,G4,og⟩,s3,false,og.length,gL og⟩,E.symm,CJ,rfl,rfl⟩
  rw[if_pos rfl] at E;subst si;refine go ?_
 refine vP (Uo l D ob log r.val s3 K) ?_
 rotate_left
 refine vP (Up l Z hM D ob log r.val s3 (by omega) (by omega) K) ?_
 rotate_left
 refine vP (Uq l D ob log r.val s3 K) ?_
 rotate_left
 all_goals
  rintro d U ⟨af,s4,cB,lC,rfl,rfl⟩;rw[aw cB] at E;refine go ?_;exact fX _ ⟨⟨⟨ov,true,oe,G4,og⟩,s4,false,og.length,gL og⟩,E.symm,CJ.y4 lC,rfl,rfl⟩
theorem YW{e:aA}{vs:List Value}(a:aT)(o:bf)(dn:Bool)(hI:fR (jg a (ot o) dn) e)(hv:DReps e vs [.ptr 22 0,.ptr 21 0,.ptr 23 0,.ptr 24 0]):
 CallsD prog 144 vs.toArray .returning e.w λ r u2 aI=>∃Y aq,r=.returned (.tuple #[])/\u2=.returning/\Y.w=aI/\fR aq Y/\Left [21,22,23,24] e Y/\aq=jg a (ot o) dn:=by
 refine wY (ae:=tb) func144 rfl ntmps144 rfl rfl rfl (by(repeat(first|exact trivial|refine⟨rfl,?_⟩))) (λ _ _=>rfl) (λ _=>rfl) rfl rfl .no (λ w cl own kf=>?_) hI hv;refine go ?_;refine bn (Gt underlying20 rfl rfl) rfl rfl rfl ?_;refine go ?_;refine jR (jg a (ot o) dn) rfl rfl (by(repeat(first|exact trivial|refine⟨⟨rfl,rfl⟩,?_⟩))) (by(repeat(first|exact trivial|refine⟨rfl,?_⟩))) rfl
theorem YX{e:aA}{vs:List Value}(a br:aT)(od:List G)(ho:od=[u 0,dB false,u 0,u 0,.p (.sl true 0 [])])(dn:Bool)(hI:fR (jg a od dn) e)(hv:DReps e vs [.ptr 22 0,.ptr 21 0,.ptr 23 0,.ptr 24 0]):
 CallsD prog 144 vs.toArray (.panicking [pe (zh br)]) e.w λ r u2 aI=>∃Y aq,r=.returned (.tuple #[])/\u2=.panicking [{v:=zh br,recovered:=true}]/\Y.w=aI/\fR aq Y/\Left [21,22,23,24] e Y/\aq=jg br od dn:=by
 subst ho;refine wY (ae:=tb) func144 rfl ntmps144 rfl rfl rfl (by(repeat(first|exact trivial|refine⟨rfl,?_⟩))) (λ _ _=>rfl) (λ _=>rfl) rfl rfl (.yes (zh br)) (λ w cl own kf=>?_) hI hv;refine go ?_;refine bn (Gu underlying20 rfl rfl) rfl rfl rfl ?_;refine go ?_;refine bn (EP aB rfl rfl rfl rfl) rfl rfl rfl ?_;refine go ?_;refine jR (jg br _ dn) rfl rfl (by(repeat(first|exact trivial|refine⟨⟨rfl,rfl⟩,?_⟩))) (by(repeat(first|exact trivial|refine⟨rfl,?_⟩))) rfl
abbrev Pb(a:aT)(od:List G)(dn:Bool):St:=⟨[(4,.ptr 22 0),(5,.ptr 23 0),(6,.ptr 24 0)],jg a od dn,[]⟩
def TO(m:Except aT (bf×ah))(Γ:bI):Exit->St->Prop:=λ ex J=>(ex=.ret/\∃x M,m=.ok (x,M)/\bN Γ J (Pb eN (ot {x with gone:=M.gone}) true))\/∃a,ex=.panic [pe (zh a)]/\m=.error a/\bN Γ J (Pb eN [u 0,dB false,u 0,u 0,.p (.sl true 0 [])] false)
set_option maxHeartbeats 4000000 in
theorem Kh(gt:G)(hf:gt=I3\/gt=I4\/gt=I5)(l:ag)(D:Int)(log:List aD)(op:bt)(s:ah)(m:Except aT (bf×ah))(tC:s.gone.length+log.length<=100000)(hC:fI prog 118 [40,53,54,55,56,57,58] [.ptr 55 0,.ptr 56 0,.ptr 57 0,.ptr 58 0] (pa gt l D op log s) (H3 (pa gt l D op log) log m s) (xp (pa gt l D op log) m)):
 eo prog 117 [] [.ptr 40 0,.fn (.func 118) [] [.ptr 55 0,.ptr 56 0,.ptr 57 0,.ptr 58 0]] (pa gt l D op log s) (ub m):=by
 have ux:FD gt:=⟨trivial⟩;rcases hf with rfl|rfl|rfl
 all_goals
  intro e vs hI hv;refine calls_of_wp_defers func117 rfl ?_;have h2:=uT (fn:=f117) (f:=117) (aU:=[]) [] (Nat.le_of_ble_eq_true (by kernel_rfl)) trivial hI hv rfl;refine wp_seq (Code.wp_mono (λ ex a1 w1 hh=>?_) (aK.run (Q:=λ ex J=>ex=.normal/\J=⟨[(6,.ptr 24 0),(5,.ptr 23 0),(4,.ptr 22 0),(2,.ptr 21 0),(0,.ptr 40 0),(1,.fn (.func 118) [] [.ptr 55 0,.ptr 56 0,.ptr 57 0,.ptr 58 0])],(24,[dB false])::(23,[u 0,dB false,u 0,u 0,.p (.sl true 0 [])])::(22,[u 0,u 0,u 0,u 0])::(21,[.ptr 40 0])::pa (v8 ux) l D op log s,[]⟩) ?_ _ e h2))
  ·obtain⟨nN,e1,rfl,bR,rfl,rfl⟩:=hh;obtain⟨k1,_,_,b1,_,_⟩:=bR.boxes 21 _ rfl;obtain⟨k2,_,_,b2,_,_⟩:=bR.boxes 22 _ rfl;obtain⟨k3,_,_,b3,_,_⟩:=bR.boxes 23 _ rfl;obtain⟨k4,_,_,b4,_,_⟩:=bR.boxes 24 _ rfl;refine wp_seq (BJ bR rfl rfl rfl rfl rfl rfl rfl rfl [(21,k1),(22,k2),(23,k3),(24,k4)] (λ b k I=>?_) (λ a2 cG cY eE=>?_))
   ·simp only[cM] at I;split at I
    ·rename_i q;cases I;rw[<-q];exact b1
    ·split at I
     ·rename_i q;cases I;rw[<-q];exact b2
     ·split at I
      ·rename_i q;cases I;rw[<-q];exact b3
      ·split at I
       ·rename_i q;cases I;rw[<-q];exact b4
       ·cases I
   ·refine Code.wp_mono (λ ex a3 w3 hh=>?_) (aK.run (Γ:=⟨18,e.w,e.cl,λ k=>∃b,e.bx b=some k,[(21,k1),(22,k2),(23,k3),(24,k4)],[{target:=.fn (.func 144) cG.toArray,args:=#[]}]⟩) (Q:=TO m ⟨18,e.w,e.cl,λ k=>∃b,e.bx b=some k,[(21,k1),(22,k2),(23,k3),(24,k4)],[{target:=.fn (.func 144) cG.toArray,args:=#[]}]⟩) ?_ a2 e1 eE)
    ·obtain⟨ED,e3,rfl,io,hq⟩:=hh;rcases hq with⟨rfl,x,M,hm,eQ⟩|⟨a,rfl,hm,eQ⟩
     ·skip
      obtain⟨e4,kT,bY⟩:=eQ a3 e3 io;show Leaves prog f117 a3.tmps _ a3.defers .returning e3.w;rw[bY.df,<-kT];have kQ:DReps e4 cG [.ptr 22 0,.ptr 21 0,.ptr 23 0,.ptr 24 0]:=⟨cY.1,λ i v d hv F=>by
       match i,hv,F with
       |0,hv,F=>cases F;exact eU (cY.2 0 v _ hv rfl) b2 (bY.env.kb 22 k2 rfl)
       |1,hv,F=>cases F;exact eU (cY.2 1 v _ hv rfl) b1 (bY.env.kb 21 k1 rfl)
       |2,hv,F=>cases F;exact eU (cY.2 2 v _ hv rfl) b3 (bY.env.kb 23 k3 rfl)
       |3,hv,F=>cases F;exact eU (cY.2 3 v _ hv rfl) b4 (bY.env.kb 24 k4 rfl)⟩
      refine rh bY (λ a w=>call144 a w) kQ rfl (by(repeat(first|exact trivial|refine⟨⟨rfl,rfl⟩,?_⟩))) ⟨.inr rfl,.inr rfl,.inr rfl,.inr rfl,trivial⟩ rfl (by simp) rfl (λ e0 pW h1 A=>YW eN {x with gone:=M.gone} true h1 A) (λ aq T=>by subst T;exact⟨.inl rfl,.inl rfl,.inl rfl,.inl rfl,trivial⟩) (λ aq e5 T dE=>?_);subst T;obtain⟨v,hr,jZ⟩:=pd aB (fn:=f117) (d:=.bg [fy eN,jQ {x with gone:=M.gone},dB true]) dE rfl;refine⟨v,hr,v,_,[],e5.cut (aF []) λ _=>false,rfl,rfl,⟨rfl,.inl ⟨x,M,hm,rfl⟩⟩,ly dE trivial,jZ.cut rfl,⟨dE.env.kept,dE.env.cl,λ b k I=>?_,λ b T=>by cases T⟩⟩;cases I
     ·skip
      obtain⟨e4,kT,bY⟩:=eQ a3 e3 io;show Leaves prog f117 a3.tmps _ a3.defers (.panicking [pe (zh a)]) e3.w;rw[bY.df,<-kT];have kQ:DReps e4 cG [.ptr 22 0,.ptr 21 0,.ptr 23 0,.ptr 24 0]:=⟨cY.1,λ i v d hv F=>by
       match i,hv,F with
       |0,hv,F=>cases F;exact eU (cY.2 0 v _ hv rfl) b2 (bY.env.kb 22 k2 rfl)
       |1,hv,F=>cases F;exact eU (cY.2 1 v _ hv rfl) b1 (bY.env.kb 21 k1 rfl)
       |2,hv,F=>cases F;exact eU (cY.2 2 v _ hv rfl) b3 (bY.env.kb 23 k3 rfl)
       |3,hv,F=>cases F;exact eU (cY.2 3 v _ hv rfl) b4 (bY.env.kb 24 k4 rfl)⟩
      refine rh bY (λ a w=>call144 a w) kQ rfl (by(repeat(first|exact trivial|refine⟨⟨rfl,rfl⟩,?_⟩))) ⟨.inr rfl,.inr rfl,.inr rfl,.inr rfl,trivial⟩ rfl (by simp) rfl (λ e0 pW h1 A=>YX eN a _ rfl false h1 A) (λ aq T=>by subst T;exact⟨.inl rfl,.inl rfl,.inl rfl,.inl rfl,trivial⟩) (λ aq e5 T dE=>?_);subst T;obtain⟨v,hr,jZ⟩:=pd aB (fn:=f117) (d:=.bg [fy a,lz j8,dB false]) dE rfl;refine⟨v,hr,v,_,[],e5.cut (aF []) λ _=>false,rfl,rfl,⟨rfl,.inr ⟨a,hm,rfl⟩⟩,ly dE trivial,jZ.cut rfl,⟨dE.env.kept,dE.env.cl,λ b k I=>?_,λ b T=>by cases T⟩⟩;cases I
    ·refine go ?_;refine vX hC ?_ ?_
     ·rintro v U ⟨a,M,h,rfl,rfl⟩;refine gP ?_;exact .inr ⟨a,rfl,h,bN.trans (qN 21 rfl rfl) (zX)⟩
     rintro d U ⟨⟨x,M,ex,k,ps⟩,h,nE,rfl,rfl⟩;simp only at h nE;have X8:=nE.len;have X9:=nE.le;refine gA ((pq M.gone (by omega)).pure) ?_;refine gW 3 [22] ?_;refine go ?_;exact .inl ⟨rfl,x,M,h,bN.trans (qN 21 rfl rfl) (zX)⟩
  ·refine gS ?_;refine bA 21 ?_;refine nA 22 ?_;refine nA 23 ?_;refine nA 24 ?_;exact kl ⟨rfl,rfl⟩
def Cf(f:FuncId)(kf:Nat->Nat):Value:=.func (.func f) #[] #[.pointer (some ⟨kf 53,0,none⟩),.pointer (some ⟨kf 54,0,none⟩)]
def Nt(kf:Nat->Nat):Array MapEntry:=((#[].push ⟨.int .i64 1,.func (.func 141) #[] #[],0⟩).push ⟨.int .i64 2,Cf 142 kf,1⟩).push ⟨.int .i64 3,Cf 143 kf,2⟩
theorem U3(l:ag)(Z:ca l)(hM:kh l)(D m:Int)(log:List aD)(s:ah):MF prog 115 [40] [.ptr 40 0] (wV l D m log s) (xt l D m log s) [53,54] Nt:=by
 intro e vs hI hv;refine calls_of_wp func115 rfl ?_;have JX:ki (wV l D m log s) [40]:=⟨rfl,trivial⟩;have h2:=uT (fn:=f115) (f:=115) (aU:=[40]) [] (by decide) JX hI hv rfl;refine wp_seq (Code.wp_mono (λ ex a1 w1 hh=>?_) (aK.run (Q:=λ ex J=>ex=.normal/\J=⟨[(2,.p (.raw (.map none))),(1,.ptr 53 0),(0,.ptr 40 0)],(53,[.ptr 40 0])::wV l D m log s,[]⟩) ?_ _ e h2))
 ·obtain⟨nN,e1,rfl,bR,rfl,rfl⟩:=hh;refine wp_seq (Code.wp_mono (λ ex a2 w2 hh=>?_) (aK.run (Q:=λ ex J=>ex=.normal/\bN ⟨f115.ntmps,e.w,e.cl,λ k=>∃b,e.bx b=some k,lW (λ b=>(e.bx b).getD 0) [40],[]⟩ J ⟨[(3,.ptr 54 0),(1,.ptr 53 0)],xt l D m log s,[]⟩) ?_ _ e1 bR))
  ·obtain⟨qL,aeU,rfl,Xz,rfl,eQ⟩:=hh;obtain⟨e2,Zr,eE⟩:=eQ _ _ Xz;rw[<-Zr];obtain⟨k1,_,_,b1,_,_⟩:=eE.boxes 40 _ rfl;obtain⟨k2,_,_,b2,_,_⟩:=eE.boxes 53 _ rfl;obtain⟨k3,_,_,b3,_,_⟩:=eE.boxes 54 _ rfl;obtain⟨kf,JY⟩:∃kf:Nat->Nat,kf=λ b=>(e2.bx b).getD 0:=⟨_,rfl⟩
   have q1:e2.bx 40=some (kf 40):=by rw[JY];simp only[b1,Option.getD_some]
   have q2:e2.bx 53=some (kf 53):=by rw[JY];simp only[b2,Option.getD_some]
   have q3:e2.bx 54=some (kf 54):=by rw[JY];simp only[b3,Option.getD_some]
   refine wp_seq (wp_region_lit (aaF (kb:=lW kf [40,53,54]) rfl rfl rfl rfl eE (λ b k I=>?_) (λ b k I=>?_) (λ r py=>?_)))
   ·obtain⟨h1,rfl⟩:=AU I;simp only[List.mem_cons,List.mem_nil_iff,or_false] at h1;rcases h1 with rfl|rfl|rfl
    ·exact q1
    ·exact q2
    ·exact q3
   ·have A:=eE.env.kb b k I;obtain⟨h1,rfl⟩:=AU I;simp only[List.mem_cons,List.mem_nil_iff,or_false] at h1;subst h1;rw[q1] at A;rw[yA (by simp)];exact A
   ·refine K5 (v:=.func (.func 141) #[] #[]) py rfl rfl (by rfl) (by rfl) rfl rfl rfl rfl (λ _ _ _ e h af hu=>Wy hu) rfl rfl ?_;refine GP aB rfl rfl rfl rfl ?_;refine K5 (v:=Cf 142 kf) py rfl rfl (by rfl) (by rfl) rfl rfl rfl rfl (λ _ _ _ e h af hu=>Og (h.kb 53 _ rfl) (h.kb 54 _ rfl) hu) rfl rfl ?_;refine GP aB rfl rfl rfl rfl ?_;refine K5 (v:=Cf 143 kf) py rfl rfl (by rfl) (by rfl) rfl rfl rfl rfl (λ _ _ _ e h af hu=>Og (h.kb 53 _ rfl) (h.kb 54 _ rfl) hu) rfl rfl ?_;refine GP aB rfl rfl rfl rfl ?_;refine GP aB rfl rfl rfl rfl ?_;refine⟨λ aI bz cb X a3 e3 io=>?_⟩;have bY:=X.pr io;obtain⟨v,hr,jZ⟩:=pd aB (fn:=f115) (d:=.p (.raw (.map (some r)))) bY rfl;have:=cR jZ;subst this;refine wp_ret ⟨bY.df,_,hr,r,_,kf,e3.cut (aF (xt l D m log s)) λ _=>false,rfl,rfl,ly bY (by(repeat(first|exact trivial|refine⟨⟨rfl,rfl⟩,?_⟩))),imp_left hI JX bY ⟨rfl,trivial⟩,λ n hn=>?_,X.now io.env⟩;have dI:=io.env.kb n (kf n) (yA (by simp at hn⊢;omega));show(if aF (xt l D m log s) n=true then e3.bx n else none)=_;rw[if_pos]
    ·exact dI
    ·simp only[List.mem_cons,List.mem_nil_iff,or_false] at hn;rcases hn with rfl|rfl<;>rfl
  ·refine gW 10 [] ?_;refine cQ (A9 l Z hM m 1 (by omega)) ?_;refine rB (vF aB 54 rfl rfl rfl rfl) rfl rfl rfl rfl ?_;refine qg ?_;exact⟨rfl,zX⟩
 ·refine gS ?_;refine bA 53 ?_;refine go ?_;exact⟨rfl,rfl⟩
set_option maxHeartbeats 16000000 in
theorem F7(gt:G)(kn:Bool)(l:ag)(Z:ca l)(hM:kh l)(D:Int)(gone:List (Int×Int))(op:bt)(log:List aD)(hg:gone.length<=100000)(nW:tO gt=true)(lc:Nat.beq gt.cells.length 1=true)(wk:∀x,sM [x] 0 gt some=some [gt])(Pj:∀B au,B 53=true->B 54=true->G.ok.eA B au [gt]=true)(Db:kn=decide (1<=op.kind/\op.kind<=3))
 (rb:∀(Γ eY:bI)(r ck:Nat)(kf:Nat->Nat),oG Γ eY r (Nt kf) ck->eY.kb=lW kf [53,54]->EI prog eY 143 r op.kind gt kn)
 (bF:kn=true->0<=op.a->op.a<65536->eo prog 117 [] [.ptr 40 0,.fn (.func 118) [] [.ptr 55 0,.ptr 56 0,.ptr 57 0,.ptr 58 0]] (pa gt l D op log ⟨0,gone,0,0,0⟩) (ub (sL l D op log ⟨0,gone,0,0,0⟩))):
 aX prog 105 [dD l,u D,d7 gone,.agg [u op.kind,u op.obj,u op.a,u op.b],gH log] (.bg [fy (rd l D gone op log).1,jQ (rd l D gone op log).2.1,dB (rd l D gone op log).2.2]):=by
 generalize E:rd l D gone op log=aJ;unfold rd at E;refine sP func105 ntmps105 λ w cl=>?_
 refine gS ?_;refine bA 56 ?_;refine bA 57 ?_;refine nA 60 ?_;refine nA 61 ?_;refine z2 ?_;refine kl ?_;refine gS ?_;refine z2 ?_;refine z2 ?_;refine z2 ?_;refine z2 ?_;refine z2 ?_;refine z2 ?_;refine z6 ?_;refine bA 40 ?_;refine nA 55 ?_;refine go ?_;refine dO (bU:=⟨[(13,.ptr 55 0),(12,dB false),(11,.ptr 61 0),(10,.ptr 60 0),(8,.ptr 57 0),(5,.ptr 56 0),(2,d7 gone)],[(40,ru l D op.obj log ⟨0,gone,0,0,0⟩),(55,[.ptr 40 0]),(56,cn l),(57,[u op.kind,u op.obj,u op.a,u op.b]),(60,[u 0,u 0,u 0,u 0]),(61,[u 0,dB false,u 0,u 0,.p (.sl true 0 [])])],[]⟩) zX ?_;refine ER (λ _:Unit=>True) (λ _=>⟨[(15,dB kn),(14,.ptr 58 0),(13,.ptr 55 0),(12,dB false),(11,.ptr 61 0),(10,.ptr 60 0),(8,.ptr 57 0),(5,.ptr 56 0),(2,d7 gone)],[(40,ru l D op.obj log ⟨0,gone,0,0,0⟩),(55,[.ptr 40 0]),(56,cn l),(57,[u op.kind,u op.obj,u op.a,u op.b]),(58,[gt]),(53,[.ptr 40 0]),(54,[u (hl l op.obj 1)]),(60,[u 0,u 0,u 0,u 0]),(61,[u 0,dB false,u 0,u 0,.p (.sl true 0 [])])],[]⟩) ?_ (λ _ _=>?_)
 ·skip
  refine Is rfl (EN ?_)
  repeat' (first|refine tA 2 ?_|refine tA 5 ?_|refine tA 6 ?_|refine tA 7 ?_|refine wA 0 ?_|refine wA 1 ?_|refine wA 3 ?_|refine wA 4 ?_|refine wA 8 ?_|refine wA 9 ?_|refine wA 10 ?_|refine wB 4 8 ?_ ?_|refine wB 1 8 ?_ ?_|refine wB 1 3 ?_ ?_|refine wB 3 8 ?_ ?_|refine wB 0 8 ?_ ?_|refine wB 0 3 ?_ ?_|refine wC 0 3 8 ?_ ?_ ?_|refine wC 1 3 8 ?_ ?_ ?_|exact dA ⟨rfl,(),trivial,zX (T:=by exact⟨⟨rfl,rfl⟩,⟨rfl,rfl⟩,⟨rfl,rfl⟩,⟨rfl,rfl⟩,⟨rfl,Pj _ _ rfl rfl⟩,⟨rfl,rfl⟩,⟨rfl,rfl⟩,⟨rfl,rfl⟩,⟨rfl,rfl⟩,trivial⟩)⟩|(refine abn (U3 l Z hM D op.obj log ⟨0,gone,0,0,0⟩) (by exact rfl) rfl (by exact rfl) (λ a w=>call115 a w) (by exact rfl) (by exact rfl) (by exact by(repeat(first|exact trivial|refine⟨⟨rfl,rfl⟩,?_⟩|refine⟨rfl,?_⟩))) (by exact rfl) (by exact rfl) (by exact rfl) (by exact rfl) (by exact rfl) (by exact⟨.inl rfl,.inr rfl,.inr rfl,trivial⟩) (by exact⟨rfl,rfl,trivial⟩) (λ r ck kf aI bz cb X=>?_);have gU:=rb _ _ r ck kf X rfl;clear X)|(refine aa4 ?_;(first|refine z2 ?_|refine T5 gU rfl rfl rfl rfl rfl rfl ?_|refine nA 58 ?_|refine z5 (R:=nW) (bQ:=lc) (dg:=wk _) ?_);refine nx ?_))
 ·clear rb;generalize F6:hl l op.obj 0=mp at E;have FZ:=A9 l Z hM op.obj 0 (by omega);rw[F6] at FZ;cases kn
  ·have Yq:¬(1<=op.kind/\op.kind<=3):=of_decide_eq_false Db.symm;rw[if_pos (by omega)] at E;refine gA (Hm gone hg) ?_;refine d8 ?_;rw[<-E]
  have Yq:1<=op.kind/\op.kind<=3:=of_decide_eq_true Db.symm;refine gA FZ ?_;generalize k1:decide (mp<0)=cc;cases cc
  rotate_left
  ·have qA:=of_decide_eq_true k1;rw[if_pos (by omega)] at E;refine gA (Hm gone hg) ?_;refine d8 ?_;rw[<-E]
  have qA:=of_decide_eq_false k1;refine go ?_;generalize k2:decide (op.a<0)=cc;cases cc
  rotate_left
  ·have tN:=of_decide_eq_true k2;rw[if_pos (by omega)] at E;refine gA (Hm gone hg) ?_;refine d8 ?_;rw[<-E]
  have tN:=of_decide_eq_false k2;refine go ?_;generalize k3:decide (op.a>=65536)=cc;cases cc
  rotate_left
  ·have QM:=of_decide_eq_true k3;rw[if_pos (by omega)] at E;refine gA (Hm gone hg) ?_;refine d8 ?_;rw[<-E]
  have QM:=of_decide_eq_false k3;rw[if_neg (by omega)] at E;refine go ?_;refine hJ (bF rfl (by omega) (by omega)) rfl (λ a w=>call117 a w) rfl rfl (by exact⟨⟨rfl,rfl⟩,⟨rfl,rfl⟩,⟨rfl,rfl⟩,⟨rfl,rfl⟩,⟨rfl,Pj _ _ rfl rfl⟩,⟨rfl,rfl⟩,⟨rfl,rfl⟩,trivial⟩) trivial rfl rfl rfl rfl ?_ ?_
  ·rintro d U ⟨rfl,_⟩;exact trivial
  rintro d U ⟨rfl,⟨x,M,hm,rfl⟩|⟨a,hm,rfl⟩⟩
  ·rw[hm] at E;refine gf ?_;rw[<-E];rfl
  ·rw[hm] at E;refine gf ?_;rw[<-E];rfl
theorem NQ{Γ:bI}{e:aA}{f:FuncId}{kf:Nat->Nat}(he:hd Γ e)(dI:Γ.kb=lW kf [53,54]):bD e (Cf f kf) (.fn (.func f) [] [.ptr 53 0,.ptr 54 0]):=by
 have h1:e.bx 53=some (kf 53):=he.kb 53 _ (by rw[dI];exact yA (by simp));have A:e.bx 54=some (kf 54):=he.kb 54 _ (by rw[dI];exact yA (by simp));exact bD.fn (us:=[]) (vs:=[.pointer (some ⟨kf 53,0,none⟩),.pointer (some ⟨kf 54,0,none⟩)]) rfl rfl (λ i v d h1 A=>by simp at h1) λ i v d q1 q2=>by
  match i,q1,q2 with
  |0,q1,q2=>cases q1;cases q2;exact .ptr h1
  |1,q1,q2=>cases q1;cases q2;exact .ptr A
theorem YK(l:ag)(Z:ca l)(hS:0<=l.az)(hM:kh l)(D:Int)(gone:List (Int×Int))(op:bt)(log:List aD)(hg:eu gone)(dp:gone.length+log.length<=10000)(FX:log.length<=5000):aX prog 105 [dD l,u D,d7 gone,.agg [u op.kind,u op.obj,u op.a,u op.b],gH log] (rT (rd l D gone op log)):=by
 have h0:mC log ⟨0,gone,0,0,0⟩:=⟨hg,dp,Nat.zero_le _,FX⟩;have tC:gone.length+log.length<=100000:=by omega
 have ja:gone.length<=100000:=by omega
 by_cases pD:op.kind=1
 ·exact F7 I3 true l Z hM D gone op log ja rfl rfl (λ _=>rfl) (λ _ _ _ _=>rfl) (by rw[pD];rfl) (λ Γ eY r ck kf X dI=>KU X underlying143 underlying3 (by rw[pD];rfl) λ e he=>bD.fn (us:=[]) (vs:=[]) rfl rfl (λ i v d h1 A=>by simp at h1) (λ i v d h1 A=>by simp at h1)) λ _ xS xT=>Kh _ (.inl rfl) l D log op _ _ tC (L5 _ l Z hS hM D op log _ (.inl ⟨pD,rfl⟩) xS xT h0)
 by_cases mR:op.kind=2
 ·exact F7 I4 true l Z hM D gone op log ja rfl rfl (λ _=>rfl) (λ B au h1 A=>by simp[G.ok.eA,G.ok,h1,A]) (by rw[mR];rfl) (λ Γ eY r ck kf X dI=>KU X underlying143 underlying3 (by rw[mR];rfl) λ e he=>NQ he dI) λ _ xS xT=>Kh _ (.inr (.inl rfl)) l D log op _ _ tC (L5 _ l Z hS hM D op log _ (.inr (.inl ⟨mR,rfl⟩)) xS xT h0)
 by_cases mS:op.kind=3
 ·exact F7 I5 true l Z hM D gone op log ja rfl rfl (λ _=>rfl) (λ B au h1 A=>by simp[G.ok.eA,G.ok,h1,A]) (by rw[mS];rfl) (λ Γ eY r ck kf X dI=>KU X underlying143 underlying3 (by rw[mS];rfl) λ e he=>NQ he dI) λ _ xS xT=>Kh _ (.inr (.inr rfl)) l D log op _ _ tC (L5 _ l Z hS hM D op log _ (.inr (.inr ⟨mS,rfl⟩)) xS xT h0)
 ·refine F7 (.p (.raw .nilFunc)) false l Z hM D gone op log ja rfl rfl (λ _=>rfl) (λ _ _ _ _=>rfl) (by rw[eq_comm,decide_eq_false_iff_not];omega) (λ Γ eY r ck kf X dI=>aan aB X underlying143 underlying3 (show tb 141=some _ from rfl) ?_) λ h=>by cases h
  have e1:∀k:Int,k≠op.kind->Instr.sameNow (.int .i64) (.int .i64 op.kind) (.int .i64 k)=some false:=λ k I=>by
   unfold Instr.sameNow;simp[I.symm]
  show Instr.findNow (.int .i64) (.int .i64 op.kind) [⟨.int .i64 1,_,_⟩,⟨.int .i64 2,_,_⟩,⟨.int .i64 3,_,_⟩] 0=some none;simp only[Instr.findNow,e1 1 (by omega),e1 2 (by omega),e1 3 (by omega)]
end Go.Proofs.YtcnefjfboagbmaaGreat
