/- Free nodes, plays that are looked at, and their layouts: their walk. -/
import Derived.Test.YtcnefjfboagbmaaGreatWE
import Derived.Test.YtcnefjfboagbmaaGreatWA
import Derived.Test.YtcnefjfboagbmaaGreatPA
import Derived.Test.YtcnefjfboagbmaaGreatWC
import Derived.Test.YtcnefjfboagbmaaGreatXC
namespace Go.Proofs.YtcnefjfboagbmaaGreat
open Go.Proofs.Tryz
open Go.RowKit
set_option maxRecDepth 100000
def Oe(o:cq):List Pl:=[pI o.kind,pI o.obj,pI o.a,pI o.b]
def Of(l:List cq):List Pl:=l.flatMap Oe
abbrev Cl(l:List cq):Pl:=.sl false l.length (Of l)
abbrev RE(w:List (List cq)):F:=.p (.sl false w.length (w.map Cl))
abbrev p8(n:Int):Pl:=.raw (.int .u8 n)
abbrev RD(t:List Int):F:=.p (.sl false t.length (t.map p8))
set_option maxHeartbeats 4000000 in
theorem XZ(l:ab)(hL:bQ l)(m:List Int):aW prog 69 [cF l,fg m] (aV (nl l m)):=by
 generalize A:nl l m=aK;unfold nl at A;obtain⟨iP,fk⟩:=hL.nodes;refine sP func69 ntmps69 λ w cl=>?_
 refine gA (m4 m l.free) ?_;refine cA (uX (aG m l.free)) ?_;refine go ?_;generalize(az (aG m l.free)).idx=n0 at A;refine da (gO 5 0 3 1 rfl rfl rfl) ?_;refine bL (λ p:Nat×List Int×Int=>p.1+p.2.1.length=l.nodes.toNat+1/\fL (λ n=>aG m (am l n 7)) l.nodes p.1 p.2.1 p.2.2=aK) (λ p=>⟨[(7,z p.2.2),(5,.aU 0 p.2.1.length (aZ p.2.1)),(2,.ptr 0 0),(3,.ptr 1 0)],[(1,[aV m]),(0,bs l)],[(0,⟨3,1,p.2.1.length⟩)]⟩) (λ p=>p.1) (l.nodes.toNat+1,[],n0) ⟨by simp,A⟩ (zX) ?_;rintro⟨k,acc,n⟩ ⟨J,A⟩;simp only at J A;refine(show aJ _ _ _ _ ⟨[(7,z n),(5,.aU 0 acc.length (aZ acc)),(2,.ptr 0 0),(3,.ptr 1 0)],[(1,[aV m]),(0,bs l)],[(0,⟨3,1,acc.length⟩)]⟩ from ?_);refine go ?_;refine cz (λ D=>?_) (λ D=>?_)<;>try rw[D]
 ·have bd:=of_decide_eq_true D;obtain⟨k,rfl⟩:∃j,k=j+1:=⟨k-1,by omega⟩;rw[fL] at A;refine gA (yU acc n (by omega)) ?_;generalize K:decide (n<1)=cc;cases cc
  ·have cK:=of_decide_eq_false K;refine go ?_;generalize h4:decide (n>l.nodes)=cc;cases cc
   ·have jM:=of_decide_eq_false h4;refine go ?_;generalize h5:decide (n∈acc)=cc;cases cc
    ·rw[if_pos ⟨by omega,by omega,of_decide_eq_false h5⟩] at A;refine go ?_;refine pA rfl ?_;rw[ku,show acc.length+1=(acc++[n]).length by simp];refine go ?_;refine dQ [] ?_;refine gQ (ll l hL n 7 (by omega)) ?_;refine cQ (m4 m (am l n 7)) ?_;refine qg ?_;exact⟨(k,acc++[n],aG m (am l n 7)),⟨by simp;omega,A⟩,by simp only;omega,zX⟩
    ·rw[if_neg (λ hh=>hh.2.2 (of_decide_eq_true h5))] at A;refine gf ?_;rw[<-A]
   ·have jM:=of_decide_eq_true h4;rw[if_neg (λ hh=>by omega)] at A;refine gf ?_;rw[<-A]
  ·have cK:=of_decide_eq_true K;rw[if_neg (λ hh=>by omega)] at A;refine gf ?_;rw[<-A]
 ·have bd:=of_decide_eq_false D;obtain rfl:k=0:=by omega
  rw[fL] at A;refine gf ?_;rw[<-A]
abbrev nt(want:List (List cq))(turns:List Int):List F:=[RE want,RD turns]
abbrev Dj(want:List (List cq))(turns:List Int):F:=.agg (nt want turns)
theorem Ca{aq:Type}{f:aq->Pl}{l:List aq}{i:Int}{x:aq}(h:l[i.toNat]?=some x):∀(m:Nat) q,[f x][m]?=some q->(l.map f)[i.toNat*1+m]?=some q:=by
 intro m q hq;cases m with
 |zero=>simp at hq;subst hq;rw[Nat.mul_one,Nat.add_zero,List.getElem?_map,h];rfl
 |succ m=>simp at hq
theorem WM{l:List cq}{i:Int}{o:cq}(h:l[i.toNat]?=some o):∀(m:Nat) q,[pI o.kind,pI o.obj,pI o.a,pI o.b][m]?=some q->(Of l)[i.toNat*4+m]?=some q:=Ds (f:=Oe) (k:=4) (λ _=>rfl) h
def yq(x:d7):Nat:=x.gone.length+(if x.op.kind=0 then 0 else x.log.length)
theorem Le{x:d7}:x.gone.length<=yq x:=Nat.le_add_right _ _
structure jW(k N:Nat)(t:eu):Prop where
 m:t.m.length=N
 log:∀x∈t.aA,x.log.length<=k
 steps:∀x∈t.aA,x.steps.length<=k
 next:∀x∈t.aA,x.next<=k
 gone:∀x∈t.aA,yq x<=k/\ee x.gone
 step:0<=t.step/\t.step<=k
 full:0<=t.full/\t.full<=k
 calls:t.calls.length<=k
theorem jW.mono{k j N:Nat}{t:eu}(h:jW k N t)(js:k<=j):jW j N t:=
 ⟨h.m,λ x T=>Nat.le_trans (h.log x T) js,λ x T=>Nat.le_trans (h.steps x T) js,λ x T=>Nat.le_trans (h.next x T) js,λ x T=>⟨Nat.le_trans (h.gone x T).1 js,(h.gone x T).2⟩,⟨h.step.1,by have:=h.step.2;omega⟩,⟨h.full.1,by have:=h.full.2;omega⟩,Nat.le_trans h.calls js⟩
structure FQ(k:Nat)(x:d7):Prop where
 log:x.log.length<=k
 steps:x.steps.length<=k
 next:x.next<=k
 gone:yq x<=k/\ee x.gone
theorem jW.Jn{k N:Nat}{t:eu}(h:jW k N t){w:Nat}{x:d7}(T:t.aA[w]?=some x):FQ k x:=
 ⟨h.log x (List.mem_of_getElem? T),h.steps x (List.mem_of_getElem? T),h.next x (List.mem_of_getElem? T),h.gone x (List.mem_of_getElem? T)⟩
theorem jW.set{k j N:Nat}{t ki:eu}(h:jW k N t)(js:k<=j){w:Nat}{y:d7}(hy:FQ j y)(hs:ki.aA=t.aA.set w y)(hm:ki.m.length=t.m.length)(u:0<=ki.step/\ki.step<=j)(D:0<=ki.full/\ki.full<=j)(K:ki.calls.length<=j):jW j N ki:=by
 have ut:∀aT∈ki.aA,aT∈t.aA\/aT=y:=λ aT hz=>List.mem_or_eq_of_mem_set (by rw[<-hs];exact hz)
 refine⟨hm.trans h.m,λ aT hz=>?_,λ aT hz=>?_,λ aT hz=>?_,λ aT hz=>?_,u,D,K⟩
 ·rcases ut aT hz with hz|rfl
  ·exact Nat.le_trans (h.log aT hz) js
  ·exact hy.log
 ·rcases ut aT hz with hz|rfl
  ·exact Nat.le_trans (h.steps aT hz) js
  ·exact hy.steps
 ·rcases ut aT hz with hz|rfl
  ·exact Nat.le_trans (h.next aT hz) js
  ·exact hy.next
 ·rcases ut aT hz with hz|rfl
  ·exact⟨Nat.le_trans (h.gone aT hz).1 js,(h.gone aT hz).2⟩
  ·exact hy.gone
theorem RV{k N:Nat}{t:eu}{w:Nat}{x:d7}{out:br}(h:jW k N t)(T:x.log.length<=k+1/\x.steps.length<=k+1/\x.next<=k+1)(hg:out.gone.length<=k+1/\ee out.gone):jW (k+1) N (o7 t w x out):=by
 have hy:FQ (k+1) {x with op:=mO,gone:=out.gone}:=⟨T.1,T.2.1,T.2.2,by show out.gone.length+0<=_;omega,hg.2⟩;have u:=h.step;have D:=h.full;have K:=h.calls;unfold o7;simp only;split
 ·exact h.set (by omega) hy rfl rfl ⟨u.1,by simp only;omega⟩ ⟨by simp only;omega,by simp only;omega⟩ (by simp only;omega)
 ·split
  ·exact h.set (by omega) hy rfl rfl ⟨u.1,by simp only;omega⟩ ⟨D.1,by simp only;omega⟩ (by simp only;omega)
  ·exact h.set (by omega) hy rfl rfl ⟨u.1,by simp only;omega⟩ ⟨D.1,by simp only;omega⟩ (by simp only[List.length_append,List.length_cons,List.length_nil];omega)
theorem NG{k N:Nat}{l:ab}{t:eu}{w:Nat}{x:d7}(h:jW k N t)(h0:x.log.length<=k)(u:x.steps.length<=k)(D:x.next<=k+1)(K:x.gone.length+x.log.length<=k/\ee x.gone)(hS:0<=l.aA):jW (k+1) N (nZ l t w x):=by
 have hs:=h.step;have hf:=h.full;have L:=h.calls;unfold nZ;simp only;split
 ·rename_i G;have wk:=WK hS G K.2;exact RV h ⟨by omega,by omega,D⟩ ⟨by omega,wk.1⟩
 ·split
  ·exact h.set (by omega) (y:={x with log:=x.log++[(kj t.m (q7 l w x.gone x.op x.log).1).2],steps:=x.steps++[t.step]}) ⟨by simp;omega,by simp;omega,D,by unfold yq;simp only;split<;>simp<;>omega,K.2⟩ rfl (Al _ _) ⟨by simp only;omega,by simp only;omega⟩ ⟨hf.1,by simp only;omega⟩ (by simp only;omega)
  ·exact h.set (by omega) (y:={x with op:=mO}) ⟨by simp only;omega,by simp only;omega,D,by show x.gone.length+0<=_;omega,K.2⟩ rfl rfl ⟨hs.1,by simp only;omega⟩ ⟨hf.1,by simp only;omega⟩ (by simp only;omega)
theorem PT{k N:Nat}{l:ab}{want:List (List cq)}{t:eu}{w:Nat}(h:jW k N t)(hS:0<=l.aA):jW (k+1) N (mS l want t w):=by
 unfold mS;split
 ·rename_i x ws T hw;have R:=h.Jn T;split
  ·split
   ·exact h.mono (by omega)
   ·exact NG h (by simp) (by simp) (by have:=R.next;simp only;omega) ⟨by have:=R.gone.1;have:=Le (x:=x);simp only[List.length_nil];omega,R.gone.2⟩ hS
  ·rename_i J;exact NG h R.log R.steps (by have:=R.next;omega) ⟨by have:=R.gone.1;rw[yq,if_neg J] at this;exact this,R.gone.2⟩ hS
 ·exact h.mono (by omega)
theorem RT{t:eu}{w:Nat}{x:d7}{out:br}:(o7 t w x out).aA.length=t.aA.length:=by
 unfold o7;simp only;split
 ·simp
 ·split<;>simp
theorem PR{l:ab}{want:List (List cq)}{t:eu}{w:Nat}:(mS l want t w).aA.length=t.aA.length:=by
 have hm:∀x,(nZ l t w x).aA.length=t.aA.length:=λ x=>by
  unfold nZ;simp only;split
  ·exact RT
  ·split<;>simp
 unfold mS;split
 ·split
  ·split
   ·rfl
   ·exact hm _
  ·exact hm _
 ·rfl
abbrev ff(ss:List d7):List F:=ss.flatMap λ x=>qb x.op
abbrev jz(ss:List d7):List F:=ss.map λ x=>fS x.log
abbrev jf(ss:List d7):List F:=ss.map λ x=>aV x.steps
abbrev iE(ss:List d7):List F:=ss.map λ x=>z x.next
abbrev jL(ss:List d7):List F:=ss.map λ x=>cT x.gone
abbrev EV(c:iW):List Pl:=[pI c.aQ,pI c.op.kind,pI c.op.obj,pI c.op.a,pI c.op.b,pI c.val,pB c.is,pI c.first,pI c.last,pI c.cJ]
def qc(l:List iW):List Pl:=l.flatMap EV
abbrev vd(t:eu)(n:Nat)(cd:F):List F:=[aV t.m,z t.step,.arr 31 0 n n,.arr 32 0 n n,.arr 33 0 n n,.arr 34 0 n n,.arr 35 0 n n,cd,z t.full,dB t.cU,dB t.bad]
abbrev fq(t:eu)(n:Nat)(cd:F)(cs:List F):bH:=[(30,vd t n cd),(31,ff t.aA),(32,jz t.aA),(33,jf t.aA),(34,iE t.aA),(35,jL t.aA),(36,cs)]
structure kx(calls:List iW)(cd:F)(cs:List F):Prop where
 pl:eN cs
 at_:(calls=[]/\cd=.p (.sl true 0 []))\/∃c,cd=.arr 36 0 calls.length c/\cs.length=c*10/\calls.length<=c/\c<=maxLen/\cs.take (calls.length*10)=(qc calls).map F.p
theorem N7(l:List iW):(qc l).length=l.length*10:=by
 induction l with
 |nil=>rfl
 |cons a l ih=>unfold qc at ih⊢;rw[List.flatMap_cons,List.length_append,ih];simp[EV];omega
theorem WW(l:List iW)(c:iW):qc l++EV c=qc (l++[c]):=by simp[qc]
theorem kx.ok{calls:List iW}{cd:F}{cs:List F}(h:kx calls cd cs)(B ak:Nat->Bool)(hB:B 36=true):cd.ok B ak=true:=by
 rcases h.at_ with⟨_,rfl⟩|⟨c,rfl,_⟩
 ·rfl
 ·exact hB
theorem EY{f:d7->F}(hf:∀x B ak,(f x).ok B ak=true)(l:List d7):eN (l.map f):=by
 intro B ak;induction l with
 |nil=>rfl
 |cons x l ih=>simp only[List.map_cons,F.ok.ec,hf,Bool.true_and];exact ih
theorem jF(l:List d7):eN (ff l):=by
 intro B ak;induction l with
 |nil=>rfl
 |cons x l ih=>rw[ff,List.flatMap_cons];exact ih
theorem jA(l:List d7):eN (jz l):=EY (λ _ _ _=>rfl) l
theorem jG(l:List d7):eN (jf l):=EY (λ _ _ _=>rfl) l
theorem jC(l:List d7):eN (iE l):=EY (λ _ _ _=>rfl) l
theorem jo(l:List d7):eN (jL l):=EY (λ _ _ _=>rfl) l
theorem EQ(l:List d7):(ff l).length=l.length*4:=by
 induction l with
 |nil=>rfl
 |cons a l ih=>rw[ff,List.flatMap_cons,List.length_append];simp only[List.length_cons,List.length_nil];rw[show(List.flatMap (λ x:d7=>qb x.op) l).length=l.length*4 from ih];omega
theorem EP:∀{l:List d7}{i:Nat}{x:d7},l[i]?=some x->∃rest,(ff l).drop (i*4)=qb x.op++rest
 |[],i,x,h=>by simp at h
 |y::l,0,x,h=>by
  simp at h;subst h;exact⟨_,by rw[Nat.zero_mul,List.drop_zero,ff,List.flatMap_cons]⟩
 |y::l,i+1,x,h=>by
  obtain⟨r,hr⟩:=EP (l:=l) (i:=i) (x:=x) (by simpa using h);refine⟨r,?_⟩;rw[ff,List.flatMap_cons,show(i+1)*4=4+i*4 by omega,<-List.drop_drop];exact hr
theorem ER:∀{l:List d7}{i:Nat}(x:d7),i<l.length->stored (ff l) (i*4) (qb x.op)=ff (l.set i x)
 |[],i,x,h=>by simp at h
 |y::l,0,x,h=>by
  unfold stored;rw[List.set_cons_zero,ff,ff,List.flatMap_cons,List.flatMap_cons]
  rfl
 |y::l,i+1,x,h=>by
  have ih:=ER (l:=l) (i:=i) x (by simpa using h);unfold stored at ih⊢;rw[List.set_cons_succ,ff,ff,List.flatMap_cons,List.flatMap_cons,<-ff,<-ff,<-ih,show(i+1)*4=(i*4)+4 by omega]
  rfl
theorem qZ{aq:Type}{f:d7->aq}{l:List d7}{i:Nat}{x y:d7}(T:l[i]?=some x)(h:f y=f x):(l.set i y).map f=l.map f:=by
 rw[List.map_set,h];refine List.ext_getElem? λ j=>?_
 rw[List.getElem?_set];split
 ·rename_i hj;subst hj;rw[List.length_map,List.getElem?_map,T,if_pos (List.getElem?_eq_some_iff.1 T).1]
  rfl
 ·rfl
theorem WN{l:List d7}{i:Nat}{x y:d7}(T:l[i]?=some x)(h:y.op=x.op):ff (l.set i y)=ff l:=by have:=qZ (f:=λ x:d7=>qb x.op) T (by rw[h]);rw[ff,ff,List.flatMap_def,List.flatMap_def,this]
theorem yd{f:d7->F}{l:List d7}{i:Nat}{x:d7}(T:l[i]?=some x):(l.map f)[i]?=some (f x):=by rw[List.getElem?_map,T];rfl
theorem AL{f:d7->F}(hf:∀x,kJ (f x)=f x){l:List d7}{i:Nat}{y:d7}{d:F}(G:kJ d=f y):((l.map f).set i d).map kJ=(l.set i y).map f:=by
 rw[List.map_set,List.map_map,List.map_set,G]
 congr 1
 exact List.map_congr_left λ x _=>hf x
theorem lK{t:eu}{n:Nat}{cd:F}{cs:List F}{calls:List iW}(h:kx calls cd cs)(B ak:Nat->Bool)(u:B 31=true)(D:B 32=true)(K:B 33=true)(h4:B 34=true)(h5:B 35=true)(h6:B 36=true):F.ok.ec B ak (vd t n cd)=true:=by have h7:=h.ok B ak h6;simp only[F.ok.ec,F.ok,u,D,K,h4,h5,h7,Bool.true_and]
theorem UJ{t:eu}{n:Nat}{cd:F}{cs yg:List F}{calls:List iW}(h:kx calls cd yg):F.ok.ec (aC (fq t n cd cs)) (λ _=>false) (vd t n cd)=true:=by
 have u:=h.ok (aC (fq t n cd cs)) (λ _=>false) rfl;show(true&&(true&&(true&&(true&&(true&&(true&&(true&&(F.ok (aC (fq t n cd cs)) (λ _=>false) cd&&(true&&(true&&(true&&true)))))))))))=true;rw[u]
 rfl
theorem ml{I:St}{t:eu}{n:Nat}{cd:F}{cs:List F}{calls:List iW}(h:kx calls cd cs)(h0:Y I.b 30=some (vd t n cd))(u:Y I.b 31=some (ff t.aA))(D:Y I.b 32=some (jz t.aA))(K:Y I.b 33=some (jf t.aA))(h4:Y I.b 34=some (iE t.aA))(h5:Y I.b 35=some (jL t.aA))(h6:Y I.b 36=some cs):i3 I (aC (fq t n cd cs)) (fq t n cd cs):=
 ⟨⟨h0,UJ h⟩,⟨u,jF _ _ _⟩,⟨D,jA _ _ _⟩,⟨K,jG _ _ _⟩,⟨h4,jC _ _ _⟩,⟨h5,jo _ _ _⟩,⟨h6,h.pl _ _⟩,trivial⟩
theorem QN(a:List Int)(v:Int):(a.any λ x=>decide (x=v))=decide (v∈a):=by
 rw[Bool.eq_iff_iff,List.any_eq_true,decide_eq_true_iff];constructor
 ·rintro⟨x,T,h⟩;have:=of_decide_eq_true h;subst this;exact T
 ·intro h;exact⟨v,h,decide_eq_true rfl⟩
theorem VE(l:ab)(m:List Int):(nl l m).length<=l.nodes.toNat+1:=by
 have:=AO (nx:=λ n=>aG m (am l n 7)) (N:=l.nodes) (l.nodes.toNat+1) [] (az (aG m l.free)).idx
 simpa[nl] using this
set_option maxHeartbeats 8000000 in
theorem Sb(l:ab)(hL:bQ l)(t:eu)(n:Nat)(cd:F)(cs:List F)(hC:kx t.calls cd cs)(a:aS):
 d8 prog 102 [30,31,32,33,34,35] [.ptr 30 0,cF l,eW a] (fq t n cd cs) (λ d O=>d=dB (wh l t.m a)/\O=fq t n cd cs):=by
 generalize A:wh l t.m a=aK;unfold wh at A;rw[QN] at A;obtain⟨aah,aai⟩:=hL.node;obtain⟨aaq,Ec⟩:=hL.size;obtain⟨aaf,aag⟩:=hL.nodes;have DS:=VE l t.m;refine sI func102 ntmps102 λ w cl own kf=>?_
 refine go ?_;generalize u:decide (a.cell<l.node)=cc;cases cc
 ·have aN:=of_decide_eq_false u;refine go ?_;generalize D:decide (a.cell>=l.size)=cc;cases cc
  ·have bd:=of_decide_eq_false D;refine A7 ?_;generalize K:decide ((a.cell-l.node)%8=7)=cc;cases cc
   ·have cK:=of_decide_eq_false K;rw[if_neg (by omega)] at A;refine go ?_;refine dW 13 [] ?_;refine gQ (XZ l hL t.m) ?_;refine cD (Co rfl rfl rfl (by omega) (by omega) (by omega)) rfl rfl ?_;refine ba ?_;refine cA (yU (nl l t.m) ((a.cell-l.node)/8+1) (by omega)) ?_;refine go ?_;refine gU (fq t n cd cs) rfl rfl (by exact ml hC rfl rfl rfl rfl rfl rfl rfl) (by(repeat(first|exact trivial|refine⟨rfl,?_⟩))) ⟨?_,rfl⟩;rw[<-A]
   ·have cK:=of_decide_eq_true K;rw[if_pos (by omega)] at A;refine go ?_;refine gU (fq t n cd cs) rfl rfl (by exact ml hC rfl rfl rfl rfl rfl rfl rfl) (by(repeat(first|exact trivial|refine⟨rfl,?_⟩))) ⟨?_,rfl⟩;rw[<-A]
  ·have bd:=of_decide_eq_true D;rw[if_pos (by omega)] at A;refine go ?_;refine gU (fq t n cd cs) rfl rfl (by exact ml hC rfl rfl rfl rfl rfl rfl rfl) (by(repeat(first|exact trivial|refine⟨rfl,?_⟩))) ⟨?_,rfl⟩;rw[<-A]
 ·have aN:=of_decide_eq_true u;rw[if_pos (by omega)] at A;refine go ?_;refine gU (fq t n cd cs) rfl rfl (by exact ml hC rfl rfl rfl rfl rfl rfl rfl) (by(repeat(first|exact trivial|refine⟨rfl,?_⟩))) ⟨?_,rfl⟩;rw[<-A]
set_option maxHeartbeats 8000000 in
theorem RS(t:eu)(n:Nat)(aQ:Nat)(x:d7)(out:br)(hn:t.aA.length=n)(_:n<=8)(T:t.aA[aQ]?=some x)(iS:x.steps.length<=100000)(hf:0<=t.full/\t.full<=100000)(de:t.calls.length<=100000)(cd:F)(cs:List F)(hC:kx t.calls cd cs):
 d8 prog 101 [30,31,32,33,34,35] [.ptr 30 0,z aQ,jm out] (fq t n cd cs) (λ d O=>d=.bc []/\∃ko aO,kx (o7 t aQ x out).calls ko aO/\O=fq (o7 t aQ x out) n ko aO):=by
 have H6:aQ<n:=by rw[<-hn];exact(List.getElem?_eq_some_iff.1 T).1
 obtain⟨rest,wz⟩:=EP T;have iQ:=EQ t.aA;obtain⟨m,step,aA,calls,full,cU,bad⟩:=t;simp only at hn T hf de hC wz iQ;have hy:=ER (l:=aA) (i:=aQ) {x with op:=mO,gone:=out.gone} (by omega);have hz:((jL aA).set aQ (cT out.gone)).map kJ=jL (aA.set aQ {x with op:=mO,gone:=out.gone}):=AL (f:=λ x=>cT x.gone) (λ _=>rfl) rfl;have e1:jz (aA.set aQ {x with op:=mO,gone:=out.gone})=jz aA:=qZ T rfl;have e2:jf (aA.set aQ {x with op:=mO,gone:=out.gone})=jf aA:=qZ T rfl;have e3:iE (aA.set aQ {x with op:=mO,gone:=out.gone})=iE aA:=qZ T rfl;generalize hS:aA.set aQ {x with op:=mO,gone:=out.gone}=S at hy hz e1 e2 e3;have wF:(jf aA)[aQ]?=some (aV x.steps):=yd (f:=λ x=>aV x.steps) T;show d8 prog 101 [30,31,32,33,34,35] [.ptr 30 0,z aQ,jm out] [(30,[aV m,z step,.arr 31 0 n n,.arr 32 0 n n,.arr 33 0 n n,.arr 34 0 n n,.arr 35 0 n n,cd,z full,dB cU,dB bad]),(31,ff aA),(32,jz aA),(33,jf aA),(34,iE aA),(35,jL aA),(36,cs)] _;refine sI func101 ntmps101 λ w cl own kf=>?_
 refine go ?_;refine gW 14 [] ?_;refine rj (aQ*4) 4 ?_;refine cD (lF aw (qb x.op) rest rfl rfl rfl rfl rfl (by show _<=(ff aA).length;omega) wz rfl) rfl rfl ?_;refine qg ?_;refine aj (aQ*4) 4 ?_;refine F7 aw (ff S) rfl rfl rfl rfl rfl rfl rfl rfl rfl (by rw[iQ];show aQ*4+4<=_;omega) hy ?_;refine go ?_;refine gW 7 [] ?_;refine go ?_;refine aj aQ 1 ?_;refine pE aw rfl rfl rfl rfl rfl rfl rfl rfl rfl (by show aQ<(jL aA).length;rw[List.length_map];omega) ?_;refine oh (nV 35 rfl hz) ?_;refine go ?_;refine aj aQ 1 ?_;refine bf (kI aw rfl rfl rfl rfl rfl wF) rfl rfl rfl ?_;refine go ?_;have pN:o7 ⟨m,step,aA,calls,full,cU,bad⟩ aQ x out=if out.err=8 then⟨m,step,S,calls,full+1,cU,bad⟩ else if out.err≠0\/x.steps.length=0 then⟨m,step,S,calls,full,cU,true⟩ else⟨m,step,S,calls++[⟨aQ,x.op,out.val,out.is,x.steps.getD 0 0,x.steps.getD (x.steps.length-1) 0,if 0<=out.cJ/\out.cJ<x.steps.length then x.steps.getD out.cJ.toNat 0 else-1⟩],full,cU,bad⟩:=by unfold o7;simp only;rw[hS]
 have hB:∀(yp:Int)(xV:Bool)(yc:List iW)(ko:F)(aO:List F),fq ⟨m,step,S,yc,yp,cU,xV⟩ n ko aO=[(30,vd ⟨m,step,S,yc,yp,cU,xV⟩ n ko),(31,ff S),(32,jz aA),(33,jf aA),(34,iE aA),(35,jL S),(36,aO)]:=λ yp xV yc ko aO=>by
  show[(30,_),(31,ff S),(32,jz S),(33,jf S),(34,iE S),(35,jL S),(36,aO)]=_;rw[e1,e2,e3]
 generalize o7 ⟨m,step,aA,calls,full,cU,bad⟩ aQ x out=ah at pN;generalize u:decide (out.err=8)=cc;cases cc
 ·have aN:=of_decide_eq_false u;rw[if_neg aN] at pN;refine go ?_;generalize D:decide (out.err=0)=cc;cases cc
  ·have bd:=of_decide_eq_false D;rw[if_pos (.inl bd)] at pN;subst pN;refine go ?_;refine gU (fq ⟨m,step,S,calls,full,cU,true⟩ n cd cs) rfl rfl (by refine ml hC rfl rfl ?_ ?_ ?_ rfl rfl<;>simp only[e1,e2,e3]<;>rfl) (by(repeat(first|exact trivial|refine⟨rfl,?_⟩))) ⟨rfl,cd,cs,hC,rfl⟩
  ·have bd:=of_decide_eq_true D;refine go ?_;generalize K:decide ((x.steps.length:Int)=0)=cc;cases cc
   ·have cK:=of_decide_eq_false K;rw[if_neg (by omega)] at pN;have nS:x.steps[((0:Int)).toNat]?=some (x.steps.getD 0 0):=by
     rw[show((0:Int)).toNat=0 from rfl,List.getD_eq_getElem?_getD,List.getElem?_eq_getElem (by omega)];rfl
    have eM:x.steps[((x.steps.length:Int)-1).toNat]?=some (x.steps.getD (x.steps.length-1) 0):=by rw[show((x.steps.length:Int)-1).toNat=x.steps.length-1 by omega,List.getD_eq_getElem?_getD,List.getElem?_eq_getElem (by omega)];rfl
    generalize qR:(if 0<=out.cJ/\out.cJ<x.steps.length then x.steps.getD out.cJ.toNat 0 else-1)=pt at pN;refine go ?_;refine aj aQ 1 ?_;refine bf (kI aw rfl rfl rfl rfl rfl wF) rfl rfl rfl ?_;refine ai [pI (x.steps.getD 0 0)] (gK nS) ?_;refine go ?_;refine aj aQ 1 ?_;refine bf (kI aw rfl rfl rfl rfl rfl wF) rfl rfl rfl ?_;refine gG ?_;refine ai [pI (x.steps.getD (x.steps.length-1) 0)] (gK eM) ?_;refine gG ?_;refine mg ?_;refine C3 ⟨[(0,.ptr 30 0),(6,.ptr 8 0)],[(8,[z aQ,z x.op.kind,z x.op.obj,z x.op.a,z x.op.b,z out.val,dB out.is,z (x.steps.getD 0 0),z (x.steps.getD (x.steps.length-1) 0),z pt]),(30,[aV m,z step,.arr 31 0 n n,.arr 32 0 n n,.arr 33 0 n n,.arr 34 0 n n,.arr 35 0 n n,cd,z full,dB cU,dB bad]),(31,ff S),(32,jz aA),(33,jf aA),(34,iE aA),(35,jL S),(36,cs)],[]⟩ ?_ ?_
    ·refine go ?_;generalize h4:decide (out.cJ>=0)=cc;cases cc
     ·have jM:=of_decide_eq_false h4;rw[if_neg (by omega)] at qR;subst qR;refine go ?_;exact⟨rfl,zX (R:=by exact⟨⟨rfl,rfl⟩,⟨rfl,lK (t:=⟨m,step,S,calls,full,cU,bad⟩) hC _ _ rfl rfl rfl rfl rfl rfl⟩,⟨rfl,jF _ _ _⟩,⟨rfl,jA _ _ _⟩,⟨rfl,jG _ _ _⟩,⟨rfl,jC _ _ _⟩,⟨rfl,jo _ _ _⟩,⟨rfl,hC.pl _ _⟩,trivial⟩)⟩
     ·have jM:=of_decide_eq_true h4;refine go ?_;generalize h5:decide (out.cJ<x.steps.length)=cc;cases cc
      ·have yv:=of_decide_eq_false h5;rw[if_neg (by omega)] at qR;subst qR;refine go ?_;exact⟨rfl,zX (R:=by exact⟨⟨rfl,rfl⟩,⟨rfl,lK (t:=⟨m,step,S,calls,full,cU,bad⟩) hC _ _ rfl rfl rfl rfl rfl rfl⟩,⟨rfl,jF _ _ _⟩,⟨rfl,jA _ _ _⟩,⟨rfl,jG _ _ _⟩,⟨rfl,jC _ _ _⟩,⟨rfl,jo _ _ _⟩,⟨rfl,hC.pl _ _⟩,trivial⟩)⟩
      ·have yv:=of_decide_eq_true h5;rw[if_pos ⟨by omega,yv⟩] at qR;have g8:x.steps[out.cJ.toNat]?=some pt:=by
        rw[<-qR,List.getD_eq_getElem?_getD,List.getElem?_eq_getElem (by omega)];rfl
       refine go ?_;refine gW 9 [] ?_;refine rj aQ 1 ?_;refine ba ?_;refine cD (kI aw rfl rfl rfl rfl rfl wF) rfl rfl ?_;refine ba ?_;refine ai [pI pt] (gK g8) ?_;refine go ?_;exact⟨rfl,zX (R:=by exact⟨⟨rfl,rfl⟩,⟨rfl,lK (t:=⟨m,step,S,calls,full,cU,bad⟩) hC _ _ rfl rfl rfl rfl rfl rfl⟩,⟨rfl,jF _ _ _⟩,⟨rfl,jA _ _ _⟩,⟨rfl,jG _ _ _⟩,⟨rfl,jC _ _ _⟩,⟨rfl,jo _ _ _⟩,⟨rfl,hC.pl _ _⟩,trivial⟩)⟩
    generalize wb:(⟨aQ,x.op,out.val,out.is,x.steps.getD 0 0,x.steps.getD (x.steps.length-1) 0,pt⟩:iW)=cc at pN;have hB:∀(yp:Int)(xV:Bool)(yc:List iW)(ko:F)(aO:List F),fq ⟨m,step,S,yc,yp,cU,xV⟩ n ko aO=[(30,vd ⟨m,step,S,yc,yp,cU,xV⟩ n ko),(31,ff S),(32,jz aA),(33,jf aA),(34,iE aA),(35,jL S),(36,aO)]:=hB;subst pN;rcases hC.at_ with⟨rfl,rfl⟩|⟨c,rfl,cb,ez,ib,bY⟩
    ·subst wb;refine Gg rfl ?_
     repeat' (first|refine tA 0 ?_|refine tA 1 ?_|refine tA 2 ?_|refine tA 3 ?_|refine oA 4 ?_|refine oA 5 ?_|refine oA 6 ?_|refine oA 7 ?_|refine oA 8 ?_|refine oA 9 ?_|refine oA 10 ?_|refine oB 4 5 ?_ ?_|refine oB 4 6 ?_ ?_|(refine dA ?_;have kU:kx ([]++[(⟨aQ,x.op,out.val,out.is,x.steps.getD 0 0,x.steps.getD (x.steps.length-1) 0,pt⟩:iW)]) (.arr 36 0 1 bU) aO:=⟨k5,.inr ⟨bU,rfl,k1,k3,k2,by show aO.take (1*10)=_;rw[k4];rfl⟩⟩;refine jn (fq ⟨m,step,S,[]++[(⟨aQ,x.op,out.val,out.is,x.steps.getD 0 0,x.steps.getD (x.steps.length-1) 0,pt⟩:iW)],full,cU,bad⟩ n _ aO) rfl rfl (by refine ml kU rfl rfl ?_ ?_ ?_ rfl rfl<;>simp only[e1,e2,e3]<;>rfl) (by(repeat(first|exact trivial|refine⟨rfl,?_⟩))) ⟨rfl,_,aO,kU,rfl⟩)|(refine F4 (sz:=10) aw 36 rfl rfl rfl rfl rfl rfl rfl rfl rfl rfl rfl rfl rfl (Dh rfl (vL rfl rfl (vL rfl rfl (rt rfl (jF _) (rt rfl (jA _) (rt rfl (jG _) (rt rfl (jC _) (rt rfl (jo _) (Df rfl rfl))))))))) (by omega) rfl (by unfold maxLen;omega) (by show 1*80<=_;omega) (λ aO bU k1 k2 k3 k4 k5=>?_);refine nx ?_)|((first|refine z2 ?_|refine z7 ?_|refine z5 ?_);refine nx ?_))
    ·subst wb;refine Gg rfl ?_
     repeat' (first|refine tA 0 ?_|refine tA 1 ?_|refine tA 2 ?_|refine tA 3 ?_|refine oA 4 ?_|refine oA 5 ?_|refine oA 6 ?_|refine oA 7 ?_|refine oA 8 ?_|refine oA 9 ?_|refine oA 10 ?_|refine oB 4 5 ?_ ?_|refine oB 4 6 ?_ ?_|(refine dA ?_;have kU:kx (calls++[(⟨aQ,x.op,out.val,out.is,x.steps.getD 0 0,x.steps.getD (x.steps.length-1) 0,pt⟩:iW)]) (.arr 36 0 (calls.length+1) bU) aO:=⟨k5,.inr ⟨bU,by rw[List.length_append];rfl,k1,by rw[List.length_append];exact k3,k2,by rw[List.length_append,<-WW];exact k4⟩⟩;refine jn (fq ⟨m,step,S,calls++[(⟨aQ,x.op,out.val,out.is,x.steps.getD 0 0,x.steps.getD (x.steps.length-1) 0,pt⟩:iW)],full,cU,bad⟩ n _ aO) rfl rfl (by refine ml kU rfl rfl ?_ ?_ ?_ rfl rfl<;>simp only[e1,e2,e3]<;>rfl) (by(repeat(first|exact trivial|refine⟨rfl,?_⟩))) ⟨rfl,_,aO,kU,rfl⟩)|(refine F5 (sz:=10) aw (qc calls) rfl rfl rfl rfl rfl rfl rfl rfl rfl rfl rfl rfl rfl rfl (Dh rfl (vL rfl rfl (vL rfl rfl (rt rfl (jF _) (rt rfl (jA _) (rt rfl (jG _) (rt rfl (jC _) (rt rfl (jo _) (Df rfl rfl))))))))) cb ez (N7 calls) bY ib (by omega) rfl (by unfold maxLen;omega) (by show(_+1)*80<=_;omega) (λ aO bU k1 k2 k3 k4 k5=>?_);refine nx ?_)|((first|refine z2 ?_|refine z7 ?_|refine z5 ?_);refine nx ?_))
   ·have cK:=of_decide_eq_true K;rw[if_pos (.inr (by omega))] at pN;subst pN;refine go ?_;refine gU (fq ⟨m,step,S,calls,full,cU,true⟩ n cd cs) rfl rfl (by refine ml hC rfl rfl ?_ ?_ ?_ rfl rfl<;>simp only[e1,e2,e3]<;>rfl) (by(repeat(first|exact trivial|refine⟨rfl,?_⟩))) ⟨rfl,cd,cs,hC,rfl⟩
 ·have aN:=of_decide_eq_true u;rw[if_pos aN] at pN;subst pN;refine go ?_;refine gU (fq ⟨m,step,S,calls,full+1,cU,bad⟩ n cd cs) rfl rfl (by refine ml hC rfl rfl ?_ ?_ ?_ rfl rfl<;>simp only[e1,e2,e3]<;>rfl) (by(repeat(first|exact trivial|refine⟨rfl,?_⟩))) ⟨rfl,cd,cs,hC,rfl⟩
theorem N3{l:List d7}{i:Nat}{x:d7}(h:l[i]?=some x)(j:Nat)(hj:j<4):(ff l)[i*4+j]?=(qb x.op)[j]?:=by
 obtain⟨rest,hr⟩:=EP h;have:((ff l).drop (i*4))[j]?=(qb x.op)[j]?:=by rw[hr,List.getElem?_append_left (by simpa using hj)]
 rwa [List.getElem?_drop] at this
theorem Pa{aq:Type}:∀{l:List aq}{i:Nat}{x:aq},l[i]?=some x->l.set i x=l
 |[],_,_,_=>rfl
 |a::l,0,x,h=>by cases h;rfl
 |a::l,i+1,x,h=>by rw[List.set_cons_succ,Pa (by simpa using h)]
theorem W1(l:List aB):(fQ l).length=l.length*2:=by
 induction l with
 |nil=>rfl
 |cons a l ih=>unfold fQ at ih⊢;rw[List.flatMap_cons,List.length_append,ih];simp[xh];omega
theorem RU{t:eu}{aQ:Nat}{x:d7}(y:d7){out:br}:o7 {t with aA:=t.aA.set aQ y} aQ x out=o7 t aQ x out:=by unfold o7;simp only[List.set_set]
theorem V5{l:ab}{t:eu}{aQ:Nat}{x:d7}(y:d7):nZ l {t with aA:=t.aA.set aQ y} aQ x=nZ l t aQ x:=by unfold nZ;simp only[List.set_set,RU]
set_option maxHeartbeats 16000000 in
theorem PP(l:ab)(hL:bQ l)(yB:iY l)(want:List (List cq))(turns:List Int)(t:eu)(n k N:Nat)(hn:t.aA.length=n)(hw:want.length=n)(yL:n<=8)(hU:jW k N t)(J:k<=5000)(hN:N<=1000000)(aQ:Nat)(H6:aQ<n)(cd:F)(cs:List F)(hC:kx t.calls cd cs):
 d8 prog 58 [30,31,32,33,34,35] [.ptr 30 0,cF l,Dj want turns,z aQ] (fq t n cd cs) (λ d O=>d=.bc []/\∃ko aO,kx (mS l want t aQ).calls ko aO/\O=fq (mS l want t aQ) n ko aO):=by
 obtain⟨x,T⟩:∃x,t.aA[aQ]?=some x:=⟨t.aA[aQ]'(by omega),List.getElem?_eq_getElem _⟩;obtain⟨ws,yS⟩:∃ws,want[aQ]?=some ws:=⟨want[aQ],List.getElem?_eq_getElem (by omega)⟩;have BR:want[(aQ:Int).toNat]?=some ws:=by simpa using yS
 have ta:=hU.Jn T;have hm:=hU.m;have b8:=hU.step;have qI:=hU.full;have S3:=hU.calls;have uz:=ta.next;obtain⟨m,step,aA,calls,full,cU,bad⟩:=t;simp only at hn T hm b8 qI S3 hC;have Bd:mS l want ⟨m,step,aA,calls,full,cU,bad⟩ aQ=if x.op.kind=0 then(match ws[x.next]? with|none=>⟨m,step,aA,calls,full,cU,bad⟩|some op=>nZ l ⟨m,step,aA,calls,full,cU,bad⟩ aQ ⟨op,[],[],x.next+1,x.gone⟩) else nZ l ⟨m,step,aA,calls,full,cU,bad⟩ aQ x:=by
  unfold mS;simp only[T,yS]
  rfl
 have iQ:=EQ aA;have qL:=N3 T 0 (by omega);have wt:(iE aA)[aQ]?=some (z x.next):=yd (f:=λ x=>z x.next) T;have Up:(x.op.kind=0/\ws.length<=x.next)\/∃x1,((x.op.kind≠0/\x1=x)\/(x.op.kind=0/\∃op,ws[x.next]?=some op/\x1=⟨op,[],[],x.next+1,x.gone⟩)):=by
  by_cases h:x.op.kind=0
  ·by_cases D:ws.length<=x.next
   ·exact .inl ⟨h,D⟩
   ·exact .inr ⟨_,.inr ⟨h,ws[x.next],List.getElem?_eq_getElem (by omega),rfl⟩⟩
  ·exact .inr ⟨x,.inl ⟨h,rfl⟩⟩
 show d8 prog 58 [30,31,32,33,34,35] [.ptr 30 0,cF l,Dj want turns,z aQ] [(30,[aV m,z step,.arr 31 0 n n,.arr 32 0 n n,.arr 33 0 n n,.arr 34 0 n n,.arr 35 0 n n,cd,z full,dB cU,dB bad]),(31,ff aA),(32,jz aA),(33,jf aA),(34,iE aA),(35,jL aA),(36,cs)] _;refine sI func58 ntmps58 λ w cl own kf=>?_
 rcases Up with⟨u,D⟩|⟨x1,bV⟩
 ·rw[if_pos u,List.getElem?_eq_none D] at Bd;simp only at Bd;refine go ?_;refine aj (aQ*4) 4 ?_;refine gG ?_;refine bf (kI aw rfl rfl rfl rfl rfl qL) rfl rfl rfl ?_;refine go ?_;rw[show decide (x.op.kind=0)=true by rw[decide_eq_true_eq];exact u];refine go ?_;refine gW 13 [] ?_;refine rj aQ 1 ?_;refine cD (kI aw rfl rfl rfl rfl rfl wt) rfl rfl ?_;refine ba ?_;refine ri [Cl ws] (Ca BR) ?_;refine qg ?_;rw[show decide ((x.next:Int)>=ws.length)=true by rw[decide_eq_true_eq];omega];refine go ?_;refine gU (fq ⟨m,step,aA,calls,full,cU,bad⟩ n cd cs) rfl rfl (by exact ml hC rfl rfl rfl rfl rfl rfl rfl) (by(repeat(first|exact trivial|refine⟨rfl,?_⟩))) ⟨rfl,cd,cs,?_,?_⟩
  ·rw[Bd];exact hC
  ·rw[Bd]
 ·have lx:mS l want ⟨m,step,aA,calls,full,cU,bad⟩ aQ=nZ l ⟨m,step,aA.set aQ x1,calls,full,cU,bad⟩ aQ x1:=by
   rw[show nZ l ⟨m,step,aA.set aQ x1,calls,full,cU,bad⟩ aQ x1=nZ l ⟨m,step,aA,calls,full,cU,bad⟩ aQ x1 from V5 (t:=⟨m,step,aA,calls,full,cU,bad⟩) x1,Bd];rcases bV with⟨u,rfl⟩|⟨u,op,D,rfl⟩
   ·rw[if_neg u]
   ·rw[if_pos u,D]
  have nI:x1.log.length<=k/\x1.steps.length<=k/\x1.next<=k+1/\x1.gone.length+x1.log.length<=k/\ee x1.gone:=by
   rcases bV with⟨u,rfl⟩|⟨_,op,_,rfl⟩
   ·exact⟨ta.log,ta.steps,by have:=ta.next;omega,by have:=ta.gone.1;rw[yq,if_neg u] at this;exact this,ta.gone.2⟩
   ·exact⟨by simp,by simp,by have:=ta.next;simp only;omega,by have:=ta.gone.1;have:=Le (x:=x);simp only[List.length_nil];omega,ta.gone.2⟩
  have oZ:(aA.set aQ x1)[aQ]?=some x1:=by rw[List.getElem?_set_self (by omega)]
  have Lv:(aA.set aQ x1).length=n:=by rw[List.length_set];exact hn
  generalize oY:aA.set aQ x1=S1 at lx oZ Lv;obtain⟨rN,LI,iw,ZQ,SV⟩:=nI;refine oQ ?_;refine tT ?_;refine gG ?_;refine mg ?_;refine C3 ⟨[(0,.ptr 30 0),(3,z aQ),(5,.ptr 7 0),(6,.ptr 8 0)],[(7,bs l),(8,nt want turns),(30,[aV m,z step,.arr 31 0 n n,.arr 32 0 n n,.arr 33 0 n n,.arr 34 0 n n,.arr 35 0 n n,cd,z full,dB cU,dB bad]),(31,ff S1),(32,jz S1),(33,jf S1),(34,iE S1),(35,jL S1),(36,cs)],[]⟩ ?_ ?_
  ·rcases bV with⟨u,rfl⟩|⟨u,op,pY,rfl⟩
   ·rw[Pa T] at oY;subst oY;refine go ?_;refine aj (aQ*4) 4 ?_;refine gG ?_;refine bf (kI aw rfl rfl rfl rfl rfl qL) rfl rfl rfl ?_;refine go ?_;rw[show decide (x1.op.kind=0)=false by rw[decide_eq_false_iff_not];exact u];refine go ?_;exact⟨rfl,zX (R:=by exact⟨⟨rfl,rfl⟩,⟨rfl,rfl⟩,⟨rfl,lK (t:=⟨m,step,[],calls,full,cU,bad⟩) hC _ _ rfl rfl rfl rfl rfl rfl⟩,⟨rfl,jF _ _ _⟩,⟨rfl,jA _ _ _⟩,⟨rfl,jG _ _ _⟩,⟨rfl,jC _ _ _⟩,⟨rfl,jo _ _ _⟩,⟨rfl,hC.pl _ _⟩,trivial⟩)⟩
   ·have Um:ws[(x.next:Int).toNat]?=some op:=by simpa using pY
    have mN:x.next<ws.length:=(List.getElem?_eq_some_iff.1 pY).1;have BQ:=ER (l:=aA) (i:=aQ) ⟨op,[],[],x.next+1,x.gone⟩ (by omega);have iS:((jz aA).set aQ (.p (.sl true 0 []))).map kJ=jz (aA.set aQ ⟨op,[],[],x.next+1,x.gone⟩):=AL (f:=λ x=>fS x.log) (λ _=>rfl) rfl;have td:((jf aA).set aQ (.p (.sl true 0 []))).map kJ=jf (aA.set aQ ⟨op,[],[],x.next+1,x.gone⟩):=AL (f:=λ x=>aV x.steps) (λ _=>rfl) rfl;have eZ:(iE aA).set aQ (z ((x.next:Int)+1))=iE (aA.set aQ ⟨op,[],[],x.next+1,x.gone⟩):=by rw[iE,iE,List.map_set];congr 1
    have wF:jL (aA.set aQ ⟨op,[],[],x.next+1,x.gone⟩)=jL aA:=qZ T rfl;rw[oY] at BQ iS td eZ wF;refine go ?_;refine aj (aQ*4) 4 ?_;refine gG ?_;refine bf (kI aw rfl rfl rfl rfl rfl qL) rfl rfl rfl ?_;refine go ?_;rw[show decide (x.op.kind=0)=true by rw[decide_eq_true_eq];exact u];refine go ?_;refine gW 13 [] ?_;refine rj aQ 1 ?_;refine cD (kI aw rfl rfl rfl rfl rfl wt) rfl rfl ?_;refine ba ?_;refine ri [Cl ws] (Ca BR) ?_;refine qg ?_;rw[show decide ((x.next:Int)>=ws.length)=false by rw[decide_eq_false_iff_not];omega];refine go ?_;refine gW 19 [] ?_;refine ri [Cl ws] (Ca BR) ?_;refine ba ?_;refine rj aQ 1 ?_;refine cD (kI aw rfl rfl rfl rfl rfl wt) rfl rfl ?_;refine ba ?_;refine ri [pI op.kind,pI op.obj,pI op.a,pI op.b] (WM Um) ?_;refine qg ?_;refine aj (aQ*4) 4 ?_;refine F7 aw (ff S1) rfl rfl rfl rfl rfl rfl rfl rfl rfl (by rw[iQ];show aQ*4+4<=_;omega) BQ ?_;refine go ?_;refine aj aQ 1 ?_;refine bf (kI aw rfl rfl rfl rfl rfl wt) rfl rfl rfl ?_;refine go ?_;refine aj aQ 1 ?_;refine pE aw rfl rfl rfl rfl rfl rfl rfl rfl rfl (by show aQ<(iE aA).length;rw[List.length_map];omega) ?_;rw[eZ];refine go ?_;refine aj aQ 1 ?_;refine pE aw rfl rfl rfl rfl rfl rfl rfl rfl rfl (by show aQ<(jz aA).length;rw[List.length_map];omega) ?_;refine oh (nV 32 rfl iS) ?_;refine go ?_;refine aj aQ 1 ?_;refine pE aw rfl rfl rfl rfl rfl rfl rfl rfl rfl (by show aQ<(jf aA).length;rw[List.length_map];omega) ?_;refine oh (nV 33 rfl td) ?_;rw[<-wF];refine go ?_
    exact⟨rfl,zX (R:=by exact⟨⟨rfl,rfl⟩,⟨rfl,rfl⟩,⟨rfl,lK (t:=⟨m,step,[],calls,full,cU,bad⟩) hC _ _ rfl rfl rfl rfl rfl rfl⟩,⟨rfl,jF _ _ _⟩,⟨rfl,jA _ _ _⟩,⟨rfl,jG _ _ _⟩,⟨rfl,jC _ _ _⟩,⟨rfl,jo _ _ _⟩,⟨rfl,hC.pl _ _⟩,trivial⟩)⟩
  have Ul:=EQ S1;obtain⟨Yd,iC⟩:=EP oZ;have i8:(jL S1)[aQ]?=some (cT x1.gone):=yd (f:=λ x=>cT x.gone) oZ;have i9:(jz S1)[aQ]?=some (fS x1.log):=yd (f:=λ x=>fS x.log) oZ;have eM:(jf S1)[aQ]?=some (aV x1.steps):=yd (f:=λ x=>aV x.steps) oZ;have G8:=N0 l hL hL.aA.1 yB aQ (by omega) x1.gone x1.op x1.log SV (by omega) (by omega);unfold nZ at lx;simp only at lx;generalize q7 l aQ x1.gone x1.op x1.log=r at G8 lx;obtain⟨a,out,dn⟩:=r;dsimp only[qx] at G8;simp only at lx;refine go ?_;refine gW 32 [] ?_;refine rj aQ 1 ?_;refine cD (kI aw rfl rfl rfl rfl rfl i8) rfl rfl ?_;refine ba ?_;refine rj (aQ*4) 4 ?_;refine cD (lF aw (qb x1.op) Yd rfl rfl rfl rfl rfl (by show _<=(ff S1).length;omega) iC rfl) rfl rfl ?_;refine ba ?_;refine rj aQ 1 ?_;refine cD (kI aw rfl rfl rfl rfl rfl i9) rfl rfl ?_;refine gQ G8 ?_;refine go ?_;cases dn
  ·simp only[Bool.false_eq_true,↓reduceIte] at lx;have hM:=VZ m a (by omega);have kX:=Al m a;generalize wO:(cU||wh l m a)=wi at lx;refine AP ?_;refine C5 ?_;refine mg ?_;refine C3 ⟨[(0,.ptr 30 0),(3,z aQ),(8,.ptr 9 0)],[(7,bs l),(8,nt want turns),(9,[z a.kind,z a.cell,z a.eh,z a.new]),(30,[aV m,z step,.arr 31 0 n n,.arr 32 0 n n,.arr 33 0 n n,.arr 34 0 n n,.arr 35 0 n n,cd,z full,dB wi,dB bad]),(31,ff S1),(32,jz S1),(33,jf S1),(34,iE S1),(35,jL S1),(36,cs)],[]⟩ ?_ ?_
   ·cases cU
    ·refine go ?_;refine gk (Sb l hL ⟨m,step,S1,calls,full,false,bad⟩ n cd cs hC a) rfl (λ a w=>call102 a w) rfl rfl (by exact ml hC rfl rfl rfl rfl rfl rfl rfl) (by(repeat(first|exact trivial|refine⟨.inr rfl,?_⟩|refine⟨.inl rfl,?_⟩))) rfl rfl rfl rfl ?_ ?_
     ·rintro d O ⟨rfl,rfl⟩;exact⟨.inl rfl,.inl rfl,.inl rfl,.inl rfl,.inl rfl,.inl rfl,.inl rfl,trivial⟩
     rintro d O ⟨rfl,rfl⟩;rw[Bool.false_or] at wO;rw[show wh l (eu.m ⟨m,step,S1,calls,full,false,bad⟩) a=wi from wO];refine go ?_;exact⟨rfl,zX (R:=by exact⟨⟨rfl,rfl⟩,⟨rfl,rfl⟩,⟨rfl,rfl⟩,⟨rfl,lK (t:=⟨m,step,[],calls,full,wi,bad⟩) hC _ _ rfl rfl rfl rfl rfl rfl⟩,⟨rfl,jF _ _ _⟩,⟨rfl,jA _ _ _⟩,⟨rfl,jG _ _ _⟩,⟨rfl,jC _ _ _⟩,⟨rfl,jo _ _ _⟩,⟨rfl,hC.pl _ _⟩,trivial⟩)⟩
    ·rw[Bool.true_or] at wO;subst wO;refine go ?_;exact⟨rfl,zX (R:=by exact⟨⟨rfl,rfl⟩,⟨rfl,rfl⟩,⟨rfl,rfl⟩,⟨rfl,lK (t:=⟨m,step,[],calls,full,true,bad⟩) hC _ _ rfl rfl rfl rfl rfl rfl⟩,⟨rfl,jF _ _ _⟩,⟨rfl,jA _ _ _⟩,⟨rfl,jG _ _ _⟩,⟨rfl,jC _ _ _⟩,⟨rfl,jo _ _ _⟩,⟨rfl,hC.pl _ _⟩,trivial⟩)⟩
   ·refine go ?_;unfold zg at hM
    by_cases hf:mI m.length a=0
    ·rw[if_pos hf] at hM lx;generalize kj m a=tr at hM lx kX;obtain⟨m1,rs⟩:=tr;dsimp only at hM lx kX;refine dW 14 [] ?_;refine gQ hM ?_;refine go ?_;rw[show decide ((0:Int)=0)=true from rfl];refine go ?_;refine gW 17 [] ?_;refine rj aQ 1 ?_;refine cD (kI aw rfl rfl rfl rfl rfl i9) rfl rfl ?_;refine ba ?_;refine E3 (iD:=0) (m:=x1.log.length) (ps:=[]) (qs:=fQ x1.log) aw 0 rfl rfl rfl rfl rfl rfl rfl rfl rfl rfl rfl rfl rfl (W1 x1.log) (by unfold maxLen;omega) (by show(_+_)*16<=_;omega) ?_;rw[show 0+x1.log.length=x1.log.length from Nat.zero_add _,List.nil_append];refine ba ?_;refine nv (m:=1) (qs:=xh rs) aw rfl rfl rfl rfl rfl rfl rfl rfl rfl rfl rfl rfl rfl (by unfold maxLen;omega) (by show(_+_)*16<=_;omega) ?_;rw[show fQ x1.log++xh rs=fQ (x1.log++[rs]) by simp[fQ],show x1.log.length+1=(x1.log++[rs]).length by simp];refine qg ?_;refine aj aQ 1 ?_;refine pE aw rfl rfl rfl rfl rfl rfl rfl rfl rfl (by show aQ<(jz S1).length;rw[List.length_map];omega) ?_;have Mm:((jz S1).set aQ (.aU 0 (x1.log++[rs]).length (fQ (x1.log++[rs])))).map kJ=jz (S1.set aQ {x1 with log:=x1.log++[rs],steps:=x1.steps++[step]}):=AL (f:=λ x=>fS x.log) (λ _=>rfl) rfl;have bT:((jf S1).set aQ (.aU 1 (x1.steps++[step]).length (aZ (x1.steps++[step])))).map kJ=jf (S1.set aQ {x1 with log:=x1.log++[rs],steps:=x1.steps++[step]}):=AL (f:=λ x=>aV x.steps) (λ _=>rfl) rfl;have e1:ff (S1.set aQ {x1 with log:=x1.log++[rs],steps:=x1.steps++[step]})=ff S1:=WN oZ rfl
     have e2:iE (S1.set aQ {x1 with log:=x1.log++[rs],steps:=x1.steps++[step]})=iE S1:=qZ oZ rfl;have e3:jL (S1.set aQ {x1 with log:=x1.log++[rs],steps:=x1.steps++[step]})=jL S1:=qZ oZ rfl;generalize S1.set aQ {x1 with log:=x1.log++[rs],steps:=x1.steps++[step]}=S2 at lx Mm bT e1 e2 e3;refine oh (nV 32 rfl Mm) ?_;refine go ?_;refine gW 20 [] ?_;refine rj aQ 1 ?_;refine cD (kI aw rfl rfl rfl rfl rfl eM) rfl rfl ?_;refine ba ?_;refine E3 (iD:=0) (m:=x1.steps.length) (ps:=[]) (qs:=aZ x1.steps) aw 1 rfl rfl rfl rfl rfl rfl rfl rfl rfl rfl rfl rfl rfl (by rw[kL];exact(Nat.mul_one _).symm) (by unfold maxLen;omega) (by show(_+_)*8<=_;omega) ?_;rw[show 0+x1.steps.length=x1.steps.length from Nat.zero_add _,List.nil_append];refine ba ?_;refine nv (m:=1) (qs:=[pI step]) aw rfl rfl rfl rfl rfl rfl rfl rfl rfl rfl rfl rfl rfl (by unfold maxLen;omega) (by show(_+_)*8<=_;omega) ?_;rw[ku,show x1.steps.length+1=(x1.steps++[step]).length by simp];refine qg ?_;refine aj aQ 1 ?_;refine pE aw rfl rfl rfl rfl rfl rfl rfl rfl rfl (by show aQ<(jf S1).length;rw[List.length_map];omega) ?_;refine oh (nV 33 rfl bT) ?_;refine go ?_;refine jn (fq ⟨m1,step+1,S2,calls,full,wi,bad⟩ n cd cs) rfl rfl (by refine ml hC rfl ?_ rfl rfl ?_ ?_ rfl<;>(try simp only[e1,e2,e3])<;>rfl) (by(repeat(first|exact trivial|refine⟨rfl,?_⟩))) ⟨rfl,cd,cs,?_,?_⟩
     ·rw[lx];exact hC
     ·rw[lx]
    ·rw[if_neg hf] at hM lx;refine dW 14 [] ?_;refine gQ hM ?_;refine go ?_;rw[show decide (mI m.length a=0)=false by rw[decide_eq_false_iff_not];exact hf];refine go ?_;refine aj (aQ*4) 4 ?_;have MD:=ER (l:=S1) (i:=aQ) {x1 with op:=mO} (by omega);have e1:jz (S1.set aQ {x1 with op:=mO})=jz S1:=qZ oZ rfl;have e2:jf (S1.set aQ {x1 with op:=mO})=jf S1:=qZ oZ rfl;have e3:iE (S1.set aQ {x1 with op:=mO})=iE S1:=qZ oZ rfl;have e4:jL (S1.set aQ {x1 with op:=mO})=jL S1:=qZ oZ rfl;generalize S1.set aQ {x1 with op:=mO}=S2 at lx MD e1 e2 e3 e4;refine F7 aw (ff S2) rfl rfl rfl rfl rfl rfl rfl rfl rfl (by rw[Ul];show aQ*4+4<=_;omega) MD ?_;refine go ?_;refine gU (fq ⟨m,step,S2,calls,full,wi,true⟩ n cd cs) rfl rfl (by refine ml hC rfl rfl ?_ ?_ ?_ ?_ rfl<;>(try simp only[e1,e2,e3,e4])<;>rfl) (by(repeat(first|exact trivial|refine⟨rfl,?_⟩))) ⟨rfl,cd,cs,?_,?_⟩
     ·rw[lx];exact hC
     ·rw[lx]
  ·simp only[↓reduceIte] at lx;refine Gn ?_;refine go ?_;refine gk (RS ⟨m,step,S1,calls,full,cU,bad⟩ n aQ x1 out Lv yL oZ (by omega) ⟨qI.1,by show full<=100000;omega⟩ (by show calls.length<=100000;omega) cd cs hC) rfl (λ a w=>call101 a w) rfl rfl (by exact ml hC rfl rfl rfl rfl rfl rfl rfl) (by(repeat(first|exact trivial|refine⟨.inr rfl,?_⟩|refine⟨.inl rfl,?_⟩))) rfl rfl rfl rfl ?_ ?_
   ·rintro d O ⟨rfl,ko,aO,kU,rfl⟩;exact⟨.inl rfl,.inl rfl,.inl rfl,.inl rfl,.inl rfl,.inl rfl,.inl rfl,trivial⟩
   rintro d O ⟨rfl,ko,aO,kU,rfl⟩;refine go ?_;rw[<-lx] at kU⊢;refine gU (fq (mS l want ⟨m,step,aA,calls,full,cU,bad⟩ aQ) n ko aO) rfl rfl (by exact ml kU rfl rfl rfl rfl rfl rfl rfl) (by(repeat(first|exact trivial|refine⟨rfl,?_⟩))) ⟨rfl,ko,aO,kU,rfl⟩
theorem X9(n:Nat)(ds:List F)(f:d7->List F)(h:f pi=ds):(List.replicate n ds).flatten=(List.replicate n pi).flatMap f:=by rw[List.flatMap_def,List.map_replicate,h]
theorem E8(n:Nat)(d:F):(List.replicate n [d]).flatten=List.replicate n d:=by
 induction n with
 |zero=>rfl
 |succ n ih=>rw[List.replicate_succ,List.flatten_cons,ih];rfl
theorem Jc(n:Nat)(d:F)(f:d7->F)(h:kJ d=f pi):(List.replicate n d).map kJ=(List.replicate n pi).map f:=by rw[List.map_replicate,List.map_replicate,h]
theorem Ya(n:Nat)(d:F)(f:d7->F)(h:d=f pi):List.replicate n d=(List.replicate n pi).map f:=by rw[List.map_replicate,h]
structure CT(l:ab):Prop where
 ok:bQ l
 m:iY l
 b:1<=l.buckets
 maps:0<=l.maps/\l.maps<=8
 aL:0<=l.aL/\l.aL<=8
 nodes:l.nodes<=20000
 size:0<=l.size/\l.size<=20000
 YS:vu l.size.toNat (eX l)
theorem WG(l:ab)(h:CT l):(eX l).length<=100000:=by
 have u:=El l l.maps.toNat;have D:=Ei l l.aL.toNat;have K:=h.maps;have h4:=h.aL;have h5:(lp l (l.maps+l.aL+1).toNat).length<=20002:=by
  have:=h.nodes;have:=h.size;unfold lp;split
  ·simp
  ·unfold r8;rw[List.length_append,wQ];simp;omega
 rw[EL];simp only[List.length_append,List.length_cons,List.length_nil];omega
set_option maxHeartbeats 8000000 in
theorem YX(l:ab)(hO:CT l)(n:Nat)(yL:n<=8):
 d8 prog 57 [] [cF l,z n] [] (λ d O=>d=.ptr 30 0/\∃cs,kx [] (.p (.sl true 0 [])) cs/\O=fq (tw l n) n (.p (.sl true 0 [])) cs):=by
 have hL:=hO.ok;have yB:=hO.m;have bT:((l.size.toNat:Nat):Int)=l.size:=by have:=hO.size;omega
 have aar:l.size.toNat<=20000:=by have:=hO.size;omega
 have nj:=NA l.size.toNat (by omega);rw[bT] at nj;have ly:=WG l hO;have dc:=XR (List.replicate l.size.toNat 0) (eX l) (by rw[List.length_replicate];exact hO.YS) (by rw[List.length_replicate];omega) ly;have Md:=OS l hL yB hO.b hO.maps hO.aL;have hm:(jX (List.replicate l.size.toNat 0) (List.replicate l.size.toNat 0) [] (eX l)).1=eT l:=rfl;rw[hm] at dc;have SY:tw l n=⟨eT (l),0,List.replicate n pi,[],0,false,false⟩:=rfl;rw[SY];have vW:∀m:List Int,kx [] (.p (.sl true 0 [])) [aV m]:=λ m=>⟨λ _ _=>rfl,.inl ⟨rfl,rfl⟩⟩
 generalize(jX (List.replicate l.size.toNat 0) (List.replicate l.size.toNat 0) [] (eX l)).2=tl at dc;obtain⟨gE,er⟩:=tl;simp only at dc;generalize eT l=m0 at dc;generalize eX l=BA at dc Md ly;clear hO;refine sI func57 ntmps57 λ w cl own kf=>?_
 refine go ?_;refine dW 13 [] ?_;refine gQ nj ?_;refine cQ Md ?_;refine ba ?_;refine cQ dc ?_;refine Cp aw rfl rfl rfl ?_;refine Cp aw rfl rfl rfl ?_;refine Cp aw rfl rfl rfl ?_;refine Cp aw rfl rfl rfl ?_;refine qe (tQ aw 36 rfl rfl rfl rfl) rfl rfl rfl rfl ?_;refine qg ?_;refine gW 11 [] ?_;refine qe (B9 aw 31 (ff (List.replicate n pi)) rfl rfl rfl rfl rfl rfl rfl rfl rfl (by show _*32<=_;omega) (by unfold maxLen;omega) (X9 n _ (λ x=>qb x.op) rfl)) rfl rfl rfl rfl ?_;refine ba ?_;refine qe (B9 aw 32 (List.replicate n (.p (.sl true 0 []))) rfl rfl rfl rfl rfl rfl rfl rfl rfl (by show _*24<=_;omega) (by unfold maxLen;omega) (E8 n _)) rfl rfl rfl rfl ?_;refine ba ?_;refine qe (B9 aw 33 (List.replicate n (.p (.sl true 0 []))) rfl rfl rfl rfl rfl rfl rfl rfl rfl (by show _*24<=_;omega) (by unfold maxLen;omega) (E8 n _)) rfl rfl rfl rfl ?_;refine ba ?_;refine qe (B9 aw 34 (iE (List.replicate n pi)) rfl rfl rfl rfl rfl rfl rfl rfl rfl (by show _*8<=_;omega) (by unfold maxLen;omega) ((E8 n _).trans (Ya n _ (λ x=>z x.next) rfl))) rfl rfl rfl rfl ?_;refine ba ?_;refine qe (B9 aw 35 (List.replicate n (.p (.sl true 0 []))) rfl rfl rfl rfl rfl rfl rfl rfl rfl (by show _*24<=_;omega) (by unfold maxLen;omega) (E8 n _)) rfl rfl rfl rfl ?_;refine ba ?_;refine oh (nV 32 rfl (Jc n _ (λ x=>fS x.log) rfl)) ?_;refine oh (nV 33 rfl (Jc n _ (λ x=>aV x.steps) rfl)) ?_;refine oh (nV 35 rfl (Jc n _ (λ x=>cT x.gone) rfl)) ?_;refine bf (ya aw rfl rfl rfl) rfl rfl rfl ?_;refine bA 30 ?_;refine go ?_
 refine gU (fq ⟨m0,0,List.replicate n pi,[],0,false,false⟩ n (.p (.sl true 0 [])) [aV m0]) rfl rfl (by exact ml (vW m0) rfl rfl rfl rfl rfl rfl rfl) (by(repeat(first|exact trivial|refine⟨rfl,?_⟩))) ⟨rfl,_,vW m0,rfl⟩
theorem Q9(l:ab)(n:Nat):jW 0 (eT l).length (tw l n):=by
 have hs:∀x∈(tw l n).aA,x=pi:=λ x T=>by
  have fJ:x∈List.replicate n pi:=T;exact(List.mem_replicate.1 fJ).2
 refine⟨rfl,λ x T=>?_,λ x T=>?_,λ x T=>?_,λ x T=>?_,⟨Int.le_refl _,Int.le_refl _⟩,⟨Int.le_refl _,Int.le_refl _⟩,Nat.le_refl _⟩
 all_goals rw[hs x T]
 ·exact Nat.le_refl _
 ·exact Nat.le_refl _
 ·exact Nat.le_refl _
 ·exact⟨Nat.le_refl _,λ p hp=>by cases hp⟩
abbrev KG(l:List iW):F:=.p (.sl false l.length (qc l))
theorem WX(l:List iW):∀x∈qc l,x.lf=true:=by intro x T;unfold qc at T;rw[List.mem_flatMap] at T;obtain⟨c,_,L⟩:=T;simp only[List.mem_cons,List.not_mem_nil,or_false] at L;rcases L with rfl|rfl|rfl|rfl|rfl|rfl|rfl|rfl|rfl|rfl<;>rfl
abbrev xC(t:eu)(n:Nat):bH:=[(30,vd t n (KG t.calls)),(31,ff t.aA),(32,jz t.aA),(33,jf t.aA),(34,iE t.aA),(35,jL t.aA)]
theorem PE{I:St}{t:eu}{n:Nat}(h0:Y I.b 30=some (vd t n (KG t.calls)))(u:Y I.b 31=some (ff t.aA))(D:Y I.b 32=some (jz t.aA))(K:Y I.b 33=some (jf t.aA))(h4:Y I.b 34=some (iE t.aA))(h5:Y I.b 35=some (jL t.aA)):i3 I (aC (xC t n)) (xC t n):=
 ⟨⟨h0,rfl⟩,⟨u,jF _ _ _⟩,⟨D,jA _ _ _⟩,⟨K,jG _ _ _⟩,⟨h4,jC _ _ _⟩,⟨h5,jo _ _ _⟩,trivial⟩
theorem drop_cons{aq:Type}{l:List aq}{i:Nat}{x:aq}(h:l[i]?=some x):l.drop i=x::l.drop (i+1):=by obtain⟨u,D⟩:=List.getElem?_eq_some_iff.1 h;rw[List.drop_eq_getElem_cons u,D]
theorem Y5{l:ab}{want:List (List cq)}{t:eu}{turns:List Int}{i:Nat}{x:Int}(h:turns[i]?=some x)(f:Int->Nat):uN l want t ((turns.drop i).map f)=uN l want (mS l want t (f x)) ((turns.drop (i+1)).map f):=by rw[drop_cons h,List.map_cons,uN]
theorem PU{k N:Nat}{t:eu}{b:Bool}(h:jW k N t):jW k N {t with bad:=b}:=⟨h.m,h.log,h.steps,h.next,h.gone,h.step,h.full,h.calls⟩
set_option maxHeartbeats 16000000 in
theorem Xc(l:ab)(hO:CT l)(want:List (List cq))(turns:List Int)(ZF:1<=want.length)(ZI:want.length<=3)(aat:turns.length<=300)(UI:∀x∈turns,0<=x/\x<256)(UU:∀w∈want,w.length<=1000):
 d8 prog 21 [] [cF l,Dj want turns] [] (λ d O=>d=.ptr 30 0/\O=xC (EO l want turns) want.length):=by
 have hL:=hO.ok;have yB:=hO.m;have hB:=YX l hO want.length (by omega);have Lx:=Q9 l want.length;have bT:(eT l).length<=1000000:=by rw[WE];have:=hO.size;omega
 have iw:(tw l want.length).aA.length=want.length:=by simp[tw]
 generalize A:EO l want turns=aK;unfold EO at A;have rM:(tw l want.length).calls=[]:=rfl;generalize tw l want.length=T0 at*;generalize(eT l).length=N at*;clear hO;generalize hn:want.length=n at*;have hw:=hn;have yL:n<=8:=by omega
 have hN:=bT;have GZ:d8 prog 57 [] [cF l,z (want.length:Nat)] [] (λ d O=>d=.ptr 30 0/\∃cs,kx [] (.p (.sl true 0 [])) cs/\O=fq T0 n (.p (.sl true 0 [])) cs):=by rw[hw];exact hB
 refine sI func21 ntmps21 λ w cl own kf=>?_
 refine go ?_;refine cI GZ ?_;rintro d O ⟨rfl,lS,vW,rfl⟩;refine go ?_;refine AG (dE:=eu×F×List F) (.exit 0) (λ p=>⟨[(5,.ptr 30 0),(2,.ptr 0 0),(3,.ptr 1 0)],(0,bs l)::(1,nt want turns)::fq p.1 n p.2.1 p.2.2,[]⟩) (λ p=>p.1=uN l want T0 (turns.map λ x=>(x%(n:Int)).toNat)/\jW 300 N p.1/\p.1.aA.length=n/\kx p.1.calls p.2.1 p.2.2) ?_ ?_
 ·refine bL (λ p:Nat×eu×F×List F=>p.1<=turns.length/\uN l want p.2.1 ((turns.drop p.1).map λ x=>(x%(n:Int)).toNat)=uN l want T0 (turns.map λ x=>(x%(n:Int)).toNat)/\jW p.1 N p.2.1/\p.2.1.aA.length=n/\kx p.2.1.calls p.2.2.1 p.2.2.2) (λ p=>⟨[(6,z p.1),(5,.ptr 30 0),(2,.ptr 0 0),(3,.ptr 1 0)],(0,bs l)::(1,nt want turns)::fq p.2.1 n p.2.2.1 p.2.2.2,[]⟩) (λ p=>turns.length-p.1) (0,T0,.p (.sl true 0 []),lS) ⟨Nat.zero_le _,rfl,Lx,iw,by simp only;rw[rM];exact vW⟩ (zX (R:=by exact⟨⟨rfl,rfl⟩,⟨rfl,rfl⟩,⟨rfl,lK (t:=T0) vW _ _ rfl rfl rfl rfl rfl rfl⟩,⟨rfl,jF _ _ _⟩,⟨rfl,jA _ _ _⟩,⟨rfl,jG _ _ _⟩,⟨rfl,jC _ _ _⟩,⟨rfl,jo _ _ _⟩,⟨rfl,vW.pl _ _⟩,trivial⟩)) ?_;rintro⟨i,t,cd,cs⟩ ⟨Z,hT,hU,hn,hC⟩;simp only at Z hT hU hn hC;refine(show aJ _ _ _ _ ⟨[(6,z i),(5,.ptr 30 0),(2,.ptr 0 0),(3,.ptr 1 0)],(0,bs l)::(1,nt want turns)::fq t n cd cs,[]⟩ from ?_);refine go ?_;refine cz (λ u=>?_) (λ u=>?_)<;>try rw[u]
  ·have aN:=of_decide_eq_true u;obtain⟨x,T⟩:=j3 (l:=turns) (i:=i) (by omega) aN;have fJ:=T;simp only[Int.toNat_natCast] at fJ;have UX:=UI x (List.mem_of_getElem? fJ);have aaa:0<=x%(want.length:Int)/\x%(want.length:Int)<want.length:=⟨Int.emod_nonneg _ (by omega),Int.emod_lt_of_pos _ (by omega)⟩;rw[Y5 fJ (λ x=>(x%(n:Int)).toNat),<-hw] at hT;obtain⟨aQ,MJ⟩:∃w:Nat,(w:Int)=x%(want.length:Int):=⟨(x%(want.length:Int)).toNat,by omega⟩;rw[<-MJ,Int.toNat_natCast,hw] at hT;refine go ?_;refine gW 13 [] ?_;refine ri [p8 x] (Ca (f:=p8) T) ?_;refine ba ?_;rw[show IntKind.i64.wrap x=x from d6 (by omega) (by omega)];refine cD (E7 rfl rfl rfl (by omega) (by omega)) rfl rfl ?_;rw[<-MJ];refine qg ?_;refine gk (PP l hL yB want turns t n (i) N hn hw yL hU (by omega) hN aQ (by omega) cd cs hC) rfl (λ a w=>call58 a w) rfl rfl (by exact ml hC rfl rfl rfl rfl rfl rfl rfl) (by(repeat(first|exact trivial|refine⟨.inr rfl,?_⟩|refine⟨.inl rfl,?_⟩))) rfl rfl rfl rfl ?_ ?_
   ·rintro d O ⟨rfl,ko,aO,kU,rfl⟩;exact⟨.inl rfl,.inl rfl,.inl rfl,.inl rfl,.inl rfl,.inl rfl,.inl rfl,trivial⟩
   rintro d O ⟨rfl,ko,aO,kU,rfl⟩;refine go ?_;exact⟨(i+1,mS l want t aQ,ko,aO),⟨by simp only;omega,hT,PT hU hL.aA.1,by simp only;rw[PR];exact hn,kU⟩,by simp only;omega,zX (R:=by exact⟨⟨rfl,rfl⟩,⟨rfl,rfl⟩,⟨rfl,lK (t:=mS l want t aQ) kU _ _ rfl rfl rfl rfl rfl rfl⟩,⟨rfl,jF _ _ _⟩,⟨rfl,jA _ _ _⟩,⟨rfl,jG _ _ _⟩,⟨rfl,jC _ _ _⟩,⟨rfl,jo _ _ _⟩,⟨rfl,kU.pl _ _⟩,trivial⟩)⟩
  ·have aN:=of_decide_eq_false u;rw[List.drop_of_length_le (by omega)] at hT;refine go ?_;exact⟨rfl,(t,cd,cs),⟨hT,hU.mono (by omega),hn,hC⟩,zX (R:=by exact⟨⟨rfl,rfl⟩,⟨rfl,rfl⟩,⟨rfl,lK (t:=t) hC _ _ rfl rfl rfl rfl rfl rfl⟩,⟨rfl,jF _ _ _⟩,⟨rfl,jA _ _ _⟩,⟨rfl,jG _ _ _⟩,⟨rfl,jC _ _ _⟩,⟨rfl,jo _ _ _⟩,⟨rfl,hC.pl _ _⟩,trivial⟩)⟩
 rintro bS ⟨t,cd,cs⟩ ⟨hT,hU,hn,hC⟩ eA;refine zR (zM (da eA ?_));clear eA;simp only at hT hU hn hC;rw[<-hT] at A;clear hT Lx iw rM vW;refine(show aJ _ _ _ _ ⟨[(5,.ptr 30 0),(2,.ptr 0 0),(3,.ptr 1 0)],(0,bs l)::(1,nt want turns)::fq t n cd cs,[]⟩ from ?_);refine go ?_;refine AG (dE:=eu×F×List F) (.exit 2) (λ p=>⟨[(5,.ptr 30 0),(2,.ptr 0 0),(3,.ptr 1 0)],(0,bs l)::(1,nt want turns)::fq p.1 n p.2.1 p.2.2,[]⟩) (λ p=>p.1=aK/\kx p.1.calls p.2.1 p.2.2) ?_ ?_
 ·refine bL (λ p:Nat×eu×F×List F=>p.1<=n/\Cj l want p.1 (n-p.1) p.2.1=aK/\jW (300+1500*p.1) N p.2.1/\p.2.1.aA.length=n/\kx p.2.1.calls p.2.2.1 p.2.2.2) (λ p=>⟨[(7,z p.1),(5,.ptr 30 0),(2,.ptr 0 0),(3,.ptr 1 0)],(0,bs l)::(1,nt want turns)::fq p.2.1 n p.2.2.1 p.2.2.2,[]⟩) (λ p=>n-p.1) (0,t,cd,cs) ⟨Nat.zero_le _,A,hU,hn,hC⟩ (zX (R:=by exact⟨⟨rfl,rfl⟩,⟨rfl,rfl⟩,⟨rfl,lK (t:=t) hC _ _ rfl rfl rfl rfl rfl rfl⟩,⟨rfl,jF _ _ _⟩,⟨rfl,jA _ _ _⟩,⟨rfl,jG _ _ _⟩,⟨rfl,jC _ _ _⟩,⟨rfl,jo _ _ _⟩,⟨rfl,hC.pl _ _⟩,trivial⟩)) ?_;clear A hU hn hC;rintro⟨aQ,t,cd,cs⟩ ⟨H6,hT,hU,hn,hC⟩;simp only at H6 hT hU hn hC;refine(show aJ _ _ _ _ ⟨[(7,z aQ),(5,.ptr 30 0),(2,.ptr 0 0),(3,.ptr 1 0)],(0,bs l)::(1,nt want turns)::fq t n cd cs,[]⟩ from ?_);refine go ?_;refine cz (λ D=>?_) (λ D=>?_)<;>try rw[D]
  ·have bd:=of_decide_eq_true D;have UV:aQ<n:=by omega
   obtain⟨ws,yS⟩:∃ws,want[aQ]?=some ws:=⟨want[aQ],List.getElem?_eq_getElem (by omega)⟩;have BR:want[(aQ:Int).toNat]?=some ws:=by simpa using yS
   have aav:=UU ws (List.mem_of_getElem? yS);rw[show n-aQ=(n-(aQ+1))+1 by omega,Cj] at hT;refine go ?_;refine AG (dE:=eu×F×List F) (.exit 4) (λ p=>⟨[(7,z aQ),(5,.ptr 30 0),(2,.ptr 0 0),(3,.ptr 1 0)],(0,bs l)::(1,nt want turns)::fq p.1 n p.2.1 p.2.2,[]⟩) (λ p=>p.1=uK l want aQ 1500 t/\jW (300+1500*(aQ+1)) N p.1/\p.1.aA.length=n/\kx p.1.calls p.2.1 p.2.2) ?_ ?_
   ·refine bL (λ p:Nat×eu×F×List F=>p.1<=1500/\uK l want aQ (1500-p.1) p.2.1=uK l want aQ 1500 t/\jW (300+1500*aQ+p.1) N p.2.1/\p.2.1.aA.length=n/\kx p.2.1.calls p.2.2.1 p.2.2.2) (λ p=>⟨[(8,z p.1),(7,z aQ),(5,.ptr 30 0),(2,.ptr 0 0),(3,.ptr 1 0)],(0,bs l)::(1,nt want turns)::fq p.2.1 n p.2.2.1 p.2.2.2,[]⟩) (λ p=>1500-p.1) (0,t,cd,cs) ⟨Nat.zero_le _,rfl,hU,hn,hC⟩ (zX (R:=by exact⟨⟨rfl,rfl⟩,⟨rfl,rfl⟩,⟨rfl,lK (t:=t) hC _ _ rfl rfl rfl rfl rfl rfl⟩,⟨rfl,jF _ _ _⟩,⟨rfl,jA _ _ _⟩,⟨rfl,jG _ _ _⟩,⟨rfl,jC _ _ _⟩,⟨rfl,jo _ _ _⟩,⟨rfl,hC.pl _ _⟩,trivial⟩)) ?_;clear hT hU hn hC;generalize uK l want aQ 1500 t=TA;rintro⟨i,t,cd,cs⟩ ⟨Z,hT,hU,hn,hC⟩;simp only at Z hT hU hn hC;obtain⟨m,step,aA,calls,full,cU,bad⟩:=t;refine(show aJ _ _ _ _ ⟨[(8,z i),(7,z aQ),(5,.ptr 30 0),(2,.ptr 0 0),(3,.ptr 1 0)],(0,bs l)::(1,nt want turns)::fq ⟨m,step,aA,calls,full,cU,bad⟩ n cd cs,[]⟩ from ?_);refine go ?_;generalize K:decide ((i:Int)<1500)=cc;cases cc
    ·have cK:=of_decide_eq_false K;rw[show 1500-i=0 by omega,uK] at hT;refine go ?_;exact⟨rfl,(_,cd,cs),⟨hT,hU.mono (by omega),hn,hC⟩,zX (R:=by exact⟨⟨rfl,rfl⟩,⟨rfl,rfl⟩,⟨rfl,lK (t:=⟨m,step,aA,calls,full,cU,bad⟩) hC _ _ rfl rfl rfl rfl rfl rfl⟩,⟨rfl,jF _ _ _⟩,⟨rfl,jA _ _ _⟩,⟨rfl,jG _ _ _⟩,⟨rfl,jC _ _ _⟩,⟨rfl,jo _ _ _⟩,⟨rfl,hC.pl _ _⟩,trivial⟩)⟩
    ·have cK:=of_decide_eq_true K;rw[show 1500-i=(1500-(i+1))+1 by omega,uK] at hT;simp only at hT;refine go ?_;cases bad
     ·rw[if_neg (by decide)] at hT;refine go ?_;refine gk (PP l hL yB want turns ⟨m,step,aA,calls,full,cU,false⟩ n (300+1500*aQ+i) N hn hw yL hU (by omega) hN aQ UV cd cs hC) rfl (λ a w=>call58 a w) rfl rfl (by exact ml hC rfl rfl rfl rfl rfl rfl rfl) (by(repeat(first|exact trivial|refine⟨.inr rfl,?_⟩|refine⟨.inl rfl,?_⟩))) rfl rfl rfl rfl ?_ ?_
      ·rintro d O ⟨rfl,ko,aO,kU,rfl⟩;exact⟨.inl rfl,.inl rfl,.inl rfl,.inl rfl,.inl rfl,.inl rfl,.inl rfl,trivial⟩
      rintro d O ⟨rfl,ko,aO,kU,rfl⟩;refine go ?_;exact⟨(i+1,mS l want ⟨m,step,aA,calls,full,cU,false⟩ aQ,ko,aO),⟨by simp only;omega,hT,PT hU hL.aA.1,by simp only;rw[PR];exact hn,kU⟩,by simp only;omega,zX (R:=by exact⟨⟨rfl,rfl⟩,⟨rfl,rfl⟩,⟨rfl,lK (t:=mS l want ⟨m,step,aA,calls,full,cU,false⟩ aQ) kU _ _ rfl rfl rfl rfl rfl rfl⟩,⟨rfl,jF _ _ _⟩,⟨rfl,jA _ _ _⟩,⟨rfl,jG _ _ _⟩,⟨rfl,jC _ _ _⟩,⟨rfl,jo _ _ _⟩,⟨rfl,kU.pl _ _⟩,trivial⟩)⟩
     ·rw[if_pos rfl] at hT;refine go ?_;exact⟨rfl,(_,cd,cs),⟨hT,hU.mono (by omega),hn,hC⟩,zX (R:=by exact⟨⟨rfl,rfl⟩,⟨rfl,rfl⟩,⟨rfl,lK (t:=⟨m,step,aA,calls,full,cU,true⟩) hC _ _ rfl rfl rfl rfl rfl rfl⟩,⟨rfl,jF _ _ _⟩,⟨rfl,jA _ _ _⟩,⟨rfl,jG _ _ _⟩,⟨rfl,jC _ _ _⟩,⟨rfl,jo _ _ _⟩,⟨rfl,hC.pl _ _⟩,trivial⟩)⟩
   clear hU hn hC;rintro bS ⟨t2,cd,cs⟩ ⟨o4,hU,hn,hC⟩ eA;refine zR (zM (da eA ?_));clear eA;simp only at o4 hU hn hC;rw[<-o4] at hT;clear o4;obtain⟨x,T⟩:∃x,t2.aA[aQ]?=some x:=⟨t2.aA[aQ]'(by omega),List.getElem?_eq_getElem _⟩;have Bn:Hm t2 want aQ=(decide (x.op.kind=0)&&decide (ws.length<=x.next)):=by unfold Hm;rw[T,yS]
   rw[Bn] at hT;have aaj:=(hU.Jn T).next;have iQ:=EQ t2.aA;have qL:=N3 T 0 (by omega);have wt:(iE t2.aA)[aQ]?=some (z x.next):=yd (f:=λ x=>z x.next) T;obtain⟨m,step,aA,calls,full,cU,bad⟩:=t2;simp only at T iQ qL wt hn hC;refine(show aJ _ _ _ _ ⟨[(7,z aQ),(5,.ptr 30 0),(2,.ptr 0 0),(3,.ptr 1 0)],(0,bs l)::(1,nt want turns)::fq ⟨m,step,aA,calls,full,cU,bad⟩ n cd cs,[]⟩ from ?_);cases bad
   ·by_cases J:x.op.kind=0
    ·refine gW 33 [] ?_;refine rj (aQ*4) 4 ?_;refine ba ?_;refine cD (kI aw rfl rfl rfl rfl rfl qL) rfl rfl ?_;refine ba ?_;rw[show decide (x.op.kind=0)=true by rw[decide_eq_true_eq];exact J];refine ba ?_;refine rj aQ 1 ?_;refine cD (kI aw rfl rfl rfl rfl rfl wt) rfl rfl ?_;refine ba ?_;refine ri [Cl ws] (Ca BR) ?_;refine qg ?_;rw[show decide (x.op.kind=0)=true by rw[decide_eq_true_eq];exact J,Bool.true_and,Bool.false_or,show(!decide (ws.length<=x.next))=decide ((x.next:Int)<ws.length) by rw[<-decide_not];exact decide_eq_decide.2 (by omega)] at hT;exact⟨(aQ+1,⟨m,step,aA,calls,full,cU,decide ((x.next:Int)<ws.length)⟩,cd,cs),⟨by simp only;omega,hT,PU hU,hn,hC⟩,by simp only;omega,zX (R:=by exact⟨⟨rfl,rfl⟩,⟨rfl,rfl⟩,⟨rfl,lK (t:=⟨m,step,aA,calls,full,cU,decide ((x.next:Int)<ws.length)⟩) hC _ _ rfl rfl rfl rfl rfl rfl⟩,⟨rfl,jF _ _ _⟩,⟨rfl,jA _ _ _⟩,⟨rfl,jG _ _ _⟩,⟨rfl,jC _ _ _⟩,⟨rfl,jo _ _ _⟩,⟨rfl,hC.pl _ _⟩,trivial⟩)⟩
    ·refine gW 33 [] ?_;refine rj (aQ*4) 4 ?_;refine ba ?_;refine cD (kI aw rfl rfl rfl rfl rfl qL) rfl rfl ?_;refine ba ?_;rw[show decide (x.op.kind=0)=false by rw[decide_eq_false_iff_not];exact J];refine qg ?_;rw[show decide (x.op.kind=0)=false by rw[decide_eq_false_iff_not];exact J,Bool.false_and,Bool.not_false,Bool.or_true] at hT;exact⟨(aQ+1,⟨m,step,aA,calls,full,cU,true⟩,cd,cs),⟨by simp only;omega,hT,PU hU,hn,hC⟩,by simp only;omega,zX (R:=by exact⟨⟨rfl,rfl⟩,⟨rfl,rfl⟩,⟨rfl,lK (t:=⟨m,step,aA,calls,full,cU,true⟩) hC _ _ rfl rfl rfl rfl rfl rfl⟩,⟨rfl,jF _ _ _⟩,⟨rfl,jA _ _ _⟩,⟨rfl,jG _ _ _⟩,⟨rfl,jC _ _ _⟩,⟨rfl,jo _ _ _⟩,⟨rfl,hC.pl _ _⟩,trivial⟩)⟩
   ·refine gW 33 [] ?_;refine go ?_;rw[Bool.true_or] at hT;exact⟨(aQ+1,⟨m,step,aA,calls,full,cU,true⟩,cd,cs),⟨by simp only;omega,hT,hU,hn,hC⟩,by simp only;omega,zX (R:=by exact⟨⟨rfl,rfl⟩,⟨rfl,rfl⟩,⟨rfl,lK (t:=⟨m,step,aA,calls,full,cU,true⟩) hC _ _ rfl rfl rfl rfl rfl rfl⟩,⟨rfl,jF _ _ _⟩,⟨rfl,jA _ _ _⟩,⟨rfl,jG _ _ _⟩,⟨rfl,jC _ _ _⟩,⟨rfl,jo _ _ _⟩,⟨rfl,hC.pl _ _⟩,trivial⟩)⟩
  ·have bd:=of_decide_eq_false D;rw[show n-aQ=0 by omega,Cj] at hT;refine go ?_;exact⟨rfl,(t,cd,cs),⟨hT,hC⟩,zX (R:=by exact⟨⟨rfl,rfl⟩,⟨rfl,rfl⟩,⟨rfl,lK (t:=t) hC _ _ rfl rfl rfl rfl rfl rfl⟩,⟨rfl,jF _ _ _⟩,⟨rfl,jA _ _ _⟩,⟨rfl,jG _ _ _⟩,⟨rfl,jC _ _ _⟩,⟨rfl,jo _ _ _⟩,⟨rfl,hC.pl _ _⟩,trivial⟩)⟩
 clear A hU hn hC;rintro bS ⟨t,cd,cs⟩ ⟨hT,hC⟩ eA;refine zR (zM (da eA ?_));clear eA;simp only at hT hC;subst hT;obtain⟨m,step,aA,calls,full,cU,bad⟩:=t;refine(show aJ _ _ _ _ ⟨[(5,.ptr 30 0),(2,.ptr 0 0),(3,.ptr 1 0)],(0,bs l)::(1,nt want turns)::fq ⟨m,step,aA,calls,full,cU,bad⟩ n cd cs,[]⟩ from ?_);rcases hC.at_ with⟨ho,rfl⟩|⟨c,rfl,cb,ez,ib,bY⟩
 ·simp only at ho;subst ho;refine da (nV 30 rfl rfl) ?_;refine go ?_;exact gU (xC ⟨m,step,aA,[],full,cU,bad⟩ n) rfl rfl (by exact PE rfl rfl rfl rfl rfl rfl) (by(repeat(first|exact trivial|refine⟨rfl,?_⟩))) ⟨rfl,rfl⟩
 ·refine da (La (vl:=[(5,.ptr 30 0)]) (n8:=[(31,ff aA),(32,jz aA),(33,jf aA),(34,iE aA),(35,jL aA)]) (pD:=[]) 30 7 36 (qc calls) rfl rfl rfl rfl rfl ⟨⟨rfl,rfl⟩,trivial⟩ (by exact⟨⟨rfl,rfl⟩,⟨rfl,jF _ _ _⟩,⟨rfl,jA _ _ _⟩,⟨rfl,jG _ _ _⟩,⟨rfl,jC _ _ _⟩,⟨rfl,jo _ _ _⟩,trivial⟩) trivial (by(repeat(first|exact trivial|refine⟨rfl,?_⟩))) rfl cb ez (N7 calls) bY ib (WX calls)) ?_;refine go ?_;exact gU (xC ⟨m,step,aA,calls,full,cU,bad⟩ n) rfl rfl (by exact PE rfl rfl rfl rfl rfl rfl) (by(repeat(first|exact trivial|refine⟨rfl,?_⟩))) ⟨rfl,rfl⟩
end Go.Proofs.YtcnefjfboagbmaaGreat
