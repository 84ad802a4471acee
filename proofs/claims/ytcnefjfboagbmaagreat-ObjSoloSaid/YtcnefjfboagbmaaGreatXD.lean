/- Free nodes, plays that are looked at, and their layouts: their walk. -/
import Derived.Test.YtcnefjfboagbmaaGreatWE
import Derived.Test.YtcnefjfboagbmaaGreatWA
import Derived.Test.YtcnefjfboagbmaaGreatPA
import Derived.Test.YtcnefjfboagbmaaGreatWC
import Derived.Test.YtcnefjfboagbmaaGreatXC
namespace Go.Proofs.YtcnefjfboagbmaaGreat
open Go.Proofs.Tryz
open Go.RowKit
set_option maxRecDepth 100000
def G8(o:bt):List Pl:=[pI o.kind,pI o.obj,pI o.a,pI o.b]
def RQ(l:List bt):List Pl:=l.flatMap G8
abbrev tT(l:List bt):Pl:=.sl false l.length (RQ l)
abbrev vS(l:List bt):G:=.p (tT l)
abbrev VB(w:List (List bt)):G:=.p (.sl false w.length (w.map tT))
abbrev p8(n:Int):Pl:=.raw (.int .u8 n)
abbrev VA(t:List Int):G:=.p (.sl false t.length (t.map p8))
set_option maxHeartbeats 4000000 in
theorem acI(l:ag)(Z:ca l)(m:List Int):aX prog 69 [dD l,jl m] (bq (uY l m)):=by
 generalize E:uY l m=aJ;unfold uY at E;obtain⟨lR,ib⟩:=Z.nodes;refine sP func69 ntmps69 λ w cl=>?_
 refine gA (NA m l.free) ?_;refine cA (acJ (bv m l.free)) ?_;refine go ?_;generalize(ay (bv m l.free)).idx=n0 at E;refine dO (kF 5 0 3 1 rfl rfl rfl) ?_;refine bW (λ p:Nat×List Int×Int=>p.1+p.2.1.length=l.nodes.toNat+1/\ko (λ n=>bv m (aE l n 7)) l.nodes p.1 p.2.1 p.2.2=aJ) (λ p=>⟨[(7,u p.2.2),(5,.aW 0 p.2.1.length (bb p.2.1)),(2,.ptr 0 0),(3,.ptr 1 0)],[(1,[bq m]),(0,cn l)],[(0,⟨3,1,p.2.1.length⟩)]⟩) (λ p=>p.1) (l.nodes.toNat+1,[],n0) ⟨by simp,E⟩ (zX) ?_;rintro⟨k,acc,n⟩ ⟨I,E⟩;simp only at I E;refine(show aK _ _ _ _ ⟨[(7,u n),(5,.aW 0 acc.length (bb acc)),(2,.ptr 0 0),(3,.ptr 1 0)],[(1,[bq m]),(0,cn l)],[(0,⟨3,1,acc.length⟩)]⟩ from ?_);refine go ?_;refine cN (λ A=>?_) (λ A=>?_)<;>try rw[A]
 ·have bs:=of_decide_eq_true A;obtain⟨k,rfl⟩:∃j,k=j+1:=⟨k-1,by omega⟩;rw[ko] at E;refine gA (QE acc n (by omega)) ?_;generalize K:decide (n<1)=cc;cases cc
  ·have dc:=of_decide_eq_false K;refine go ?_;generalize h4:decide (n>l.nodes)=cc;cases cc
   ·have oN:=of_decide_eq_false h4;refine go ?_;generalize h5:decide (n∈acc)=cc;cases cc
    ·rw[if_pos ⟨by omega,by omega,of_decide_eq_false h5⟩] at E;refine go ?_;refine pA rfl ?_;rw[ow,show acc.length+1=(acc++[n]).length by simp];refine go ?_;refine dQ [] ?_;refine gQ (vj l Z n 7 (by omega)) ?_;refine cQ (NA m (aE l n 7)) ?_;refine qg ?_;exact⟨(k,acc++[n],bv m (aE l n 7)),⟨by simp;omega,E⟩,by simp only;omega,zX⟩
    ·rw[if_neg (λ hh=>hh.2.2 (of_decide_eq_true h5))] at E;refine gf ?_;rw[<-E]
   ·have oN:=of_decide_eq_true h4;rw[if_neg (λ hh=>by omega)] at E;refine gf ?_;rw[<-E]
  ·have dc:=of_decide_eq_true K;rw[if_neg (λ hh=>by omega)] at E;refine gf ?_;rw[<-E]
 ·have bs:=of_decide_eq_false A;obtain rfl:k=0:=by omega
  rw[ko] at E;refine gf ?_;rw[<-E]
abbrev nc(want:List (List bt))(turns:List Int):List G:=[VB want,VA turns]
abbrev Ct(want:List (List bt))(turns:List Int):G:=.agg (nc want turns)
theorem wH{ar:Type}{f:ar->Pl}{l:List ar}{i:Int}{x:ar}(h:l[i.toNat]?=some x):∀(m:Nat) q,[f x][m]?=some q->(l.map f)[i.toNat*1+m]?=some q:=by
 intro m q hq;cases m with
 |zero=>simp at hq;subst hq;rw[Nat.mul_one,Nat.add_zero,List.getElem?_map,h];rfl
 |succ m=>simp at hq
theorem RE{l:List bt}{i:Int}{o:bt}(h:l[i.toNat]?=some o):∀(m:Nat) q,[pI o.kind,pI o.obj,pI o.a,pI o.b][m]?=some q->(RQ l)[i.toNat*4+m]?=some q:=Fl (f:=G8) (k:=4) (λ _=>rfl) h
def Af(x:ek):Nat:=x.gone.length+(if x.op.kind=0 then 0 else x.log.length)
theorem Ow{x:ek}:x.gone.length<=Af x:=Nat.le_add_right _ _
structure kI(k N:Nat)(t:dG):Prop where
 m:t.m.length=N
 log:∀x∈t.az,x.log.length<=k
 steps:∀x∈t.az,x.steps.length<=k
 next:∀x∈t.az,x.next<=k
 gone:∀x∈t.az,Af x<=k/\eu x.gone
 step:0<=t.step/\t.step<=k
 full:0<=t.full/\t.full<=k
 calls:t.calls.length<=k
theorem kI.mono{k j N:Nat}{t:dG}(h:kI k N t)(jU:k<=j):kI j N t:=
 ⟨h.m,λ x O=>Nat.le_trans (h.log x O) jU,λ x O=>Nat.le_trans (h.steps x O) jU,λ x O=>Nat.le_trans (h.next x O) jU,λ x O=>⟨Nat.le_trans (h.gone x O).1 jU,(h.gone x O).2⟩,⟨h.step.1,by have:=h.step.2;omega⟩,⟨h.full.1,by have:=h.full.2;omega⟩,Nat.le_trans h.calls jU⟩
structure H7(k:Nat)(x:ek):Prop where
 log:x.log.length<=k
 steps:x.steps.length<=k
 next:x.next<=k
 gone:Af x<=k/\eu x.gone
theorem kI.LZ{k N:Nat}{t:dG}(h:kI k N t){w:Nat}{x:ek}(O:t.az[w]?=some x):H7 k x:=
 ⟨h.log x (List.mem_of_getElem? O),h.steps x (List.mem_of_getElem? O),h.next x (List.mem_of_getElem? O),h.gone x (List.mem_of_getElem? O)⟩
theorem kI.set{k j N:Nat}{t kX:dG}(h:kI k N t)(jU:k<=j){w:Nat}{y:ek}(hy:H7 j y)(hs:kX.az=t.az.set w y)(hm:kX.m.length=t.m.length)(h1:0<=kX.step/\kX.step<=j)(A:0<=kX.full/\kX.full<=j)(K:kX.calls.length<=j):kI j N kX:=by
 have n5:∀z∈kX.az,z∈t.az\/z=y:=λ z hz=>List.mem_or_eq_of_mem_set (by rw[<-hs];exact hz)
 refine⟨hm.trans h.m,λ z hz=>?_,λ z hz=>?_,λ z hz=>?_,λ z hz=>?_,h1,A,K⟩
 ·rcases n5 z hz with hz|rfl
  ·exact Nat.le_trans (h.log z hz) jU
  ·exact hy.log
 ·rcases n5 z hz with hz|rfl
  ·exact Nat.le_trans (h.steps z hz) jU
  ·exact hy.steps
 ·rcases n5 z hz with hz|rfl
  ·exact Nat.le_trans (h.next z hz) jU
  ·exact hy.next
 ·rcases n5 z hz with hz|rfl
  ·exact⟨Nat.le_trans (h.gone z hz).1 jU,(h.gone z hz).2⟩
  ·exact hy.gone
theorem V7{k N:Nat}{t:dG}{w:Nat}{x:ek}{out:bf}(h:kI k N t)(O:x.log.length<=k+1/\x.steps.length<=k+1/\x.next<=k+1)(hg:out.gone.length<=k+1/\eu out.gone):kI (k+1) N (pz t w x out):=by
 have hy:H7 (k+1) {x with op:=jV,gone:=out.gone}:=⟨O.1,O.2.1,O.2.2,by show out.gone.length+0<=_;omega,hg.2⟩;have h1:=h.step;have A:=h.full;have K:=h.calls;unfold pz;simp only;split
 ·exact h.set (by omega) hy rfl rfl ⟨h1.1,by simp only;omega⟩ ⟨by simp only;omega,by simp only;omega⟩ (by simp only;omega)
 ·split
  ·exact h.set (by omega) hy rfl rfl ⟨h1.1,by simp only;omega⟩ ⟨A.1,by simp only;omega⟩ (by simp only;omega)
  ·exact h.set (by omega) hy rfl rfl ⟨h1.1,by simp only;omega⟩ ⟨A.1,by simp only;omega⟩ (by simp only[List.length_append,List.length_cons,List.length_nil];omega)
theorem Ro{k N:Nat}{l:ag}{t:dG}{w:Nat}{x:ek}(h:kI k N t)(h0:x.log.length<=k)(h1:x.steps.length<=k)(A:x.next<=k+1)(K:x.gone.length+x.log.length<=k/\eu x.gone)(hS:0<=l.az):kI (k+1) N (mu l t w x):=by
 have hs:=h.step;have hf:=h.full;have L:=h.calls;unfold mu;simp only;split
 ·rename_i F;have x2:=abd hS F K.2;exact V7 h ⟨by omega,by omega,A⟩ ⟨by omega,x2.1⟩
 ·split
  ·exact h.set (by omega) (y:={x with log:=x.log++[(gE t.m (oq l w x.gone x.op x.log).1).2],steps:=x.steps++[t.step]}) ⟨by simp;omega,by simp;omega,A,by unfold Af;simp only;split<;>simp<;>omega,K.2⟩ rfl (EC _ _) ⟨by simp only;omega,by simp only;omega⟩ ⟨hf.1,by simp only;omega⟩ (by simp only;omega)
  ·exact h.set (by omega) (y:={x with op:=jV}) ⟨by simp only;omega,by simp only;omega,A,by show x.gone.length+0<=_;omega,K.2⟩ rfl rfl ⟨hs.1,by simp only;omega⟩ ⟨hf.1,by simp only;omega⟩ (by simp only;omega)
theorem Tp{k N:Nat}{l:ag}{want:List (List bt)}{t:dG}{w:Nat}(h:kI k N t)(hS:0<=l.az):kI (k+1) N (kC l want t w):=by
 unfold kC;split
 ·rename_i x ws O hw;have T:=h.LZ O;split
  ·split
   ·exact h.mono (by omega)
   ·exact Ro h (by simp) (by simp) (by have:=T.next;simp only;omega) ⟨by have:=T.gone.1;have:=Ow (x:=x);simp only[List.length_nil];omega,T.gone.2⟩ hS
  ·rename_i I;exact Ro h T.log T.steps (by have:=T.next;omega) ⟨by have:=T.gone.1;rw[Af,if_neg I] at this;exact this,T.gone.2⟩ hS
 ·exact h.mono (by omega)
theorem VZ{t:dG}{w:Nat}{x:ek}{out:bf}:(pz t w x out).az.length=t.az.length:=by
 unfold pz;simp only;split
 ·simp
 ·split<;>simp
theorem Tn{l:ag}{want:List (List bt)}{t:dG}{w:Nat}:(kC l want t w).az.length=t.az.length:=by
 have hm:∀x,(mu l t w x).az.length=t.az.length:=λ x=>by
  unfold mu;simp only;split
  ·exact VZ
  ·split<;>simp
 unfold kC;split
 ·split
  ·split
   ·rfl
   ·exact hm _
  ·exact hm _
 ·rfl
abbrev fA(ss:List ek):List G:=ss.flatMap λ x=>rq x.op
abbrev j6(ss:List ek):List G:=ss.map λ x=>gH x.log
abbrev jH(ss:List ek):List G:=ss.map λ x=>bq x.steps
abbrev je(ss:List ek):List G:=ss.map λ x=>u x.next
abbrev kq(ss:List ek):List G:=ss.map λ x=>d7 x.gone
abbrev rt(c:fH):List Pl:=[pI c.aN,pI c.op.kind,pI c.op.obj,pI c.op.a,pI c.op.b,pI c.val,pB c.is,pI c.first,pI c.last,pI c.bS]
def mv(l:List fH):List Pl:=l.flatMap rt
abbrev xg(t:dG)(n:Nat)(cd:G):List G:=[bq t.m,u t.step,.arr 31 0 n n,.arr 32 0 n n,.arr 33 0 n n,.arr 34 0 n n,.arr 35 0 n n,cd,u t.full,dB t.cD,dB t.bad]
abbrev fG(t:dG)(n:Nat)(cd:G)(cs:List G):bE:=[(30,xg t n cd),(31,fA t.az),(32,j6 t.az),(33,jH t.az),(34,je t.az),(35,kq t.az),(36,cs)]
structure lp(calls:List fH)(cd:G)(cs:List G):Prop where
 pl:fu cs
 at_:(calls=[]/\cd=.p (.sl true 0 []))\/∃c,cd=.arr 36 0 calls.length c/\cs.length=c*10/\calls.length<=c/\c<=maxLen/\cs.take (calls.length*10)=(mv calls).map G.p
theorem RM(l:List fH):(mv l).length=l.length*10:=by
 induction l with
 |nil=>rfl
 |cons a l ih=>unfold mv at ih⊢;rw[List.flatMap_cons,List.length_append,ih];simp[rt];omega
theorem abv(l:List fH)(c:fH):mv l++rt c=mv (l++[c]):=by simp[mv]
theorem lp.ok{calls:List fH}{cd:G}{cs:List G}(h:lp calls cd cs)(B au:Nat->Bool)(hB:B 36=true):cd.ok B au=true:=by
 rcases h.at_ with⟨_,rfl⟩|⟨c,rfl,_⟩
 ·rfl
 ·exact hB
theorem Ha{f:ek->G}(hf:∀x B au,(f x).ok B au=true)(l:List ek):fu (l.map f):=by
 intro B au;induction l with
 |nil=>rfl
 |cons x l ih=>simp only[List.map_cons,G.ok.eA,hf,Bool.true_and];exact ih
theorem jB(l:List ek):fu (fA l):=by
 intro B au;induction l with
 |nil=>rfl
 |cons x l ih=>rw[fA,List.flatMap_cons];exact ih
theorem jz(l:List ek):fu (j6 l):=Ha (λ _ _ _=>rfl) l
theorem jI(l:List ek):fu (jH l):=Ha (λ _ _ _=>rfl) l
theorem jA(l:List ek):fu (je l):=Ha (λ _ _ _=>rfl) l
theorem jv(l:List ek):fu (kq l):=Ha (λ _ _ _=>rfl) l
theorem GZ(l:List ek):(fA l).length=l.length*4:=by
 induction l with
 |nil=>rfl
 |cons a l ih=>rw[fA,List.flatMap_cons,List.length_append];simp only[List.length_cons,List.length_nil];rw[show(List.flatMap (λ x:ek=>rq x.op) l).length=l.length*4 from ih];omega
theorem GY:∀{l:List ek}{i:Nat}{x:ek},l[i]?=some x->∃rest,(fA l).drop (i*4)=rq x.op++rest
 |[],i,x,h=>by simp at h
 |y::l,0,x,h=>by
  simp at h;subst h;exact⟨_,by rw[Nat.zero_mul,List.drop_zero,fA,List.flatMap_cons]⟩
 |y::l,i+1,x,h=>by
  obtain⟨r,hr⟩:=GY (l:=l) (i:=i) (x:=x) (by simpa using h);refine⟨r,?_⟩;rw[fA,List.flatMap_cons,show(i+1)*4=4+i*4 by omega,<-List.drop_drop];exact hr
theorem G3:∀{l:List ek}{i:Nat}(x:ek),i<l.length->stored (fA l) (i*4) (rq x.op)=fA (l.set i x)
 |[],i,x,h=>by simp at h
 |y::l,0,x,h=>by
  unfold stored;rw[List.set_cons_zero,fA,fA,List.flatMap_cons,List.flatMap_cons]
  rfl
 |y::l,i+1,x,h=>by
  have ih:=G3 (l:=l) (i:=i) x (by simpa using h);unfold stored at ih⊢;rw[List.set_cons_succ,fA,fA,List.flatMap_cons,List.flatMap_cons,<-fA,<-fA,<-ih,show(i+1)*4=(i*4)+4 by omega]
  rfl
theorem sD{ar:Type}{f:ek->ar}{l:List ek}{i:Nat}{x y:ek}(O:l[i]?=some x)(h:f y=f x):(l.set i y).map f=l.map f:=by
 rw[List.map_set,h];refine List.ext_getElem? λ j=>?_
 rw[List.getElem?_set];split
 ·rename_i hj;subst hj;rw[List.length_map,List.getElem?_map,O,if_pos (List.getElem?_eq_some_iff.1 O).1]
  rfl
 ·rfl
theorem abi{l:List ek}{i:Nat}{x y:ek}(O:l[i]?=some x)(h:y.op=x.op):fA (l.set i y)=fA l:=by have:=sD (f:=λ x:ek=>rq x.op) O (by rw[h]);rw[fA,fA,List.flatMap_def,List.flatMap_def,this]
theorem zp{f:ek->G}{l:List ek}{i:Nat}{x:ek}(O:l[i]?=some x):(l.map f)[i]?=some (f x):=by rw[List.getElem?_map,O];rfl
theorem Ck{f:ek->G}(hf:∀x,lF (f x)=f x){l:List ek}{i:Nat}{y:ek}{d:G}(F:lF d=f y):((l.map f).set i d).map lF=(l.set i y).map f:=by
 rw[List.map_set,List.map_map,List.map_set,F]
 congr 1
 exact List.map_congr_left λ x _=>hf x
theorem my{t:dG}{n:Nat}{cd:G}{cs:List G}{calls:List fH}(h:lp calls cd cs)(B au:Nat->Bool)(h1:B 31=true)(A:B 32=true)(K:B 33=true)(h4:B 34=true)(h5:B 35=true)(h6:B 36=true):G.ok.eA B au (xg t n cd)=true:=by have h7:=h.ok B au h6;simp only[G.ok.eA,G.ok,h1,A,K,h4,h5,h7,Bool.true_and]
theorem Zh{t:dG}{n:Nat}{cd:G}{cs zs:List G}{calls:List fH}(h:lp calls cd zs):G.ok.eA (aF (fG t n cd cs)) (λ _=>false) (xg t n cd)=true:=by
 have h1:=h.ok (aF (fG t n cd cs)) (λ _=>false) rfl;show(true&&(true&&(true&&(true&&(true&&(true&&(true&&(G.ok (aF (fG t n cd cs)) (λ _=>false) cd&&(true&&(true&&(true&&true)))))))))))=true;rw[h1]
 rfl
theorem nj{J:St}{t:dG}{n:Nat}{cd:G}{cs:List G}{calls:List fH}(h:lp calls cd cs)(h0:kv J.b 30=some (xg t n cd))(h1:kv J.b 31=some (fA t.az))(A:kv J.b 32=some (j6 t.az))(K:kv J.b 33=some (jH t.az))(h4:kv J.b 34=some (je t.az))(h5:kv J.b 35=some (kq t.az))(h6:kv J.b 36=some cs):js J (aF (fG t n cd cs)) (fG t n cd cs):=
 ⟨⟨h0,Zh h⟩,⟨h1,jB _ _ _⟩,⟨A,jz _ _ _⟩,⟨K,jI _ _ _⟩,⟨h4,jA _ _ _⟩,⟨h5,jv _ _ _⟩,⟨h6,h.pl _ _⟩,trivial⟩
theorem Uw(a:List Int)(v:Int):(a.any λ x=>decide (x=v))=decide (v∈a):=by
 rw[Bool.eq_iff_iff,List.any_eq_true,decide_eq_true_iff];constructor
 ·rintro⟨x,O,h⟩;have:=of_decide_eq_true h;subst this;exact O
 ·intro h;exact⟨v,h,decide_eq_true rfl⟩
theorem aad(l:ag)(m:List Int):(uY l m).length<=l.nodes.toNat+1:=by
 have:=Cn (nx:=λ n=>bv m (aE l n 7)) (N:=l.nodes) (l.nodes.toNat+1) [] (ay (bv m l.free)).idx
 simpa[uY] using this
set_option maxHeartbeats 8000000 in
theorem WA(l:ag)(Z:ca l)(t:dG)(n:Nat)(cd:G)(cs:List G)(hC:lp t.calls cd cs)(a:aT):
 eo prog 102 [30,31,32,33,34,35] [.ptr 30 0,dD l,fy a] (fG t n cd cs) (λ d U=>d=dB (uA l t.m a)/\U=fG t n cd cs):=by
 generalize E:uA l t.m a=aJ;unfold uA at E;rw[Uw] at E;obtain⟨afD,afE⟩:=Z.node;obtain⟨afM,Gh⟩:=Z.size;obtain⟨afB,afC⟩:=Z.nodes;have FW:=aad l t.m;refine sI func102 ntmps102 λ w cl own kf=>?_
 refine go ?_;generalize h1:decide (a.cell<l.node)=cc;cases cc
 ·have aP:=of_decide_eq_false h1;refine go ?_;generalize A:decide (a.cell>=l.size)=cc;cases cc
  ·have bs:=of_decide_eq_false A;refine Ag ?_;generalize K:decide ((a.cell-l.node)%8=7)=cc;cases cc
   ·have dc:=of_decide_eq_false K;rw[if_neg (by omega)] at E;refine go ?_;refine dW 13 [] ?_;refine gQ (acI l Z t.m) ?_;refine cV (LF rfl rfl rfl (by omega) (by omega) (by omega)) rfl rfl ?_;refine bh ?_;refine cA (QE (uY l t.m) ((a.cell-l.node)/8+1) (by omega)) ?_;refine go ?_;refine im (fG t n cd cs) rfl rfl (by exact nj hC rfl rfl rfl rfl rfl rfl rfl) (by(repeat(first|exact trivial|refine⟨rfl,?_⟩))) ⟨?_,rfl⟩;rw[<-E]
   ·have dc:=of_decide_eq_true K;rw[if_pos (by omega)] at E;refine go ?_;refine im (fG t n cd cs) rfl rfl (by exact nj hC rfl rfl rfl rfl rfl rfl rfl) (by(repeat(first|exact trivial|refine⟨rfl,?_⟩))) ⟨?_,rfl⟩;rw[<-E]
  ·have bs:=of_decide_eq_true A;rw[if_pos (by omega)] at E;refine go ?_;refine im (fG t n cd cs) rfl rfl (by exact nj hC rfl rfl rfl rfl rfl rfl rfl) (by(repeat(first|exact trivial|refine⟨rfl,?_⟩))) ⟨?_,rfl⟩;rw[<-E]
 ·have aP:=of_decide_eq_true h1;rw[if_pos (by omega)] at E;refine go ?_;refine im (fG t n cd cs) rfl rfl (by exact nj hC rfl rfl rfl rfl rfl rfl rfl) (by(repeat(first|exact trivial|refine⟨rfl,?_⟩))) ⟨?_,rfl⟩;rw[<-E]
set_option maxHeartbeats 8000000 in
theorem VY(t:dG)(n:Nat)(aN:Nat)(x:ek)(out:bf)(hn:t.az.length=n)(_:n<=8)(O:t.az[aN]?=some x)(jx:x.steps.length<=100000)(hf:0<=t.full/\t.full<=100000)(dT:t.calls.length<=100000)(cd:G)(cs:List G)(hC:lp t.calls cd cs):
 eo prog 101 [30,31,32,33,34,35] [.ptr 30 0,u aN,jQ out] (fG t n cd cs) (λ d U=>d=.bg []/\∃la aO,lp (pz t aN x out).calls la aO/\U=fG (pz t aN x out) n la aO):=by
 have Kv:aN<n:=by rw[<-hn];exact(List.getElem?_eq_some_iff.1 O).1
 obtain⟨rest,Dy⟩:=GY O;have iQ:=GZ t.az;obtain⟨m,step,az,calls,full,cD,bad⟩:=t;simp only at hn O hf dT hC Dy iQ;have hy:=G3 (l:=az) (i:=aN) {x with op:=jV,gone:=out.gone} (by omega);have hz:((kq az).set aN (d7 out.gone)).map lF=kq (az.set aN {x with op:=jV,gone:=out.gone}):=Ck (f:=λ x=>d7 x.gone) (λ _=>rfl) rfl;have e1:j6 (az.set aN {x with op:=jV,gone:=out.gone})=j6 az:=sD O rfl;have e2:jH (az.set aN {x with op:=jV,gone:=out.gone})=jH az:=sD O rfl;have e3:je (az.set aN {x with op:=jV,gone:=out.gone})=je az:=sD O rfl;generalize hS:az.set aN {x with op:=jV,gone:=out.gone}=S at hy hz e1 e2 e3;have yq:(jH az)[aN]?=some (bq x.steps):=zp (f:=λ x=>bq x.steps) O;show eo prog 101 [30,31,32,33,34,35] [.ptr 30 0,u aN,jQ out] [(30,[bq m,u step,.arr 31 0 n n,.arr 32 0 n n,.arr 33 0 n n,.arr 34 0 n n,.arr 35 0 n n,cd,u full,dB cD,dB bad]),(31,fA az),(32,j6 az),(33,jH az),(34,je az),(35,kq az),(36,cs)] _;refine sI func101 ntmps101 λ w cl own kf=>?_
 refine go ?_;refine gW 14 [] ?_;refine rj (aN*4) 4 ?_;refine cV (mq aB (rq x.op) rest rfl rfl rfl rfl rfl (by show _<=(fA az).length;omega) Dy rfl) rfl rfl ?_;refine qg ?_;refine aj (aN*4) 4 ?_;refine Ij aB (fA S) rfl rfl rfl rfl rfl rfl rfl rfl rfl (by rw[iQ];show aN*4+4<=_;omega) hy ?_;refine go ?_;refine gW 7 [] ?_;refine go ?_;refine aj aN 1 ?_;refine rL aB rfl rfl rfl rfl rfl rfl rfl rfl rfl (by show aN<(kq az).length;rw[List.length_map];omega) ?_;refine oL (qC 35 rfl hz) ?_;refine go ?_;refine aj aN 1 ?_;refine bn (mo aB rfl rfl rfl rfl rfl yq) rfl rfl rfl ?_;refine go ?_;have qV:pz ⟨m,step,az,calls,full,cD,bad⟩ aN x out=if out.err=8 then⟨m,step,S,calls,full+1,cD,bad⟩ else if out.err≠0\/x.steps.length=0 then⟨m,step,S,calls,full,cD,true⟩ else⟨m,step,S,calls++[⟨aN,x.op,out.val,out.is,x.steps.getD 0 0,x.steps.getD (x.steps.length-1) 0,if 0<=out.bS/\out.bS<x.steps.length then x.steps.getD out.bS.toNat 0 else-1⟩],full,cD,bad⟩:=by unfold pz;simp only;rw[hS]
 have hB:∀(Ae:Int)(zj:Bool)(zo:List fH)(la:G)(aO:List G),fG ⟨m,step,S,zo,Ae,cD,zj⟩ n la aO=[(30,xg ⟨m,step,S,zo,Ae,cD,zj⟩ n la),(31,fA S),(32,j6 az),(33,jH az),(34,je az),(35,kq S),(36,aO)]:=λ Ae zj zo la aO=>by
  show[(30,_),(31,fA S),(32,j6 S),(33,jH S),(34,je S),(35,kq S),(36,aO)]=_;rw[e1,e2,e3]
 generalize pz ⟨m,step,az,calls,full,cD,bad⟩ aN x out=ae at qV;generalize h1:decide (out.err=8)=cc;cases cc
 ·have aP:=of_decide_eq_false h1;rw[if_neg aP] at qV;refine go ?_;generalize A:decide (out.err=0)=cc;cases cc
  ·have bs:=of_decide_eq_false A;rw[if_pos (.inl bs)] at qV;subst qV;refine go ?_;refine im (fG ⟨m,step,S,calls,full,cD,true⟩ n cd cs) rfl rfl (by refine nj hC rfl rfl ?_ ?_ ?_ rfl rfl<;>simp only[e1,e2,e3]<;>rfl) (by(repeat(first|exact trivial|refine⟨rfl,?_⟩))) ⟨rfl,cd,cs,hC,rfl⟩
  ·have bs:=of_decide_eq_true A;refine go ?_;generalize K:decide ((x.steps.length:Int)=0)=cc;cases cc
   ·have dc:=of_decide_eq_false K;rw[if_neg (by omega)] at qV;have oY:x.steps[((0:Int)).toNat]?=some (x.steps.getD 0 0):=by
     rw[show((0:Int)).toNat=0 from rfl,List.getD_eq_getElem?_getD,List.getElem?_eq_getElem (by omega)];rfl
    have e8:x.steps[((x.steps.length:Int)-1).toNat]?=some (x.steps.getD (x.steps.length-1) 0):=by rw[show((x.steps.length:Int)-1).toNat=x.steps.length-1 by omega,List.getD_eq_getElem?_getD,List.getElem?_eq_getElem (by omega)];rfl
    generalize pH:(if 0<=out.bS/\out.bS<x.steps.length then x.steps.getD out.bS.toNat 0 else-1)=pt at qV;refine go ?_;refine aj aN 1 ?_;refine bn (mo aB rfl rfl rfl rfl rfl yq) rfl rfl rfl ?_;refine ai [pI (x.steps.getD 0 0)] (gk oY) ?_;refine go ?_;refine aj aN 1 ?_;refine bn (mo aB rfl rfl rfl rfl rfl yq) rfl rfl rfl ?_;refine hZ ?_;refine ai [pI (x.steps.getD (x.steps.length-1) 0)] (gk e8) ?_;refine hZ ?_;refine nf ?_;refine EQ ⟨[(0,.ptr 30 0),(6,.ptr 8 0)],[(8,[u aN,u x.op.kind,u x.op.obj,u x.op.a,u x.op.b,u out.val,dB out.is,u (x.steps.getD 0 0),u (x.steps.getD (x.steps.length-1) 0),u pt]),(30,[bq m,u step,.arr 31 0 n n,.arr 32 0 n n,.arr 33 0 n n,.arr 34 0 n n,.arr 35 0 n n,cd,u full,dB cD,dB bad]),(31,fA S),(32,j6 az),(33,jH az),(34,je az),(35,kq S),(36,cs)],[]⟩ ?_ ?_
    ·refine go ?_;generalize h4:decide (out.bS>=0)=cc;cases cc
     ·have oN:=of_decide_eq_false h4;rw[if_neg (by omega)] at pH;subst pH;refine go ?_;exact⟨rfl,zX (T:=by exact⟨⟨rfl,rfl⟩,⟨rfl,my (t:=⟨m,step,S,calls,full,cD,bad⟩) hC _ _ rfl rfl rfl rfl rfl rfl⟩,⟨rfl,jB _ _ _⟩,⟨rfl,jz _ _ _⟩,⟨rfl,jI _ _ _⟩,⟨rfl,jA _ _ _⟩,⟨rfl,jv _ _ _⟩,⟨rfl,hC.pl _ _⟩,trivial⟩)⟩
     ·have oN:=of_decide_eq_true h4;refine go ?_;generalize h5:decide (out.bS<x.steps.length)=cc;cases cc
      ·have Al:=of_decide_eq_false h5;rw[if_neg (by omega)] at pH;subst pH;refine go ?_;exact⟨rfl,zX (T:=by exact⟨⟨rfl,rfl⟩,⟨rfl,my (t:=⟨m,step,S,calls,full,cD,bad⟩) hC _ _ rfl rfl rfl rfl rfl rfl⟩,⟨rfl,jB _ _ _⟩,⟨rfl,jz _ _ _⟩,⟨rfl,jI _ _ _⟩,⟨rfl,jA _ _ _⟩,⟨rfl,jv _ _ _⟩,⟨rfl,hC.pl _ _⟩,trivial⟩)⟩
      ·have Al:=of_decide_eq_true h5;rw[if_pos ⟨by omega,Al⟩] at pH;have iv:x.steps[out.bS.toNat]?=some pt:=by
        rw[<-pH,List.getD_eq_getElem?_getD,List.getElem?_eq_getElem (by omega)];rfl
       refine go ?_;refine gW 9 [] ?_;refine rj aN 1 ?_;refine bh ?_;refine cV (mo aB rfl rfl rfl rfl rfl yq) rfl rfl ?_;refine bh ?_;refine ai [pI pt] (gk iv) ?_;refine go ?_;exact⟨rfl,zX (T:=by exact⟨⟨rfl,rfl⟩,⟨rfl,my (t:=⟨m,step,S,calls,full,cD,bad⟩) hC _ _ rfl rfl rfl rfl rfl rfl⟩,⟨rfl,jB _ _ _⟩,⟨rfl,jz _ _ _⟩,⟨rfl,jI _ _ _⟩,⟨rfl,jA _ _ _⟩,⟨rfl,jv _ _ _⟩,⟨rfl,hC.pl _ _⟩,trivial⟩)⟩
    generalize FI:(⟨aN,x.op,out.val,out.is,x.steps.getD 0 0,x.steps.getD (x.steps.length-1) 0,pt⟩:fH)=cc at qV;have hB:∀(Ae:Int)(zj:Bool)(zo:List fH)(la:G)(aO:List G),fG ⟨m,step,S,zo,Ae,cD,zj⟩ n la aO=[(30,xg ⟨m,step,S,zo,Ae,cD,zj⟩ n la),(31,fA S),(32,j6 az),(33,jH az),(34,je az),(35,kq S),(36,aO)]:=hB;subst qV;rcases hC.at_ with⟨rfl,rfl⟩|⟨c,rfl,bR,eE,io,bY⟩
    ·subst FI;refine Is rfl ?_
     repeat' (first|refine tA 0 ?_|refine tA 1 ?_|refine tA 2 ?_|refine tA 3 ?_|refine oA 4 ?_|refine oA 5 ?_|refine oA 6 ?_|refine oA 7 ?_|refine oA 8 ?_|refine oA 9 ?_|refine oA 10 ?_|refine oB 4 5 ?_ ?_|refine oB 4 6 ?_ ?_|(refine dA ?_;have lO:lp ([]++[(⟨aN,x.op,out.val,out.is,x.steps.getD 0 0,x.steps.getD (x.steps.length-1) 0,pt⟩:fH)]) (.arr 36 0 1 bw) aO:=⟨k5,.inr ⟨bw,rfl,k1,k3,k2,by show aO.take (1*10)=_;rw[k4];rfl⟩⟩;refine jR (fG ⟨m,step,S,[]++[(⟨aN,x.op,out.val,out.is,x.steps.getD 0 0,x.steps.getD (x.steps.length-1) 0,pt⟩:fH)],full,cD,bad⟩ n _ aO) rfl rfl (by refine nj lO rfl rfl ?_ ?_ ?_ rfl rfl<;>simp only[e1,e2,e3]<;>rfl) (by(repeat(first|exact trivial|refine⟨rfl,?_⟩))) ⟨rfl,_,aO,lO,rfl⟩)|(refine If (sz:=10) aB 36 rfl rfl rfl rfl rfl rfl rfl rfl rfl rfl rfl rfl rfl (E7 rfl (xB rfl rfl (xB rfl rfl (sZ rfl (jB _) (sZ rfl (jz _) (sZ rfl (jI _) (sZ rfl (jA _) (sZ rfl (jv _) (E5 rfl rfl))))))))) (by omega) rfl (by unfold maxLen;omega) (by show 1*80<=_;omega) (λ aO bw k1 k2 k3 k4 k5=>?_);refine nx ?_)|((first|refine z2 ?_|refine z7 ?_|refine z5 ?_);refine nx ?_))
    ·subst FI;refine Is rfl ?_
     repeat' (first|refine tA 0 ?_|refine tA 1 ?_|refine tA 2 ?_|refine tA 3 ?_|refine oA 4 ?_|refine oA 5 ?_|refine oA 6 ?_|refine oA 7 ?_|refine oA 8 ?_|refine oA 9 ?_|refine oA 10 ?_|refine oB 4 5 ?_ ?_|refine oB 4 6 ?_ ?_|(refine dA ?_;have lO:lp (calls++[(⟨aN,x.op,out.val,out.is,x.steps.getD 0 0,x.steps.getD (x.steps.length-1) 0,pt⟩:fH)]) (.arr 36 0 (calls.length+1) bw) aO:=⟨k5,.inr ⟨bw,by rw[List.length_append];rfl,k1,by rw[List.length_append];exact k3,k2,by rw[List.length_append,<-abv];exact k4⟩⟩;refine jR (fG ⟨m,step,S,calls++[(⟨aN,x.op,out.val,out.is,x.steps.getD 0 0,x.steps.getD (x.steps.length-1) 0,pt⟩:fH)],full,cD,bad⟩ n _ aO) rfl rfl (by refine nj lO rfl rfl ?_ ?_ ?_ rfl rfl<;>simp only[e1,e2,e3]<;>rfl) (by(repeat(first|exact trivial|refine⟨rfl,?_⟩))) ⟨rfl,_,aO,lO,rfl⟩)|(refine Ig (sz:=10) aB (mv calls) rfl rfl rfl rfl rfl rfl rfl rfl rfl rfl rfl rfl rfl rfl (E7 rfl (xB rfl rfl (xB rfl rfl (sZ rfl (jB _) (sZ rfl (jz _) (sZ rfl (jI _) (sZ rfl (jA _) (sZ rfl (jv _) (E5 rfl rfl))))))))) bR eE (RM calls) bY io (by omega) rfl (by unfold maxLen;omega) (by show(_+1)*80<=_;omega) (λ aO bw k1 k2 k3 k4 k5=>?_);refine nx ?_)|((first|refine z2 ?_|refine z7 ?_|refine z5 ?_);refine nx ?_))
   ·have dc:=of_decide_eq_true K;rw[if_pos (.inr (by omega))] at qV;subst qV;refine go ?_;refine im (fG ⟨m,step,S,calls,full,cD,true⟩ n cd cs) rfl rfl (by refine nj hC rfl rfl ?_ ?_ ?_ rfl rfl<;>simp only[e1,e2,e3]<;>rfl) (by(repeat(first|exact trivial|refine⟨rfl,?_⟩))) ⟨rfl,cd,cs,hC,rfl⟩
 ·have aP:=of_decide_eq_true h1;rw[if_pos aP] at qV;subst qV;refine go ?_;refine im (fG ⟨m,step,S,calls,full+1,cD,bad⟩ n cd cs) rfl rfl (by refine nj hC rfl rfl ?_ ?_ ?_ rfl rfl<;>simp only[e1,e2,e3]<;>rfl) (by(repeat(first|exact trivial|refine⟨rfl,?_⟩))) ⟨rfl,cd,cs,hC,rfl⟩
theorem RD{l:List ek}{i:Nat}{x:ek}(h:l[i]?=some x)(j:Nat)(hj:j<4):(fA l)[i*4+j]?=(rq x.op)[j]?:=by
 obtain⟨rest,hr⟩:=GY h;have:((fA l).drop (i*4))[j]?=(rq x.op)[j]?:=by rw[hr,List.getElem?_append_left (by simpa using hj)]
 rwa [List.getElem?_drop] at this
theorem SE{ar:Type}:∀{l:List ar}{i:Nat}{x:ar},l[i]?=some x->l.set i x=l
 |[],_,_,_=>rfl
 |a::l,0,x,h=>by cases h;rfl
 |a::l,i+1,x,h=>by rw[List.set_cons_succ,SE (by simpa using h)]
theorem abB(l:List aD):(gM l).length=l.length*2:=by
 induction l with
 |nil=>rfl
 |cons a l ih=>unfold gM at ih⊢;rw[List.flatMap_cons,List.length_append,ih];simp[yO];omega
theorem V6{t:dG}{aN:Nat}{x:ek}(y:ek){out:bf}:pz {t with az:=t.az.set aN y} aN x out=pz t aN x out:=by unfold pz;simp only[List.set_set]
theorem aaE{l:ag}{t:dG}{aN:Nat}{x:ek}(y:ek):mu l {t with az:=t.az.set aN y} aN x=mu l t aN x:=by unfold mu;simp only[List.set_set,V6]
set_option maxHeartbeats 16000000 in
theorem Tk(l:ag)(Z:ca l)(At:kh l)(want:List (List bt))(turns:List Int)(t:dG)(n k N:Nat)(hn:t.az.length=n)(hw:want.length=n)(AE:n<=8)(hU:kI k N t)(I:k<=5000)(hN:N<=1000000)(aN:Nat)(Kv:aN<n)(cd:G)(cs:List G)(hC:lp t.calls cd cs):
 eo prog 58 [30,31,32,33,34,35] [.ptr 30 0,dD l,Ct want turns,u aN] (fG t n cd cs) (λ d U=>d=.bg []/\∃la aO,lp (kC l want t aN).calls la aO/\U=fG (kC l want t aN) n la aO):=by
 obtain⟨x,O⟩:∃x,t.az[aN]?=some x:=⟨t.az[aN]'(by omega),List.getElem?_eq_getElem _⟩;obtain⟨ws,AN⟩:∃ws,want[aN]?=some ws:=⟨want[aN],List.getElem?_eq_getElem (by omega)⟩;have DC:want[(aN:Int).toNat]?=some ws:=by simpa using AN
 have uM:=hU.LZ O;have hm:=hU.m;have dg:=hU.step;have sg:=hU.full;have XC:=hU.calls;have tM:=uM.next;obtain⟨m,step,az,calls,full,cD,bad⟩:=t;simp only at hn O hm dg sg XC hC;have CN:kC l want ⟨m,step,az,calls,full,cD,bad⟩ aN=if x.op.kind=0 then(match ws[x.next]? with|none=>⟨m,step,az,calls,full,cD,bad⟩|some op=>mu l ⟨m,step,az,calls,full,cD,bad⟩ aN ⟨op,[],[],x.next+1,x.gone⟩) else mu l ⟨m,step,az,calls,full,cD,bad⟩ aN x:=by
  unfold kC;simp only[O,AN]
  rfl
 have iQ:=GZ az;have si:=RD O 0 (by omega);have yg:(je az)[aN]?=some (u x.next):=zp (f:=λ x=>u x.next) O;have YU:(x.op.kind=0/\ws.length<=x.next)\/∃x1,((x.op.kind≠0/\x1=x)\/(x.op.kind=0/\∃op,ws[x.next]?=some op/\x1=⟨op,[],[],x.next+1,x.gone⟩)):=by
  by_cases h:x.op.kind=0
  ·by_cases A:ws.length<=x.next
   ·exact .inl ⟨h,A⟩
   ·exact .inr ⟨_,.inr ⟨h,ws[x.next],List.getElem?_eq_getElem (by omega),rfl⟩⟩
  ·exact .inr ⟨x,.inl ⟨h,rfl⟩⟩
 show eo prog 58 [30,31,32,33,34,35] [.ptr 30 0,dD l,Ct want turns,u aN] [(30,[bq m,u step,.arr 31 0 n n,.arr 32 0 n n,.arr 33 0 n n,.arr 34 0 n n,.arr 35 0 n n,cd,u full,dB cD,dB bad]),(31,fA az),(32,j6 az),(33,jH az),(34,je az),(35,kq az),(36,cs)] _;refine sI func58 ntmps58 λ w cl own kf=>?_
 rcases YU with⟨h1,A⟩|⟨x1,bO⟩
 ·rw[if_pos h1,List.getElem?_eq_none A] at CN;simp only at CN;refine go ?_;refine aj (aN*4) 4 ?_;refine hZ ?_;refine bn (mo aB rfl rfl rfl rfl rfl si) rfl rfl rfl ?_;refine go ?_;rw[show decide (x.op.kind=0)=true by rw[decide_eq_true_eq];exact h1];refine go ?_;refine gW 13 [] ?_;refine rj aN 1 ?_;refine cV (mo aB rfl rfl rfl rfl rfl yg) rfl rfl ?_;refine bh ?_;refine ri [tT ws] (wH DC) ?_;refine qg ?_;rw[show decide ((x.next:Int)>=ws.length)=true by rw[decide_eq_true_eq];omega];refine go ?_;refine im (fG ⟨m,step,az,calls,full,cD,bad⟩ n cd cs) rfl rfl (by exact nj hC rfl rfl rfl rfl rfl rfl rfl) (by(repeat(first|exact trivial|refine⟨rfl,?_⟩))) ⟨rfl,cd,cs,?_,?_⟩
  ·rw[CN];exact hC
  ·rw[CN]
 ·have mc:kC l want ⟨m,step,az,calls,full,cD,bad⟩ aN=mu l ⟨m,step,az.set aN x1,calls,full,cD,bad⟩ aN x1:=by
   rw[show mu l ⟨m,step,az.set aN x1,calls,full,cD,bad⟩ aN x1=mu l ⟨m,step,az,calls,full,cD,bad⟩ aN x1 from aaE (t:=⟨m,step,az,calls,full,cD,bad⟩) x1,CN];rcases bO with⟨h1,rfl⟩|⟨h1,op,A,rfl⟩
   ·rw[if_neg h1]
   ·rw[if_pos h1,A]
  have qq:x1.log.length<=k/\x1.steps.length<=k/\x1.next<=k+1/\x1.gone.length+x1.log.length<=k/\eu x1.gone:=by
   rcases bO with⟨h1,rfl⟩|⟨_,op,_,rfl⟩
   ·exact⟨uM.log,uM.steps,by have:=uM.next;omega,by have:=uM.gone.1;rw[Af,if_neg h1] at this;exact this,uM.gone.2⟩
   ·exact⟨by simp,by simp,by have:=uM.next;simp only;omega,by have:=uM.gone.1;have:=Ow (x:=x);simp only[List.length_nil];omega,uM.gone.2⟩
  have qo:(az.set aN x1)[aN]?=some x1:=by rw[List.getElem?_set_self (by omega)]
  have OU:(az.set aN x1).length=n:=by rw[List.length_set];exact hn
  generalize qn:az.set aN x1=S1 at mc qo OU;obtain⟨xV,O4,i7,afc,Xv⟩:=qq;refine qa ?_;refine vL ?_;refine hZ ?_;refine nf ?_;refine EQ ⟨[(0,.ptr 30 0),(3,u aN),(5,.ptr 7 0),(6,.ptr 8 0)],[(7,cn l),(8,nc want turns),(30,[bq m,u step,.arr 31 0 n n,.arr 32 0 n n,.arr 33 0 n n,.arr 34 0 n n,.arr 35 0 n n,cd,u full,dB cD,dB bad]),(31,fA S1),(32,j6 S1),(33,jH S1),(34,je S1),(35,kq S1),(36,cs)],[]⟩ ?_ ?_
  ·rcases bO with⟨h1,rfl⟩|⟨h1,op,iD,rfl⟩
   ·rw[SE O] at qn;subst qn;refine go ?_;refine aj (aN*4) 4 ?_;refine hZ ?_;refine bn (mo aB rfl rfl rfl rfl rfl si) rfl rfl rfl ?_;refine go ?_;rw[show decide (x1.op.kind=0)=false by rw[decide_eq_false_iff_not];exact h1];refine go ?_;exact⟨rfl,zX (T:=by exact⟨⟨rfl,rfl⟩,⟨rfl,rfl⟩,⟨rfl,my (t:=⟨m,step,[],calls,full,cD,bad⟩) hC _ _ rfl rfl rfl rfl rfl rfl⟩,⟨rfl,jB _ _ _⟩,⟨rfl,jz _ _ _⟩,⟨rfl,jI _ _ _⟩,⟨rfl,jA _ _ _⟩,⟨rfl,jv _ _ _⟩,⟨rfl,hC.pl _ _⟩,trivial⟩)⟩
   ·have YR:ws[(x.next:Int).toNat]?=some op:=by simpa using iD
    have nF:x.next<ws.length:=(List.getElem?_eq_some_iff.1 iD).1;have Dz:=G3 (l:=az) (i:=aN) ⟨op,[],[],x.next+1,x.gone⟩ (by omega);have jx:((j6 az).set aN (.p (.sl true 0 []))).map lF=j6 (az.set aN ⟨op,[],[],x.next+1,x.gone⟩):=Ck (f:=λ x=>gH x.log) (λ _=>rfl) rfl;have uO:((jH az).set aN (.p (.sl true 0 []))).map lF=jH (az.set aN ⟨op,[],[],x.next+1,x.gone⟩):=Ck (f:=λ x=>bq x.steps) (λ _=>rfl) rfl;have gX:(je az).set aN (u ((x.next:Int)+1))=je (az.set aN ⟨op,[],[],x.next+1,x.gone⟩):=by rw[je,je,List.map_set];congr 1
    have yq:kq (az.set aN ⟨op,[],[],x.next+1,x.gone⟩)=kq az:=sD O rfl;rw[qn] at Dz jx uO gX yq;refine go ?_;refine aj (aN*4) 4 ?_;refine hZ ?_;refine bn (mo aB rfl rfl rfl rfl rfl si) rfl rfl rfl ?_;refine go ?_;rw[show decide (x.op.kind=0)=true by rw[decide_eq_true_eq];exact h1];refine go ?_;refine gW 13 [] ?_;refine rj aN 1 ?_;refine cV (mo aB rfl rfl rfl rfl rfl yg) rfl rfl ?_;refine bh ?_;refine ri [tT ws] (wH DC) ?_;refine qg ?_;rw[show decide ((x.next:Int)>=ws.length)=false by rw[decide_eq_false_iff_not];omega];refine go ?_;refine gW 19 [] ?_;refine ri [tT ws] (wH DC) ?_;refine bh ?_;refine rj aN 1 ?_;refine cV (mo aB rfl rfl rfl rfl rfl yg) rfl rfl ?_;refine bh ?_;refine ri [pI op.kind,pI op.obj,pI op.a,pI op.b] (RE YR) ?_;refine qg ?_;refine aj (aN*4) 4 ?_;refine Ij aB (fA S1) rfl rfl rfl rfl rfl rfl rfl rfl rfl (by rw[iQ];show aN*4+4<=_;omega) Dz ?_;refine go ?_;refine aj aN 1 ?_;refine bn (mo aB rfl rfl rfl rfl rfl yg) rfl rfl rfl ?_;refine go ?_;refine aj aN 1 ?_;refine rL aB rfl rfl rfl rfl rfl rfl rfl rfl rfl (by show aN<(je az).length;rw[List.length_map];omega) ?_;rw[gX];refine go ?_;refine aj aN 1 ?_;refine rL aB rfl rfl rfl rfl rfl rfl rfl rfl rfl (by show aN<(j6 az).length;rw[List.length_map];omega) ?_;refine oL (qC 32 rfl jx) ?_;refine go ?_;refine aj aN 1 ?_;refine rL aB rfl rfl rfl rfl rfl rfl rfl rfl rfl (by show aN<(jH az).length;rw[List.length_map];omega) ?_;refine oL (qC 33 rfl uO) ?_;rw[<-yq];refine go ?_
    exact⟨rfl,zX (T:=by exact⟨⟨rfl,rfl⟩,⟨rfl,rfl⟩,⟨rfl,my (t:=⟨m,step,[],calls,full,cD,bad⟩) hC _ _ rfl rfl rfl rfl rfl rfl⟩,⟨rfl,jB _ _ _⟩,⟨rfl,jz _ _ _⟩,⟨rfl,jI _ _ _⟩,⟨rfl,jA _ _ _⟩,⟨rfl,jv _ _ _⟩,⟨rfl,hC.pl _ _⟩,trivial⟩)⟩
  have YQ:=GZ S1;obtain⟨acT,jc⟩:=GY qo;have ip:(kq S1)[aN]?=some (d7 x1.gone):=zp (f:=λ x=>d7 x.gone) qo;have ia:(j6 S1)[aN]?=some (gH x1.log):=zp (f:=λ x=>gH x.log) qo;have e8:(jH S1)[aN]?=some (bq x1.steps):=zp (f:=λ x=>bq x.steps) qo;have Jo:=RB l Z Z.az.1 At aN (by omega) x1.gone x1.op x1.log Xv (by omega) (by omega);unfold mu at mc;simp only at mc;generalize oq l aN x1.gone x1.op x1.log=r at Jo mc;obtain⟨a,out,dn⟩:=r;dsimp only[rT] at Jo;simp only at mc;refine go ?_;refine gW 32 [] ?_;refine rj aN 1 ?_;refine cV (mo aB rfl rfl rfl rfl rfl ip) rfl rfl ?_;refine bh ?_;refine rj (aN*4) 4 ?_;refine cV (mq aB (rq x1.op) acT rfl rfl rfl rfl rfl (by show _<=(fA S1).length;omega) jc rfl) rfl rfl ?_;refine bh ?_;refine rj aN 1 ?_;refine cV (mo aB rfl rfl rfl rfl rfl ia) rfl rfl ?_;refine gQ Jo ?_;refine go ?_;cases dn
  ·simp only[Bool.false_eq_true,↓reduceIte] at mc;have hM:=aax m a (by omega);have mV:=EC m a;generalize j3:(cD||uA l m a)=wi at mc;refine Co ?_;refine ES ?_;refine nf ?_;refine EQ ⟨[(0,.ptr 30 0),(3,u aN),(8,.ptr 9 0)],[(7,cn l),(8,nc want turns),(9,[u a.kind,u a.cell,u a.fz,u a.new]),(30,[bq m,u step,.arr 31 0 n n,.arr 32 0 n n,.arr 33 0 n n,.arr 34 0 n n,.arr 35 0 n n,cd,u full,dB wi,dB bad]),(31,fA S1),(32,j6 S1),(33,jH S1),(34,je S1),(35,kq S1),(36,cs)],[]⟩ ?_ ?_
   ·cases cD
    ·refine go ?_;refine hJ (WA l Z ⟨m,step,S1,calls,full,false,bad⟩ n cd cs hC a) rfl (λ a w=>call102 a w) rfl rfl (by exact nj hC rfl rfl rfl rfl rfl rfl rfl) (by(repeat(first|exact trivial|refine⟨.inr rfl,?_⟩|refine⟨.inl rfl,?_⟩))) rfl rfl rfl rfl ?_ ?_
     ·rintro d U ⟨rfl,rfl⟩;exact⟨.inl rfl,.inl rfl,.inl rfl,.inl rfl,.inl rfl,.inl rfl,.inl rfl,trivial⟩
     rintro d U ⟨rfl,rfl⟩;rw[Bool.false_or] at j3;rw[show uA l (dG.m ⟨m,step,S1,calls,full,false,bad⟩) a=wi from j3];refine go ?_;exact⟨rfl,zX (T:=by exact⟨⟨rfl,rfl⟩,⟨rfl,rfl⟩,⟨rfl,rfl⟩,⟨rfl,my (t:=⟨m,step,[],calls,full,wi,bad⟩) hC _ _ rfl rfl rfl rfl rfl rfl⟩,⟨rfl,jB _ _ _⟩,⟨rfl,jz _ _ _⟩,⟨rfl,jI _ _ _⟩,⟨rfl,jA _ _ _⟩,⟨rfl,jv _ _ _⟩,⟨rfl,hC.pl _ _⟩,trivial⟩)⟩
    ·rw[Bool.true_or] at j3;subst j3;refine go ?_;exact⟨rfl,zX (T:=by exact⟨⟨rfl,rfl⟩,⟨rfl,rfl⟩,⟨rfl,rfl⟩,⟨rfl,my (t:=⟨m,step,[],calls,full,true,bad⟩) hC _ _ rfl rfl rfl rfl rfl rfl⟩,⟨rfl,jB _ _ _⟩,⟨rfl,jz _ _ _⟩,⟨rfl,jI _ _ _⟩,⟨rfl,jA _ _ _⟩,⟨rfl,jv _ _ _⟩,⟨rfl,hC.pl _ _⟩,trivial⟩)⟩
   ·refine go ?_;unfold Bb at hM
    by_cases hf:lM m.length a=0
    ·rw[if_pos hf] at hM mc;generalize gE m a=adX at hM mc mV;obtain⟨m1,rs⟩:=adX;dsimp only at hM mc mV;refine dW 14 [] ?_;refine gQ hM ?_;refine go ?_;rw[show decide ((0:Int)=0)=true from rfl];refine go ?_;refine gW 17 [] ?_;refine rj aN 1 ?_;refine cV (mo aB rfl rfl rfl rfl rfl ia) rfl rfl ?_;refine bh ?_;refine Hh (cU:=0) (m:=x1.log.length) (ps:=[]) (qs:=gM x1.log) aB 0 rfl rfl rfl rfl rfl rfl rfl rfl rfl rfl rfl rfl rfl (abB x1.log) (by unfold maxLen;omega) (by show(_+_)*16<=_;omega) ?_;rw[show 0+x1.log.length=x1.log.length from Nat.zero_add _,List.nil_append];refine bh ?_;refine vg (m:=1) (qs:=yO rs) aB rfl rfl rfl rfl rfl rfl rfl rfl rfl rfl rfl rfl rfl (by unfold maxLen;omega) (by show(_+_)*16<=_;omega) ?_;rw[show gM x1.log++yO rs=gM (x1.log++[rs]) by simp[gM],show x1.log.length+1=(x1.log++[rs]).length by simp];refine qg ?_;refine aj aN 1 ?_;refine rL aB rfl rfl rfl rfl rfl rfl rfl rfl rfl (by show aN<(j6 S1).length;rw[List.length_map];omega) ?_;have PW:((j6 S1).set aN (.aW 0 (x1.log++[rs]).length (gM (x1.log++[rs])))).map lF=j6 (S1.set aN {x1 with log:=x1.log++[rs],steps:=x1.steps++[step]}):=Ck (f:=λ x=>gH x.log) (λ _=>rfl) rfl;have bQ:((jH S1).set aN (.aW 1 (x1.steps++[step]).length (bb (x1.steps++[step])))).map lF=jH (S1.set aN {x1 with log:=x1.log++[rs],steps:=x1.steps++[step]}):=Ck (f:=λ x=>bq x.steps) (λ _=>rfl) rfl;have e1:fA (S1.set aN {x1 with log:=x1.log++[rs],steps:=x1.steps++[step]})=fA S1:=abi qo rfl
     have e2:je (S1.set aN {x1 with log:=x1.log++[rs],steps:=x1.steps++[step]})=je S1:=sD qo rfl;have e3:kq (S1.set aN {x1 with log:=x1.log++[rs],steps:=x1.steps++[step]})=kq S1:=sD qo rfl;generalize S1.set aN {x1 with log:=x1.log++[rs],steps:=x1.steps++[step]}=S2 at mc PW bQ e1 e2 e3;refine oL (qC 32 rfl PW) ?_;refine go ?_;refine gW 20 [] ?_;refine rj aN 1 ?_;refine cV (mo aB rfl rfl rfl rfl rfl e8) rfl rfl ?_;refine bh ?_;refine Hh (cU:=0) (m:=x1.steps.length) (ps:=[]) (qs:=bb x1.steps) aB 1 rfl rfl rfl rfl rfl rfl rfl rfl rfl rfl rfl rfl rfl (by rw[sF];exact(Nat.mul_one _).symm) (by unfold maxLen;omega) (by show(_+_)*8<=_;omega) ?_;rw[show 0+x1.steps.length=x1.steps.length from Nat.zero_add _,List.nil_append];refine bh ?_;refine vg (m:=1) (qs:=[pI step]) aB rfl rfl rfl rfl rfl rfl rfl rfl rfl rfl rfl rfl rfl (by unfold maxLen;omega) (by show(_+_)*8<=_;omega) ?_;rw[ow,show x1.steps.length+1=(x1.steps++[step]).length by simp];refine qg ?_;refine aj aN 1 ?_;refine rL aB rfl rfl rfl rfl rfl rfl rfl rfl rfl (by show aN<(jH S1).length;rw[List.length_map];omega) ?_;refine oL (qC 33 rfl bQ) ?_;refine go ?_;refine jR (fG ⟨m1,step+1,S2,calls,full,wi,bad⟩ n cd cs) rfl rfl (by refine nj hC rfl ?_ rfl rfl ?_ ?_ rfl<;>(try simp only[e1,e2,e3])<;>rfl) (by(repeat(first|exact trivial|refine⟨rfl,?_⟩))) ⟨rfl,cd,cs,?_,?_⟩
     ·rw[mc];exact hC
     ·rw[mc]
    ·rw[if_neg hf] at hM mc;refine dW 14 [] ?_;refine gQ hM ?_;refine go ?_;rw[show decide (lM m.length a=0)=false by rw[decide_eq_false_iff_not];exact hf];refine go ?_;refine aj (aN*4) 4 ?_;have Ql:=G3 (l:=S1) (i:=aN) {x1 with op:=jV} (by omega);have e1:j6 (S1.set aN {x1 with op:=jV})=j6 S1:=sD qo rfl;have e2:jH (S1.set aN {x1 with op:=jV})=jH S1:=sD qo rfl;have e3:je (S1.set aN {x1 with op:=jV})=je S1:=sD qo rfl;have e4:kq (S1.set aN {x1 with op:=jV})=kq S1:=sD qo rfl;generalize S1.set aN {x1 with op:=jV}=S2 at mc Ql e1 e2 e3 e4;refine Ij aB (fA S2) rfl rfl rfl rfl rfl rfl rfl rfl rfl (by rw[YQ];show aN*4+4<=_;omega) Ql ?_;refine go ?_;refine im (fG ⟨m,step,S2,calls,full,wi,true⟩ n cd cs) rfl rfl (by refine nj hC rfl rfl ?_ ?_ ?_ ?_ rfl<;>(try simp only[e1,e2,e3,e4])<;>rfl) (by(repeat(first|exact trivial|refine⟨rfl,?_⟩))) ⟨rfl,cd,cs,?_,?_⟩
     ·rw[mc];exact hC
     ·rw[mc]
  ·simp only[↓reduceIte] at mc;refine IB ?_;refine go ?_;refine hJ (VY ⟨m,step,S1,calls,full,cD,bad⟩ n aN x1 out OU AE qo (by omega) ⟨sg.1,by show full<=100000;omega⟩ (by show calls.length<=100000;omega) cd cs hC) rfl (λ a w=>call101 a w) rfl rfl (by exact nj hC rfl rfl rfl rfl rfl rfl rfl) (by(repeat(first|exact trivial|refine⟨.inr rfl,?_⟩|refine⟨.inl rfl,?_⟩))) rfl rfl rfl rfl ?_ ?_
   ·rintro d U ⟨rfl,la,aO,lO,rfl⟩;exact⟨.inl rfl,.inl rfl,.inl rfl,.inl rfl,.inl rfl,.inl rfl,.inl rfl,trivial⟩
   rintro d U ⟨rfl,la,aO,lO,rfl⟩;refine go ?_;rw[<-mc] at lO⊢;refine im (fG (kC l want ⟨m,step,az,calls,full,cD,bad⟩ aN) n la aO) rfl rfl (by exact nj lO rfl rfl rfl rfl rfl rfl rfl) (by(repeat(first|exact trivial|refine⟨rfl,?_⟩))) ⟨rfl,la,aO,lO,rfl⟩
theorem acP(n:Nat)(ds:List G)(f:ek->List G)(h:f qy=ds):(List.replicate n ds).flatten=(List.replicate n qy).flatMap f:=by rw[List.flatMap_def,List.map_replicate,h]
theorem Hp(n:Nat)(d:G):(List.replicate n [d]).flatten=List.replicate n d:=by
 induction n with
 |zero=>rfl
 |succ n ih=>rw[List.replicate_succ,List.flatten_cons,ih];rfl
theorem LJ(n:Nat)(d:G)(f:ek->G)(h:lF d=f qy):(List.replicate n d).map lF=(List.replicate n qy).map f:=by rw[List.map_replicate,List.map_replicate,h]
theorem acQ(n:Nat)(d:G)(f:ek->G)(h:d=f qy):List.replicate n d=(List.replicate n qy).map f:=by rw[List.map_replicate,h]
structure BY(l:ag):Prop where
 ok:ca l
 m:kh l
 b:1<=l.buckets
 maps:0<=l.maps/\l.maps<=8
 bo:0<=l.bo/\l.bo<=8
 nodes:l.nodes<=20000
 size:0<=l.size/\l.size<=20000
 adM:H9 l.size.toNat (nJ l)
theorem aa7(l:ag)(h:BY l):(nJ l).length<=100000:=by
 have h1:=Ky l l.maps.toNat;have A:=Kx l l.bo.toNat;have K:=h.maps;have h4:=h.bo;have h5:(po l (l.maps+l.bo+1).toNat).length<=20002:=by
  have:=h.nodes;have:=h.size;unfold po;split
  ·simp
  ·unfold yz;rw[List.length_append,AT];simp;omega
 rw[Lg];simp only[List.length_append,List.length_cons,List.length_nil];omega
set_option maxHeartbeats 8000000 in
theorem adT(l:ag)(hO:BY l)(n:Nat)(AE:n<=8):
 eo prog 57 [] [dD l,u n] [] (λ d U=>d=.ptr 30 0/\∃cs,lp [] (.p (.sl true 0 [])) cs/\U=fG (oo l n) n (.p (.sl true 0 [])) cs):=by
 have Z:=hO.ok;have At:=hO.m;have bQ:((l.size.toNat:Nat):Int)=l.size:=by have:=hO.size;omega
 have afN:l.size.toNat<=20000:=by have:=hO.size;omega
 have lT:=aay l.size.toNat (by omega);rw[bQ] at lT;have mN:=aa7 l hO;have cT:=acA (List.replicate l.size.toNat 0) (nJ l) (by rw[List.length_replicate];exact hO.adM) (by rw[List.length_replicate];omega) mN;have PK:=acK l Z At hO.b hO.maps hO.bo;have hm:(pk (List.replicate l.size.toNat 0) (List.replicate l.size.toNat 0) [] (nJ l)).1=rn l:=rfl;rw[hm] at cT;have Xy:oo l n=⟨rn (l),0,List.replicate n qy,[],0,false,false⟩:=rfl;rw[Xy];have xM:∀m:List Int,lp [] (.p (.sl true 0 [])) [bq m]:=λ m=>⟨λ _ _=>rfl,.inl ⟨rfl,rfl⟩⟩
 generalize(pk (List.replicate l.size.toNat 0) (List.replicate l.size.toNat 0) [] (nJ l)).2=tl at cT;obtain⟨mz,er⟩:=tl;simp only at cT;generalize rn l=m0 at cT;generalize nJ l=aex at cT PK mN;clear hO;refine sI func57 ntmps57 λ w cl own kf=>?_
 refine go ?_;refine dW 13 [] ?_;refine gQ lT ?_;refine cQ PK ?_;refine bh ?_;refine cQ cT ?_;refine Eb aB rfl rfl rfl ?_;refine Eb aB rfl rfl rfl ?_;refine Eb aB rfl rfl rfl ?_;refine Eb aB rfl rfl rfl ?_;refine rB (vF aB 36 rfl rfl rfl rfl) rfl rfl rfl rfl ?_;refine qg ?_;refine gW 11 [] ?_;refine rB (DW aB 31 (fA (List.replicate n qy)) rfl rfl rfl rfl rfl rfl rfl rfl rfl (by show _*32<=_;omega) (by unfold maxLen;omega) (acP n _ (λ x=>rq x.op) rfl)) rfl rfl rfl rfl ?_;refine bh ?_;refine rB (DW aB 32 (List.replicate n (.p (.sl true 0 []))) rfl rfl rfl rfl rfl rfl rfl rfl rfl (by show _*24<=_;omega) (by unfold maxLen;omega) (Hp n _)) rfl rfl rfl rfl ?_;refine bh ?_;refine rB (DW aB 33 (List.replicate n (.p (.sl true 0 []))) rfl rfl rfl rfl rfl rfl rfl rfl rfl (by show _*24<=_;omega) (by unfold maxLen;omega) (Hp n _)) rfl rfl rfl rfl ?_;refine bh ?_;refine rB (DW aB 34 (je (List.replicate n qy)) rfl rfl rfl rfl rfl rfl rfl rfl rfl (by show _*8<=_;omega) (by unfold maxLen;omega) ((Hp n _).trans (acQ n _ (λ x=>u x.next) rfl))) rfl rfl rfl rfl ?_;refine bh ?_;refine rB (DW aB 35 (List.replicate n (.p (.sl true 0 []))) rfl rfl rfl rfl rfl rfl rfl rfl rfl (by show _*24<=_;omega) (by unfold maxLen;omega) (Hp n _)) rfl rfl rfl rfl ?_;refine bh ?_;refine oL (qC 32 rfl (LJ n _ (λ x=>gH x.log) rfl)) ?_;refine oL (qC 33 rfl (LJ n _ (λ x=>bq x.steps) rfl)) ?_;refine oL (qC 35 rfl (LJ n _ (λ x=>d7 x.gone) rfl)) ?_;refine bn (zn aB rfl rfl rfl) rfl rfl rfl ?_;refine bA 30 ?_;refine go ?_
 refine im (fG ⟨m0,0,List.replicate n qy,[],0,false,false⟩ n (.p (.sl true 0 [])) [bq m0]) rfl rfl (by exact nj (xM m0) rfl rfl rfl rfl rfl rfl rfl) (by(repeat(first|exact trivial|refine⟨rfl,?_⟩))) ⟨rfl,_,xM m0,rfl⟩
theorem UY(l:ag)(n:Nat):kI 0 (rn l).length (oo l n):=by
 have hs:∀x∈(oo l n).az,x=qy:=λ x O=>by
  have fD:x∈List.replicate n qy:=O;exact(List.mem_replicate.1 fD).2
 refine⟨rfl,λ x O=>?_,λ x O=>?_,λ x O=>?_,λ x O=>?_,⟨Int.le_refl _,Int.le_refl _⟩,⟨Int.le_refl _,Int.le_refl _⟩,Nat.le_refl _⟩
 all_goals rw[hs x O]
 ·exact Nat.le_refl _
 ·exact Nat.le_refl _
 ·exact Nat.le_refl _
 ·exact⟨Nat.le_refl _,λ p hp=>by cases hp⟩
abbrev s8(l:List fH):G:=.p (.sl false l.length (mv l))
theorem abw(l:List fH):∀x∈mv l,x.lf=true:=by intro x O;unfold mv at O;rw[List.mem_flatMap] at O;obtain⟨c,_,L⟩:=O;simp only[List.mem_cons,List.not_mem_nil,or_false] at L;rcases L with rfl|rfl|rfl|rfl|rfl|rfl|rfl|rfl|rfl|rfl<;>rfl
abbrev qJ(t:dG)(n:Nat):bE:=[(30,xg t n (s8 t.calls)),(31,fA t.az),(32,j6 t.az),(33,jH t.az),(34,je t.az),(35,kq t.az)]
theorem Tb{J:St}{t:dG}{n:Nat}(h0:kv J.b 30=some (xg t n (s8 t.calls)))(h1:kv J.b 31=some (fA t.az))(A:kv J.b 32=some (j6 t.az))(K:kv J.b 33=some (jH t.az))(h4:kv J.b 34=some (je t.az))(h5:kv J.b 35=some (kq t.az)):js J (aF (qJ t n)) (qJ t n):=
 ⟨⟨h0,rfl⟩,⟨h1,jB _ _ _⟩,⟨A,jz _ _ _⟩,⟨K,jI _ _ _⟩,⟨h4,jA _ _ _⟩,⟨h5,jv _ _ _⟩,trivial⟩
theorem drop_cons{ar:Type}{l:List ar}{i:Nat}{x:ar}(h:l[i]?=some x):l.drop i=x::l.drop (i+1):=by obtain⟨h1,A⟩:=List.getElem?_eq_some_iff.1 h;rw[List.drop_eq_getElem_cons h1,A]
theorem ad4{l:ag}{want:List (List bt)}{t:dG}{turns:List Int}{i:Nat}{x:Int}(h:turns[i]?=some x)(f:Int->Nat):wP l want t ((turns.drop i).map f)=wP l want (kC l want t (f x)) ((turns.drop (i+1)).map f):=by rw[drop_cons h,List.map_cons,wP]
theorem Tq{k N:Nat}{t:dG}{b:Bool}(h:kI k N t):kI k N {t with bad:=b}:=⟨h.m,h.log,h.steps,h.next,h.gone,h.step,h.full,h.calls⟩
set_option maxHeartbeats 16000000 in
theorem R0(l:ag)(hO:BY l)(want:List (List bt))(turns:List Int)(aeZ:1<=want.length)(ae2:want.length<=3)(afP:turns.length<=300)(Zg:∀x∈turns,0<=x/\x<256)(Zt:∀w∈want,w.length<=1000):
 eo prog 21 [] [dD l,Ct want turns] [] (λ d U=>d=.ptr 30 0/\U=qJ (tR l want turns) want.length):=by
 have Z:=hO.ok;have At:=hO.m;have hB:=adT l hO want.length (by omega);have OX:=UY l want.length;have bQ:(rn l).length<=1000000:=by rw[aa5];have:=hO.size;omega
 have i7:(oo l want.length).az.length=want.length:=by simp[oo]
 generalize E:tR l want turns=aJ;unfold tR at E;have tv:(oo l want.length).calls=[]:=rfl;generalize oo l want.length=T0 at*;generalize(rn l).length=N at*;clear hO;generalize hn:want.length=n at*;have hw:=hn;have AE:n<=8:=by omega
 have hN:=bQ;have Jg:eo prog 57 [] [dD l,u (want.length:Nat)] [] (λ d U=>d=.ptr 30 0/\∃cs,lp [] (.p (.sl true 0 [])) cs/\U=fG T0 n (.p (.sl true 0 [])) cs):=by rw[hw];exact hB
 refine sI func21 ntmps21 λ w cl own kf=>?_
 refine go ?_;refine cI Jg ?_;rintro d U ⟨rfl,mH,xM,rfl⟩;refine go ?_;refine ET (dM:=dG×G×List G) (.exit 0) (λ p=>⟨[(5,.ptr 30 0),(2,.ptr 0 0),(3,.ptr 1 0)],(0,cn l)::(1,nc want turns)::fG p.1 n p.2.1 p.2.2,[]⟩) (λ p=>p.1=wP l want T0 (turns.map λ x=>(x%(n:Int)).toNat)/\kI 300 N p.1/\p.1.az.length=n/\lp p.1.calls p.2.1 p.2.2) ?_ ?_
 ·refine bW (λ p:Nat×dG×G×List G=>p.1<=turns.length/\wP l want p.2.1 ((turns.drop p.1).map λ x=>(x%(n:Int)).toNat)=wP l want T0 (turns.map λ x=>(x%(n:Int)).toNat)/\kI p.1 N p.2.1/\p.2.1.az.length=n/\lp p.2.1.calls p.2.2.1 p.2.2.2) (λ p=>⟨[(6,u p.1),(5,.ptr 30 0),(2,.ptr 0 0),(3,.ptr 1 0)],(0,cn l)::(1,nc want turns)::fG p.2.1 n p.2.2.1 p.2.2.2,[]⟩) (λ p=>turns.length-p.1) (0,T0,.p (.sl true 0 []),mH) ⟨Nat.zero_le _,rfl,OX,i7,by simp only;rw[tv];exact xM⟩ (zX (T:=by exact⟨⟨rfl,rfl⟩,⟨rfl,rfl⟩,⟨rfl,my (t:=T0) xM _ _ rfl rfl rfl rfl rfl rfl⟩,⟨rfl,jB _ _ _⟩,⟨rfl,jz _ _ _⟩,⟨rfl,jI _ _ _⟩,⟨rfl,jA _ _ _⟩,⟨rfl,jv _ _ _⟩,⟨rfl,xM.pl _ _⟩,trivial⟩)) ?_;rintro⟨i,t,cd,cs⟩ ⟨X,hT,hU,hn,hC⟩;simp only at X hT hU hn hC;refine(show aK _ _ _ _ ⟨[(6,u i),(5,.ptr 30 0),(2,.ptr 0 0),(3,.ptr 1 0)],(0,cn l)::(1,nc want turns)::fG t n cd cs,[]⟩ from ?_);refine go ?_;refine cN (λ h1=>?_) (λ h1=>?_)<;>try rw[h1]
  ·have aP:=of_decide_eq_true h1;obtain⟨x,O⟩:=l8 (l:=turns) (i:=i) (by omega) aP;have fD:=O;simp only[Int.toNat_natCast] at fD;have afR:=Zg x (List.mem_of_getElem? fD);have afx:0<=x%(want.length:Int)/\x%(want.length:Int)<want.length:=⟨Int.emod_nonneg _ (by omega),Int.emod_lt_of_pos _ (by omega)⟩;rw[ad4 fD (λ x=>(x%(n:Int)).toNat),<-hw] at hT;obtain⟨aN,Gp⟩:∃w:Nat,(w:Int)=x%(want.length:Int):=⟨(x%(want.length:Int)).toNat,by omega⟩;rw[<-Gp,Int.toNat_natCast,hw] at hT;refine go ?_;refine gW 13 [] ?_;refine ri [p8 x] (wH (f:=p8) O) ?_;refine bh ?_;rw[show IntKind.i64.wrap x=x from eI (by omega) (by omega)];refine cV (Ho rfl rfl rfl (by omega) (by omega)) rfl rfl ?_;rw[<-Gp];refine qg ?_;refine hJ (Tk l Z At want turns t n (i) N hn hw AE hU (by omega) hN aN (by omega) cd cs hC) rfl (λ a w=>call58 a w) rfl rfl (by exact nj hC rfl rfl rfl rfl rfl rfl rfl) (by(repeat(first|exact trivial|refine⟨.inr rfl,?_⟩|refine⟨.inl rfl,?_⟩))) rfl rfl rfl rfl ?_ ?_
   ·rintro d U ⟨rfl,la,aO,lO,rfl⟩;exact⟨.inl rfl,.inl rfl,.inl rfl,.inl rfl,.inl rfl,.inl rfl,.inl rfl,trivial⟩
   rintro d U ⟨rfl,la,aO,lO,rfl⟩;refine go ?_;exact⟨(i+1,kC l want t aN,la,aO),⟨by simp only;omega,hT,Tp hU Z.az.1,by simp only;rw[Tn];exact hn,lO⟩,by simp only;omega,zX (T:=by exact⟨⟨rfl,rfl⟩,⟨rfl,rfl⟩,⟨rfl,my (t:=kC l want t aN) lO _ _ rfl rfl rfl rfl rfl rfl⟩,⟨rfl,jB _ _ _⟩,⟨rfl,jz _ _ _⟩,⟨rfl,jI _ _ _⟩,⟨rfl,jA _ _ _⟩,⟨rfl,jv _ _ _⟩,⟨rfl,lO.pl _ _⟩,trivial⟩)⟩
  ·have aP:=of_decide_eq_false h1;rw[List.drop_of_length_le (by omega)] at hT;refine go ?_;exact⟨rfl,(t,cd,cs),⟨hT,hU.mono (by omega),hn,hC⟩,zX (T:=by exact⟨⟨rfl,rfl⟩,⟨rfl,rfl⟩,⟨rfl,my (t:=t) hC _ _ rfl rfl rfl rfl rfl rfl⟩,⟨rfl,jB _ _ _⟩,⟨rfl,jz _ _ _⟩,⟨rfl,jI _ _ _⟩,⟨rfl,jA _ _ _⟩,⟨rfl,jv _ _ _⟩,⟨rfl,hC.pl _ _⟩,trivial⟩)⟩
 rintro bU ⟨t,cd,cs⟩ ⟨hT,hU,hn,hC⟩ eQ;refine zR (zM (dO eQ ?_));clear eQ;simp only at hT hU hn hC;rw[<-hT] at E;clear hT OX i7 tv xM;refine(show aK _ _ _ _ ⟨[(5,.ptr 30 0),(2,.ptr 0 0),(3,.ptr 1 0)],(0,cn l)::(1,nc want turns)::fG t n cd cs,[]⟩ from ?_);refine go ?_;refine ET (dM:=dG×G×List G) (.exit 2) (λ p=>⟨[(5,.ptr 30 0),(2,.ptr 0 0),(3,.ptr 1 0)],(0,cn l)::(1,nc want turns)::fG p.1 n p.2.1 p.2.2,[]⟩) (λ p=>p.1=aJ/\lp p.1.calls p.2.1 p.2.2) ?_ ?_
 ·refine bW (λ p:Nat×dG×G×List G=>p.1<=n/\D7 l want p.1 (n-p.1) p.2.1=aJ/\kI (300+1500*p.1) N p.2.1/\p.2.1.az.length=n/\lp p.2.1.calls p.2.2.1 p.2.2.2) (λ p=>⟨[(7,u p.1),(5,.ptr 30 0),(2,.ptr 0 0),(3,.ptr 1 0)],(0,cn l)::(1,nc want turns)::fG p.2.1 n p.2.2.1 p.2.2.2,[]⟩) (λ p=>n-p.1) (0,t,cd,cs) ⟨Nat.zero_le _,E,hU,hn,hC⟩ (zX (T:=by exact⟨⟨rfl,rfl⟩,⟨rfl,rfl⟩,⟨rfl,my (t:=t) hC _ _ rfl rfl rfl rfl rfl rfl⟩,⟨rfl,jB _ _ _⟩,⟨rfl,jz _ _ _⟩,⟨rfl,jI _ _ _⟩,⟨rfl,jA _ _ _⟩,⟨rfl,jv _ _ _⟩,⟨rfl,hC.pl _ _⟩,trivial⟩)) ?_;clear E hU hn hC;rintro⟨aN,t,cd,cs⟩ ⟨Kv,hT,hU,hn,hC⟩;simp only at Kv hT hU hn hC;refine(show aK _ _ _ _ ⟨[(7,u aN),(5,.ptr 30 0),(2,.ptr 0 0),(3,.ptr 1 0)],(0,cn l)::(1,nc want turns)::fG t n cd cs,[]⟩ from ?_);refine go ?_;refine cN (λ A=>?_) (λ A=>?_)<;>try rw[A]
  ·have bs:=of_decide_eq_true A;have Zu:aN<n:=by omega
   obtain⟨ws,AN⟩:∃ws,want[aN]?=some ws:=⟨want[aN],List.getElem?_eq_getElem (by omega)⟩;have DC:want[(aN:Int).toNat]?=some ws:=by simpa using AN
   have afQ:=Zt ws (List.mem_of_getElem? AN);rw[show n-aN=(n-(aN+1))+1 by omega,D7] at hT;refine go ?_;refine ET (dM:=dG×G×List G) (.exit 4) (λ p=>⟨[(7,u aN),(5,.ptr 30 0),(2,.ptr 0 0),(3,.ptr 1 0)],(0,cn l)::(1,nc want turns)::fG p.1 n p.2.1 p.2.2,[]⟩) (λ p=>p.1=iy l want aN 1500 t/\kI (300+1500*(aN+1)) N p.1/\p.1.az.length=n/\lp p.1.calls p.2.1 p.2.2) ?_ ?_
   ·refine bW (λ p:Nat×dG×G×List G=>p.1<=1500/\iy l want aN (1500-p.1) p.2.1=iy l want aN 1500 t/\kI (300+1500*aN+p.1) N p.2.1/\p.2.1.az.length=n/\lp p.2.1.calls p.2.2.1 p.2.2.2) (λ p=>⟨[(8,u p.1),(7,u aN),(5,.ptr 30 0),(2,.ptr 0 0),(3,.ptr 1 0)],(0,cn l)::(1,nc want turns)::fG p.2.1 n p.2.2.1 p.2.2.2,[]⟩) (λ p=>1500-p.1) (0,t,cd,cs) ⟨Nat.zero_le _,rfl,hU,hn,hC⟩ (zX (T:=by exact⟨⟨rfl,rfl⟩,⟨rfl,rfl⟩,⟨rfl,my (t:=t) hC _ _ rfl rfl rfl rfl rfl rfl⟩,⟨rfl,jB _ _ _⟩,⟨rfl,jz _ _ _⟩,⟨rfl,jI _ _ _⟩,⟨rfl,jA _ _ _⟩,⟨rfl,jv _ _ _⟩,⟨rfl,hC.pl _ _⟩,trivial⟩)) ?_;clear hT hU hn hC;generalize iy l want aN 1500 t=aeG;rintro⟨i,t,cd,cs⟩ ⟨X,hT,hU,hn,hC⟩;simp only at X hT hU hn hC;obtain⟨m,step,az,calls,full,cD,bad⟩:=t;refine(show aK _ _ _ _ ⟨[(8,u i),(7,u aN),(5,.ptr 30 0),(2,.ptr 0 0),(3,.ptr 1 0)],(0,cn l)::(1,nc want turns)::fG ⟨m,step,az,calls,full,cD,bad⟩ n cd cs,[]⟩ from ?_);refine go ?_;generalize K:decide ((i:Int)<1500)=cc;cases cc
    ·have dc:=of_decide_eq_false K;rw[show 1500-i=0 by omega,iy] at hT;refine go ?_;exact⟨rfl,(_,cd,cs),⟨hT,hU.mono (by omega),hn,hC⟩,zX (T:=by exact⟨⟨rfl,rfl⟩,⟨rfl,rfl⟩,⟨rfl,my (t:=⟨m,step,az,calls,full,cD,bad⟩) hC _ _ rfl rfl rfl rfl rfl rfl⟩,⟨rfl,jB _ _ _⟩,⟨rfl,jz _ _ _⟩,⟨rfl,jI _ _ _⟩,⟨rfl,jA _ _ _⟩,⟨rfl,jv _ _ _⟩,⟨rfl,hC.pl _ _⟩,trivial⟩)⟩
    ·have dc:=of_decide_eq_true K;rw[show 1500-i=(1500-(i+1))+1 by omega,iy] at hT;simp only at hT;refine go ?_;cases bad
     ·rw[if_neg (by decide)] at hT;refine go ?_;refine hJ (Tk l Z At want turns ⟨m,step,az,calls,full,cD,false⟩ n (300+1500*aN+i) N hn hw AE hU (by omega) hN aN Zu cd cs hC) rfl (λ a w=>call58 a w) rfl rfl (by exact nj hC rfl rfl rfl rfl rfl rfl rfl) (by(repeat(first|exact trivial|refine⟨.inr rfl,?_⟩|refine⟨.inl rfl,?_⟩))) rfl rfl rfl rfl ?_ ?_
      ·rintro d U ⟨rfl,la,aO,lO,rfl⟩;exact⟨.inl rfl,.inl rfl,.inl rfl,.inl rfl,.inl rfl,.inl rfl,.inl rfl,trivial⟩
      rintro d U ⟨rfl,la,aO,lO,rfl⟩;refine go ?_;exact⟨(i+1,kC l want ⟨m,step,az,calls,full,cD,false⟩ aN,la,aO),⟨by simp only;omega,hT,Tp hU Z.az.1,by simp only;rw[Tn];exact hn,lO⟩,by simp only;omega,zX (T:=by exact⟨⟨rfl,rfl⟩,⟨rfl,rfl⟩,⟨rfl,my (t:=kC l want ⟨m,step,az,calls,full,cD,false⟩ aN) lO _ _ rfl rfl rfl rfl rfl rfl⟩,⟨rfl,jB _ _ _⟩,⟨rfl,jz _ _ _⟩,⟨rfl,jI _ _ _⟩,⟨rfl,jA _ _ _⟩,⟨rfl,jv _ _ _⟩,⟨rfl,lO.pl _ _⟩,trivial⟩)⟩
     ·rw[if_pos rfl] at hT;refine go ?_;exact⟨rfl,(_,cd,cs),⟨hT,hU.mono (by omega),hn,hC⟩,zX (T:=by exact⟨⟨rfl,rfl⟩,⟨rfl,rfl⟩,⟨rfl,my (t:=⟨m,step,az,calls,full,cD,true⟩) hC _ _ rfl rfl rfl rfl rfl rfl⟩,⟨rfl,jB _ _ _⟩,⟨rfl,jz _ _ _⟩,⟨rfl,jI _ _ _⟩,⟨rfl,jA _ _ _⟩,⟨rfl,jv _ _ _⟩,⟨rfl,hC.pl _ _⟩,trivial⟩)⟩
   clear hU hn hC;rintro bU ⟨t2,cd,cs⟩ ⟨qp,hU,hn,hC⟩ eQ;refine zR (zM (dO eQ ?_));clear eQ;simp only at qp hU hn hC;rw[<-qp] at hT;clear qp;obtain⟨x,O⟩:∃x,t2.az[aN]?=some x:=⟨t2.az[aN]'(by omega),List.getElem?_eq_getElem _⟩;have wj:Ax t2 want aN=(decide (x.op.kind=0)&&decide (ws.length<=x.next)):=by unfold Ax;rw[O,AN]
   rw[wj] at hT;have afF:=(hU.LZ O).next;have iQ:=GZ t2.az;have si:=RD O 0 (by omega);have yg:(je t2.az)[aN]?=some (u x.next):=zp (f:=λ x=>u x.next) O;obtain⟨m,step,az,calls,full,cD,bad⟩:=t2;simp only at O iQ si yg hn hC;refine(show aK _ _ _ _ ⟨[(7,u aN),(5,.ptr 30 0),(2,.ptr 0 0),(3,.ptr 1 0)],(0,cn l)::(1,nc want turns)::fG ⟨m,step,az,calls,full,cD,bad⟩ n cd cs,[]⟩ from ?_);cases bad
   ·by_cases I:x.op.kind=0
    ·refine gW 33 [] ?_;refine rj (aN*4) 4 ?_;refine bh ?_;refine cV (mo aB rfl rfl rfl rfl rfl si) rfl rfl ?_;refine bh ?_;rw[show decide (x.op.kind=0)=true by rw[decide_eq_true_eq];exact I];refine bh ?_;refine rj aN 1 ?_;refine cV (mo aB rfl rfl rfl rfl rfl yg) rfl rfl ?_;refine bh ?_;refine ri [tT ws] (wH DC) ?_;refine qg ?_;rw[show decide (x.op.kind=0)=true by rw[decide_eq_true_eq];exact I,Bool.true_and,Bool.false_or,show(!decide (ws.length<=x.next))=decide ((x.next:Int)<ws.length) by rw[<-decide_not];exact decide_eq_decide.2 (by omega)] at hT;exact⟨(aN+1,⟨m,step,az,calls,full,cD,decide ((x.next:Int)<ws.length)⟩,cd,cs),⟨by simp only;omega,hT,Tq hU,hn,hC⟩,by simp only;omega,zX (T:=by exact⟨⟨rfl,rfl⟩,⟨rfl,rfl⟩,⟨rfl,my (t:=⟨m,step,az,calls,full,cD,decide ((x.next:Int)<ws.length)⟩) hC _ _ rfl rfl rfl rfl rfl rfl⟩,⟨rfl,jB _ _ _⟩,⟨rfl,jz _ _ _⟩,⟨rfl,jI _ _ _⟩,⟨rfl,jA _ _ _⟩,⟨rfl,jv _ _ _⟩,⟨rfl,hC.pl _ _⟩,trivial⟩)⟩
    ·refine gW 33 [] ?_;refine rj (aN*4) 4 ?_;refine bh ?_;refine cV (mo aB rfl rfl rfl rfl rfl si) rfl rfl ?_;refine bh ?_;rw[show decide (x.op.kind=0)=false by rw[decide_eq_false_iff_not];exact I];refine qg ?_;rw[show decide (x.op.kind=0)=false by rw[decide_eq_false_iff_not];exact I,Bool.false_and,Bool.not_false,Bool.or_true] at hT;exact⟨(aN+1,⟨m,step,az,calls,full,cD,true⟩,cd,cs),⟨by simp only;omega,hT,Tq hU,hn,hC⟩,by simp only;omega,zX (T:=by exact⟨⟨rfl,rfl⟩,⟨rfl,rfl⟩,⟨rfl,my (t:=⟨m,step,az,calls,full,cD,true⟩) hC _ _ rfl rfl rfl rfl rfl rfl⟩,⟨rfl,jB _ _ _⟩,⟨rfl,jz _ _ _⟩,⟨rfl,jI _ _ _⟩,⟨rfl,jA _ _ _⟩,⟨rfl,jv _ _ _⟩,⟨rfl,hC.pl _ _⟩,trivial⟩)⟩
   ·refine gW 33 [] ?_;refine go ?_;rw[Bool.true_or] at hT;exact⟨(aN+1,⟨m,step,az,calls,full,cD,true⟩,cd,cs),⟨by simp only;omega,hT,hU,hn,hC⟩,by simp only;omega,zX (T:=by exact⟨⟨rfl,rfl⟩,⟨rfl,rfl⟩,⟨rfl,my (t:=⟨m,step,az,calls,full,cD,true⟩) hC _ _ rfl rfl rfl rfl rfl rfl⟩,⟨rfl,jB _ _ _⟩,⟨rfl,jz _ _ _⟩,⟨rfl,jI _ _ _⟩,⟨rfl,jA _ _ _⟩,⟨rfl,jv _ _ _⟩,⟨rfl,hC.pl _ _⟩,trivial⟩)⟩
  ·have bs:=of_decide_eq_false A;rw[show n-aN=0 by omega,D7] at hT;refine go ?_;exact⟨rfl,(t,cd,cs),⟨hT,hC⟩,zX (T:=by exact⟨⟨rfl,rfl⟩,⟨rfl,rfl⟩,⟨rfl,my (t:=t) hC _ _ rfl rfl rfl rfl rfl rfl⟩,⟨rfl,jB _ _ _⟩,⟨rfl,jz _ _ _⟩,⟨rfl,jI _ _ _⟩,⟨rfl,jA _ _ _⟩,⟨rfl,jv _ _ _⟩,⟨rfl,hC.pl _ _⟩,trivial⟩)⟩
 clear E hU hn hC;rintro bU ⟨t,cd,cs⟩ ⟨hT,hC⟩ eQ;refine zR (zM (dO eQ ?_));clear eQ;simp only at hT hC;subst hT;obtain⟨m,step,az,calls,full,cD,bad⟩:=t;refine(show aK _ _ _ _ ⟨[(5,.ptr 30 0),(2,.ptr 0 0),(3,.ptr 1 0)],(0,cn l)::(1,nc want turns)::fG ⟨m,step,az,calls,full,cD,bad⟩ n cd cs,[]⟩ from ?_);rcases hC.at_ with⟨h2,rfl⟩|⟨c,rfl,bR,eE,io,bY⟩
 ·simp only at h2;subst h2;refine dO (qC 30 rfl rfl) ?_;refine go ?_;exact im (qJ ⟨m,step,az,[],full,cD,bad⟩ n) rfl rfl (by exact Tb rfl rfl rfl rfl rfl rfl) (by(repeat(first|exact trivial|refine⟨rfl,?_⟩))) ⟨rfl,rfl⟩
 ·refine dO (Ok (xm:=[(5,.ptr 30 0)]) (ph:=[(31,fA az),(32,j6 az),(33,jH az),(34,je az),(35,kq az)]) (qM:=[]) 30 7 36 (mv calls) rfl rfl rfl rfl rfl ⟨⟨rfl,rfl⟩,trivial⟩ (by exact⟨⟨rfl,rfl⟩,⟨rfl,jB _ _ _⟩,⟨rfl,jz _ _ _⟩,⟨rfl,jI _ _ _⟩,⟨rfl,jA _ _ _⟩,⟨rfl,jv _ _ _⟩,trivial⟩) trivial (by(repeat(first|exact trivial|refine⟨rfl,?_⟩))) rfl bR eE (RM calls) bY io (abw calls)) ?_;refine go ?_;exact im (qJ ⟨m,step,az,calls,full,cD,bad⟩ n) rfl rfl (by exact Tb rfl rfl rfl rfl rfl rfl) (by(repeat(first|exact trivial|refine⟨rfl,?_⟩))) ⟨rfl,rfl⟩
end Go.Proofs.YtcnefjfboagbmaaGreat
