/- Free nodes, plays that are looked at, and their layouts: their walk. -/
import Derived.Test.YtcnefjfboagbmaaGreatWE
import Derived.Test.YtcnefjfboagbmaaGreatWA
import Derived.Test.YtcnefjfboagbmaaGreatPA
import Derived.Test.YtcnefjfboagbmaaGreatWC
import Derived.Test.YtcnefjfboagbmaaGreatXC
namespace Go.Proofs.YtcnefjfboagbmaaGreat
open Go.Proofs.Tryz
open Go.RowKit
set_option maxRecDepth 100000
def Cn(o:bl):List Pl:=[pI o.kind,pI o.obj,pI o.a,pI o.b]
def mx(l:List bl):List Pl:=l.flatMap Cn
abbrev wa(l:List bl):Pl:=.sl false l.length (mx l)
abbrev Xa(w:List (List bl)):K:=.p (.sl false w.length (w.map wa))
abbrev p8(n:Int):Pl:=.raw (.int .u8 n)
abbrev va(t:List Int):K:=.p (.sl false t.length (t.map p8))
set_option maxHeartbeats 4000000 in
theorem aei(l:ah)(hL:cr l)(m:List Int):bc prog 69 [dP l,jw m] (bX (uy l m)):=by
 generalize I:uy l m=aQ;unfold uy at I;obtain⟨ml,gp⟩:=hL.nodes;refine sP func69 ntmps69 λ w cl=>?_
 refine gA (OS m l.free) ?_;refine cA (aej (bE m l.free)) ?_;refine go ?_;generalize(ae (bE m l.free)).idx=n0 at I;refine ey (lu 5 0 3 1 rfl rfl rfl) ?_;refine cn (λ p:Nat×List Int×Int=>p.1+p.2.1.length=l.nodes.toNat+1/\k8 (λ n=>bE m (aN l n 7)) l.nodes p.1 p.2.1 p.2.2=aQ) (λ p=>⟨[(7,E p.2.2),(5,.aW 0 p.2.1.length (cy p.2.1)),(2,.ptr 0 0),(3,.ptr 1 0)],[(1,[bX m]),(0,cG l)],[(0,⟨3,1,p.2.1.length⟩)]⟩) (λ p=>p.1) (l.nodes.toNat+1,[],n0) ⟨by simp,I⟩ (zX) ?_;rintro⟨k,acc,n⟩ ⟨J,I⟩;simp only at J I;refine(show aP _ _ _ _ ⟨[(7,E n),(5,.aW 0 acc.length (cy acc)),(2,.ptr 0 0),(3,.ptr 1 0)],[(1,[bX m]),(0,cG l)],[(0,⟨3,1,acc.length⟩)]⟩ from ?_);refine go ?_;refine dk (λ F=>?_) (λ F=>?_)<;>try rw[F]
 ·have bB:=of_decide_eq_true F;obtain⟨k,rfl⟩:∃j,k=j+1:=⟨k-1,by omega⟩;rw[k8] at I;refine gA (RF acc n (by omega)) ?_;generalize O:decide (n<1)=cc;cases cc
  ·have dt:=of_decide_eq_false O;refine go ?_;generalize h4:decide (n>l.nodes)=cc;cases cc
   ·have rI:=of_decide_eq_false h4;refine go ?_;generalize h5:decide (n∈acc)=cc;cases cc
    ·rw[if_pos ⟨by omega,by omega,of_decide_eq_false h5⟩] at I;refine go ?_;refine pA rfl ?_;rw[oW,show acc.length+1=(acc++[n]).length by simp];refine go ?_;refine dQ [] ?_;refine gQ (wj l hL n 7 (by omega)) ?_;refine cQ (OS m (aN l n 7)) ?_;refine qg ?_;exact⟨(k,acc++[n],bE m (aN l n 7)),⟨by simp;omega,I⟩,by simp only;omega,zX⟩
    ·rw[if_neg (λ hh=>hh.2.2 (of_decide_eq_true h5))] at I;refine gf ?_;rw[<-I]
   ·have rI:=of_decide_eq_true h4;rw[if_neg (λ hh=>by omega)] at I;refine gf ?_;rw[<-I]
  ·have dt:=of_decide_eq_true O;rw[if_neg (λ hh=>by omega)] at I;refine gf ?_;rw[<-I]
 ·have bB:=of_decide_eq_false F;obtain rfl:k=0:=by omega
  rw[k8] at I;refine gf ?_;rw[<-I]
abbrev oX(want:List (List bl))(turns:List Int):List K:=[Xa want,va turns]
abbrev Gh(want:List (List bl))(turns:List Int):K:=.agg (oX want turns)
theorem ER{av:Type}{f:av->Pl}{l:List av}{i:Int}{x:av}(h:l[i.toNat]?=some x):∀(m:Nat) q,[f x][m]?=some q->(l.map f)[i.toNat*1+m]?=some q:=by
 intro m q hq;cases m with
 |zero=>simp at hq;subst hq;rw[Nat.mul_one,Nat.add_zero,List.getElem?_map,h];rfl
 |succ m=>simp at hq
theorem acI{l:List bl}{i:Int}{o:bl}(h:l[i.toNat]?=some o):∀(m:Nat) q,[pI o.kind,pI o.obj,pI o.a,pI o.b][m]?=some q->(mx l)[i.toNat*4+m]?=some q:=Gv (f:=Cn) (k:=4) (λ _=>rfl) h
def Bk(x:bZ):Nat:=x.gone.length+(if x.op.kind=0 then 0 else x.log.length)
theorem PK{x:bZ}:x.gone.length<=Bk x:=Nat.le_add_right _ _
structure iR(k N:Nat)(t:cP):Prop where
 m:t.m.length=N
 log:∀x∈t.ar,x.log.length<=k
 steps:∀x∈t.ar,x.steps.length<=k
 next:∀x∈t.ar,x.next<=k
 gone:∀x∈t.ar,Bk x<=k/\eN x.gone
 step:0<=t.step/\t.step<=k
 full:0<=t.full/\t.full<=k
 calls:t.calls.length<=k
theorem iR.mono{k j N:Nat}{t:cP}(h:iR k N t)(kr:k<=j):iR j N t:=
 ⟨h.m,λ x T=>Nat.le_trans (h.log x T) kr,λ x T=>Nat.le_trans (h.steps x T) kr,λ x T=>Nat.le_trans (h.next x T) kr,λ x T=>⟨Nat.le_trans (h.gone x T).1 kr,(h.gone x T).2⟩,⟨h.step.1,by have:=h.step.2;omega⟩,⟨h.full.1,by have:=h.full.2;omega⟩,Nat.le_trans h.calls kr⟩
structure I2(k:Nat)(x:bZ):Prop where
 log:x.log.length<=k
 steps:x.steps.length<=k
 next:x.next<=k
 gone:Bk x<=k/\eN x.gone
theorem iR.rd{k N:Nat}{t:cP}(h:iR k N t){w:Nat}{x:bZ}(T:t.ar[w]?=some x):I2 k x:=
 ⟨h.log x (List.mem_of_getElem? T),h.steps x (List.mem_of_getElem? T),h.next x (List.mem_of_getElem? T),h.gone x (List.mem_of_getElem? T)⟩
theorem iR.set{k j N:Nat}{t iJ:cP}(h:iR k N t)(kr:k<=j){w:Nat}{y:bZ}(hy:I2 j y)(hs:iJ.ar=t.ar.set w y)(hm:iJ.m.length=t.m.length)(A:0<=iJ.step/\iJ.step<=j)(F:0<=iJ.full/\iJ.full<=j)(O:iJ.calls.length<=j):iR j N iJ:=by
 have xr:∀z∈iJ.ar,z∈t.ar\/z=y:=λ z hz=>List.mem_or_eq_of_mem_set (by rw[<-hs];exact hz)
 refine⟨hm.trans h.m,λ z hz=>?_,λ z hz=>?_,λ z hz=>?_,λ z hz=>?_,A,F,O⟩
 ·rcases xr z hz with hz|rfl
  ·exact Nat.le_trans (h.log z hz) kr
  ·exact hy.log
 ·rcases xr z hz with hz|rfl
  ·exact Nat.le_trans (h.steps z hz) kr
  ·exact hy.steps
 ·rcases xr z hz with hz|rfl
  ·exact Nat.le_trans (h.next z hz) kr
  ·exact hy.next
 ·rcases xr z hz with hz|rfl
  ·exact⟨Nat.le_trans (h.gone z hz).1 kr,(h.gone z hz).2⟩
  ·exact hy.gone
theorem Xt{k N:Nat}{t:cP}{w:Nat}{x:bZ}{out:aY}(h:iR k N t)(T:x.log.length<=k+1/\x.steps.length<=k+1/\x.next<=k+1)(hg:out.gone.length<=k+1/\eN out.gone):iR (k+1) N (p4 t w x out):=by
 have hy:I2 (k+1) {x with op:=lE,gone:=out.gone}:=⟨T.1,T.2.1,T.2.2,by show out.gone.length+0<=_;omega,hg.2⟩;have A:=h.step;have F:=h.full;have O:=h.calls;unfold p4;simp only;split
 ·exact h.set (by omega) hy rfl rfl ⟨A.1,by simp only;omega⟩ ⟨by simp only;omega,by simp only;omega⟩ (by simp only;omega)
 ·split
  ·exact h.set (by omega) hy rfl rfl ⟨A.1,by simp only;omega⟩ ⟨F.1,by simp only;omega⟩ (by simp only;omega)
  ·exact h.set (by omega) hy rfl rfl ⟨A.1,by simp only;omega⟩ ⟨F.1,by simp only;omega⟩ (by simp only[List.length_append,List.length_cons,List.length_nil];omega)
theorem Sz{k N:Nat}{l:ah}{t:cP}{w:Nat}{x:bZ}(h:iR k N t)(h0:x.log.length<=k)(A:x.steps.length<=k)(F:x.next<=k+1)(O:x.gone.length+x.log.length<=k/\eN x.gone)(hS:0<=l.ar):iR (k+1) N (lH l t w x):=by
 have hs:=h.step;have hf:=h.full;have L:=h.calls;unfold lH;simp only;split
 ·rename_i D;have y0:=acD hS D O.2;exact Xt h ⟨by omega,by omega,F⟩ ⟨by omega,y0.1⟩
 ·split
  ·exact h.set (by omega) (y:={x with log:=x.log++[(ii t.m (pG l w x.gone x.op x.log).1).2],steps:=x.steps++[t.step]}) ⟨by simp;omega,by simp;omega,F,by unfold Bk;simp only;split<;>simp<;>omega,O.2⟩ rfl (FE _ _) ⟨by simp only;omega,by simp only;omega⟩ ⟨hf.1,by simp only;omega⟩ (by simp only;omega)
  ·exact h.set (by omega) (y:={x with op:=lE}) ⟨by simp only;omega,by simp only;omega,F,by show x.gone.length+0<=_;omega,O.2⟩ rfl rfl ⟨hs.1,by simp only;omega⟩ ⟨hf.1,by simp only;omega⟩ (by simp only;omega)
theorem IA{k N:Nat}{l:ah}{want:List (List bl)}{t:cP}{w:Nat}(h:iR k N t)(hS:0<=l.ar):iR (k+1) N (lI l want t w):=by
 unfold lI;split
 ·rename_i x ws T hw;have Z:=h.rd T;split
  ·split
   ·exact h.mono (by omega)
   ·exact Sz h (by simp) (by simp) (by have:=Z.next;simp only;omega) ⟨by have:=Z.gone.1;have:=PK (x:=x);simp only[List.length_nil];omega,Z.gone.2⟩ hS
  ·rename_i J;exact Sz h Z.log Z.steps (by have:=Z.next;omega) ⟨by have:=Z.gone.1;rw[Bk,if_neg J] at this;exact this,Z.gone.2⟩ hS
 ·exact h.mono (by omega)
theorem Xr{t:cP}{w:Nat}{x:bZ}{out:aY}:(p4 t w x out).ar.length=t.ar.length:=by
 unfold p4;simp only;split
 ·simp
 ·split<;>simp
theorem UY{l:ah}{want:List (List bl)}{t:cP}{w:Nat}:(lI l want t w).ar.length=t.ar.length:=by
 have hm:∀x,(lH l t w x).ar.length=t.ar.length:=λ x=>by
  unfold lH;simp only;split
  ·exact Xr
  ·split<;>simp
 unfold lI;split
 ·split
  ·split
   ·rfl
   ·exact hm _
  ·exact hm _
 ·rfl
abbrev fG(ss:List bZ):List K:=ss.flatMap λ x=>r9 x.op
abbrev kA(ss:List bZ):List K:=ss.map λ x=>gT x.log
abbrev j7(ss:List bZ):List K:=ss.map λ x=>bX x.steps
abbrev jl(ss:List bZ):List K:=ss.map λ x=>E x.next
abbrev kN(ss:List bZ):List K:=ss.map λ x=>eh x.gone
abbrev E3(c:eO):List Pl:=[pI c.al,pI c.op.kind,pI c.op.obj,pI c.op.a,pI c.op.b,pI c.val,pB c.is,pI c.first,pI c.last,pI c.c6]
def se(l:List eO):List Pl:=l.flatMap E3
abbrev x8(t:cP)(n:Nat)(cd:K):List K:=[bX t.m,E t.step,.arr 31 0 n n,.arr 32 0 n n,.arr 33 0 n n,.arr 34 0 n n,.arr 35 0 n n,cd,E t.full,dB t.cO,dB t.bad]
abbrev fL(t:cP)(n:Nat)(cd:K)(cs:List K):bJ:=[(30,x8 t n cd),(31,fG t.ar),(32,kA t.ar),(33,j7 t.ar),(34,jl t.ar),(35,kN t.ar),(36,cs)]
structure lL(calls:List eO)(cd:K)(cs:List K):Prop where
 pl:fy cs
 at_:(calls=[]/\cd=.p (.sl true 0 []))\/∃c,cd=.arr 36 0 calls.length c/\cs.length=c*10/\calls.length<=c/\c<=maxLen/\cs.take (calls.length*10)=(se calls).map K.p
theorem S7(l:List eO):(se l).length=l.length*10:=by
 induction l with
 |nil=>rfl
 |cons a l ih=>unfold se at ih⊢;rw[List.flatMap_cons,List.length_append,ih];simp[E3];omega
theorem acW(l:List eO)(c:eO):se l++E3 c=se (l++[c]):=by simp[se]
theorem lL.ok{calls:List eO}{cd:K}{cs:List K}(h:lL calls cd cs)(B au:Nat->Bool)(hB:B 36=true):cd.ok B au=true:=by
 rcases h.at_ with⟨_,rfl⟩|⟨c,rfl,_⟩
 ·rfl
 ·exact hB
theorem H6{f:bZ->K}(hf:∀x B au,(f x).ok B au=true)(l:List bZ):fy (l.map f):=by
 intro B au;induction l with
 |nil=>rfl
 |cons x l ih=>simp only[List.map_cons,K.ok.eR,hf,Bool.true_and];exact ih
theorem jZ(l:List bZ):fy (fG l):=by
 intro B au;induction l with
 |nil=>rfl
 |cons x l ih=>rw[fG,List.flatMap_cons];exact ih
theorem jW(l:List bZ):fy (kA l):=H6 (λ _ _ _=>rfl) l
theorem j8(l:List bZ):fy (j7 l):=H6 (λ _ _ _=>rfl) l
theorem jX(l:List bZ):fy (jl l):=H6 (λ _ _ _=>rfl) l
theorem jQ(l:List bZ):fy (kN l):=H6 (λ _ _ _=>rfl) l
theorem H0(l:List bZ):(fG l).length=l.length*4:=by
 induction l with
 |nil=>rfl
 |cons a l ih=>rw[fG,List.flatMap_cons,List.length_append];simp only[List.length_cons,List.length_nil];rw[show(List.flatMap (λ x:bZ=>r9 x.op) l).length=l.length*4 from ih];omega
theorem HZ:∀{l:List bZ}{i:Nat}{x:bZ},l[i]?=some x->∃rest,(fG l).drop (i*4)=r9 x.op++rest
 |[],i,x,h=>by simp at h
 |y::l,0,x,h=>by
  simp at h;subst h;exact⟨_,by rw[Nat.zero_mul,List.drop_zero,fG,List.flatMap_cons]⟩
 |y::l,i+1,x,h=>by
  obtain⟨r,hr⟩:=HZ (l:=l) (i:=i) (x:=x) (by simpa using h);refine⟨r,?_⟩;rw[fG,List.flatMap_cons,show(i+1)*4=4+i*4 by omega,<-List.drop_drop];exact hr
theorem H1:∀{l:List bZ}{i:Nat}(x:bZ),i<l.length->stored (fG l) (i*4) (r9 x.op)=fG (l.set i x)
 |[],i,x,h=>by simp at h
 |y::l,0,x,h=>by
  unfold stored;rw[List.set_cons_zero,fG,fG,List.flatMap_cons,List.flatMap_cons]
  rfl
 |y::l,i+1,x,h=>by
  have ih:=H1 (l:=l) (i:=i) x (by simpa using h);unfold stored at ih⊢;rw[List.set_cons_succ,fG,fG,List.flatMap_cons,List.flatMap_cons,<-fG,<-fG,<-ih,show(i+1)*4=(i*4)+4 by omega]
  rfl
theorem tp{av:Type}{f:bZ->av}{l:List bZ}{i:Nat}{x y:bZ}(T:l[i]?=some x)(h:f y=f x):(l.set i y).map f=l.map f:=by
 rw[List.map_set,h];refine List.ext_getElem? λ j=>?_
 rw[List.getElem?_set];split
 ·rename_i hj;subst hj;rw[List.length_map,List.getElem?_map,T,if_pos (List.getElem?_eq_some_iff.1 T).1]
  rfl
 ·rfl
theorem acJ{l:List bZ}{i:Nat}{x y:bZ}(T:l[i]?=some x)(h:y.op=x.op):fG (l.set i y)=fG l:=by have:=tp (f:=λ x:bZ=>r9 x.op) T (by rw[h]);rw[fG,fG,List.flatMap_def,List.flatMap_def,this]
theorem A6{f:bZ->K}{l:List bZ}{i:Nat}{x:bZ}(T:l[i]?=some x):(l.map f)[i]?=some (f x):=by rw[List.getElem?_map,T];rfl
theorem Dg{f:bZ->K}(hf:∀x,l7 (f x)=f x){l:List bZ}{i:Nat}{y:bZ}{d:K}(D:l7 d=f y):((l.map f).set i d).map l7=(l.set i y).map f:=by
 rw[List.map_set,List.map_map,List.map_set,D]
 congr 1
 exact List.map_congr_left λ x _=>hf x
theorem mX{t:cP}{n:Nat}{cd:K}{cs:List K}{calls:List eO}(h:lL calls cd cs)(B au:Nat->Bool)(A:B 31=true)(F:B 32=true)(O:B 33=true)(h4:B 34=true)(h5:B 35=true)(h6:B 36=true):K.ok.eR B au (x8 t n cd)=true:=by have h7:=h.ok B au h6;simp only[K.ok.eR,K.ok,A,F,O,h4,h5,h7,Bool.true_and]
theorem aay{t:cP}{n:Nat}{cd:K}{cs A9:List K}{calls:List eO}(h:lL calls cd A9):K.ok.eR (aI (fL t n cd cs)) (λ _=>false) (x8 t n cd)=true:=by
 have A:=h.ok (aI (fL t n cd cs)) (λ _=>false) rfl;show(true&&(true&&(true&&(true&&(true&&(true&&(true&&(K.ok (aI (fL t n cd cs)) (λ _=>false) cd&&(true&&(true&&(true&&true)))))))))))=true;rw[A]
 rfl
theorem nM{M:St}{t:cP}{n:Nat}{cd:K}{cs:List K}{calls:List eO}(h:lL calls cd cs)(h0:kv M.b 30=some (x8 t n cd))(A:kv M.b 31=some (fG t.ar))(F:kv M.b 32=some (kA t.ar))(O:kv M.b 33=some (j7 t.ar))(h4:kv M.b 34=some (jl t.ar))(h5:kv M.b 35=some (kN t.ar))(h6:kv M.b 36=some cs):jN M (aI (fL t n cd cs)) (fL t n cd cs):=
 ⟨⟨h0,aay h⟩,⟨A,jZ _ _ _⟩,⟨F,jW _ _ _⟩,⟨O,j8 _ _ _⟩,⟨h4,jX _ _ _⟩,⟨h5,jQ _ _ _⟩,⟨h6,h.pl _ _⟩,trivial⟩
theorem V5(a:List Int)(v:Int):(a.any λ x=>decide (x=v))=decide (v∈a):=by
 rw[Bool.eq_iff_iff,List.any_eq_true,decide_eq_true_iff];constructor
 ·rintro⟨x,T,h⟩;have:=of_decide_eq_true h;subst this;exact T
 ·intro h;exact⟨v,h,decide_eq_true rfl⟩
theorem abr(l:ah)(m:List Int):(uy l m).length<=l.nodes.toNat+1:=by
 have:=Dj (nx:=λ n=>bE m (aN l n 7)) (N:=l.nodes) (l.nodes.toNat+1) [] (ae (bE m l.free)).idx
 simpa[uy] using this
set_option maxHeartbeats 8000000 in
theorem XO(l:ah)(hL:cr l)(t:cP)(n:Nat)(cd:K)(cs:List K)(hC:lL t.calls cd cs)(a:aX):
 eI prog 102 [30,31,32,33,34,35] [.ptr 30 0,dP l,fC a] (fL t n cd cs) (λ d Y=>d=dB (vr l t.m a)/\Y=fL t n cd cs):=by
 generalize I:vr l t.m a=aQ;unfold vr at I;rw[V5] at I;obtain⟨ahj,ahk⟩:=hL.node;obtain⟨ahv,Hn⟩:=hL.size;obtain⟨ahh,ahi⟩:=hL.nodes;have G8:=abr l t.m;refine sI func102 ntmps102 λ w cl own kf=>?_
 refine go ?_;generalize A:decide (a.cell<l.node)=cc;cases cc
 ·have aU:=of_decide_eq_false A;refine go ?_;generalize F:decide (a.cell>=l.size)=cc;cases cc
  ·have bB:=of_decide_eq_false F;refine t8 ?_;generalize O:decide ((a.cell-l.node)%8=7)=cc;cases cc
   ·have dt:=of_decide_eq_false O;rw[if_neg (by omega)] at I;refine go ?_;refine dW 13 [] ?_;refine gQ (aei l hL t.m) ?_;refine cV (MB rfl rfl rfl (by omega) (by omega) (by omega)) rfl rfl ?_;refine br ?_;refine cA (RF (uy l t.m) ((a.cell-l.node)/8+1) (by omega)) ?_;refine go ?_;refine iB (fL t n cd cs) rfl rfl (by exact nM hC rfl rfl rfl rfl rfl rfl rfl) (by(repeat(first|exact trivial|refine⟨rfl,?_⟩))) ⟨?_,rfl⟩;rw[<-I]
   ·have dt:=of_decide_eq_true O;rw[if_pos (by omega)] at I;refine go ?_;refine iB (fL t n cd cs) rfl rfl (by exact nM hC rfl rfl rfl rfl rfl rfl rfl) (by(repeat(first|exact trivial|refine⟨rfl,?_⟩))) ⟨?_,rfl⟩;rw[<-I]
  ·have bB:=of_decide_eq_true F;rw[if_pos (by omega)] at I;refine go ?_;refine iB (fL t n cd cs) rfl rfl (by exact nM hC rfl rfl rfl rfl rfl rfl rfl) (by(repeat(first|exact trivial|refine⟨rfl,?_⟩))) ⟨?_,rfl⟩;rw[<-I]
 ·have aU:=of_decide_eq_true A;rw[if_pos (by omega)] at I;refine go ?_;refine iB (fL t n cd cs) rfl rfl (by exact nM hC rfl rfl rfl rfl rfl rfl rfl) (by(repeat(first|exact trivial|refine⟨rfl,?_⟩))) ⟨?_,rfl⟩;rw[<-I]
set_option maxHeartbeats 8000000 in
theorem Xq(t:cP)(n:Nat)(al:Nat)(x:bZ)(out:aY)(hn:t.ar.length=n)(_:n<=8)(T:t.ar[al]?=some x)(jD:x.steps.length<=100000)(hf:0<=t.full/\t.full<=100000)(ea:t.calls.length<=100000)(cd:K)(cs:List K)(hC:lL t.calls cd cs):
 eI prog 101 [30,31,32,33,34,35] [.ptr 30 0,E al,kj out] (fL t n cd cs) (λ d Y=>d=.bd []/\∃ly aS,lL (p4 t al x out).calls ly aS/\Y=fL (p4 t al x out) n ly aS):=by
 have Lm:al<n:=by rw[<-hn];exact(List.getElem?_eq_some_iff.1 T).1
 obtain⟨rest,Ey⟩:=HZ T;have jB:=H0 t.ar;obtain⟨m,step,ar,calls,full,cO,bad⟩:=t;simp only at hn T hf ea hC Ey jB;have hy:=H1 (l:=ar) (i:=al) {x with op:=lE,gone:=out.gone} (by omega);have hz:((kN ar).set al (eh out.gone)).map l7=kN (ar.set al {x with op:=lE,gone:=out.gone}):=Dg (f:=λ x=>eh x.gone) (λ _=>rfl) rfl;have e1:kA (ar.set al {x with op:=lE,gone:=out.gone})=kA ar:=tp T rfl;have e2:j7 (ar.set al {x with op:=lE,gone:=out.gone})=j7 ar:=tp T rfl;have e3:jl (ar.set al {x with op:=lE,gone:=out.gone})=jl ar:=tp T rfl;generalize hS:ar.set al {x with op:=lE,gone:=out.gone}=S at hy hz e1 e2 e3;have zj:(j7 ar)[al]?=some (bX x.steps):=A6 (f:=λ x=>bX x.steps) T;show eI prog 101 [30,31,32,33,34,35] [.ptr 30 0,E al,kj out] [(30,[bX m,E step,.arr 31 0 n n,.arr 32 0 n n,.arr 33 0 n n,.arr 34 0 n n,.arr 35 0 n n,cd,E full,dB cO,dB bad]),(31,fG ar),(32,kA ar),(33,j7 ar),(34,jl ar),(35,kN ar),(36,cs)] _;refine sI func101 ntmps101 λ w cl own kf=>?_
 refine go ?_;refine gW 14 [] ?_;refine rj (al*4) 4 ?_;refine cV (mQ aD (r9 x.op) rest rfl rfl rfl rfl rfl (by show _<=(fG ar).length;omega) Ey rfl) rfl rfl ?_;refine qg ?_;refine aj (al*4) 4 ?_;refine Jd aD (fG S) rfl rfl rfl rfl rfl rfl rfl rfl rfl (by rw[jB];show al*4+4<=_;omega) hy ?_;refine go ?_;refine gW 7 [] ?_;refine go ?_;refine aj al 1 ?_;refine pQ aD rfl rfl rfl rfl rfl rfl rfl rfl rfl (by show al<(kN ar).length;rw[List.length_map];omega) ?_;refine nT (q6 35 rfl hz) ?_;refine go ?_;refine aj al 1 ?_;refine bh (jV aD rfl rfl rfl rfl rfl zj) rfl rfl rfl ?_;refine go ?_;have rJ:p4 ⟨m,step,ar,calls,full,cO,bad⟩ al x out=if out.err=8 then⟨m,step,S,calls,full+1,cO,bad⟩ else if out.err≠0\/x.steps.length=0 then⟨m,step,S,calls,full,cO,true⟩ else⟨m,step,S,calls++[⟨al,x.op,out.val,out.is,x.steps.getD 0 0,x.steps.getD (x.steps.length-1) 0,if 0<=out.c6/\out.c6<x.steps.length then x.steps.getD out.c6.toNat 0 else-1⟩],full,cO,bad⟩:=by unfold p4;simp only;rw[hS]
 have hB:∀(Bh:Int)(AY:Bool)(A5:List eO)(ly:K)(aS:List K),fL ⟨m,step,S,A5,Bh,cO,AY⟩ n ly aS=[(30,x8 ⟨m,step,S,A5,Bh,cO,AY⟩ n ly),(31,fG S),(32,kA ar),(33,j7 ar),(34,jl ar),(35,kN S),(36,aS)]:=λ Bh AY A5 ly aS=>by
  show[(30,_),(31,fG S),(32,kA S),(33,j7 S),(34,jl S),(35,kN S),(36,aS)]=_;rw[e1,e2,e3]
 generalize p4 ⟨m,step,ar,calls,full,cO,bad⟩ al x out=ap at rJ;generalize A:decide (out.err=8)=cc;cases cc
 ·have aU:=of_decide_eq_false A;rw[if_neg aU] at rJ;refine go ?_;generalize F:decide (out.err=0)=cc;cases cc
  ·have bB:=of_decide_eq_false F;rw[if_pos (.inl bB)] at rJ;subst rJ;refine go ?_;refine iB (fL ⟨m,step,S,calls,full,cO,true⟩ n cd cs) rfl rfl (by refine nM hC rfl rfl ?_ ?_ ?_ rfl rfl<;>simp only[e1,e2,e3]<;>rfl) (by(repeat(first|exact trivial|refine⟨rfl,?_⟩))) ⟨rfl,cd,cs,hC,rfl⟩
  ·have bB:=of_decide_eq_true F;refine go ?_;generalize O:decide ((x.steps.length:Int)=0)=cc;cases cc
   ·have dt:=of_decide_eq_false O;rw[if_neg (by omega)] at rJ;have oa:x.steps[((0:Int)).toNat]?=some (x.steps.getD 0 0):=by
     rw[show((0:Int)).toNat=0 from rfl,List.getD_eq_getElem?_getD,List.getElem?_eq_getElem (by omega)];rfl
    have fe:x.steps[((x.steps.length:Int)-1).toNat]?=some (x.steps.getD (x.steps.length-1) 0):=by rw[show((x.steps.length:Int)-1).toNat=x.steps.length-1 by omega,List.getD_eq_getElem?_getD,List.getElem?_eq_getElem (by omega)];rfl
    generalize qc:(if 0<=out.c6/\out.c6<x.steps.length then x.steps.getD out.c6.toNat 0 else-1)=pt at rJ;refine go ?_;refine aj al 1 ?_;refine bh (jV aD rfl rfl rfl rfl rfl zj) rfl rfl rfl ?_;refine ai [pI (x.steps.getD 0 0)] (jE oa) ?_;refine go ?_;refine aj al 1 ?_;refine bh (jV aD rfl rfl rfl rfl rfl zj) rfl rfl rfl ?_;refine im ?_;refine ai [pI (x.steps.getD (x.steps.length-1) 0)] (jE fe) ?_;refine im ?_;refine nI ?_;refine FR ⟨[(0,.ptr 30 0),(6,.ptr 8 0)],[(8,[E al,E x.op.kind,E x.op.obj,E x.op.a,E x.op.b,E out.val,dB out.is,E (x.steps.getD 0 0),E (x.steps.getD (x.steps.length-1) 0),E pt]),(30,[bX m,E step,.arr 31 0 n n,.arr 32 0 n n,.arr 33 0 n n,.arr 34 0 n n,.arr 35 0 n n,cd,E full,dB cO,dB bad]),(31,fG S),(32,kA ar),(33,j7 ar),(34,jl ar),(35,kN S),(36,cs)],[]⟩ ?_ ?_
    ·refine go ?_;generalize h4:decide (out.c6>=0)=cc;cases cc
     ·have rI:=of_decide_eq_false h4;rw[if_neg (by omega)] at qc;subst qc;refine go ?_;exact⟨rfl,zX (Z:=by exact⟨⟨rfl,rfl⟩,⟨rfl,mX (t:=⟨m,step,S,calls,full,cO,bad⟩) hC _ _ rfl rfl rfl rfl rfl rfl⟩,⟨rfl,jZ _ _ _⟩,⟨rfl,jW _ _ _⟩,⟨rfl,j8 _ _ _⟩,⟨rfl,jX _ _ _⟩,⟨rfl,jQ _ _ _⟩,⟨rfl,hC.pl _ _⟩,trivial⟩)⟩
     ·have rI:=of_decide_eq_true h4;refine go ?_;generalize h5:decide (out.c6<x.steps.length)=cc;cases cc
      ·have vh:=of_decide_eq_false h5;rw[if_neg (by omega)] at qc;subst qc;refine go ?_;exact⟨rfl,zX (Z:=by exact⟨⟨rfl,rfl⟩,⟨rfl,mX (t:=⟨m,step,S,calls,full,cO,bad⟩) hC _ _ rfl rfl rfl rfl rfl rfl⟩,⟨rfl,jZ _ _ _⟩,⟨rfl,jW _ _ _⟩,⟨rfl,j8 _ _ _⟩,⟨rfl,jX _ _ _⟩,⟨rfl,jQ _ _ _⟩,⟨rfl,hC.pl _ _⟩,trivial⟩)⟩
      ·have vh:=of_decide_eq_true h5;rw[if_pos ⟨by omega,vh⟩] at qc;have fD:x.steps[out.c6.toNat]?=some pt:=by
        rw[<-qc,List.getD_eq_getElem?_getD,List.getElem?_eq_getElem (by omega)];rfl
       refine go ?_;refine gW 9 [] ?_;refine rj al 1 ?_;refine br ?_;refine cV (jV aD rfl rfl rfl rfl rfl zj) rfl rfl ?_;refine br ?_;refine ai [pI pt] (jE fD) ?_;refine go ?_;exact⟨rfl,zX (Z:=by exact⟨⟨rfl,rfl⟩,⟨rfl,mX (t:=⟨m,step,S,calls,full,cO,bad⟩) hC _ _ rfl rfl rfl rfl rfl rfl⟩,⟨rfl,jZ _ _ _⟩,⟨rfl,jW _ _ _⟩,⟨rfl,j8 _ _ _⟩,⟨rfl,jX _ _ _⟩,⟨rfl,jQ _ _ _⟩,⟨rfl,hC.pl _ _⟩,trivial⟩)⟩
    generalize GQ:(⟨al,x.op,out.val,out.is,x.steps.getD 0 0,x.steps.getD (x.steps.length-1) 0,pt⟩:eO)=cc at rJ;have hB:∀(Bh:Int)(AY:Bool)(A5:List eO)(ly:K)(aS:List K),fL ⟨m,step,S,A5,Bh,cO,AY⟩ n ly aS=[(30,x8 ⟨m,step,S,A5,Bh,cO,AY⟩ n ly),(31,fG S),(32,kA ar),(33,j7 ar),(34,jl ar),(35,kN S),(36,aS)]:=hB;subst rJ;rcases hC.at_ with⟨rfl,rfl⟩|⟨c,rfl,cM,e9,iW,cq⟩
    ·subst GQ;refine Jj rfl ?_
     repeat' (first|refine tA 0 ?_|refine tA 1 ?_|refine tA 2 ?_|refine tA 3 ?_|refine oA 4 ?_|refine oA 5 ?_|refine oA 6 ?_|refine oA 7 ?_|refine oA 8 ?_|refine oA 9 ?_|refine oA 10 ?_|refine oB 4 5 ?_ ?_|refine oB 4 6 ?_ ?_|(refine dA ?_;have mh:lL ([]++[(⟨al,x.op,out.val,out.is,x.steps.getD 0 0,x.steps.getD (x.steps.length-1) 0,pt⟩:eO)]) (.arr 36 0 1 cg) aS:=⟨k5,.inr ⟨cg,rfl,k1,k3,k2,by show aS.take (1*10)=_;rw[k4];rfl⟩⟩;refine km (fL ⟨m,step,S,[]++[(⟨al,x.op,out.val,out.is,x.steps.getD 0 0,x.steps.getD (x.steps.length-1) 0,pt⟩:eO)],full,cO,bad⟩ n _ aS) rfl rfl (by refine nM mh rfl rfl ?_ ?_ ?_ rfl rfl<;>simp only[e1,e2,e3]<;>rfl) (by(repeat(first|exact trivial|refine⟨rfl,?_⟩))) ⟨rfl,_,aS,mh,rfl⟩)|(refine I9 (sz:=10) aD 36 rfl rfl rfl rfl rfl rfl rfl rfl rfl rfl rfl rfl rfl (Gf rfl (yw rfl rfl (yw rfl rfl (tR rfl (jZ _) (tR rfl (jW _) (tR rfl (j8 _) (tR rfl (jX _) (tR rfl (jQ _) (Gd rfl rfl))))))))) (by omega) rfl (by unfold maxLen;omega) (by show 1*80<=_;omega) (λ aS cg k1 k2 k3 k4 k5=>?_);refine nx ?_)|((first|refine z2 ?_|refine z7 ?_|refine z5 ?_);refine nx ?_))
    ·subst GQ;refine Jj rfl ?_
     repeat' (first|refine tA 0 ?_|refine tA 1 ?_|refine tA 2 ?_|refine tA 3 ?_|refine oA 4 ?_|refine oA 5 ?_|refine oA 6 ?_|refine oA 7 ?_|refine oA 8 ?_|refine oA 9 ?_|refine oA 10 ?_|refine oB 4 5 ?_ ?_|refine oB 4 6 ?_ ?_|(refine dA ?_;have mh:lL (calls++[(⟨al,x.op,out.val,out.is,x.steps.getD 0 0,x.steps.getD (x.steps.length-1) 0,pt⟩:eO)]) (.arr 36 0 (calls.length+1) cg) aS:=⟨k5,.inr ⟨cg,by rw[List.length_append];rfl,k1,by rw[List.length_append];exact k3,k2,by rw[List.length_append,<-acW];exact k4⟩⟩;refine km (fL ⟨m,step,S,calls++[(⟨al,x.op,out.val,out.is,x.steps.getD 0 0,x.steps.getD (x.steps.length-1) 0,pt⟩:eO)],full,cO,bad⟩ n _ aS) rfl rfl (by refine nM mh rfl rfl ?_ ?_ ?_ rfl rfl<;>simp only[e1,e2,e3]<;>rfl) (by(repeat(first|exact trivial|refine⟨rfl,?_⟩))) ⟨rfl,_,aS,mh,rfl⟩)|(refine Ja (sz:=10) aD (se calls) rfl rfl rfl rfl rfl rfl rfl rfl rfl rfl rfl rfl rfl rfl (Gf rfl (yw rfl rfl (yw rfl rfl (tR rfl (jZ _) (tR rfl (jW _) (tR rfl (j8 _) (tR rfl (jX _) (tR rfl (jQ _) (Gd rfl rfl))))))))) cM e9 (S7 calls) cq iW (by omega) rfl (by unfold maxLen;omega) (by show(_+1)*80<=_;omega) (λ aS cg k1 k2 k3 k4 k5=>?_);refine nx ?_)|((first|refine z2 ?_|refine z7 ?_|refine z5 ?_);refine nx ?_))
   ·have dt:=of_decide_eq_true O;rw[if_pos (.inr (by omega))] at rJ;subst rJ;refine go ?_;refine iB (fL ⟨m,step,S,calls,full,cO,true⟩ n cd cs) rfl rfl (by refine nM hC rfl rfl ?_ ?_ ?_ rfl rfl<;>simp only[e1,e2,e3]<;>rfl) (by(repeat(first|exact trivial|refine⟨rfl,?_⟩))) ⟨rfl,cd,cs,hC,rfl⟩
 ·have aU:=of_decide_eq_true A;rw[if_pos aU] at rJ;subst rJ;refine go ?_;refine iB (fL ⟨m,step,S,calls,full+1,cO,bad⟩ n cd cs) rfl rfl (by refine nM hC rfl rfl ?_ ?_ ?_ rfl rfl<;>simp only[e1,e2,e3]<;>rfl) (by(repeat(first|exact trivial|refine⟨rfl,?_⟩))) ⟨rfl,cd,cs,hC,rfl⟩
theorem SY{l:List bZ}{i:Nat}{x:bZ}(h:l[i]?=some x)(j:Nat)(hj:j<4):(fG l)[i*4+j]?=(r9 x.op)[j]?:=by
 obtain⟨rest,hr⟩:=HZ h;have:((fG l).drop (i*4))[j]?=(r9 x.op)[j]?:=by rw[hr,List.getElem?_append_left (by simpa using hj)]
 rwa [List.getElem?_drop] at this
theorem Ug{av:Type}:∀{l:List av}{i:Nat}{x:av},l[i]?=some x->l.set i x=l
 |[],_,_,_=>rfl
 |a::l,0,x,h=>by cases h;rfl
 |a::l,i+1,x,h=>by rw[List.set_cons_succ,Ug (by simpa using h)]
theorem ac2(l:List aF):(g8 l).length=l.length*2:=by
 induction l with
 |nil=>rfl
 |cons a l ih=>unfold g8 at ih⊢;rw[List.flatMap_cons,List.length_append,ih];simp[Am];omega
theorem Xs{t:cP}{al:Nat}{x:bZ}(y:bZ){out:aY}:p4 {t with ar:=t.ar.set al y} al x out=p4 t al x out:=by unfold p4;simp only[List.set_set]
theorem abT{l:ah}{t:cP}{al:Nat}{x:bZ}(y:bZ):lH l {t with ar:=t.ar.set al y} al x=lH l t al x:=by unfold lH;simp only[List.set_set,Xs]
set_option maxHeartbeats 16000000 in
theorem UW(l:ah)(hL:cr l)(Bt:kJ l)(want:List (List bl))(turns:List Int)(t:cP)(n k N:Nat)(hn:t.ar.length=n)(hw:want.length=n)(BI:n<=8)(hU:iR k N t)(J:k<=5000)(hN:N<=1000000)(al:Nat)(Lm:al<n)(cd:K)(cs:List K)(hC:lL t.calls cd cs):
 eI prog 58 [30,31,32,33,34,35] [.ptr 30 0,dP l,Gh want turns,E al] (fL t n cd cs) (λ d Y=>d=.bd []/\∃ly aS,lL (lI l want t al).calls ly aS/\Y=fL (lI l want t al) n ly aS):=by
 obtain⟨x,T⟩:∃x,t.ar[al]?=some x:=⟨t.ar[al]'(by omega),List.getElem?_eq_getElem _⟩;obtain⟨ws,jj⟩:∃ws,want[al]?=some ws:=⟨want[al],List.getElem?_eq_getElem (by omega)⟩;have qY:want[(al:Int).toNat]?=some ws:=by simpa using jj
 have vK:=hU.rd T;have hm:=hU.m;have cF:=hU.step;have sW:=hU.full;have YL:=hU.calls;have xB:=vK.next;obtain⟨m,step,ar,calls,full,cO,bad⟩:=t;simp only at hn T hm cF sW YL hC;have DH:lI l want ⟨m,step,ar,calls,full,cO,bad⟩ al=if x.op.kind=0 then(match ws[x.next]? with|none=>⟨m,step,ar,calls,full,cO,bad⟩|some op=>lH l ⟨m,step,ar,calls,full,cO,bad⟩ al ⟨op,[],[],x.next+1,x.gone⟩) else lH l ⟨m,step,ar,calls,full,cO,bad⟩ al x:=by
  unfold lI;simp only[T,jj]
  rfl
 have jB:=H0 ar;have sZ:=SY T 0 (by omega);have y6:(jl ar)[al]?=some (E x.next):=A6 (f:=λ x=>E x.next) T;have aad:(x.op.kind=0/\ws.length<=x.next)\/∃x1,((x.op.kind≠0/\x1=x)\/(x.op.kind=0/\∃op,ws[x.next]?=some op/\x1=⟨op,[],[],x.next+1,x.gone⟩)):=by
  by_cases h:x.op.kind=0
  ·by_cases F:ws.length<=x.next
   ·exact .inl ⟨h,F⟩
   ·exact .inr ⟨_,.inr ⟨h,ws[x.next],List.getElem?_eq_getElem (by omega),rfl⟩⟩
  ·exact .inr ⟨x,.inl ⟨h,rfl⟩⟩
 show eI prog 58 [30,31,32,33,34,35] [.ptr 30 0,dP l,Gh want turns,E al] [(30,[bX m,E step,.arr 31 0 n n,.arr 32 0 n n,.arr 33 0 n n,.arr 34 0 n n,.arr 35 0 n n,cd,E full,dB cO,dB bad]),(31,fG ar),(32,kA ar),(33,j7 ar),(34,jl ar),(35,kN ar),(36,cs)] _;refine sI func58 ntmps58 λ w cl own kf=>?_
 rcases aad with⟨A,F⟩|⟨x1,cj⟩
 ·rw[if_pos A,List.getElem?_eq_none F] at DH;simp only at DH;refine go ?_;refine aj (al*4) 4 ?_;refine im ?_;refine bh (jV aD rfl rfl rfl rfl rfl sZ) rfl rfl rfl ?_;refine go ?_;rw[show decide (x.op.kind=0)=true by rw[decide_eq_true_eq];exact A];refine go ?_;refine gW 13 [] ?_;refine rj al 1 ?_;refine cV (jV aD rfl rfl rfl rfl rfl y6) rfl rfl ?_;refine br ?_;refine ri [wa ws] (ER qY) ?_;refine qg ?_;rw[show decide ((x.next:Int)>=ws.length)=true by rw[decide_eq_true_eq];omega];refine go ?_;refine iB (fL ⟨m,step,ar,calls,full,cO,bad⟩ n cd cs) rfl rfl (by exact nM hC rfl rfl rfl rfl rfl rfl rfl) (by(repeat(first|exact trivial|refine⟨rfl,?_⟩))) ⟨rfl,cd,cs,?_,?_⟩
  ·rw[DH];exact hC
  ·rw[DH]
 ·have mK:lI l want ⟨m,step,ar,calls,full,cO,bad⟩ al=lH l ⟨m,step,ar.set al x1,calls,full,cO,bad⟩ al x1:=by
   rw[show lH l ⟨m,step,ar.set al x1,calls,full,cO,bad⟩ al x1=lH l ⟨m,step,ar,calls,full,cO,bad⟩ al x1 from abT (t:=⟨m,step,ar,calls,full,cO,bad⟩) x1,DH];rcases cj with⟨A,rfl⟩|⟨A,op,F,rfl⟩
   ·rw[if_neg A]
   ·rw[if_pos A,F]
  have pk:x1.log.length<=k/\x1.steps.length<=k/\x1.next<=k+1/\x1.gone.length+x1.log.length<=k/\eN x1.gone:=by
   rcases cj with⟨A,rfl⟩|⟨_,op,_,rfl⟩
   ·exact⟨vK.log,vK.steps,by have:=vK.next;omega,by have:=vK.gone.1;rw[Bk,if_neg A] at this;exact this,vK.gone.2⟩
   ·exact⟨by simp,by simp,by have:=vK.next;simp only;omega,by have:=vK.gone.1;have:=PK (x:=x);simp only[List.length_nil];omega,vK.gone.2⟩
  have qK:(ar.set al x1)[al]?=some x1:=by rw[List.getElem?_set_self (by omega)]
  have P8:(ar.set al x1).length=n:=by rw[List.length_set];exact hn
  generalize qJ:ar.set al x1=S1 at mK qK P8;obtain⟨Bz,Qi,iC,agQ,YG⟩:=pk;refine qA ?_;refine wN ?_;refine im ?_;refine nI ?_;refine FR ⟨[(0,.ptr 30 0),(3,E al),(5,.ptr 7 0),(6,.ptr 8 0)],[(7,cG l),(8,oX want turns),(30,[bX m,E step,.arr 31 0 n n,.arr 32 0 n n,.arr 33 0 n n,.arr 34 0 n n,.arr 35 0 n n,cd,E full,dB cO,dB bad]),(31,fG S1),(32,kA S1),(33,j7 S1),(34,jl S1),(35,kN S1),(36,cs)],[]⟩ ?_ ?_
  ·rcases cj with⟨A,rfl⟩|⟨A,op,jg,rfl⟩
   ·rw[Ug T] at qJ;subst qJ;refine go ?_;refine aj (al*4) 4 ?_;refine im ?_;refine bh (jV aD rfl rfl rfl rfl rfl sZ) rfl rfl rfl ?_;refine go ?_;rw[show decide (x1.op.kind=0)=false by rw[decide_eq_false_iff_not];exact A];refine go ?_;exact⟨rfl,zX (Z:=by exact⟨⟨rfl,rfl⟩,⟨rfl,rfl⟩,⟨rfl,mX (t:=⟨m,step,[],calls,full,cO,bad⟩) hC _ _ rfl rfl rfl rfl rfl rfl⟩,⟨rfl,jZ _ _ _⟩,⟨rfl,jW _ _ _⟩,⟨rfl,j8 _ _ _⟩,⟨rfl,jX _ _ _⟩,⟨rfl,jQ _ _ _⟩,⟨rfl,hC.pl _ _⟩,trivial⟩)⟩
   ·have Z9:ws[(x.next:Int).toNat]?=some op:=by simpa using jg
    have n8:x.next<ws.length:=(List.getElem?_eq_some_iff.1 jg).1;have Ez:=H1 (l:=ar) (i:=al) ⟨op,[],[],x.next+1,x.gone⟩ (by omega);have jD:((kA ar).set al (.p (.sl true 0 []))).map l7=kA (ar.set al ⟨op,[],[],x.next+1,x.gone⟩):=Dg (f:=λ x=>gT x.log) (λ _=>rfl) rfl;have vL:((j7 ar).set al (.p (.sl true 0 []))).map l7=j7 (ar.set al ⟨op,[],[],x.next+1,x.gone⟩):=Dg (f:=λ x=>bX x.steps) (λ _=>rfl) rfl;have hx:(jl ar).set al (E ((x.next:Int)+1))=jl (ar.set al ⟨op,[],[],x.next+1,x.gone⟩):=by rw[jl,jl,List.map_set];congr 1
    have zj:kN (ar.set al ⟨op,[],[],x.next+1,x.gone⟩)=kN ar:=tp T rfl;rw[qJ] at Ez jD vL hx zj;refine go ?_;refine aj (al*4) 4 ?_;refine im ?_;refine bh (jV aD rfl rfl rfl rfl rfl sZ) rfl rfl rfl ?_;refine go ?_;rw[show decide (x.op.kind=0)=true by rw[decide_eq_true_eq];exact A];refine go ?_;refine gW 13 [] ?_;refine rj al 1 ?_;refine cV (jV aD rfl rfl rfl rfl rfl y6) rfl rfl ?_;refine br ?_;refine ri [wa ws] (ER qY) ?_;refine qg ?_;rw[show decide ((x.next:Int)>=ws.length)=false by rw[decide_eq_false_iff_not];omega];refine go ?_;refine gW 19 [] ?_;refine ri [wa ws] (ER qY) ?_;refine br ?_;refine rj al 1 ?_;refine cV (jV aD rfl rfl rfl rfl rfl y6) rfl rfl ?_;refine br ?_;refine ri [pI op.kind,pI op.obj,pI op.a,pI op.b] (acI Z9) ?_;refine qg ?_;refine aj (al*4) 4 ?_;refine Jd aD (fG S1) rfl rfl rfl rfl rfl rfl rfl rfl rfl (by rw[jB];show al*4+4<=_;omega) Ez ?_;refine go ?_;refine aj al 1 ?_;refine bh (jV aD rfl rfl rfl rfl rfl y6) rfl rfl rfl ?_;refine go ?_;refine aj al 1 ?_;refine pQ aD rfl rfl rfl rfl rfl rfl rfl rfl rfl (by show al<(jl ar).length;rw[List.length_map];omega) ?_;rw[hx];refine go ?_;refine aj al 1 ?_;refine pQ aD rfl rfl rfl rfl rfl rfl rfl rfl rfl (by show al<(kA ar).length;rw[List.length_map];omega) ?_;refine nT (q6 32 rfl jD) ?_;refine go ?_;refine aj al 1 ?_;refine pQ aD rfl rfl rfl rfl rfl rfl rfl rfl rfl (by show al<(j7 ar).length;rw[List.length_map];omega) ?_;refine nT (q6 33 rfl vL) ?_;rw[<-zj];refine go ?_
    exact⟨rfl,zX (Z:=by exact⟨⟨rfl,rfl⟩,⟨rfl,rfl⟩,⟨rfl,mX (t:=⟨m,step,[],calls,full,cO,bad⟩) hC _ _ rfl rfl rfl rfl rfl rfl⟩,⟨rfl,jZ _ _ _⟩,⟨rfl,jW _ _ _⟩,⟨rfl,j8 _ _ _⟩,⟨rfl,jX _ _ _⟩,⟨rfl,jQ _ _ _⟩,⟨rfl,hC.pl _ _⟩,trivial⟩)⟩
  have Z8:=H0 S1;obtain⟨aet,jh⟩:=HZ qK;have jT:(kN S1)[al]?=some (eh x1.gone):=A6 (f:=λ x=>eh x.gone) qK;have jU:(kA S1)[al]?=some (gT x1.log):=A6 (f:=λ x=>gT x.log) qK;have fe:(j7 S1)[al]?=some (bX x1.steps):=A6 (f:=λ x=>bX x.steps) qK;have Kd:=SR l hL hL.ar.1 Bt al (by omega) x1.gone x1.op x1.log YG (by omega) (by omega);unfold lH at mK;simp only at mK;generalize pG l al x1.gone x1.op x1.log=r at Kd mK;obtain⟨a,out,dn⟩:=r;dsimp only[sH] at Kd;simp only at mK;refine go ?_;refine gW 32 [] ?_;refine rj al 1 ?_;refine cV (jV aD rfl rfl rfl rfl rfl jT) rfl rfl ?_;refine br ?_;refine rj (al*4) 4 ?_;refine cV (mQ aD (r9 x1.op) aet rfl rfl rfl rfl rfl (by show _<=(fG S1).length;omega) jh rfl) rfl rfl ?_;refine br ?_;refine rj al 1 ?_;refine cV (jV aD rfl rfl rfl rfl rfl jU) rfl rfl ?_;refine gQ Kd ?_;refine go ?_;cases dn
  ·simp only[Bool.false_eq_true,↓reduceIte] at mK;have hM:=abK m a (by omega);have nv:=FE m a;generalize zq:(cO||vr l m a)=wi at mK;refine Dk ?_;refine FT ?_;refine nI ?_;refine FR ⟨[(0,.ptr 30 0),(3,E al),(8,.ptr 9 0)],[(7,cG l),(8,oX want turns),(9,[E a.kind,E a.cell,E a.dg,E a.new]),(30,[bX m,E step,.arr 31 0 n n,.arr 32 0 n n,.arr 33 0 n n,.arr 34 0 n n,.arr 35 0 n n,cd,E full,dB wi,dB bad]),(31,fG S1),(32,kA S1),(33,j7 S1),(34,jl S1),(35,kN S1),(36,cs)],[]⟩ ?_ ?_
   ·cases cO
    ·refine go ?_;refine il (XO l hL ⟨m,step,S1,calls,full,false,bad⟩ n cd cs hC a) rfl (λ a w=>call102 a w) rfl rfl (by exact nM hC rfl rfl rfl rfl rfl rfl rfl) (by(repeat(first|exact trivial|refine⟨.inr rfl,?_⟩|refine⟨.inl rfl,?_⟩))) rfl rfl rfl rfl ?_ ?_
     ·rintro d Y ⟨rfl,rfl⟩;exact⟨.inl rfl,.inl rfl,.inl rfl,.inl rfl,.inl rfl,.inl rfl,.inl rfl,trivial⟩
     rintro d Y ⟨rfl,rfl⟩;rw[Bool.false_or] at zq;rw[show vr l (cP.m ⟨m,step,S1,calls,full,false,bad⟩) a=wi from zq];refine go ?_;exact⟨rfl,zX (Z:=by exact⟨⟨rfl,rfl⟩,⟨rfl,rfl⟩,⟨rfl,rfl⟩,⟨rfl,mX (t:=⟨m,step,[],calls,full,wi,bad⟩) hC _ _ rfl rfl rfl rfl rfl rfl⟩,⟨rfl,jZ _ _ _⟩,⟨rfl,jW _ _ _⟩,⟨rfl,j8 _ _ _⟩,⟨rfl,jX _ _ _⟩,⟨rfl,jQ _ _ _⟩,⟨rfl,hC.pl _ _⟩,trivial⟩)⟩
    ·rw[Bool.true_or] at zq;subst zq;refine go ?_;exact⟨rfl,zX (Z:=by exact⟨⟨rfl,rfl⟩,⟨rfl,rfl⟩,⟨rfl,rfl⟩,⟨rfl,mX (t:=⟨m,step,[],calls,full,true,bad⟩) hC _ _ rfl rfl rfl rfl rfl rfl⟩,⟨rfl,jZ _ _ _⟩,⟨rfl,jW _ _ _⟩,⟨rfl,j8 _ _ _⟩,⟨rfl,jX _ _ _⟩,⟨rfl,jQ _ _ _⟩,⟨rfl,hC.pl _ _⟩,trivial⟩)⟩
   ·refine go ?_;unfold Cc at hM
    by_cases hf:nc m.length a=0
    ·rw[if_pos hf] at hM mK;generalize ii m a=afw at hM mK nv;obtain⟨m1,rs⟩:=afw;dsimp only at hM mK nv;refine dW 14 [] ?_;refine gQ hM ?_;refine go ?_;rw[show decide ((0:Int)=0)=true from rfl];refine go ?_;refine gW 17 [] ?_;refine rj al 1 ?_;refine cV (jV aD rfl rfl rfl rfl rfl jU) rfl rfl ?_;refine br ?_;refine TC (fU:=0) (m:=x1.log.length) (ps:=[]) (qs:=g8 x1.log) aD 0 rfl rfl rfl rfl rfl rfl rfl rfl rfl rfl rfl rfl rfl (ac2 x1.log) (by unfold maxLen;omega) (by show(_+_)*16<=_;omega) ?_;rw[show 0+x1.log.length=x1.log.length from Nat.zero_add _,List.nil_append];refine br ?_;refine tx (m:=1) (qs:=Am rs) aD rfl rfl rfl rfl rfl rfl rfl rfl rfl rfl rfl rfl rfl (by unfold maxLen;omega) (by show(_+_)*16<=_;omega) ?_;rw[show g8 x1.log++Am rs=g8 (x1.log++[rs]) by simp[g8],show x1.log.length+1=(x1.log++[rs]).length by simp];refine qg ?_;refine aj al 1 ?_;refine pQ aD rfl rfl rfl rfl rfl rfl rfl rfl rfl (by show al<(kA S1).length;rw[List.length_map];omega) ?_;have QZ:((kA S1).set al (.aW 0 (x1.log++[rs]).length (g8 (x1.log++[rs])))).map l7=kA (S1.set al {x1 with log:=x1.log++[rs],steps:=x1.steps++[step]}):=Dg (f:=λ x=>gT x.log) (λ _=>rfl) rfl;have ci:((j7 S1).set al (.aW 1 (x1.steps++[step]).length (cy (x1.steps++[step])))).map l7=j7 (S1.set al {x1 with log:=x1.log++[rs],steps:=x1.steps++[step]}):=Dg (f:=λ x=>bX x.steps) (λ _=>rfl) rfl;have e1:fG (S1.set al {x1 with log:=x1.log++[rs],steps:=x1.steps++[step]})=fG S1:=acJ qK rfl
     have e2:jl (S1.set al {x1 with log:=x1.log++[rs],steps:=x1.steps++[step]})=jl S1:=tp qK rfl;have e3:kN (S1.set al {x1 with log:=x1.log++[rs],steps:=x1.steps++[step]})=kN S1:=tp qK rfl;generalize S1.set al {x1 with log:=x1.log++[rs],steps:=x1.steps++[step]}=S2 at mK QZ ci e1 e2 e3;refine nT (q6 32 rfl QZ) ?_;refine go ?_;refine gW 20 [] ?_;refine rj al 1 ?_;refine cV (jV aD rfl rfl rfl rfl rfl fe) rfl rfl ?_;refine br ?_;refine TC (fU:=0) (m:=x1.steps.length) (ps:=[]) (qs:=cy x1.steps) aD 1 rfl rfl rfl rfl rfl rfl rfl rfl rfl rfl rfl rfl rfl (by rw[v8];exact(Nat.mul_one _).symm) (by unfold maxLen;omega) (by show(_+_)*8<=_;omega) ?_;rw[show 0+x1.steps.length=x1.steps.length from Nat.zero_add _,List.nil_append];refine br ?_;refine tx (m:=1) (qs:=[pI step]) aD rfl rfl rfl rfl rfl rfl rfl rfl rfl rfl rfl rfl rfl (by unfold maxLen;omega) (by show(_+_)*8<=_;omega) ?_;rw[oW,show x1.steps.length+1=(x1.steps++[step]).length by simp];refine qg ?_;refine aj al 1 ?_;refine pQ aD rfl rfl rfl rfl rfl rfl rfl rfl rfl (by show al<(j7 S1).length;rw[List.length_map];omega) ?_;refine nT (q6 33 rfl ci) ?_;refine go ?_;refine km (fL ⟨m1,step+1,S2,calls,full,wi,bad⟩ n cd cs) rfl rfl (by refine nM hC rfl ?_ rfl rfl ?_ ?_ rfl<;>(try simp only[e1,e2,e3])<;>rfl) (by(repeat(first|exact trivial|refine⟨rfl,?_⟩))) ⟨rfl,cd,cs,?_,?_⟩
     ·rw[mK];exact hC
     ·rw[mK]
    ·rw[if_neg hf] at hM mK;refine dW 14 [] ?_;refine gQ hM ?_;refine go ?_;rw[show decide (nc m.length a=0)=false by rw[decide_eq_false_iff_not];exact hf];refine go ?_;refine aj (al*4) 4 ?_;have Rm:=H1 (l:=S1) (i:=al) {x1 with op:=lE} (by omega);have e1:kA (S1.set al {x1 with op:=lE})=kA S1:=tp qK rfl;have e2:j7 (S1.set al {x1 with op:=lE})=j7 S1:=tp qK rfl;have e3:jl (S1.set al {x1 with op:=lE})=jl S1:=tp qK rfl;have e4:kN (S1.set al {x1 with op:=lE})=kN S1:=tp qK rfl;generalize S1.set al {x1 with op:=lE}=S2 at mK Rm e1 e2 e3 e4;refine Jd aD (fG S2) rfl rfl rfl rfl rfl rfl rfl rfl rfl (by rw[Z8];show al*4+4<=_;omega) Rm ?_;refine go ?_;refine iB (fL ⟨m,step,S2,calls,full,wi,true⟩ n cd cs) rfl rfl (by refine nM hC rfl rfl ?_ ?_ ?_ ?_ rfl<;>(try simp only[e1,e2,e3,e4])<;>rfl) (by(repeat(first|exact trivial|refine⟨rfl,?_⟩))) ⟨rfl,cd,cs,?_,?_⟩
     ·rw[mK];exact hC
     ·rw[mK]
  ·simp only[↓reduceIte] at mK;refine Jt ?_;refine go ?_;refine il (Xq ⟨m,step,S1,calls,full,cO,bad⟩ n al x1 out P8 BI qK (by omega) ⟨sW.1,by show full<=100000;omega⟩ (by show calls.length<=100000;omega) cd cs hC) rfl (λ a w=>call101 a w) rfl rfl (by exact nM hC rfl rfl rfl rfl rfl rfl rfl) (by(repeat(first|exact trivial|refine⟨.inr rfl,?_⟩|refine⟨.inl rfl,?_⟩))) rfl rfl rfl rfl ?_ ?_
   ·rintro d Y ⟨rfl,ly,aS,mh,rfl⟩;exact⟨.inl rfl,.inl rfl,.inl rfl,.inl rfl,.inl rfl,.inl rfl,.inl rfl,trivial⟩
   rintro d Y ⟨rfl,ly,aS,mh,rfl⟩;refine go ?_;rw[<-mK] at mh⊢;refine iB (fL (lI l want ⟨m,step,ar,calls,full,cO,bad⟩ al) n ly aS) rfl rfl (by exact nM mh rfl rfl rfl rfl rfl rfl rfl) (by(repeat(first|exact trivial|refine⟨rfl,?_⟩))) ⟨rfl,ly,aS,mh,rfl⟩
theorem aep(n:Nat)(ds:List K)(f:bZ->List K)(h:f mn=ds):(List.replicate n ds).flatten=(List.replicate n mn).flatMap f:=by rw[List.flatMap_def,List.map_replicate,h]
theorem Ig(n:Nat)(d:K):(List.replicate n [d]).flatten=List.replicate n d:=by
 induction n with
 |zero=>rfl
 |succ n ih=>rw[List.replicate_succ,List.flatten_cons,ih];rfl
theorem MG(n:Nat)(d:K)(f:bZ->K)(h:l7 d=f mn):(List.replicate n d).map l7=(List.replicate n mn).map f:=by rw[List.map_replicate,List.map_replicate,h]
theorem aeq(n:Nat)(d:K)(f:bZ->K)(h:d=f mn):List.replicate n d=(List.replicate n mn).map f:=by rw[List.map_replicate,h]
structure CY(l:ah):Prop where
 ok:cr l
 m:kJ l
 b:1<=l.buckets
 maps:0<=l.maps/\l.maps<=8
 bo:0<=l.bo/\l.bo<=8
 nodes:l.nodes<=20000
 size:0<=l.size/\l.size<=20000
 afl:I5 l.size.toNat (ol l)
theorem acz(l:ah)(h:CY l):(ol l).length<=100000:=by
 have A:=Lq l l.maps.toNat;have F:=Lp l l.bo.toNat;have O:=h.maps;have h4:=h.bo;have h5:(pR l (l.maps+l.bo+1).toNat).length<=20002:=by
  have:=h.nodes;have:=h.size;unfold pR;split
  ·simp
  ·unfold BT;rw[List.length_append,BU];simp;omega
 rw[Mb];simp only[List.length_append,List.length_cons,List.length_nil];omega
set_option maxHeartbeats 8000000 in
theorem afp(l:ah)(hO:CY l)(n:Nat)(BI:n<=8):
 eI prog 57 [] [dP l,E n] [] (λ d Y=>d=.ptr 30 0/\∃cs,lL [] (.p (.sl true 0 [])) cs/\Y=fL (qj l n) n (.p (.sl true 0 [])) cs):=by
 have hL:=hO.ok;have Bt:=hO.m;have ci:((l.size.toNat:Nat):Int)=l.size:=by have:=hO.size;omega
 have ahw:l.size.toNat<=20000:=by have:=hO.size;omega
 have kP:=abL l.size.toNat (by omega);rw[ci] at kP;have ni:=acz l hO;have dF:=aea (List.replicate l.size.toNat 0) (ol l) (by rw[List.length_replicate];exact hO.afl) (by rw[List.length_replicate];omega) ni;have QN:=aek l hL Bt hO.b hO.maps hO.bo;have hm:(qy (List.replicate l.size.toNat 0) (List.replicate l.size.toNat 0) [] (ol l)).1=uA l:=rfl;rw[hm] at dF;have YJ:qj l n=⟨uA (l),0,List.replicate n mn,[],0,false,false⟩:=rfl;rw[YJ];have yJ:∀m:List Int,lL [] (.p (.sl true 0 [])) [bX m]:=λ m=>⟨λ _ _=>rfl,.inl ⟨rfl,rfl⟩⟩
 generalize(qy (List.replicate l.size.toNat 0) (List.replicate l.size.toNat 0) [] (ol l)).2=R at dF;obtain⟨told,er⟩:=R;simp only at dF;generalize uA l=m0 at dF;generalize ol l=af7 at dF QN ni;clear hO;refine sI func57 ntmps57 λ w cl own kf=>?_
 refine go ?_;refine dW 13 [] ?_;refine gQ kP ?_;refine cQ QN ?_;refine br ?_;refine cQ dF ?_;refine E7 aD rfl rfl rfl ?_;refine E7 aD rfl rfl rfl ?_;refine E7 aD rfl rfl rfl ?_;refine E7 aD rfl rfl rfl ?_;refine sj (wH aD 36 rfl rfl rfl rfl) rfl rfl rfl rfl ?_;refine qg ?_;refine gW 11 [] ?_;refine sj (EQ aD 31 (fG (List.replicate n mn)) rfl rfl rfl rfl rfl rfl rfl rfl rfl (by show _*32<=_;omega) (by unfold maxLen;omega) (aep n _ (λ x=>r9 x.op) rfl)) rfl rfl rfl rfl ?_;refine br ?_;refine sj (EQ aD 32 (List.replicate n (.p (.sl true 0 []))) rfl rfl rfl rfl rfl rfl rfl rfl rfl (by show _*24<=_;omega) (by unfold maxLen;omega) (Ig n _)) rfl rfl rfl rfl ?_;refine br ?_;refine sj (EQ aD 33 (List.replicate n (.p (.sl true 0 []))) rfl rfl rfl rfl rfl rfl rfl rfl rfl (by show _*24<=_;omega) (by unfold maxLen;omega) (Ig n _)) rfl rfl rfl rfl ?_;refine br ?_;refine sj (EQ aD 34 (jl (List.replicate n mn)) rfl rfl rfl rfl rfl rfl rfl rfl rfl (by show _*8<=_;omega) (by unfold maxLen;omega) ((Ig n _).trans (aeq n _ (λ x=>E x.next) rfl))) rfl rfl rfl rfl ?_;refine br ?_;refine sj (EQ aD 35 (List.replicate n (.p (.sl true 0 []))) rfl rfl rfl rfl rfl rfl rfl rfl rfl (by show _*24<=_;omega) (by unfold maxLen;omega) (Ig n _)) rfl rfl rfl rfl ?_;refine br ?_;refine nT (q6 32 rfl (MG n _ (λ x=>gT x.log) rfl)) ?_;refine nT (q6 33 rfl (MG n _ (λ x=>bX x.steps) rfl)) ?_;refine nT (q6 35 rfl (MG n _ (λ x=>eh x.gone) rfl)) ?_;refine bh (A4 aD rfl rfl rfl) rfl rfl rfl ?_;refine bA 30 ?_;refine go ?_
 refine iB (fL ⟨m0,0,List.replicate n mn,[],0,false,false⟩ n (.p (.sl true 0 [])) [bX m0]) rfl rfl (by exact nM (yJ m0) rfl rfl rfl rfl rfl rfl rfl) (by(repeat(first|exact trivial|refine⟨rfl,?_⟩))) ⟨rfl,_,yJ m0,rfl⟩
theorem OJ(l:ah)(n:Nat):iR 0 (uA l).length (qj l n):=by
 have hs:∀x∈(qj l n).ar,x=mn:=λ x T=>by
  have eA:x∈List.replicate n mn:=T;exact(List.mem_replicate.1 eA).2
 refine⟨rfl,λ x T=>?_,λ x T=>?_,λ x T=>?_,λ x T=>?_,⟨Int.le_refl _,Int.le_refl _⟩,⟨Int.le_refl _,Int.le_refl _⟩,Nat.le_refl _⟩
 all_goals rw[hs x T]
 ·exact Nat.le_refl _
 ·exact Nat.le_refl _
 ·exact Nat.le_refl _
 ·exact⟨Nat.le_refl _,λ p hp=>by cases hp⟩
abbrev O8(l:List eO):K:=.p (.sl false l.length (se l))
theorem acX(l:List eO):∀x∈se l,x.lf=true:=by intro x T;unfold se at T;rw[List.mem_flatMap] at T;obtain⟨c,_,L⟩:=T;simp only[List.mem_cons,List.not_mem_nil,or_false] at L;rcases L with rfl|rfl|rfl|rfl|rfl|rfl|rfl|rfl|rfl|rfl<;>rfl
abbrev nL(t:cP)(n:Nat):bJ:=[(30,x8 t n (O8 t.calls)),(31,fG t.ar),(32,kA t.ar),(33,j7 t.ar),(34,jl t.ar),(35,kN t.ar)]
theorem UJ{M:St}{t:cP}{n:Nat}(h0:kv M.b 30=some (x8 t n (O8 t.calls)))(A:kv M.b 31=some (fG t.ar))(F:kv M.b 32=some (kA t.ar))(O:kv M.b 33=some (j7 t.ar))(h4:kv M.b 34=some (jl t.ar))(h5:kv M.b 35=some (kN t.ar)):jN M (aI (nL t n)) (nL t n):=
 ⟨⟨h0,rfl⟩,⟨A,jZ _ _ _⟩,⟨F,jW _ _ _⟩,⟨O,j8 _ _ _⟩,⟨h4,jX _ _ _⟩,⟨h5,jQ _ _ _⟩,trivial⟩
theorem drop_cons{av:Type}{l:List av}{i:Nat}{x:av}(h:l[i]?=some x):l.drop i=x::l.drop (i+1):=by obtain⟨A,F⟩:=List.getElem?_eq_some_iff.1 h;rw[List.drop_eq_getElem_cons A,F]
theorem afD{l:ah}{want:List (List bl)}{t:cP}{turns:List Int}{i:Nat}{x:Int}(h:turns[i]?=some x)(f:Int->Nat):qm l want t ((turns.drop i).map f)=qm l want (lI l want t (f x)) ((turns.drop (i+1)).map f):=by rw[drop_cons h,List.map_cons,qm]
theorem U0{k N:Nat}{t:cP}{b:Bool}(h:iR k N t):iR k N {t with bad:=b}:=⟨h.m,h.log,h.steps,h.next,h.gone,h.step,h.full,h.calls⟩
set_option maxHeartbeats 16000000 in
theorem Tl(l:ah)(hO:CY l)(want:List (List bl))(turns:List Int)(agB:1<=want.length)(agE:want.length<=3)(ahy:turns.length<=300)(Lh:∀x∈turns,0<=x/\x<256)(rV:∀w∈want,w.length<=1000):
 eI prog 21 [] [dP l,Gh want turns] [] (λ d Y=>d=.ptr 30 0/\Y=nL (uE l want turns) want.length):=by
 have hL:=hO.ok;have Bt:=hO.m;have hB:=afp l hO want.length (by omega);have Qb:=OJ l want.length;have ci:(uA l).length<=1000000:=by rw[acw];have:=hO.size;omega
 have iC:(qj l want.length).ar.length=want.length:=by simp[qj]
 generalize I:uE l want turns=aQ;unfold uE at I;have ue:(qj l want.length).calls=[]:=rfl;generalize qj l want.length=T0 at*;generalize(uA l).length=N at*;clear hO;generalize hn:want.length=n at*;have hw:=hn;have BI:n<=8:=by omega
 have hN:=ci;have J6:eI prog 57 [] [dP l,E (want.length:Nat)] [] (λ d Y=>d=.ptr 30 0/\∃cs,lL [] (.p (.sl true 0 [])) cs/\Y=fL T0 n (.p (.sl true 0 [])) cs):=by rw[hw];exact hB
 refine sI func21 ntmps21 λ w cl own kf=>?_
 refine go ?_;refine cI J6 ?_;rintro d Y ⟨rfl,lP,yJ,rfl⟩;refine go ?_;refine FU (d7:=cP×K×List K) (.exit 0) (λ p=>⟨[(5,.ptr 30 0),(2,.ptr 0 0),(3,.ptr 1 0)],(0,cG l)::(1,oX want turns)::fL p.1 n p.2.1 p.2.2,[]⟩) (λ p=>p.1=qm l want T0 (turns.map λ x=>(x%(n:Int)).toNat)/\iR 300 N p.1/\p.1.ar.length=n/\lL p.1.calls p.2.1 p.2.2) ?_ ?_
 ·refine cn (λ p:Nat×cP×K×List K=>p.1<=turns.length/\qm l want p.2.1 ((turns.drop p.1).map λ x=>(x%(n:Int)).toNat)=qm l want T0 (turns.map λ x=>(x%(n:Int)).toNat)/\iR p.1 N p.2.1/\p.2.1.ar.length=n/\lL p.2.1.calls p.2.2.1 p.2.2.2) (λ p=>⟨[(6,E p.1),(5,.ptr 30 0),(2,.ptr 0 0),(3,.ptr 1 0)],(0,cG l)::(1,oX want turns)::fL p.2.1 n p.2.2.1 p.2.2.2,[]⟩) (λ p=>turns.length-p.1) (0,T0,.p (.sl true 0 []),lP) ⟨Nat.zero_le _,rfl,Qb,iC,by simp only;rw[ue];exact yJ⟩ (zX (Z:=by exact⟨⟨rfl,rfl⟩,⟨rfl,rfl⟩,⟨rfl,mX (t:=T0) yJ _ _ rfl rfl rfl rfl rfl rfl⟩,⟨rfl,jZ _ _ _⟩,⟨rfl,jW _ _ _⟩,⟨rfl,j8 _ _ _⟩,⟨rfl,jX _ _ _⟩,⟨rfl,jQ _ _ _⟩,⟨rfl,yJ.pl _ _⟩,trivial⟩)) ?_;rintro⟨i,t,cd,cs⟩ ⟨hi,hT,hU,hn,hC⟩;simp only at hi hT hU hn hC;refine(show aP _ _ _ _ ⟨[(6,E i),(5,.ptr 30 0),(2,.ptr 0 0),(3,.ptr 1 0)],(0,cG l)::(1,oX want turns)::fL t n cd cs,[]⟩ from ?_);refine go ?_;refine dk (λ A=>?_) (λ A=>?_)<;>try rw[A]
  ·have aU:=of_decide_eq_true A;obtain⟨x,T⟩:=nh (l:=turns) (i:=i) (by omega) aU;have eA:=T;simp only[Int.toNat_natCast] at eA;have ahC:=Lh x (List.mem_of_getElem? eA);have ahc:0<=x%(want.length:Int)/\x%(want.length:Int)<want.length:=⟨Int.emod_nonneg _ (by omega),Int.emod_lt_of_pos _ (by omega)⟩;rw[afD eA (λ x=>(x%(n:Int)).toNat),<-hw] at hT;obtain⟨al,Ru⟩:∃w:Nat,(w:Int)=x%(want.length:Int):=⟨(x%(want.length:Int)).toNat,by omega⟩;rw[<-Ru,Int.toNat_natCast,hw] at hT;refine go ?_;refine gW 13 [] ?_;refine ri [p8 x] (ER (f:=p8) T) ?_;refine br ?_;rw[show IntKind.i64.wrap x=x from eU (by omega) (by omega)];refine cV (Fa rfl rfl rfl (by omega) (by omega)) rfl rfl ?_;rw[<-Ru];refine qg ?_;refine il (UW l hL Bt want turns t n (i) N hn hw BI hU (by omega) hN al (by omega) cd cs hC) rfl (λ a w=>call58 a w) rfl rfl (by exact nM hC rfl rfl rfl rfl rfl rfl rfl) (by(repeat(first|exact trivial|refine⟨.inr rfl,?_⟩|refine⟨.inl rfl,?_⟩))) rfl rfl rfl rfl ?_ ?_
   ·rintro d Y ⟨rfl,ly,aS,mh,rfl⟩;exact⟨.inl rfl,.inl rfl,.inl rfl,.inl rfl,.inl rfl,.inl rfl,.inl rfl,trivial⟩
   rintro d Y ⟨rfl,ly,aS,mh,rfl⟩;refine go ?_;exact⟨(i+1,lI l want t al,ly,aS),⟨by simp only;omega,hT,IA hU hL.ar.1,by simp only;rw[UY];exact hn,mh⟩,by simp only;omega,zX (Z:=by exact⟨⟨rfl,rfl⟩,⟨rfl,rfl⟩,⟨rfl,mX (t:=lI l want t al) mh _ _ rfl rfl rfl rfl rfl rfl⟩,⟨rfl,jZ _ _ _⟩,⟨rfl,jW _ _ _⟩,⟨rfl,j8 _ _ _⟩,⟨rfl,jX _ _ _⟩,⟨rfl,jQ _ _ _⟩,⟨rfl,mh.pl _ _⟩,trivial⟩)⟩
  ·have aU:=of_decide_eq_false A;rw[List.drop_of_length_le (by omega)] at hT;refine go ?_;exact⟨rfl,(t,cd,cs),⟨hT,hU.mono (by omega),hn,hC⟩,zX (Z:=by exact⟨⟨rfl,rfl⟩,⟨rfl,rfl⟩,⟨rfl,mX (t:=t) hC _ _ rfl rfl rfl rfl rfl rfl⟩,⟨rfl,jZ _ _ _⟩,⟨rfl,jW _ _ _⟩,⟨rfl,j8 _ _ _⟩,⟨rfl,jX _ _ _⟩,⟨rfl,jQ _ _ _⟩,⟨rfl,hC.pl _ _⟩,trivial⟩)⟩
 rintro cb ⟨t,cd,cs⟩ ⟨hT,hU,hn,hC⟩ fm;refine zR (zM (ey fm ?_));clear fm;simp only at hT hU hn hC;rw[<-hT] at I;clear hT Qb iC ue yJ;refine(show aP _ _ _ _ ⟨[(5,.ptr 30 0),(2,.ptr 0 0),(3,.ptr 1 0)],(0,cG l)::(1,oX want turns)::fL t n cd cs,[]⟩ from ?_);refine go ?_;refine FU (d7:=cP×K×List K) (.exit 2) (λ p=>⟨[(5,.ptr 30 0),(2,.ptr 0 0),(3,.ptr 1 0)],(0,cG l)::(1,oX want turns)::fL p.1 n p.2.1 p.2.2,[]⟩) (λ p=>p.1=aQ/\lL p.1.calls p.2.1 p.2.2) ?_ ?_
 ·refine cn (λ p:Nat×cP×K×List K=>p.1<=n/\ql l want p.1 (n-p.1) p.2.1=aQ/\iR (300+1500*p.1) N p.2.1/\p.2.1.ar.length=n/\lL p.2.1.calls p.2.2.1 p.2.2.2) (λ p=>⟨[(7,E p.1),(5,.ptr 30 0),(2,.ptr 0 0),(3,.ptr 1 0)],(0,cG l)::(1,oX want turns)::fL p.2.1 n p.2.2.1 p.2.2.2,[]⟩) (λ p=>n-p.1) (0,t,cd,cs) ⟨Nat.zero_le _,I,hU,hn,hC⟩ (zX (Z:=by exact⟨⟨rfl,rfl⟩,⟨rfl,rfl⟩,⟨rfl,mX (t:=t) hC _ _ rfl rfl rfl rfl rfl rfl⟩,⟨rfl,jZ _ _ _⟩,⟨rfl,jW _ _ _⟩,⟨rfl,j8 _ _ _⟩,⟨rfl,jX _ _ _⟩,⟨rfl,jQ _ _ _⟩,⟨rfl,hC.pl _ _⟩,trivial⟩)) ?_;clear I hU hn hC;rintro⟨al,t,cd,cs⟩ ⟨Lm,hT,hU,hn,hC⟩;simp only at Lm hT hU hn hC;refine(show aP _ _ _ _ ⟨[(7,E al),(5,.ptr 30 0),(2,.ptr 0 0),(3,.ptr 1 0)],(0,cG l)::(1,oX want turns)::fL t n cd cs,[]⟩ from ?_);refine go ?_;refine dk (λ F=>?_) (λ F=>?_)<;>try rw[F]
  ·have bB:=of_decide_eq_true F;have aaM:al<n:=by omega
   obtain⟨ws,jj⟩:∃ws,want[al]?=some ws:=⟨want[al],List.getElem?_eq_getElem (by omega)⟩;have qY:want[(al:Int).toNat]?=some ws:=by simpa using jj
   have ahB:=rV ws (List.mem_of_getElem? jj);rw[show n-al=(n-(al+1))+1 by omega,ql] at hT;refine go ?_;refine FU (d7:=cP×K×List K) (.exit 4) (λ p=>⟨[(7,E al),(5,.ptr 30 0),(2,.ptr 0 0),(3,.ptr 1 0)],(0,cG l)::(1,oX want turns)::fL p.1 n p.2.1 p.2.2,[]⟩) (λ p=>p.1=jY l want al 1500 t/\iR (300+1500*(al+1)) N p.1/\p.1.ar.length=n/\lL p.1.calls p.2.1 p.2.2) ?_ ?_
   ·refine cn (λ p:Nat×cP×K×List K=>p.1<=1500/\jY l want al (1500-p.1) p.2.1=jY l want al 1500 t/\iR (300+1500*al+p.1) N p.2.1/\p.2.1.ar.length=n/\lL p.2.1.calls p.2.2.1 p.2.2.2) (λ p=>⟨[(8,E p.1),(7,E al),(5,.ptr 30 0),(2,.ptr 0 0),(3,.ptr 1 0)],(0,cG l)::(1,oX want turns)::fL p.2.1 n p.2.2.1 p.2.2.2,[]⟩) (λ p=>1500-p.1) (0,t,cd,cs) ⟨Nat.zero_le _,rfl,hU,hn,hC⟩ (zX (Z:=by exact⟨⟨rfl,rfl⟩,⟨rfl,rfl⟩,⟨rfl,mX (t:=t) hC _ _ rfl rfl rfl rfl rfl rfl⟩,⟨rfl,jZ _ _ _⟩,⟨rfl,jW _ _ _⟩,⟨rfl,j8 _ _ _⟩,⟨rfl,jX _ _ _⟩,⟨rfl,jQ _ _ _⟩,⟨rfl,hC.pl _ _⟩,trivial⟩)) ?_;clear hT hU hn hC;generalize jY l want al 1500 t=agh;rintro⟨i,t,cd,cs⟩ ⟨hi,hT,hU,hn,hC⟩;simp only at hi hT hU hn hC;obtain⟨m,step,ar,calls,full,cO,bad⟩:=t;refine(show aP _ _ _ _ ⟨[(8,E i),(7,E al),(5,.ptr 30 0),(2,.ptr 0 0),(3,.ptr 1 0)],(0,cG l)::(1,oX want turns)::fL ⟨m,step,ar,calls,full,cO,bad⟩ n cd cs,[]⟩ from ?_);refine go ?_;generalize O:decide ((i:Int)<1500)=cc;cases cc
    ·have dt:=of_decide_eq_false O;rw[show 1500-i=0 by omega,jY] at hT;refine go ?_;exact⟨rfl,(_,cd,cs),⟨hT,hU.mono (by omega),hn,hC⟩,zX (Z:=by exact⟨⟨rfl,rfl⟩,⟨rfl,rfl⟩,⟨rfl,mX (t:=⟨m,step,ar,calls,full,cO,bad⟩) hC _ _ rfl rfl rfl rfl rfl rfl⟩,⟨rfl,jZ _ _ _⟩,⟨rfl,jW _ _ _⟩,⟨rfl,j8 _ _ _⟩,⟨rfl,jX _ _ _⟩,⟨rfl,jQ _ _ _⟩,⟨rfl,hC.pl _ _⟩,trivial⟩)⟩
    ·have dt:=of_decide_eq_true O;rw[show 1500-i=(1500-(i+1))+1 by omega,jY] at hT;simp only at hT;refine go ?_;cases bad
     ·rw[if_neg (by decide)] at hT;refine go ?_;refine il (UW l hL Bt want turns ⟨m,step,ar,calls,full,cO,false⟩ n (300+1500*al+i) N hn hw BI hU (by omega) hN al aaM cd cs hC) rfl (λ a w=>call58 a w) rfl rfl (by exact nM hC rfl rfl rfl rfl rfl rfl rfl) (by(repeat(first|exact trivial|refine⟨.inr rfl,?_⟩|refine⟨.inl rfl,?_⟩))) rfl rfl rfl rfl ?_ ?_
      ·rintro d Y ⟨rfl,ly,aS,mh,rfl⟩;exact⟨.inl rfl,.inl rfl,.inl rfl,.inl rfl,.inl rfl,.inl rfl,.inl rfl,trivial⟩
      rintro d Y ⟨rfl,ly,aS,mh,rfl⟩;refine go ?_;exact⟨(i+1,lI l want ⟨m,step,ar,calls,full,cO,false⟩ al,ly,aS),⟨by simp only;omega,hT,IA hU hL.ar.1,by simp only;rw[UY];exact hn,mh⟩,by simp only;omega,zX (Z:=by exact⟨⟨rfl,rfl⟩,⟨rfl,rfl⟩,⟨rfl,mX (t:=lI l want ⟨m,step,ar,calls,full,cO,false⟩ al) mh _ _ rfl rfl rfl rfl rfl rfl⟩,⟨rfl,jZ _ _ _⟩,⟨rfl,jW _ _ _⟩,⟨rfl,j8 _ _ _⟩,⟨rfl,jX _ _ _⟩,⟨rfl,jQ _ _ _⟩,⟨rfl,mh.pl _ _⟩,trivial⟩)⟩
     ·rw[if_pos rfl] at hT;refine go ?_;exact⟨rfl,(_,cd,cs),⟨hT,hU.mono (by omega),hn,hC⟩,zX (Z:=by exact⟨⟨rfl,rfl⟩,⟨rfl,rfl⟩,⟨rfl,mX (t:=⟨m,step,ar,calls,full,cO,true⟩) hC _ _ rfl rfl rfl rfl rfl rfl⟩,⟨rfl,jZ _ _ _⟩,⟨rfl,jW _ _ _⟩,⟨rfl,j8 _ _ _⟩,⟨rfl,jX _ _ _⟩,⟨rfl,jQ _ _ _⟩,⟨rfl,hC.pl _ _⟩,trivial⟩)⟩
   clear hU hn hC;rintro cb ⟨t2,cd,cs⟩ ⟨qL,hU,hn,hC⟩ fm;refine zR (zM (ey fm ?_));clear fm;simp only at qL hU hn hC;rw[<-qL] at hT;clear qL;obtain⟨x,T⟩:∃x,t2.ar[al]?=some x:=⟨t2.ar[al]'(by omega),List.getElem?_eq_getElem _⟩;have DX:p3 t2 want al=(decide (x.op.kind=0)&&decide (ws.length<=x.next)):=by unfold p3;rw[T,jj]
   rw[DX] at hT;have ahl:=(hU.rd T).next;have jB:=H0 t2.ar;have sZ:=SY T 0 (by omega);have y6:(jl t2.ar)[al]?=some (E x.next):=A6 (f:=λ x=>E x.next) T;obtain⟨m,step,ar,calls,full,cO,bad⟩:=t2;simp only at T jB sZ y6 hn hC;refine(show aP _ _ _ _ ⟨[(7,E al),(5,.ptr 30 0),(2,.ptr 0 0),(3,.ptr 1 0)],(0,cG l)::(1,oX want turns)::fL ⟨m,step,ar,calls,full,cO,bad⟩ n cd cs,[]⟩ from ?_);cases bad
   ·by_cases J:x.op.kind=0
    ·refine gW 33 [] ?_;refine rj (al*4) 4 ?_;refine br ?_;refine cV (jV aD rfl rfl rfl rfl rfl sZ) rfl rfl ?_;refine br ?_;rw[show decide (x.op.kind=0)=true by rw[decide_eq_true_eq];exact J];refine br ?_;refine rj al 1 ?_;refine cV (jV aD rfl rfl rfl rfl rfl y6) rfl rfl ?_;refine br ?_;refine ri [wa ws] (ER qY) ?_;refine qg ?_;rw[show decide (x.op.kind=0)=true by rw[decide_eq_true_eq];exact J,Bool.true_and,Bool.false_or,show(!decide (ws.length<=x.next))=decide ((x.next:Int)<ws.length) by rw[<-decide_not];exact decide_eq_decide.2 (by omega)] at hT;exact⟨(al+1,⟨m,step,ar,calls,full,cO,decide ((x.next:Int)<ws.length)⟩,cd,cs),⟨by simp only;omega,hT,U0 hU,hn,hC⟩,by simp only;omega,zX (Z:=by exact⟨⟨rfl,rfl⟩,⟨rfl,rfl⟩,⟨rfl,mX (t:=⟨m,step,ar,calls,full,cO,decide ((x.next:Int)<ws.length)⟩) hC _ _ rfl rfl rfl rfl rfl rfl⟩,⟨rfl,jZ _ _ _⟩,⟨rfl,jW _ _ _⟩,⟨rfl,j8 _ _ _⟩,⟨rfl,jX _ _ _⟩,⟨rfl,jQ _ _ _⟩,⟨rfl,hC.pl _ _⟩,trivial⟩)⟩
    ·refine gW 33 [] ?_;refine rj (al*4) 4 ?_;refine br ?_;refine cV (jV aD rfl rfl rfl rfl rfl sZ) rfl rfl ?_;refine br ?_;rw[show decide (x.op.kind=0)=false by rw[decide_eq_false_iff_not];exact J];refine qg ?_;rw[show decide (x.op.kind=0)=false by rw[decide_eq_false_iff_not];exact J,Bool.false_and,Bool.not_false,Bool.or_true] at hT;exact⟨(al+1,⟨m,step,ar,calls,full,cO,true⟩,cd,cs),⟨by simp only;omega,hT,U0 hU,hn,hC⟩,by simp only;omega,zX (Z:=by exact⟨⟨rfl,rfl⟩,⟨rfl,rfl⟩,⟨rfl,mX (t:=⟨m,step,ar,calls,full,cO,true⟩) hC _ _ rfl rfl rfl rfl rfl rfl⟩,⟨rfl,jZ _ _ _⟩,⟨rfl,jW _ _ _⟩,⟨rfl,j8 _ _ _⟩,⟨rfl,jX _ _ _⟩,⟨rfl,jQ _ _ _⟩,⟨rfl,hC.pl _ _⟩,trivial⟩)⟩
   ·refine gW 33 [] ?_;refine go ?_;rw[Bool.true_or] at hT;exact⟨(al+1,⟨m,step,ar,calls,full,cO,true⟩,cd,cs),⟨by simp only;omega,hT,hU,hn,hC⟩,by simp only;omega,zX (Z:=by exact⟨⟨rfl,rfl⟩,⟨rfl,rfl⟩,⟨rfl,mX (t:=⟨m,step,ar,calls,full,cO,true⟩) hC _ _ rfl rfl rfl rfl rfl rfl⟩,⟨rfl,jZ _ _ _⟩,⟨rfl,jW _ _ _⟩,⟨rfl,j8 _ _ _⟩,⟨rfl,jX _ _ _⟩,⟨rfl,jQ _ _ _⟩,⟨rfl,hC.pl _ _⟩,trivial⟩)⟩
  ·have bB:=of_decide_eq_false F;rw[show n-al=0 by omega,ql] at hT;refine go ?_;exact⟨rfl,(t,cd,cs),⟨hT,hC⟩,zX (Z:=by exact⟨⟨rfl,rfl⟩,⟨rfl,rfl⟩,⟨rfl,mX (t:=t) hC _ _ rfl rfl rfl rfl rfl rfl⟩,⟨rfl,jZ _ _ _⟩,⟨rfl,jW _ _ _⟩,⟨rfl,j8 _ _ _⟩,⟨rfl,jX _ _ _⟩,⟨rfl,jQ _ _ _⟩,⟨rfl,hC.pl _ _⟩,trivial⟩)⟩
 clear I hU hn hC;rintro cb ⟨t,cd,cs⟩ ⟨hT,hC⟩ fm;refine zR (zM (ey fm ?_));clear fm;simp only at hT hC;subst hT;obtain⟨m,step,ar,calls,full,cO,bad⟩:=t;refine(show aP _ _ _ _ ⟨[(5,.ptr 30 0),(2,.ptr 0 0),(3,.ptr 1 0)],(0,cG l)::(1,oX want turns)::fL ⟨m,step,ar,calls,full,cO,bad⟩ n cd cs,[]⟩ from ?_);rcases hC.at_ with⟨ip,rfl⟩|⟨c,rfl,cM,e9,iW,cq⟩
 ·simp only at ip;subst ip;refine ey (q6 30 rfl rfl) ?_;refine go ?_;exact iB (nL ⟨m,step,ar,[],full,cO,bad⟩ n) rfl rfl (by exact UJ rfl rfl rfl rfl rfl rfl) (by(repeat(first|exact trivial|refine⟨rfl,?_⟩))) ⟨rfl,rfl⟩
 ·refine ey (JS (wu:=[(5,.ptr 30 0)]) (o0:=[(31,fG ar),(32,kA ar),(33,j7 ar),(34,jl ar),(35,kN ar)]) (qt:=[]) 30 7 36 (se calls) rfl rfl rfl rfl rfl ⟨⟨rfl,rfl⟩,trivial⟩ (by exact⟨⟨rfl,rfl⟩,⟨rfl,jZ _ _ _⟩,⟨rfl,jW _ _ _⟩,⟨rfl,j8 _ _ _⟩,⟨rfl,jX _ _ _⟩,⟨rfl,jQ _ _ _⟩,trivial⟩) trivial (by(repeat(first|exact trivial|refine⟨rfl,?_⟩))) rfl cM e9 (S7 calls) cq iW (acX calls)) ?_;refine go ?_;exact iB (nL ⟨m,step,ar,calls,full,cO,bad⟩ n) rfl rfl (by exact UJ rfl rfl rfl rfl rfl rfl) (by(repeat(first|exact trivial|refine⟨rfl,?_⟩))) ⟨rfl,rfl⟩
end Go.Proofs.YtcnefjfboagbmaaGreat
