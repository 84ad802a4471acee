/- Worlds that have grown, plain data behind values, what is known where a function stands. -/
import Derived.WalkKit
import Derived.WalkSpells
import Derived.WalkLawsBesides
import Derived.BigQuiet
import Derived.Lib.Hide
import Derived.ProofKit
import Derived.OpenShut
import Derived.ShutString
import Derived.ChangeOld
import Derived.Below
import Derived.Deep.Slices
import Derived.Deep.Fields
import Derived.ChangeSame
import Derived.Maps.AppendAt
import Derived.LoopN
import Derived.Laws.MakeOwn
import Derived.Scope
section
namespace Go.Proofs.YtcnefjfboagbmaaGreat
open Go.RowKit
def sR(w:World):Type:={aI:World//Below w.heap.size w aI}
instance(w:World):Nonempty (sR w):=⟨⟨w,Below.refl _ _⟩⟩
def sR.on{w:World}(x:sR w):World:=x.1
theorem sR.below{w:World}(x:sR w):Below w.heap.size w x.on:=x.2
@[go_sem] theorem sR.cell{w:World}(x:sR w)(p:Addr)(h:p.block<w.heap.size):x.on.cell? p=w.cell? p:=x.below.cell h
def sR.next{w:World}(x:sR w){aI:World}(h:Below x.on.heap.size x.on aI):sR w:=⟨aI,x.below.trans (h.mono x.below.size)⟩
abbrev ME:=Value->World->Prop
def fZ(a:Act)(t:Tmp):Value:=a.tmps.getD t undef
def qF(ops:Array Oper)(n:Nat):Bool:=
 Region.noSelect ops&&(List.range ops.size).all λ i=>match ops[i]? with
  |none=>true
  |some oi=>(match oi.dst with|some t=>decide (t<n)|none=>true)&&(oi.after.all λ e=>!Region.binds .any e||decide (e.on<i))&&
   (List.range ops.size).all λ j=>match ops[j]? with
    |none=>true
    |some oj=>i==j||((match oi.dst,oj.dst with|some t,some af=>t !=af|_,_=>true)&&
     (match oj.dst with
      |some t=>!(oi.looksAt ops).contains t||(decide (j<i)&&oi.after.any (λ e=>Region.binds .any e&&e.on==j))||(decide (i<j)&&oj.after.any (λ e=>Region.binds .any e&&e.on==i))
      |none=>true))
structure pj(ops:Array Oper)(n:Nat):Prop where
 af2:Region.noSelect ops=true
 lt:∀(i:Nat)(o:Oper)(t:Tmp),ops[i]?=some o->o.dst=some t->t<n
 back:∀(i:Nat)(o:Oper),ops[i]?=some o->∀e∈o.after,Region.binds .any e=true->e.on<i
 ne:∀(i j:Nat)(oi oj:Oper)(t:Tmp),ops[i]?=some oi->ops[j]?=some oj->i≠j->oi.dst=some t->oj.dst≠some t
 dep:∀(i j:Nat)(oi oj:Oper)(t:Tmp),ops[i]?=some oi->ops[j]?=some oj->i≠j->oj.dst=some t->t∈oi.looksAt ops->
  (j<i/\∃e∈oi.after,Region.binds .any e=true/\e.on=j)\/(i<j/\∃e∈oj.after,Region.binds .any e=true/\e.on=i)
theorem Hn{ops:Array Oper}{n:Nat}(h:qF ops n=true):pj ops n:=by
 unfold qF at h;simp only[Bool.and_eq_true,List.all_eq_true,List.mem_range] at h;obtain⟨hs,h⟩:=h;have ba:∀i o,ops[i]?=some o->i<ops.size:=λ i o ho=>(Array.getElem?_eq_some_iff.1 ho).1
 refine⟨hs,λ i o t ho ht=>?_,λ i o ho e he T=>?_,λ i j oi oj t X hj jT ht hu=>?_,λ i j oi oj t X hj jT ht hm=>?_⟩
 ·have:=h i (ba i o ho);simp only[ho,ht,Bool.and_eq_true] at this
  simpa using this.1.1
 ·have:=h i (ba i o ho);simp only[ho,Bool.and_eq_true] at this;have:=Array.all_eq_true_iff_forall_mem.1 this.1.2 e he
  simpa[T] using this
 ·have:=h i (ba i oi X);simp only[X,Bool.and_eq_true,List.all_eq_true,List.mem_range] at this;have:=this.2 j (ba j oj hj);simp only[hj,ht,hu] at this;simp[jT] at this
 ·have:=h i (ba i oi X);simp only[X,Bool.and_eq_true,List.all_eq_true,List.mem_range] at this;have:=this.2 j (ba j oj hj);simp only[hj,ht] at this;have L:(oi.looksAt ops).contains t=true:=by simpa using hm
  simp only[L,Bool.or_eq_true,Bool.and_eq_true,beq_iff_eq,jT,false_or,Bool.not_true,Bool.false_eq_true,decide_eq_true_eq] at this;rcases this.2 with⟨h1,A⟩|⟨h1,A⟩
  ·obtain⟨e,he,T⟩:=Array.any_eq_true'.1 A;simp only[Bool.and_eq_true,beq_iff_eq] at T;exact .inl ⟨h1,e,he,T⟩
  ·obtain⟨e,he,T⟩:=Array.any_eq_true'.1 A;simp only[Bool.and_eq_true,beq_iff_eq] at T;exact .inr ⟨h1,e,he,T⟩
theorem Eu{a:Act}{t:Tmp}{v:Value}(h:t<a.tmps.size):fZ (a.put (some t) v) t=v:=by simp[fZ,Act.put,h]
theorem y2{a:Act}{d:Option Tmp}{t:Tmp}{v:Value}(h:d≠some t):fZ (a.put d v) t=fZ a t:=by
 cases d with
 |none=>rfl
 |some af=>
  have cE:af≠t:=λ e=>h (by rw[e])
  simp[fZ,Act.put,Array.getElem?_setIfInBounds_ne cE]
theorem Hw(a:Act)(d:Option Tmp)(v:Value):(a.put d v).tmps.size=a.tmps.size:=by cases d<;>simp[Act.put]
theorem E8(a:Act)(d:Option Tmp)(v:Value):(a.put d v).defers=a.defers:=by cases d<;>rfl
theorem aej{P:Program}{o:Oper}{a:Act}{w:World}{aL:Act->World->Prop}{Q:Exit->Act->World->Prop}(h:o.wp P a w aL (λ _ _ _=>False)):o.wp P a w aL Q:=by
 unfold Oper.wp at*;generalize(execOp a.eval o).run P w=r at*;cases r with
 |ok n aI=>
  cases n<;>simp only[Oper.upon] at h⊢<;>first
   |exact h
   |exact Calls.mono h (λ e nk he=>by
    cases e with
    |returned v=>exact he
    |panicked c=>exact he.elim
    |outgrown=>obtain⟨_,_,hf⟩:=he;exact hf.elim)
 |halt x aI=>cases x<;>simp only[Oper.upon] at h⊢
structure aeE(ops:Array Oper)(am:Nat->ME)(a0:Act)(aG:Array Bool)(a:Act)(w:World):Prop where
 lG:aG.size=ops.size
 size:a.tmps.size=a0.tmps.size
 defers:a.defers=a0.defers
 closed:∀(i:Nat)(o:Oper),ops[i]?=some o->aG.getD i false=true->∀e∈o.after,Region.binds .any e=true->aG.getD e.on false=true
 uX:∀(i:Nat)(o:Oper)(t:Tmp),ops[i]?=some o->aG.getD i false=true->o.dst=some t->am i (fZ a t) w
 kept:∀t,(∀(i:Nat)(o:Oper),ops[i]?=some o->aG.getD i false=true->o.dst≠some t)->fZ a t=fZ a0 t
theorem mL{l:Array Bool}{i:Nat}(h:l.getD i true=false):l.getD i false=false/\i<l.size:=by
 rcases Nat.lt_or_ge i l.size with bL|bL
 ·simp[bL] at h⊢;exact h
 ·simp[Array.getElem?_eq_none bL] at h
theorem WE{l:Array Bool}{i:Nat}(h:l.getD i false=false)(X:i<l.size):l.getD i true=false:=by simp[X] at h⊢;exact h
theorem Wb{ops:Array Oper}{n:Nat}(aQ:pj ops n){aG:Array Bool}(hs:aG.size=ops.size)(h:Region.ready .any ops aG=[]):∀i,i<ops.size->aG.getD i false=true:=by
 intro i;induction i using Nat.strongRecOn with
 |ind i ih=>
  intro X;rcases R:aG.getD i false with _|_
  ·have hm:i∈Region.ready .any ops aG:=mem_ready.2 ⟨WE R (by omega),ops[i],by simp[X],λ e he T=>by
    have:=aQ.back i ops[i] (by simp[X]) e he T;exact ih _ this (by omega)⟩
   rw[h] at hm;cases hm
  ·rfl
def mA(aG:Array Bool):Nat:=(aG.toList.filter (!·)).length
theorem Tr:∀(l:List Bool)(i:Nat),i<l.length->l.getD i true=false->((l.set i true).filter (!·)).length+1=(l.filter (!·)).length
 |[],i,h,_=>by simp at h
 |b::l,0,_,T=>by simp at T;subst T;simp
 |b::l,i+1,h,T=>by
  have:=Tr l i (by simpa using h) (by simpa using T);cases b<;>simp<;>omega
theorem Mw{aG:Array Bool}{i:Nat}(h:aG.getD i true=false):mA (aG.setIfInBounds i true)+1=mA aG:=by
 obtain⟨_,X⟩:=mL h;have:=Tr aG.toList i (by simpa using X) (by simpa using h)
 simpa[mA,Array.toList_setIfInBounds] using this
theorem Ut{aG:Array Bool}(h:mA aG=0){i:Nat}:aG.getD i true=true:=by
 rcases R:aG.getD i true with _|_
 ·have:=Mw R;omega
 ·rfl
theorem HJ(n:Nat):mA (Array.replicate n false)=n:=by simp[mA]
def zm:Value->Option Bool
 |.bool b=>some b
 |_=>none
def Jb(ops:Array Oper)(o:Oper):List Tmp:=match o.guard with|some (g,_)=>((ops[g]?).bind (·.dst)).toList|none=>[]
theorem Ox{ops:Array Oper}{o:Oper}{t:Tmp}(h:t∈Jb ops o):t∈o.looksAt ops:=List.mem_append_right _ h
theorem HN(ops:Array Oper)(l:Array Value)(g:Nat):yielded ops l g=((ops[g]?).bind (·.dst)).bind λ t=>zm (l.getD t undef):=by
 unfold yielded;cases ht:(ops[g]?).bind (·.dst) with
 |none=>rfl
 |some t=>
  simp only[Option.bind_some];rcases h:l[t]? with _|v
  ·simp[h,undef,zm]
  ·simp only[Array.getD_eq_getD_getElem?,h,Option.getD_some];cases v<;>rfl
section
variable{P:Program}{ops:Array Oper}{w0:World}{a0:Act}{Q:Exit->Act->World->Prop}{a:Act}{nd:List (Tmp×ME)}{o:Oper}{rest:List Oper}
def jN(P:Program)(f:FuncId):Prop:=∀args w,(callFunc f args).run P w=.ok (.enter f args) w
end
theorem TB{P:Program}{ops:Array Oper}{Q:Exit->Act->World->Prop}{i:Nat}{o:Oper}{rest:List Oper}{a:Act}{w:World}(X:ops[i]?=some o)(h:wpList P ops Q (o::rest) a w):wpOp P ops Q i (wpList P ops Q rest) a w:=by unfold wpOp;simp only[X];exact h
theorem HI:∀(l:List Bool)(n:Nat),n<=l.length->(∀i,i<n->l.getD i true=true)->(∀i,n<=i->i<l.length->l.getD i true=false)->(l.filter (!·)).length=l.length-n
 |[],n,hn,_,_=>by simp at hn;simp[hn]
 |b::l,0,_,_,A=>by
  have T:b=false:=by simpa using A 0 (Nat.le_refl _) (by simp)
  have ih:=HI l 0 (by omega) (λ i X=>by omega) (λ i _ X=>by simpa using A (i+1) (by omega) (by simpa using X));subst T;simp at ih⊢;exact ih
 |b::l,n+1,hn,h1,A=>by
  have T:b=true:=by simpa using h1 0 (by omega)
  have ih:=HI l n (by simpa using hn) (λ i X=>by simpa using h1 (i+1) (by omega)) (λ i X R=>by simpa using A (i+1) (by omega) (by simpa using R));subst T;simp at ih⊢;exact ih
end Go.Proofs.YtcnefjfboagbmaaGreat
end
section
namespace Go.Proofs.YtcnefjfboagbmaaGreat
open Go.ChangeShapes Go.WideShapes Go.ChangeAt Go.RowKit Go.Deep
section
variable{H:Type}{enc:TypeId×Value->H}{P:Program}{w:World}{base:Nat}{mx:Nat->Bool}{aM:Bool}
def N5(P:Program)(t i:Nat):Option (TypeId×Nat×Nat):=
 match P.underlying t with
 |some (.struct fs)=>(fs[i]?).map λ f=>(f.type,f.offset,P.cellsOf f.type)
 |_=>none
def Read(enc:TypeId×Value->H)(P:Program)(w:World)(base:Nat)(mx:Nat->Bool)(aM:Bool)(t:TypeId)(cs:List Value):Prop:=∃n y,DataW.trod enc P w base mx aM n t cs=some y
theorem Hi{t i ft dF sz:Nat}{cs:List Value}(hf:N5 P t i=some (ft,dF,sz))(h:Read enc P w base mx aM t cs):Read enc P w base mx aM ft ((cs.drop dF).take sz):=by
 obtain⟨n,y,h⟩:=h;unfold N5 at hf;split at hf
 ·rename_i fs hu;obtain⟨xs,m,_,_,_,ci,hg⟩:=DataW.trod_struct hu h;rcases FN:fs[i]? with _|f
  ·rw[FN] at hf;cases hf
  ·rw[FN] at hf;simp only[Option.map_some,Option.some.injEq,Prod.mk.injEq] at hf;obtain⟨rfl,rfl,rfl⟩:=hf;have h1:=hg i f FN;have X:i<fs.size:=(Array.getElem?_eq_some_iff.1 FN).1;have A:xs[i]?=some (xs[i]'(by omega)):=List.getElem?_eq_getElem (by omega);exact⟨m,_,h1.trans A⟩
 ·cases hf
theorem Hj{t:TypeId}{cs:List Value}(ht:P.underlying t=some (.int .i64))(h:Read enc P w base mx aM t cs):∃n:Int,cs=[.int .i64 n]/\-9223372036854775808<=n/\n<=9223372036854775807:=by obtain⟨m,y,h⟩:=h;obtain⟨n,hn,_,hw⟩:=DataW.trod_int ht h;exact⟨n,hn,bounds_i64 hw⟩
theorem acv{t:TypeId}{cs:List Value}(ht:P.underlying t=some (.int .u8))(h:Read enc P w base mx aM t cs):∃n:Int,cs=[.int .u8 n]/\0<=n/\n<=255:=by obtain⟨m,y,h⟩:=h;obtain⟨n,hn,_,hw⟩:=DataW.trod_int ht h;exact⟨n,hn,bounds_u8 hw⟩
theorem acu{t e:TypeId}{sz:Nat}{cs:List Value}(ht:P.underlying t=some (.slice e))(L:P.cellsOf e=sz)(h:Read enc P w base mx aM t cs):
 ∃(ab:Option Addr)(len bK:Nat),cs=[.slice ab len bK]/\len<=bK/\bK<=maxLen/\(len=0\/∃a,ab=some a)/\
  ∀i,i<len->∃a aO,ab=some a/\aO.length=sz/\(∀j,j<sz->w.cell? (a.add (i*sz+j))=aO[j]?)/\Read enc P w base mx aM e aO:=by
 obtain⟨m,y,h⟩:=h;rcases open_slice ht h with⟨rfl,_⟩|⟨a,len,bK,wG,n,aH,Pl,rfl,T,R,hm,Dj,O,X⟩
 ·exact⟨none,0,0,rfl,by omega,by unfold maxLen;omega,.inl rfl,λ i X=>by omega⟩
 ·refine⟨some a,len,bK,rfl,R,hm,.inr ⟨a,rfl⟩,λ i afl=>?_⟩;obtain⟨aO,ey,yu⟩:=X i (by rw[Dj];split<;>omega);rw[L] at ey;obtain⟨_,ci,hi⟩:=World.cells?_some ey;refine⟨a,aO,rfl,ci,λ j hj=>?_,n,_,yu⟩;rw[<-hi j hj,Go.Deep.add_add]
theorem Un{a:Addr}{n:Nat}{v:Value}(h:w.cell? (a.add n)=some v):a.spot=none\/n≠0:=by
 by_cases hn:n=0
 ·subst hn;simp only[Addr.add,if_true] at h;exact .inl (by have:=World.cell?_spot h;simpa using this)
 ·exact .inr hn
theorem Vg{p:Addr}{v:Value}(h:w.cell? p=some v):p.block<w.heap.size:=by
 rcases Nat.lt_or_ge p.block w.heap.size with ba|fB
 ·exact ba
 ·simp[World.cell?,Array.getElem?_eq_none fB] at h
theorem acr{ar:Type}{t e:TypeId}{sz:Nat}(cells:ar->List Value)(ok:ar->Prop)(bQ:0<sz)(ci:∀x,(cells x).length=sz)(ht:P.underlying t=some (.slice e))(L:P.cellsOf e=sz)
 (Kd:∀cs,cs.length=sz->Read enc P w base mx aM e cs->∃x,cs=cells x/\ok x){cs:List Value}(h:Read enc P w base mx aM t cs):
 ∃(ab:Option Addr)(l:List ar)(bK:Nat),cs=[.slice ab l.length bK]/\l.length<=bK/\bK<=maxLen/\(∀x∈l,ok x)/\
  ∀i x,l[i]?=some x->∃b o,ab=some ⟨b,o,none⟩/\b<w.heap.size/\∀j af,(cells x)[j]?=some af->w.cell? ⟨b,o+(i*sz+j),none⟩=some af:=by
 obtain⟨ab,len,bK,rfl,R,hm,hA,ec⟩:=acu ht L h;have tx:∀i:Fin len,∃x,ok x/\∃a,ab=some a/\∀j af,(cells x)[j]?=some af->w.cell? (a.add (i.1*sz+j))=some af:=λ i=>by
  obtain⟨a,aO,e,Yx,hi,hr⟩:=ec i.1 i.2;obtain⟨x,rfl,aQ⟩:=Kd aO Yx hr;refine⟨x,aQ,a,e,λ j af hu=>?_⟩;have hj:j<(cells x).length:=(List.getElem?_eq_some_iff.1 hu).1;rw[hi j (by rw[ci] at hj;exact hj)];exact hu
 let f:Fin len->ar:=λ i=>Classical.choose (tx i)
 have hf:∀i,ok (f i)/\∃a,ab=some a/\∀j af,(cells (f i))[j]?=some af->w.cell? (a.add (i.1*sz+j))=some af:=λ i=>Classical.choose_spec (tx i)
 refine⟨ab,List.ofFn f,bK,by simp,by simpa using R,hm,λ x O=>?_,λ i x X=>?_⟩
 ·obtain⟨i,rfl⟩:=List.mem_ofFn.1 O;exact(hf i).1
 ·have du:i<len:=by have:=(List.getElem?_eq_some_iff.1 X).1;simpa using this
  have O:f ⟨i,du⟩=x:=by simpa[du] using X
  obtain⟨a,e,L⟩:=(hf ⟨i,du⟩).2;rw[O] at L;obtain⟨b,o,s⟩:=a;have XT:=hf ⟨0,by omega⟩;have h0:∃af,(cells (f ⟨0,by omega⟩))[0]?=some af:=⟨_,List.getElem?_eq_getElem (by rw[ci];exact bQ)⟩;obtain⟨ad5,tL⟩:=h0;obtain⟨br,Y,h2⟩:=XT.2;have O5:=h2 0 ad5 tL;rw[e] at Y;injection Y with Y
  subst Y;have hs:s=none:=by
   rcases Un O5 with bL|bL
   ·exact bL
   ·simp at bL
  subst hs;have CR:∀n,(⟨b,o,none⟩:Addr).add n=⟨b,o+n,none⟩:=λ n=>by
   unfold Addr.add;split
   ·rename_i hn;subst hn;simp
   ·rfl
  refine⟨b,o,e,by have:=Vg O5;rw[CR] at this;exact this,λ j af hu=>?_⟩;have:=L j af hu;rw[CR] at this;exact this
end
end Go.Proofs.YtcnefjfboagbmaaGreat
end
section
namespace Go.Proofs.YtcnefjfboagbmaaGreat
open Go.RowKit
inductive Pl where
 |raw (v:Value)
 |sl (ex:Bool) (n:Nat) (ps:List Pl)
inductive G where
 |p (x:Pl)
 |agg (ds:List G)
 |bg (ds:List G)
 |ptr (b o:Nat)
 |el (ps:List Pl)
 |aW (g n:Nat) (ps:List Pl)
 |arr (b o n c:Nat)
 |fn (f:Fn) (first cG:List G)
 |any
structure Gr where
 el:TypeId
 sz:Nat
 len:Nat
structure aA where
 w:World
 cl:Nat->Option Nat
 bx:Nat->Option Nat
 gr:Nat->Option Nat
 gi:Nat->Option Gr
def aA.np(e:aA)(b o:Nat):Prop:=∀k,e.cl b=some k->o<k
def lX(v:Value):Bool:=v.oneCell'
inductive db(e:aA):Value->Pl->Prop where
 |raw (v:Value):db e v (.raw v)
 |sl {ab:Option Addr} {n bK:Nat} {ex:Bool} {ps:List Pl} (f:Nat->Value) (h1:n<=bK) (A:bK<=maxLen) (K:ab=none->bK=0) (h4:ex=true->bK=n)
  (h5:∀i x,ps[i]?=some x->∃b o,ab=some ⟨b,o,none⟩/\e.np b (o+i)/\e.w.cell? ⟨b,o+i,none⟩=some (f i)/\lX (f i)=true)
  (h6:∀i x,ps[i]?=some x->db e (f i) x):db e (.slice ab n bK) (.sl ex n ps)
def rH(e:aA)(b o:Nat)(ps:List Pl):Prop:=
 ∃f:Nat->Value,∀i x,ps[i]?=some x->e.np b (o+i)/\e.w.cell? ⟨b,o+i,none⟩=some (f i)/\lX (f i)=true/\db e (f i) x
structure TW(e:aA)(au:Gr)(g k bK:Nat):Prop where
 gr:e.gr k=some g
 row:∃cur,e.w.heap[k]?=some (.cells cur au.el (0,0))/\cur.size=bK*au.sz
def EL(e:aA)(v:Value)(g n m:Nat):Prop:=
 ∃au ab bK,e.gi g=some au/\v=.slice ab n bK/\n<=au.len/\m=n*au.sz/\(bK=n\/∃k,ab=some ⟨k,0,none⟩/\TW e au g k bK)
inductive bD(e:aA):Value->G->Prop where
 |p {v:Value} {x:Pl} (h:db e v x):bD e v (.p x)
 |agg {vs:List Value} {ds:List G} (R:vs.length=ds.length) (h:∀(i:Nat) v d,vs[i]?=some v->ds[i]?=some d->bD e v d):bD e (.agg vs.toArray) (.agg ds)
 |bg {vs:List Value} {ds:List G} (R:vs.length=ds.length) (h:∀(i:Nat) v d,vs[i]?=some v->ds[i]?=some d->bD e v d):bD e (.tuple vs.toArray) (.bg ds)
 |ptr {b o k:Nat} (h:e.bx b=some k):bD e (.pointer (some ⟨k,o,none⟩)) (.ptr b o)
 |el {b o:Nat} {ps:List Pl} (h:rH e b o ps):bD e (.pointer (some ⟨b,o,none⟩)) (.el ps)
 |aW {v:Value} {g n:Nat} {ps:List Pl} (h:db e v (.sl false n ps)) (ht:EL e v g n ps.length):bD e v (.aW g n ps)
 |arr {b o n c k:Nat} (h:e.bx b=some k):bD e (.slice (some ⟨k,o,none⟩) n c) (.arr b o n c)
 |fn {f:Fn} {us vs:List Value} {first cG:List G} (R:us.length=first.length) (dJ:vs.length=cG.length) (h:∀(i:Nat) v d,us[i]?=some v->first[i]?=some d->bD e v d) (A:∀(i:Nat) v d,vs[i]?=some v->cG[i]?=some d->bD e v d):bD e (.func f us.toArray vs.toArray) (.fn f first cG)
 |any {v:Value}:bD e v .any
def DReps(e:aA)(vs:List Value)(ds:List G):Prop:=vs.length=ds.length/\∀(i:Nat) v d,vs[i]?=some v->ds[i]?=some d->bD e v d
structure Ends(e Y:aA):Prop where
 xw:∀b o v,e.np b o->e.w.cell? ⟨b,o,none⟩=some v->Y.np b o/\Y.w.cell? ⟨b,o,none⟩=some v
 bx:∀b k,e.bx b=some k->Y.bx b=some k
 gi:∀g au,e.gi g=some au->∃mD,Y.gi g=some mD/\mD.el=au.el/\mD.sz=au.sz/\au.len<=mD.len
 row:∀k g au cur,e.gr k=some g->e.gi g=some au->e.w.heap[k]?=some (.cells cur au.el (0,0))->Y.gr k=some g/\∃kL,Y.w.heap[k]?=some (.cells kL au.el (0,0))/\kL.size=cur.size
theorem Ends.trans{a b c:aA}(h:Ends a b)(k:Ends b c):Ends a c:=by
 refine⟨λ x o v h1 A=>?_,λ x y hh=>k.bx _ _ (h.bx _ _ hh),λ g au hg=>?_,λ x g au cur h1 A K=>?_⟩
 ·obtain⟨K,h4⟩:=h.xw x o v h1 A;exact k.xw x o v K h4
 ·obtain⟨mD,e1,e2,e3,e4⟩:=h.gi g au hg;obtain⟨G2,qT,zZ,te,f4⟩:=k.gi g mD e1;exact⟨G2,qT,zZ.trans e2,te.trans e3,Nat.le_trans e4 f4⟩
 ·obtain⟨h4,kL,h5,h6⟩:=h.row x g au cur h1 A K;obtain⟨mD,e1,e2,e3,e4⟩:=h.gi g au A;obtain⟨h7,Vx,h8,h9⟩:=k.row x g mD kL h4 e1 (by rw[e2];exact h5);exact⟨h7,Vx,by rw[<-e2];exact h8,h9.trans h6⟩
theorem db.next{e Y:aA}(E:Ends e Y){v:Value}{x:Pl}(h:db e v x):db Y v x:=by
 induction h with
 |raw v=>exact .raw v
 |sl f h1 A K h4 h5 h6 ih=>refine .sl f h1 A K h4 (λ i x O=>?_) ih;obtain⟨b,o,hA,L,hv,R⟩:=h5 i x O;obtain⟨h7,h8⟩:=E.xw _ _ _ L hv;exact⟨b,o,hA,h7,h8,R⟩
theorem rH.next{e Y:aA}(E:Ends e Y){b o:Nat}{ps:List Pl}(h:rH e b o ps):rH Y b o ps:=by obtain⟨f,hf⟩:=h;refine⟨f,λ i x O=>?_⟩;obtain⟨h1,A,K,h4⟩:=hf i x O;obtain⟨h5,h6⟩:=E.xw _ _ _ h1 A;exact⟨h5,h6,K,h4.next E⟩
theorem EL.next{e Y:aA}(E:Ends e Y){v:Value}{g n m:Nat}(h:EL e v g n m):EL Y v g n m:=by obtain⟨au,ab,bK,hg,hv,hn,hm,L⟩:=h;obtain⟨mD,e1,e2,e3,e4⟩:=E.gi g au hg;refine⟨mD,ab,bK,e1,hv,Nat.le_trans hn e4,by rw[e3];exact hm,L.imp id ?_⟩;rintro⟨k,hA,h1,cur,A,K⟩;obtain⟨h4,kL,h5,h6⟩:=E.row k g au cur h1 hg A;exact⟨k,hA,h4,kL,by rw[e2];exact h5,by rw[h6,K,e3]⟩
theorem bD.next{e Y:aA}(E:Ends e Y){v:Value}{d:G}(h:bD e v d):bD Y v d:=by
 induction h with
 |p h=>exact .p (h.next E)
 |agg R _ ih=>exact .agg R ih
 |bg R _ ih=>exact .bg R ih
 |ptr h=>exact .ptr (E.bx _ _ h)
 |el h=>exact .el (h.next E)
 |aW h ht=>exact .aW (h.next E) (ht.next E)
 |arr h=>exact .arr (E.bx _ _ h)
 |fn R dJ _ _ ih DI=>exact .fn R dJ ih DI
 |any=>exact .any
theorem DReps.next{e Y:aA}(E:Ends e Y){vs:List Value}{ds:List G}(h:DReps e vs ds):DReps Y vs ds:=⟨h.1,λ i v d h1 A=>(h.2 i v d h1 A).next E⟩
theorem DReps.nil(e:aA):DReps e [] []:=⟨rfl,λ i v d h=>by simp at h⟩
theorem DReps.cons{e:aA}{v:Value}{d:G}{vs:List Value}{ds:List G}(h:bD e v d)(hs:DReps e vs ds):DReps e (v::vs) (d::ds):=by
 refine⟨by simp[hs.1],λ i af c h1 A=>?_⟩;cases i with
 |zero=>simp at h1 A;subst h1;subst A;exact h
 |succ i=>exact hs.2 i af c (by simpa using h1) (by simpa using A)
theorem DReps.xi{e:aA}{vs:List Value}{d:G}{ds:List G}(h:DReps e vs (d::ds)):∃v fh,vs=v::fh/\bD e v d/\DReps e fh ds:=by
 obtain⟨R,hh⟩:=h;rcases vs with _|⟨v,fh⟩
 ·simp at R
 ·exact⟨v,fh,rfl,hh 0 v d rfl rfl,by simpa using R,λ i af c h1 A=>hh (i+1) af c (by simpa using h1) (by simpa using A)⟩
theorem DReps.get{e:aA}{vs:List Value}{ds:List G}(h:DReps e vs ds){i:Nat}{d:G}(F:ds[i]?=some d):∃v,vs[i]?=some v/\bD e v d:=by
 have X:i<ds.length:=(List.getElem?_eq_some_iff.1 F).1;have kx:i<vs.length:=by rw[h.1];exact X
 exact⟨vs[i],List.getElem?_eq_getElem kx,h.2 i _ d (List.getElem?_eq_getElem kx) F⟩
theorem DReps.take{e:aA}{vs:List Value}{ds:List G}(h:DReps e vs ds)(k:Nat):DReps e (vs.take k) (ds.take k):=by
 refine⟨by simp[h.1],λ i v d h1 A=>?_⟩;rw[List.getElem?_take] at h1 A;split at h1
 ·rename_i X;rw[if_pos X] at A;exact h.2 i v d h1 A
 ·cases h1
theorem DReps.drop{e:aA}{vs:List Value}{ds:List G}(h:DReps e vs ds)(k:Nat):DReps e (vs.drop k) (ds.drop k):=by refine⟨by simp[h.1],λ i v d h1 A=>?_⟩;rw[List.getElem?_drop] at h1 A;exact h.2 _ v d h1 A
theorem DReps.append{e:aA}{vs us:List Value}{ds cs:List G}(h:DReps e vs ds)(bL:DReps e us cs):DReps e (vs++us) (ds++cs):=by
 refine⟨by simp[h.1,bL.1],λ i v d h1 A=>?_⟩;rcases Nat.lt_or_ge i vs.length with X|X
 ·rw[List.getElem?_append_left X] at h1;rw[List.getElem?_append_left (by rw[<-h.1];exact X)] at A;exact h.2 i v d h1 A
 ·rw[List.getElem?_append_right X] at h1;rw[List.getElem?_append_right (by rw[<-h.1];exact X),<-h.1] at A;exact bL.2 _ v d h1 A
def G.leaf:G->Bool
 |.p (.raw v)=>lX v
 |.p (.sl ..)|.ptr ..|.el _|.aW ..|.arr ..|.fn ..=>true
 |_=>false
theorem KJ{e:aA}{v:Value}{d:G}(h:bD e v d)(R:d.leaf=true):lX v=true:=by
 cases h with
 |p h=>cases h with
  |raw v=>exact R
  |sl=>rfl
 |agg=>cases R
 |bg=>cases R
 |ptr=>rfl
 |el=>rfl
 |aW h ht=>obtain⟨_,ab,bK,_,rfl,_⟩:=ht;rfl
 |arr=>rfl
 |fn=>rfl
 |any=>cases R
def G.cells:G->List G
 |.agg ds=>ds
 |d=>[d]
theorem Vh{e:aA}{v:Value}{d:G}(h:bD e v d)(R:d.leaf=true\/∃ds,d=.agg ds):DReps e v.cells.toList d.cells:=by
 rcases R with R|⟨ds,rfl⟩
 ·have hv:=KJ h R;have h1:v.cells=#[v]:=by cases v<;>first|rfl|cases hv
  have A:d.cells=[d]:=by cases d<;>first|rfl|cases R
  rw[h1,A];exact DReps.cons h (DReps.nil e)
 ·cases h with
  |agg R h=>exact⟨by simpa[Value.cells,G.cells] using R,λ i v d h1 A=>h i v d (by simpa[Value.cells] using h1) (by simpa[G.cells] using A)⟩
end Go.Proofs.YtcnefjfboagbmaaGreat
end
section
namespace Go.Proofs.YtcnefjfboagbmaaGreat
open Go.RowKit
def kv{ar:Type}:List (Nat×ar)->Nat->Option ar
 |[],_=>none
 |(k,v)::l,n=>bif Nat.beq k n then some v else kv l n
theorem cM{ar:Type}(k:Nat)(v:ar)(l:List (Nat×ar))(n:Nat):kv ((k,v)::l) n=if k=n then some v else kv l n:=by
 by_cases h:k=n
 ·subst h;simp[kv]
 ·have:Nat.beq k n=false:=by rw[Bool.eq_false_iff];intro T;exact h (Nat.eq_of_beq_eq_true T)
  simp[kv,this,h]
structure St where
 s:List (Nat×G)
 b:List (Nat×List G)
 g:List (Nat×Gr)
structure bI where
 n:Nat
 w0:World
 kK:Nat->Option Nat
 own:Nat->Prop
 kb:List (Nat×Nat)
 dl:List Deferred
def hc(e:aA)(b:Nat)(cs:List G):Prop:=∃k vs el,e.bx b=some k/\e.w.heap[k]?=some (.cells (List.toArray vs) el (0,0))/\DReps e vs cs
structure nQ(own:Nat->Prop)(w aI:World):Prop where
 os:aI.os=w.os
 tape:aI.tape=w.tape
 output:aI.output=w.output
 size:w.heap.size<=aI.heap.size
 block:∀k,k<w.heap.size->¬own k->aI.heap[k]?=w.heap[k]?
theorem nQ.refl(own:Nat->Prop)(w:World):nQ own w w:=⟨rfl,rfl,rfl,Nat.le_refl _,λ _ _ _=>rfl⟩
theorem nQ.below{own:Nat->Prop}{w aI nk:World}(h:nQ own w aI)(T:Below aI.heap.size aI nk):nQ own w nk:=
 ⟨T.os.trans h.os,T.tape.trans h.tape,T.output.trans h.output,Nat.le_trans h.size T.size,λ k I ho=>(T.block k (Nat.lt_of_lt_of_le I h.size)).trans (h.block k I ho)⟩
structure hd(Γ:bI)(e:aA):Prop where
 kept:nQ Γ.own Γ.w0 e.w
 cl:∀k,k<Γ.w0.heap.size->¬Γ.own k->e.cl k=Γ.kK k
 bx:∀b k,e.bx b=some k->k<e.w.heap.size/\(Γ.w0.heap.size<=k\/Γ.own k)/\e.cl k=some 0/\e.gr k=none
 inj:∀b c k,e.bx b=some k->e.bx c=some k->b=c
 gr:∀k g,e.gr k=some g->∃au cur,e.gi g=some au/\k<e.w.heap.size/\(Γ.w0.heap.size<=k\/Γ.own k)/\e.cl k=some (au.len*au.sz)/\e.w.heap[k]?=some (.cells cur au.el (0,0))
 kb:∀b k,kv Γ.kb b=some k->e.bx b=some k
structure bu(Γ:bI)(J:St)(e:aA)(a:Act):Prop where
 size:a.tmps.size=Γ.n
 df:a.defers=Γ.dl
 bP:∀t d,kv J.s t=some d->bD e (fZ a t) d
 boxes:∀b cs,kv J.b b=some cs->hc e b cs
 ei:∀b,kv J.b b=none->e.bx b=none
 gs:∀g,e.gi g=kv J.g g
 env:hd Γ e
structure kg(e Y:aA):Prop where
 below:Below e.w.heap.size e.w Y.w
 cl:∀k,k<e.w.heap.size->Y.cl k=e.cl k
 bx:Y.bx=e.bx
 gr:Y.gr=e.gr
 gi:Y.gi=e.gi
theorem kg.refl(e:aA):kg e e:=⟨Below.refl _ _,λ _ _=>rfl,rfl,rfl,rfl⟩
theorem EZ{w:World}{b o:Nat}{v:Value}(h:w.cell? ⟨b,o,none⟩=some v):b<w.heap.size:=by
 rcases Nat.lt_or_ge b w.heap.size with ba|fB
 ·exact ba
 ·simp[World.cell?,Array.getElem?_eq_none fB] at h
theorem sd{w:World}{b:Nat}{o:Obj}(h:w.heap[b]?=some o):b<w.heap.size:=by
 rcases Nat.lt_or_ge b w.heap.size with ba|fB
 ·exact ba
 ·rw[Array.getElem?_eq_none fB] at h;cases h
theorem kg.np{e Y:aA}(h:kg e Y){b o:Nat}(T:b<e.w.heap.size)(L:e.np b o):Y.np b o:=λ k I=>L k (by rw[<-h.cl b T];exact I)
theorem kg.ends{e Y:aA}(h:kg e Y):Ends e Y:=by
 refine⟨λ b o v L hv=>?_,λ b k I=>by rw[h.bx];exact I,λ g au hg=>⟨au,by rw[h.gi];exact hg,rfl,rfl,Nat.le_refl _⟩,λ k g au cur h1 A K=>⟨by rw[h.gr];exact h1,cur,?_,rfl⟩⟩
 ·have T:=EZ hv;exact⟨h.np T L,by rw[h.below.cell (p:=⟨b,o,none⟩) T];exact hv⟩
 ·rw[h.below.block k (sd K)];exact K
theorem kg.box{e Y:aA}(h:kg e Y){b:Nat}{cs:List G}(T:hc e b cs):hc Y b cs:=by obtain⟨k,vs,el,h1,A,K⟩:=T;exact⟨k,vs,el,by rw[h.bx];exact h1,by rw[h.below.block k (sd A)];exact A,K.next h.ends⟩
theorem kg.ok{Γ:bI}{e Y:aA}(h:kg e Y)(ho:hd Γ e):hd Γ Y:=by
 refine⟨ho.kept.below h.below,λ k I hw=>(h.cl k (Nat.lt_of_lt_of_le I ho.kept.size)).trans (ho.cl k I hw),λ b k T=>?_,λ b c k h1 A=>ho.inj b c k (by rw[<-h.bx];exact h1) (by rw[<-h.bx];exact A),λ k g hg=>?_,λ b k I=>by rw[h.bx];exact ho.kb b k I⟩
 ·rw[h.bx] at T;obtain⟨h1,A,K,h4⟩:=ho.bx b k T;exact⟨Nat.lt_of_lt_of_le h1 h.below.size,A,(h.cl k h1).trans K,by rw[h.gr];exact h4⟩
 ·rw[h.gr] at hg;obtain⟨au,cur,h1,A,K,h4,h5⟩:=ho.gr k g hg;exact⟨au,cur,by rw[h.gi];exact h1,Nat.lt_of_lt_of_le A h.below.size,K,(h.cl k A).trans h4,by rw[h.below.block k A];exact h5⟩
theorem bu.grow{Γ:bI}{J:St}{e Y:aA}{a:Act}(L:bu Γ J e a)(h:kg e Y):bu Γ J Y a:=
 ⟨L.size,L.df,λ t d ht=>(L.bP t d ht).next h.ends,λ b cs T=>h.box (L.boxes b cs T),λ b T=>by rw[h.bx];exact L.ei b T,λ g=>by rw[h.gi];exact L.gs g,h.ok L.env⟩
def St.put(J:St):Option Nat->G->St
 |some t,d=>⟨(t,d)::J.s,J.b,J.g⟩
 |none,_=>J
def St.box(J:St):Option (Nat×List G)->St
 |some p=>⟨J.s,p::J.b,J.g⟩
 |none=>J
def vU(n:Nat):Option Nat->Bool
 |some t=>Nat.blt t n
 |none=>true
theorem bu.put{Γ:bI}{J:St}{e:aA}{a:Act}(L:bu Γ J e a){dst:Option Nat}(F:vU Γ.n dst=true){v:Value}{d:G}(hv:bD e v d):bu Γ (J.put dst d) e (a.put dst v):=by
 cases dst with
 |none=>exact L
 |some t=>
  have ht:t<Γ.n:=by simpa[vU,Nat.blt_eq] using F
  refine⟨by rw[Hw];exact L.size,by rw[E8];exact L.df,λ af c hu=>?_,L.boxes,L.ei,L.gs,L.env⟩;simp only[St.put,cM] at hu;split at hu
  ·rename_i lE;subst lE;cases hu;rw[Eu (by rw[L.size];exact ht)];exact hv
  ·rename_i lE;rw[y2 (λ e=>lE (by cases e;rfl))];exact L.bP af c hu
def aA.iX(e:aA)(b k:Nat):aA:={e with bx:=λ x=>if x=b then some k else e.bx x}
theorem t7{e:aA}{b k:Nat}(h:e.bx b=none):Ends e (e.iX b k):=
 ⟨λ _ _ _ h1 A=>⟨h1,A⟩,λ c j hj=>by
  show(if c=b then some k else e.bx c)=some j;rw[if_neg (λ Y=>by rw[Y,h] at hj;cases hj)];exact hj,λ _ au hg=>⟨au,hg,rfl,rfl,Nat.le_refl _⟩,λ _ _ _ cur h1 _ K=>⟨h1,cur,K,rfl⟩⟩
theorem hc.ends{e Y:aA}{b:Nat}{cs:List G}(h:hc e b cs)(E:Ends e Y)(hw:Y.w=e.w):hc Y b cs:=by obtain⟨k,vs,el,h1,A,K⟩:=h;exact⟨k,vs,el,E.bx _ _ h1,by rw[hw];exact A,K.next E⟩
theorem bu.aaK{Γ:bI}{J:St}{e:aA}{a:Act}(L:bu Γ J e a){b k:Nat}{cs:List G}(T:kv J.b b=none)(I:k<e.w.heap.size)(py:Γ.w0.heap.size<=k)(dT:e.cl k=some 0)(gT:e.gr k=none)(dm:∀c,e.bx c≠some k)
 (hi:hc (e.iX b k) b cs):bu Γ (J.box (some (b,cs))) (e.iX b k) a:=by
 have hn:=L.ei b T;have E:=t7 (k:=k) hn;refine⟨L.size,L.df,λ t d ht=>(L.bP t d ht).next E,λ c ds q6=>?_,λ c sa=>?_,L.gs,?_⟩
 ·simp only[St.box,cM] at q6;split at q6
  ·rename_i tv;subst tv;cases q6;exact hi
  ·exact(L.boxes c ds q6).ends E rfl
 ·simp only[St.box,cM] at sa;split at sa
  ·cases sa
  ·rename_i tv;show(if c=b then some k else e.bx c)=none;rw[if_neg (λ Y=>tv Y.symm)];exact L.ei c sa
 ·refine⟨L.env.kept,L.env.cl,λ c j hj=>?_,λ c bw j h1 A=>?_,L.env.gr,λ c j hj=>E.bx c j (L.env.kb c j hj)⟩
  ·have eF:(if c=b then some k else e.bx c)=some j:=hj;split at eF
   ·cases eF;exact⟨I,.inl py,dT,gT⟩
   ·exact L.env.bx c j eF
  ·have aP:(if c=b then some k else e.bx c)=some j:=h1;have bs:(if bw=b then some k else e.bx bw)=some j:=A
   by_cases e1:c=b<;>by_cases e2:bw=b
   ·rw[e1,e2]
   ·rw[if_pos e1] at aP;rw[if_neg e2] at bs;cases aP;exact absurd bs (dm bw)
   ·rw[if_neg e1] at aP;rw[if_pos e2] at bs;cases bs;exact absurd aP (dm c)
   ·rw[if_neg e1] at aP;rw[if_neg e2] at bs;exact L.env.inj c bw j aP bs
def oJ(e Y:aA)(v:Value)(d:G):Option (Nat×List G)->Prop
 |none=>kg e Y/\bD Y v d
 |some (b,cs)=>∃e1 k,kg e e1/\e.w.heap.size<=k/\k<e1.w.heap.size/\e1.cl k=some 0/\Y=e1.iX b k/\hc Y b cs/\bD Y v d
theorem bu.quiet{Γ:bI}{J:St}{e Y:aA}{a:Act}(L:bu Γ J e a){dst:Option Nat}(F:vU Γ.n dst=true){v:Value}{d:G}{nb:Option (Nat×List G)}(fK:∀p,nb=some p->kv J.b p.1=none)(h:oJ e Y v d nb):bu Γ ((J.box nb).put dst d) Y (a.put dst v):=by
 cases nb with
 |none=>exact(L.grow h.1).put F h.2
 |some p=>
  obtain⟨b,cs⟩:=p;obtain⟨e1,k,hg,h1,A,K,rfl,h5,h6⟩:=h;have bR:=L.grow hg;refine(bR.aaK (fK _ rfl) A (Nat.le_trans L.env.kept.size h1) K ?_ ?_ h5).put F h6
  ·rw[hg.gr];rcases ja:e.gr k with _|g
   ·rfl
   ·obtain⟨_,_,_,ba,_⟩:=L.env.gr k g ja;omega
  ·intro c uw;rw[hg.bx] at uw;have:=(L.env.bx c k uw).1;omega
def qQ:Value->G
 |.slice none 0 0=>.p (.sl true 0 [])
 |v=>.p (.raw v)
def lK:Value->G
 |.agg cs=>.agg (cs.toList.map qQ)
 |v=>qQ v
theorem aaW(e:aA):db e (.slice none 0 0) (.sl true 0 []):=.sl (λ _=>undef) (Nat.le_refl _) (by unfold maxLen;omega) (λ _=>rfl) (λ _=>rfl) (λ i x h=>by simp at h) (λ i x h=>by simp at h)
theorem E3(e:aA)(v:Value):bD e v (qQ v):=by
 unfold qQ;split
 ·exact .p (aaW e)
 ·exact .p (.raw v)
theorem xz(e:aA)(v:Value):bD e v (lK v):=by
 unfold lK;split
 ·rename_i cs;have:bD e (.agg cs.toList.toArray) (.agg (cs.toList.map qQ)):=.agg (by simp) (λ i v d h1 A=>by
   rw[List.getElem?_map,h1] at A;cases A;exact E3 e v)
  simpa using this
 ·exact E3 e v
def l5{ar dh:Type}:Nat->List dh->(List dh->Option ar)->Option ar
 |0,_,k=>k []
 |n+1,x::l,k=>l5 n l (λ r=>k (x::r))
 |_+1,[],_=>none
def kN{ar dh:Type}:Nat->List dh->(List dh->Option ar)->Option ar
 |0,l,k=>k l
 |n+1,_::l,k=>kN n l k
 |_+1,[],_=>none
def GN{ar dh y9:Type}(f:y9->dh):List y9->(List dh->Option ar)->Option ar
 |[],k=>k []
 |x::l,k=>GN f l (λ r=>k (f x::r))
def mE{ar dh:Type}:List dh->List dh->(List dh->Option ar)->Option ar
 |[],m,k=>k m
 |x::l,m,k=>mE l m (λ r=>k (x::r))
theorem rF{ar dh:Type}:∀{n:Nat}{l:List dh}{k:List dh->Option ar}{a:ar},l5 n l k=some a->n<=l.length/\k (l.take n)=some a
 |0,l,k,a,h=>⟨Nat.zero_le _,by simpa[l5] using h⟩
 |n+1,x::l,k,a,h=>by
  obtain⟨h1,A⟩:=rF (n:=n) (l:=l) (k:=λ r=>k (x::r)) h;exact⟨by simpa using h1,by simpa using A⟩
 |n+1,[],k,a,h=>by cases h
theorem nt{ar dh:Type}:∀{n:Nat}{l:List dh}{k:List dh->Option ar}{a:ar},kN n l k=some a->n<=l.length/\k (l.drop n)=some a
 |0,l,k,a,h=>⟨Nat.zero_le _,by simpa[kN] using h⟩
 |n+1,x::l,k,a,h=>by
  obtain⟨h1,A⟩:=nt (n:=n) (l:=l) (k:=k) h;exact⟨by simpa using h1,by simpa using A⟩
 |n+1,[],k,a,h=>by cases h
theorem Re{ar dh y9:Type}(f:y9->dh):∀(l:List y9)(k:List dh->Option ar),GN f l k=k (l.map f)
 |[],k=>rfl
 |x::l,k=>by rw[GN,Re f l];rfl
theorem qO{ar dh:Type}:∀(l m:List dh)(k:List dh->Option ar),mE l m k=k (l++m)
 |[],m,k=>rfl
 |x::l,m,k=>by rw[mE,qO l m];rfl
def GA{ar:Type}(v:Value)(k:G->Option ar):Option ar:=match v with
 |.slice none 0 0=>k (.p (.sl true 0 []))
 |v=>k (.p (.raw v))
def GB{ar:Type}:List Value->(List G->Option ar)->Option ar
 |[],k=>k []
 |v::l,k=>GA v λ d=>GB l λ r=>k (d::r)
def qP{ar:Type}(v:Value)(k:G->Option ar):Option ar:=match v with
 |.agg cs=>GB cs.toList λ ds=>k (.agg ds)
 |v=>GA v k
theorem QZ{ar:Type}(v:Value)(k:G->Option ar):GA v k=k (qQ v):=by unfold GA qQ;split<;>rfl
theorem Q0{ar:Type}:∀(l:List Value)(k:List G->Option ar),GB l k=k (l.map qQ)
 |[],k=>rfl
 |v::l,k=>by rw[GB,QZ,Q0 l];rfl
theorem xA{ar:Type}(v:Value)(k:G->Option ar):qP v k=k (lK v):=by
 unfold qP lK;split
 ·rw[Q0]
 ·rw[QZ]
def ev(S:Nat->Option G):Operand->Option G
 |.tmp t=>S t
 |.const v=>qP v some
 |.func f=>some (.fn (.func f) [] [])
 |.global _=>none
def i5{ar:Type}(S:Nat->Option G):List Operand->(List G->Option ar)->Option ar
 |[],k=>k []
 |x::l,k=>match ev S x with
  |some d=>i5 S l λ r=>k (d::r)
  |none=>none
def H8(S:Nat->Option G)(B:Nat->Option (List G))(a:Act)(e:aA)(xs:Array Operand):Prop:=
 (∀x∈xs,∀d,ev S x=some d->bD e (a.eval x) d)/\∀b cs,B b=some cs->hc e b cs
theorem bu.iI{Γ:bI}{J:St}{e:aA}{a:Act}(L:bu Γ J e a)(xs:Array Operand):H8 (kv J.s) (kv J.b) a e xs:=by
 refine⟨λ x _ d O=>?_,L.boxes⟩;cases x with
 |tmp t=>exact L.bP t d O
 |const v=>simp only[ev,xA,Option.some.injEq] at O;subst O;exact xz e v
 |global g=>cases O
 |func f=>simp only[ev,Option.some.injEq] at O;subst O;exact .fn (us:=[]) (vs:=[]) rfl rfl (λ i v d h=>by simp at h) (λ i v d h=>by simp at h)
def dH(P:Program)(o:Oper)(S:Nat->Option G)(B:Nat->Option (List G))(d:G)(nb:Option (Nat×List G)):Prop:=
 ∀(a:Act)(e:aA),H8 S B a e o.op.operands->(∀p,nb=some p->e.bx p.1=none)->
  o.wp P a e.w (λ br aI=>∃v Y,br=a.put o.dst v/\Y.w=aI/\oJ e Y v d nb) (λ _ _ _=>False)
theorem jh{P:Program}{o:Oper}{S:Nat->Option G}{B:Nat->Option (List G)}{d:G}(h:∀(a:Act)(e:aA),H8 S B a e o.op.operands->∃v,(execOp a.eval o).run P e.w=.ok (.value v) e.w/\bD e v d):dH P o S B d none:=by intro a e hs _;obtain⟨v,hr,hv⟩:=h a e hs;unfold Oper.wp;rw[hr];exact⟨v,e,rfl,rfl,kg.refl e,hv⟩
end Go.Proofs.YtcnefjfboagbmaaGreat
end
section
namespace Go.Proofs.YtcnefjfboagbmaaGreat
open Go.RowKit
inductive TK where
 |int (k:IntKind)
 |bool
 |str
 |slice (e:TypeId)
 |struct (fs:List (TypeId×Nat×Nat))
 |array (n:Nat) (e:TypeId)
 |other
structure TI where
 k:TK
 sz:Nat
 bytes:Nat
 zero:Value
def jJ(P:Program):TypeDesc->TK
 |.int k=>.int k
 |.bool=>.bool
 |.string=>.str
 |.slice e=>.slice e
 |.struct fs=>.struct (fs.toList.map λ f=>(f.type,f.offset,P.cellsOf f.type))
 |.array n e=>.array n e
 |_=>.other
structure cW(P:Program)(ae:Nat->Option TI):Prop where
 desc:∀t i,ae t=some i->∃d,P.underlying t=some d/\jJ P d=i.k
 info:∀t i,ae t=some i->∃f,P.info? t=some f/\f.size=i.sz/\f.bytes=i.bytes/\f.zero=some i.zero
def TK.agg:TK->Bool
 |.struct _|.array _ _=>true
 |_=>false
def yF(i:TI)(ds:List G):Option G:=
 bif i.k.agg then l5 i.sz ds λ r=>some (.agg r)
 else match ds with
  |d::_=>some d
  |[]=>none
def zk:BinOp->Value->Value->Option Value
 |.add,.int .i64 a,.int .i64 b=>some (.int .i64 (IntKind.i64.wrap (a+b)))
 |.sub,.int .i64 a,.int .i64 b=>some (.int .i64 (IntKind.i64.wrap (a-b)))
 |.mul,.int .i64 a,.int .i64 b=>some (.int .i64 (IntKind.i64.wrap (a*b)))
 |.eql,.int .i64 a,.int .i64 b=>some (.bool (decide (a=b)))
 |.neq,.int .i64 a,.int .i64 b=>some (.bool (!decide (a=b)))
 |.lss,.int .i64 a,.int .i64 b=>some (.bool (decide (a<b)))
 |.leq,.int .i64 a,.int .i64 b=>some (.bool (decide (a<=b)))
 |.gtr,.int .i64 a,.int .i64 b=>some (.bool (decide (b<a)))
 |.geq,.int .i64 a,.int .i64 b=>some (.bool (decide (b<=a)))
 |.add,.int .u64 a,.int .u64 b=>some (.int .u64 (IntKind.u64.wrap (a+b)))
 |.sub,.int .u64 a,.int .u64 b=>some (.int .u64 (IntKind.u64.wrap (a-b)))
 |.mul,.int .u64 a,.int .u64 b=>some (.int .u64 (IntKind.u64.wrap (a*b)))
 |.eql,.int .u64 a,.int .u64 b=>some (.bool (decide (a=b)))
 |.neq,.int .u64 a,.int .u64 b=>some (.bool (!decide (a=b)))
 |.lss,.int .u64 a,.int .u64 b=>some (.bool (decide (a<b)))
 |.and,.int .u64 a,.int .u64 b=>some (.int .u64 (IntKind.u64.wrap ((BitVec.ofInt 64 a&&&BitVec.ofInt 64 b).toNat)))
 |.andNot,.int .u64 a,.int .u64 b=>some (.int .u64 (IntKind.u64.wrap ((BitVec.ofInt 64 a&&&~~~BitVec.ofInt 64 b).toNat)))
 |.and,.int .i64 a,.int .i64 b=>some (.int .i64 (IntKind.i64.wrap ((BitVec.ofInt 64 a&&&BitVec.ofInt 64 b).toNat)))
 |.eql,.int .u8 a,.int .u8 b=>some (.bool (decide (a=b)))
 |.eql,.bool a,.bool b=>some (.bool (a==b))
 |.neq,.bool a,.bool b=>some (.bool (!(a==b)))
 |_,_,_=>none
theorem run_equal_bool{P:Program}{t:TypeId}(hu:P.underlying t=some .bool)(a b:Bool)(w:World):(Op.equal t (.bool a) (.bool b)).run P w=.ok (a==b) w:=by
 show(Op.equalIn (9999+1) t _ _).run P w=_;rw[Op.equalIn];simp only[Sem.run_bind,run_underlying hu,Result.andThen_ok]
 rfl
theorem U6{P:Program}{ae:Nat->Option TI}(_:cW P ae){op:BinOp}{t:TypeId}{af v r:Value}(h:zk op af v=some r)(T:∀b:Bool,af=.bool b->P.underlying t=some .bool)(x y:Operand)(w:World):
 (do eqGuard op t x y af v;binOp op t af v:Sem Value).run P w=.ok r w:=by
 unfold zk at h;split at h
 all_goals cases h
 all_goals first
  |(simp only[eqGuard,binOp,Op.intArith,Op.intCmp,Op.intBits,IntKind.bits];rfl)
  |(rename_i a b;have hu:P.underlying t=some .bool:=T a rfl;simp only[eqGuard,binOp];simp[run_equal_bool hu];done)
  |skip
def RS(ft:TypeId×Nat×Nat)(isAgg:Bool)(ds:List G):Option G:=
 bif isAgg then kN ft.2.1 ds λ r=>l5 ft.2.2 r λ q=>some (.agg q)
 else ds[ft.2.1]?
def KL(c:Call):Option (Operand×TypeId):=match c.callee with
 |.builtin .len=>match c.args.toList,c.argTypes.toList with
  |[x],[t]=>some (x,t)
  |_,_=>none
 |_=>none
theorem Z2{c:Call}{x:Operand}{t:TypeId}(h:KL c=some (x,t)):c={callee:=.builtin .len,args:=#[x],argTypes:=#[t]}:=by
 obtain⟨callee,args,fx⟩:=c;unfold KL at h;simp only at h;split at h
 ·split at h
  ·rename_i h1 A;cases h;obtain⟨l1⟩:=args;obtain⟨l2⟩:=fx;simp only at h1 A;subst h1;subst A
   rfl
  ·cases h
 ·cases h
def ax(ae:Nat->Option TI)(S:Nat->Option G)(B:Nat->Option (List G)):Op->Option G
 |.move x|.assign x=>ev S x
 |.pick c x y=>match ev S c with
  |some (.p (.raw (.bool true)))=>ev S x
  |some (.p (.raw (.bool false)))=>ev S y
  |_=>none
 |.load t x=>match ae t,ev S x with
  |some i,some (.ptr b o)=>match B b with
   |some cs=>kN o cs (yF i)
   |none=>none
  |some i,some (.el ps)=>GN G.p ps (yF i)
  |_,_=>none
 |.binOp op t x y _=>match ae t,ev S x,ev S y with
  |some i,some (.p (.raw af)),some (.p (.raw v))=>match zk op af v,af,i.k with
   |some r,.bool _,.bool=>some (.p (.raw r))
   |some r,.int ..,_=>some (.p (.raw r))
   |_,_,_=>none
  |_,_,_=>none
 |.unOp af _ x=>match af,ev S x with
  |.not,some (.p (.raw (.bool b)))=>some (.p (.raw (.bool (!b))))
  |.neg,some (.p (.raw (.int .i64 n)))=>some (.p (.raw (.int .i64 (IntKind.i64.wrap (0-n)))))
  |_,_=>none
 |.convert s t x=>match ae s,ae t,ev S x with
  |some ⟨.int _,_,_,_⟩,some ⟨.int k,_,_,_⟩,some (.p (.raw (.int _ n)))=>some (.p (.raw (.int k (k.wrap n))))
  |_,_,_=>none
 |.extract x i=>match ev S x with
  |some (.bg ds)=>ds[i]?
  |_=>none
 |.fieldAddr t x f=>match ae t,ev S x with
  |some ⟨.struct fs,_,_,_⟩,some (.ptr b o)=>match fs[f]? with
   |some (_,dF,_+1)=>some (.ptr b (o+dF))
   |_=>none
  |some ⟨.struct fs,_,_,_⟩,some (.el ps)=>match fs[f]? with
   |some (_,dF,_+1)=>kN dF ps λ r=>some (.el r)
   |_=>none
  |_,_=>none
 |.field t x f=>match ae t,ev S x with
  |some ⟨.struct fs,_,_,_⟩,some (.agg ds)=>match fs[f]? with
   |some ft=>match ae ft.1 with
    |some j=>RS ft j.k.agg ds
    |none=>none
   |none=>none
  |_,_=>none
 |.call c=>match KL c with
  |some (x,t)=>match ae t,ev S x with
   |some ⟨.slice _,_,_,_⟩,some (.p (.sl _ n _))=>some (.p (.raw (.int .i64 n)))
   |some ⟨.slice _,_,_,_⟩,some (.aW _ n _)=>some (.p (.raw (.int .i64 n)))
   |some ⟨.slice _,_,_,_⟩,some (.arr _ _ n _)=>some (.p (.raw (.int .i64 n)))
   |_,_=>none
  |none=>none
 |.makeFunc f first cG=>i5 S first.toList λ fs=>i5 S cG.toList λ cs=>some (.fn f fs cs)
 |.nilCheck x=>match ev S x with
  |some (.ptr b o)=>some (.ptr b o)
  |some (.el ps)=>some (.el ps)
  |_=>none
 |_=>none
end Go.Proofs.YtcnefjfboagbmaaGreat
end
section
namespace Go.Proofs.YtcnefjfboagbmaaGreat
open Go.RowKit
section
variable{P:Program}{ae:Nat->Option TI}{S:Nat->Option G}{B:Nat->Option (List G)}
theorem Eo{t:TypeId}{i:TI}(hT:cW P ae)(ht:ae t=some i)(w:World):(isAgg t).run P w=.ok i.k.agg w:=by obtain⟨d,F,I⟩:=hT.desc t i ht;unfold isAgg;simp only[Sem.run_bind,run_underlying F,Result.andThen_ok];rw[<-I];cases d<;>rfl
theorem run_sizeOf{t:TypeId}{i:TI}(hT:cW P ae)(ht:ae t=some i)(w:World):(sizeOf t).run P w=.ok i.sz w:=by obtain⟨f,hf,hs,_⟩:=hT.info t i ht;simp[sizeOf,typeInfo,hf,hs]
theorem By{t:TypeId}{i:TI}(hT:cW P ae)(ht:ae t=some i)(w:World):(zeroValue t).run P w=.ok i.zero w:=by obtain⟨f,hf,_,_,hz⟩:=hT.info t i ht;simp[zeroValue,typeInfo,hf,hz]
theorem rM(b o n:Nat):(⟨b,o,none⟩:Addr).add n=⟨b,o+n,none⟩:=Addr.add_lit b o n
theorem KT(hT:cW P ae){t:TypeId}{i:TI}(ht:ae t=some i){e:aA}{k o:Nat}{us:List Value}{ds:List G}(hu:∀j v,us[j]?=some v->e.w.cell? ⟨k,o+j,none⟩=some v)(hr:DReps e us ds){d:G}(F:yF i ds=some d):
 ∃v,(Instr.loadAt t (.pointer (some ⟨k,o,none⟩))).run P e.w=.ok v e.w/\bD e v d:=by
 unfold yF at F;simp only[Instr.loadAt,Instr.sureAddr,loadVar,Sem.run_bind,Sem.run_pure,Result.andThen_ok,Eo hT ht];cases oQ:i.k.agg
 ·rw[oQ] at F;simp only[cond_false] at F;split at F
  ·rename_i dR ik;cases F;obtain⟨v,af5,rfl,hv,_⟩:=hr.xi;have:=hu 0 v rfl;simp only[Nat.add_zero] at this;exact⟨v,by simp[run_load,this],hv⟩
  ·cases F
 ·rw[oQ] at F;simp only[cond_true] at F;obtain⟨afq,F⟩:=rF F;cases F
  ·skip
   have R:(us.take i.sz).length=i.sz:=by rw[List.length_take,hr.1];omega
   have:=run_loadCells_list (P:=P) e.w ⟨k,o,none⟩ (us.take i.sz) (λ j v hj=>by
    rw[List.getElem?_take] at hj;split at hj
    ·rw[rM];exact hu j v hj
    ·cases hj)
   rw[R] at this;refine⟨.agg (us.take i.sz).toArray,by simp[this,run_sizeOf hT ht],?_⟩;have ht:=hr.take i.sz;exact .agg ht.1 ht.2
theorem N0{e:aA}{b o:Nat}{ps:List Pl}(h:rH e b o ps):∃us,(∀j v,us[j]?=some v->e.w.cell? ⟨b,o+j,none⟩=some v)/\DReps e us (ps.map .p)/\∀v∈us,lX v=true:=by
 obtain⟨f,hf⟩:=h;refine⟨(List.range ps.length).map f,λ j v hj=>?_,⟨by simp,λ j v d h1 A=>?_⟩,λ v hv=>?_⟩
 ·rw[List.getElem?_map] at hj;rcases Da:(List.range ps.length)[j]? with _|q
  ·rw[Da] at hj;cases hj
  ·rw[Da] at hj;have ba:j<ps.length:=by have:=(List.getElem?_eq_some_iff.1 Da).1;simpa using this
   have hq:q=j:=by rw[List.getElem?_range ba] at Da;cases Da;rfl
   subst hq;simp only[Option.map_some,Option.some.injEq] at hj;subst hj;exact(hf q _ (List.getElem?_eq_getElem ba)).2.1
 ·rw[List.getElem?_map] at h1 A;rcases hp:ps[j]? with _|x
  ·rw[hp] at A;cases A
  ·rw[hp] at A;have ba:j<ps.length:=(List.getElem?_eq_some_iff.1 hp).1;rw[List.getElem?_range ba] at h1;simp only[Option.map_some,Option.some.injEq] at h1 A;subst h1;subst A;exact .p (hf j x hp).2.2.2
 ·obtain⟨j,hj,rfl⟩:=List.mem_map.1 hv;have ba:j<ps.length:=by simpa using hj
  exact(hf j _ (List.getElem?_eq_getElem ba)).2.2.1
theorem cR{e:aA}{v af:Value}(h:bD e v (.p (.raw af))):v=af:=by
 cases h with
 |p h=>cases h;rfl
theorem td{ar:Type}{a:Act}{e:aA}:∀(xs:List Operand)(k:List G->Option ar)(r:ar),(∀x∈xs,∀d,ev S x=some d->bD e (a.eval x) d)->i5 S xs k=some r->∃ds,DReps e (xs.map a.eval) ds/\k ds=some r
 |[],k,r,_,h=>⟨[],DReps.nil e,h⟩
 |x::xs,k,r,hs,h=>by
  simp only[i5] at h;split at h
  ·rename_i d F;obtain⟨ds,h1,A⟩:=td xs _ r (λ y hy=>hs y (by simp[hy])) h;exact⟨d::ds,DReps.cons (hs x (by simp) d F) h1,A⟩
  ·cases h
theorem IW{t:TypeId}{fs:List (TypeId×Nat×Nat)}{a b c:_}(hT:cW P ae)(ht:ae t=some ⟨.struct fs,a,b,c⟩){f:Nat}{ft:TypeId}{dF sz:Nat}(hf:fs[f]?=some (ft,dF,sz+1))(k o:Nat)(w:World):
 (Instr.fieldAt t (.pointer (some ⟨k,o,none⟩)) f).run P w=.ok (.pointer (some ⟨k,o+dF,none⟩)) w:=by
 obtain⟨d,F,I⟩:=hT.desc t _ ht;cases d<;>simp only[jJ,TK.struct.injEq,reduceCtorEq] at I
 rename_i rX;subst I;rw[List.getElem?_map] at hf;rcases hq:rX.toList[f]? with _|q
 ·rw[hq] at hf;cases hf
 ·rw[hq] at hf;simp only[Option.map_some,Option.some.injEq,Prod.mk.injEq] at hf;obtain⟨rfl,rfl,K⟩:=hf;have jW:rX[f]?=some q:=by simpa using hq
  have bQ:(sizeOf q.type).run P w=.ok (sz+1) w:=by
   unfold Program.cellsOf at K;rcases X:P.info? q.type with _|i
   ·rw[X] at K;simp at K
   ·rw[X] at K;simp only[Option.map_some,Option.getD_some] at K;simp[sizeOf,typeInfo,X,K]
  simp[Instr.fieldAt,run_underlying F,jW,Instr.sureAddr,fieldPlace,bQ,rM]
theorem sW(hT:cW P ae){o:Oper}{d:G}(h:ax ae S B o.op=some d):dH P o S B d none:=by
 obtain⟨dst,op,type,pos,after,guard⟩:=o;refine jh λ a e hs=>?_
 simp only at h hs;have kE:∀x∈op.operands,∀d,ev S x=some d->bD e (a.eval x) d:=hs.1;cases op<;>simp only[ax,reduceCtorEq] at h
 case move x=>exact⟨_,rfl,kE x (by simp[Op.operands]) d h⟩
 case assign x=>exact⟨_,rfl,kE x (by simp[Op.operands]) d h⟩
 case pick c x y=>
  split at h
  ·rename_i L;have dk:=cR (kE c (by simp[Op.operands]) _ L);exact⟨a.eval x,by simp[execOp,asBool,dk],kE x (by simp[Op.operands]) d h⟩
  ·rename_i L;have dk:=cR (kE c (by simp[Op.operands]) _ L);exact⟨a.eval y,by simp[execOp,asBool,dk],kE y (by simp[Op.operands]) d h⟩
  ·cases h
 case load t x=>
  split at h
  ·rename_i i b o ht O;have h1:=kE x (by simp[Op.operands]) _ O;split at h
   ·rename_i cs hB;obtain⟨k,vs,el,A,K,h4⟩:=hs.2 b cs hB;generalize dk:a.eval x=vx at h1;cases h1 with
    |ptr h1=>
     rename_i jd;rw[A] at h1;cases h1;have:=KT hT ht (k:=k) (o:=o) (us:=vs.drop o) (λ j v hj=>by
      rw[List.getElem?_drop] at hj;rw[cell_of_row e.w k (o+j) vs.toArray el (0,0) K]
      simpa using hj) (h4.drop o) (nt h).2
     obtain⟨v,hr,hv⟩:=this;exact⟨v,by simp[execOp,dk,hr],hv⟩
   ·cases h
  ·rename_i i ps ht O;have h1:=kE x (by simp[Op.operands]) _ O;generalize dk:a.eval x=vx at h1;cases h1 with
   |el h1=>obtain⟨us,A,K,_⟩:=N0 h1;rw[Re] at h;obtain⟨v,hr,hv⟩:=KT hT ht A K h;exact⟨v,by simp[execOp,dk,hr],hv⟩
  ·cases h
 case binOp op t x y aeu=>
  split at h
  ·rename_i i af v ht O hy;have dk:=cR (kE x (by simp[Op.operands]) _ O);have XO:=cR (kE y (by simp[Op.operands]) _ hy);have key:∀r,zk op af v=some r->(∀b:Bool,af=.bool b->P.underlying t=some .bool)->(execOp a.eval {dst:=dst,op:=.binOp op t x y aeu,type:=type,pos:=pos,after:=after,guard:=guard}).run P e.w=.ok (.value r) e.w:=by
    intro r hr T;have:=U6 hT hr T x y e.w;simp only[execOp,dk,XO];rw[Sem.run_bind,this]
    rfl
   split at h
   ·rename_i r b X hr;cases h;refine⟨r,key r hr λ bj _=>?_,.p (.raw r)⟩;obtain⟨d,F,I⟩:=hT.desc t _ ht;rw[X] at I;cases d<;>simp only[jJ,reduceCtorEq] at I
    exact F
   ·rename_i r k n hr;cases h;exact⟨r,key r hr (λ bj T=>by cases T),.p (.raw r)⟩
   ·cases h
  ·cases h
 case unOp op t x=>
  split at h
  ·rename_i b O;have h1:=kE x (by simp[Op.operands]) _ O;have dk:=cR h1;cases h;exact⟨_,by simp[execOp,dk,Op.unary],.p (.raw _)⟩
  ·rename_i n O;have h1:=kE x (by simp[Op.operands]) _ O;have dk:=cR h1;cases h;exact⟨_,by simp only[execOp,dk,Op.unary,Op.intArith];rfl,.p (.raw _)⟩
  ·cases h
 case convert s t x=>
  split at h
  ·rename_i ks z1 z2 z3 kt z4 z5 z6 k0 n oY ht O;have h1:=kE x (by simp[Op.operands]) _ O;have dk:=cR h1;cases h;obtain⟨d1,kr,pD⟩:=hT.desc s _ oY;obtain⟨d2,oS,mR⟩:=hT.desc t _ ht;cases d1<;>simp only[jJ,reduceCtorEq] at pD
   cases d2<;>simp only[jJ,reduceCtorEq,TK.int.injEq] at mR
   subst mR;exact⟨_,by simp[execOp,dk,convert,run_underlying kr,run_underlying oS,Conv.intToInt],.p (.raw _)⟩
  ·cases h
 case extract x i=>
  split at h
  ·rename_i ds O;have h1:=kE x (by simp[Op.operands]) _ O;generalize dk:a.eval x=vx at h1;cases h1 with
   |bg R hh=>
    rename_i vs;obtain⟨v,K,h4⟩:=DReps.get ⟨R,hh⟩ h;have h5:vs.toArray[i]?=some v:=by simpa using K
    exact⟨v,by simp[execOp,dk,Instr.extract,K],h4⟩
  ·cases h
 case fieldAddr t x f=>
  split at h
  ·rename_i fs z1 z2 z3 b o ht O;have h1:=kE x (by simp[Op.operands]) _ O;generalize dk:a.eval x=vx at h1;split at h
   ·rename_i ft dF sz hf;cases h;cases h1 with
    |ptr h1=>exact⟨_,by simp[execOp,dk,IW hT ht hf],.ptr h1⟩
   ·cases h
  ·rename_i fs z1 z2 z3 ps ht O;have h1:=kE x (by simp[Op.operands]) _ O;generalize dk:a.eval x=vx at h1;split at h
   ·rename_i ft dF sz hf;obtain⟨_,h⟩:=nt h;cases h;cases h1 with
    |el h1=>rename_i b0 o0;refine⟨.pointer (some ⟨b0,o0+dF,none⟩),by simp[execOp,dk,IW hT ht hf],.el ?_⟩;obtain⟨g,hg⟩:=h1;refine⟨λ j=>g (dF+j),λ j y hy=>?_⟩;rw[List.getElem?_drop] at hy;obtain⟨h5,h6,h7,h8⟩:=hg _ y hy;rw[Nat.add_assoc];exact⟨h5,h6,h7,h8⟩
   ·cases h
  ·cases h
 case field t x f=>
  split at h
  ·rename_i fs z1 z2 z3 ds ht O;have h1:=kE x (by simp[Op.operands]) _ O;generalize dk:a.eval x=vx at h1;split at h
   ·rename_i ft hf;split at h
    ·rename_i j hj;cases h1 with
     |agg R hh=>
      rename_i vs;obtain⟨d0,F,I⟩:=hT.desc t _ ht;cases d0<;>simp only[jJ,TK.struct.injEq,reduceCtorEq] at I
      rename_i rX;subst I;rw[List.getElem?_map] at hf;rcases hq:rX.toList[f]? with _|q
      ·rw[hq] at hf;cases hf
      ·rw[hq] at hf;simp only[Option.map_some,Option.some.injEq] at hf;subst hf;have jW:rX[f]?=some q:=by simpa using hq
       have bQ:=run_sizeOf hT hj e.w;have JA:P.cellsOf q.type=j.sz:=by obtain⟨i0,PI,oY,_⟩:=hT.info _ _ hj;simp only at PI;simp[Program.cellsOf,PI,oY]
       unfold RS at h;simp only[JA] at h;cases oQ:j.k.agg
       ·rw[oQ] at h;simp only[cond_false] at h;obtain⟨v,K,h4⟩:=DReps.get ⟨R,hh⟩ h;refine⟨v,?_,h4⟩;simp only at hj;simp[execOp,dk,Instr.field,run_underlying F,jW,asAgg,part,Eo hT hj,oQ,K]
       ·rw[oQ] at h;simp only[cond_true] at h;obtain⟨_,h⟩:=nt h;obtain⟨_,h⟩:=rF h;cases h
        ·have hr:=(DReps.drop ⟨R,hh⟩ q.offset).take j.sz;refine⟨.agg ((vs.drop q.offset).take j.sz).toArray,?_,.agg hr.1 hr.2⟩;simp only at hj;simp[execOp,dk,Instr.field,run_underlying F,jW,asAgg,part,Eo hT hj,oQ,run_sizeOf hT hj,List.extract_eq_take_drop]
    ·cases h
   ·cases h
  ·cases h
 case call c=>
  split at h
  ·rename_i x t iD;have iD:=Z2 iD;subst iD;have n5:x∈(Op.call {callee:=.builtin .len,args:=#[x],argTypes:=#[t]}).operands:=by simp[Op.operands,Call.operands]
   have key:∀(ab:Option Addr)(n c:Nat)(el:TypeId),P.underlying t=some (.slice el)->a.eval x=.slice ab n c->(execOp a.eval {dst:=dst,op:=.call {callee:=.builtin .len,args:=#[x],argTypes:=#[t]},type:=type,pos:=pos,after:=after,guard:=guard}).run P e.w=.ok (.value (.int .i64 n)) e.w:=by intro ab n c el F hv;simp[execOp,resolve,invoke,builtin,Builtin.len_,hv,run_underlying F,goInt]
   split at h
   ·rename_i el z1 z2 z3 ex n ps ht O;have h1:=kE x n5 _ O;obtain⟨d0,F,I⟩:=hT.desc t _ ht;cases d0<;>simp only[jJ,reduceCtorEq,TK.slice.injEq] at I
    generalize dk:a.eval x=vx at h1;cases h1 with
    |p h1=>cases h1 with
     |sl=>cases h;exact⟨_,key _ _ _ _ F dk,.p (.raw _)⟩
   ·rename_i el z1 z2 z3 g n ps ht O;have h1:=kE x n5 _ O;obtain⟨d0,F,I⟩:=hT.desc t _ ht;cases d0<;>simp only[jJ,reduceCtorEq,TK.slice.injEq] at I
    generalize dk:a.eval x=vx at h1;cases h1 with
    |aW h1 _=>cases h1 with
     |sl=>cases h;exact⟨_,key _ _ _ _ F dk,.p (.raw _)⟩
   ·rename_i el z1 z2 z3 b o n c ht O;have h1:=kE x n5 _ O;obtain⟨d0,F,I⟩:=hT.desc t _ ht;cases d0<;>simp only[jJ,reduceCtorEq,TK.slice.injEq] at I
    generalize dk:a.eval x=vx at h1;cases h1 with
    |arr h1=>cases h;exact⟨_,key _ _ _ _ F dk,.p (.raw _)⟩
   ·cases h
  ·cases h
 case makeFunc f first cG=>obtain⟨fs,r1,h⟩:=td first.toList _ d (λ x O=>kE x (by simp[Op.operands] at*;exact .inl O)) h;obtain⟨cs,r2,h⟩:=td cG.toList _ d (λ x O=>kE x (by simp[Op.operands] at*;exact .inr O)) h;cases h;refine⟨.func f (first.toList.map a.eval).toArray (cG.toList.map a.eval).toArray,?_,.fn r1.1 r2.1 r1.2 r2.2⟩;simp[execOp,Instr.makeFunc];exact⟨by apply Array.ext';simp,by apply Array.ext';simp⟩
 case nilCheck x=>
  split at h
  ·rename_i b o O;have h1:=kE x (by simp[Op.operands]) _ O;generalize dk:a.eval x=vx at h1;cases h;cases h1 with
   |ptr h1=>exact⟨_,by simp only[execOp,dk];rfl,.ptr h1⟩
  ·rename_i ps O;have h1:=kE x (by simp[Op.operands]) _ O;generalize dk:a.eval x=vx at h1;cases h;cases h1 with
   |el h1=>exact⟨_,by simp only[execOp,dk];rfl,.el h1⟩
  ·cases h
end
end Go.Proofs.YtcnefjfboagbmaaGreat
end
section
namespace Go.Proofs.YtcnefjfboagbmaaGreat
open Go.RowKit
def gR(w:World)(cl:Nat->Option Nat):aA:=⟨w,cl,λ _=>none,λ _=>none,λ _=>none⟩
def aX(P:Program)(f:FuncId)(ds:List G)(d:G):Prop:=
 ∀(w:World)(cl:Nat->Option Nat)(vs:List Value),DReps (gR w cl) vs ds->
  Calls P f vs.toArray w (λ r aI=>∃v bz,r=.returned v/\Below w.heap.size w aI/\(∀k,k<w.heap.size->bz k=cl k)/\bD (gR aI bz) v d)
def yG:Pl->Pl
 |.sl _ n ps=>.sl false n ps
 |x=>x
def G.low:G->Option G
 |.p x=>some (.p (yG x))
 |.agg ds=>(kA ds).map .agg
 |.bg ds=>(kA ds).map .bg
 |.el ps=>some (.el ps)
 |.aW _ n ps=>some (.p (.sl false n ps))
 |.any=>some .any
 |.fn f first cG=>match kA first,kA cG with
  |some a,some b=>some (.fn f a b)
  |_,_=>none
 |_=>none
where kA:List G->Option (List G)
 |[]=>some []
 |d::ds=>match d.low,kA ds with
  |some a,some b=>some (a::b)
  |_,_=>none
def G.sC{ar:Type}:G->(G->Option ar)->Option ar
 |.p (.raw v),k=>k (.p (.raw v))
 |.p (.sl _ n ps),k=>k (.p (.sl false n ps))
 |.agg ds,k=>yI ds λ r=>k (.agg r)
 |.bg ds,k=>yI ds λ r=>k (.bg r)
 |.el ps,k=>k (.el ps)
 |.aW _ n ps,k=>k (.p (.sl false n ps))
 |.any,k=>k .any
 |.fn f first cG,k=>yI first λ a=>yI cG λ b=>k (.fn f a b)
 |_,_=>none
where yI {ar:Type}:List G->(List G->Option ar)->Option ar
 |[],k=>k []
 |d::ds,k=>d.sC λ a=>yI ds λ b=>k (a::b)
mutual
theorem GH{ar:Type}:∀(d:G)(k:G->Option ar),d.sC k=d.low.bind k
 |.p (.raw v),k=>rfl
 |.p (.sl _ n ps),k=>rfl
 |.agg ds,k=>by
  rw[G.sC,DU ds];simp only[G.low];cases G.low.kA ds<;>rfl
 |.bg ds,k=>by
  rw[G.sC,DU ds];simp only[G.low];cases G.low.kA ds<;>rfl
 |.el ps,k=>rfl
 |.aW _ n ps,k=>rfl
 |.any,k=>rfl
 |.fn f first cG,k=>by
  rw[G.sC,DU first];simp only[G.low];cases G.low.kA first with
  |none=>rfl
  |some a=>simp only[Option.bind_some];rw[DU cG];cases G.low.kA cG<;>rfl
 |.ptr _ _,k=>rfl
 |.arr _ _ _ _,k=>rfl
theorem DU{ar:Type}:∀(ds:List G)(k:List G->Option ar),G.sC.yI ds k=(G.low.kA ds).bind k
 |[],k=>rfl
 |d::ds,k=>by
  rw[G.sC.yI,GH d];simp only[G.low.kA];cases d.low with
  |none=>rfl
  |some a=>simp only[Option.bind_some];rw[DU ds];cases G.low.kA ds<;>rfl
end
theorem db.env{e Y:aA}(hw:Y.w=e.w)(L:Y.cl=e.cl){v:Value}{x:Pl}(h:db e v x):db Y v x:=by
 induction h with
 |raw v=>exact .raw v
 |sl f h1 A K h4 h5 h6 ih=>refine .sl f h1 A K h4 (λ i x O=>?_) ih;obtain⟨b,o,h7,h8,h9,Aj⟩:=h5 i x O;exact⟨b,o,h7,λ k I=>h8 k (by rw[<-L];exact I),by rw[hw];exact h9,Aj⟩
theorem db.low{e:aA}{v:Value}{x:Pl}(h:db e v x):db e v (yG x):=by
 cases h with
 |raw=>exact .raw v
 |sl f h1 A K h4 h5 h6=>exact .sl f h1 A K (λ h=>by cases h) h5 h6
theorem AZ:∀{ds ik:List G}(_:G.low.kA ds=some ik){i:Nat}{dR:G},ik[i]?=some dR->∃d,ds[i]?=some d/\d.low=some dR
 |[],ik,h,i,dR,X=>by simp only[G.low.kA,Option.some.injEq] at h;subst h;simp at X
 |d::ds,ik,h,i,dR,X=>by
  simp only[G.low.kA] at h;split at h
  ·rename_i a b ha T;cases h;cases i with
   |zero=>simp only[List.getElem?_cons_zero,Option.some.injEq] at X;subst X;exact⟨d,rfl,ha⟩
   |succ i=>exact AZ T (by simpa using X)
  ·cases h
theorem A6:∀{ds ik:List G}(_:G.low.kA ds=some ik),ik.length=ds.length
 |[],ik,h=>by simp only[G.low.kA,Option.some.injEq] at h;subst h;rfl
 |d::ds,ik,h=>by
  simp only[G.low.kA] at h;split at h
  ·rename_i a b ha T;cases h;simp[A6 T]
  ·cases h
theorem GI{e:aA}{v:Value}{d:G}(h:bD e v d):∀dR,d.low=some dR->bD (gR e.w e.cl) v dR:=by
 induction h with
 |p h=>intro dR F;simp only[G.low,Option.some.injEq] at F;subst F;exact .p (db.env (e:=e) (Y:=gR e.w e.cl) rfl rfl h.low)
 |agg R h ih=>intro dR F;simp only[G.low,Option.map_eq_some_iff] at F;obtain⟨ik,h1,rfl⟩:=F;exact .agg (by rw[R,A6 h1]) (λ i v d hv F=>by obtain⟨d0,A,K⟩:=AZ h1 F;exact ih i v d0 hv A d K)
 |bg R h ih=>intro dR F;simp only[G.low,Option.map_eq_some_iff] at F;obtain⟨ik,h1,rfl⟩:=F;exact .bg (by rw[R,A6 h1]) (λ i v d hv F=>by obtain⟨d0,A,K⟩:=AZ h1 F;exact ih i v d0 hv A d K)
 |ptr h=>intro dR F;simp[G.low] at F
 |el h=>intro dR F;simp only[G.low,Option.some.injEq] at F;subst F;obtain⟨f,hf⟩:=h;exact .el ⟨f,λ i x O=>by obtain⟨h1,A,K,h4⟩:=hf i x O;exact⟨h1,A,K,db.env (e:=e) (Y:=gR e.w e.cl) rfl rfl h4⟩⟩
 |aW h ht=>intro dR F;simp only[G.low,Option.some.injEq] at F;subst F;exact .p (db.env (e:=e) (Y:=gR e.w e.cl) rfl rfl h)
 |arr h=>intro dR F;simp[G.low] at F
 |fn R dJ h A ih DI=>
  intro dR F;simp only[G.low] at F;split at F
  ·rename_i a b ha T;cases F;exact .fn (by rw[R,A6 ha]) (by rw[dJ,A6 T]) (λ i v d hv F=>by obtain⟨d0,K,h4⟩:=AZ ha F;exact ih i v d0 hv K d h4) (λ i v d hv F=>by obtain⟨d0,K,h4⟩:=AZ T F;exact DI i v d0 hv K d h4)
  ·cases F
 |any=>intro dR F;simp only[G.low,Option.some.injEq] at F;subst F;exact .any
theorem KX{e:aA}{vs:List Value}{ds ik:List G}(h:DReps e vs ds)(R:G.low.kA ds=some ik):DReps (gR e.w e.cl) vs ik:=
 ⟨by rw[h.1,A6 R],λ i v d hv F=>by obtain⟨d0,h1,A⟩:=AZ R F;exact GI (h.2 i v d0 hv h1) d A⟩
theorem V8(e:aA)(w:World)(cl:Nat->Option Nat):Ends (gR w cl) {e with w:=w,cl:=cl}:=
 ⟨λ _ _ _ h1 A=>⟨h1,A⟩,λ _ _ h=>(by cases h),λ _ _ h=>(by cases h),λ _ _ _ _ h=>(by cases h)⟩
section
variable{P:Program}{ae:Nat->Option TI}{S:Nat->Option G}{B:Nat->Option (List G)}
theorem R6{P:Program}{f:FuncId}{ds d:_}(L:aX P f ds d){e:aA}{vs:List Value}(hv:DReps (gR e.w e.cl) vs ds){o:Oper}{a:Act}:
 Calls P f vs.toArray e.w λ
  |.returned v,nk=>∃kY Y,a.put o.dst v=a.put o.dst kY/\Y.w=nk/\oJ e Y kY d none
  |.panicked _,_=>False
  |.outgrown,_=>LetsOut (λ _ _ _=>False):=by
 refine(L e.w e.cl vs hv).mono λ r aI hh=>?_
 obtain⟨v,bz,rfl,T,dT,hr⟩:=hh;exact⟨v,{e with w:=aI,cl:=bz},rfl,rfl,⟨T,dT,rfl,rfl,rfl⟩,hr.next (V8 e aI bz)⟩
theorem Nz{o:Oper}{f:FuncId}{xs:List Operand}{fx:Array TypeId}{ds:List G}{d:G}(L:aX P f ds d)(ho:o.op=.call {callee:=.value (.func f),args:=xs.toArray,argTypes:=fx})(hf:jN P f)(he:i5 S xs G.low.kA=some ds):dH P o S B d none:=by
 intro a e hs _;obtain⟨jm,hr,R⟩:=td xs _ ds (λ x O=>hs.1 x (by rw[ho];simp[Op.operands,Call.operands,O])) he;unfold Oper.wp;have e1:(execOp a.eval o).run P e.w=.ok (.enter f (xs.map a.eval).toArray) e.w:=by obtain⟨dst,op,type,pos,after,guard⟩:=o;simp only at ho;subst ho;rw[execOp_call_go,hf];simp
 rw[e1];exact R6 L (KX hr R)
theorem vN{o:Oper}{f:FuncId}{g:Operand}{xs:List Operand}{fx:Array TypeId}{ds first cG:List G}{d:G}(L:aX P f ds d)(ho:o.op=.call {callee:=.value g,args:=xs.toArray,argTypes:=fx})(hf:jN P f)(hg:ev S g=some (.fn (.func f) first cG))(he:i5 S xs (λ jm=>G.low.kA (first++jm++cG))=some ds):dH P o S B d none:=by
 intro a e hs _;obtain⟨jm,hr,R⟩:=td xs _ ds (λ x O=>hs.1 x (by rw[ho];simp[Op.operands,Call.operands,O])) he;have wq:=hs.1 g (by rw[ho];simp[Op.operands,Call.operands]) _ hg;generalize dk:a.eval g=gv at wq;cases wq with
 |fn ia dJ h1 A=>
  rename_i us vs;have cT:DReps e (us++xs.map a.eval++vs) (first++jm++cG):=(DReps.append ⟨ia,h1⟩ hr).append ⟨dJ,A⟩;unfold Oper.wp;have e1:(execOp a.eval o).run P e.w=.ok (.enter f (us++xs.map a.eval++vs).toArray) e.w:=by obtain⟨dst,op,type,pos,after,guard⟩:=o;simp only at ho;subst ho;simp only[execOp,resolve,dk,Deferred.ofValue,Sem.run_bind,Sem.run_pure,Result.andThen_ok,invoke];rw[hf];simp
  rw[e1];exact R6 L (KX cT R)
def aA.alloc(e:aA)(o:Obj)(c:Option Nat):aA:={e with w:=e.w.alloc o,cl:=λ k=>if k=e.w.heap.size then c else e.cl k}
theorem aA.ud(e:aA)(o:Obj)(c:Option Nat):kg e (e.alloc o c):=
 ⟨(Below.refl _ _).alloc (Nat.le_refl _) _,λ k I=>by show(if k=e.w.heap.size then c else e.cl k)=_;rw[if_neg (by omega)],rfl,rfl,rfl⟩
theorem Sh{e:aA}{us:List Value}{ds:List G}{t:TypeId}{b:Nat}(hr:DReps e us ds)(T:e.bx b=none):
 oJ e ((e.alloc (.cells us.toArray t) (some 0)).iX b e.w.heap.size) (.pointer (some ⟨e.w.heap.size,0,none⟩)) (.ptr b 0) (some (b,ds)):=by
 have hg:=aA.ud e (.cells us.toArray t) (some 0);have eC:(e.alloc (.cells us.toArray t) (some 0)).bx b=none:=by rw[hg.bx];exact T
 refine⟨_,e.w.heap.size,hg,Nat.le_refl _,by simp[aA.alloc],by simp[aA.alloc],rfl,⟨e.w.heap.size,us,t,?_,?_,?_⟩,.ptr ?_⟩
 ·simp[aA.iX]
 ·exact heap_alloc_new e.w _
 ·exact(hr.next hg.ends).next (t7 eC)
 ·simp[aA.iX]
def kU:G->Bool
 |.agg _=>true
 |d=>d.leaf
theorem va{e:aA}{v:Value}{d:G}(h:bD e v d)(I:kU d=true):DReps e v.cells.toList d.cells:=by refine Vh h ?_;cases d<;>first|exact .inl I|exact .inr ⟨_,rfl⟩
def mF{ar:Type}(d:G)(k:List G->Option ar):Option ar:=match d with
 |.agg ds=>k ds
 |d=>k [d]
theorem vQ{ar:Type}(d:G)(k:List G->Option ar):mF d k=k d.cells:=by cases d<;>rfl
theorem EW{o:Oper}{t:TypeId}{x:Operand}(b:Nat){dx:G}{cs:List G}(ho:o.op=.box t x)(O:ev S x=some dx)(I:kU dx=true)(cH:mF dx some=some cs):dH P o S B (.ptr b 0) (some (b,cs)):=by
 rw[vQ] at cH;cases cH;intro a e hs fK;have h1:=hs.1 x (by rw[ho];simp[Op.operands]) _ O;have hr:=va h1 I;unfold Oper.wp;have e1:(execOp a.eval o).run P e.w=.ok (.value (.pointer (some ⟨e.w.heap.size,0,none⟩))) (e.w.alloc (.cells (a.eval x).cells t)):=by obtain⟨dst,op,type,pos,after,guard⟩:=o;simp only at ho;subst ho;simp[execOp,Instr.box,newVar,newRow]
 rw[e1];refine⟨_,(e.alloc (.cells (a.eval x).cells.toList.toArray t) (some 0)).iX b e.w.heap.size,rfl,by simp[aA.iX,aA.alloc],Sh hr (fK _ rfl)⟩
theorem vF(hT:cW P ae){o:Oper}{t:TypeId}(b:Nat){i:TI}{cs:List G}(ho:o.op=.alloc t)(ht:ae t=some i)(I:kU (lK i.zero)=true)(cH:qP i.zero (λ d=>mF d some)=some cs):dH P o S B (.ptr b 0) (some (b,cs)):=by
 rw[xA,vQ] at cH;cases cH;intro a e hs fK;have hr:=va (xz e i.zero) I;unfold Oper.wp;have e1:(execOp a.eval o).run P e.w=.ok (.value (.pointer (some ⟨e.w.heap.size,0,none⟩))) (e.w.alloc (.cells i.zero.cells t)):=by obtain⟨dst,op,type,pos,after,guard⟩:=o;simp only at ho;subst ho;simp[execOp,Instr.alloc,By hT ht,newVar,newRow]
 rw[e1];refine⟨_,(e.alloc (.cells i.zero.cells.toList.toArray t) (some 0)).iX b e.w.heap.size,rfl,by simp[aA.iX,aA.alloc],Sh hr (fK _ rfl)⟩
theorem qH{e:aA}{v:Value}{ex:Bool}{n:Nat}{ps:List Pl}(h:db e v (.sl ex n ps)):∃ab bK,v=.slice ab n bK/\n<=bK/\bK<=maxLen/\(ab=none->bK=0)/\(ex=true->bK=n)/\(ps=[]\/∃b o,ab=some ⟨b,o,none⟩/\rH e b o ps):=by
 cases h with
 |sl f h1 A K h4 h5 h6=>
  refine⟨_,_,rfl,h1,A,K,h4,?_⟩;rcases ps with _|⟨x,ps⟩
  ·exact .inl rfl
  ·obtain⟨b,o,hA,_⟩:=h5 0 x rfl;refine .inr ⟨b,o,hA,f,λ i y hy=>?_⟩;obtain⟨bj,o',CG,h7,h8,h9⟩:=h5 i y hy;rw[hA] at CG;cases CG;exact⟨h7,h8,h9,h6 i y hy⟩
theorem BE{e:aA}{ab:Option Addr}{ex:Bool}{n bK:Nat}{ps:List Pl}(h1:n<=bK)(A:bK<=maxLen)(K:ab=none->bK=0)(h4:ex=true->bK=n)(h5:ps=[]\/∃b o,ab=some ⟨b,o,none⟩/\rH e b o ps):db e (.slice ab n bK) (.sl ex n ps):=by
 rcases h5 with rfl|⟨b,o,hA,f,hf⟩
 ·exact .sl (λ _=>undef) h1 A K h4 (λ i x h=>by simp at h) (λ i x h=>by simp at h)
 ·exact .sl f h1 A K h4 (λ i x O=>by obtain⟨h6,h7,h8,_⟩:=hf i x O;exact⟨b,o,hA,h6,h7,h8⟩) (λ i x O=>(hf i x O).2.2.2)
theorem rH.part{e:aA}{b o:Nat}{ps qs:List Pl}(h:rH e b o ps)(m:Nat)(hq:∀(j:Nat) q,qs[j]?=some q->ps[m+j]?=some q):rH e b (o+m) qs:=by obtain⟨f,hf⟩:=h;refine⟨λ j=>f (m+j),λ j q hj=>?_⟩;obtain⟨h1,A,K,h4⟩:=hf _ q (hq j q hj);rw[Nat.add_assoc];exact⟨h1,A,K,h4⟩
def ni:G->Option (Nat×List Pl)
 |.p (.sl _ n ps)=>some (n,ps)
 |.aW _ n ps=>some (n,ps)
 |_=>none
theorem w8{e:aA}{v:Value}{d:G}{n:Nat}{ps:List Pl}(h:bD e v d)(F:ni d=some (n,ps)):db e v (.sl false n ps):=by
 cases h with
 |p h=>cases h with
  |raw=>cases F
  |sl f h1 A K h4 h5 h6=>cases F;exact .sl f h1 A K (λ h=>by cases h) h5 h6
 |aW h _=>cases F;exact h
 |_=>cases F
theorem QF(hT:cW P ae){o:Oper}{t el:TypeId}{x y:Operand}{dx:G}{n:Nat}{ps:List Pl}{k:IntKind}{i:Int}{z1 z2:Nat}{z3:Value}{j:TI}(qs:List Pl)(ho:o.op=.indexAddr t x y)(ht:ae t=some ⟨.slice el,z1,z2,z3⟩)(he:ae el=some j)
 (O:ev S x=some dx)(F:ni dx=some (n,ps))(hy:ev S y=some (.p (.raw (.int k i))))(h0:0<=i)(ba:i<n)(Du:qs≠[])(hq:∀(m:Nat) q,qs[m]?=some q->ps[i.toNat*j.sz+m]?=some q):dH P o S B (.el qs) none:=by
 refine jh λ a e hs=>?_
 have h1:=w8 (hs.1 x (by rw[ho];simp[Op.operands]) _ O) F;have A:=cR (hs.1 y (by rw[ho];simp[Op.operands]) _ hy);obtain⟨ab,bK,hv,_,_,_,_,hA⟩:=qH h1;rcases hA with rfl|⟨b,of,rfl,ec⟩
 ·rcases qs with _|⟨q,qs⟩
  ·exact absurd rfl Du
  ·have:=hq 0 q rfl;simp at this
 obtain⟨d0,dV,I⟩:=hT.desc t _ ht;cases d0<;>simp only[jJ,reduceCtorEq,TK.slice.injEq] at I
 subst I;refine⟨.pointer (some ⟨b,of+i.toNat*j.sz,none⟩),?_,.el (ec.part _ hq)⟩;obtain⟨dst,op,type,pos,after,guard⟩:=o;simp only at ho;subst ho;simp[execOp,Instr.indexAt,A,hv,asIntOf,run_underlying dV,h0,ba,run_sizeOf hT he,rM]
end
end Go.Proofs.YtcnefjfboagbmaaGreat
end
section
namespace Go.Proofs.YtcnefjfboagbmaaGreat
open Go.RowKit
section
variable{P:Program}{ae:Nat->Option TI}{Γ:bI}{J bU:St}
def zd(P:Program)(Γ:bI)(o:Oper)(J bU:St):Prop:=
 ∀(a:Act)(e:aA),bu Γ J e a->o.wp P a e.w (λ br aI=>∃Y,Y.w=aI/\bu Γ bU Y br) (λ _ _ _=>False)
theorem xk{P:Program}{o:Oper}{a:Act}{w:World}{aL nP:Act->World->Prop}{Q:Exit->Act->World->Prop}(h:o.wp P a w aL (λ _ _ _=>False))(I:∀br aI,aL br aI->nP br aI):o.wp P a w nP Q:=
 aej (Oper.wp_mono I h)
theorem dH.step{o:Oper}{d:G}{nb:Option (Nat×List G)}(h:dH P o (kv J.s) (kv J.b) d nb)(F:vU Γ.n o.dst=true)(fK:∀p,nb=some p->kv J.b p.1=none):zd P Γ o J ((J.box nb).put o.dst d):=by
 intro a e L;refine xk (h a e (L.iI _) λ p hp=>L.ei _ (fK p hp)) λ br aI hh=>?_
 obtain⟨v,Y,rfl,hw,hq⟩:=hh;exact⟨Y,hw,L.quiet F fK hq⟩
def jr(Γ:bI)(Q:Exit->St->Prop):Exit->Act->World->Prop:=λ x a w=>∃J e,e.w=w/\bu Γ J e a/\Q x J
structure bp(P:Program)(Γ:bI)(l0:List Oper)(Q:Exit->St->Prop)(l:List Oper)(J:St):Prop where
 run:∀(a:Act)(e:aA),bu Γ J e a->wpList P l0.toArray (jr Γ Q) l a e.w
variable{l0 l:List Oper}{Q:Exit->St->Prop}{o:Oper}
theorem kl(h:Q .normal J):bp P Γ l0 Q [] J:=⟨λ _ e L=>⟨J,e,rfl,L,h⟩⟩
def gd(l0:List Oper)(o:Oper)(S:Nat->Option G):Option Bool:=match o.guard with
 |none=>some true
 |some (j,want)=>match(l0[j]?).bind (·.dst) with
  |some t=>match S t with
   |some (.p (.raw (.bool b)))=>some (b==want)
   |some (.p (.raw (.tuple _)))=>some false
   |_=>none
  |none=>none
theorem lN{e:aA}{a:Act}(L:bu Γ J e a){c:Bool}(h:gd l0 o (kv J.s)=some c):Region.wanted o (yielded l0.toArray a.tmps)=c:=by
 unfold gd at h;unfold Region.wanted;split at h
 ·rename_i hg;rw[hg];cases h;rfl
 ·rename_i j want hg;rw[hg];split at h
  ·rename_i t ht;split at h
   ·rename_i b T;cases h;have hv:=cR (L.bP t _ T);have:yielded l0.toArray a.tmps j=some b:=by
     rw[HN];have h1:(l0.toArray[j]?).bind (·.dst)=some t:=by simpa using ht
     rw[h1];unfold fZ at hv;simp only[Option.bind_some,hv,zm]
    simp only[this];cases b<;>cases want<;>rfl
   ·rename_i b T;cases h;have hv:=cR (L.bP t _ T);have:yielded l0.toArray a.tmps j=none:=by
     rw[HN];have h1:(l0.toArray[j]?).bind (·.dst)=some t:=by simpa using ht
     rw[h1];unfold fZ at hv;simp only[Option.bind_some,hv,zm]
    simp only[this];cases want<;>rfl
   ·cases h
  ·cases h
theorem vG(hg:gd l0 o (kv J.s)=some true)(hs:zd P Γ o J bU)(h:bp P Γ l0 Q l bU):bp P Γ l0 Q (o::l) J:=by refine⟨λ a e L=>?_⟩;unfold wpList;rw[if_pos (lN L hg)];refine .inl (xk (hs a e L) λ br aI hh=>?_);obtain⟨Y,rfl,ey⟩:=hh;exact h.run br Y ey
theorem Uy(hg:gd l0 o (kv J.s)=some false)(F:vU Γ.n o.dst=true)(h:bp P Γ l0 Q l (J.put o.dst (.p (.raw undef)))):bp P Γ l0 Q (o::l) J:=by refine⟨λ a e L=>?_⟩;unfold wpList;rw[if_neg (by rw[lN L hg];simp)];exact h.run _ e (L.put F (.p (.raw undef)))
theorem Nb{d:G}{nb:Option (Nat×List G)}(hq:dH P o (kv J.s) (kv J.b) d nb)(hg:gd l0 o (kv J.s)=some true)(F:vU Γ.n o.dst=true)(fK:∀p,nb=some p->kv J.b p.1=none)(h:bp P Γ l0 Q l ((J.box nb).put o.dst d)):bp P Γ l0 Q (o::l) J:=
 vG hg (hq.step F fK) h
structure aeI(J bc:St):Prop where
 s:∀t d,kv bc.s t=some d->kv J.s t=some d
 b:bc.b=J.b
 g:bc.g=J.g
def St.Ht(J:St)(b:Nat)(cs:List G):St:=⟨J.s,(b,cs)::J.b,J.g⟩
theorem EV{w:World}{k:Nat}{vs us:List Value}{el:TypeId}(h:w.heap[k]?=some (.cells vs.toArray el (0,0))):(w.setRow k us.toArray).heap[k]?=some (.cells us.toArray el (0,0)):=setRow_heap w k _ _ el _ h
theorem bu.setRow{e:aA}{a:Act}(L:bu Γ J e a){b k:Nat}{vs us:List Value}{el:TypeId}{cs:List G}(T:e.bx b=some k)(I:e.w.heap[k]?=some (.cells vs.toArray el (0,0)))(hr:DReps e us cs):
 bu Γ (J.Ht b cs) {e with w:=e.w.setRow k us.toArray} a:=by
 obtain⟨h1,A,K,h4⟩:=L.env.bx b k T;have hk:∀j,j≠k->(e.w.setRow k us.toArray).heap[j]?=e.w.heap[j]?:=λ j hj=>setRow_other e.w k j _ hj
 have E:Ends e {e with w:=e.w.setRow k us.toArray}:=by
  refine⟨λ bj o v dT hv=>?_,λ _ _ h=>h,λ _ au h=>⟨au,h,rfl,rfl,Nat.le_refl _⟩,λ j g au cur h5 h6 h7=>⟨h5,cur,?_,rfl⟩⟩
  ·have cE:bj≠k:=λ Y=>by subst Y;exact absurd (dT 0 K) (by omega)
   exact⟨dT,by show(e.w.setRow k us.toArray).cell? _=_;rw[World.cell?_of_block (w:=e.w) (hk bj cE)];exact hv⟩
  ·show(e.w.setRow k us.toArray).heap[j]?=_;rw[hk j (λ Y=>by subst Y;rw[h4] at h5;cases h5)];exact h7
 refine⟨L.size,L.df,λ t d ht=>(L.bP t d ht).next E,λ bj ds F=>?_,λ bj eC=>?_,L.gs,?_⟩
 ·simp only[St.Ht,cM] at F;split at F
  ·rename_i qZ;subst qZ;cases F;exact⟨k,us,el,T,EV I,hr.next E⟩
  ·rename_i qZ;obtain⟨jd,fh,Cx,h5,h6,h7⟩:=L.boxes bj ds F;refine⟨jd,fh,Cx,h5,?_,h7.next E⟩;show(e.w.setRow k us.toArray).heap[jd]?=_;rw[hk jd (λ Y=>qZ (by subst Y;exact L.env.inj _ _ _ T h5))];exact h6
 ·simp only[St.Ht,cM] at eC;split at eC
  ·cases eC
  ·exact L.ei bj eC
 ·refine⟨⟨L.env.kept.os,L.env.kept.tape,L.env.kept.output,by show _<=(e.w.setRow k us.toArray).heap.size;rw[setRow_size];exact L.env.kept.size,λ j hj ho=>?_⟩,L.env.cl,λ bj j hj=>?_,L.env.inj,λ j g hg=>?_,L.env.kb⟩
  ·show(e.w.setRow k us.toArray).heap[j]?=_;rw[hk j (λ Y=>by subst Y;rcases A with A|A<;>first|omega|exact ho A)];exact L.env.kept.block j hj ho
  ·obtain⟨h5,h6,h7,h8⟩:=L.env.bx bj j hj;exact⟨by show j<(e.w.setRow k us.toArray).heap.size;rw[setRow_size];exact h5,h6,h7,h8⟩
  ·obtain⟨au,cur,h5,h6,h7,h8,h9⟩:=L.env.gr j g hg;refine⟨au,cur,h5,by show j<(e.w.setRow k us.toArray).heap.size;rw[setRow_size];exact h6,h7,h8,?_⟩;show(e.w.setRow k us.toArray).heap[j]?=_;rw[hk j (λ Y=>by subst Y;rw[h4] at hg;cases hg)];exact h9
def stored(cs:List G)(o:Nat)(ds:List G):List G:=cs.take o++ds++cs.drop (o+ds.length)
def tO:G->Bool
 |.agg ds=>ds.all G.leaf
 |d=>d.leaf
theorem Q1{e:aA}{v:Value}{d:G}(h:bD e v d)(R:tO d=true):∀af∈v.cells.toList,lX af=true:=by
 have I:kU d=true:=by cases d<;>first|exact R|rfl
 have hr:=va h I;have cT:∀c∈d.cells,c.leaf=true:=by
  cases d with
  |agg ds=>exact λ c L=>List.all_eq_true.1 R c L
  |_=>intro c L;simp only[G.cells,List.mem_singleton] at L;subst L;exact R
 intro af hu;obtain⟨i,X,rfl⟩:=List.mem_iff_getElem.1 hu;have kx:i<d.cells.length:=by rw[<-hr.1];exact X
 exact KJ (hr.2 i _ _ (List.getElem?_eq_getElem X) (List.getElem?_eq_getElem kx)) (cT _ (List.getElem_mem kx))
def sM{ar:Type}(cs:List G)(o:Nat)(d:G)(k:List G->Option ar):Option ar:=
 mF d λ ds=>l5 o cs λ a=>kN o cs λ b=>kN ds.length b λ c=>mE ds c λ r=>mE a r k
theorem S7{ar:Type}{cs:List G}{o:Nat}{d:G}{k:List G->Option ar}{r:ar}(h:sM cs o d k=some r):o+d.cells.length<=cs.length/\k (stored cs o d.cells)=some r:=by unfold sM at h;rw[vQ] at h;obtain⟨h1,h⟩:=rF h;obtain⟨A,h⟩:=nt h;obtain⟨K,h⟩:=nt h;rw[qO,qO] at h;refine⟨by simp at K;omega,?_⟩;unfold stored;rw[List.append_assoc];rw[List.drop_drop] at h;exact h
theorem Ml(hT:cW P ae){t:TypeId}{x y:Operand}{b of:Nat}{cs:List G}{dy:G}{i:TI}(ho:o.op=.store t x y)(F:o.dst=none)(ht:ae t=some i)(O:ev (kv J.s) x=some (.ptr b of))(T:kv J.b b=some cs)(hy:ev (kv J.s) y=some dy)
 (R:tO dy=true)(bQ:dy.cells.length=i.sz)(C0:of+dy.cells.length<=cs.length):zd P Γ o J (J.Ht b (stored cs of dy.cells)):=by
 intro a e L;have hs:=L.iI (J:=J) o.op.operands;have h1:=hs.1 x (by rw[ho];simp[Op.operands]) _ O;have A:=hs.1 y (by rw[ho];simp[Op.operands]) _ hy;have I:kU dy=true:=by cases dy<;>first|exact R|rfl
 have hr:=va A I;obtain⟨k,vs,el,K,h4,h5⟩:=L.boxes b cs T;generalize dk:a.eval x=vx at h1;cases h1 with
 |ptr h1=>
  rw[K] at h1;cases h1;have ci:(a.eval y).cells.size=i.sz:=by have:=hr.1;simp at this;omega
  have dg:=run_storeCells_at P k of el (a.eval y).cells.toList 0 vs.toArray e.w h4 (by have:=hr.1;have:=h5.1;simp at*;omega) (Q1 A R);unfold Oper.wp;have e1:(execOp a.eval o).run P e.w=.ok .skip (e.w.setRow k (vs.take of++(a.eval y).cells.toList++vs.drop (of+(a.eval y).cells.toList.length)).toArray):=by obtain⟨dst,op,type,pos,after,guard⟩:=o;simp only at ho;subst ho;simp only[Nat.add_zero] at dg;simp[execOp,Instr.storeAt,Instr.sureAddr,dk,storeVar,run_sizeOf hT ht,ci,dg]
  rw[e1];refine⟨{e with w:=e.w.setRow k (vs.take of++(a.eval y).cells.toList++vs.drop (of+(a.eval y).cells.toList.length)).toArray},rfl,?_⟩;have:=L.setRow K h4 (us:=vs.take of++(a.eval y).cells.toList++vs.drop (of+(a.eval y).cells.toList.length)) (cs:=stored cs of dy.cells) (by
   unfold stored;rw[hr.1];exact((h5.take of).append hr).append (h5.drop _))
  rw[F];exact this
end
end Go.Proofs.YtcnefjfboagbmaaGreat
end
section
namespace Go.Proofs.YtcnefjfboagbmaaGreat
open Go.RowKit
section
variable{P:Program}{ae:Nat->Option TI}{Γ:bI}{J bU:St}{o:Oper}
def St.Ep(J:St)(g:Nat)(au:Gr):St:=⟨J.s,J.b,(g,au)::J.g⟩
def aA.more(e:aA)(w:World)(g:Nat)(au:Gr)(k:Option Nat):aA:=
 {w:=w,cl:=λ j=>if some j=k\/e.gr j=some g then some (au.len*au.sz) else e.cl j,bx:=e.bx,gr:=λ j=>if some j=k then some g else e.gr j,gi:=λ h=>if h=g then some au else e.gi h}
structure pi(e:aA)(w:World)(g:Nat)(au:Gr)(k:Option Nat):Prop where
 os:w.os=e.w.os
 tape:w.tape=e.w.tape
 output:w.output=e.w.output
 size:e.w.heap.size<=w.heap.size
 fz:∀j,j<e.w.heap.size->e.gr j≠some g->w.heap[j]?=e.w.heap[j]?
 row:∀j cur,e.gr j=some g->e.w.heap[j]?=some (.cells cur au.el (0,0))->∃kL,w.heap[j]?=some (.cells kL au.el (0,0))/\kL.size=cur.size/\∀i,e.np j i->kL[i]?=cur[i]?
 new:∀j,k=some j->e.w.heap.size<=j/\j<w.heap.size/\∃cur,w.heap[j]?=some (.cells cur au.el (0,0))
theorem pi.ends{e:aA}{w:World}{g:Nat}{au G0:Gr}{k:Option Nat}(h:pi e w g au k)(aQ:hd Γ e)(hg:e.gi g=some G0)(ec:au.el=G0.el)(bQ:au.sz=G0.sz)(ci:G0.len<=au.len):Ends e (e.more w g au k):=by
 refine⟨λ b i v L hv=>?_,λ _ _ h=>h,λ dS mD uB=>?_,λ j dS mD cur h1 A K=>?_⟩
 ·have T:=EZ hv;have cE:¬some b=k:=λ Y=>by have:=(h.new b Y.symm).1;omega
  by_cases gT:e.gr b=some g
  ·obtain⟨G1,cur,h1,A,K,h4,h5⟩:=aQ.gr b g gT;rw[hg] at h1;cases h1;obtain⟨kL,h6,h7,h8⟩:=h.row b cur gT (by rw[ec];exact h5);have X:=L _ h4;refine⟨λ n hn=>?_,?_⟩
   ·have lh:(if some b=k\/e.gr b=some g then some (au.len*au.sz) else e.cl b)=some n:=hn;rw[if_pos (.inr gT)] at lh;cases lh;have:=Nat.mul_le_mul_right G0.sz ci;rw[bQ];omega
   ·show w.cell? _=_;rw[cell_of_row w b i kL au.el (0,0) h6,h8 i L];rw[cell_of_row e.w b i cur G0.el (0,0) h5] at hv;exact hv
  ·refine⟨λ n hn=>?_,?_⟩
   ·have lh:(if some b=k\/e.gr b=some g then some (au.len*au.sz) else e.cl b)=some n:=hn;rw[if_neg (λ bL=>bL.elim cE gT)] at lh;exact L n lh
   ·show w.cell? _=_;rw[World.cell?_of_block (w:=e.w) (h.fz b T gT)];exact hv
 ·by_cases e1:dS=g
  ·subst e1;rw[hg] at uB;cases uB;exact⟨au,by simp[aA.more],ec,bQ,ci⟩
  ·exact⟨mD,by simp[aA.more,e1];exact uB,rfl,rfl,Nat.le_refl _⟩
 ·have hj:=sd K;have cE:¬some j=k:=λ Y=>by have:=(h.new j Y.symm).1;omega
  refine⟨by show(if some j=k then some g else e.gr j)=_;rw[if_neg cE];exact h1,?_⟩
  by_cases gT:dS=g
  ·subst gT;rw[hg] at A;cases A;obtain⟨kL,h6,h7,_⟩:=h.row j cur h1 (by rw[ec];exact K);exact⟨kL,by rw[<-ec];exact h6,h7⟩
  ·exact⟨cur,by show w.heap[j]?=_;rw[h.fz j hj (by rw[h1];simpa using gT)];exact K,rfl⟩
theorem pi.box{e:aA}{w:World}{g:Nat}{au G0:Gr}{k:Option Nat}(h:pi e w g au k)(aQ:hd Γ e)(hg:e.gi g=some G0)(ec:au.el=G0.el)(bQ:au.sz=G0.sz)(ci:G0.len<=au.len){b:Nat}{cs:List G}(T:hc e b cs):hc (e.more w g au k) b cs:=by obtain⟨j,vs,el,h1,A,K⟩:=T;obtain⟨h4,_,_,h5⟩:=aQ.bx b j h1;exact⟨j,vs,el,h1,by show w.heap[j]?=_;rw[h.fz j h4 (by rw[h5];simp)];exact A,K.next (h.ends aQ hg ec bQ ci)⟩
theorem pi.ok{e:aA}{w:World}{g:Nat}{au G0:Gr}{k:Option Nat}(h:pi e w g au k)(aQ:hd Γ e)(fC:e.gi g=some G0)(ec:au.el=G0.el):hd Γ (e.more w g au k):=by
 have Do:∀j,j<e.w.heap.size->¬some j=k:=λ j hj Y=>by have:=(h.new j Y.symm).1;omega
 refine⟨⟨h.os.trans aQ.kept.os,h.tape.trans aQ.kept.tape,h.output.trans aQ.kept.output,Nat.le_trans aQ.kept.size h.size,λ j hj ho=>?_⟩,λ j hj ho=>?_,λ b j T=>?_,aQ.inj,λ j dS uB=>?_,aQ.kb⟩
 ·have qw:=Nat.lt_of_lt_of_le hj aQ.kept.size;have qx:e.gr j≠some g:=λ uB=>by
   obtain⟨_,_,_,_,K,_⟩:=aQ.gr j g uB;rcases K with K|K<;>first|omega|exact ho K
  show w.heap[j]?=_;rw[h.fz j qw qx];exact aQ.kept.block j hj ho
 ·have qw:=Nat.lt_of_lt_of_le hj aQ.kept.size;have qx:e.gr j≠some g:=λ uB=>by
   obtain⟨_,_,_,_,K,_⟩:=aQ.gr j g uB;rcases K with K|K<;>first|omega|exact ho K
  show(if some j=k\/e.gr j=some g then _ else e.cl j)=_;rw[if_neg (λ bL=>bL.elim (Do j qw) qx)];exact aQ.cl j hj ho
 ·obtain⟨h1,A,K,h4⟩:=aQ.bx b j T;refine⟨Nat.lt_of_lt_of_le h1 h.size,A,?_,?_⟩
  ·show(if some j=k\/e.gr j=some g then _ else e.cl j)=_;rw[if_neg (λ bL=>bL.elim (Do j h1) (by rw[h4];simp))];exact K
  ·show(if some j=k then some g else e.gr j)=_;rw[if_neg (Do j h1)];exact h4
 ·have de:(if some j=k then some g else e.gr j)=some dS:=uB
  by_cases mf:some j=k
  ·rw[if_pos mf] at de;cases de;obtain⟨h1,A,cur,K⟩:=h.new j mf.symm;refine⟨au,cur,by simp[aA.more],A,.inl (Nat.le_trans aQ.kept.size h1),by simp[aA.more,mf],K⟩
  ·rw[if_neg mf] at de;obtain⟨G1,cur,h1,A,K,h4,h5⟩:=aQ.gr j dS de
   by_cases e1:dS=g
   ·subst e1;rw[fC] at h1;cases h1;obtain⟨kL,h6,_,_⟩:=h.row j cur de (by rw[ec];exact h5);exact⟨au,kL,by simp[aA.more],Nat.lt_of_lt_of_le A h.size,K,by simp[aA.more,de],h6⟩
   ·refine⟨G1,cur,by simp[aA.more,e1];exact h1,Nat.lt_of_lt_of_le A h.size,K,?_,?_⟩
    ·show(if some j=k\/e.gr j=some g then _ else e.cl j)=_;rw[if_neg (λ bL=>bL.elim mf (by rw[de];simpa using e1))];exact h4
    ·show w.heap[j]?=_;rw[h.fz j A (by rw[de];simpa using e1)];exact h5
theorem bu.more{e:aA}{a:Act}(L:bu Γ J e a){w:World}{g:Nat}{au G0:Gr}{k:Option Nat}(h:pi e w g au k)(hg:kv J.g g=some G0)(ec:au.el=G0.el)(bQ:au.sz=G0.sz)(ci:G0.len<=au.len):bu Γ (J.Ep g au) (e.more w g au k) a:=by
 have fC:e.gi g=some G0:=by rw[L.gs];exact hg
 have E:=h.ends L.env fC ec bQ ci;refine⟨L.size,L.df,λ t d ht=>(L.bP t d ht).next E,λ b cs T=>h.box L.env fC ec bQ ci (L.boxes b cs T),L.ei,λ dS=>?_,h.ok L.env fC ec⟩;show(if dS=g then some au else e.gi dS)=kv ((g,au)::J.g) dS;rw[cM]
 by_cases e1:dS=g
 ·subst e1;simp
 ·rw[if_neg e1,if_neg (λ Y=>e1 Y.symm)];exact L.gs dS
theorem Cm{e:aA}{b of:Nat}{ps:List Pl}(h:rH e b of ps):∃us:List Value,us.length=ps.length/\(∀(j:Nat) v,us[j]?=some v->e.w.cell? ((⟨b,of,none⟩:Addr).add j)=some v)/\(∀v∈us,v.oneCell'=true)/\∀(j:Nat) v x,us[j]?=some v->ps[j]?=some x->db e v x:=by
 obtain⟨us,h1,A,K⟩:=N0 h;refine⟨us,by have:=A.1;simpa using this,λ j v hj=>by rw[rM];exact h1 j v hj,K,λ j v x hv O=>?_⟩;have:=A.2 j v (.p x) hv (by rw[List.getElem?_map,O];rfl);cases this with
 |p h=>exact h
theorem LW{e:aA}{k bK n:Nat}{g:Nat}{au:Gr}{ps:List Pl}{us:List Value}{cur:Array Value}(I:e.w.heap[k]?=some (.cells cur au.el (0,0)))(dT:e.cl k=some (au.len*au.sz))(gT:e.gr k=some g)(fC:e.gi g=some au)(hn:n=au.len)(cO:ps.length=n*au.sz)(Jz:n<=bK)(hm:bK<=maxLen)(cH:cur.size=bK*au.sz)
 (R:us.length=ps.length)(qr:∀(j:Nat) v,us[j]?=some v->cur[j]?=some v)(yl:∀v∈us,v.oneCell'=true)(hr:∀(j:Nat) v x,us[j]?=some v->ps[j]?=some x->db e v x):bD e (.slice (some ⟨k,0,none⟩) n bK) (.aW g n ps):=by
 refine .aW (BE Jz hm (λ h=>by cases h) (λ h=>by cases h) (.inr ⟨k,0,rfl,λ j=>us.getD j undef,λ j x O=>?_⟩)) ⟨au,_,bK,fC,rfl,by omega,cO,.inr ⟨k,rfl,gT,cur,I,cH⟩⟩;have hj:j<us.length:=by rw[R];exact(List.getElem?_eq_some_iff.1 O).1
 have hu:us[j]?=some us[j]:=List.getElem?_eq_getElem hj;have pC:us.getD j undef=us[j]:=by simp[hj]
 show e.np k (0+j)/\e.w.cell? ⟨k,0+j,none⟩=some (us.getD j undef)/\lX (us.getD j undef)=true/\db e (us.getD j undef) x;rw[pC];refine⟨λ m rc=>?_,?_,yl _ (List.getElem_mem hj),hr j _ x hu O⟩
 ·rw[dT] at rc;cases rc;rw[<-hn,<-cO];omega
 ·rw[Nat.zero_add,cell_of_row e.w k j cur au.el (0,0) I];exact qr j _ hu
def St.app(J:St)(g:Nat)(au:Gr)(dst:Option Nat)(ps:List Pl):St:=(J.Ep g au).put dst (.aW g au.len ps)
theorem Il(hT:cW P ae){e:aA}(aQ:hd Γ e){t ty:TypeId}{g n m el z1 z2:Nat}{z3:Value}{ps qs:List Pl}{i:TI}{vx vy:Value}(ht:ae t=some ⟨.slice el,z1,z2,z3⟩)(ec:ae el=some i)(ic:i.zero.cells.size=i.sz)(o5:0<i.sz)
 (bO:bD e vx (.aW g n ps))(fC:e.gi g=some ⟨el,i.sz,n⟩)(ff:db e vy (.sl false m qs))(ee:qs.length=m*i.sz)
 (gh:n+m<=maxLen)(gu:(n+m)*i.bytes<=140737488355328):∃v aI k,(Builtin.append_ #[t,t] ty #[vx,vy]).run P e.w=.ok v aI/\pi e aI g ⟨el,i.sz,n+m⟩ k/\bD (e.more aI g ⟨el,i.sz,n+m⟩ k) v (.aW g (n+m) (ps++qs)):=by
 obtain⟨d0,dV,I⟩:=hT.desc t _ ht;cases d0<;>simp only[jJ,reduceCtorEq,TK.slice.injEq] at I
 rw[I] at dV;obtain⟨gj,mQ,bQ,tw,hz⟩:=hT.info _ i ec;cases bO with
 |aW dj Gq=>
 obtain⟨ab,bK,rfl,tI,h3,hA0,_,hA⟩:=qH dj;obtain⟨G0,A0,aeN,OI,yx,afr,so,Ks⟩:=Gq;cases yx;rw[fC] at OI;cases OI;simp only at so;obtain⟨ap,lI,rfl,Qt,Qw,FG,_,hY⟩:=qH ff
 by_cases ml:m=0
 ·subst ml;have Du:qs=[]:=List.eq_nil_of_length_eq_zero (by simpa using ee);subst Du;have XR:(Builtin.firstCells gj.size 0 (.slice ap 0 lI)).run P e.w=.ok #[] e.w:=by
   cases ap<;>simp[Builtin.firstCells,loadCells,loadCellsFrom]
  have cJ:(Builtin.append_ #[t,t] ty #[.slice ab n bK,.slice ap 0 lI]).run P e.w=.ok (.slice ab n bK) e.w:=by cases ab<;>simp[Builtin.append_,run_underlying dV,sizeOf,typeInfo,mQ,Builtin.lenOf,tI,XR,storeCells]
  have pF:pi e e.w g ⟨el,i.sz,n+0⟩ none:=⟨rfl,rfl,rfl,Nat.le_refl _,λ _ _ _=>rfl,λ j cur _ h=>⟨cur,h,rfl,λ _ _=>rfl⟩,λ j h=>by cases h⟩;refine⟨_,_,none,cJ,pF,?_⟩;have:=(bD.aW dj ⟨_,_,_,fC,rfl,Nat.le_refl _,so,Ks⟩).next (pF.ends aQ fC rfl rfl (by simp))
  simpa using this
 have Dx:qs≠[]:=λ Y=>by
  rw[Y] at ee;rcases Nat.mul_eq_zero.1 ee.symm with bL|bL
  ·exact ml bL
  ·omega
 rcases hY with hY|⟨yb,yo,rfl,CP⟩
 ·exact absurd hY Dx
 obtain⟨us,sy,qz,lV,uQ⟩:=Cm CP;have pL:us.length=m*gj.size:=by rw[sy,ee,bQ]
 by_cases pK:n+m<=bK
 ·
  rcases Ks with Ks|⟨k,WV,ja,cur,qr,cH⟩
  ·omega
  ·cases WV;simp only at qr cH;obtain⟨G1,aeT,h1,A,K,h4,h5⟩:=aQ.gr k g ja;rw[fC] at h1;cases h1;have C0:n*gj.size+us.length<=cur.size:=by rw[pL,cH,bQ,<-Nat.add_mul];exact Nat.mul_le_mul_right _ pK
   have cJ:=run_append_room (P:=P) e.w t ty el gj dV mQ k n bK cur qr ⟨yb,yo,none⟩ m lI us pL qz lV pK C0;have lT:(cur.toList.take (n*gj.size)++us++cur.toList.drop (n*gj.size+us.length)).toArray.size=cur.size:=by simp only[List.size_toArray,List.length_append,List.length_take,List.length_drop,Array.length_toList];omega
   have pF:pi e (e.w.setRow k (cur.toList.take (n*gj.size)++us++cur.toList.drop (n*gj.size+us.length)).toArray) g ⟨el,i.sz,n+m⟩ none:=by
    refine⟨rfl,rfl,rfl,by simp,λ j hj uE=>setRow_other _ _ _ _ (λ Y=>uE (by rw[Y];exact ja)),λ j c0 uE hj=>?_,λ j h=>by cases h⟩
    by_cases mf:j=k
    ·subst mf;simp only at hj;rw[qr] at hj;cases hj;refine⟨_,setRow_heap _ _ cur _ _ _ qr,lT,λ q hq=>?_⟩;have Dv:=hq _ h4;simp only at Dv;rw[bQ];rw[List.getElem?_toArray,List.append_assoc,List.getElem?_append_left (by simp;rw[cH];have:=Nat.mul_le_mul_right i.sz tI;omega),List.getElem?_take,if_pos Dv];simp
    ·exact⟨c0,by rw[setRow_other _ _ _ _ mf];exact hj,rfl,λ _ _=>rfl⟩
   refine⟨_,_,none,cJ,pF,?_⟩;have E:=pF.ends aQ fC rfl rfl (by simp);rcases hA with hA|⟨bj,o',eC,Jf⟩
   ·have lR:n=0:=by
     rw[hA] at so;simp only[List.length_nil] at so;rcases Nat.mul_eq_zero.1 so.symm with bL|bL
     ·exact bL
     ·exact absurd bL (Nat.pos_iff_ne_zero.1 o5)
    subst hA;refine LW (au:=⟨el,i.sz,n+m⟩) (us:=us) (cur:=(cur.toList.take (n*gj.size)++us++cur.toList.drop (n*gj.size+us.length)).toArray) (setRow_heap _ _ cur _ _ _ qr) (by simp[aA.more,ja]) (by simp[aA.more,ja]) (by simp[aA.more]) rfl (by simp[ee,lR]) pK h3 (by rw[lT];exact cH) (by simpa using sy) (λ j v hj=>?_) lV (λ j v y h1 A=>(uQ j v y h1 (by simpa using A)).next E);have mg:=(List.getElem?_eq_some_iff.1 hj).1;rw[List.getElem?_toArray,lR,List.append_assoc,List.getElem?_append_right (by simp)];simp only[Nat.zero_mul,List.take_zero,List.length_nil,Nat.sub_zero];rw[List.getElem?_append_left mg];exact hj
   ·cases eC;obtain⟨os,iQ,yi,yh,tJ⟩:=Cm Jf;have Gc:os.length=n*i.sz:=by rw[iQ,so]
    have n9:∀(j:Nat) v,os[j]?=some v->cur[j]?=some v:=λ j v hj=>by
     have:=yi j v hj;rw[rM,Nat.zero_add,cell_of_row e.w k j cur el (0,0) qr] at this;exact this
    refine LW (au:=⟨el,i.sz,n+m⟩) (us:=os++us) (cur:=(cur.toList.take (n*gj.size)++us++cur.toList.drop (n*gj.size+us.length)).toArray) (setRow_heap _ _ cur _ _ _ qr) (by simp[aA.more,ja]) (by simp[aA.more,ja]) (by simp[aA.more]) rfl (by simp[ee,so,Nat.add_mul]) pK h3 (by rw[lT];exact cH) (by simp[sy,iQ]) (λ j v hj=>?_) (λ v hv=>by rcases List.mem_append.1 hv with bL|bL;exact yh v bL;exact lV v bL) (λ j v y h1 A=>?_)
    ·rw[List.getElem?_toArray,List.append_assoc];have dT:(cur.toList.take (n*gj.size)).length=n*i.sz:=by
      rw[List.length_take,bQ,Array.length_toList,cH];have:=Nat.mul_le_mul_right i.sz tI;omega
     rcases Nat.lt_or_ge j os.length with eF|eF
     ·rw[List.getElem?_append_left eF] at hj;rw[List.getElem?_append_left (by rw[dT,<-Gc];exact eF),List.getElem?_take,if_pos (by rw[bQ,<-Gc];exact eF)]
      simpa using n9 j v hj
     ·rw[List.getElem?_append_right eF] at hj;rw[List.getElem?_append_right (by rw[dT,<-Gc];exact eF),dT,<-Gc,List.getElem?_append_left (List.getElem?_eq_some_iff.1 hj).1];exact hj
    ·rcases Nat.lt_or_ge j os.length with eF|eF
     ·rw[List.getElem?_append_left eF] at h1;rw[List.getElem?_append_left (by rw[<-iQ];exact eF)] at A;exact(tJ j v y h1 A).next E
     ·rw[List.getElem?_append_right eF] at h1;rw[List.getElem?_append_right (by rw[<-iQ];exact eF),<-iQ] at A;exact(uQ _ v y h1 A).next E
 ·
  have tB:∀(os:List Value)(fz:Nat),os.length=ps.length->(∀v∈os,v.oneCell'=true)->(∀(j:Nat) v x,os[j]?=some v->ps[j]?=some x->db e v x)->fz<n+m->
   (Builtin.append_ #[t,t] ty #[.slice ab n bK,.slice (some ⟨yb,yo,none⟩) m lI]).run P e.w=.ok (.slice (some ⟨e.w.heap.size,0,none⟩) (n+m) (grownCap e.w (n+m) fz el)) (e.w.drew.alloc (.cells (os.toArray++us.toArray++Builtin.zeroCells i.zero.cells (grownCap e.w (n+m) fz el-(n+m))) el))->
   ∃v aI k,(Builtin.append_ #[t,t] ty #[.slice ab n bK,.slice (some ⟨yb,yo,none⟩) m lI]).run P e.w=.ok v aI/\pi e aI g ⟨el,i.sz,n+m⟩ k/\bD (e.more aI g ⟨el,i.sz,n+m⟩ k) v (.aW g (n+m) (ps++qs)):=by
   intro os fz iQ yh tJ oV cJ;have fB:=grownCap_ge e.w (n+m) fz el;have nE:=grownCap_le_maxLen e.w (n+m) fz el gh;have pF:pi e (e.w.drew.alloc (.cells (os.toArray++us.toArray++Builtin.zeroCells i.zero.cells (grownCap e.w (n+m) fz el-(n+m))) el)) g ⟨el,i.sz,n+m⟩ (some e.w.heap.size):=
    ⟨rfl,rfl,rfl,by simp,λ j hj _=>Below.heap_alloc e.w.drew _ j hj,λ j c0 uE hj=>⟨c0,by rw[Below.heap_alloc e.w.drew _ j (sd hj)];exact hj,rfl,λ _ _=>rfl⟩,λ j hj=>by cases hj;exact⟨Nat.le_refl _,by simp,_,heap_alloc_new e.w.drew _⟩⟩
   have E:=pF.ends aQ fC rfl rfl (by simp);refine⟨_,_,_,cJ,pF,LW (au:=⟨el,i.sz,n+m⟩) (us:=os++us) (heap_alloc_new e.w.drew _) (by simp[aA.more]) (by simp[aA.more]) (by simp[aA.more]) rfl (by simp[ee,so,Nat.add_mul]) fB nE ?_ (by simp[sy,iQ]) (λ j v hj=>?_) (λ v hv=>by rcases List.mem_append.1 hv with bL|bL;exact yh v bL;exact lV v bL) (λ j v y h1 A=>?_)⟩
   ·simp only[Array.size_append,List.size_toArray,size_zeroCells,ic,iQ,sy,so,ee,<-Nat.add_mul]
    congr 1
    omega
   ·have mg:=(List.getElem?_eq_some_iff.1 hj).1;rw[show os.toArray++us.toArray=(os++us).toArray by simp,Array.getElem?_append_left (by simpa using mg),List.getElem?_toArray];exact hj
   ·rcases Nat.lt_or_ge j os.length with eF|eF
    ·rw[List.getElem?_append_left eF] at h1;rw[List.getElem?_append_left (by rw[<-iQ];exact eF)] at A;exact(tJ j v y h1 A).next E
    ·rw[List.getElem?_append_right eF] at h1;rw[List.getElem?_append_right (by rw[<-iQ];exact eF),<-iQ] at A;exact(uQ _ v y h1 A).next E
  rcases ab with _|ad
  ·have h2:=hA0 rfl;have lR:n=0:=by omega
   subst lR;subst h2;have cO:ps=[]:=List.eq_nil_of_length_eq_zero (by simpa using so);have cJ:=run_append_nil (P:=P) e.w t ty el gj i.zero dV mQ hz ⟨yb,yo,none⟩ m lI us pL qz (by omega) (by simp only[maxLen] at gh;omega) (by rw[tw];simp only[Nat.zero_add] at gu;omega);refine tB [] 0 (by simp[cO]) (λ v hv=>(by cases hv)) (λ j v x hj=>(by simp at hj)) (by omega) ?_
   simpa using cJ
  ·have oV:∃os:List Value,os.length=ps.length/\(∀(j:Nat) v,os[j]?=some v->e.w.cell? (ad.add j)=some v)/\(∀v∈os,v.oneCell'=true)/\∀(j:Nat) v x,os[j]?=some v->ps[j]?=some x->db e v x:=by
    rcases hA with rfl|⟨bj,o',eC,Jf⟩
    ·exact⟨[],rfl,(λ j v h=>by simp at h),(λ v h=>by cases h),(λ j v x h=>by simp at h)⟩
    ·cases eC;exact Cm Jf
   obtain⟨os,iQ,yi,yh,tJ⟩:=oV;have cJ:=run_append_grow (P:=P) e.w t ty el gj i.zero dV mQ hz ad n bK os (by rw[iQ,so,bQ]) yi ⟨yb,yo,none⟩ m lI us pL qz (by omega) (by simp only[maxLen] at gh;omega) (growslice_fits (by omega) (by rw[tw];exact gu));exact tB os bK iQ yh tJ (by omega) cJ
theorem UD(hT:cW P ae){t:TypeId}{x y:Operand}{g n m el z1 z2:Nat}{z3:Value}{ps qs:List Pl}{dy:G}{i:TI}(ho:o.op=.call {callee:=.builtin .append,args:=#[x,y],argTypes:=#[t,t]})(ht:ae t=some ⟨.slice el,z1,z2,z3⟩)(ec:ae el=some i)(ic:i.zero.cells.size=i.sz)(o5:0<i.sz)
 (F:vU Γ.n o.dst=true)(O:ev (kv J.s) x=some (.aW g n ps))(hg:kv J.g g=some ⟨el,i.sz,n⟩)(hy:ev (kv J.s) y=some dy)(lD:ni dy=some (m,qs))(ee:qs.length=m*i.sz)
 (gh:n+m<=maxLen)(gu:(n+m)*i.bytes<=140737488355328):zd P Γ o J (J.app g ⟨el,i.sz,n+m⟩ o.dst (ps++qs)):=by
 intro a e L;have hs:=L.iI (J:=J) o.op.operands;have bO:=hs.1 x (by rw[ho];simp[Op.operands,Call.operands]) _ O;have ff:=w8 (hs.1 y (by rw[ho];simp[Op.operands,Call.operands]) _ hy) lD;have fC:e.gi g=some ⟨el,i.sz,n⟩:=by rw[L.gs];exact hg
 obtain⟨v,aI,k,cJ,pF,oX⟩:=Il hT L.env (ty:=o.type) ht ec ic o5 bO fC ff ee gh gu;unfold Oper.wp;have e1:(execOp a.eval o).run P e.w=.ok (.value v) aI:=by obtain⟨dst,op,type,pos,after,guard⟩:=o;simp only at ho;subst ho;simp only[execOp,resolve,invoke,builtin,Sem.run_bind,Sem.run_pure,Result.andThen_ok,List.map_toArray,List.map_cons,List.map_nil,cJ]
 rw[e1];exact⟨e.more aI g ⟨el,i.sz,n+m⟩ k,rfl,(L.more pF hg rfl rfl (by simp)).put F oX⟩
end
end Go.Proofs.YtcnefjfboagbmaaGreat
end
section
namespace Go.Proofs.YtcnefjfboagbmaaGreat
open Go.RowKit
section
variable{P:Program}{ae:Nat->Option TI}{Γ:bI}{J bU bc:St}{o:Oper}
def bN(Γ:bI)(J bU:St):Prop:=∀(a:Act)(e:aA),bu Γ J e a->∃Y,Y.w=e.w/\bu Γ bU Y a
theorem bN.trans{TJ:St}(h:bN Γ J bc)(k:bN Γ bc TJ):bN Γ J TJ:=λ a e L=>by
 obtain⟨e1,h1,A⟩:=h a e L;obtain⟨e2,K,h4⟩:=k a e1 A;exact⟨e2,K.trans h1,h4⟩
theorem kF(t g el sz:Nat){n:Nat}{ps:List Pl}(ht:kv J.s t=some (.p (.sl true n ps)))(hg:kv J.g g=none)(R:ps.length=n*sz):bN Γ J ⟨(t,.aW g n ps)::J.s,J.b,(g,⟨el,sz,n⟩)::J.g⟩:=by
 intro a e L;have fC:e.gi g=none:=by rw[L.gs];exact hg
 have qx:∀k,e.gr k≠some g:=λ k I=>by obtain⟨au,_,h,_⟩:=L.env.gr k g I;rw[fC] at h;cases h
 have E:Ends e {e with gi:=λ h=>if h=g then some ⟨el,sz,n⟩ else e.gi h}:=
  ⟨λ _ _ _ h1 A=>⟨h1,A⟩,λ _ _ h=>h,λ dS au h=>⟨au,by show(if dS=g then _ else e.gi dS)=_;rw[if_neg (λ Y=>by rw[Y,fC] at h;cases h)];exact h,rfl,rfl,Nat.le_refl _⟩,λ _ _ _ cur h1 _ K=>⟨h1,cur,K,rfl⟩⟩
 refine⟨{e with gi:=λ h=>if h=g then some ⟨el,sz,n⟩ else e.gi h},rfl,L.size,L.df,λ af d hu=>?_,λ b cs T=>(L.boxes b cs T).ends E rfl,L.ei,λ h=>?_,L.env.kept,L.env.cl,L.env.bx,L.env.inj,λ k dS I=>?_,L.env.kb⟩
 ·simp only[cM] at hu;split at hu
  ·rename_i lE;subst lE;cases hu;have h1:=L.bP _ _ ht;generalize fZ a t=v at h1;cases h1 with
   |p h1=>have A:=(h1.next E).low;obtain⟨ab,bK,rfl,K,h4,h5,h6,h7⟩:=qH h1;exact .aW A ⟨⟨el,sz,n⟩,ab,bK,by simp,rfl,Nat.le_refl _,R,.inl (h6 rfl)⟩
  ·exact(L.bP af d hu).next E
 ·show(if h=g then _ else e.gi h)=_;simp only[cM]
  by_cases e1:h=g
  ·subst e1;simp
  ·rw[if_neg e1,if_neg (λ Y=>e1 Y.symm)];exact L.gs h
 ·obtain⟨au,cur,h1,A⟩:=L.env.gr k dS I;exact⟨au,cur,by show(if dS=g then _ else e.gi dS)=_;rw[if_neg (λ Y=>qx k (by rw[<-Y];exact I))];exact h1,A⟩
def G.ok(B au:Nat->Bool):G->Bool
 |.agg ds=>eA ds
 |.bg ds=>eA ds
 |.ptr b _=>B b
 |.arr b _ _ _=>B b
 |.aW g _ _=>au g
 |.fn _ x y=>eA x&&eA y
 |_=>true
where eA:List G->Bool
 |[]=>true
 |d::ds=>d.ok B au&&eA ds
theorem qD{B au:Nat->Bool}:∀{ds:List G}(_:G.ok.eA B au ds=true){i:Nat}{d:G},ds[i]?=some d->d.ok B au=true
 |[],_,i,d,X=>by simp at X
 |d0::ds,h,i,d,X=>by
  simp only[G.ok.eA,Bool.and_eq_true] at h;cases i with
  |zero=>simp only[List.getElem?_cons_zero,Option.some.injEq] at X;subst X;exact h.1
  |succ i=>exact qD h.2 (by simpa using X)
def aA.cut(e:aA)(B au:Nat->Bool):aA:=
 {e with bx:=λ b=>if B b=true then e.bx b else none,gr:=λ k=>match e.gr k with|some g=>if au g=true then some g else none|none=>none,gi:=λ g=>if au g=true then e.gi g else none}
theorem db.cut{e:aA}{B au:Nat->Bool}{v:Value}{x:Pl}(h:db e v x):db (e.cut B au) v x:=db.env (e:=e) (Y:=e.cut B au) rfl rfl h
theorem bD.cut{e:aA}{B au:Nat->Bool}{v:Value}{d:G}(h:bD e v d):d.ok B au=true->bD (e.cut B au) v d:=by
 induction h with
 |p h=>intro _;exact .p h.cut
 |agg R _ ih=>intro I;exact .agg R (λ i v d h1 A=>ih i v d h1 A (qD I A))
 |bg R _ ih=>intro I;exact .bg R (λ i v d h1 A=>ih i v d h1 A (qD I A))
 |ptr h=>intro I;simp only[G.ok] at I;exact .ptr (by simp only[aA.cut,if_pos I];exact h)
 |el h=>intro _;obtain⟨f,hf⟩:=h;exact .el ⟨f,λ i x O=>by obtain⟨h1,A,K,h4⟩:=hf i x O;exact⟨h1,A,K,h4.cut⟩⟩
 |aW h ht=>intro I;simp only[G.ok] at I;refine .aW h.cut ?_;obtain⟨G0,ab,bK,h1,A,K,h4,h5⟩:=ht;refine⟨G0,ab,bK,by simp only[aA.cut,if_pos I];exact h1,A,K,h4,h5.imp id ?_⟩;rintro⟨k,h6,h7,h8⟩;refine⟨k,h6,?_,h8⟩;show(match e.gr k with|some g=>if au g=true then some g else none|none=>none)=_;rw[h7];simp[I]
 |arr h=>intro I;simp only[G.ok] at I;exact .arr (by simp only[aA.cut,if_pos I];exact h)
 |fn R dJ _ _ ih DI=>intro I;simp only[G.ok,Bool.and_eq_true] at I;exact .fn R dJ (λ i v d h1 A=>ih i v d h1 A (qD I.1 A)) (λ i v d h1 A=>DI i v d h1 A (qD I.2 A))
 |any=>intro _;exact .any
def aF{ar:Type}(l:List (Nat×ar))(n:Nat):Bool:=(kv l n).isSome
def vD(J bc:St):List (Nat×G)->Prop
 |[]=>True
 |p::l=>(kv J.s p.1=some p.2/\p.2.ok (aF bc.b) (aF bc.g)=true)/\vD J bc l
def vz(J bc:St):List (Nat×List G)->Prop
 |[]=>True
 |p::l=>(kv J.b p.1=some p.2/\G.ok.eA (aF bc.b) (aF bc.g) p.2=true)/\vz J bc l
def vB(J:St):List (Nat×Gr)->Prop
 |[]=>True
 |p::l=>kv J.g p.1=some p.2/\vB J l
theorem vD.get{J bc:St}:∀{l:List (Nat×G)}(_:vD J bc l){t:Nat}{d:G},kv l t=some d->kv J.s t=some d/\d.ok (aF bc.b) (aF bc.g)=true
 |[],_,t,d,h=>by cases h
 |(k,v)::l,hs,t,d,h=>by
  rw[cM] at h;split at h
  ·rename_i I;subst I;cases h;exact hs.1
  ·exact hs.2.get h
theorem vz.get{J bc:St}:∀{l:List (Nat×List G)}(_:vz J bc l){t:Nat}{d:List G},kv l t=some d->kv J.b t=some d/\G.ok.eA (aF bc.b) (aF bc.g) d=true
 |[],_,t,d,h=>by cases h
 |(k,v)::l,hs,t,d,h=>by
  rw[cM] at h;split at h
  ·rename_i I;subst I;cases h;exact hs.1
  ·exact hs.2.get h
theorem vB.get{J:St}:∀{l:List (Nat×Gr)}(_:vB J l){t:Nat}{d:Gr},kv l t=some d->kv J.g t=some d
 |[],_,t,d,h=>by cases h
 |(k,v)::l,hs,t,d,h=>by
  rw[cM] at h;split at h
  ·rename_i I;subst I;cases h;exact hs.1
  ·exact hs.2.get h
def vC(bc:St):List (Nat×Nat)->Prop
 |[]=>True
 |p::l=>aF bc.b p.1=true/\vC bc l
theorem vC.get{bc:St}:∀{l:List (Nat×Nat)}(_:vC bc l){b k:Nat},kv l b=some k->aF bc.b b=true
 |[],_,b,k,h=>by cases h
 |(x,y)::l,hs,b,k,h=>by
  rw[cM] at h;split at h
  ·rename_i I;subst I;exact hs.1
  ·exact hs.2.get h
theorem eO(hs:vD J bc bc.s)(T:vz J bc bc.b)(hg:vB J bc.g)(dI:vC bc Γ.kb):bN Γ J bc:=by
 intro a e L;have fC:∀g,aF bc.g g=true->∃au,e.gi g=some au/\kv bc.g g=some au:=λ g h=>by
  unfold aF at h;obtain⟨au,hG⟩:=Option.isSome_iff_exists.1 h;exact⟨au,by rw[L.gs];exact hg.get hG,hG⟩
 refine⟨e.cut (aF bc.b) (aF bc.g),rfl,L.size,L.df,λ t d ht=>(L.bP t d (hs.get ht).1).cut (hs.get ht).2,λ b cs cH=>?_,λ b i7=>?_,λ g=>?_,L.env.kept,L.env.cl,λ b k I=>?_,λ b c k h1 A=>?_,λ k g I=>?_,λ b k I=>?_⟩
 ·obtain⟨k,vs,el,h1,A,K⟩:=L.boxes b cs (T.get cH).1;refine⟨k,vs,el,?_,A,K.1,λ i v d hv F=>(K.2 i v d hv F).cut (qD (T.get cH).2 F)⟩;show(if aF bc.b b=true then e.bx b else none)=_;rw[if_pos (by simp[aF,cH])];exact h1
 ·show(if aF bc.b b=true then e.bx b else none)=_;rw[if_neg (by simp[aF,i7])]
 ·show(if aF bc.g g=true then e.gi g else none)=_;cases R:kv bc.g g with
  |none=>rw[if_neg (by simp[aF,R])]
  |some au=>rw[if_pos (by simp[aF,R]),L.gs];exact hg.get R
 ·have dv:(if aF bc.b b=true then e.bx b else none)=some k:=I;split at dv
  ·obtain⟨h1,A,K,h4⟩:=L.env.bx b k dv;refine⟨h1,A,K,?_⟩;show(match e.gr k with|some g=>if aF bc.g g=true then some g else none|none=>none)=none;rw[h4]
  ·cases dv
 ·have aP:(if aF bc.b b=true then e.bx b else none)=some k:=h1;have bs:(if aF bc.b c=true then e.bx c else none)=some k:=A;split at aP
  ·split at bs
   ·exact L.env.inj b c k aP bs
   ·cases bs
  ·cases aP
 ·have dv:(match e.gr k with|some g=>if aF bc.g g=true then some g else none|none=>none)=some g:=I;rcases ja:e.gr k with _|g0
  ·rw[ja] at dv;cases dv
  ·rw[ja] at dv;simp only at dv;split at dv
   ·rename_i dz;cases dv;obtain⟨au,cur,h1,A⟩:=L.env.gr k g ja;exact⟨au,cur,by show(if aF bc.g g=true then e.gi g else none)=_;rw[if_pos dz];exact h1,A⟩
   ·cases dv
 ·show(if aF bc.b b=true then e.bx b else none)=_;rw[if_pos (dI.get I)];exact L.env.kb b k I
theorem oL{l0 l:List Oper}{Q:Exit->St->Prop}(h:bN Γ J bU)(k:bp P Γ l0 Q l bU):bp P Γ l0 Q l J:=⟨λ a e L=>by
 obtain⟨Y,h1,A⟩:=h a e L;rw[<-h1];exact k.run a Y A⟩
structure aK(P:Program)(Γ:bI)(c:Code)(Q:Exit->St->Prop)(J:St):Prop where
 run:∀(a:Act)(e:aA),bu Γ J e a->c.wp P (jr Γ Q) a e.w
variable{Q:Exit->St->Prop}{c x y:Code}
theorem dO(h:bN Γ J bU)(k:aK P Γ c Q bU):aK P Γ c Q J:=⟨λ a e L=>by
 obtain⟨Y,h1,A⟩:=h a e L;rw[<-h1];exact k.run a Y A⟩
theorem vK{d9:Exit->St->Prop}(h:aK P Γ c Q J)(hq:∀ex bU,Q ex bU->d9 ex bU):aK P Γ c d9 J:=⟨λ a e L=>Code.wp_mono (λ ex br aI hh=>by obtain⟨bU,Y,h1,A,K⟩:=hh;exact⟨bU,Y,h1,A,hq _ _ K⟩) (h.run a e L)⟩
def rG(aL:St->Prop)(Q:Exit->St->Prop):Exit->St->Prop
 |.normal,J=>aL J
 |ex,J=>Q ex J
theorem qa(h:aK P Γ x (rG (aK P Γ y Q) Q) J):aK P Γ (.seq x y) Q J:=⟨λ a e L=>by
 refine wp_seq (Code.wp_mono (λ ex br aI hh=>?_) (h.run a e L));obtain⟨bU,Y,rfl,A,K⟩:=hh;cases ex with
 |normal=>exact K.run br Y A
 |_=>exact⟨bU,Y,rfl,A,K⟩⟩
theorem ES(h:Q .normal J):aK P Γ .skip Q J:=⟨λ _ e L=>wp_skip ⟨J,e,rfl,L,h⟩⟩
theorem UT(h:Q .ret J):aK P Γ .ret Q J:=⟨λ _ e L=>wp_ret ⟨J,e,rfl,L,h⟩⟩
theorem UN{id:Nat}(h:Q (.exit id) J):aK P Γ (.exit id) Q J:=⟨λ _ e L=>wp_exit ⟨J,e,rfl,L,h⟩⟩
def qi(id:Nat)(Q:Exit->St->Prop):Exit->St->Prop
 |.exit oa,J=>if oa=id then Q .normal J else Q (.exit oa) J
 |ex,J=>Q ex J
theorem UK{id:Nat}(h:aK P Γ c (qi id Q) J):aK P Γ (.block id c) Q J:=⟨λ a e L=>by
 refine wp_block (Code.wp_mono (λ ex br aI hh=>?_) (h.run a e L));obtain⟨bU,Y,rfl,A,K⟩:=hh;cases ex with
 |exit oa=>
  simp only[qi] at K;simp only[Exit.inBlock];split
  ·rename_i wu;rw[if_pos wu] at K;exact⟨bU,Y,rfl,A,K⟩
  ·rename_i wu;rw[if_neg wu] at K;exact⟨bU,Y,rfl,A,K⟩
 |_=>exact⟨bU,Y,rfl,A,K⟩⟩
theorem N4{e:aA}{a:Act}(L:bu Γ J e a){z:Operand}{v:Value}(h:ev (kv J.s) z=some (.p (.raw v))):a.eval z=v:=cR ((L.iI #[z]).1 z (by simp) _ h)
theorem UL{z:Operand}{t:Bool}(hz:ev (kv J.s) z=some (.p (.raw (.bool t))))(ht:t=true->aK P Γ x Q J)(hf:t=false->aK P Γ y Q J):aK P Γ (.cond z x y) Q J:=⟨λ a e L=>wp_cond_split (N4 L hz) (λ h=>(ht h).run a e L) (λ h=>(hf h).run a e L)⟩
theorem vL{id:Nat}{l:List Oper}(h:bp P Γ l Q l J):aK P Γ (.region id l.toArray false) Q J:=⟨λ a e L=>wp_region_lit (h.run a e L)⟩
theorem UQ{dM:Type}(jq:dM->St)(mB:dM->Nat)(i0:dM)(h0:bN Γ J (jq i0))(El:∀i,aK P Γ c (rG (λ bU=>∃j,mB j<mB i/\bN Γ bU (jq j)) Q) (jq i)):aK P Γ (.loop c) Q J:=by
 refine⟨λ a e L=>?_⟩;obtain⟨e0,h1,A⟩:=h0 a e L;rw[<-h1];have key:∀n i,mB i<n->∀a e,bu Γ (jq i) e a->Code.rounds P c (jr Γ Q) n a e.w:=by
  intro n;induction n with
  |zero=>intro i X;omega
  |succ n ih=>
   intro i X a e L;rw[rounds_succ];refine Code.wp_mono (λ ex br aI hh=>?_) ((El i).run a e L);obtain⟨bU,Y,rfl,A,K⟩:=hh;cases ex with
   |normal=>obtain⟨j,hj,hg⟩:=K;obtain⟨e2,h4,h5⟩:=hg br Y A;show Code.rounds P c (jr Γ Q) n br Y.w;rw[<-h4];exact ih j (by omega) br e2 h5
   |_=>exact⟨bU,Y,rfl,A,K⟩
 exact wp_loop_rounds (mB i0+1) (key _ i0 (by omega) a e0 A)
def LK(ae:Nat->Option TI)(J:St):ResultVar->Option G
 |.tmp t=>kv J.s t
 |.cell t ty=>match ae ty,kv J.s t with
  |some i,some (.ptr b o)=>match kv J.b b with
   |some cs=>kN o cs (yF i)
   |none=>none
  |_,_=>none
def Eg{ar:Type}(ae:Nat->Option TI)(J:St):List ResultVar->(List G->Option ar)->Option ar
 |[],k=>k []
 |r::l,k=>match LK ae J r with
  |some d=>Eg ae J l λ ds=>k (d::ds)
  |none=>none
def Bw(ae:Nat->Option TI)(J:St)(l:List ResultVar):Option G:=Eg ae J l λ
 |[d]=>d.sC some
 |ds=>(G.bg ds).sC some
def uo(ds:List G):List (Nat×G):=go 0 ds
where go:Nat->List G->List (Nat×G)
 |_,[]=>[]
 |n,d::ds=>(n,d)::go (n+1) ds
theorem Cz:∀(ds:List G)(n t:Nat)(d:G),kv (uo.go n ds) t=some d->n<=t/\ds[t-n]?=some d
 |[],n,t,d,h=>by cases h
 |c::ds,n,t,d,h=>by
  simp only[uo.go,cM] at h;split at h
  ·rename_i hn;subst hn;cases h;simp
  ·rename_i hn;obtain⟨h1,A⟩:=Cz ds (n+1) t d h;refine⟨by omega,?_⟩;rw[show t-n=(t-(n+1))+1 by omega]
   simpa using A
theorem Rg{P:Program}{w:World}{ar dh:Type}(f:ar->Sem dh)(g:ar->dh):∀(l:List ar),(∀x∈l,(f x).run P w=.ok (g x) w)->(l.mapM f).run P w=.ok (l.map g) w
 |[],_=>by simp
 |x::l,h=>by
  rw[List.mapM_cons];simp only[Sem.run_bind,h x (by simp),Result.andThen_ok,Rg f g l (λ y hy=>h y (by simp[hy])),Sem.run_pure,List.map_cons]
def Eh(tmps:Array Value):ResultVar->Sem Value
 |.tmp t=>pure (tmps.getD t undef)
 |.cell a t=>do loadVar t (<-asAddr (tmps.getD a undef))
theorem Bx(fn:Func)(tmps:Array Value):results fn tmps=(do let vs <-fn.results.mapM (Eh tmps);pure (if h:vs.size=1 then vs[0] else .tuple vs)):=rfl
theorem acR(hT:cW P ae){e:aA}{a:Act}(L:bu Γ J e a){r:ResultVar}{d:G}(h:LK ae J r=some d):
 ∃v,(Eh a.tmps r).run P e.w=.ok v e.w/\bD e v d:=by
 cases r with
 |tmp t=>exact⟨fZ a t,rfl,L.bP t d h⟩
 |cell t ty=>
  simp only[LK] at h;split at h
  ·rename_i i b o X hp;split at h
   ·rename_i cs cH;obtain⟨k,vs,el,A,K,h4⟩:=L.boxes b cs cH;have h1:=L.bP t _ hp;generalize dk:fZ a t=vx at h1;cases h1 with
    |ptr h1=>
     rw[A] at h1;cases h1;obtain⟨v,hr,hv⟩:=KT hT X (k:=k) (o:=o) (us:=vs.drop o) (λ j v hj=>by
      rw[List.getElem?_drop] at hj;rw[cell_of_row e.w k (o+j) vs.toArray el (0,0) K]
      simpa using hj) (h4.drop o) (nt h).2
     refine⟨v,?_,hv⟩;unfold fZ at dk;simp only[Eh,dk]
     simpa[asAddr,Instr.loadAt,Instr.sureAddr] using hr
   ·cases h
  ·cases h
theorem LM{ar:Type}(hT:cW P ae){e:aA}{a:Act}(L:bu Γ J e a):∀(l:List ResultVar)(k:List G->Option ar)(r:ar),Eg ae J l k=some r->∃ds vs,(l.mapM (Eh a.tmps)).run P e.w=.ok vs e.w/\DReps e vs ds/\k ds=some r
 |[],k,r,h=>⟨[],[],by simp,DReps.nil e,h⟩
 |q::l,k,r,h=>by
  simp only[Eg] at h;split at h
  ·rename_i d h1;obtain⟨v,hv,F⟩:=acR hT L h1;obtain⟨ds,vs,sA,nB,I⟩:=LM hT L l _ r h;refine⟨d::ds,v::vs,?_,DReps.cons F nB,I⟩;rw[List.mapM_cons];simp only[Sem.run_bind,hv,sA,Result.andThen_ok,Sem.run_pure]
  ·cases h
theorem acS(hT:cW P ae){fn:Func}{e:aA}{a:Act}(L:bu Γ J e a){d:G}(h:Bw ae J fn.results.toList=some d):∃v,(results fn a.tmps).run P e.w=.ok v e.w/\bD (gR e.w e.cl) v d:=by
 unfold Bw at h;obtain⟨ds,vs,sA,nB,h⟩:=LM hT L _ _ d h;split at h
 ·rename_i d0;obtain⟨v,fh,rfl,hv,hn⟩:=nB.xi;have:fh=[]:=List.eq_nil_of_length_eq_zero hn.1;subst this;simp only[GH,Option.bind_fun_some] at h;refine⟨v,?_,GI hv d h⟩;rw[Bx,Array.mapM_eq_mapM_toList];simp only[bind_map_left,Sem.run_bind,sA,Result.andThen_ok,Sem.run_pure];simp
 ·rename_i cE;simp only[GH,Option.bind_fun_some] at h;refine⟨.tuple vs.toArray,?_,GI (.bg nB.1 nB.2) d h⟩;rw[Bx,Array.mapM_eq_mapM_toList];simp only[bind_map_left,Sem.run_bind,sA,Result.andThen_ok,Sem.run_pure];rw[dif_neg];intro hs;have R:ds.length=1:=by rw[<-nB.1];simpa using hs
  obtain⟨d1,rfl⟩:=List.length_eq_one_iff.1 R;exact cE d1 rfl
theorem ab0(hT:cW P ae){f:FuncId}{fn:Func}{c:Code}{ds:List G}{d:G}(hf:P.funcs[f]?=some fn)(T:fn.body=some c)(hn:ds.length<=fn.ntmps)
 (h:∀w cl,aK P ⟨fn.ntmps,w,cl,λ _=>False,[],[]⟩ c (λ ex J=>(ex=.normal\/ex=.ret)/\Bw ae J fn.results.toList=some d) ⟨uo ds,[],[]⟩):aX P f ds d:=by
 intro w cl vs hv;refine calls_of_wp hf T ?_;have R:vs.length=ds.length:=hv.1;have L:bu ⟨fn.ntmps,w,cl,λ _=>False,[],[]⟩ ⟨uo ds,[],[]⟩ (gR w cl) {tmps:=vs.toArray++Array.replicate (fn.ntmps-vs.toArray.size) undef,defers:=[]}:=by
  refine⟨by simp;omega,rfl,λ t d0 ht=>?_,λ b cs T=>(by cases T),λ b _=>rfl,λ g=>rfl,⟨nQ.refl _ _,λ _ _ _=>rfl,λ b k I=>(by cases I),λ b c k I=>(by cases I),λ k g I=>(by cases I),λ b k I=>(by cases I)⟩⟩;obtain⟨_,A⟩:=Cz ds 0 t d0 ht;simp only[Nat.sub_zero] at A;obtain⟨v,K,h4⟩:=hv.get A;have gz:t<vs.length:=(List.getElem?_eq_some_iff.1 K).1;have:fZ {tmps:=vs.toArray++Array.replicate (fn.ntmps-vs.toArray.size) undef,defers:=[]} t=v:=by
   unfold fZ;simp only[Array.getD_eq_getD_getElem?];rw[Array.getElem?_append_left (by simpa using gz),List.getElem?_toArray,K]
   rfl
  rw[this];exact h4
 refine Code.wp_mono (λ ex br aI hh=>?_) ((h w cl).run _ (gR w cl) L);obtain⟨bU,Y,rfl,A,K,h4⟩:=hh;obtain⟨v,hr,hv⟩:=acS hT A h4;have Jx:Below w.heap.size w Y.w:=⟨A.env.kept.os,A.env.kept.tape,A.env.kept.output,A.env.kept.size,λ k I=>A.env.kept.block k I (λ h=>h)⟩;have kR:br.defers=[]/\∃v,(results fn br.tmps).run P Y.w=.ok v Y.w/\∃kY bz,Ending.returned v=.returned kY/\Below w.heap.size w Y.w/\(∀k,k<w.heap.size->bz k=cl k)/\bD (gR Y.w bz) kY d:=
  ⟨A.df,v,hr,v,Y.cl,rfl,Jx,λ k I=>A.env.cl k I (λ h=>h),hv⟩
 rcases K with rfl|rfl
 ·exact kR
 ·exact kR
end
end Go.Proofs.YtcnefjfboagbmaaGreat
end
section
namespace Go.Proofs.YtcnefjfboagbmaaGreat
open Go.RowKit
section
variable{P:Program}{Γ:bI}
structure Ia(Γ:bI)(e Y:aA)(b:Nat)(cs:List G):Prop where
 ends:Ends e Y
 ok:hd Γ Y
 bx:Y.bx=e.bx
 gi:Y.gi=e.gi
 at_:hc Y b cs
 other:∀c ds,c≠b->hc e c ds->hc Y c ds
def H6(P:Program)(o:Oper)(S:Nat->Option G)(nm:Nat)(cs aO:List G):Prop:=
 ∀(Γ:bI)(a:Act)(e:aA),hd Γ e->(∀x∈o.op.operands,∀d,ev S x=some d->bD e (a.eval x) d)->(e.bx nm≠none->hc e nm cs)->
  e.bx nm≠none/\o.wp P a e.w (λ br aI=>br=a.put o.dst undef/\∃Y,Y.w=aI/\Ia Γ e Y nm aO) (λ _ _ _=>False)
structure HU(Γ:bI)(e Y:aA)(g:Nat)(au:Gr)(v:Value)(d:G):Prop where
 ends:Ends e Y
 ok:hd Γ Y
 bx:Y.bx=e.bx
 gi:∀h,Y.gi h=if h=g then some au else e.gi h
 other:∀c ds,hc e c ds->hc Y c ds
 rep:bD Y v d
def GStep(P:Program)(o:Oper)(S:Nat->Option G)(g:Nat)(G0:Option Gr)(au:Gr)(d:G):Prop:=
 ∀(Γ:bI)(a:Act)(e:aA),hd Γ e->(∀x∈o.op.operands,∀d,ev S x=some d->bD e (a.eval x) d)->e.gi g=G0->
  o.wp P a e.w (λ br aI=>∃v Y,br=a.put o.dst v/\Y.w=aI/\HU Γ e Y g au v d) (λ _ _ _=>False)
def DS(o:Oper)(aC:List (Nat×Nat))(g:Nat):Bool:=match kv aC g with
 |none=>true
 |some t=>o.op.operands.toList.any λ|.tmp af=>Nat.beq af t|_=>false
def zy(l0:List Oper)(o:Oper):Bool:=match o.dst with
 |none=>false
 |some t=>l0.all λ p=>match p.dst with
  |some _=>true
  |none=>p.after.any λ e=>Region.binds .any e&&(match(l0[e.on]?).bind (·.dst) with|some af=>Nat.beq af t|none=>false)
def ug(o:Oper):Bool:=match o.op with
 |.call _=>true
 |_=>false
def DO(l0:List Oper)(o:Oper)(ix:Nat):Bool:=(List.range ix).all λ k=>match l0[k]? with
 |some p=>p.dst.isSome||o.after.any λ e=>Region.binds .any e&&e.on==k
 |none=>true
theorem QV{l0:List Oper}{o p:Oper}{ix k:Nat}(h:DO l0 o ix=true)(I:k<ix)(hp:l0[k]?=some p)(F:p.dst=none):∃e∈o.after,Region.binds .any e=true/\e.on=k:=by have h1:=List.all_eq_true.1 h k (List.mem_range.2 I);simp only[hp,F,Option.isSome_none,Bool.false_or] at h1;obtain⟨e,he,T⟩:=Array.any_eq_true'.1 h1;simp only[Bool.and_eq_true,beq_iff_eq] at T;exact⟨e,he,T⟩
def cq(P:Program)(n:Nat)(l0:List Oper)(B B0:List (Nat×List G))(aL:St->Prop):Nat->List Nat->List (Nat×Nat)->List Oper->St->Prop
 |_,_,_,[],J=>aL J
 |ix,aH,aC,o::rest,J=>(∃d nb,gd l0 o (kv J.s)=some true/\(dH P o (kv J.s) (kv B) d nb\/(zy l0 o=true/\dH P o (kv J.s) (kv B0) d nb))/\(∀p,nb=some p->kv J.b p.1=none/\kv B p.1=none)/\cq P n l0 B B0 aL (ix+1) aH aC rest ((J.box nb).put o.dst d))\/(gd l0 o (kv J.s)=some false/\cq P n l0 B B0 aL (ix+1) aH aC rest (J.put o.dst (.p (.raw undef))))\/
  (∃nm cs aO,gd l0 o (kv J.s)=some true/\o.dst=none/\kv B nm=none/\(aH.contains nm=false\/DO l0 o ix=true)/\kv J.b nm=some cs/\H6 P o (kv J.s) nm cs aO/\cq P n l0 B B0 aL (ix+1) (nm::aH) aC rest (J.box (some (nm,aO))))\/
  (∃g au d t,gd l0 o (kv J.s)=some true/\o.dst=some t/\ug o=true/\DS o aC g=true/\GStep P o (kv J.s) g (kv J.g g) au d/\cq P n l0 B B0 aL (ix+1) aH ((g,t)::aC) rest ((J.Ep g au).put o.dst d))
def dY(l:List Oper)(am:Nat->G)(S:Nat->Option G):Nat->Nat->Option G
 |0=>S
 |i+1=>λ t=>if(l[i]?).bind (·.dst)=some t then some (am i) else dY l am S i t
def t6(nb:Option (Nat×List G))(B:Nat->Option (List G)):Nat->Option (List G):=λ b=>match nb with
 |some p=>if p.1=b then some p.2 else B b
 |none=>B b
def dC(N:Nat->Option (Nat×List G))(B:Nat->Option (List G)):Nat->Nat->Option (List G)
 |0=>B
 |i+1=>t6 (N i) (dC N B i)
def y5(m:Option (Nat×Gr))(au:Nat->Option Gr):Nat->Option Gr:=λ h=>match m with
 |some p=>if p.1=h then some p.2 else au h
 |none=>au h
def ej(av:Nat->Option (Nat×Gr))(au:Nat->Option Gr):Nat->Nat->Option Gr
 |0=>au
 |i+1=>y5 (av i) (ej av au i)
def uk(m:Option (Nat×Gr))(t:Option Nat)(aC:List (Nat×Nat)):List (Nat×Nat):=match m with
 |some p=>match t with
  |some af=>(p.1,af)::aC
  |none=>aC
 |none=>aC
def fQ(l:List Oper)(av:Nat->Option (Nat×Gr))(aC:List (Nat×Nat)):Nat->List (Nat×Nat)
 |0=>aC
 |i+1=>uk (av i) ((l[i]?).bind (·.dst)) (fQ l av aC i)
theorem Me(m:Option (Nat×Gr))(av:Nat->Option (Nat×Gr))(au:Nat->Option Gr):∀i,ej (λ j=>if j=0 then m else av (j-1)) au (i+1)=ej av (y5 m au) i
 |0=>by simp[ej]
 |i+1=>by
  rw[ej,Me m av au i,ej];simp
theorem SZ(o:Oper)(l:List Oper)(m:Option (Nat×Gr))(av:Nat->Option (Nat×Gr))(aC:List (Nat×Nat)):∀i,fQ (o::l) (λ j=>if j=0 then m else av (j-1)) aC (i+1)=fQ l av (uk m o.dst aC) i
 |0=>by simp[fQ]
 |i+1=>by
  rw[fQ,SZ o l m av aC i,fQ];simp
def DY(p:Option (Nat×List G))(aH:List Nat):List Nat:=match p with
 |some q=>q.1::aH
 |none=>aH
def fL(bJ:Nat->Bool)(N:Nat->Option (Nat×List G))(aH:List Nat):Nat->List Nat
 |0=>aH
 |i+1=>bif bJ i then DY (N i) (fL bJ N aH i) else fL bJ N aH i
def sS(P:Program)(l0:List Oper)(ix:Nat)(B B0:Nat->Option (List G))(S:Nat->Option G)(Bi:Nat->Option (List G))(Gi:Nat->Option Gr)(aH:List Nat)(aC:List (Nat×Nat))(o:Oper)(d:G)(nb:Option (Nat×List G))(af:Bool)(m:Option (Nat×Gr)):Prop:=
 (gd l0 o S=some true/\(dH P o S B d nb\/(zy l0 o=true/\dH P o S B0 d nb))/\(∀p,nb=some p->Bi p.1=none/\B p.1=none)/\af=false/\m=none)\/(gd l0 o S=some false/\d=.p (.raw undef)/\nb=none/\af=false/\m=none)\/
 (∃nm cs aO,gd l0 o S=some true/\o.dst=none/\B nm=none/\(aH.contains nm=false\/DO l0 o ix=true)/\Bi nm=some cs/\H6 P o S nm cs aO/\d=.any/\nb=some (nm,aO)/\af=true/\m=none)\/
 (∃g au t,gd l0 o S=some true/\o.dst=some t/\ug o=true/\DS o aC g=true/\GStep P o S g (Gi g) au d/\nb=none/\af=false/\m=some (g,au))
theorem SS(af:Bool)(nb:Option (Nat×List G))(bJ:Nat->Bool)(N:Nat->Option (Nat×List G))(aH:List Nat):∀i,fL (λ j=>if j=0 then af else bJ (j-1)) (λ j=>if j=0 then nb else N (j-1)) aH (i+1)=fL bJ N (bif af then DY nb aH else aH) i
 |0=>by simp[fL]
 |i+1=>by
  rw[fL,SS af nb bJ N aH i,fL];simp
theorem Mi(o:Oper)(l:List Oper)(d:G)(am:Nat->G)(S:Nat->Option G):∀i,dY (o::l) (λ j=>if j=0 then d else am (j-1)) S (i+1)=dY l am (λ t=>if o.dst=some t then some d else S t) i
 |0=>by funext t;simp[dY]
 |i+1=>by
  rw[dY,Mi o l d am S i,dY];simp
theorem L9(nb:Option (Nat×List G))(N:Nat->Option (Nat×List G))(B:Nat->Option (List G)):∀i,dC (λ j=>if j=0 then nb else N (j-1)) B (i+1)=dC N (t6 nb B) i
 |0=>by funext t;simp[dC]
 |i+1=>by
  rw[dC,L9 nb N B i,dC];simp
theorem aaj(J:St)(dst:Option Nat)(d:G):kv (J.put dst d).s=λ t=>if dst=some t then some d else kv J.s t:=by
 funext t
 cases dst with
 |none=>simp[St.put]
 |some af=>simp[St.put,cM]
theorem aah(J:St)(nb:Option (Nat×List G)):kv (J.box nb).b=t6 nb (kv J.b):=by
 funext b
 cases nb with
 |none=>rfl
 |some p=>obtain⟨x,y⟩:=p;simp[St.box,cM,t6]
theorem U9(J:St)(nb:Option (Nat×List G)):(J.box nb).s=J.s:=by cases nb<;>rfl
theorem ab7(J:St)(dst:Option Nat)(d:G):(J.put dst d).b=J.b:=by cases dst<;>rfl
theorem ab8(J:St)(dst:Option Nat)(d:G):(J.put dst d).g=J.g:=by cases dst<;>rfl
theorem U8(J:St)(nb:Option (Nat×List G)):(J.box nb).g=J.g:=by cases nb<;>rfl
def St.grow(J:St):Option (Nat×Gr)->St
 |some p=>J.Ep p.1 p.2
 |none=>J
theorem aai(J:St)(m:Option (Nat×Gr)):kv (J.grow m).g=y5 m (kv J.g):=by
 funext h
 cases m with
 |none=>rfl
 |some p=>obtain⟨x,y⟩:=p;simp[St.grow,St.Ep,cM,y5]
theorem WM(J:St)(m:Option (Nat×Gr)):(J.grow m).s=J.s:=by cases m<;>rfl
theorem WL(J:St)(m:Option (Nat×Gr)):(J.grow m).b=J.b:=by cases m<;>rfl
theorem cq.extract{n:Nat}{l0:List Oper}{B B0:List (Nat×List G)}{aL:St->Prop}:∀(l:List Oper)(ix:Nat)(aH:List Nat)(aC:List (Nat×Nat))(J:St),cq P n l0 B B0 aL ix aH aC l J->
 ∃(am:Nat->G)(N:Nat->Option (Nat×List G))(bJ:Nat->Bool)(av:Nat->Option (Nat×Gr))(jL:St),aL jL/\kv jL.g=ej av (kv J.g) l.length/\kv jL.s=dY l am (kv J.s) l.length/\kv jL.b=dC N (kv J.b) l.length/\
  ∀i o,l[i]?=some o->sS P l0 (ix+i) (kv B) (kv B0) (dY l am (kv J.s) i) (dC N (kv J.b) i) (ej av (kv J.g) i) (fL bJ N aH i) (fQ l av aC i) o (am i) (N i) (bJ i) (av i)
 |[],ix,aH,aC,J,h=>⟨λ _=>.any,λ _=>none,λ _=>false,λ _=>none,J,h,rfl,rfl,rfl,λ i o X=>by simp at X⟩
 |o::l,ix,aH,aC,J,h=>by
  have key:∀(d:G)(nb:Option (Nat×List G))(af:Bool)(m:Option (Nat×Gr)),sS P l0 ix (kv B) (kv B0) (kv J.s) (kv J.b) (kv J.g) aH aC o d nb af m->cq P n l0 B B0 aL (ix+1) (bif af then DY nb aH else aH) (uk m o.dst aC) l (((J.box nb).grow m).put o.dst d)->∃(am:Nat->G)(N:Nat->Option (Nat×List G))(bJ:Nat->Bool)(av:Nat->Option (Nat×Gr))(jL:St),aL jL/\kv jL.g=ej av (kv J.g) (o::l).length/\kv jL.s=dY (o::l) am (kv J.s) (o::l).length/\kv jL.b=dC N (kv J.b) (o::l).length/\
   ∀i o',(o::l)[i]?=some o'->sS P l0 (ix+i) (kv B) (kv B0) (dY (o::l) am (kv J.s) i) (dC N (kv J.b) i) (ej av (kv J.g) i) (fL bJ N aH i) (fQ (o::l) av aC i) o' (am i) (N i) (bJ i) (av i):=by
   intro d nb af m R hr;obtain⟨am,N,bJ,av,jL,h1,A,K,h4,h5⟩:=cq.extract l _ _ _ _ hr;have es:kv (((J.box nb).grow m).put o.dst d).s=λ t=>if o.dst=some t then some d else kv J.s t:=by rw[aaj,WM,U9]
   have eb:kv (((J.box nb).grow m).put o.dst d).b=t6 nb (kv J.b):=by rw[ab7,WL,aah]
   have eg:kv (((J.box nb).grow m).put o.dst d).g=y5 m (kv J.g):=by rw[ab8,aai,U8]
   refine⟨λ j=>if j=0 then d else am (j-1),λ j=>if j=0 then nb else N (j-1),λ j=>if j=0 then af else bJ (j-1),λ j=>if j=0 then m else av (j-1),jL,h1,?_,?_,?_,λ i o' X=>?_⟩
   ·rw[List.length_cons,Me,<-eg];exact A
   ·rw[List.length_cons,Mi,<-es];exact K
   ·rw[List.length_cons,L9,<-eb];exact h4
   ·cases i with
    |zero=>simp only[List.getElem?_cons_zero,Option.some.injEq] at X;subst X;exact R
    |succ i=>
     have:=h5 i o' (by simpa using X);rw[show ix+1+i=ix+(i+1) by omega] at this;rw[Mi,L9,Me,SS,SZ,<-es,<-eb,<-eg]
     simpa using this
  rcases h with⟨d,nb,hg,hq,hf,hr⟩|⟨hg,hr⟩|⟨nm,cs,aO,hg,F,T,hD,L,hs,hr⟩|⟨g,au,d,t,hg,F,dT,Z,hs,hr⟩
  ·exact key d nb false none (.inl ⟨hg,hq,hf,rfl,rfl⟩) hr
  ·exact key (.p (.raw undef)) none false none (.inr (.inl ⟨hg,rfl,rfl,rfl,rfl⟩)) (by simpa[St.box,St.grow,uk] using hr)
  ·exact key .any (some (nm,aO)) true none (.inr (.inr (.inl ⟨nm,cs,aO,hg,F,T,hD,L,hs,rfl,rfl,rfl,rfl⟩))) (by rw[F];exact hr)
  ·exact key d none false (some (g,au)) (.inr (.inr (.inr ⟨g,au,t,hg,F,dT,Z,hs,rfl,rfl,rfl⟩))) (by rw[F] at hr⊢;exact hr)
theorem HB{ops:Array Oper}{n:Nat}(aQ:pj ops n){am:Nat->G}{S:Nat->Option G}{j:Nat}{oj:Oper}{t:Tmp}(hj:ops[j]?=some oj)(ht:oj.dst=some t):∀i,j<i->dY ops.toList am S i t=some (am j)
 |0,h=>by omega
 |i+1,h=>by
  by_cases iB:j=i
  ·subst iB;simp[dY,hj,ht]
  ·simp only[dY];rw[if_neg,HB aQ hj ht i (by omega)];intro he;rcases ho:ops[i]? with _|oi
   ·simp[ho] at he
   ·exact aQ.ne j i oj oi t hj ho iB ht (by simpa[ho] using he)
theorem HC{ops:Array Oper}{am:Nat->G}{S:Nat->Option G}{t:Tmp}:∀i,(∀j oj,j<i->ops[j]?=some oj->oj.dst≠some t)->dY ops.toList am S i t=S t
 |0,_=>rfl
 |i+1,h=>by
  simp only[dY];rw[if_neg,HC i λ j oj hj=>h j oj (by omega)];intro he;rcases ho:ops[i]? with _|oi
  ·simp[ho] at he
  ·exact h i oi (by omega) ho (by simpa[ho] using he)
theorem qI{N:Nat->Option (Nat×List G)}{B:Nat->Option (List G)}{b:Nat}:∀i,dC N B i b=none->B b=none/\∀j p,j<i->N j=some p->p.1≠b
 |0,h=>⟨h,λ j p hj=>by omega⟩
 |i+1,h=>by
  simp only[dC,t6] at h;have step:dC N B i b=none/\∀p,N i=some p->p.1≠b:=by
   split at h
   ·rename_i p hp;split at h
    ·cases h
    ·rename_i cE;exact⟨h,λ q hq=>by rw[hp] at hq;cases hq;exact cE⟩
   ·rename_i hp;exact⟨h,λ q hq=>by rw[hp] at hq;cases hq⟩
  obtain⟨h1,A⟩:=qI i step.1;refine⟨h1,λ j p hj hp=>?_⟩
  by_cases e:j=i
  ·subst e;exact step.2 p hp
  ·exact A j p (by omega) hp
theorem Hz{N:Nat->Option (Nat×List G)}{B:Nat->Option (List G)}{b:Nat}{cs:List G}:∀i,dC N B i b=some cs->(B b=some cs/\∀j p,j<i->N j=some p->p.1≠b)\/∃j,j<i/\N j=some (b,cs)/\∀k p,j<k->k<i->N k=some p->p.1≠b
 |0,h=>.inl ⟨h,λ j p hj=>by omega⟩
 |i+1,h=>by
  simp only[dC,t6] at h;have ext:(∀p,N i=some p->p.1≠b)->dC N B i b=some cs->(B b=some cs/\∀j p,j<i+1->N j=some p->p.1≠b)\/∃j,j<i+1/\N j=some (b,cs)/\∀k p,j<k->k<i+1->N k=some p->p.1≠b:=by
   intro hn h;rcases Hz i h with⟨h1,A⟩|⟨j,hj,hq,A⟩
   ·refine .inl ⟨h1,λ j p hj hp=>?_⟩
    by_cases e:j=i
    ·subst e;exact hn p hp
    ·exact A j p (by omega) hp
   ·refine .inr ⟨j,by omega,hq,λ k p I mh hp=>?_⟩
    by_cases e:k=i
    ·subst e;exact hn p hp
    ·exact A k p I (by omega) hp
  split at h
  ·rename_i p hp;split at h
   ·rename_i he;cases h;refine .inr ⟨i,by omega,by rw[hp,<-he],λ k p I mh=>by omega⟩
   ·rename_i cE;exact ext (λ q hq=>by rw[hp] at hq;cases hq;exact cE) h
  ·rename_i hp;exact ext (λ q hq=>by rw[hp] at hq;cases hq) h
theorem Md{bJ:Nat->Bool}{N:Nat->Option (Nat×List G)}{aH:List Nat}:∀{i j:Nat}{p:Nat×List G},j<i->bJ j=true->N j=some p->p.1∈fL bJ N aH i
 |0,j,p,h,_,_=>by omega
 |i+1,j,p,h,hu,hp=>by
  by_cases e:j=i
  ·subst e;simp[fL,hu,hp,DY]
  ·have:=Md (aH:=aH) (i:=i) (j:=j) (p:=p) (by omega) hu hp;rw[fL];cases bJ i
   ·exact this
   ·cases N i with
    |none=>exact this
    |some q=>exact List.mem_cons_of_mem _ this
theorem Ew{av:Nat->Option (Nat×Gr)}{au:Nat->Option Gr}{h:Nat}:∀i,(ej av au i h=au h/\∀j p,j<i->av j=some p->p.1≠h)\/∃j Gj,j<i/\av j=some (h,Gj)/\ej av au i h=some Gj/\∀k p,j<k->k<i->av k=some p->p.1≠h
 |0=>.inl ⟨rfl,λ j p hj=>by omega⟩
 |i+1=>by
  have ext:(∀p,av i=some p->p.1≠h)->ej av au (i+1) h=ej av au i h:=by
   intro hn;simp only[ej,y5];cases hm:av i with
   |none=>rfl
   |some p=>simp only;rw[if_neg (hn p hm)]
  by_cases hn:∀p,av i=some p->p.1≠h
  ·rw[ext hn];rcases Ew (av:=av) (au:=au) (h:=h) i with⟨h1,A⟩|⟨j,Gj,hj,hm,hs,A⟩
   ·refine .inl ⟨h1,λ j p hj hp=>?_⟩
    by_cases e:j=i
    ·subst e;exact hn p hp
    ·exact A j p (by omega) hp
   ·refine .inr ⟨j,Gj,by omega,hm,hs,λ k p I mh hp=>?_⟩
    by_cases e:k=i
    ·subst e;exact hn p hp
    ·exact A k p I (by omega) hp
  ·obtain⟨p,hp,he⟩:∃p,av i=some p/\p.1=h:=by
    refine Classical.byContradiction λ L=>hn λ p hp he=>L ⟨p,hp,he⟩
   refine .inr ⟨i,p.2,by omega,by rw[hp,<-he],by simp[ej,y5,hp,he],λ k p I mh=>by omega⟩
theorem SY{l:List Oper}{av:Nat->Option (Nat×Gr)}{h:Nat}:∀{i j:Nat}{p:Nat×Gr}{t:Nat},j<i->av j=some p->p.1=h->(l[j]?).bind (·.dst)=some t->(∀k q,j<k->k<i->av k=some q->q.1≠h)->kv (fQ l av [] i) h=some t
 |0,j,p,t,hj,_,_,_,_=>by omega
 |i+1,j,p,t,hj,hp,hh,ht,hn=>by
  by_cases e:j=i
  ·subst e;simp[fQ,uk,hp,ht,cM,hh]
  ·have ih:=SY (l:=l) (av:=av) (h:=h) (i:=i) (j:=j) (p:=p) (t:=t) (by omega) hp hh ht (λ k q I mh hq=>hn k q I (by omega) hq);simp only[fQ];cases hm:av i with
   |none=>simpa[uk] using ih
   |some q=>
    have cE:=hn i q (by omega) (by omega) hm;cases F:(l[i]?).bind (·.dst) with
    |none=>simpa[uk] using ih
    |some af=>simp only[uk,cM];rw[if_neg cE];exact ih
structure k8(Γ:bI)(J:St)(ops:Array Oper)(am:Nat->G)(N:Nat->Option (Nat×List G))(bJ:Nat->Bool)(av:Nat->Option (Nat×Gr))(a0:Act)(aG:Array Bool)(e:aA)(a:Act):Prop where
 lG:aG.size=ops.size
 size:a.tmps.size=Γ.n
 df:a.defers=Γ.dl
 closed:∀(i:Nat)(o:Oper),ops[i]?=some o->aG.getD i false=true->∀x∈o.after,Region.binds .any x=true->aG.getD x.on false=true
 uX:∀(i:Nat)(o:Oper)(t:Tmp),ops[i]?=some o->aG.getD i false=true->o.dst=some t->bD e (fZ a t) (am i)
 kept:∀t,(∀(i:Nat)(o:Oper),ops[i]?=some o->aG.getD i false=true->o.dst≠some t)->fZ a t=fZ a0 t
 bP:∀t d,kv J.s t=some d->bD e (fZ a0 t) d
 boxes:∀b cs,kv J.b b=some cs->(∀i p,aG.getD i false=true->N i=some p->p.1≠b)->hc e b cs
 news:∀i p,aG.getD i false=true->N i=some p->(∀k q,i<k->aG.getD k false=true->N k=some q->q.1≠p.1)->hc e p.1 p.2
 ei:∀b,kv J.b b=none->(∀i p,aG.getD i false=true->bJ i=false->N i=some p->p.1≠b)->e.bx b=none
 gs:∀g,(∀i p,aG.getD i false=true->av i=some p->p.1≠g)->e.gi g=kv J.g g
 gw:∀i p,aG.getD i false=true->av i=some p->(∀k q,i<k->aG.getD k false=true->av k=some q->q.1≠p.1)->e.gi p.1=some p.2
 env:hd Γ e
theorem oJ.ends{e Y:aA}{v:Value}{d:G}{nb:Option (Nat×List G)}(h:oJ e Y v d nb)(hf:∀p,nb=some p->e.bx p.1=none):Ends e Y:=by
 cases nb with
 |none=>exact h.1.ends
 |some p=>obtain⟨e1,k,hg,h1,A,K,rfl,h5,h6⟩:=h;exact hg.ends.trans (t7 (by rw[hg.bx];exact hf _ rfl))
theorem oJ.rep{e Y:aA}{v:Value}{d:G}{nb:Option (Nat×List G)}(h:oJ e Y v d nb):bD Y v d:=by
 cases nb with
 |none=>exact h.2
 |some p=>obtain⟨e1,k,hg,h1,A,K,rfl,h5,h6⟩:=h;exact h6
theorem oJ.box{e Y:aA}{v:Value}{d:G}{nb:Option (Nat×List G)}(h:oJ e Y v d nb)(hf:∀p,nb=some p->e.bx p.1=none){b:Nat}{cs:List G}(T:hc e b cs):hc Y b cs:=by
 cases nb with
 |none=>exact h.1.box T
 |some p=>obtain⟨e1,k,hg,h1,A,K,rfl,h5,h6⟩:=h;exact(hg.box T).ends (t7 (by rw[hg.bx];exact hf _ rfl)) rfl
theorem oJ.pr{e Y:aA}{v:Value}{d:G}{nb:Option (Nat×List G)}(h:oJ e Y v d nb)(aQ:hd Γ e)(hf:∀p,nb=some p->e.bx p.1=none):hd Γ Y/\(∀g,Y.gi g=e.gi g)/\(∀b,(∀p,nb=some p->p.1≠b)->Y.bx b=e.bx b):=by
 cases nb with
 |none=>exact⟨h.1.ok aQ,λ g=>by rw[h.1.gi],λ b _=>by rw[h.1.bx]⟩
 |some p=>
  obtain⟨e1,k,hg,h1,A,K,rfl,h5,h6⟩:=h;have uJ:=hg.ok aQ;have gT:e1.gr k=none:=by
   rw[hg.gr];rcases ja:e.gr k with _|g
   ·rfl
   ·obtain⟨_,_,_,ba,_⟩:=aQ.gr k g ja;omega
  have dm:∀c,e1.bx c≠some k:=λ c uw=>by
   rw[hg.bx] at uw;have:=(aQ.bx c k uw).1;omega
  refine⟨⟨uJ.kept,uJ.cl,λ c j hj=>?_,λ c bw j h4 Al=>?_,uJ.gr,λ c j hj=>(t7 (by rw[hg.bx];exact hf p rfl)).bx c j (uJ.kb c j hj)⟩,λ g=>by show e1.gi g=_;rw[hg.gi],λ b T=>?_⟩
  ·have eF:(if c=p.1 then some k else e1.bx c)=some j:=hj;split at eF
   ·cases eF;exact⟨A,.inl (Nat.le_trans aQ.kept.size h1),K,gT⟩
   ·exact uJ.bx c j eF
  ·have aP:(if c=p.1 then some k else e1.bx c)=some j:=h4;have bs:(if bw=p.1 then some k else e1.bx bw)=some j:=Al
   by_cases Fb:c=p.1<;>by_cases e2:bw=p.1
   ·rw[Fb,e2]
   ·rw[if_pos Fb] at aP;rw[if_neg e2] at bs;cases aP;exact absurd bs (dm bw)
   ·rw[if_neg Fb] at aP;rw[if_pos e2] at bs;cases bs;exact absurd aP (dm c)
   ·rw[if_neg Fb] at aP;rw[if_neg e2] at bs;exact uJ.inj c bw j aP bs
  ·show(if b=p.1 then some k else e1.bx b)=_;rw[if_neg (λ Y=>T p rfl Y.symm),hg.bx]
theorem k8.next{J:St}{ops:Array Oper}(aQ:pj ops Γ.n){am:Nat->G}{N:Nat->Option (Nat×List G)}{bJ:Nat->Bool}{av:Nat->Option (Nat×Gr)}{a0:Act}{aG:Array Bool}{e Y:aA}{a:Act}(h:k8 Γ J ops am N bJ av a0 aG e a)
 {i:Nat}{o:Oper}(X:ops[i]?=some o)(hr:i∈Region.ready .any ops aG){v:Value}(hq:oJ e Y v (am i) (N i))(hf:∀p,N i=some p->e.bx p.1=none)(hu:bJ i=false)(hM:av i=none):
 k8 Γ J ops am N bJ av a0 (aG.setIfInBounds i true) Y (a.put o.dst v):=by
 obtain⟨jY,o',gI,cT⟩:=mem_ready.1 hr;rw[X] at gI;cases gI;obtain⟨kz,du⟩:=mL jY;have E:=hq.ends hf;obtain⟨c1,c2,c3⟩:=hq.pr h.env hf;have split:∀j,(aG.setIfInBounds i true).getD j false=true->j=i\/aG.getD j false=true:=λ j hj=>by
  by_cases e:i=j
  ·exact .inl e.symm
  ·rw[getD_set_ne false e] at hj;exact .inr hj
 have sw:(aG.setIfInBounds i true).getD i false=true:=by simp[du]
 refine⟨by simpa using h.lG,by rw[Hw];exact h.size,by rw[E8];exact h.df,λ j oj hj R x O eC=>?_,λ j oj t hj R ht=>?_,λ t ht=>?_,λ t d ht=>(h.bP t d ht).next E,λ b cs T hn=>hq.box hf (h.boxes b cs T λ j p R hp=>hn j p (getD_set_true R) hp),λ j p R hp hn=>?_,λ b T hn=>?_,λ g hn=>by rw[c2];exact h.gs g λ j p R hp=>hn j p (getD_set_true R) hp,λ j p R hp hn=>?_,c1⟩
 ·rcases split j R with rfl|fw
  ·rw[X] at hj;cases hj;exact getD_set_true (cT x O eC)
  ·exact getD_set_true (h.closed j oj hj fw x O eC)
 ·rcases split j R with rfl|fw
  ·rw[X] at hj;cases hj;rw[ht,Eu (by rw[h.size];exact aQ.lt _ _ _ X ht)];exact hq.rep
  ·have cE:j≠i:=λ e=>by subst e;rw[kz] at fw;cases fw
   rw[y2 (λ e=>aQ.ne j i oj o t hj X cE ht e)];exact(h.uX j oj t hj fw ht).next E
 ·rw[y2 (ht i o X sw)];exact h.kept t λ j oj hj R=>ht j oj hj (getD_set_true R)
 ·rcases split j R with rfl|fw
  ·rw[hp] at hq;obtain⟨e1,k,hg,h1,A,K,rfl,h5,h6⟩:=hq;exact h5
  ·exact hq.box hf (h.news j p fw hp λ k q I dJ bm=>hn k q I (getD_set_true dJ) bm)
 ·rw[c3 b (λ p hp=>hn i p sw hu hp)];exact h.ei b T λ j p R yw hp=>hn j p (getD_set_true R) yw hp
 ·rw[c2];rcases split j R with rfl|fw
  ·rw[hM] at hp;cases hp
  ·exact h.gw j p fw hp λ k q I dJ bm=>hn k q I (getD_set_true dJ) bm
theorem k8.aaR{J:St}{ops:Array Oper}{am:Nat->G}{N:Nat->Option (Nat×List G)}{bJ:Nat->Bool}{av:Nat->Option (Nat×Gr)}{a0:Act}{aG:Array Bool}{e Y:aA}{a:Act}(h:k8 Γ J ops am N bJ av a0 aG e a)
 {i:Nat}{o:Oper}(X:ops[i]?=some o)(F:o.dst=none)(hr:i∈Region.ready .any ops aG){nm:Nat}{aO:List G}(hN:N i=some (nm,aO))(hM:av i=none)(yl:∀j p,aG.getD j false=true->i<j->N j=some p->p.1≠nm)(hu:Ia Γ e Y nm aO):
 k8 Γ J ops am N bJ av a0 (aG.setIfInBounds i true) Y a:=by
 obtain⟨jY,o',gI,cT⟩:=mem_ready.1 hr;rw[X] at gI;cases gI;obtain⟨kz,du⟩:=mL jY;have split:∀j,(aG.setIfInBounds i true).getD j false=true->j=i\/aG.getD j false=true:=λ j hj=>by
  by_cases e:i=j
  ·exact .inl e.symm
  ·rw[getD_set_ne false e] at hj;exact .inr hj
 have sw:(aG.setIfInBounds i true).getD i false=true:=by simp[du]
 refine⟨by simpa using h.lG,h.size,h.df,λ j oj hj R x O eC=>?_,λ j oj t hj R ht=>?_,λ t ht=>?_,λ t d ht=>(h.bP t d ht).next hu.ends,λ b cs T hn=>?_,λ j p R hp hn=>?_,λ b T hn=>?_,λ g hn=>by rw[hu.gi];exact h.gs g λ j p R hp=>hn j p (getD_set_true R) hp,λ j p R hp hn=>?_,hu.ok⟩
 ·rcases split j R with rfl|fw
  ·rw[X] at hj;cases hj;exact getD_set_true (cT x O eC)
  ·exact getD_set_true (h.closed j oj hj fw x O eC)
 ·rcases split j R with rfl|fw
  ·rw[X] at hj;cases hj;rw[F] at ht;cases ht
  ·exact(h.uX j oj t hj fw ht).next hu.ends
 ·exact h.kept t λ j oj hj R=>ht j oj hj (getD_set_true R)
 ·exact hu.other b cs (λ Y=>hn i _ sw hN Y.symm) (h.boxes b cs T λ j p R hp=>hn j p (getD_set_true R) hp)
 ·rcases split j R with rfl|fw
  ·rw[hN] at hp;cases hp;exact hu.at_
  ·have iB:j≠i:=λ e=>by subst e;rw[kz] at fw;cases fw
   have cE:p.1≠nm:=by
    rcases Nat.lt_or_ge j i with h1|h1
    ·exact λ Y=>hn i _ h1 sw hN Y.symm
    ·exact yl j p fw (by omega) hp
   exact hu.other p.1 p.2 cE (h.news j p fw hp λ k q I dJ bm=>hn k q I (getD_set_true dJ) bm)
 ·rw[hu.bx];exact h.ei b T λ j p R yw hp=>hn j p (getD_set_true R) yw hp
 ·rw[hu.gi];rcases split j R with rfl|fw
  ·rw[hM] at hp;cases hp
  ·exact h.gw j p fw hp λ k q I dJ bm=>hn k q I (getD_set_true dJ) bm
theorem k8.aaQ{J:St}{ops:Array Oper}(aQ:pj ops Γ.n){am:Nat->G}{N:Nat->Option (Nat×List G)}{bJ:Nat->Bool}{av:Nat->Option (Nat×Gr)}{a0:Act}{aG:Array Bool}{e Y:aA}{a:Act}(h:k8 Γ J ops am N bJ av a0 aG e a)
 {i:Nat}{o:Oper}(X:ops[i]?=some o)(hr:i∈Region.ready .any ops aG){g:Nat}{au:Gr}(hN:N i=none)(hM:av i=some (g,au))(yl:∀j p,aG.getD j false=true->i<j->av j=some p->p.1≠g){v:Value}(hu:HU Γ e Y g au v (am i)):
 k8 Γ J ops am N bJ av a0 (aG.setIfInBounds i true) Y (a.put o.dst v):=by
 obtain⟨jY,o',gI,cT⟩:=mem_ready.1 hr;rw[X] at gI;cases gI;obtain⟨kz,du⟩:=mL jY;have split:∀j,(aG.setIfInBounds i true).getD j false=true->j=i\/aG.getD j false=true:=λ j hj=>by
  by_cases e:i=j
  ·exact .inl e.symm
  ·rw[getD_set_ne false e] at hj;exact .inr hj
 have sw:(aG.setIfInBounds i true).getD i false=true:=by simp[du]
 refine⟨by simpa using h.lG,by rw[Hw];exact h.size,by rw[E8];exact h.df,λ j oj hj R x O eC=>?_,λ j oj t hj R ht=>?_,λ t ht=>?_,λ t d ht=>(h.bP t d ht).next hu.ends,λ b cs T hn=>hu.other b cs (h.boxes b cs T λ j p R hp=>hn j p (getD_set_true R) hp),λ j p R hp hn=>?_,λ b T hn=>?_,λ bL hn=>?_,λ j p R hp hn=>?_,hu.ok⟩
 ·rcases split j R with rfl|fw
  ·rw[X] at hj;cases hj;exact getD_set_true (cT x O eC)
  ·exact getD_set_true (h.closed j oj hj fw x O eC)
 ·rcases split j R with rfl|fw
  ·rw[X] at hj;cases hj;rw[ht,Eu (by rw[h.size];exact aQ.lt _ _ _ X ht)];exact hu.rep
  ·have cE:j≠i:=λ e=>by subst e;rw[kz] at fw;cases fw
   rw[y2 (λ e=>aQ.ne j i oj o t hj X cE ht e)];exact(h.uX j oj t hj fw ht).next hu.ends
 ·rw[y2 (ht i o X sw)];exact h.kept t λ j oj hj R=>ht j oj hj (getD_set_true R)
 ·rcases split j R with rfl|fw
  ·rw[hN] at hp;cases hp
  ·exact hu.other p.1 p.2 (h.news j p fw hp λ k q I dJ bm=>hn k q I (getD_set_true dJ) bm)
 ·rw[hu.bx];exact h.ei b T λ j p R yw hp=>hn j p (getD_set_true R) yw hp
 ·rw[hu.gi,if_neg (λ Y=>hn i _ sw hM Y.symm)];exact h.gs bL λ j p R hp=>hn j p (getD_set_true R) hp
 ·rcases split j R with rfl|fw
  ·rw[hM] at hp;cases hp;rw[hu.gi];simp
  ·have iB:j≠i:=λ e=>by subst e;rw[kz] at fw;cases fw
   have cE:p.1≠g:=by
    rcases Nat.lt_or_ge j i with h1|h1
    ·exact λ Y=>hn i _ h1 sw hM Y.symm
    ·exact yl j p fw (by omega) hp
   rw[hu.gi,if_neg cE];exact h.gw j p fw hp λ k q I dJ bm=>hn k q I (getD_set_true dJ) bm
theorem k8.iI{J:St}{ops:Array Oper}(aQ:pj ops Γ.n){am:Nat->G}{N:Nat->Option (Nat×List G)}{bJ:Nat->Bool}{av:Nat->Option (Nat×Gr)}{a0:Act}{aG:Array Bool}{e:aA}{a:Act}(h:k8 Γ J ops am N bJ av a0 aG e a)
 {i:Nat}{o:Oper}(X:ops[i]?=some o)(hr:i∈Region.ready .any ops aG):∀t∈o.looksAt ops,∀d,dY ops.toList am (kv J.s) i t=some d->bD e (fZ a t) d:=by
 obtain⟨jY,o',gI,cT⟩:=mem_ready.1 hr;rw[X] at gI;cases gI;obtain⟨kz,du⟩:=mL jY;intro t ht d F
 by_cases oT:∃(j:Nat)(oj:Oper),j<i/\ops[j]?=some oj/\oj.dst=some t
 ·obtain⟨j,oj,iB,hj,mO⟩:=oT;rw[HB aQ hj mO i iB] at F;cases F;rcases aQ.dep i j o oj t X hj (by omega) mO ht with⟨_,x,O,T,mm⟩|⟨bL,_⟩
  ·exact h.uX j oj t hj (mm▸cT x O T) mO
  ·omega
 ·rw[HC _ λ j oj iB hj mO=>oT ⟨j,oj,iB,hj,mO⟩] at F;rw[h.kept t λ j oj hj R mO=>?_]
  ·exact h.bP t d F
  ·have iB:j≠i:=λ e=>by subst e;rw[kz] at R;cases R
   rcases aQ.dep i j o oj t X hj (Ne.symm iB) mO ht with⟨bL,_⟩|⟨_,x,O,T,mm⟩
   ·exact oT ⟨j,oj,bL,hj,mO⟩
   ·have:=h.closed j oj hj R x O T;rw[mm,kz] at this;cases this
def jD(ops:Array Oper):Nat->Nat->Nat->Bool
 |0,_,_=>false
 |f+1,t,i=>match ops[t]? with
  |some o=>o.after.any λ e=>Region.binds .any e&&(e.on==i||jD ops f e.on i)
  |none=>false
def tZ(ops:Array Oper)(n:Nat):Bool:=
 (List.range ops.size).all λ t=>decide (t<n)||(List.range t).all λ i=>match ops[t]? with
  |some o=>(o.after.any λ e=>Region.binds .any e&&e.on==i)||(decide (i<n)&&jD ops ops.size t i)
  |none=>true
theorem Mq{ops:Array Oper}{n:Nat}(h:tZ ops n=true){t i:Nat}{o:Oper}(ht:ops[t]?=some o)(hn:n<=t)(X:i<t):(∃e∈o.after,Region.binds .any e=true/\e.on=i)\/(i<n/\jD ops ops.size t i=true):=by
 have gz:t<ops.size:=(Array.getElem?_eq_some_iff.1 ht).1;have h1:=List.all_eq_true.1 h t (List.mem_range.2 gz);simp only[Bool.or_eq_true,decide_eq_true_eq] at h1;have A:=h1.resolve_left (by omega);have K:=List.all_eq_true.1 A i (List.mem_range.2 X);rw[ht] at K;simp only[Bool.or_eq_true,Bool.and_eq_true,decide_eq_true_eq] at K;rcases K with K|K
 ·obtain⟨e,he,T⟩:=Array.any_eq_true'.1 K;simp only[Bool.and_eq_true,beq_iff_eq] at T;exact .inl ⟨e,he,T⟩
 ·exact .inr K
theorem yU{ops:Array Oper}{aG:Array Bool}(L:∀(i:Nat)(o:Oper),ops[i]?=some o->aG.getD i false=true->∀x∈o.after,Region.binds .any x=true->aG.getD x.on false=true):∀(f t i:Nat)(o:Oper),ops[t]?=some o->(∀x∈o.after,Region.binds .any x=true->aG.getD x.on false=true)->jD ops f t i=true->aG.getD i false=true
 |0,_,_,_,_,_,h=>by cases h
 |f+1,t,i,o,ho,mN,h=>by
  simp only[jD,ho] at h;obtain⟨e,he,T⟩:=Array.any_eq_true'.1 h;simp only[Bool.and_eq_true,Bool.or_eq_true,beq_iff_eq] at T;have h1:=mN e he T.1;rcases T.2 with A|A
  ·rw[<-A];exact h1
  ·cases ww:ops[e.on]? with
   |none=>cases f<;>simp[jD,ww] at A
   |some o2=>exact yU L f e.on i o2 ww (L e.on o2 ww h1) A
theorem HK{P:Program}{ops:Array Oper}{m n:Nat}(aQ:pj ops m)(hB:tZ ops n=true){Q:Exit->Act->World->Prop}:∀(fuel k:Nat)(aG:Array Bool)(a:Act)(w:World),fuel+k=ops.size->n<=k->aG.size=ops.size->
 (∀i,i<k->aG.getD i false=true)->(∀i,k<=i->i<ops.size->aG.getD i true=false)->wpList P ops Q (ops.toList.drop k) a w->wpAny P .any ops Q fuel aG a w
 |0,k,aG,a,w,hf,hn,hs,ba,fB,h=>by
  have hr:Region.ready .any ops aG=[]:=by
   rcases hr:Region.ready .any ops aG with _|⟨i,_⟩
   ·rfl
   ·have hm:i∈Region.ready .any ops aG:=by rw[hr];simp
    obtain⟨jY,o,ho,_⟩:=mem_ready.1 hm;have X:i<ops.size:=(Array.getElem?_eq_some_iff.1 ho).1;have:=ba i (by omega);rw[(mL jY).1] at this;cases this
  refine⟨hr,?_⟩;rw[List.drop_eq_nil_of_le (by simp;omega)] at h;exact h
 |fuel+1,k,aG,a,w,hf,hn,hs,ba,fB,h=>by
  have mj:k<ops.size:=by omega
  have uF:ops[k]?=some ops[k]:=by simp[mj]
  have x6:k∈Region.ready .any ops aG:=mem_ready.2 ⟨fB k (Nat.le_refl _) mj,ops[k],uF,λ e he T=>ba _ (aQ.back k ops[k] uF e he T)⟩;refine⟨(λ h0=>by rw[h0] at x6;cases x6),λ i X=>?_⟩;obtain⟨jY,o,ho,cT⟩:=mem_ready.1 X;have du:i<ops.size:=(Array.getElem?_eq_some_iff.1 ho).1;have JU:i=k:=by
   rcases Nat.lt_trichotomy i k with h1|h1|h1
   ·have:=ba i h1;rw[(mL jY).1] at this;cases this
   ·exact h1
   ·rcases Mq hB ho (by omega) h1 with⟨e,he,T,mm⟩|⟨A,_⟩
    ·have A:=cT e he T;rw[mm] at A;have K:=fB k (Nat.le_refl _) mj;rw[(mL K).1] at A;cases A
    ·omega
  subst JU;rw[uF] at ho;cases ho;rw[List.drop_eq_getElem_cons (by simpa using mj)] at h;have bL:wpList P ops Q (ops[i]::ops.toList.drop (i+1)) a w:=by simpa using h
  refine wpOp_mono (λ br aI hh=>?_) (TB uF bL);refine HK aQ hB fuel (i+1) _ br aI (by omega) (by omega) (by simpa using hs) (λ j hj=>?_) (λ j hj qw=>?_) hh
  ·by_cases e:i=j
   ·subst e;simp[hs,mj]
   ·rw[getD_set_ne false e];exact ba j (by omega)
  ·rw[getD_set_ne true (by omega)];exact fB j (by omega) qw
def Cg(ops:Array Oper)(n:Nat):Bool:=
 (List.range ops.size).all λ t=>decide (t<n)||(List.range n).all λ i=>match ops[t]? with
  |some o=>(o.after.any λ e=>Region.binds .any e&&e.on==i)||jD ops ops.size t i
  |none=>true
theorem U5{ops:Array Oper}{n:Nat}(h:Cg ops n=true){t i:Nat}{o:Oper}(ht:ops[t]?=some o)(hn:n<=t)(X:i<n):(∃e∈o.after,Region.binds .any e=true/\e.on=i)\/jD ops ops.size t i=true:=by
 have gz:t<ops.size:=(Array.getElem?_eq_some_iff.1 ht).1;have h1:=List.all_eq_true.1 h t (List.mem_range.2 gz);simp only[Bool.or_eq_true,decide_eq_true_eq] at h1;have A:=h1.resolve_left (by omega);have K:=List.all_eq_true.1 A i (List.mem_range.2 X);rw[ht] at K;simp only[Bool.or_eq_true] at K;rcases K with K|K
 ·obtain⟨e,he,T⟩:=Array.any_eq_true'.1 K;simp only[Bool.and_eq_true,beq_iff_eq] at T;exact .inl ⟨e,he,T⟩
 ·exact .inr K
theorem Iv{ops:Array Oper}{n:Nat}(h:tZ ops n=true):Cg ops n=true:=by
 refine List.all_eq_true.2 λ t ht=>?_
 by_cases hn:t<n
 ·simp[hn]
 ·simp only[Bool.or_eq_true,decide_eq_true_eq];refine .inr (List.all_eq_true.2 λ i X=>?_);cases ho:ops[t]? with
  |none=>rfl
  |some o=>
   have dz:i<n:=List.mem_range.1 X;simp only[Bool.or_eq_true];rcases Mq h ho (by omega) (show i<t by omega) with⟨e,he,h1,A⟩|⟨_,h1⟩
   ·refine .inl (Array.any_eq_true'.2 ⟨e,he,?_⟩);simp[h1,A]
   ·exact .inr h1
theorem k8.pr{J:St}{ops:Array Oper}{H:Nat}(aQ:pj ops Γ.n){am:Nat->G}{N:Nat->Option (Nat×List G)}{bJ:Nat->Bool}{av:Nat->Option (Nat×Gr)}{a0:Act}{jL:St}(uN:kv jL.s=dY ops.toList am (kv J.s) H)(CT:kv jL.b=dC N (kv J.b) H)(fB:kv jL.g=ej av (kv J.g) H)
 {aG:Array Bool}{a:Act}{e:aA}(ct:k8 Γ J ops am N bJ av a0 aG e a)(cT:∀i,i<H->aG.getD i false=true)(gz:∀t,H<=t->t<ops.size->aG.getD t true=false):bu Γ jL e a:=by
 have nF:∀j,aG.getD j false=true->j<H:=λ j hj=>by
  rcases Nat.lt_or_ge j H with bL|bL
  ·exact bL
  ·rcases Nat.lt_or_ge j ops.size with A|A
   ·have:=gz j bL A;rw[(mL this).1] at hj;cases hj
   ·have K:aG[j]?=none:=Array.getElem?_eq_none (by rw[ct.lG];exact A);simp[K] at hj
 refine⟨ct.size,ct.df,λ t d ht=>?_,λ b cs T=>?_,λ b T=>?_,λ g=>?_,ct.env⟩
 ·rw[uN] at ht
  by_cases oT:∃(j:Nat)(oj:Oper),j<H/\ops[j]?=some oj/\oj.dst=some t
  ·obtain⟨j,oj,nY,hj,F⟩:=oT;rw[HB aQ hj F _ nY] at ht;cases ht;exact ct.uX j oj t hj (cT j nY) F
  ·rw[HC _ λ j oj nY hj F=>oT ⟨j,oj,nY,hj,F⟩] at ht;rw[ct.kept t λ j oj hj R F=>oT ⟨j,oj,nF j R,hj,F⟩];exact ct.bP t d ht
 ·rw[CT] at T;rcases Hz H T with⟨h1,A⟩|⟨j,hj,hp,A⟩
  ·exact ct.boxes b cs h1 λ j p R hp=>A j p (nF j R) hp
  ·exact ct.news j _ (cT j hj) hp λ k q I R hq=>A k q I (nF k R) hq
 ·rw[CT] at T;obtain⟨h1,A⟩:=qI H T;exact ct.ei b h1 λ j p R _ hp=>A j p (nF j R) hp
 ·rw[fB];rcases Ew (av:=av) (au:=kv J.g) (h:=g) H with⟨h1,A⟩|⟨j,Gj,hj,hm,hs,A⟩
  ·rw[h1];exact ct.gs g λ j p R hp=>A j p (nF j R) hp
  ·rw[hs];exact ct.gw j _ (cT j hj) hm λ k q I R hq=>A k q I (nF k R) hq
theorem k8.wanted{J:St}{ops:Array Oper}(aQ:pj ops Γ.n){am:Nat->G}{N:Nat->Option (Nat×List G)}{bJ:Nat->Bool}{av:Nat->Option (Nat×Gr)}{a0:Act}{aG:Array Bool}{e:aA}{a:Act}(ct:k8 Γ J ops am N bJ av a0 aG e a)
 {i:Nat}{o:Oper}(X:ops[i]?=some o)(hr:i∈Region.ready .any ops aG){c:Bool}(L:gd ops.toList o (dY ops.toList am (kv J.s) i)=some c):Region.wanted o (yielded ops a.tmps)=c:=by
 have jn:=ct.iI aQ X hr;unfold gd at L;unfold Region.wanted;split at L
 ·rename_i hg;rw[hg];cases L;rfl
 ·rename_i j want hg;rw[hg];split at L
  ·rename_i t ht;split at L
   ·rename_i b T;cases L;have h1:(ops[j]?).bind (·.dst)=some t:=by simpa using ht
    have hv:=cR (jn t (Ox (by simp[Jb,hg,h1])) _ T);have:yielded ops a.tmps j=some b:=by rw[HN,h1];unfold fZ at hv;simp only[Option.bind_some,hv,zm]
    simp only[this];cases b<;>cases want<;>rfl
   ·rename_i b T;cases L;have h1:(ops[j]?).bind (·.dst)=some t:=by simpa using ht
    have hv:=cR (jn t (Ox (by simp[Jb,hg,h1])) _ T);have:yielded ops a.tmps j=none:=by rw[HN,h1];unfold fZ at hv;simp only[Option.bind_some,hv,zm]
    simp only[this];cases want<;>rfl
   ·cases L
  ·cases L
theorem BI{J:St}{ops:Array Oper}{H:Nat}(dn sp ok:Nat->Bool)(aQ:pj ops Γ.n)(hT:Cg ops H=true)(hH:H<=ops.size){am:Nat->G}{N:Nat->Option (Nat×List G)}{bJ:Nat->Bool}{av:Nat->Option (Nat×Gr)}{B:List (Nat×List G)}{a0:Act}{Q:Exit->Act->World->Prop}(lR:∀i,H<=i->N i=none)(ml:∀i,H<=i->av i=none)(oO:∀i,dn i=true\/sp i=true->N i=none)(ut:∀i,dn i=true\/sp i=true->av i=none)(Qi:∀i o,ops[i]?=some o->ok i=true\/sp i=true\/∃s,sp s=true/\jD ops ops.size i s=true)(Ki:(∀i,ok i=true->bJ i=false/\av i=none)\/∀i,ok i=true)(i6:∀b cs,kv B b=some cs->kv J.b b=some cs)
 (tG:∀i o,i<H->ops[i]?=some o->dn i=false->sp i=false->ok i=true->sS P ops.toList i (kv B) (kv J.b) (dY ops.toList am (kv J.s) i) (dC N (kv J.b) i) (ej av (kv J.g) i) (fL bJ N [] i) (fQ ops.toList av [] i) o (am i) (N i) (bJ i) (av i))
 (kR:∀(aG:Array Bool)(a:Act)(e:aA),k8 Γ J ops am N bJ av a0 aG e a->(∀i,i<H->aG.getD i false=true)->(∀t,H<=t->t<ops.size->aG.getD t true=false)->(∀s,sp s=true->aG.getD s false=false)->wpAny P .any ops Q (ops.size-H) aG a e.w)
 (o4:∀(fuel:Nat)(aG:Array Bool)(a:Act)(e:aA)(i:Nat),sp i=true->fuel+1=mA aG->i∈Region.ready .any ops aG->k8 Γ J ops am N bJ av a0 aG e a->(∀t,H<=t->t<ops.size->aG.getD t true=false)->(∀i,dn i=true->aG.getD i false=true)->wpOp P ops Q i (wpAny P .any ops Q fuel (aG.setIfInBounds i true)) a e.w):
 ∀(fuel:Nat)(aG:Array Bool)(a:Act)(e:aA),fuel=mA aG->k8 Γ J ops am N bJ av a0 aG e a->(∀t,H<=t->t<ops.size->aG.getD t true=false)->(∀i,dn i=true->aG.getD i false=true)->(∀i,sp i=true->aG.getD i false=false)->wpAny P .any ops Q fuel aG a e.w:=by
 have fin:∀(fuel:Nat)(aG:Array Bool)(a:Act)(e:aA),fuel=mA aG->k8 Γ J ops am N bJ av a0 aG e a->(∀t,H<=t->t<ops.size->aG.getD t true=false)->(∀s,sp s=true->aG.getD s false=false)->(∀i,i<H->aG.getD i false=true)->wpAny P .any ops Q fuel aG a e.w:=by
  intro fuel aG a e sg ct gz oY cT;have O7:mA aG=ops.size-H:=by
   have:=HI aG.toList H (by simpa[ct.lG] using hH) (λ i X=>by
    have h1:=cT i X;have du:i<aG.size:=by rw[ct.lG];omega
    simp[du] at h1⊢;exact h1) (λ i X R=>by
    have du:i<aG.size:=by simpa using R
    have h1:=gz i X (by rw[<-ct.lG];exact du);simp[du] at h1⊢;exact h1)
   simpa[mA,ct.lG] using this
  obtain rfl:fuel=ops.size-H:=by omega
  exact kR aG a e ct cT gz oY
 intro fuel;induction fuel with
 |zero=>
  intro aG a e sg ct gz x7 oY;refine fin 0 aG a e sg ct gz oY λ i X=>?_
  have h1:=Ut sg.symm (i:=i);have du:i<aG.size:=by rw[ct.lG];omega
  simp[du] at h1⊢;exact h1
 |succ fuel ih=>
  intro aG a e sg ct gz x7 oY
  by_cases cT:∀i,i<H->aG.getD i false=true
  ·exact fin _ aG a e sg ct gz oY cT
  ·have oT:∃i,i<H/\aG.getD i false=false:=by
    refine Classical.byContradiction λ cE=>cT λ i X=>?_
    rcases R:aG.getD i false with _|_
    ·exact absurd ⟨i,X,R⟩ cE
    ·rfl
   obtain⟨m,YB,J5⟩:=oT;refine⟨λ hr=>?_,λ i X=>?_⟩
   ·have:=Wb aQ ct.lG hr m (by omega);rw[J5] at this;cases this
   ·by_cases AL:sp i=true
    ·exact o4 fuel aG a e i AL sg.symm.symm X ct gz x7
    have AL:sp i=false:=by simpa using AL
    obtain⟨jY,o,ho,mN⟩:=mem_ready.1 X;obtain⟨kz,du⟩:=mL jY;have afn:i<ops.size:=(Array.getElem?_eq_some_iff.1 ho).1;have Ye:i<H:=by
     rcases Nat.lt_or_ge i H with bL|bL
     ·exact bL
     ·rcases U5 hT ho bL YB with⟨x,O,T,mm⟩|sq
      ·have:=mN x O T;rw[mm,J5] at this;cases this
      ·have:=yU ct.closed _ _ _ o ho mN sq;rw[J5] at this;cases this
    have Ga:ok i=true:=by
     rcases Qi i o ho with h|h|⟨s,h1,A⟩
     ·exact h
     ·rw[AL] at h;cases h
     ·have:=yU ct.closed _ _ _ o ho mN A;rw[oY s h1] at this;cases this
    have Gb:∀j,aG.getD j false=true->j<ops.size->sp j=false/\ok j=true:=λ j R qw=>by
     have Qm:sp j=false:=by
      rcases h:sp j with _|_
      ·rfl
      ·rw[oY j h] at R;cases R
     refine⟨Qm,?_⟩;rcases Qi j ops[j] (by simp[qw]) with h|h|⟨s,h1,A⟩
     ·exact h
     ·rw[Qm] at h;cases h
     ·have:=yU ct.closed _ _ _ ops[j] (by simp[qw]) (λ x O T=>ct.closed j ops[j] (by simp[qw]) R x O T) A;rw[oY s h1] at this;cases this
    have jn:=ct.iI aQ ho X;have AA:fuel=mA (aG.setIfInBounds i true):=by have:=Mw jY;omega
    have FV:∀k,dn k=true->(aG.setIfInBounds i true).getD k false=true:=λ k I=>getD_set_true (x7 k I)
    have Gf:∀k,sp k=true->(aG.setIfInBounds i true).getD k false=false:=λ k I=>by
     rw[getD_set_ne false (λ e=>by subst e;rw[AL] at I;cases I)];exact oY k I
    have Gk:∀t,H<=t->t<ops.size->(aG.setIfInBounds i true).getD t true=false:=λ t h1 A=>by rw[getD_set_ne true (by omega)];exact gz t h1 A
    have pC:∀c,gd ops.toList o (dY ops.toList am (kv J.s) i)=some c->Region.wanted o (yielded ops a.tmps)=c:=λ c L=>ct.wanted aQ ho X L
    unfold wpOp;simp only[ho];have Zo:∀b cs,kv B b=some cs->hc e b cs:=λ b cs T=>ct.boxes b cs (i6 b cs T) λ j p R hp Y=>by
     have C9:j<ops.size:=by
      rcases Nat.lt_or_ge j ops.size with bL|bL
      ·exact bL
      ·have K:aG[j]?=none:=Array.getElem?_eq_none (by rw[ct.lG];exact bL);simp[K] at R
     have nY:j<H:=by
      rcases Nat.lt_or_ge j H with bL|bL
      ·exact bL
      ·rw[lR j bL] at hp;cases hp
     rcases tG j _ nY (show ops[j]?=some ops[j] by simp[C9]) (Bool.eq_false_iff.2 λ h=>by rw[oO j (.inl h)] at hp;cases hp) (Bool.eq_false_iff.2 λ h=>by rw[oO j (.inr h)] at hp;cases hp) (Gb j R C9).2 with⟨_,_,hf,_⟩|⟨_,_,iu,_⟩|⟨nm,_,_,_,_,i7,_,_,_,_,fK,_⟩|⟨_,_,_,_,_,_,_,_,iu,_⟩
     ·have h5:=(hf p hp).2;rw[Y,T] at h5;cases h5
     ·rw[iu] at hp;cases hp
     ·rw[fK] at hp;cases hp;simp only at Y;rw[Y,T] at i7;cases i7
     ·rw[iu] at hp;cases hp
    have Zp:zy ops.toList o=true->∀b cs,kv J.b b=some cs->hc e b cs:=λ Ay b cs T=>ct.boxes b cs T λ j p R hp Y=>by
     have C9:j<ops.size:=by
      rcases Nat.lt_or_ge j ops.size with bL|bL
      ·exact bL
      ·have K:aG[j]?=none:=Array.getElem?_eq_none (by rw[ct.lG];exact bL);simp[K] at R
     have nY:j<H:=by
      rcases Nat.lt_or_ge j H with bL|bL
      ·exact bL
      ·rw[lR j bL] at hp;cases hp
     have iP:ops[j]?=some ops[j]:=by simp[C9]
     rcases tG j _ nY iP (Bool.eq_false_iff.2 λ h=>by rw[oO j (.inl h)] at hp;cases hp) (Bool.eq_false_iff.2 λ h=>by rw[oO j (.inr h)] at hp;cases hp) (Gb j R C9).2 with⟨_,_,hf,_⟩|⟨_,_,iu,_⟩|⟨nm,_,_,_,q7,_⟩|⟨_,_,_,_,_,_,_,_,iu,_⟩
     ·have h5:=(qI j (hf p hp).1).1;rw[Y,T] at h5;cases h5
     ·rw[iu] at hp;cases hp
     ·unfold zy at Ay;split at Ay
      ·cases Ay
      ·rename_i t ht;have h1:=List.all_eq_true.1 Ay ops[j] (by simp);rw[q7] at h1;simp only at h1;obtain⟨x,O,eC⟩:=Array.any_eq_true'.1 h1;simp only[Bool.and_eq_true] at eC;have Qr:=ct.closed j _ iP R x O eC.1;have A:=eC.2;split at A
       ·rename_i af hu;have Zm:=Nat.eq_of_beq_eq_true A;subst Zm;cases Ke:ops.toList[x.on]? with
        |none=>rw[Ke] at hu;cases hu
        |some abs=>
         rw[Ke] at hu;have Zy:x.on=i:=by
          by_cases he:x.on=i
          ·exact he
          ·exact absurd ht (aQ.ne x.on i abs o af (by simpa using Ke) ho he hu)
         rw[Zy,kz] at Qr;cases Qr
       ·cases A
     ·rw[iu] at hp;cases hp
    have AH:∀x∈o.op.operands,∀d,ev (dY ops.toList am (kv J.s) i) x=some d->bD e (a.eval x) d:=λ x O d F=>by
     cases x with
     |tmp t=>exact jn t (List.mem_append_left _ (List.mem_filterMap.2 ⟨.tmp t,by simpa using O,rfl⟩)) d F
     |const v=>simp only[ev,xA,Option.some.injEq] at F;subst F;exact xz e v
     |global g=>cases F
     |func f=>simp only[ev,Option.some.injEq] at F;subst F;exact .fn (us:=[]) (vs:=[]) rfl rfl (λ i v d h=>by simp at h) (λ i v d h=>by simp at h)
    rcases tG i o Ye ho (Bool.eq_false_iff.2 λ h=>by rw[x7 i h] at kz;cases kz) AL Ga with⟨hg,ee,se,Gl,qm⟩|⟨hg,F,hn,Gl,qm⟩|⟨nm,cs,aO,hg,mO,i7,hD,WZ,uO,_,fK,hU,qm⟩|⟨g,au,t,hg,mO,_,aft,tC,Xc,Gl,qm⟩
    ·rw[if_pos (pC _ hg)];have dm:∀p,N i=some p->e.bx p.1=none:=λ p hp=>by
      obtain⟨h1,A⟩:=qI i (se p hp).1;refine ct.ei p.1 h1 λ j q R hu jW=>?_
      rcases Nat.lt_trichotomy j i with K|K|K
      ·exact A j q K jW
      ·subst K;rw[kz] at R;cases R
      ·have nY:j<H:=by
        rcases Nat.lt_or_ge j H with bL|bL
        ·exact bL
        ·rw[lR j bL] at jW;cases jW
       have iP:ops[j]?=some ops[j]:=by simp[show j<ops.size by omega]
       rcases tG j _ nY iP (Bool.eq_false_iff.2 λ h=>by rw[oO j (.inl h)] at jW;cases jW) (Bool.eq_false_iff.2 λ h=>by rw[oO j (.inr h)] at jW;cases jW) (Gb j R (by omega)).2 with⟨_,_,C3,_⟩|⟨_,_,sj,_⟩|⟨_,_,_,_,_,_,_,_,_,_,_,hU,_⟩|⟨_,_,_,_,_,_,_,_,sj,_⟩
       ·exact λ Y=>(qI j (C3 q jW).1).2 i p K hp Y.symm
       ·rw[sj] at jW;cases jW
       ·rw[hu] at hU;cases hU
       ·rw[sj] at jW;cases jW
     have cJ:o.wp P a e.w (λ br aI=>∃v Y,br=a.put o.dst v/\Y.w=aI/\oJ e Y v (am i) (N i)) (λ _ _ _=>False):=by
      rcases ee with ee|⟨Ay,ee⟩
      ·exact ee a e ⟨AH,Zo⟩ dm
      ·exact ee a e ⟨AH,Zp Ay⟩ dm
     refine .inl (xk cJ λ br aI hh=>?_);obtain⟨v,Y,rfl,rfl,jW⟩:=hh;exact ih _ _ Y AA (ct.next aQ ho X jW dm Gl qm) Gk FV Gf
    ·rw[if_neg (by rw[pC _ hg];simp)];exact ih _ _ e AA (ct.next aQ ho X (v:=undef) (by rw[hn,F];exact⟨kg.refl e,.p (.raw undef)⟩) (λ p hp=>by rw[hn] at hp;cases hp) Gl qm) Gk FV Gf
    ·rw[if_pos (pC _ hg)];have AM:∀j p,aG.getD j false=true->i<j->N j=some p->p.1≠nm:=λ j p mg jT hp Y=>by
      have nY:j<H:=by
       rcases Nat.lt_or_ge j H with bL|bL
       ·exact bL
       ·rw[lR j bL] at hp;cases hp
      have iP:ops[j]?=some ops[j]:=by simp[show j<ops.size by omega]
      rcases tG j _ nY iP (Bool.eq_false_iff.2 λ h=>by rw[oO j (.inl h)] at hp;cases hp) (Bool.eq_false_iff.2 λ h=>by rw[oO j (.inr h)] at hp;cases hp) (Gb j mg (by omega)).2 with⟨_,_,C3,_⟩|⟨_,_,sj,_⟩|⟨aaX,_,_,_,_,_,Aq,_,_,_,Dm,_⟩|⟨_,_,_,_,_,_,_,_,sj,_⟩
      ·exact(qI j (C3 p hp).1).2 i _ jT fK Y.symm
      ·rw[sj] at hp;cases hp
      ·rw[Dm] at hp;cases hp;simp only at Y;have:=Md (aH:=[]) jT hU fK;simp only at this;rw[<-Y] at this;rcases Aq with Aq|Aq
       ·simp at Aq;exact absurd this Aq
       ·obtain⟨x,O,T,mm⟩:=QV Aq jT (by simpa using ho) mO;have:=ct.closed j _ iP mg x O T;rw[mm,kz] at this;cases this
      ·rw[sj] at hp;cases hp
     have Xx:e.bx nm≠none->hc e nm cs:=λ cE=>by
      have gV:∀j p,aG.getD j false=true->¬j<i->N j=some p->p.1≠nm:=λ j p R iB hp=>by
       rcases Nat.lt_trichotomy j i with K|K|K
       ·exact absurd K iB
       ·subst K;rw[kz] at R;cases R
       ·exact AM j p R K hp
      rcases Hz i WZ with⟨h1,A⟩|⟨j,iB,hj,A⟩
      ·exact ct.boxes nm cs h1 λ j p R hp=>by
        by_cases iB:j<i
        ·exact A j p iB hp
        ·exact gV j p R iB hp
      ·have nY:j<H:=by omega
       have iP:ops[j]?=some ops[j]:=by simp[show j<ops.size by omega]
       rcases tG j _ nY iP (Bool.eq_false_iff.2 λ h=>by rw[oO j (.inl h)] at hj;cases hj) (Bool.eq_false_iff.2 λ h=>by rw[oO j (.inr h)] at hj;cases hj) (Ki.elim (λ h=>by rw[(h i Ga).1] at hU;cases hU) λ h=>h j) with⟨_,_,C3,_⟩|⟨_,_,sj,_⟩|⟨aaX,_,_,_,XI,_,_,_,_,_,Dm,Xk,_⟩|⟨_,_,_,_,_,_,_,_,sj,_⟩
       ·obtain⟨h5,h6⟩:=qI j (C3 _ hj).1;simp only at h5 h6;have mg:aG.getD j false=true:=by
         rcases mg:aG.getD j false with _|_
         ·exfalso;refine cE (ct.ei nm h5 λ k q I hu hq Y=>?_);have mh:k<i:=by
           rcases Nat.lt_or_ge k i with h7|h7
           ·exact h7
           ·exact absurd Y (gV k q I (by omega) hq)
          rcases Nat.lt_trichotomy k j with h7|h7|h7
          ·exact h6 k q h7 hq Y
          ·subst h7;rw[mg] at I;cases I
          ·exact A k q h7 mh hq Y
         ·rfl
        exact ct.news j _ mg hj λ k q I R hq=>by
         by_cases mh:k<i
         ·exact A k q I mh hq
         ·exact gV k q R mh hq
       ·rw[sj] at hj;cases hj
       ·rw[Dm] at hj;cases hj;have:=Md (aH:=[]) iB Xk Dm;rcases hD with hD|hD
        ·simp at hD;exact absurd this hD
        ·obtain⟨x,O,T,mm⟩:=QV hD iB (by simp) XI;have mg:=mN x O T;rw[mm] at mg;exact ct.news j _ mg Dm λ k q I R hq=>by
          by_cases mh:k<i
          ·exact A k q I mh hq
          ·exact gV k q R mh hq
       ·rw[sj] at hj;cases hj
     obtain⟨_,Zv⟩:=uO Γ a e ct.env AH Xx;refine .inl (xk Zv λ br aI hh=>?_);obtain⟨rfl,Y,rfl,hu⟩:=hh;have:=ih _ _ Y AA (ct.aaR ho mO X fK qm (λ j p R jT hp=>AM j p R jT hp) hu) Gk FV Gf;rw[mO];exact this
    ·rw[if_pos (pC _ hg)];have ba:∀j p,av j=some p->j<H:=λ j p hp=>by
      rcases Nat.lt_or_ge j H with bL|bL
      ·exact bL
      ·rw[ml j bL] at hp;cases hp
     have wE:∀k p,av k=some p->p.1=g->∀j q,j<k->av j=some q->q.1=g->(∀KC oy,j<KC->KC<k->av KC=some oy->oy.1≠g)->∃oj tj,ops[j]?=some oj/\oj.dst=some tj/\∃ok,ops[k]?=some ok/\tj∈ok.looksAt ops:=by
      intro k p I FU j q mf hj uE Xu;have Yo:=ba k p I;have nY:=ba j q hj;have iP:ops[j]?=some ops[j]:=by simp[show j<ops.size by omega]
      have P7:ops[k]?=some ops[k]:=by simp[show k<ops.size by omega]
      rcases tG j _ nY iP (Bool.eq_false_iff.2 λ h=>by rw[ut j (.inl h)] at hj;cases hj) (Bool.eq_false_iff.2 λ h=>by rw[ut j (.inr h)] at hj;cases hj) (Ki.elim (λ h=>by rw[(h i Ga).2] at qm;cases qm) λ h=>h j) with⟨_,_,_,_,Di⟩|⟨_,_,_,_,Di⟩|⟨_,_,_,_,_,_,_,_,_,_,_,_,Di⟩|⟨g1,G1,t1,_,kr,_,_,_,_,_,ky⟩
      ·rw[Di] at hj;cases hj
      ·rw[Di] at hj;cases hj
      ·rw[Di] at hj;cases hj
      rcases tG k _ Yo P7 (Bool.eq_false_iff.2 λ h=>by rw[ut k (.inl h)] at I;cases I) (Bool.eq_false_iff.2 λ h=>by rw[ut k (.inr h)] at I;cases I) (Ki.elim (λ h=>by rw[(h i Ga).2] at qm;cases qm) λ h=>h k) with⟨_,_,_,_,ye⟩|⟨_,_,_,_,ye⟩|⟨_,_,_,_,_,_,_,_,_,_,_,_,ye⟩|⟨g2,G2,t2,_,_,_,dJ,_,_,_,n4⟩
      ·rw[ye] at I;cases I
      ·rw[ye] at I;cases I
      ·rw[ye] at I;cases I
      rw[n4] at I;cases I;simp only at FU;subst FU;have rb:kv (fQ ops.toList av [] k) g2=some t1:=SY (l:=ops.toList) mf hj uE (by simpa[iP] using kr) Xu;unfold DS at dJ;rw[rb] at dJ;simp only[List.any_eq_true] at dJ;obtain⟨x,O,Gs⟩:=dJ;refine⟨_,t1,iP,kr,_,P7,?_⟩;cases x with
      |tmp af=>have:af=t1:=Nat.eq_of_beq_eq_true Gs;subst this;exact List.mem_append_left _ (List.mem_filterMap.2 ⟨.tmp af,O,rfl⟩)
      |const v=>cases Gs
      |global v=>cases Gs
      |func v=>cases Gs
     have uv:∀(d k:Nat) p,av k=some p->p.1=g->aG.getD k false=true->∀j q,j+d=k->av j=some q->q.1=g->aG.getD j false=true:=by
      intro d;induction d using Nat.strongRecOn with
      |ind d ZH=>
       intro k p I FU mj j q afo hj uE;rcases Nat.eq_zero_or_pos d with h0|h0
       ·have:j=k:=by omega
        rw[this];exact mj
       ·rcases Ew (av:=av) (au:=kv J.g) (h:=g) k with⟨_,A⟩|⟨j1,G1,JV,ky,_,A⟩
        ·exact absurd uE (A j q (by omega) hj)
        ·have afp:j<=j1:=by
          rcases Nat.lt_or_ge j1 j with K|K
          ·exact absurd uE (A j q K (by omega) hj)
          ·exact K
         obtain⟨oj,tj,iP,q7,ok,yk,J2⟩:=wE k p I FU j1 _ JV ky rfl A;have Yk:aG.getD j1 false=true:=by
          rcases aQ.dep k j1 ok oj tj yk iP (by omega) q7 J2 with⟨_,x,O,T,mm⟩|⟨h4,_⟩
          ·have:=ct.closed k ok yk mj x O T;rw[mm] at this;exact this
          ·omega
         exact ZH (j1-j) (by omega) j1 _ ky rfl Yk j q (by omega) hj uE
     have AM:∀j p,aG.getD j false=true->i<j->av j=some p->p.1≠g:=λ j p R jT hp Y=>by
      have:=uv (j-i) j p hp Y R i _ (by omega) qm rfl;rw[kz] at this;cases this
     have qr:e.gi g=ej av (kv J.g) i g:=by
      rcases Ew (av:=av) (au:=kv J.g) (h:=g) i with⟨h1,A⟩|⟨j,Gj,hj,hm,hs,A⟩
      ·rw[h1];refine ct.gs g λ j p R hp=>?_
       rcases Nat.lt_trichotomy j i with K|K|K
       ·exact A j p K hp
       ·subst K;rw[kz] at R;cases R
       ·exact AM j p R K hp
      ·rw[hs];obtain⟨oj,tj,iP,q7,ok,yk,J2⟩:=wE i _ qm rfl j _ hj hm rfl A;rw[ho] at yk;cases yk;have mg:aG.getD j false=true:=by
        rcases aQ.dep i j o oj tj ho iP (by omega) q7 J2 with⟨_,x,O,T,mm⟩|⟨h4,_⟩
        ·have:=mN x O T;rw[mm] at this;exact this
        ·omega
       refine ct.gw j _ mg hm λ k q I R hq=>?_
       rcases Nat.lt_trichotomy k i with K|K|K
       ·exact A k q I K hq
       ·subst K;rw[kz] at R;cases R
       ·exact AM k q R K hq
     refine .inl (xk (tC Γ a e ct.env AH qr) λ br aI hh=>?_);obtain⟨v,Y,rfl,rfl,hu⟩:=hh;exact ih _ _ Y AA (ct.aaQ aQ ho X Xc qm AM hu) Gk FV Gf
theorem Ex{l iT:List Oper}{am:Nat->G}{S:Nat->Option G}:∀i,(∀j,j<i->l[j]?=iT[j]?)->dY l am S i=dY iT am S i
 |0,_=>rfl
 |i+1,h=>by rw[dY,dY,Ex i λ j hj=>h j (by omega),h i (by omega)]
theorem BF{N kH:Nat->Option (Nat×List G)}{B:Nat->Option (List G)}:∀i,(∀j,j<i->N j=kH j)->dC N B i=dC kH B i
 |0,_=>rfl
 |i+1,h=>by rw[dC,dC,BF i λ j hj=>h j (by omega),h i (by omega)]
theorem Ma{bJ rK:Nat->Bool}{N kH:Nat->Option (Nat×List G)}{aH:List Nat}:∀i,(∀j,j<i->N j=kH j/\bJ j=rK j)->fL bJ N aH i=fL rK kH aH i
 |0,_=>rfl
 |i+1,h=>by rw[fL,fL,Ma i λ j hj=>h j (by omega),(h i (by omega)).1,(h i (by omega)).2]
theorem HA{av dN:Nat->Option (Nat×Gr)}{au:Nat->Option Gr}:∀i,(∀j,j<i->av j=dN j)->ej av au i=ej dN au i
 |0,_=>rfl
 |i+1,h=>by rw[ej,ej,HA i λ j hj=>h j (by omega),h i (by omega)]
theorem Mf{l iT:List Oper}{av dN:Nat->Option (Nat×Gr)}{aC:List (Nat×Nat)}:∀i,(∀j,j<i->av j=dN j/\l[j]?=iT[j]?)->fQ l av aC i=fQ iT dN aC i
 |0,_=>rfl
 |i+1,h=>by rw[fQ,fQ,Mf i λ j hj=>h j (by omega),(h i (by omega)).1,(h i (by omega)).2]
def vA(B:List (Nat×List G)):List (Nat×List G)->Prop
 |[]=>True
 |p::l=>kv B p.1=some p.2/\vA B l
theorem vA.get{B:List (Nat×List G)}:∀{l:List (Nat×List G)}(_:vA B l){b:Nat}{cs:List G},kv l b=some cs->kv B b=some cs
 |[],_,_,_,h=>by cases h
 |(k,v)::l,hs,b,cs,h=>by
  rw[cM] at h;split at h
  ·rename_i I;subst I;cases h;exact hs.1
  ·exact hs.2.get h
theorem Nl{id:Nat}{Q:Exit->St->Prop}{J:St}(B:List (Nat×List G))(i6:vA J.b B)(l1 l2:List Oper){l:List Oper}(R:l=l1++l2)(hm:P.follows .mixedOrders=true)(hB:qF l.toArray Γ.n=true)(hT:tZ l.toArray l1.length=true)
 (h:cq P Γ.n l B J.b (bp P Γ l Q l2) 0 [] [] l1 J):aK P Γ (.region id l.toArray true) Q J:=by
 refine⟨λ a e L=>?_⟩;have aQ:=Hn hB;obtain⟨am,N,bJ,av,jL,h1,A,K,h4,h5⟩:=cq.extract l1 0 [] [] J h;have nD:∀j,j<l1.length->l1[j]?=l[j]?:=λ j hj=>by rw[R,List.getElem?_append_left hj]
 have ci:l1.length<=l.toArray.size:=by rw[R];simp
 have JB:l.toArray.toList.drop l1.length=l2:=by rw[R];simp
 have hN:∀i,i<=l1.length->dC N (kv J.b) i=dC (λ i=>if i<l1.length then N i else none) (kv J.b) i:=λ i X=>BF i λ j hj=>by rw[if_pos (by omega)]
 have hD:∀i,i<=l1.length->fL bJ N [] i=fL bJ (λ i=>if i<l1.length then N i else none) [] i:=λ i X=>Ma i λ j hj=>⟨by rw[if_pos (by omega)],rfl⟩
 have hG:∀i,i<=l1.length->ej av (kv J.g) i=ej (λ i=>if i<l1.length then av i else none) (kv J.g) i:=λ i X=>HA i λ j hj=>by rw[if_pos (by omega)]
 have Z:∀i,i<=l1.length->fQ l1 av [] i=fQ l.toArray.toList (λ i=>if i<l1.length then av i else none) [] i:=λ i X=>Mf i λ j hj=>⟨by rw[if_pos (by omega)],by simpa using nD j (by omega)⟩
 have:=BI (P:=P) (Γ:=Γ) (J:=J) (ops:=l.toArray) (H:=l1.length) (λ _=>false) (λ _=>false) (λ _=>true) aQ (Iv hT) ci (am:=am) (N:=λ i=>if i<l1.length then N i else none) (bJ:=bJ) (av:=λ i=>if i<l1.length then av i else none) (B:=B) (a0:=a) (Q:=jr Γ Q) (λ i X=>if_neg (by omega)) (λ i X=>if_neg (by omega)) (λ i X=>by simp at X) (λ i X=>by simp at X) (λ _ _ _=>.inl rfl) (.inr λ _=>rfl) (λ b cs=>i6.get)
  (λ i o X ho _ _ _=>by
   have h6:=h5 i o (by rw[nD i X];simpa using ho);rw[Nat.zero_add,hN i (by omega),hD i (by omega),hG i (by omega),Z i (by omega)] at h6;have e5:dY l1 am (kv J.s) i=dY l.toArray.toList am (kv J.s) i:=Ex i λ j hj=>by simpa using nD j (by omega)
   rw[e5] at h6
   simpa[X] using h6)
  (λ aG b Y hv q2 q3 _=>HK aQ hT _ _ aG b Y.w (by omega) (Nat.le_refl _) hv.lG q2 q3 (by rw[JB];exact h1.run b Y (hv.pr aQ (jL:=jL) (by rw[K];exact Ex _ λ j hj=>by simpa using nD j hj) (by rw[h4];exact hN _ (Nat.le_refl _)) (by rw[A];exact hG _ (Nat.le_refl _)) q2 q3))) (λ _ _ _ _ _ h=>by cases h)
  l.toArray.size (Array.replicate l.toArray.size false) a {e with w:=e.w.drew} (HJ _).symm
  ?_ (λ t _ ht=>by have yu:t<l.length:=by simpa using ht
                   simp[yu]) (λ i X=>by cases X) (λ i X=>by cases X)
 ·exact wp_region_any hm this
 ·have hg:kg e {e with w:=e.w.drew}:=⟨(Below.refl _ _).drew,λ _ _=>rfl,rfl,rfl,rfl⟩;have ey:=L.grow hg;refine⟨by simp,L.size,L.df,λ i o _ R=>?_,λ i o t _ R=>?_,λ t _=>rfl,ey.bP,λ b cs T _=>ey.boxes b cs T,λ i p R=>?_,λ b T _=>ey.ei b T,λ g _=>ey.gs g,λ i p R=>?_,ey.env⟩
  all_goals(simp[Array.getElem?_replicate] at R;split at R<;>simp at R)
end
end Go.Proofs.YtcnefjfboagbmaaGreat
end
section
namespace Go.Proofs.YtcnefjfboagbmaaGreat
open Go.RowKit
section
variable{P:Program}{ae:Nat->Option TI}{Γ:bI}{J bU:St}{Q:Exit->St->Prop}{aL:St->Prop}
theorem nf(h:aL J):rG aL Q .normal J:=h
theorem acb{id:Nat}(h:Q .normal J):qi id Q (.exit id) J:=by simp only[qi,if_true];exact h
theorem acd{id oa:Nat}(cE:(oa==id)=false)(h:Q (.exit oa) J):qi id Q (.exit oa) J:=by
 have:oa≠id:=by simpa using cE
 simp only[qi,if_neg this];exact h
def CK(t:Bool)(aa ap:Prop):Prop:=(t=true->aa)/\(t=false->ap)
theorem Ip{x y:Code}{z:Operand}{t:Bool}(hz:ev (kv J.s) z=some (.p (.raw (.bool t))))(h:CK t (aK P Γ x Q J) (aK P Γ y Q J)):aK P Γ (.cond z x y) Q J:=UL hz h.1 h.2
section
variable{aa ap:Prop}
theorem IB(h:aa):CK true aa ap:=⟨λ _=>h,λ bL=>by cases bL⟩
theorem Co(h:ap):CK false aa ap:=⟨λ bL=>(by cases bL),λ _=>h⟩
theorem cN{t:Bool}(ht:t=true->aa)(hf:t=false->ap):CK t aa ap:=⟨ht,hf⟩
end
def Fin(ae:Nat->Option TI)(rs:List ResultVar)(d:G):Exit->St->Prop:=λ ex J=>(ex=.normal\/ex=.ret)/\Bw ae J rs=some d
theorem rY{rs:List ResultVar}{d dR:G}(h:Bw ae J rs=some dR)(F:dR=d):Fin ae rs d .ret J:=⟨.inr rfl,by rw[h,F]⟩
theorem Wt{rs:List ResultVar}{d dR:G}(h:Bw ae J rs=some dR)(F:dR=d):Fin ae rs d .normal J:=⟨.inl rfl,by rw[h,F]⟩
def rV{ar:Type}:Nat->List G->(List (Nat×G)->Option ar)->Option ar
 |_,[],k=>k []
 |n,d::ds,k=>rV (n+1) ds λ r=>k ((n,d)::r)
theorem zz{ar:Type}:∀(n:Nat)(ds:List G)(k:List (Nat×G)->Option ar),rV n ds k=k (uo.go n ds)
 |_,[],_=>rfl
 |n,d::ds,k=>by rw[rV,zz (n+1) ds];rfl
theorem abZ(hT:cW P ae){f:FuncId}{fn:Func}{c:Code}{ds:List G}{d:G}{rs:List ResultVar}{n:Nat}{s:List (Nat×G)}(hf:P.funcs[f]?=some fn)(T:fn.body=some c)(iu:fn.ntmps=n)(lU:fn.results.toList=rs)(hn:Nat.ble ds.length n=true)(hs:rV 0 ds some=some s)
 (h:∀w cl,aK P ⟨n,w,cl,λ _=>False,[],[]⟩ c (Fin ae rs d) ⟨s,[],[]⟩):aX P f ds d:=by
 subst iu;subst lU;rw[zz] at hs;cases hs;exact ab0 hT hf T (Nat.le_of_ble_eq_true hn) h
section
variable{o:Oper}{l0 l:List Oper}{s:List (Nat×G)}{b:List (Nat×List G)}{g:List (Nat×Gr)}{t:Nat}{d:G}
theorem qk{n:Nat}(F:o.dst=some t)(R:Nat.blt t n=true):vU n o.dst=true:=by rw[F];exact R
theorem bn(hq:dH P o (kv s) (kv b) d none)(hg:gd l0 o (kv s)=some true)(F:o.dst=some t)(R:Nat.blt t Γ.n=true)(h:bp P Γ l0 Q l ⟨(t,d)::s,b,g⟩):bp P Γ l0 Q (o::l) ⟨s,b,g⟩:=
 Nb (J:=⟨s,b,g⟩) hq hg (qk F R) (λ p hp=>by cases hp) (by rw[F];exact h)
theorem Ca{nm:Nat}{cs:List G}(hq:dH P o (kv s) (kv b) d (some (nm,cs)))(hg:gd l0 o (kv s)=some true)(F:o.dst=some t)(R:Nat.blt t Γ.n=true)(hf:kv b nm=none)(h:bp P Γ l0 Q l ⟨(t,d)::s,(nm,cs)::b,g⟩):bp P Γ l0 Q (o::l) ⟨s,b,g⟩:=
 Nb (J:=⟨s,b,g⟩) hq hg (qk F R) (λ p hp=>by cases hp;exact hf) (by rw[F];exact h)
def u6{ar:Type}:Nat->List (Nat×List G)->(Nat->Option ar)->Option ar
 |n,[],k=>k n
 |n,_::l,k=>u6 (n+1) l k
theorem T3{nm:Nat}{ty:TypeId}{x:Operand}{dx:G}{cs:List G}(ho:o.op=.box ty x)(_:u6 0 b some=some nm)(O:ev (kv s) x=some dx)(I:kU dx=true)(cH:mF dx some=some cs)(hg:gd l0 o (kv s)=some true)(F:o.dst=some t)(R:Nat.blt t Γ.n=true)(hf:kv b nm=none)(h:bp P Γ l0 Q l ⟨(t,.ptr nm 0)::s,(nm,cs)::b,g⟩):bp P Γ l0 Q (o::l) ⟨s,b,g⟩:=
 Ca (EW nm ho O I cH) hg F R hf h
theorem T6(hT:cW P ae){nm:Nat}{ty:TypeId}{i:TI}{cs:List G}(ho:o.op=.alloc ty)(_:u6 0 b some=some nm)(ht:ae ty=some i)(I:kU (lK i.zero)=true)(cH:qP i.zero (λ d=>mF d some)=some cs)(hg:gd l0 o (kv s)=some true)(F:o.dst=some t)(R:Nat.blt t Γ.n=true)(hf:kv b nm=none)(h:bp P Γ l0 Q l ⟨(t,.ptr nm 0)::s,(nm,cs)::b,g⟩):bp P Γ l0 Q (o::l) ⟨s,b,g⟩:=
 Ca (vF hT nm ho ht I cH) hg F R hf h
theorem nl(hT:cW P ae)(hq:ax ae (kv s) (kv b) o.op=some d)(hg:gd l0 o (kv s)=some true)(F:o.dst=some t)(R:Nat.blt t Γ.n=true)(h:bp P Γ l0 Q l ⟨(t,d)::s,b,g⟩):bp P Γ l0 Q (o::l) ⟨s,b,g⟩:=bn (sW hT hq) hg F R h
theorem T7(hg:gd l0 o (kv s)=some false)(F:o.dst=some t)(R:Nat.blt t Γ.n=true)(h:bp P Γ l0 Q l ⟨(t,.p (.raw undef))::s,b,g⟩):bp P Γ l0 Q (o::l) ⟨s,b,g⟩:=
 Uy (J:=⟨s,b,g⟩) hg (qk F R) (by rw[F];exact h)
theorem T8(hT:cW P ae){ty:TypeId}{x y:Operand}{nm of:Nat}{cs aO:List G}{dy:G}{i:TI}(ho:o.op=.store ty x y)(F:o.dst=none)(ht:ae ty=some i)(O:ev (kv s) x=some (.ptr nm of))(T:kv b nm=some cs)(hy:ev (kv s) y=some dy)
 (R:tO dy=true)(bQ:Nat.beq dy.cells.length i.sz=true)(dg:sM cs of dy some=some aO)(hg:gd l0 o (kv s)=some true)(h:bp P Γ l0 Q l ⟨s,(nm,aO)::b,g⟩):bp P Γ l0 Q (o::l) ⟨s,b,g⟩:=by
 obtain⟨h1,A⟩:=S7 dg;cases A;exact vG (J:=⟨s,b,g⟩) hg (Ml hT ho F ht O T hy R (Nat.eq_of_beq_eq_true bQ) h1) h
theorem hE(hT:cW P ae){ty:TypeId}{x y:Operand}{gn n m el z1 z2:Nat}{z3:Value}{ps qs:List Pl}{dy:G}{i:TI}(ho:o.op=.call {callee:=.builtin .append,args:=#[x,y],argTypes:=#[ty,ty]})(ht:ae ty=some ⟨.slice el,z1,z2,z3⟩)(ec:ae el=some i)(ic:Nat.beq i.zero.cells.size i.sz=true)(o5:Nat.blt 0 i.sz=true)
 (hg:gd l0 o (kv s)=some true)(F:o.dst=some t)(R:Nat.blt t Γ.n=true)(O:ev (kv s) x=some (.aW gn n ps))(gT:kv g gn=some ⟨el,i.sz,n⟩)(hy:ev (kv s) y=some dy)(lD:ni dy=some (m,qs))(ee:qs.length=m*i.sz)
 (gh:n+m<=maxLen)(gu:(n+m)*i.bytes<=140737488355328)(h:bp P Γ l0 Q l ⟨(t,.aW gn (n+m) (ps++qs))::s,b,(gn,⟨el,i.sz,n+m⟩)::g⟩):bp P Γ l0 Q (o::l) ⟨s,b,g⟩:=
 vG (J:=⟨s,b,g⟩) hg (UD hT ho ht ec (Nat.eq_of_beq_eq_true ic) (by simpa[Nat.blt_eq] using o5) (qk F R) O gT hy lD ee gh gu) (by rw[F];exact h)
variable{n:Nat}{B B0:List (Nat×List G)}
variable{aH:List Nat}{aC:List (Nat×Nat)}{ix:Nat}
theorem cV(hq:dH P o (kv s) (kv B) d none)(hg:gd l0 o (kv s)=some true)(F:o.dst=some t)(h:cq P n l0 B B0 aL (ix+1) aH aC l ⟨(t,d)::s,b,g⟩):cq P n l0 B B0 aL ix aH aC (o::l) ⟨s,b,g⟩:=
 .inl ⟨d,none,hg,.inl hq,λ p hp=>(by cases hp),by rw[F];exact h⟩
theorem rB{nm:Nat}{cs:List G}(hq:dH P o (kv s) (kv B) d (some (nm,cs)))(hg:gd l0 o (kv s)=some true)(F:o.dst=some t)(hf:kv b nm=none)(lc:kv B nm=none)(h:cq P n l0 B B0 aL (ix+1) aH aC l ⟨(t,d)::s,(nm,cs)::b,g⟩):cq P n l0 B B0 aL ix aH aC (o::l) ⟨s,b,g⟩:=
 .inl ⟨d,some (nm,cs),hg,.inl hq,λ p hp=>(by cases hp;exact⟨hf,lc⟩),by rw[F];exact h⟩
theorem ach{nm:Nat}{ty:TypeId}{x:Operand}{dx:G}{cs:List G}(ho:o.op=.box ty x)(_:u6 0 b some=some nm)(O:ev (kv s) x=some dx)(I:kU dx=true)(cH:mF dx some=some cs)(hg:gd l0 o (kv s)=some true)(F:o.dst=some t)(hf:kv b nm=none)(lc:kv B nm=none)(h:cq P n l0 B B0 aL (ix+1) aH aC l ⟨(t,.ptr nm 0)::s,(nm,cs)::b,g⟩):cq P n l0 B B0 aL ix aH aC (o::l) ⟨s,b,g⟩:=
 rB (EW nm ho O I cH) hg F hf lc h
theorem aci(hT:cW P ae){nm:Nat}{ty:TypeId}{i:TI}{cs:List G}(ho:o.op=.alloc ty)(_:u6 0 b some=some nm)(ht:ae ty=some i)(I:kU (lK i.zero)=true)(cH:qP i.zero (λ d=>mF d some)=some cs)(hg:gd l0 o (kv s)=some true)(F:o.dst=some t)(hf:kv b nm=none)(lc:kv B nm=none)(h:cq P n l0 B B0 aL (ix+1) aH aC l ⟨(t,.ptr nm 0)::s,(nm,cs)::b,g⟩):cq P n l0 B B0 aL ix aH aC (o::l) ⟨s,b,g⟩:=
 rB (vF hT nm ho ht I cH) hg F hf lc h
theorem Eb(hT:cW P ae)(hq:ax ae (kv s) (kv B) o.op=some d)(hg:gd l0 o (kv s)=some true)(F:o.dst=some t)(h:cq P n l0 B B0 aL (ix+1) aH aC l ⟨(t,d)::s,b,g⟩):cq P n l0 B B0 aL ix aH aC (o::l) ⟨s,b,g⟩:=cV (sW hT hq) hg F h
theorem Sj(hT:cW P ae)(hq:ax ae (kv s) (kv B0) o.op=some d)(hg:gd l0 o (kv s)=some true)(F:o.dst=some t)(he:zy l0 o=true)(h:cq P n l0 B B0 aL (ix+1) aH aC l ⟨(t,d)::s,b,g⟩):cq P n l0 B B0 aL ix aH aC (o::l) ⟨s,b,g⟩:=
 .inl ⟨d,none,hg,.inr ⟨he,sW hT hq⟩,λ p hp=>(by cases hp),by rw[F];exact h⟩
theorem acj(hg:gd l0 o (kv s)=some false)(F:o.dst=some t)(h:cq P n l0 B B0 aL (ix+1) aH aC l ⟨(t,.p (.raw undef))::s,b,g⟩):cq P n l0 B B0 aL ix aH aC (o::l) ⟨s,b,g⟩:=
 .inr (.inl ⟨hg,by rw[F];exact h⟩)
theorem adb{e:aA}(aQ:hd Γ e){nm k:Nat}{vs us:List Value}{el:TypeId}{cs:List G}(T:e.bx nm=some k)(I:e.w.heap[k]?=some (.cells vs.toArray el (0,0)))(hr:DReps e us cs):Ia Γ e {e with w:=e.w.setRow k us.toArray} nm cs:=by
 obtain⟨h1,A,K,h4⟩:=aQ.bx nm k T;have hk:∀j,j≠k->(e.w.setRow k us.toArray).heap[j]?=e.w.heap[j]?:=λ j hj=>setRow_other e.w k j _ hj
 have E:Ends e {e with w:=e.w.setRow k us.toArray}:=by
  refine⟨λ bj o v dT hv=>?_,λ _ _ h=>h,λ _ au h=>⟨au,h,rfl,rfl,Nat.le_refl _⟩,λ j g au cur h5 h6 h7=>⟨h5,cur,?_,rfl⟩⟩
  ·have cE:bj≠k:=λ Y=>by subst Y;exact absurd (dT 0 K) (by omega)
   exact⟨dT,by show(e.w.setRow k us.toArray).cell? _=_;rw[World.cell?_of_block (w:=e.w) (hk bj cE)];exact hv⟩
  ·show(e.w.setRow k us.toArray).heap[j]?=_;rw[hk j (λ Y=>by subst Y;rw[h4] at h5;cases h5)];exact h7
 refine⟨E,?_,rfl,rfl,⟨k,us,el,T,EV I,hr.next E⟩,λ c ds cE i8=>?_⟩
 ·refine⟨⟨aQ.kept.os,aQ.kept.tape,aQ.kept.output,by show _<=(e.w.setRow k us.toArray).heap.size;rw[setRow_size];exact aQ.kept.size,λ j hj ho=>?_⟩,aQ.cl,λ bj j hj=>?_,aQ.inj,λ j g hg=>?_,aQ.kb⟩
  ·show(e.w.setRow k us.toArray).heap[j]?=_;rw[hk j (λ Y=>by subst Y;rcases A with A|A<;>first|omega|exact ho A)];exact aQ.kept.block j hj ho
  ·obtain⟨h5,h6,h7,h8⟩:=aQ.bx bj j hj;exact⟨by show j<(e.w.setRow k us.toArray).heap.size;rw[setRow_size];exact h5,h6,h7,h8⟩
  ·obtain⟨au,cur,h5,h6,h7,h8,h9⟩:=aQ.gr j g hg;refine⟨au,cur,h5,by show j<(e.w.setRow k us.toArray).heap.size;rw[setRow_size];exact h6,h7,h8,?_⟩;show(e.w.setRow k us.toArray).heap[j]?=_;rw[hk j (λ Y=>by subst Y;rw[h4] at hg;cases hg)];exact h9
 ·obtain⟨jd,fh,Cx,h5,h6,h7⟩:=i8;refine⟨jd,fh,Cx,h5,?_,h7.next E⟩;show(e.w.setRow k us.toArray).heap[jd]?=_;rw[hk jd (λ Y=>cE (by subst Y;exact aQ.inj _ _ _ h5 T))];exact h6
theorem adK(hT:cW P ae){S:Nat->Option G}{ty:TypeId}{x y:Operand}{nm of:Nat}{cs aO:List G}{dy:G}{i:TI}(ho:o.op=.store ty x y)(F:o.dst=none)(ht:ae ty=some i)(O:ev S x=some (.ptr nm of))(hy:ev S y=some dy)
 (R:tO dy=true)(bQ:Nat.beq dy.cells.length i.sz=true)(dg:sM cs of dy some=some aO):H6 P o S nm cs aO:=by
 intro Γ a e aQ hs i8;obtain⟨C0,dg⟩:=S7 dg;cases dg;have h1:=hs x (by rw[ho];simp[Op.operands]) _ O;have A:=hs y (by rw[ho];simp[Op.operands]) _ hy;have I:kU dy=true:=by cases dy<;>first|exact R|rfl
 have hr:=va A I;generalize dk:a.eval x=vx at h1;cases h1 with
 |ptr h1=>
  refine⟨by rw[h1];simp,?_⟩;obtain⟨k,vs,el,K,h4,h5⟩:=i8 (by rw[h1];simp);rename_i k0;obtain rfl:k=k0:=by rw[K] at h1;cases h1;rfl
  have afL:=Nat.eq_of_beq_eq_true bQ;have ci:(a.eval y).cells.size=i.sz:=by have:=hr.1;simp at this;omega
  have Qn:=run_storeCells_at P k of el (a.eval y).cells.toList 0 vs.toArray e.w h4 (by have:=hr.1;have:=h5.1;simp at*;omega) (Q1 A R);unfold Oper.wp;have e1:(execOp a.eval o).run P e.w=.ok .skip (e.w.setRow k (vs.take of++(a.eval y).cells.toList++vs.drop (of+(a.eval y).cells.toList.length)).toArray):=by obtain⟨dst,op,type,pos,after,guard⟩:=o;simp only at ho;subst ho;simp only[Nat.add_zero] at Qn;simp[execOp,Instr.storeAt,Instr.sureAddr,dk,storeVar,run_sizeOf hT ht,ci,Qn]
  rw[e1];refine⟨rfl,_,rfl,adb aQ K h4 ?_⟩;unfold stored;rw[hr.1];exact((h5.take of).append hr).append (h5.drop _)
theorem tW(hT:cW P ae){ty:TypeId}{x y:Operand}{nm of:Nat}{cs aO:List G}{dy:G}{i:TI}(ho:o.op=.store ty x y)(F:o.dst=none)(ht:ae ty=some i)(O:ev (kv s) x=some (.ptr nm of))(T:kv b nm=some cs)(hy:ev (kv s) y=some dy)
 (R:tO dy=true)(bQ:Nat.beq dy.cells.length i.sz=true)(dg:sM cs of dy some=some aO)(hg:gd l0 o (kv s)=some true)(hB:kv B nm=none)(hD:aH.contains nm=false\/DO l0 o ix=true)(h:cq P n l0 B B0 aL (ix+1) (nm::aH) aC l ⟨s,(nm,aO)::b,g⟩):cq P n l0 B B0 aL ix aH aC (o::l) ⟨s,b,g⟩:=
 .inr (.inr (.inl ⟨nm,cs,aO,hg,F,hB,hD,T,adK hT ho F ht O hy R bQ dg,h⟩))
theorem pi.post{e:aA}{w:World}{gn:Nat}{au G0:Gr}{k:Option Nat}{v:Value}{d:G}(h:pi e w gn au k)(aQ:hd Γ e)(hg:e.gi gn=some G0)(ec:au.el=G0.el)(bQ:au.sz=G0.sz)(ci:G0.len<=au.len)(hr:bD (e.more w gn au k) v d):HU Γ e (e.more w gn au k) gn au v d:=
 ⟨h.ends aQ hg ec bQ ci,h.ok aQ hg ec,rfl,λ _=>rfl,λ _ _ T=>h.box aQ hg ec bQ ci T,hr⟩
theorem WN(hT:cW P ae){S:Nat->Option G}{ty:TypeId}{x y:Operand}{gn n m el z1 z2:Nat}{z3:Value}{ps qs:List Pl}{dy:G}{i:TI}(ho:o.op=.call {callee:=.builtin .append,args:=#[x,y],argTypes:=#[ty,ty]})(ht:ae ty=some ⟨.slice el,z1,z2,z3⟩)(ec:ae el=some i)(ic:Nat.beq i.zero.cells.size i.sz=true)(o5:Nat.blt 0 i.sz=true)
 (O:ev S x=some (.aW gn n ps))(hy:ev S y=some dy)(lD:ni dy=some (m,qs))(ee:qs.length=m*i.sz)(gh:n+m<=maxLen)(gu:(n+m)*i.bytes<=140737488355328):GStep P o S gn (some ⟨el,i.sz,n⟩) ⟨el,i.sz,n+m⟩ (.aW gn (n+m) (ps++qs)):=by
 intro Γ a e aQ hs fC;have bO:=hs x (by rw[ho];simp[Op.operands,Call.operands]) _ O;have ff:=w8 (hs y (by rw[ho];simp[Op.operands,Call.operands]) _ hy) lD;obtain⟨v,aI,k,cJ,pF,oX⟩:=Il hT aQ (ty:=o.type) ht ec (Nat.eq_of_beq_eq_true ic) (by simpa[Nat.blt_eq] using o5) bO fC ff ee gh gu;unfold Oper.wp;have e1:(execOp a.eval o).run P e.w=.ok (.value v) aI:=by obtain⟨dst,op,type,pos,after,guard⟩:=o;simp only at ho;subst ho;simp only[execOp,resolve,invoke,builtin,Sem.run_bind,Sem.run_pure,Result.andThen_ok,List.map_toArray,List.map_cons,List.map_nil,cJ]
 rw[e1];exact⟨v,_,rfl,rfl,pF.post aQ fC rfl rfl (by simp) oX⟩
theorem hd.group{e:aA}(aQ:hd Γ e){gn:Nat}(fC:e.gi gn=none)(au:Gr):hd Γ {e with gi:=λ h=>if h=gn then some au else e.gi h}/\Ends e {e with gi:=λ h=>if h=gn then some au else e.gi h}:=by
 have qx:∀k,e.gr k≠some gn:=λ k I=>by obtain⟨au,_,h,_⟩:=aQ.gr k gn I;rw[fC] at h;cases h
 refine⟨⟨aQ.kept,aQ.cl,aQ.bx,aQ.inj,λ k dS I=>?_,aQ.kb⟩,⟨λ _ _ _ h1 A=>⟨h1,A⟩,λ _ _ h=>h,λ dS mD h=>⟨mD,?_,rfl,rfl,Nat.le_refl _⟩,λ _ _ _ cur h1 _ K=>⟨h1,cur,K,rfl⟩⟩⟩
 ·obtain⟨mD,cur,h1,A⟩:=aQ.gr k dS I;exact⟨mD,cur,by show(if dS=gn then _ else e.gi dS)=_;rw[if_neg (λ Y=>qx k (by rw[<-Y];exact I))];exact h1,A⟩
 ·show(if dS=gn then _ else e.gi dS)=_;rw[if_neg (λ Y=>by rw[Y,fC] at h;cases h)];exact h
theorem WO(hT:cW P ae){S:Nat->Option G}{ty:TypeId}{x y:Operand}(gn:Nat){n m el z1 z2:Nat}{z3:Value}{ps qs:List Pl}{dy:G}{i:TI}(ho:o.op=.call {callee:=.builtin .append,args:=#[x,y],argTypes:=#[ty,ty]})(ht:ae ty=some ⟨.slice el,z1,z2,z3⟩)(ec:ae el=some i)(ic:Nat.beq i.zero.cells.size i.sz=true)(o5:Nat.blt 0 i.sz=true)
 (O:ev S x=some (.p (.sl true n ps)))(cO:ps.length=n*i.sz)(hy:ev S y=some dy)(lD:ni dy=some (m,qs))(ee:qs.length=m*i.sz)(gh:n+m<=maxLen)(gu:(n+m)*i.bytes<=140737488355328):GStep P o S gn none ⟨el,i.sz,n+m⟩ (.aW gn (n+m) (ps++qs)):=by
 intro Γ a e aQ hs fC;have bO:=hs x (by rw[ho];simp[Op.operands,Call.operands]) _ O;have ff:=w8 (hs y (by rw[ho];simp[Op.operands,Call.operands]) _ hy) lD;obtain⟨uJ,Fx⟩:=aQ.group fC ⟨el,i.sz,n⟩;have dj:bD {e with gi:=λ h=>if h=gn then some ⟨el,i.sz,n⟩ else e.gi h} (a.eval x) (.aW gn n ps):=by
  generalize a.eval x=vx at bO;cases bO with
  |p h=>have A:=(h.next Fx).low;obtain⟨ab,bK,hv,_,_,_,h6,_⟩:=qH h;exact .aW A ⟨⟨el,i.sz,n⟩,ab,bK,by simp,hv,Nat.le_refl _,cO,.inl (h6 rfl)⟩
 obtain⟨v,aI,k,cJ,pF,oX⟩:=Il hT uJ (ty:=o.type) ht ec (Nat.eq_of_beq_eq_true ic) (by simpa[Nat.blt_eq] using o5) dj (by simp) (ff.next Fx) ee gh gu;have sn:=pF.post uJ (G0:=⟨el,i.sz,n⟩) (by simp) rfl rfl (by simp) oX;unfold Oper.wp;have e1:(execOp a.eval o).run P e.w=.ok (.value v) aI:=by obtain⟨dst,op,type,pos,after,guard⟩:=o;simp only at ho;subst ho;simp only[execOp,resolve,invoke,builtin,Sem.run_bind,Sem.run_pure,Result.andThen_ok,List.map_toArray,List.map_cons,List.map_nil,cJ]
 rw[e1];refine⟨v,_,rfl,rfl,⟨Fx.trans sn.ends,sn.ok,sn.bx,λ h=>?_,λ c ds T=>sn.other c ds (T.ends Fx rfl),sn.rep⟩⟩;rw[sn.gi]
 by_cases Y:h=gn
 ·simp[Y]
 ·simp[Y]
theorem vg(hT:cW P ae){ty:TypeId}{x y:Operand}{gn cU m el z1 z2:Nat}{z3:Value}{ps qs:List Pl}{dy:G}{i:TI}(ho:o.op=.call {callee:=.builtin .append,args:=#[x,y],argTypes:=#[ty,ty]})(ht:ae ty=some ⟨.slice el,z1,z2,z3⟩)(ec:ae el=some i)(ic:Nat.beq i.zero.cells.size i.sz=true)(o5:Nat.blt 0 i.sz=true)
 (hg:gd l0 o (kv s)=some true)(F:o.dst=some t)(O:ev (kv s) x=some (.aW gn cU ps))(gT:kv g gn=some ⟨el,i.sz,cU⟩)(Z:DS o aC gn=true)(hy:ev (kv s) y=some dy)(lD:ni dy=some (m,qs))(ee:qs.length=m*i.sz)
 (gh:cU+m<=maxLen)(gu:(cU+m)*i.bytes<=140737488355328)(h:cq P n l0 B B0 aL (ix+1) aH ((gn,t)::aC) l ⟨(t,.aW gn (cU+m) (ps++qs))::s,b,(gn,⟨el,i.sz,cU+m⟩)::g⟩):cq P n l0 B B0 aL ix aH aC (o::l) ⟨s,b,g⟩:=
 .inr (.inr (.inr ⟨gn,_,_,t,hg,F,by simp[ug,ho],Z,by rw[gT];exact WN hT ho ht ec ic o5 O hy lD ee gh gu,by rw[F];exact h⟩))
theorem Hh(hT:cW P ae){ty:TypeId}{x y:Operand}(gn:Nat){cU m el z1 z2:Nat}{z3:Value}{ps qs:List Pl}{dy:G}{i:TI}(ho:o.op=.call {callee:=.builtin .append,args:=#[x,y],argTypes:=#[ty,ty]})(ht:ae ty=some ⟨.slice el,z1,z2,z3⟩)(ec:ae el=some i)(ic:Nat.beq i.zero.cells.size i.sz=true)(o5:Nat.blt 0 i.sz=true)
 (hg:gd l0 o (kv s)=some true)(F:o.dst=some t)(O:ev (kv s) x=some (.p (.sl true cU ps)))(cO:ps.length=cU*i.sz)(gT:kv g gn=none)(Z:DS o aC gn=true)(hy:ev (kv s) y=some dy)(lD:ni dy=some (m,qs))(ee:qs.length=m*i.sz)
 (gh:cU+m<=maxLen)(gu:(cU+m)*i.bytes<=140737488355328)(h:cq P n l0 B B0 aL (ix+1) aH ((gn,t)::aC) l ⟨(t,.aW gn (cU+m) (ps++qs))::s,b,(gn,⟨el,i.sz,cU+m⟩)::g⟩):cq P n l0 B B0 aL ix aH aC (o::l) ⟨s,b,g⟩:=
 .inr (.inr (.inr ⟨gn,_,_,t,hg,F,by simp[ug,ho],Z,by rw[gT];exact WO hT gn ho ht ec ic o5 O cO hy lD ee gh gu,by rw[F];exact h⟩))
def oE{ar:Type}:List Nat->List (Nat×List G)->(List (Nat×List G)->Option ar)->Option ar
 |_,[],k=>k []
 |ws,(m,cs)::l,k=>bif ws.contains m then oE ws l k else oE (m::ws) l λ r=>k ((m,cs)::r)
theorem y6{ar:Type}:∀(m:List (Nat×List G))(ws:List Nat)(k:List (Nat×List G)->Option ar)(r:ar),oE ws m k=some r->∃B,k B=some r/\(B.map (·.1)).Nodup/\(∀b∈B.map (·.1),b∉ws)/\vA m B:=by
 intro m;induction m with
 |nil=>intro ws k r h;exact⟨[],h,by simp,λ b T=>by simp at T,trivial⟩
 |cons p m ih=>
  intro ws k r h;obtain⟨q,ds⟩:=p;have Ty:∀(B:List (Nat×List G)),q∉B.map (·.1)->vA m B->vA ((q,ds)::m) B:=by
   intro B;induction B with
   |nil=>intro _ _;trivial
   |cons x B ZG=>intro hq hs;simp only[List.map_cons,List.mem_cons,not_or] at hq;exact⟨by rw[cM,if_neg hq.1];exact hs.1,ZG hq.2 hs.2⟩
  simp only[oE] at h;cases L:ws.contains q
  ·rw[L] at h;simp only[cond_false] at h;obtain⟨B,h5,h6,h7,h8⟩:=ih _ _ _ h;have hq:q∉B.map (·.1):=λ hq=>h7 q hq (by simp)
   refine⟨(q,ds)::B,h5,?_,λ b T=>?_,⟨by rw[cM];simp,Ty B hq h8⟩⟩
   ·simp only[List.map_cons,List.nodup_cons];exact⟨hq,h6⟩
   ·simp only[List.map_cons,List.mem_cons] at T;rcases T with rfl|T
    ·simpa using L
    ·exact λ h8=>h7 b T (List.mem_cons_of_mem _ h8)
  ·rw[L] at h;simp only[cond_true] at h;obtain⟨B,h5,h6,h7,h8⟩:=ih _ _ _ h;have hm:q∈ws:=by simpa using L
   exact⟨B,h5,h6,h7,Ty B (λ hq=>h7 q hq hm) h8⟩
theorem Np{J:St}(k:Nat)(ws:List Nat){id:Nat}{l l1 l2:List Oper}{B:List (Nat×List G)}(hs:l5 k l (λ a=>kN k l λ b=>some (a,b))=some (l1,l2))(hv:oE ws J.b some=some B)(hm:P.follows .mixedOrders=true)(hB:qF l.toArray Γ.n=true)(hT:tZ l.toArray k=true)(h:cq P Γ.n l B J.b (bp P Γ l Q l2) 0 [] [] l1 J):aK P Γ (.region id l.toArray true) Q J:=by obtain⟨h1,hs⟩:=rF hs;obtain⟨A,hs⟩:=nt hs;cases hs;obtain⟨j9,K,_,_,h4⟩:=y6 _ _ _ _ hv;cases K;refine Nl B h4 (l.take k) (l.drop k) (List.take_append_drop k l).symm hm hB ?_ h;rw[List.length_take,Nat.min_eq_left h1];exact hT
theorem Nm{J:St}(ws:List Nat){id:Nat}{l:List Oper}{B:List (Nat×List G)}(hv:oE ws J.b some=some B)(hm:P.follows .mixedOrders=true)(hB:qF l.toArray Γ.n=true)(h:cq P Γ.n l B J.b (Q .normal) 0 [] [] l J):aK P Γ (.region id l.toArray true) Q J:=by
 obtain⟨j9,K,_,_,h4⟩:=y6 _ _ _ _ hv;cases K;refine Nl B h4 l [] (by simp) hm hB ?_ ?_
 ·unfold tZ;simp only[List.all_eq_true,List.mem_range,Bool.or_eq_true,decide_eq_true_eq];intro t ht;left
  simpa using ht
 ·have mono:∀(B0:List (Nat×List G))(iT:List Oper)(ix:Nat)(aH:List Nat)(aC:List (Nat×Nat))(J:St)(aL nP:St->Prop),(∀J,aL J->nP J)->cq P Γ.n l B B0 aL ix aH aC iT J->cq P Γ.n l B B0 nP ix aH aC iT J:=by
   intro B0 iT;induction iT with
   |nil=>intro ix aH aC J aL nP I h;exact I J h
   |cons o iT ih=>
    intro ix aH aC J aL nP I h;rcases h with⟨d,nb,h1,A,K,h4⟩|⟨h1,A⟩|⟨nm,cs,aO,h1,A,K,h4,h5,h6,h7⟩|⟨g,au,d,t,h1,A,h0,K,h4,h5⟩
    ·exact .inl ⟨d,nb,h1,A,K,ih _ _ _ _ _ _ I h4⟩
    ·exact .inr (.inl ⟨h1,ih _ _ _ _ _ _ I A⟩)
    ·exact .inr (.inr (.inl ⟨nm,cs,aO,h1,A,K,h4,h5,h6,ih _ _ _ _ _ _ I h7⟩))
    ·exact .inr (.inr (.inr ⟨g,au,d,t,h1,A,h0,K,h4,ih _ _ _ _ _ _ I h5⟩))
  exact mono J.b l 0 [] [] J _ _ (λ bU bL=>kl bL) h
end
variable{S:Nat->Option G}{B:Nat->Option (List G)}{o:Oper}
def G6(cs:List G)(dF:Nat)(ds:List G):List G:=cs.take dF++ds++cs.drop (dF+ds.length)
def Ll{ar:Type}(cs:List G)(dF:Nat)(ds:List G)(k:List G->Option ar):Option ar:=
 l5 dF cs λ a=>kN dF cs λ b=>kN ds.length b λ c=>mE ds c λ r=>mE a r k
theorem abm{ar:Type}{cs:List G}{dF:Nat}{ds:List G}{k:List G->Option ar}{r:ar}(h:Ll cs dF ds k=some r):dF+ds.length<=cs.length/\k (G6 cs dF ds)=some r:=by unfold Ll at h;obtain⟨h1,h⟩:=rF h;obtain⟨A,h⟩:=nt h;obtain⟨K,h⟩:=nt h;rw[qO,qO] at h;refine⟨by simp at K;omega,?_⟩;unfold G6;rw[List.append_assoc];rw[List.drop_drop] at h;exact h
def xI(Br:Nat->Option (Nat×Nat)):List G->List (Nat×G)->Option (List G)
 |cs,[]=>some cs
 |cs,(i,d)::rest=>match Br i with
  |some (dF,sz)=>bif kU d&&Nat.beq d.cells.length sz then mF d λ ds=>Ll cs dF ds λ r=>xI Br r rest else none
  |none=>none
theorem Wz(us:List Value):∀(k dF:Nat)(cs:Array Value),dF+k+us.length<=cs.size->((us.zipIdx k).foldl (λ cs(c,j)=>cs.setIfInBounds (dF+j) c) cs).toList=cs.toList.take (dF+k)++us++cs.toList.drop (dF+k+us.length):=by
 induction us with
 |nil=>intro k dF cs h;simp
 |cons af us ih=>
  intro k dF cs h;rw[List.zipIdx_cons,List.foldl_cons];simp only[List.length_cons] at h;rw[ih (k+1) dF _ (by simp;omega)];have I:dF+k<cs.toList.length:=by simp;omega
  apply List.ext_getElem?;intro j;simp only[Array.toList_setIfInBounds,List.length_cons];rcases Nat.lt_trichotomy j (dF+k) with h1|h1|h1
  ·rw[List.append_assoc,List.append_assoc,List.getElem?_append_left (by simp;omega),List.getElem?_append_left (by simp;omega),List.getElem?_take,List.getElem?_take,if_pos (by omega),if_pos h1,List.getElem?_set_ne (by omega)]
  ·subst h1;rw[List.append_assoc,List.append_assoc,List.getElem?_append_left (by simp;omega),List.getElem?_append_right (by simp;omega),List.getElem?_take,if_pos (by omega)];simp only[List.length_take,Array.length_toList];rw[show dF+k-min (dF+k) cs.size=0 by simp at I;omega];rw[List.getElem?_set_self I]
   rfl
  ·rw[List.append_assoc,List.append_assoc];rcases Nat.lt_or_ge j (dF+k+1+us.length) with A|A
   ·rw[List.getElem?_append_right (by simp;omega),List.getElem?_append_left (by simp;omega),List.getElem?_append_right (by simp;omega)];simp only[List.length_take,List.length_set,Array.length_toList];simp only[Array.length_toList] at I;rw[show min (dF+(k+1)) cs.size=dF+k+1 by omega,show min (dF+k) cs.size=dF+k by omega,show j-(dF+k)=(j-(dF+k+1))+1 by omega];simp only[List.cons_append,List.getElem?_cons_succ];rw[List.getElem?_append_left (by omega)]
   ·rw[List.getElem?_append_right (by simp;omega),List.getElem?_append_right (by simp;omega),List.getElem?_append_right (by simp;omega),List.getElem?_append_right (by simp;omega)];simp only[List.length_take,List.length_set,Array.length_toList,List.length_cons,List.getElem?_drop];simp only[Array.length_toList] at I;rw[List.getElem?_set_ne (by omega)]
    congr 1
    omega
def H4(e:aA):List (Nat×Value)->List (Nat×G)->Prop
 |[],_=>True
 |(_,v)::l,(_,d)::m=>bD e v d/\H4 e l m
 |_::_,[]=>False
theorem Ff{e:aA}(Br:Nat->Option (Nat×Nat)):∀(iF:List (Nat×Value))(yP:List (Nat×G))(cells:Array Value)(cs res:List G),DReps e cells.toList cs->iF.map (·.1)=yP.map (·.1)->H4 e iF yP->xI Br cs yP=some res->∃rP,Instr.fill Br cells iF=some rP/\DReps e rP.toList res
 |[],yP,cells,cs,res,hr,hm,_,h=>by
  have:yP=[]:=by simpa using hm.symm
  subst this;simp only[xI,Option.some.injEq] at h;subst h;exact⟨cells,rfl,hr⟩
 |(i,v)::iF,[],cells,cs,res,hr,hm,_,h=>by simp at hm
 |(i,v)::iF,(j,d)::yP,cells,cs,res,hr,hm,F,h=>by
  simp only[List.map_cons,List.cons.injEq] at hm;obtain⟨rfl,hm⟩:=hm;simp only[xI] at h;split at h
  ·rename_i dF sz hp;cases T:(kU d&&Nat.beq d.cells.length sz)
   ·rw[T] at h;cases h
   ·rw[T] at h;simp only[cond_true,vQ] at h;obtain⟨dc,h⟩:=abm h;simp only[Bool.and_eq_true] at T;obtain⟨h1,A⟩:=T;have bs:=Nat.eq_of_beq_eq_true A;have hv:=va F.1 h1;have DB:v.cells.size=sz:=by have:=hv.1;simp at this;omega
    have dT:cells.size=cs.length:=by have:=hr.1;simpa using this
    have Pk:=Wz v.cells.toList 0 dF cells (by simp;omega);have hz:(v.cells.zipIdx.foldl (λ cs(c,j)=>cs.setIfInBounds (dF+j) c) cells).toList=cells.toList.take dF++v.cells.toList++cells.toList.drop (dF+v.cells.toList.length):=by simp only[Nat.add_zero] at Pk;rw[<-Pk,<-Array.foldl_toList,Array.toList_zipIdx]
    have lT:DReps e (v.cells.zipIdx.foldl (λ cs(c,j)=>cs.setIfInBounds (dF+j) c) cells).toList (G6 cs dF d.cells):=by rw[hz,G6,hv.1];exact((hr.take dF).append hv).append (hr.drop _)
    obtain⟨rP,h5,h6⟩:=Ff Br iF yP _ _ res lT hm F.2 h;refine⟨rP,?_,h6⟩;unfold Instr.fill;rw[hp];simp only[DB];rw[if_neg (by simp;omega)];exact h5
  ·cases h
def uq{ar:Type}(S:Nat->Option G):List (Nat×Operand)->(List (Nat×G)->Option ar)->Option ar
 |[],k=>k []
 |(i,x)::l,k=>match ev S x with
  |some d=>uq S l λ ds=>k ((i,d)::ds)
  |none=>none
theorem IU{ar:Type}{e:aA}{a:Act}:∀(l:List (Nat×Operand))(k:List (Nat×G)->Option ar)(r:ar),(∀x∈l.map (·.2),∀d,ev S x=some d->bD e (a.eval x) d)->uq S l k=some r->∃ds,(l.map λ p=>(p.1,a.eval p.2)).map (·.1)=ds.map (·.1)/\H4 e (l.map λ p=>(p.1,a.eval p.2)) ds/\k ds=some r
 |[],k,r,_,h=>⟨[],rfl,trivial,h⟩
 |(i,x)::l,k,r,hs,h=>by
  simp only[uq] at h;split at h
  ·rename_i d h1;obtain⟨ds,K,h4,h5⟩:=IU l _ r (λ y hy=>hs y (by simp at hy⊢;exact .inr hy)) h;exact⟨(i,d)::ds,by simp only[List.map_cons] at K⊢;rw[K],⟨hs x (by simp) d h1,h4⟩,h5⟩
  ·cases h
def EX(ae:Nat->Option TI)(t:TypeId)(ds:List (Nat×G)):Option G:=match ae t with
 |some ⟨.struct fs,_,_,z⟩=>bif fs.all (λ f=>Nat.blt 0 f.2.2) then(match qP z (λ c=>mF c λ cs=>xI (λ i=>(fs[i]?).map λ f=>(f.2.1,f.2.2)) cs ds) with
  |some cs=>some (.agg cs)
  |none=>none) else none
 |some ⟨.array _ el,_,_,z⟩=>match ae el with
  |some j=>match qP z (λ c=>mF c λ cs=>xI (λ i=>some (i*j.sz,j.sz)) cs ds) with
   |some cs=>some (.agg cs)
   |none=>none
  |none=>none
 |_=>none
theorem UF{P:Program}{w:World}{ar dh:Type}(f:ar->Sem dh)(g:ar->dh)(l:Array ar)(h:∀x∈l.toList,(f x).run P w=.ok (g x) w):(l.mapM f).run P w=.ok (l.map g) w:=by
 rw[Array.mapM_eq_mapM_toList];have:=Rg f g l.toList h;simp only[map_eq_pure_bind,Sem.run_bind,this,Result.andThen_ok,Sem.run_pure]
 congr 1
 apply Array.ext';simp
theorem zn(hT:cW P ae){t:TypeId}{iF:Array (Nat×Operand)}{d:G}(ho:o.op=.build t iF)(hp:uq S iF.toList (EX ae t)=some d)(hz:(match ae t with|some i=>kU (lK i.zero)|none=>false)=true):dH P o S B d none:=by
 refine jh λ a e hs=>?_
 obtain⟨ds,h1,A,F⟩:=IU (e:=e) (a:=a) iF.toList _ d (λ x O=>hs.1 x (by rw[ho];simp only[Op.operands];simpa using O)) hp;have Dt:(iF.map λ(i,x)=>(i,a.eval x)).toList=iF.toList.map λ p=>(p.1,a.eval p.2):=by simp
 unfold EX at F;split at F
 ·rename_i fs z1 z2 z ht;rw[ht] at hz;cases cT:fs.all (λ f=>Nat.blt 0 f.2.2)
  ·rw[cT] at F;cases F
  rw[cT] at F;simp only[cond_true] at F;split at F
  ·rename_i cs wl;rw[xA,vQ] at wl;cases F;obtain⟨d0,dV,I⟩:=hT.desc t _ ht;cases d0<;>simp only[jJ,TK.struct.injEq,reduceCtorEq] at I
   rename_i rX;have AQ:=va (xz e z) hz;obtain⟨rP,K,h4⟩:=Ff (e:=e) _ _ ds z.cells (lK z).cells cs AQ h1 A wl;refine⟨.agg rP,?_,by have:=bD.agg (e:=e) h4.1 h4.2;simpa using this⟩;have YV:(rX.mapM λ f=>do pure (f.offset,<-sizeOf f.type):Sem (Array (Nat×Nat))).run P e.w=.ok (rX.map λ f=>(f.offset,P.cellsOf f.type)) e.w:=by
    refine UF _ _ rX λ f hf=>?_
    have Az:(f.type,f.offset,P.cellsOf f.type)∈fs:=by rw[<-I];exact List.mem_map.2 ⟨f,hf,rfl⟩
    have rf:=List.all_eq_true.1 cT _ Az;have YY:0<P.cellsOf f.type:=by simpa[Nat.blt_eq] using rf
    rcases X:P.info? f.type with _|i
    ·simp[Program.cellsOf,X] at YY
    ·simp[sizeOf,typeInfo,X,Program.cellsOf]
   have bF:(λ i=>(rX.map λ f=>(f.offset,P.cellsOf f.type))[i]?)=λ(i:Nat)=>(fs[i]?).map λ(f:TypeId×Nat×Nat)=>(f.2.1,f.2.2):=by
    funext i
    rw[<-I];simp;cases rX[i]?<;>rfl
   obtain⟨dst,op,type,pos,after,guard⟩:=o;simp only at ho;subst ho;have DD:(zeroValue t).run P e.w=.ok z e.w:=By hT ht e.w;rw[<-bF] at K;simp only[execOp,Instr.build,Sem.run_bind,DD,Result.andThen_ok,run_underlying dV];rw[YV];simp only[Result.andThen_ok,Dt,K,Sem.run_pure]
  ·cases F
 ·rename_i n el z1 z2 z ht;rw[ht] at hz;split at F
  ·rename_i j hj;split at F
   ·rename_i cs wl;rw[xA,vQ] at wl;cases F;obtain⟨d0,dV,I⟩:=hT.desc t _ ht;cases d0<;>simp only[jJ,TK.array.injEq,reduceCtorEq] at I
    have AQ:=va (xz e z) hz;obtain⟨rP,K,h4⟩:=Ff (e:=e) _ _ ds z.cells (lK z).cells cs AQ h1 A wl;refine⟨.agg rP,?_,by have:=bD.agg (e:=e) h4.1 h4.2;simpa using this⟩;obtain⟨dst,op,type,pos,after,guard⟩:=o;simp only at ho;subst ho;have DD:(zeroValue t).run P e.w=.ok z e.w:=By hT ht e.w;rw[I.2] at dV;simp only[execOp,Instr.build,Sem.run_bind,DD,Result.andThen_ok,run_underlying dV,run_sizeOf hT hj,Dt,K,Sem.run_pure]
   ·cases F
  ·cases F
 ·cases F
end
end Go.Proofs.YtcnefjfboagbmaaGreat
end
section
namespace Go.Proofs.YtcnefjfboagbmaaGreat
open Go.RowKit
section
variable{P:Program}{ae:Nat->Option TI}{Γ:bI}{S:Nat->Option G}{B:Nat->Option (List G)}{o:Oper}
def xl(zc:List G):Nat->List G
 |0=>[]
 |n+1=>zc++xl zc n
theorem TH(zc:List G):∀n,(xl zc n).length=n*zc.length
 |0=>by simp[xl]
 |n+1=>by simp[xl,TH zc n,Nat.add_mul];omega
theorem TG(zc:List G):∀(n j:Nat),j<n*zc.length->(xl zc n)[j]?=zc[j%zc.length]?
 |0,j,h=>by omega
 |n+1,j,h=>by
  rw[xl];rcases Nat.lt_or_ge j zc.length with hj|hj
  ·rw[List.getElem?_append_left hj,Nat.mod_eq_of_lt hj]
  ·rw[List.getElem?_append_right hj,TG zc n _ (by rw[Nat.add_mul] at h;omega),Nat.mod_eq_sub_mod hj]
def HO{ar:Type}(zc:List G):Nat->(List G->Option ar)->Option ar
 |0,k=>k []
 |n+1,k=>HO zc n λ r=>mE zc r k
theorem TF{ar:Type}(zc:List G):∀(n:Nat)(k:List G->Option ar),HO zc n k=k (xl zc n)
 |0,k=>rfl
 |n+1,k=>by rw[HO,TF zc n,qO];rfl
def xh{ar:Type}:List G->(List Pl->Option ar)->Option ar
 |[],k=>k []
 |.p (.raw v)::l,k=>xh l λ r=>k (.raw v::r)
 |.p (.sl _ n ps)::l,k=>xh l λ r=>k (.sl false n ps::r)
 |.aW _ n ps::l,k=>xh l λ r=>k (.sl false n ps::r)
 |_,_=>none
def qK:List G->Option (List Pl)
 |[]=>some []
 |.p x::l=>(qK l).map (yG x::·)
 |.aW _ n ps::l=>(qK l).map (Pl.sl false n ps::·)
 |_=>none
theorem HG{ar:Type}:∀(ds:List G)(k:List Pl->Option ar),xh ds k=(qK ds).bind k
 |[],k=>rfl
 |.p (.raw v)::l,k=>by simp only[xh,qK,HG l];cases qK l<;>rfl
 |.p (.sl _ n ps)::l,k=>by simp only[xh,qK,HG l];cases qK l<;>rfl
 |.aW _ n ps::l,k=>by simp only[xh,qK,HG l];cases qK l<;>rfl
 |.agg _::l,k=>rfl
 |.bg _::l,k=>rfl
 |.ptr _ _::l,k=>rfl
 |.el _::l,k=>rfl
 |.arr _ _ _ _::l,k=>rfl
 |.fn _ _ _::l,k=>rfl
 |.any::l,k=>rfl
theorem Mt:∀{ds:List G}{ps:List Pl}(_:qK ds=some ps),ds.length=ps.length/\∀(i:Nat) x,ps[i]?=some x->∃d,ds[i]?=some d/\∀e v,bD e v d->db e v x
 |[],ps,h=>by simp only[qK,Option.some.injEq] at h;subst h;exact⟨rfl,λ i x h=>by simp at h⟩
 |.p y::l,ps,h=>by
  simp only[qK,Option.map_eq_some_iff] at h;obtain⟨qs,h1,rfl⟩:=h;obtain⟨A,K⟩:=Mt h1;refine⟨by simp[A],λ i x O=>?_⟩;cases i with
  |zero=>simp only[List.getElem?_cons_zero,Option.some.injEq] at O;subst O;exact⟨_,rfl,λ e v hv=>by cases hv with|p h=>exact h.low⟩
  |succ i=>simpa using K i x (by simpa using O)
 |.aW g n af0::l,ps,h=>by
  simp only[qK,Option.map_eq_some_iff] at h;obtain⟨qs,h1,rfl⟩:=h;obtain⟨A,K⟩:=Mt h1;refine⟨by simp[A],λ i x O=>?_⟩;cases i with
  |zero=>simp only[List.getElem?_cons_zero,Option.some.injEq] at O;subst O;exact⟨_,rfl,λ e v hv=>by cases hv with|aW h _=>exact h⟩
  |succ i=>simpa using K i x (by simpa using O)
 |.agg _::l,ps,h=>by cases h
 |.bg _::l,ps,h=>by cases h
 |.ptr _ _::l,ps,h=>by cases h
 |.el _::l,ps,h=>by cases h
 |.arr _ _ _ _::l,ps,h=>by cases h
 |.fn _ _ _::l,ps,h=>by cases h
 |.any::l,ps,h=>by cases h
def EY(ae:Nat->Option TI)(t:TypeId)(len:Nat)(ds:List (Nat×G)):Option (List Pl):=match ae t with
 |some ⟨.slice el,_,_,_⟩=>match ae el with
  |some j=>bif kU (lK j.zero)&&Nat.beq (lK j.zero).cells.length j.sz&&Nat.ble (len*j.sz) 1000000&&Nat.blt 0 j.sz then(match qP j.zero (λ c=>mF c λ zc=>HO zc len λ z=>xI (λ i=>some (i*j.sz,j.sz)) z ds) with
   |some cs=>bif cs.all G.leaf then xh cs some else none
   |none=>none) else none
  |none=>none
 |_=>none
theorem aaL{e:aA}{us:List Value}{ps:List Pl}{n:Nat}{t:TypeId}(hn:n<=maxLen)(ci:us.length=ps.length)(Yv:∀v∈us,lX v=true)(hr:∀(i:Nat) v x,us[i]?=some v->ps[i]?=some x->db e v x):
 bD (e.alloc (.cells us.toArray t) none) (.slice (some ⟨e.w.heap.size,0,none⟩) n n) (.p (.sl true n ps)):=by
 have hg:=aA.ud e (.cells us.toArray t) none;refine .p (BE (Nat.le_refl _) hn (λ h=>by cases h) (λ _=>rfl) (.inr ⟨_,0,rfl,λ i=>us.getD i undef,λ i x O=>?_⟩));have X:i<us.length:=by rw[ci];exact(List.getElem?_eq_some_iff.1 O).1
 have hu:us[i]?=some us[i]:=List.getElem?_eq_getElem X;have pC:us.getD i undef=us[i]:=by simp[X]
 show _/\_=some (us.getD i undef)/\lX (us.getD i undef)=true/\db _ (us.getD i undef) x;rw[pC];refine⟨λ k I=>?_,?_,Yv _ (List.getElem_mem X),(hr i _ x hu O).next hg.ends⟩
 ·simp[aA.alloc] at I
 ·show(e.w.alloc _).cell? _=_;rw[cell_of_row _ _ (0+i) us.toArray t (0,0) (heap_alloc_new e.w _)];simp
theorem Nw(hT:cW P ae){t:TypeId}{len:Nat}{iF:Array (Nat×Operand)}{ps:List Pl}(ho:o.op=.buildSlice t len iF)(hp:uq S iF.toList (EY ae t len)=some ps):dH P o S B (.p (.sl true len ps)) none:=by
 intro a e hs _;obtain⟨ds,h1,A,F⟩:=IU (e:=e) (a:=a) iF.toList _ ps (λ x O=>hs.1 x (by rw[ho];simp only[Op.operands];simpa using O)) hp;have Dt:(iF.map λ(i,x)=>(i,a.eval x)).toList=iF.toList.map λ p=>(p.1,a.eval p.2):=by simp
 unfold EY at F;split at F
 ·rename_i el z1 z2 z3 ht;split at F
  ·rename_i j hj;cases T:(kU (lK j.zero)&&Nat.beq (lK j.zero).cells.length j.sz&&Nat.ble (len*j.sz) 1000000&&Nat.blt 0 j.sz)
   ·rw[T] at F;cases F
   rw[T] at F;simp only[cond_true] at F;simp only[Bool.and_eq_true] at T;obtain⟨⟨⟨qq,O0⟩,O1⟩,Xt⟩:=T;have Jw:=Nat.eq_of_beq_eq_true O0;have afb:=Nat.le_of_ble_eq_true O1;have O2:0<j.sz:=by simpa[Nat.blt_eq] using Xt
   split at F
   ·rename_i cs wl;rw[xA,vQ,TF] at wl;cases x8:cs.all G.leaf
    ·rw[x8] at F;cases F
    rw[x8] at F;simp only[cond_true,HG,Option.bind_fun_some] at F;obtain⟨d0,dV,I⟩:=hT.desc t _ ht;cases d0<;>simp only[jJ,TK.slice.injEq,reduceCtorEq] at I
    rw[I] at dV;have AQ:=va (xz e j.zero) qq;have ic:j.zero.cells.size=j.sz:=by have:=AQ.1;simp at this;omega
    have ZC:DReps e ((Array.range (len*j.sz)).map (λ i=>j.zero.cells[i%j.zero.cells.size]!)).toList (xl (lK j.zero).cells len):=by
     refine⟨by simp[TH,Jw],λ i v d hv xW=>?_⟩;have du:i<len*j.sz:=by have:=(List.getElem?_eq_some_iff.1 hv).1;simpa using this
     rw[TG _ _ _ (by rw[Jw];exact du),Jw] at xW;simp[du] at hv;rw[ic] at hv;have hm:i%j.sz<j.sz:=Nat.mod_lt _ O2;have:j.zero.cells.toList[i%j.sz]?=some v:=by rw[<-hv];simp[ic,hm]
     exact AQ.2 _ v d this xW
    obtain⟨rP,K,h4⟩:=Ff (e:=e) _ _ ds _ _ cs ZC h1 A wl;obtain⟨h5,h6⟩:=Mt F;unfold Oper.wp;have e1:(execOp a.eval o).run P e.w=.ok (.value (.slice (some ⟨e.w.heap.size,0,none⟩) len len)) (e.w.alloc (.cells rP.toList.toArray el)):=by
     obtain⟨dst,op,type,pos,after,guard⟩:=o;simp only at ho;subst ho;have DD:(zeroValue el).run P e.w=.ok j.zero e.w:=By hT hj e.w;have fK:¬(len*j.sz>2^24):=by omega
     simp only[execOp,Instr.buildSlice,Sem.run_bind,run_underlying dV,Result.andThen_ok,run_sizeOf hT hj];rw[if_neg fK]
     by_cases h0:len*j.sz=0
     ·have ym:(Array.range (len*j.sz)).map (λ i=>j.zero.cells[i%j.zero.cells.size]!)=(Array.range (len*j.sz)).map (λ i=>(#[]:Array Value)[i%(#[]:Array Value).size]!):=by simp[h0]
      rw[ym] at K;simp only[h0,if_true,Sem.run_bind,Sem.run_pure,Result.andThen_ok,Dt] at K⊢;rw[K];simp[newRow]
     ·simp only[h0,if_false,Sem.run_bind,DD,Sem.run_pure,Result.andThen_ok,Dt,K];simp[newRow]
    rw[e1];refine⟨_,e.alloc (.cells rP.toList.toArray el) none,rfl,rfl,aA.ud _ _ _,aaL (by have:len*1<=len*j.sz:=Nat.mul_le_mul_left _ O2;unfold maxLen;omega) (by rw[h4.1,h5]) (λ v hv=>?_) (λ i v x hv O=>?_)⟩
    ·obtain⟨i,X,rfl⟩:=List.mem_iff_getElem.1 hv;have kx:i<cs.length:=by rw[<-h4.1];exact X
     exact KJ (h4.2 i _ _ (List.getElem?_eq_getElem X) (List.getElem?_eq_getElem kx)) (List.all_eq_true.1 x8 _ (List.getElem_mem kx))
    ·obtain⟨d,h7,h8⟩:=h6 i x O;exact h8 e v (h4.2 i v d hv h7)
   ·cases F
  ·cases F
 ·cases F
def zl(S:Nat->Option G)(x:Option Operand)(VF:Int):Option Int:=match x with
 |none=>some VF
 |some y=>match ev S y with
  |some (.p (.raw (.int _ i)))=>some i
  |_=>none
theorem SL(hT:cW P ae){t el:TypeId}{x:Operand}{lo X:Option Operand}{dx:G}{n:Nat}{ps:List Pl}{l h:Int}{z1 z2:Nat}{z3:Value}{j:TI}(m:Nat)(qs:List Pl)(ho:o.op=.slice t x lo X none)(ht:ae t=some ⟨.slice el,z1,z2,z3⟩)(he:ae el=some j)
 (O:ev S x=some dx)(XN:ni dx=some (n,ps))(gU:zl S lo 0=some l)(kw:zl S X n=some h)(h0:0<=l)(h1:l<=h)(A:h<=n)(hm:h-l=m)(Dv:qs.length=m*j.sz)(hq:∀(i:Nat) q,qs[i]?=some q->ps[l.toNat*j.sz+i]?=some q):dH P o S B (.p (.sl false m qs)) none:=by
 refine jh λ a e hs=>?_
 have bO:=w8 (hs.1 x (by rw[ho];simp[Op.operands]) _ O) XN;obtain⟨ab,bK,hv,bR,eE,io,_,hA⟩:=qH bO;obtain⟨d0,dV,I⟩:=hT.desc t _ ht;cases d0<;>simp only[jJ,reduceCtorEq,TK.slice.injEq] at I
 rw[I] at dV;have FY:∀y,lo=some y->∃k,a.eval y=.int k l:=λ y hy=>by
  subst hy;simp only[zl] at gU;split at gU
  ·rename_i k i dk;cases gU;exact⟨k,cR (hs.1 y (by rw[ho];simp[Op.operands]) _ dk)⟩
  ·cases gU
 have Yd:∀y,X=some y->∃k,a.eval y=.int k h:=λ y hy=>by
  subst hy;simp only[zl] at kw;split at kw
  ·rename_i k i dk;cases kw;exact⟨k,cR (hs.1 y (by rw[ho];simp[Op.operands]) _ dk)⟩
  ·cases kw
 have Xw:(Instr.sliceBounds true n bK (lo.map a.eval) (X.map a.eval) none).run P e.w=.ok (l.toNat,h.toNat,bK) e.w:=by
  have Yc:X=none->h=n:=λ Y=>by subst Y;simp only[zl,Option.some.injEq] at kw;omega
  have PS:lo=none->l=0:=λ Y=>by subst Y;simp only[zl,Option.some.injEq] at gU;omega
  have PH:h<=(bK:Int):=by omega
  have PF:0<=h:=by omega
  have PR:l<=(h.toNat:Int):=by omega
  cases X with
  |none=>
   have hn:=Yc rfl;subst hn;cases lo with
   |none=>have:=PS rfl;subst this;simp[Instr.sliceBounds]
   |some y=>obtain⟨k,hy⟩:=FY y rfl;simp only[Int.toNat_natCast] at PR;simp[Instr.sliceBounds,Instr.sliceBound,hy,asIntOf,h0,PR]
  |some HM=>
   obtain⟨jd,Qs⟩:=Yd HM rfl;cases lo with
   |none=>have:=PS rfl;subst this;simp[Instr.sliceBounds,Instr.sliceBound,Qs,asIntOf,PF,PH]
   |some y=>
    obtain⟨k,hy⟩:=FY y rfl;have YC:max h 0=h:=by omega
    simp[Instr.sliceBounds,Instr.sliceBound,hy,Qs,asIntOf,PF,PH,h0,YC,h1]
 have F3:h.toNat-l.toNat=m:=by omega
 refine⟨.slice (if bK=l.toNat then ab else ab.map (·.add (l.toNat*j.sz))) m (bK-l.toNat),?_,.p (BE (by omega) (by omega) (λ bL=>?_) (λ bL=>by cases bL) ?_)⟩
 ·obtain⟨dst,op,type,pos,after,guard⟩:=o;simp only at ho;subst ho;simp only[execOp,Instr.sliceAt,hv,Sem.run_bind,run_underlying dV,Result.andThen_ok,Instr.slice,Option.map_none,Xw,run_sizeOf hT he,F3,Sem.run_pure]
 ·split at bL
  ·omega
  ·cases ab with
   |none=>have:=io rfl;omega
   |some a=>simp at bL
 ·rcases qs with _|⟨q,qs⟩
  ·exact .inl rfl
  ·refine .inr ?_;have cO:ps≠[]:=λ Y=>by have:=hq 0 q rfl;rw[Y] at this;simp at this
   rcases hA with hA|⟨b,of,rfl,ec⟩
   ·exact absurd hA cO
   ·have ml:m≠0:=λ Y=>by rw[Y] at Dv;simp at Dv
    have cE:¬bK=l.toNat:=by omega
    refine⟨b,of+l.toNat*j.sz,by rw[if_neg cE];simp[rM],ec.part _ hq⟩
end
end Go.Proofs.YtcnefjfboagbmaaGreat
end
section
namespace Go.Proofs.YtcnefjfboagbmaaGreat
open Go.RowKit
abbrev u(n:Int):G:=.p (.raw (.int .i64 n))
abbrev dB(b:Bool):G:=.p (.raw (.bool b))
abbrev pI(n:Int):Pl:=.raw (.int .i64 n)
abbrev pB(b:Bool):Pl:=.raw (.bool b)
def bb(l:List Int):List Pl:=l.map pI
abbrev bq(l:List Int):G:=.p (.sl false l.length (bb l))
section
variable{P:Program}{ae:Nat->Option TI}{Γ:bI}{J:St}{Q:Exit->St->Prop}{c:Code}{S:Nat->Option G}{B:Nat->Option (List G)}{o:Oper}
theorem bW{dM:Type}(ok:dM->Prop)(jq:dM->St)(mB:dM->Nat)(i0:dM)(I:ok i0)(h0:bN Γ J (jq i0))(El:∀i,ok i->aK P Γ c (rG (λ bU=>∃j,ok j/\mB j<mB i/\bN Γ bU (jq j)) Q) (jq i)):aK P Γ (.loop c) Q J:=
 UQ (dM:={i:dM//ok i}) (λ i=>jq i.1) (λ i=>mB i.1) ⟨i0,I⟩ h0 λ i=>vK (El i.1 i.2) λ ex bU h=>by
  cases ex with
  |normal=>obtain⟨j,h1,A,K⟩:=h;exact⟨⟨j,h1⟩,A,K⟩
  |_=>exact h
theorem eI{n:Int}(h1:-9223372036854775808<=n)(A:n<=9223372036854775807):IntKind.i64.wrap n=n:=IntWalk.i64_in n (by omega)
theorem MZ(hT:cW P ae){t af:TypeId}{i:TI}{x y:Operand}{a b:Int}(ho:o.op=.binOp .add t x y af)(ht:ae t=some i)(O:ev S x=some (u a))(hy:ev S y=some (u b))(h1:-9223372036854775808<=a+b)(A:a+b<=9223372036854775807):dH P o S B (u (a+b)) none:=
 sW hT (by rw[ho];simp only[ax,ht,O,hy,zk,eI h1 A])
theorem S9(hT:cW P ae){t af:TypeId}{i:TI}{x y:Operand}{a b:Int}(ho:o.op=.binOp .sub t x y af)(ht:ae t=some i)(O:ev S x=some (u a))(hy:ev S y=some (u b))(h1:-9223372036854775808<=a-b)(A:a-b<=9223372036854775807):dH P o S B (u (a-b)) none:=
 sW hT (by rw[ho];simp only[ax,ht,O,hy,zk,eI h1 A])
theorem LF{t af:TypeId}{x y:Operand}{a b:Int}(ho:o.op=.binOp .quo t x y af)(O:ev S x=some (u a))(hy:ev S y=some (u b))(h0:0<=a)(h1:0<b)(A:a<=9223372036854775807):dH P o S B (u (a/b)) none:=by
 refine jh λ ac e hs=>?_
 have bO:=cR (hs.1 x (by rw[ho];simp[Op.operands]) _ O);have ff:=cR (hs.1 y (by rw[ho];simp[Op.operands]) _ hy);refine⟨_,?_,.p (.raw _)⟩;obtain⟨dst,op,type,pos,after,guard⟩:=o;simp only at ho;subst ho;have T:¬b=0:=by omega
 have F:a.tdiv b=a/b:=Int.tdiv_eq_ediv_of_nonneg h0;have K:0<=a/b:=Int.ediv_nonneg h0 (by omega);have h4:a/b<=a:=Int.ediv_le_self b h0;simp[execOp,bO,ff,eqGuard,binOp,Op.intDiv,T,F,eI (n:=a/b) (by omega) (by omega)]
theorem Ho{t af:TypeId}{x y:Operand}{a b:Int}(ho:o.op=.binOp .rem t x y af)(O:ev S x=some (u a))(hy:ev S y=some (u b))(h0:0<=a)(h1:0<b):dH P o S B (u (a%b)) none:=by
 refine jh λ ac e hs=>?_
 have bO:=cR (hs.1 x (by rw[ho];simp[Op.operands]) _ O);have ff:=cR (hs.1 y (by rw[ho];simp[Op.operands]) _ hy);refine⟨_,?_,.p (.raw _)⟩;obtain⟨dst,op,type,pos,after,guard⟩:=o;simp only at ho;subst ho;have T:¬b=0:=by omega
 have F:a.tmod b=a%b:=Int.tmod_eq_emod_of_nonneg h0;simp[execOp,bO,ff,eqGuard,binOp,Op.intDiv,T,F]
theorem sF(l:List Int):(bb l).length=l.length:=by simp[bb]
theorem RO{l:List Int}{i:Nat}{x:Int}(h:l[i]?=some x):(bb l)[i]?=some (pI x):=by simp[bb,h]
theorem gk{l:List Int}{i:Int}{x:Int}(h:l[i.toNat]?=some x):∀(m:Nat) q,[pI x][m]?=some q->(bb l)[i.toNat*1+m]?=some q:=by
 intro m q hq;cases m with
 |zero=>simp at hq;subst hq;simpa using RO h
 |succ m=>simp at hq
theorem l8{ar:Type}{l:List ar}{i:Int}(h0:0<=i)(h:i<l.length):∃x,l[i.toNat]?=some x:=⟨l[i.toNat]'(by omega),List.getElem?_eq_getElem (by omega)⟩
end
end Go.Proofs.YtcnefjfboagbmaaGreat
end
section
namespace Go.Proofs.YtcnefjfboagbmaaGreat
open Go.RowKit
section
variable{P:Program}{ae:Nat->Option TI}{Γ:bI}{Q:Exit->St->Prop}{o:Oper}{l0 l:List Oper}{s:List (Nat×G)}{b:List (Nat×List G)}{g:List (Nat×Gr)}{t:Nat}
theorem ac2{P:Program}{t e:TypeId}(hu:P.underlying t=some (.slice e))(ab:Option Addr)(n c:Nat)(w:World):(Op.equal t (.slice ab n c) (.slice none 0 0)).run P w=.ok ab.isNone w:=by show(Op.equalIn (9999+1) t _ _).run P w=_;rw[Op.equalIn];simp only[Sem.run_bind,run_underlying hu,Result.andThen_ok];cases ab<;>rfl
theorem MX(hT:cW P ae){ty af el:TypeId}{z1 z2:Nat}{z3:Value}{x:Operand}{dx:G}{n:Nat}{ps:List Pl}(ho:o.op=.binOp .eql ty x (.const (.slice none 0 0)) af)(ht:ae ty=some ⟨.slice el,z1,z2,z3⟩)(O:ev (kv s) x=some dx)(F:ni dx=some (n,ps))(hg:gd l0 o (kv s)=some true)(mO:o.dst=some t)(R:Nat.blt t Γ.n=true)
 (h:∀c:Bool,(c=true->n=0)->bp P Γ l0 Q l ⟨(t,dB c)::s,b,g⟩):bp P Γ l0 Q (o::l) ⟨s,b,g⟩:=by
 refine⟨λ a e L=>?_⟩;have hs:=L.iI (J:=⟨s,b,g⟩) o.op.operands;have h1:=w8 (hs.1 x (by rw[ho];simp[Op.operands]) _ O) F;obtain⟨ab,bK,hv,A,_,K,_,_⟩:=qH h1;obtain⟨d0,dV,I⟩:=hT.desc ty _ ht;cases d0<;>simp only[jJ,reduceCtorEq,TK.slice.injEq] at I
 have hn:ab.isNone=true->n=0:=λ bL=>by
  have:=K (by simpa using bL);omega
 have cJ:(execOp a.eval o).run P e.w=.ok (.value (.bool ab.isNone)) e.w:=by obtain⟨dst,op,type,pos,after,guard⟩:=o;simp only at ho;subst ho;have sa:a.eval (.const (.slice none 0 0))=.slice none 0 0:=rfl;simp only[execOp,hv,sa,eqGuard,binOp];simp[ac2 dV]
 have ey:=(L.put (dst:=o.dst) (by rw[mO];exact R) (v:=.bool ab.isNone) (d:=dB ab.isNone) (.p (.raw _)));unfold wpList;rw[if_pos (lN L hg)];refine .inl ?_;unfold Oper.wp;rw[cJ];have:=(h ab.isNone hn).run (a.put o.dst (.bool ab.isNone)) e (by rw[mO] at ey⊢;exact ey);exact this
theorem uU{S:Nat->Option G}{B:Nat->Option (List G)}(hT:cW P ae){ty el:TypeId}{n z1 z2:Nat}{z3:Value}{j:TI}{x y:Operand}{ds:List G}{k:IntKind}{i:Int}(d:G)(ho:o.op=.index ty x y)(ht:ae ty=some ⟨.array n el,z1,z2,z3⟩)(he:ae el=some j)(oQ:j.k.agg=false)(O:ev S x=some (.agg ds))(hy:ev S y=some (.p (.raw (.int k i))))(h0:0<=i)(ba:i<n)(F:ds[i.toNat*j.sz]?=some d):dH P o S B d none:=by
 refine jh λ a e hs=>?_
 have h1:=hs.1 x (by rw[ho];simp[Op.operands]) _ O;have A:=cR (hs.1 y (by rw[ho];simp[Op.operands]) _ hy);generalize dk:a.eval x=vx at h1;cases h1 with
 |agg R hh=>
  rename_i vs;obtain⟨d0,dV,I⟩:=hT.desc ty _ ht;cases d0<;>simp only[jJ,reduceCtorEq,TK.array.injEq] at I
  rw[I.1,I.2] at dV;obtain⟨v,K,h4⟩:=DReps.get ⟨R,hh⟩ F;refine⟨v,?_,h4⟩;obtain⟨dst,op,type,pos,after,guard⟩:=o;simp only at ho;subst ho;simp[execOp,dk,A,Instr.index,asIntOf,run_underlying dV,h0,ba,run_sizeOf hT he,part,Eo hT he,oQ,K]
end
end Go.Proofs.YtcnefjfboagbmaaGreat
end
section
namespace Go.Proofs.YtcnefjfboagbmaaGreat
open Go.RowKit
abbrev dK(k:IntKind)(n:Int):G:=.p (.raw (.int k n))
section
variable{P:Program}{ae:Nat->Option TI}{S:Nat->Option G}{B:Nat->Option (List G)}{o:Oper}
theorem acO{k:IntKind}{t af:TypeId}{x y:Operand}{a b:Int}(ho:o.op=.binOp .rem t x y af)(O:ev S x=some (dK k a))(hy:ev S y=some (dK k b))(h0:0<=a)(h1:0<b):dH P o S B (dK k (a%b)) none:=by
 refine jh λ ac e hs=>?_
 have bO:=cR (hs.1 x (by rw[ho];simp[Op.operands]) _ O);have ff:=cR (hs.1 y (by rw[ho];simp[Op.operands]) _ hy);refine⟨_,?_,.p (.raw _)⟩;obtain⟨dst,op,type,pos,after,guard⟩:=o;simp only at ho;subst ho;have T:¬b=0:=by omega
 have F:a.tmod b=a%b:=Int.tmod_eq_emod_of_nonneg h0;simp[execOp,bO,ff,eqGuard,binOp,Op.intDiv,T,F]
theorem IG(hT:cW P ae){k:IntKind}{s t:TypeId}{x:Operand}{n:Int}{ks:IntKind}{z1 z2 z4 z5:Nat}{z3 z6:Value}(ho:o.op=.convert s t x)(hs:ae s=some ⟨.int ks,z1,z2,z3⟩)(ht:ae t=some ⟨.int .i64,z4,z5,z6⟩)(O:ev S x=some (dK k n))(h1:-9223372036854775808<=n)(A:n<=9223372036854775807):dH P o S B (u n) none:=
 sW hT (by rw[ho];simp only[ax,hs,ht,O,eI h1 A])
end
end Go.Proofs.YtcnefjfboagbmaaGreat
end
section
namespace Go.Proofs.YtcnefjfboagbmaaGreat
open Go.RowKit
def uW(B:Nat->Bool)(d:G):G:=bif d.ok B (λ _=>true) then d else .any
def rR(B:Nat->Bool):List (Nat×G)->List (Nat×G)
 |[]=>[]
 |(t,d)::l=>(t,uW B d)::rR B l
def lx{ar:Type}(B:Nat->Bool):List (Nat×G)->(List (Nat×G)->Option ar)->Option ar
 |[],k=>k []
 |(t,d)::l,k=>match d.ok B (λ _=>true) with
  |true=>lx B l λ r=>k ((t,d)::r)
  |false=>lx B l λ r=>k ((t,.any)::r)
theorem um{ar:Type}(B:Nat->Bool):∀(l:List (Nat×G))(k:List (Nat×G)->Option ar),lx B l k=k (rR B l)
 |[],k=>rfl
 |(t,d)::l,k=>by
  rw[lx,rR];unfold uW;cases d.ok B (λ _=>true)<;>simp only[um B l]<;>rfl
def vR(B:Nat->Bool):List G->List G
 |[]=>[]
 |d::l=>uW B d::vR B l
def zu{ar:Type}(B:Nat->Bool):List G->(List G->Option ar)->Option ar
 |[],k=>k []
 |d::l,k=>match d.ok B (λ _=>true) with
  |true=>zu B l λ r=>k (d::r)
  |false=>zu B l λ r=>k (.any::r)
theorem II{ar:Type}(B:Nat->Bool):∀(l:List G)(k:List G->Option ar),zu B l k=k (vR B l)
 |[],k=>rfl
 |d::l,k=>by
  rw[zu,vR];unfold uW;cases d.ok B (λ _=>true)<;>simp only[II B l]<;>rfl
def iA(H B:Nat->Bool):List (Nat×List G)->List (Nat×List G)
 |[]=>[]
 |(b,cs)::l=>bif H b then iA H B l else(b,vR B cs)::iA H B l
def lL{ar:Type}(H B:Nat->Bool):List (Nat×List G)->(List (Nat×List G)->Option ar)->Option ar
 |[],k=>k []
 |(b,cs)::l,k=>match H b with
  |true=>lL H B l k
  |false=>zu B cs λ q=>lL H B l λ r=>k ((b,q)::r)
theorem ul{ar:Type}(H B:Nat->Bool):∀(l:List (Nat×List G))(k:List (Nat×List G)->Option ar),lL H B l k=k (iA H B l)
 |[],k=>rfl
 |(b,cs)::l,k=>by
  rw[lL,iA];cases H b<;>simp only[II,ul H B l]<;>rfl
theorem IK{B:Nat->Bool}:∀{l:List (Nat×G)}{t:Nat}{d:G},kv (rR B l) t=some d->∃d0,kv l t=some d0/\d=uW B d0
 |[],t,d,h=>by cases h
 |(af,c)::l,t,d,h=>by
  simp only[rR,cM] at h⊢;split at h
  ·rename_i hu;cases h;exact⟨c,by rw[if_pos hu],rfl⟩
  ·rename_i hu;obtain⟨d0,h1,A⟩:=IK h;exact⟨d0,by rw[if_neg hu];exact h1,A⟩
theorem zt{H B:Nat->Bool}:∀{l:List (Nat×List G)}{b:Nat}{cs:List G},kv (iA H B l) b=some cs->H b=false/\∃mH,kv l b=some mH/\cs=vR B mH
 |[],b,cs,h=>by cases h
 |(af,c)::l,b,cs,h=>by
  simp only[iA] at h;cases hH:H af with
  |true=>rw[hH] at h;obtain⟨h1,mH,A,K⟩:=zt (l:=l) h;exact⟨h1,mH,by rw[cM,if_neg (λ e=>by rw[e,h1] at hH;cases hH)];exact A,K⟩
  |false=>
   rw[hH] at h;simp only[cond_false,cM] at h;split at h
   ·rename_i hu;subst hu;cases h;exact⟨hH,c,by rw[cM,if_pos rfl],rfl⟩
   ·rename_i hu;obtain⟨h1,mH,A,K⟩:=zt h;exact⟨h1,mH,by rw[cM,if_neg hu];exact A,K⟩
theorem E6{H B:Nat->Bool}:∀{l:List (Nat×List G)}{b:Nat},kv (iA H B l) b=none->H b=true\/kv l b=none
 |[],b,h=>.inr rfl
 |(af,c)::l,b,h=>by
  simp only[iA] at h;cases hH:H af with
  |true=>
   rw[hH] at h
   by_cases e:af=b
   ·exact .inl (by rw[<-e];exact hH)
   ·rw[cM,if_neg e];exact E6 (l:=l) h
  |false=>
   rw[hH] at h;simp only[cond_false,cM] at h;split at h
   ·cases h
   ·rename_i hu;rw[cM,if_neg hu];exact E6 h
theorem KD{e:aA}{B:Nat->Bool}{v:Value}{d:G}(h:bD e v d):bD (e.cut B λ _=>true) v (uW B d):=by
 unfold uW;cases I:d.ok B (λ _=>true) with
 |true=>exact h.cut I
 |false=>exact .any
theorem IJ{e:aA}{B:Nat->Bool}:∀{cs:List G}{vs:List Value},DReps e vs cs->DReps (e.cut B λ _=>true) vs (vR B cs)
 |[],vs,h=>by
  have:vs=[]:=List.eq_nil_of_length_eq_zero h.1;subst this;exact DReps.nil _
 |d::cs,vs,h=>by
  obtain⟨v,fh,rfl,h1,A⟩:=h.xi;exact DReps.cons (KD h1) (IJ A)
section
variable{P:Program}{ae:Nat->Option TI}{Γ:bI}{J bU bc:St}{o:Oper}
structure fR(U:List (Nat×List G))(e:aA):Prop where
 boxes:∀b cs,kv U b=some cs->hc e b cs
 ei:∀b,kv U b=none->e.bx b=none
 gi:∀g,e.gi g=none
 gr:∀k,e.gr k=none
 bx:∀b k,e.bx b=some k->k<e.w.heap.size/\e.cl k=some 0
 inj:∀b c k,e.bx b=some k->e.bx c=some k->b=c
structure Left(aU:List Nat)(e Y:aA):Prop where
 kept:nQ (λ k=>∃b,e.bx b=some k) e.w Y.w
 cl:∀k,k<e.w.heap.size->¬(∃b,e.bx b=some k)->Y.cl k=e.cl k
 bx:∀b k,Y.bx b=some k->e.w.heap.size<=k\/∃c,e.bx c=some k
 aU:∀b,b∈aU->Y.bx b=e.bx b
def eo(P:Program)(f:FuncId)(aU:List Nat)(ds:List G)(U:List (Nat×List G))(al:G->List (Nat×List G)->Prop):Prop:=
 ∀(e:aA)(vs:List Value),fR U e->DReps e vs ds->
  Calls P f vs.toArray e.w (λ r aI=>∃v d aq Y,r=.returned v/\Y.w=aI/\al d aq/\fR aq Y/\bD Y v d/\Left aU e Y)
def ie(l:List Nat)(n:Nat):Bool:=match l with
 |[]=>false
 |x::l=>bif Nat.beq x n then true else ie l n
theorem Kz:∀{l:List Nat}{n:Nat},ie l n=true->n∈l
 |[],n,h=>by cases h
 |x::l,n,h=>by
  simp only[ie] at h;cases O:Nat.beq x n with
  |true=>rw[Nat.eq_of_beq_eq_true O];exact List.mem_cons_self
  |false=>rw[O] at h;exact List.mem_cons_of_mem _ (Kz h)
theorem Ri:∀{l:List Nat}{n:Nat},n∈l->ie l n=true
 |[],n,h=>by cases h
 |x::l,n,h=>by
  simp only[ie];cases O:Nat.beq x n with
  |true=>rfl
  |false=>
   rcases List.mem_cons.1 h with h|h
   ·subst h;rw[Nat.beq_refl] at O;cases O
   ·exact Ri h
def js(J:St)(H:Nat->Bool):List (Nat×List G)->Prop
 |[]=>True
 |p::l=>(kv J.b p.1=some p.2/\G.ok.eA H (λ _=>false) p.2=true)/\js J H l
theorem js.get{H:Nat->Bool}:∀{l:List (Nat×List G)}(_:js J H l){t:Nat}{d:List G},kv l t=some d->kv J.b t=some d/\G.ok.eA H (λ _=>false) d=true
 |[],_,t,d,h=>by cases h
 |(k,v)::l,hs,t,d,h=>by
  rw[cM] at h;split at h
  ·rename_i I;subst I;cases h;exact hs.1
  ·exact hs.2.get h
theorem ly{e:aA}{a:Act}(L:bu Γ J e a){U:List (Nat×List G)}(hs:js J (aF U) U):fR U (e.cut (aF U) λ _=>false):=by
 refine⟨λ b cs T=>?_,λ b T=>?_,λ g=>?_,λ k=>?_,λ b k I=>?_,λ b c k h1 A=>?_⟩
 ·obtain⟨h1,A⟩:=hs.get T;obtain⟨k,vs,el,K,h4,h5⟩:=L.boxes b cs h1;refine⟨k,vs,el,?_,h4,h5.1,λ i v d hv F=>(h5.2 i v d hv F).cut (qD A F)⟩;show(if aF U b=true then e.bx b else none)=_;rw[if_pos (by simp[aF,T])];exact K
 ·show(if aF U b=true then e.bx b else none)=_;rw[if_neg (by simp[aF,T])]
 ·show(if false=true then e.gi g else none)=_;simp
 ·show(match e.gr k with|some g=>if false=true then some g else none|none=>none)=none;cases e.gr k<;>simp
 ·have dv:(if aF U b=true then e.bx b else none)=some k:=I;split at dv
  ·obtain⟨h1,_,K,_⟩:=L.env.bx b k dv;exact⟨h1,K⟩
  ·cases dv
 ·have aP:(if aF U b=true then e.bx b else none)=some k:=h1;have bs:(if aF U c=true then e.bx c else none)=some k:=A;split at aP
  ·split at bs
   ·exact L.env.inj b c k aP bs
   ·cases bs
  ·cases aP
def aA.after(e Y:aA)(U aq:List (Nat×List G)):aA:=
 {w:=Y.w,cl:=Y.cl,bx:=λ b=>if aF aq b=true then Y.bx b else if aF U b=true then none else e.bx b,gr:=e.gr,gi:=e.gi}
theorem bu.after{e Y:aA}{a:Act}(L:bu Γ J e a){aU:List Nat}{U aq:List (Nat×List G)}(hI:fR aq Y)(Z:Left aU (e.cut (aF U) λ _=>false) Y)(dm:∀b,aF aq b=true->aF U b=true\/kv J.b b=none)(dI:∀b k,kv Γ.kb b=some k->aF U b=true->b∈aU):
 bu Γ ⟨rR (λ b=>!aF U b||ie aU b) J.s,aq++iA (aF U) (λ b=>!aF U b||ie aU b) J.b,J.g⟩ (e.after Y U aq) a/\Ends Y (e.after Y U aq):=by
 have wy:∀k,(∃b,(e.cut (aF U) λ _=>false).bx b=some k)->∃b,aF U b=true/\e.bx b=some k:=by
  rintro k ⟨b,T⟩;have eC:(if aF U b=true then e.bx b else none)=some k:=T;split at eC
  ·rename_i dz;exact⟨b,dz,eC⟩
  ·cases eC
 have Dq:∀b o,e.np b o->¬∃c,(e.cut (aF U) λ _=>false).bx c=some b:=by intro b o dT hh;obtain⟨c,_,h1⟩:=wy b hh;have:=dT 0 (L.env.bx c b h1).2.2.1;omega
 have F8:∀k g,e.gr k=some g->¬∃c,(e.cut (aF U) λ _=>false).bx c=some k:=by intro k g hg hh;obtain⟨c,_,h1⟩:=wy k hh;rw[(L.env.bx c k h1).2.2.2] at hg;cases hg
 have hk:∀b k,aF U b=false->e.bx b=some k->¬∃c,(e.cut (aF U) λ _=>false).bx c=some k:=by intro b k T I hh;obtain⟨c,h1,A⟩:=wy k hh;rw[L.env.inj c b k A I,T] at h1;cases h1
 have fK:∀b,aF U b=false->∀k,e.bx b=some k->aF aq b=false:=by
  intro b T k I;cases dz:aF aq b with
  |false=>rfl
  |true=>
   rcases dm b dz with h|h
   ·rw[T] at h;cases h
   ·rw[L.ei b h] at I;cases I
 have wd:Ends Y (e.after Y U aq):=by
  refine⟨λ _ _ _ h1 A=>⟨h1,A⟩,λ b k I=>?_,λ g au hg=>?_,λ k g au cur hg=>?_⟩
  ·show(if aF aq b=true then Y.bx b else _)=_;rw[if_pos]
   ·exact I
   ·cases T:kv aq b with
    |none=>rw[hI.ei b T] at I;cases I
    |some cs=>simp[aF,T]
  ·rw[hI.gi g] at hg;cases hg
  ·rw[hI.gr k] at hg;cases hg
 have E:Ends (e.cut (λ b=>!aF U b||ie aU b) λ _=>true) (e.after Y U aq):=by
  refine⟨λ b o v dT hv=>?_,λ b k I=>?_,λ g au hg=>⟨au,(show(if true=true then e.gi g else none)=some au from hg)▸(if_pos rfl).symm,rfl,rfl,Nat.le_refl _⟩,λ k g au cur h1 A K=>?_⟩
  ·have hn:=Dq b o dT;have T:=EZ hv;refine⟨λ n lh=>dT n ?_,?_⟩
   ·have:Y.cl b=e.cl b:=Z.cl b T hn;show e.cl b=_;rw[<-this];exact lh
   ·show Y.w.cell? _=_;rw[World.cell?_of_block (w:=e.w) (Z.kept.block b T hn)];exact hv
  ·have dv:(if(!aF U b||ie aU b)=true then e.bx b else none)=some k:=I;split at dv
   ·rename_i hB;cases dz:aF U b with
    |false=>show(if aF aq b=true then Y.bx b else if aF U b=true then none else e.bx b)=_;rw[fK b dz k dv,dz];simpa using dv
    |true=>
     rw[dz] at hB;have hm:=Kz (show ie aU b=true by simpa using hB);have h1:Y.bx b=some k:=by rw[Z.aU b hm];show(if aF U b=true then e.bx b else none)=_;rw[if_pos dz];exact dv
     exact wd.bx b k h1
   ·cases dv
  ·have aP:(match e.gr k with|some g=>if true=true then some g else none|none=>none)=some g:=h1;have hg:e.gr k=some g:=by
    cases ja:e.gr k with
    |none=>rw[ja] at aP;cases aP
    |some g0=>rw[ja] at aP;simpa using aP
   refine⟨hg,cur,?_,rfl⟩;show Y.w.heap[k]?=_;rw[Z.kept.block k (sd K) (F8 k g hg)];exact K
 refine⟨⟨L.size,L.df,λ t d ht=>?_,λ b cs T=>?_,λ b T=>?_,L.gs,⟨?_,λ k I ho=>?_,λ b k I=>?_,λ b c k h1 A=>?_,λ k g hg=>?_,λ b k I=>?_⟩⟩,wd⟩
 ·obtain⟨d0,h1,rfl⟩:=IK ht;exact(KD (L.bP t d0 h1)).next E
 ·have Gg:(∃aO,kv aq b=some aO/\aO=cs)\/(kv aq b=none/\kv (iA (aF U) (λ b=>!aF U b||ie aU b) J.b) b=some cs):=by
   clear E wd fK dm hI Z;induction aq with
   |nil=>exact .inr ⟨rfl,T⟩
   |cons p l ih=>
    obtain⟨af,q⟩:=p;simp only[List.cons_append,cM] at T⊢;split at T
    ·rename_i hu;cases T;exact .inl ⟨cs,by rw[if_pos hu],rfl⟩
    ·rename_i hu;rw[if_neg hu];exact ih T
  rcases Gg with⟨_,h1,rfl⟩|⟨h1,A⟩
  ·exact(hI.boxes b _ h1).ends wd rfl
  ·obtain⟨K,mH,h4,rfl⟩:=zt A;obtain⟨k,vs,el,h5,h6,h7⟩:=L.boxes b mH h4;refine⟨k,vs,el,?_,?_,(IJ h7).next E⟩
   ·show(if aF aq b=true then Y.bx b else if aF U b=true then none else e.bx b)=_;rw[fK b K k h5,K];simpa using h5
   ·show Y.w.heap[k]?=_;rw[Z.kept.block k (sd h6) (hk b k K h5)];exact h6
 ·have Gg:kv aq b=none/\kv (iA (aF U) (λ b=>!aF U b||ie aU b) J.b) b=none:=by
   clear E wd fK dm hI Z;induction aq with
   |nil=>exact⟨rfl,T⟩
   |cons p l ih=>
    obtain⟨af,q⟩:=p;simp only[List.cons_append,cM] at T⊢;split at T
    ·cases T
    ·rename_i hu;rw[if_neg hu];exact ih T
  show(if aF aq b=true then Y.bx b else if aF U b=true then none else e.bx b)=_;rw[if_neg (by simp[aF,Gg.1])];split
  ·rfl
  ·rename_i hn;rcases E6 Gg.2 with h|h
   ·exact absurd h hn
   ·exact L.ei b h
 ·refine⟨Z.kept.os.trans L.env.kept.os,Z.kept.tape.trans L.env.kept.tape,Z.kept.output.trans L.env.kept.output,Nat.le_trans L.env.kept.size Z.kept.size,λ k I ho=>?_⟩;show Y.w.heap[k]?=_;rw[Z.kept.block k (Nat.lt_of_lt_of_le I L.env.kept.size)]
  ·exact L.env.kept.block k I ho
  ·intro hh;obtain⟨c,_,h1⟩:=wy k hh;rcases(L.env.bx c k h1).2.1 with h|h
   ·omega
   ·exact ho h
 ·show Y.cl k=_;rw[Z.cl k (Nat.lt_of_lt_of_le I L.env.kept.size)]
  ·exact L.env.cl k I ho
  ·intro hh;obtain⟨c,_,h1⟩:=wy k hh;rcases(L.env.bx c k h1).2.1 with h|h
   ·omega
   ·exact ho h
 ·have dv:(if aF aq b=true then Y.bx b else if aF U b=true then none else e.bx b)=some k:=I;split at dv
  ·obtain⟨h1,A⟩:=hI.bx b k dv;refine⟨h1,?_,A,?_⟩
   ·rcases Z.bx b k dv with h|h
    ·exact .inl (Nat.le_trans L.env.kept.size h)
    ·obtain⟨c,_,K⟩:=wy k h;exact(L.env.bx c k K).2.1
   ·show e.gr k=none;cases hg:e.gr k with
    |none=>rfl
    |some g=>
     obtain⟨_,_,_,K,_⟩:=L.env.gr k g hg;rcases Z.bx b k dv with h|h
     ·have bL:e.w.heap.size<=k:=h;omega
     ·exact absurd h (F8 k g hg)
  ·split at dv
   ·cases dv
   ·rename_i hn;obtain⟨h1,A,K,h4⟩:=L.env.bx b k dv;refine⟨Nat.lt_of_lt_of_le h1 Z.kept.size,A,?_,h4⟩;show Y.cl k=_;rw[Z.cl k h1 (hk b k (by simpa using hn) dv)];exact K
 ·have aP:(if aF aq b=true then Y.bx b else if aF U b=true then none else e.bx b)=some k:=h1;have bs:(if aF aq c=true then Y.bx c else if aF U c=true then none else e.bx c)=some k:=A;have Rl:∀b c,Y.bx b=some k->aF U c=false->e.bx c=some k->False:=by
   intro b c T bR eE;rcases Z.bx b k T with h|h
   ·have bL:e.w.heap.size<=k:=h;have:=(L.env.bx c k eE).1;omega
   ·exact hk c k bR eE h
  split at aP
  ·split at bs
   ·exact hI.inj b c k aP bs
   ·split at bs
    ·cases bs
    ·rename_i hn;exact(Rl b c aP (by simpa using hn) bs).elim
  ·split at aP
   ·cases aP
   ·rename_i hn;split at bs
    ·exact(Rl c b bs (by simpa using hn) aP).elim
    ·split at bs
     ·cases bs
     ·exact L.env.inj b c k aP bs
 ·obtain⟨au,cur,h1,A,K,h4,h5⟩:=L.env.gr k g hg;refine⟨au,cur,h1,Nat.lt_of_lt_of_le A Z.kept.size,K,?_,?_⟩
  ·show Y.cl k=_;rw[Z.cl k A (F8 k g hg)];exact h4
  ·show Y.w.heap[k]?=_;rw[Z.kept.block k A (F8 k g hg)];exact h5
 ·have h1:=L.env.kb b k I;refine E.bx b k ?_;show(if(!aF U b||ie aU b)=true then e.bx b else none)=_;rw[if_pos]
  ·exact h1
  ·cases dz:aF U b with
   |false=>rfl
   |true=>have:=Ri (dI b k I dz);simp[this]
end
end Go.Proofs.YtcnefjfboagbmaaGreat
end
section
namespace Go.Proofs.YtcnefjfboagbmaaGreat
open Go.RowKit
section
variable{P:Program}{ae:Nat->Option TI}{Γ:bI}{J bU bc:St}{o:Oper}{l0 l:List Oper}{Q:Exit->St->Prop}
variable{s M:List (Nat×G)}{b bj:List (Nat×List G)}{g:List (Nat×Gr)}{t:Nat}{d:G}
def ke(U b:List (Nat×List G)):List (Nat×List G)->Prop
 |[]=>True
 |p::l=>(aF U p.1=true\/kv b p.1=none)/\ke U b l
theorem ke.get{U b:List (Nat×List G)}:∀{l:List (Nat×List G)}(_:ke U b l){n:Nat},aF l n=true->aF U n=true\/kv b n=none
 |[],_,n,h=>by simp[aF,kv] at h
 |(k,v)::l,hs,n,h=>by
  by_cases e:k=n
  ·subst e;exact hs.1
  ·exact hs.2.get (by simpa[aF,cM,e] using h)
def rI(aU:List Nat)(U:List (Nat×List G)):List (Nat×Nat)->Prop
 |[]=>True
 |p::l=>(aF U p.1=false\/ie aU p.1=true)/\rI aU U l
theorem rI.get{aU:List Nat}{U:List (Nat×List G)}:∀{l:List (Nat×Nat)}(_:rI aU U l){b k:Nat},kv l b=some k->aF U b=true->b∈aU
 |[],_,n,k,h,_=>by cases h
 |(x,v)::l,hs,n,k,h,T=>by
  rw[cM] at h;split at h
  ·rename_i e;subst e;rcases hs.1 with h1|h1
   ·rw[T] at h1;cases h1
   ·exact Kz h1
  ·exact hs.2.get h T
theorem QC{f:FuncId}{aU:List Nat}{ds:List G}{U:List (Nat×List G)}{al:G->List (Nat×List G)->Prop}(hC:eo P f aU ds U al){e:aA}{a:Act}(L:bu Γ ⟨s,b,g⟩ e a){vs:List Value}(hv:DReps e vs ds)(aQ:G.ok.eA (aF U) (λ _=>false) ds=true)(hs:js ⟨s,b,g⟩ (aF U) U)(dI:rI aU U Γ.kb)
 (F:o.dst=some t)(R:Nat.blt t Γ.n=true)(gx:lx (λ b=>!aF U b||ie aU b) s (λ M=>lL (aF U) (λ b=>!aF U b||ie aU b) b (λ bj=>some (M,bj)))=some (M,bj))
 (dm:∀d aq,al d aq->ke U b aq){d9:Exit->Act->World->Prop}:
 Calls P f vs.toArray e.w λ
  |.returned v,nk=>∃d aq Y,al d aq/\Y.w=nk/\bu Γ ⟨(t,d)::M,aq++bj,g⟩ Y (a.put o.dst v)
  |.panicked _,_=>False
  |.outgrown,_=>LetsOut d9:=by
 rw[um,ul] at gx;cases gx;refine(hC (e.cut (aF U) λ _=>false) vs (ly L hs) ⟨hv.1,λ i v d h1 A=>(hv.2 i v d h1 A).cut (qD aQ A)⟩).mono λ r aI hh=>?_
 obtain⟨v,d,aq,Y,rfl,rfl,hR,hI,hr,Z⟩:=hh;obtain⟨h1,A⟩:=L.after hI Z (λ n hn=>(dm d aq hR).get hn) (λ n k h1 A=>dI.get h1 A);refine⟨d,aq,e.after Y U aq,hR,rfl,?_⟩;have:=h1.put (dst:=o.dst) (qk F R) (hr.next A);rw[F] at this⊢;exact this
theorem Na(hg:gd l0 o (kv s)=some true){al:G->List (Nat×List G)->Prop}(hs:∀(a:Act)(e:aA),bu Γ ⟨s,b,g⟩ e a->o.wp P a e.w (λ br aI=>∃d aq Y,al d aq/\Y.w=aI/\bu Γ ⟨(t,d)::M,aq++bj,g⟩ Y br) (λ _ _ _=>False))(h:∀d aq,al d aq->bp P Γ l0 Q l ⟨(t,d)::M,aq++bj,g⟩):bp P Γ l0 Q (o::l) ⟨s,b,g⟩:=by refine⟨λ a e L=>?_⟩;unfold wpList;rw[if_pos (lN L hg)];refine .inl (xk (hs a e L) λ br aI hh=>?_);obtain⟨d,aq,Y,hR,rfl,ey⟩:=hh;exact(h d aq hR).run br Y ey
theorem CB{a:Act}{e:aA}{S:Nat->Option G}(xs:List Operand){ds:List G}(h:∀x∈xs,∀d,ev S x=some d->bD e (a.eval x) d)(he:i5 S xs some=some ds):DReps e (xs.map a.eval) ds:=by obtain⟨jm,h1,A⟩:=td xs _ ds h he;cases A;exact h1
theorem hJ{f:FuncId}{aU:List Nat}{ds:List G}{U:List (Nat×List G)}{al:G->List (Nat×List G)->Prop}{xs:List Operand}{fx:Array TypeId}(hC:eo P f aU ds U al)(ho:o.op=.call {callee:=.value (.func f),args:=xs.toArray,argTypes:=fx})(hf:jN P f)(he:i5 (kv s) xs some=some ds)(aQ:G.ok.eA (aF U) (λ _=>false) ds=true)(hs:js ⟨s,b,g⟩ (aF U) U)(dI:rI aU U Γ.kb)
 (hg:gd l0 o (kv s)=some true)(F:o.dst=some t)(R:Nat.blt t Γ.n=true)(gx:lx (λ b=>!aF U b||ie aU b) s (λ M=>lL (aF U) (λ b=>!aF U b||ie aU b) b (λ bj=>some (M,bj)))=some (M,bj))
 (dm:∀d aq,al d aq->ke U b aq)(h:∀d aq,al d aq->bp P Γ l0 Q l ⟨(t,d)::M,aq++bj,g⟩):bp P Γ l0 Q (o::l) ⟨s,b,g⟩:=by
 refine Na hg (λ a e L=>?_) h;have jn:=L.iI o.op.operands;have hv:=CB (a:=a) (e:=e) xs (λ x O=>jn.1 x (by rw[ho];simp[Op.operands,Call.operands,O])) he;unfold Oper.wp;have e1:(execOp a.eval o).run P e.w=.ok (.enter f (xs.map a.eval).toArray) e.w:=by obtain⟨dst,op,type,pos,after,guard⟩:=o;simp only at ho;subst ho;rw[execOp_call_go,hf];simp
 rw[e1];exact QC hC L hv aQ hs dI F R gx dm
theorem xr{f:FuncId}{aU:List Nat}{ds first cG:List G}{U:List (Nat×List G)}{al:G->List (Nat×List G)->Prop}{fo:Operand}{xs:List Operand}{fx:Array TypeId}(hC:eo P f aU ds U al)(ho:o.op=.call {callee:=.value fo,args:=xs.toArray,argTypes:=fx})(hf:jN P f)(uy:ev (kv s) fo=some (.fn (.func f) first cG))(he:i5 (kv s) xs (λ jm=>mE first jm λ r=>mE r cG some)=some ds)(aQ:G.ok.eA (aF U) (λ _=>false) ds=true)(hs:js ⟨s,b,g⟩ (aF U) U)(dI:rI aU U Γ.kb)
 (hg:gd l0 o (kv s)=some true)(F:o.dst=some t)(R:Nat.blt t Γ.n=true)(gx:lx (λ b=>!aF U b||ie aU b) s (λ M=>lL (aF U) (λ b=>!aF U b||ie aU b) b (λ bj=>some (M,bj)))=some (M,bj))
 (dm:∀d aq,al d aq->ke U b aq)(h:∀d aq,al d aq->bp P Γ l0 Q l ⟨(t,d)::M,aq++bj,g⟩):bp P Γ l0 Q (o::l) ⟨s,b,g⟩:=by
 refine Na hg (λ a e L=>?_) h;have jn:=L.iI o.op.operands;obtain⟨jm,hr,nB⟩:=td (a:=a) (e:=e) xs _ ds (λ x O=>jn.1 x (by rw[ho];simp[Op.operands,Call.operands,O])) he;rw[qO,qO] at nB;cases nB;have wq:=jn.1 fo (by rw[ho];simp[Op.operands,Call.operands]) _ uy;generalize dk:a.eval fo=gv at wq;cases wq with
 |fn ia dJ h1 A=>
  rename_i us vs;have cT:DReps e (us++xs.map a.eval++vs) (first++jm++cG):=(DReps.append ⟨ia,h1⟩ hr).append ⟨dJ,A⟩;unfold Oper.wp;have e1:(execOp a.eval o).run P e.w=.ok (.enter f (us++xs.map a.eval++vs).toArray) e.w:=by obtain⟨dst,op,type,pos,after,guard⟩:=o;simp only at ho;subst ho;simp only[execOp,resolve,dk,Deferred.ofValue,Sem.run_bind,Sem.run_pure,Result.andThen_ok,invoke];rw[hf];simp
  rw[e1];exact QC hC L cT aQ hs dI F R gx dm
def tX(ae:Nat->Option TI)(J:St)(l:List ResultVar):Option G:=Eg ae J l λ
 |[d]=>some d
 |ds=>some (.bg ds)
theorem pd(hT:cW P ae){fn:Func}{e:aA}{a:Act}(L:bu Γ J e a){d:G}(h:tX ae J fn.results.toList=some d):∃v,(results fn a.tmps).run P e.w=.ok v e.w/\bD e v d:=by
 unfold tX at h;obtain⟨ds,vs,sA,nB,h⟩:=LM hT L _ _ d h;split at h
 ·rename_i d0;obtain⟨v,fh,rfl,hv,hn⟩:=nB.xi;have:fh=[]:=List.eq_nil_of_length_eq_zero hn.1;subst this;cases h;refine⟨v,?_,hv⟩;rw[Bx,Array.mapM_eq_mapM_toList];simp only[bind_map_left,Sem.run_bind,sA,Result.andThen_ok,Sem.run_pure];simp
 ·rename_i cE;cases h;refine⟨.tuple vs.toArray,?_,.bg nB.1 nB.2⟩;rw[Bx,Array.mapM_eq_mapM_toList];simp only[bind_map_left,Sem.run_bind,sA,Result.andThen_ok,Sem.run_pure];rw[dif_neg];intro hs;have R:ds.length=1:=by rw[<-nB.1];simpa using hs
  obtain⟨d1,rfl⟩:=List.length_eq_one_iff.1 R;exact cE d1 rfl
def ki(U:List (Nat×List G)):List Nat->Prop
 |[]=>True
 |n::l=>aF U n=true/\ki U l
theorem ki.get{U:List (Nat×List G)}:∀{l:List Nat}(_:ki U l){n:Nat},n∈l->aF U n=true
 |[],_,n,h=>by cases h
 |x::l,hs,n,h=>by
  rcases List.mem_cons.1 h with h|h
  ·subst h;exact hs.1
  ·exact hs.2.get h
def BS(ae:Nat->Option TI)(rs:List ResultVar)(aU:List Nat)(al:G->List (Nat×List G)->Prop):Exit->St->Prop:=λ ex J=>(ex=.normal\/ex=.ret)/\∃d aq,tX ae J rs=some d/\d.ok (aF aq) (λ _=>false)=true/\js J (aF aq) aq/\ki aq aU/\al d aq
theorem im{rs:List ResultVar}{aU:List Nat}{al:G->List (Nat×List G)->Prop}(aq:List (Nat×List G))(h:tX ae J rs=some d)(h1:d.ok (aF aq) (λ _=>false)=true)(A:js J (aF aq) aq)(K:ki aq aU)(hR:al d aq):BS ae rs aU al .ret J:=⟨.inr rfl,d,aq,h,h1,A,K,hR⟩
theorem jR{rs:List ResultVar}{aU:List Nat}{al:G->List (Nat×List G)->Prop}(aq:List (Nat×List G))(h:tX ae J rs=some d)(h1:d.ok (aF aq) (λ _=>false)=true)(A:js J (aF aq) aq)(K:ki aq aU)(hR:al d aq):BS ae rs aU al .normal J:=⟨.inl rfl,d,aq,h,h1,A,K,hR⟩
def lW(kf:Nat->Nat):List Nat->List (Nat×Nat)
 |[]=>[]
 |n::l=>(n,kf n)::lW kf l
theorem AU{kf:Nat->Nat}:∀{l:List Nat}{n k:Nat},kv (lW kf l) n=some k->n∈l/\k=kf n
 |[],n,k,h=>by cases h
 |x::l,n,k,h=>by
  simp only[lW,cM] at h;split at h
  ·rename_i e;subst e;cases h;exact⟨List.mem_cons_self,rfl⟩
  ·obtain⟨h1,A⟩:=AU h;exact⟨List.mem_cons_of_mem _ h1,A⟩
theorem yA{kf:Nat->Nat}:∀{l:List Nat}{n:Nat},n∈l->kv (lW kf l) n=some (kf n)
 |[],n,h=>by cases h
 |x::l,n,h=>by
  simp only[lW,cM];split
  ·rename_i e;subst e;rfl
  ·rename_i e;rcases List.mem_cons.1 h with h|h
   ·exact absurd h.symm e
   ·exact yA h
theorem ZJ(hT:cW P ae){f:FuncId}{fn:Func}{c:Code}{ds:List G}{aU:List Nat}{U:List (Nat×List G)}{al:G->List (Nat×List G)->Prop}{rs:List ResultVar}{n:Nat}{s:List (Nat×G)}(hf:P.funcs[f]?=some fn)(T:fn.body=some c)(iu:fn.ntmps=n)(lU:fn.results.toList=rs)(hn:Nat.ble ds.length n=true)(hs:rV 0 ds some=some s)(nZ:ki U aU)
 (h:∀w cl own kf,aK P ⟨n,w,cl,own,lW kf aU,[]⟩ c (BS ae rs aU al) ⟨s,U,[]⟩):eo P f aU ds U al:=by
 subst iu;subst lU;rw[zz] at hs;cases hs;have hn:=Nat.le_of_ble_eq_true hn;intro e vs hI hv;refine calls_of_wp hf T ?_;have R:vs.length=ds.length:=hv.1;have i8:∀b,b∈aU->e.bx b=some ((e.bx b).getD 0):=λ b T=>by
  have h1:=nZ.get T;obtain⟨cs,cH⟩:=Option.isSome_iff_exists.1 h1;obtain⟨k,_,_,A,_⟩:=hI.boxes b cs cH;rw[A];rfl
 have L:bu ⟨fn.ntmps,e.w,e.cl,λ k=>∃b,e.bx b=some k,lW (λ b=>(e.bx b).getD 0) aU,[]⟩ ⟨uo.go 0 ds,U,[]⟩ e {tmps:=vs.toArray++Array.replicate (fn.ntmps-vs.toArray.size) undef,defers:=[]}:=by
  refine⟨by simp;omega,rfl,λ t d0 ht=>?_,hI.boxes,hI.ei,λ g=>by rw[hI.gi];rfl,⟨nQ.refl _ _,λ _ _ _=>rfl,λ b k I=>⟨(hI.bx b k I).1,.inr ⟨b,I⟩,(hI.bx b k I).2,hI.gr k⟩,hI.inj,λ k g I=>(by rw[hI.gr] at I;cases I),λ b k I=>?_⟩⟩
  ·obtain⟨_,A⟩:=Cz ds 0 t d0 ht;simp only[Nat.sub_zero] at A;obtain⟨v,K,h4⟩:=hv.get A;have gz:t<vs.length:=(List.getElem?_eq_some_iff.1 K).1;have:fZ {tmps:=vs.toArray++Array.replicate (fn.ntmps-vs.toArray.size) undef,defers:=[]} t=v:=by
    unfold fZ;simp only[Array.getD_eq_getD_getElem?];rw[Array.getElem?_append_left (by simpa using gz),List.getElem?_toArray,K]
    rfl
   rw[this];exact h4
  ·obtain⟨h1,A⟩:=AU I;rw[A];exact i8 b h1
 refine Code.wp_mono (λ ex br aI hh=>?_) ((h e.w e.cl _ _).run _ e L);obtain⟨bU,Y,rfl,A,K,d,aq,h4,h5,h6,h7,h8⟩:=hh;obtain⟨v,hr,hv⟩:=pd hT A h4;have Yw:Left aU e (Y.cut (aF aq) λ _=>false):=by
  refine⟨A.env.kept,A.env.cl,λ b k I=>?_,λ b T=>?_⟩
  ·have dv:(if aF aq b=true then Y.bx b else none)=some k:=I;split at dv
   ·exact(A.env.bx b k dv).2.1
   ·cases dv
  ·show(if aF aq b=true then Y.bx b else none)=_;rw[if_pos (h7.get T),i8 b T];exact A.env.kb b _ (yA T)
 have kR:br.defers=[]/\∃v,(results fn br.tmps).run P Y.w=.ok v Y.w/\∃kY d aq nu,Ending.returned v=.returned kY/\nu.w=Y.w/\al d aq/\fR aq nu/\bD nu kY d/\Left aU e nu:=
  ⟨A.df,v,hr,v,d,aq,Y.cut (aF aq) λ _=>false,rfl,rfl,h8,ly A h6,hv.cut h5,Yw⟩
 rcases K with rfl|rfl
 ·exact kR
 ·exact kR
def BA(Q:Exit->St->Prop):Exit->St->Prop
 |.goto _,_=>False
 |ex,J=>Q ex J
theorem UU{c:Code}(h:aK P Γ c (BA Q) J):aK P Γ (.scope c) Q J:=⟨λ a e L=>by
 refine wp_scope_straight (Code.wp_mono (λ ex br aI hh=>?_) (h.run a e L));obtain⟨bU,Y,rfl,A,K⟩:=hh;cases ex with
 |goto l=>exact K.elim
 |_=>exact⟨bU,Y,rfl,A,K⟩⟩
theorem UP{n:Nat}(h:Q .normal J):aK P Γ (.label n) Q J:=⟨λ _ e L=>wp_label ⟨J,e,rfl,L,h⟩⟩
end
end Go.Proofs.YtcnefjfboagbmaaGreat
end
section
namespace Go.Proofs.YtcnefjfboagbmaaGreat
open Go.RowKit
section
variable{P:Program}{ae:Nat->Option TI}{Γ:bI}{J bU bc:St}{o:Oper}{l0 l:List Oper}{Q:Exit->St->Prop}
def cx(n:Nat):Nat->Bool:=λ m=>!Nat.beq n m
theorem Lb{n m:Nat}(h:cx n m=true):m≠n:=λ e=>by subst e;simp[cx] at h
theorem aa0{n m:Nat}(h:m≠n):cx n m=true:=by
 have:Nat.beq n m=false:=by rw[Bool.eq_false_iff];intro T;exact h (Nat.eq_of_beq_eq_true T).symm
 simp[cx,this]
theorem bu.forget{e:aA}{a:Act}(L:bu Γ J e a)(nm:Nat)(I:kv Γ.kb nm=none):bu Γ ⟨rR (cx nm) J.s,iA (Nat.beq nm) (cx nm) J.b,J.g⟩ (e.cut (cx nm) λ _=>true) a:=by
 have i8:∀b k,(e.cut (cx nm) λ _=>true).bx b=some k->e.bx b=some k:=λ b k h=>by
  have bL:(if cx nm b=true then e.bx b else none)=some k:=h;split at bL
  ·exact bL
  ·cases bL
 have gT:∀k,(e.cut (cx nm) λ _=>true).gr k=e.gr k:=λ k=>by
  show(match e.gr k with|some g=>if true=true then some g else none|none=>none)=_;cases e.gr k<;>simp
 have fC:∀g,(e.cut (cx nm) λ _=>true).gi g=e.gi g:=λ g=>by
  show(if true=true then e.gi g else none)=_;simp
 refine⟨L.size,L.df,λ t d ht=>?_,λ b cs T=>?_,λ b T=>?_,λ g=>by rw[fC];exact L.gs g,L.env.kept,L.env.cl,λ b k h=>?_,λ b c k h1 A=>L.env.inj b c k (i8 _ _ h1) (i8 _ _ A),λ k g h=>?_,λ b k h=>?_⟩
 ·obtain⟨d0,h1,rfl⟩:=IK ht;exact KD (L.bP t d0 h1)
 ·obtain⟨h1,mH,A,rfl⟩:=zt T;obtain⟨k,vs,el,K,h4,h5⟩:=L.boxes b mH A;refine⟨k,vs,el,?_,h4,IJ h5⟩;show(if cx nm b=true then e.bx b else none)=_;rw[if_pos (by simp[cx,h1])];exact K
 ·show(if cx nm b=true then e.bx b else none)=_;rcases E6 T with h|h
  ·rw[if_neg (by simp only[cx,h];decide)]
  ·rw[L.ei b h];simp
 ·obtain⟨h1,A,K,h4⟩:=L.env.bx b k (i8 b k h);exact⟨h1,A,K,by rw[gT];exact h4⟩
 ·rw[gT] at h;obtain⟨au,cur,h1,A⟩:=L.env.gr k g h;exact⟨au,cur,by rw[fC];exact h1,A⟩
 ·show(if cx nm b=true then e.bx b else none)=_;rw[if_pos (aa0 (λ Y=>by rw[Y,I] at h;cases h))];exact L.env.kb b k h
theorem bu.Ft{e:aA}{a:Act}(L:bu Γ J e a){b k:Nat}{cs:List G}(T:kv J.b b=none)(I:k<e.w.heap.size)(py:Γ.w0.heap.size<=k\/Γ.own k)(dT:e.cl k=some 0)(gT:e.gr k=none)(dm:∀c,e.bx c≠some k)
 (hi:hc (e.iX b k) b cs):bu Γ ⟨J.s,(b,cs)::J.b,J.g⟩ (e.iX b k) a:=by
 have hn:=L.ei b T;have E:=t7 (k:=k) hn;refine⟨L.size,L.df,λ t d ht=>(L.bP t d ht).next E,λ c ds q6=>?_,λ c sa=>?_,L.gs,?_⟩
 ·simp only[cM] at q6;split at q6
  ·rename_i tv;subst tv;cases q6;exact hi
  ·exact(L.boxes c ds q6).ends E rfl
 ·simp only[cM] at sa;split at sa
  ·cases sa
  ·rename_i tv;show(if c=b then some k else e.bx c)=none;rw[if_neg (λ Y=>tv Y.symm)];exact L.ei c sa
 ·refine⟨L.env.kept,L.env.cl,λ c j hj=>?_,λ c bw j h1 A=>?_,L.env.gr,λ c j hj=>E.bx c j (L.env.kb c j hj)⟩
  ·have eF:(if c=b then some k else e.bx c)=some j:=hj;split at eF
   ·cases eF;exact⟨I,py,dT,gT⟩
   ·exact L.env.bx c j eF
  ·have aP:(if c=b then some k else e.bx c)=some j:=h1;have bs:(if bw=b then some k else e.bx bw)=some j:=A
   by_cases e1:c=b<;>by_cases e2:bw=b
   ·rw[e1,e2]
   ·rw[if_pos e1] at aP;rw[if_neg e2] at bs;cases aP;exact absurd bs (dm bw)
   ·rw[if_neg e1] at aP;rw[if_pos e2] at bs;cases bs;exact absurd aP (dm c)
   ·rw[if_neg e1] at aP;rw[if_neg e2] at bs;exact L.env.inj c bw j aP bs
theorem bu.SD{e:aA}{a:Act}(L:bu Γ J e a){k:Nat}(us:List Value)(py:Γ.w0.heap.size<=k\/Γ.own k)(dT:e.cl k=some 0)(gT:e.gr k=none)(dm:∀c,e.bx c≠some k):
 bu Γ J {e with w:=e.w.setRow k us.toArray} a/\Ends e {e with w:=e.w.setRow k us.toArray}:=by
 have hk:∀j,j≠k->(e.w.setRow k us.toArray).heap[j]?=e.w.heap[j]?:=λ j hj=>setRow_other e.w k j _ hj
 have E:Ends e {e with w:=e.w.setRow k us.toArray}:=by
  refine⟨λ bj o v CV hv=>?_,λ _ _ h=>h,λ _ au h=>⟨au,h,rfl,rfl,Nat.le_refl _⟩,λ j g au cur h5 h6 h7=>⟨h5,cur,?_,rfl⟩⟩
  ·have cE:bj≠k:=λ Y=>by subst Y;exact absurd (CV 0 dT) (by omega)
   exact⟨CV,by show(e.w.setRow k us.toArray).cell? _=_;rw[World.cell?_of_block (w:=e.w) (hk bj cE)];exact hv⟩
  ·show(e.w.setRow k us.toArray).heap[j]?=_;rw[hk j (λ Y=>by subst Y;rw[gT] at h5;cases h5)];exact h7
 refine⟨⟨L.size,L.df,λ t d ht=>(L.bP t d ht).next E,λ bj ds F=>?_,L.ei,L.gs,?_⟩,E⟩
 ·obtain⟨jd,fh,Cx,h5,h6,h7⟩:=L.boxes bj ds F;refine⟨jd,fh,Cx,h5,?_,h7.next E⟩;show(e.w.setRow k us.toArray).heap[jd]?=_;rw[hk jd (λ Y=>dm bj (by rw[h5,Y]))];exact h6
 ·refine⟨⟨L.env.kept.os,L.env.kept.tape,L.env.kept.output,by show _<=(e.w.setRow k us.toArray).heap.size;rw[setRow_size];exact L.env.kept.size,λ j hj ho=>?_⟩,L.env.cl,λ bj j hj=>?_,L.env.inj,λ j g hg=>?_,L.env.kb⟩
  ·show(e.w.setRow k us.toArray).heap[j]?=_;rw[hk j (λ Y=>by subst Y;rcases py with A|A<;>first|omega|exact ho A)];exact L.env.kept.block j hj ho
  ·obtain⟨h5,h6,h7,h8⟩:=L.env.bx bj j hj;exact⟨by show j<(e.w.setRow k us.toArray).heap.size;rw[setRow_size];exact h5,h6,h7,h8⟩
  ·obtain⟨au,cur,h5,h6,h7,h8,h9⟩:=L.env.gr j g hg;refine⟨au,cur,h5,by show j<(e.w.setRow k us.toArray).heap.size;rw[setRow_size];exact h6,h7,h8,?_⟩;show(e.w.setRow k us.toArray).heap[j]?=_;rw[hk j (λ Y=>by subst Y;rw[gT] at hg;cases hg)];exact h9
theorem Sy(w:World)(t ty e e0:TypeId)(i:TypeInfo)(ht:P.underlying t=some (.slice e))(X:P.info? e=some i)
 (g yX LY:Nat)(cur:Array Value)(hg:w.heap[g]?=some (.cells cur e0 (0,0)))
 (a:Addr)(m c:Nat)(news:List Value)(R:news.length=m*i.size)(YJ:∀(j:Nat) af,news[j]?=some af->w.cell? (a.add j)=some af)(h1:∀af∈news,af.oneCell'=true)
 (pK:yX+m<=LY)(C0:yX*i.size+news.length<=cur.size):
 (Builtin.append_ #[t,t] ty #[.slice (some ⟨g,0,none⟩) yX LY,.slice (some a) m c]).run P w=
  .ok (.slice (some ⟨g,0,none⟩) (yX+m) LY) (w.setRow g (cur.toList.take (yX*i.size)++news++cur.toList.drop (yX*i.size+news.length)).toArray):=by
 have hf:=run_firstCells_some (P:=P) w i.size m a m c news R YJ;have dg:=run_storeCells_at P g (yX*i.size) e0 news 0 cur w hg (by simpa using C0) h1;simp only[Nat.add_zero] at dg;simp[Builtin.append_,run_underlying ht,sizeOf,typeInfo,X,Builtin.lenOf,pK,hf,Addr.add_lit,dg]
inductive B6(e:aA)(nm n c:Nat)(ps:List Pl):Value->Prop where
 |none (hn:n=0) (L:c=0) (cO:ps=[]):B6 e nm n c ps (.slice none 0 0)
 |empty {ad:Addr} (hn:n=0) (L:c=0) (cO:ps=[]):B6 e nm n c ps (.slice (some ad) 0 0)
 |some {k:Nat} {vs:List Value} {el:TypeId} (I:e.bx nm=some k) (hh:e.w.heap[k]?=some (.cells vs.toArray el (0,0))) (R:vs.length=c) (hn:n<=c) (cO:ps.length=n) (hr:∀(j:Nat) v x,vs[j]?=some v->ps[j]?=some x->db e v x):B6 e nm n c ps (.slice (some ⟨k,0,none⟩) n c)
theorem Ls{e:aA}{vs:List Value}{cs:List G}{ps:List Pl}(h:DReps e vs cs)(hp:cs.take ps.length=ps.map G.p):∀(j:Nat) v x,vs[j]?=some v->ps[j]?=some x->db e v x:=by
 intro j v x hv O;have hj:=(List.getElem?_eq_some_iff.1 O).1;have h1:(cs.take ps.length)[j]?=some (.p x):=by rw[hp,List.getElem?_map,O];rfl
 rw[List.getElem?_take,if_pos hj] at h1;have:=h.2 j v _ hv h1;cases this with
 |p h=>exact h
theorem G9{e:aA}{vs:List Value}{ps:List Pl}(hn:ps.length<=vs.length)(h:∀(j:Nat) v x,vs[j]?=some v->ps[j]?=some x->db e v x):DReps e vs (ps.map G.p++List.replicate (vs.length-ps.length) .any):=by
 refine⟨by simp;omega,λ j v d hv F=>?_⟩;rcases Nat.lt_or_ge j ps.length with hj|hj
 ·rw[List.getElem?_append_left (by simpa using hj),List.getElem?_map,List.getElem?_eq_getElem hj] at F;cases F;exact .p (h j v _ hv (List.getElem?_eq_getElem hj))
 ·rw[List.getElem?_append_right (by simpa using hj),List.getElem?_replicate] at F;split at F
  ·cases F;exact .any
  ·cases F
def fu(cs:List G):Prop:=∀B au,G.ok.eA B au cs=true
theorem Hb(ps:List Pl)(r:Nat):fu (ps.map G.p++List.replicate r G.any):=by
 intro B au;induction ps with
 |nil=>
  induction r with
  |zero=>rfl
  |succ r ih=>simp only[List.map_nil,List.nil_append,List.replicate_succ,G.ok.eA,G.ok,Bool.true_and] at ih⊢;exact ih
 |cons p ps ih=>simp only[List.map_cons,List.cons_append,G.ok.eA,G.ok,Bool.true_and];exact ih
theorem UB(hT:cW P ae){e:aA}{a:Act}(L:bu Γ J e a){ty:TypeId}{nm n m c el z1 z2:Nat}{z3:Value}{ps qs:List Pl}{i:TI}{vx vy:Value}{t:TypeId}(ht:ae t=some ⟨.slice el,z1,z2,z3⟩)(ec:ae el=some i)(ic:i.zero.cells.size=1)(Gh:i.sz=1)(dI:kv Γ.kb nm=none)
 (O:B6 e nm n c ps vx)(h3:c<=maxLen)(ff:db e vy (.sl false m qs))(hm:0<m)(ee:qs.length=m)
 (gh:n+m<=maxLen)(gu:(n+m)*i.bytes<=140737488355328):∃v Y aO bw,(Builtin.append_ #[t,t] ty #[vx,vy]).run P e.w=.ok v Y.w/\aO.length=bw/\bw<=maxLen/\n+m<=bw/\aO.take (n+m)=(ps++qs).map G.p/\fu aO/\
  bu Γ ⟨rR (cx nm) J.s,(nm,aO)::iA (Nat.beq nm) (cx nm) J.b,J.g⟩ Y a/\bD Y v (.arr nm 0 (n+m) bw):=by
 obtain⟨d0,dV,I⟩:=hT.desc t _ ht;cases d0<;>simp only[jJ,reduceCtorEq,TK.slice.injEq] at I
 rw[I] at dV;obtain⟨gj,mQ,bQ,tw,hz⟩:=hT.info _ i ec;rw[Gh] at bQ;obtain⟨ap,lI,rfl,Qt,Qw,FG,_,hY⟩:=qH ff;have Dx:qs≠[]:=λ Y=>by rw[Y] at ee;simp at ee;omega
 rcases hY with hY|⟨yb,yo,rfl,CP⟩
 ·exact absurd hY Dx
 obtain⟨us,sy,qz,lV,uQ⟩:=Cm CP;have pL:us.length=m*gj.size:=by rw[sy,ee,bQ];omega
 have uP:us.length=m:=by rw[sy,ee]
 have uz:=L.forget nm dI;have Dp:kv (iA (Nat.beq nm) (cx nm) J.b) nm=none:=by
  cases h:kv (iA (Nat.beq nm) (cx nm) J.b) nm with
  |none=>rfl
  |some cs=>have:=(zt h).1;simp at this
 have tB:∀(os:List Value),os.length=n->ps.length=n->(∀(j:Nat) v x,os[j]?=some v->ps[j]?=some x->db e v x)->(c<n+m)->(Builtin.append_ #[t,t] ty #[vx,.slice (some ⟨yb,yo,none⟩) m lI]).run P e.w=.ok (.slice (some ⟨e.w.heap.size,0,none⟩) (n+m) (grownCap e.w (n+m) c el)) (e.w.drew.alloc (.cells (os.toArray++us.toArray++Builtin.zeroCells i.zero.cells (grownCap e.w (n+m) c el-(n+m))) el))->
  ∃v Y aO bw,(Builtin.append_ #[t,t] ty #[vx,.slice (some ⟨yb,yo,none⟩) m lI]).run P e.w=.ok v Y.w/\aO.length=bw/\bw<=maxLen/\n+m<=bw/\aO.take (n+m)=(ps++qs).map G.p/\fu aO/\
  bu Γ ⟨rR (cx nm) J.s,(nm,aO)::iA (Nat.beq nm) (cx nm) J.b,J.g⟩ Y a/\bD Y v (.arr nm 0 (n+m) bw):=by
  intro os iQ cO tJ ba cJ;have fB:n+m<=grownCap e.w (n+m) c el:=grownCap_ge _ _ _ _;have nE:grownCap e.w (n+m) c el<=maxLen:=grownCap_le_maxLen _ _ _ _ gh;generalize grownCap e.w (n+m) c el=bK at fB nE cJ
  let e1:=e.cut (cx nm) λ _=>true
  let iW:List Value:=os++us++(Builtin.zeroCells i.zero.cells (bK-(n+m))).toList
  have su:os.toArray++us.toArray++Builtin.zeroCells i.zero.cells (bK-(n+m))=iW.toArray:=by apply Array.ext';simp[iW]
  have ci:iW.length=bK:=by
   have:(Builtin.zeroCells i.zero.cells (bK-(n+m))).toList.length=bK-(n+m):=by rw[Array.length_toList,size_zeroCells,ic];omega
   simp only[iW,List.length_append,iQ,uP,this];omega
  rw[su] at cJ
  let e2:aA:={e1 with w:=e.w.drew}
  have ip:kg e1 e2:=⟨(Below.refl _ _).drew,λ _ _=>rfl,rfl,rfl,rfl⟩;have de:=aA.ud e2 (.cells iW.toArray el) (some 0);have eE:=(uz.grow ip).grow de;have Jh:Ends e1 (e2.alloc (.cells iW.toArray el) (some 0)):=ip.ends.trans de.ends;have oX:∀(j:Nat) v x,iW[j]?=some v->(ps++qs)[j]?=some x->db e1 v x:=by
   intro j v x hv O;rcases Nat.lt_or_ge j n with hj|hj
   ·rw[List.getElem?_append_left (by omega)] at O;simp only[iW,List.append_assoc] at hv;rw[List.getElem?_append_left (by omega)] at hv;exact(tJ j v x hv O).cut
   ·rw[List.getElem?_append_right (by omega),cO] at O;have JW:=(List.getElem?_eq_some_iff.1 O).1;simp only[iW,List.append_assoc] at hv;rw[List.getElem?_append_right (by omega),iQ,List.getElem?_append_left (by omega)] at hv;exact(uQ _ v x hv O).cut
  have bF:(ps++qs).length=n+m:=by simp[cO,ee]
  have uv:=G9 (e:=e1) (vs:=iW) (ps:=ps++qs) (by omega) oX;have i7:(e2.alloc (.cells iW.toArray el) (some 0)).bx nm=none:=by show(if cx nm nm=true then e.bx nm else none)=none;simp[cx]
  have xO:=t7 (k:=e.w.heap.size) i7;have xZ:=eE.Ft (b:=nm) (k:=e.w.heap.size) (cs:=(ps++qs).map G.p++List.replicate (iW.length-(ps++qs).length) G.any) Dp (by simp[aA.alloc,e2]) (.inl L.env.kept.size) (by simp[aA.alloc,e2]) (by
   show(e.cut (cx nm) λ _=>true).gr _=none;show(match e.gr e.w.heap.size with|some g=>if true=true then some g else none|none=>none)=none;cases hg:e.gr e.w.heap.size with
   |none=>rfl
   |some g=>obtain⟨_,_,_,K,_⟩:=L.env.gr _ g hg;omega) (λ x O=>by
   have fD:(if cx nm x=true then e.bx x else none)=some e.w.heap.size:=O;split at fD
   ·have:=(L.env.bx x _ fD).1;omega
   ·cases fD) ⟨e.w.heap.size,iW,el,by simp[aA.iX],heap_alloc_new e2.w _,(uv.next Jh).next xO⟩
  refine⟨_,(e2.alloc (.cells iW.toArray el) (some 0)).iX nm e.w.heap.size,_,bK,cJ,?_,nE,fB,?_,Hb _ _,xZ,.arr (by simp[aA.iX])⟩
  ·simp only[List.length_append,List.length_map,List.length_replicate,ci,cO,ee];omega
  ·rw[<-bF,List.take_append_of_le_length (by simp),List.take_of_length_le (by simp)]
 cases O with
 |empty hn h2 cO=>rename_i ad;subst hn;subst h2;subst cO;have cJ:=run_append_grow (P:=P) e.w t ty el gj i.zero dV mQ hz ad 0 0 [] (by simp) (λ j v hj=>by simp at hj) ⟨yb,yo,none⟩ m lI us pL qz (by omega) (by simp only[maxLen] at gh;omega) (growslice_fits (by omega) (by rw[tw];exact gu));exact tB [] rfl rfl (λ j v x hj=>by simp at hj) (by omega) cJ
 |none hn h2 cO=>subst hn;subst h2;subst cO;have cJ:=run_append_nil (P:=P) e.w t ty el gj i.zero dV mQ hz ⟨yb,yo,none⟩ m lI us pL qz hm (by simp only[maxLen] at gh;omega) (by rw[tw];simp only[Nat.zero_add] at gu;omega);exact tB [] rfl rfl (λ j v x hj=>by simp at hj) (by omega) (by simpa using cJ)
 |some I hh R hn cO hr=>
  rename_i k vs ql
  by_cases pK:n+m<=c
  ·have cJ:=Sy (P:=P) e.w t ty el ql gj dV mQ k n c vs.toArray hh ⟨yb,yo,none⟩ m lI us pL qz lV pK (by simp[bQ,uP,R];omega);obtain⟨h1,A,K,h4⟩:=L.env.bx nm k I
   let fh:=vs.take n++us++vs.drop (n+m)
   have sA:(vs.toArray.toList.take (n*gj.size)++us++vs.toArray.toList.drop (n*gj.size+us.length))=fh:=by simp[bQ,uP,fh]
   rw[sA] at cJ;have dm:∀x,(e.cut (cx nm) λ _=>true).bx x≠some k:=λ x O=>by
    have fD:(if cx nm x=true then e.bx x else none)=some k:=O;split at fD
    ·rename_i cE;exact Lb cE (L.env.inj _ _ _ fD I)
    ·cases fD
   have uD:(e.cut (cx nm) λ _=>true).gr k=none:=by show(match e.gr k with|some g=>if true=true then some g else none|none=>none)=none;rw[h4]
   obtain⟨oZ,E⟩:=uz.SD fh A K uD dm;have ci:fh.length=c:=by simp[fh,uP,R];omega
   have bF:(ps++qs).length=n+m:=by simp[cO,ee]
   have oX:∀(j:Nat) v x,fh[j]?=some v->(ps++qs)[j]?=some x->db (e.cut (cx nm) λ _=>true) v x:=by
    intro j v x hv O;rcases Nat.lt_or_ge j n with hj|hj
    ·rw[List.getElem?_append_left (by omega)] at O;simp only[fh,List.append_assoc] at hv;rw[List.getElem?_append_left (by simp;omega),List.getElem?_take,if_pos hj] at hv;exact(hr j v x hv O).cut
    ·rw[List.getElem?_append_right (by omega),cO] at O;have JW:=(List.getElem?_eq_some_iff.1 O).1;simp only[fh,List.append_assoc] at hv;rw[List.getElem?_append_right (by simp;omega),List.length_take,R,Nat.min_eq_left hn,List.getElem?_append_left (by omega)] at hv;exact(uQ _ v x hv O).cut
   have uv:=G9 (vs:=fh) (ps:=ps++qs) (by omega) oX;have i7:(e.cut (cx nm) λ _=>true).bx nm=none:=by show(if cx nm nm=true then e.bx nm else none)=none;simp[cx]
   have xO:=t7 (e:={w:=(e.cut (cx nm) λ _=>true).w.setRow k fh.toArray,cl:=(e.cut (cx nm) λ _=>true).cl,bx:=(e.cut (cx nm) λ _=>true).bx,gr:=(e.cut (cx nm) λ _=>true).gr,gi:=(e.cut (cx nm) λ _=>true).gi}) (b:=nm) (k:=k) i7;have xZ:=oZ.Ft (b:=nm) (k:=k) (cs:=(ps++qs).map G.p++List.replicate (fh.length-(ps++qs).length) G.any) Dp (by show k<(e.w.setRow k _).heap.size;rw[setRow_size];exact h1) A K uD dm ⟨k,fh,ql,by simp[aA.iX],EV hh,(uv.next E).next xO⟩;refine⟨_,_,_,c,cJ,?_,h3,pK,?_,Hb _ _,xZ,.arr (by simp[aA.iX])⟩
   ·simp only[List.length_append,List.length_map,List.length_replicate,ci,cO,ee];omega
   ·rw[<-bF,List.take_append_of_le_length (by simp),List.take_of_length_le (by simp)]
  ·have cJ:=run_append_grow (P:=P) e.w t ty el gj i.zero dV mQ hz ⟨k,0,none⟩ n c (vs.take n) (by simp[bQ,R];omega) (λ j v hj=>by
    rw[List.getElem?_take] at hj;split at hj
    ·rw[rM,cell_of_row e.w k (0+j) vs.toArray ql (0,0) hh];simpa using hj
    ·cases hj) ⟨yb,yo,none⟩ m lI us pL qz (by omega) (by simp only[maxLen] at gh;omega) (growslice_fits (by omega) (by rw[tw];exact gu))
   exact tB (vs.take n) (by simp[R];omega) cO (λ j v x hv O=>by
    rw[List.getElem?_take] at hv;split at hv
    ·exact hr j v x hv O
    ·cases hv) (by omega) cJ
end
end Go.Proofs.YtcnefjfboagbmaaGreat
end
section
namespace Go.Proofs.YtcnefjfboagbmaaGreat
open Go.RowKit
section
variable{P:Program}{ae:Nat->Option TI}{Γ:bI}{o:Oper}{l0 l:List Oper}{Q:Exit->St->Prop}
variable{s M:List (Nat×G)}{b bj:List (Nat×List G)}{g:List (Nat×Gr)}{t:Nat}
theorem Sx{a:Act}{ty:TypeId}{x y:Operand}{w aI:World}{v:Value}(ho:o.op=.call {callee:=.builtin .append,args:=#[x,y],argTypes:=#[ty,ty]})(h:(Builtin.append_ #[ty,ty] o.type #[a.eval x,a.eval y]).run P w=.ok v aI):(execOp a.eval o).run P w=.ok (.value v) aI:=by obtain⟨dst,op,type,pos,after,guard⟩:=o;simp only at ho;subst ho;simp only[execOp,resolve,invoke,builtin,Sem.run_bind,Sem.run_pure,Result.andThen_ok,List.map_toArray,List.map_cons,List.map_nil,h]
theorem Ux(hT:cW P ae)(nm:Nat){ty:TypeId}{x y:Operand}{n m c el z1 z2:Nat}{z3:Value}{ps qs:List Pl}{dy:G}{i:TI}(ho:o.op=.call {callee:=.builtin .append,args:=#[x,y],argTypes:=#[ty,ty]})(ht:ae ty=some ⟨.slice el,z1,z2,z3⟩)(ec:ae el=some i)(ic:Nat.beq i.zero.cells.size 1=true)(bQ:Nat.beq i.sz 1=true)
 (hg:gd l0 o (kv s)=some true)(F:o.dst=some t)(R:Nat.blt t Γ.n=true)(dI:kv Γ.kb nm=none)(O:∀(a:Act)(e:aA),bu Γ ⟨s,b,g⟩ e a->B6 e nm n c ps (a.eval x))(h3:c<=maxLen)(hy:ev (kv s) y=some dy)(lD:ni dy=some (m,qs))(hm:0<m)(ee:qs.length=m)
 (gh:n+m<=maxLen)(gu:(n+m)*i.bytes<=140737488355328)(gx:lx (cx nm) s (λ M=>lL (Nat.beq nm) (cx nm) b (λ bj=>some (M,bj)))=some (M,bj))
 (h:∀aO bw,aO.length=bw->bw<=maxLen->n+m<=bw->aO.take (n+m)=(ps++qs).map G.p->fu aO->bp P Γ l0 Q l ⟨(t,.arr nm 0 (n+m) bw)::M,(nm,aO)::bj,g⟩):bp P Γ l0 Q (o::l) ⟨s,b,g⟩:=by
 rw[um,ul] at gx;cases gx;refine⟨λ a e L=>?_⟩;unfold wpList;rw[if_pos (lN L hg)];have jn:=L.iI o.op.operands;have ff:=w8 (jn.1 y (by rw[ho];simp[Op.operands,Call.operands]) _ hy) lD;obtain⟨v,Y,aO,bw,cJ,h1,A,K,h4,bF,h5,h6⟩:=UB hT L (ty:=o.type) ht ec (Nat.eq_of_beq_eq_true ic) (Nat.eq_of_beq_eq_true bQ) dI (O a e L) h3 ff hm ee gh gu;refine .inl ?_;unfold Oper.wp;rw[Sx ho cJ];have:=(h5.put (dst:=o.dst) (qk F R) h6);rw[F] at this;show wpList P l0.toArray (jr Γ Q) l (a.put o.dst v) Y.w;rw[F];exact(h aO bw h1 A K h4 bF).run _ Y this
theorem MV(hT:cW P ae)(nm:Nat){ty:TypeId}{x y:Operand}{m el z1 z2:Nat}{z3:Value}{qs:List Pl}{dy:G}{i:TI}(ho:o.op=.call {callee:=.builtin .append,args:=#[x,y],argTypes:=#[ty,ty]})(ht:ae ty=some ⟨.slice el,z1,z2,z3⟩)(ec:ae el=some i)(ic:Nat.beq i.zero.cells.size 1=true)(bQ:Nat.beq i.sz 1=true)
 (hg:gd l0 o (kv s)=some true)(F:o.dst=some t)(R:Nat.blt t Γ.n=true)(O:ev (kv s) x=some (.p (.sl true 0 [])))(dI:kv Γ.kb nm=none)(hy:ev (kv s) y=some dy)(lD:ni dy=some (m,qs))(gx:lx (cx nm) s (λ M=>lL (Nat.beq nm) (cx nm) b (λ bj=>some (M,bj)))=some (M,bj))
 (hm:0<m)(ee:qs.length=m)(gh:m<=maxLen)(gu:m*i.bytes<=140737488355328)
 (h:∀aO bw,aO.length=bw->bw<=maxLen->m<=bw->aO.take m=qs.map G.p->fu aO->bp P Γ l0 Q l ⟨(t,.arr nm 0 m bw)::M,(nm,aO)::bj,g⟩):bp P Γ l0 Q (o::l) ⟨s,b,g⟩:=by
 refine Ux hT nm (n:=0) (c:=0) (ps:=[]) ho ht ec ic bQ hg F R dI (λ a e L=>?_) (Nat.zero_le _) hy lD hm ee (by omega) (by simpa using gu) gx (λ aO bw h1 A K h4 bF=>?_)
 ·have bO:=(L.iI o.op.operands).1 x (by rw[ho];simp[Op.operands,Call.operands]) _ O;generalize a.eval x=vx at bO;cases bO with
  |p h1=>
   obtain⟨ab,bK,rfl,_,_,_,h5,_⟩:=qH h1;have:=h5 rfl;subst this;cases ab with
   |none=>exact .none rfl rfl rfl
   |some ad=>exact .empty rfl rfl rfl
 ·simp only[Nat.zero_add,List.nil_append] at K h4⊢;exact h aO bw h1 A K h4 bF
theorem bu.xw{J:St}{e:aA}{a:Act}(L:bu Γ J e a){k:Nat}(m:Nat)(py:Γ.w0.heap.size<=k\/Γ.own k)(dT:e.cl k=some 0)(gT:e.gr k=none)(dm:∀c,e.bx c≠some k):
 bu Γ J {e with cl:=λ j=>if j=k then some m else e.cl j} a/\Ends e {e with cl:=λ j=>if j=k then some m else e.cl j}:=by
 have E:Ends e {e with cl:=λ j=>if j=k then some m else e.cl j}:=by
  refine⟨λ bj o v CV hv=>⟨λ n hn=>?_,hv⟩,λ _ _ h=>h,λ _ au h=>⟨au,h,rfl,rfl,Nat.le_refl _⟩,λ j g au cur h5 h6 h7=>⟨h5,cur,h7,rfl⟩⟩;have cE:bj≠k:=λ Y=>by subst Y;exact absurd (CV 0 dT) (by omega)
  have lh:(if bj=k then some m else e.cl bj)=some n:=hn;rw[if_neg cE] at lh;exact CV n lh
 refine⟨⟨L.size,L.df,λ t d ht=>(L.bP t d ht).next E,λ bj ds F=>(L.boxes bj ds F).ends E rfl,L.ei,L.gs,⟨L.env.kept,λ j hj ho=>?_,λ bj j hj=>?_,L.env.inj,λ j g hg=>?_,L.env.kb⟩⟩,E⟩
 ·show(if j=k then some m else e.cl j)=_;rw[if_neg (λ Y=>by subst Y;rcases py with A|A<;>first|omega|exact ho A)];exact L.env.cl j hj ho
 ·obtain⟨h5,h6,h7,h8⟩:=L.env.bx bj j hj;refine⟨h5,h6,?_,h8⟩;show(if j=k then some m else e.cl j)=_;rw[if_neg (λ Y=>dm bj (by rw[<-Y];exact hj))];exact h7
 ·obtain⟨au,cur,h5,h6,h7,h8,h9⟩:=L.env.gr j g hg;refine⟨au,cur,h5,h6,h7,?_,h9⟩;show(if j=k then some m else e.cl j)=_;rw[if_neg (λ Y=>by subst Y;rw[gT] at hg;cases hg)];exact h8
def Pl.lf:Pl->Bool
 |.raw v=>lX v
 |.sl ..=>true
theorem KP{e:aA}{v:Value}{x:Pl}(h:db e v x)(R:x.lf=true):lX v=true:=by
 cases h with
 |raw v=>exact R
 |sl=>rfl
theorem I7(t nm:Nat){n c:Nat}{cs:List G}(ps:List Pl)(ht:kv s t=some (.arr nm 0 n c))(T:kv b nm=some cs)(dI:kv Γ.kb nm=none)(gx:lx (cx nm) s (λ M=>lL (Nat.beq nm) (cx nm) b (λ bj=>some (M,bj)))=some (M,bj))
 (cH:cs.length=c)(tI:n<=c)(cO:ps.length=n)(n9:cs.take n=ps.map G.p)(h3:c<=maxLen)(x8:∀x∈ps,x.lf=true):bN Γ ⟨s,b,g⟩ ⟨(t,.p (.sl false n ps))::M,bj,g⟩:=by
 rw[um,ul] at gx;cases gx;intro a e L;have uz:=L.forget nm dI;have h1:=L.bP t _ ht;obtain⟨k,vs,el,A,K,h4⟩:=L.boxes nm cs T;have i8:=L.env.bx nm k A;have dm:∀x,(e.cut (cx nm) λ _=>true).bx x≠some k:=λ x O=>by
  have fD:(if cx nm x=true then e.bx x else none)=some k:=O;split at fD
  ·rename_i cE;exact Lb cE (L.env.inj _ _ _ fD A)
  ·cases fD
 have uD:(e.cut (cx nm) λ _=>true).gr k=none:=by show(match e.gr k with|some g=>if true=true then some g else none|none=>none)=none;rw[i8.2.2.2]
 obtain⟨h5,E⟩:=uz.xw n i8.2.1 i8.2.2.1 uD dm;refine⟨{e.cut (cx nm) (λ _=>true) with cl:=λ j=>if j=k then some n else(e.cut (cx nm) λ _=>true).cl j},rfl,h5.size,h5.df,λ af d hu=>?_,h5.boxes,h5.ei,h5.gs,h5.env⟩;simp only[cM] at hu;split at hu
 ·rename_i lE;subst lE;cases hu;have ci:vs.length=c:=by rw[h4.1,cH]
  have bF:=Ls h4 (by rw[cO];exact n9);generalize fZ a t=v at h1;cases h1 with
  |arr I=>
   rw[A] at I;cases I;refine .p (BE tI h3 (λ h=>by cases h) (λ h=>by cases h) (.inr ⟨k,0,rfl,λ j=>vs.getD j undef,λ j x O=>?_⟩));have hj:=(List.getElem?_eq_some_iff.1 O).1;have eF:j<vs.length:=by omega
   have pC:vs.getD j undef=vs[j]:=by simp[eF]
   have hu:vs[j]?=some vs[j]:=List.getElem?_eq_getElem eF;have hr:=bF j _ x hu O;show aA.np _ k (0+j)/\World.cell? _ ⟨k,0+j,none⟩=some (vs.getD j undef)/\lX (vs.getD j undef)=true/\db _ (vs.getD j undef) x;rw[pC,Nat.zero_add];refine⟨λ q hq=>?_,?_,KP hr (x8 x (List.mem_of_getElem? O)),(hr.cut).next E⟩
   ·have jW:(if k=k then some n else e.cl k)=some q:=hq;rw[if_pos rfl] at jW;cases jW;omega
   ·show e.w.cell? _=_;rw[cell_of_row e.w k j vs.toArray el (0,0) K,List.getElem?_toArray];exact hu
 ·exact h5.bP af d hu
abbrev dU(m:Nat):G:=.p (.raw (.int .u64 m))
variable{S:Nat->Option G}{B:Nat->Option (List G)}
theorem TE{n:Nat}(h:n<18446744073709551616):IntKind.u64.wrap (n:Int)=n:=by simp only[IntKind.wrap,IntKind.signed,IntKind.bits];simp;omega
def iK(m i:Nat):Nat:=(BitVec.ofNat 64 m&&&~~~BitVec.ofNat 64 (2^i)).toNat
theorem Vl(m i j:Nat)(hm:m<18446744073709551616):(iK m i).testBit j=(m.testBit j&&!decide (i=j)):=by
 have h1:(iK m i).testBit j=(BitVec.ofNat 64 m&&&~~~BitVec.ofNat 64 (2^i)).getLsbD j:=rfl;rw[h1,BitVec.getLsbD_and,BitVec.getLsbD_not,BitVec.getLsbD_ofNat,BitVec.getLsbD_ofNat,Nat.testBit_two_pow]
 by_cases hj:j<64
 ·simp[hj]
 ·have:m.testBit j=false:=Nat.testBit_lt_two_pow (Nat.lt_of_lt_of_le hm (by have:=Nat.pow_le_pow_right (n:=2) (by omega) (show 64<=j by omega);omega));simp[hj,this]
end
end Go.Proofs.YtcnefjfboagbmaaGreat
end
section
namespace Go.Proofs.YtcnefjfboagbmaaGreat
open Go.RowKit
section
variable{P:Program}{ae:Nat->Option TI}{S:Nat->Option G}{B:Nat->Option (List G)}{o:Oper}
theorem gK(hT:cW P ae){t el:TypeId}{x y:Operand}{nm of n:Nat}{k:IntKind}{i:Int}{z1 z2:Nat}{z3:Value}{j:TI}(ho:o.op=.indexAddr t x y)(ht:ae t=some ⟨.array n el,z1,z2,z3⟩)(he:ae el=some j)
 (O:ev S x=some (.ptr nm of))(hy:ev S y=some (.p (.raw (.int k i))))(h0:0<=i)(ba:i<n):dH P o S B (.ptr nm (of+i.toNat*j.sz)) none:=by
 refine jh λ a e hs=>?_
 have h1:=hs.1 x (by rw[ho];simp[Op.operands]) _ O;have A:=cR (hs.1 y (by rw[ho];simp[Op.operands]) _ hy);generalize hv:a.eval x=vx at h1;cases h1 with
 |ptr T=>
  rename_i kk;obtain⟨d0,dV,I⟩:=hT.desc t _ ht;cases d0<;>simp only[jJ,reduceCtorEq,TK.array.injEq] at I
  rw[I.1,I.2] at dV;refine⟨.pointer (some ⟨kk,of+i.toNat*j.sz,none⟩),?_,.ptr T⟩;obtain⟨dst,op,type,pos,after,guard⟩:=o;simp only at ho;subst ho;simp[execOp,Instr.indexAt,Instr.sureAddr,A,hv,asIntOf,run_underlying dV,h0,ba,run_sizeOf hT he,rM]
theorem Cu{ar dh:Type}:∀(n:Nat)(l:List dh)(k:List dh->Option ar),n<=l.length->kN n l k=k (l.drop n)
 |0,l,k,_=>rfl
 |n+1,[],k,h=>by simp at h
 |n+1,x::l,k,h=>by rw[kN,Cu n l k (by simpa using h)];rfl
theorem mo(hT:cW P ae){ty:TypeId}{x:Operand}{i:TI}{b of:Nat}{cs:List G}{d:G}(ho:o.op=.load ty x)(ht:ae ty=some i)(oQ:i.k.agg=false)(O:ev S x=some (.ptr b of))(T:B b=some cs)(F:cs[of]?=some d):dH P o S B d none:=by refine sW hT ?_;obtain⟨h1,A⟩:=List.getElem?_eq_some_iff.1 F;rw[ho];simp only[ax,ht,O,T];rw[Cu of cs _ (by omega),List.drop_eq_getElem_cons h1,A];simp[yF,oQ]
end
end Go.Proofs.YtcnefjfboagbmaaGreat
end
section
namespace Go.Proofs.YtcnefjfboagbmaaGreat
open Go.RowKit
section
variable{P:Program}{ae:Nat->Option TI}{Γ:bI}{S:Nat->Option G}{B:Nat->Option (List G)}{o:Oper}{l0 l:List Oper}{Q:Exit->St->Prop}
variable{s:List (Nat×G)}{b:List (Nat×List G)}{g:List (Nat×Gr)}{t:Nat}
theorem aas(z:Value)(n:Nat):madeCells #[z] n=(List.replicate n z).toArray:=by
 apply Array.ext
 ·simp[madeCells]
 ·intro j h1 A;simp[madeCells,Nat.mod_one]
theorem aat(hT:cW P ae)(nm:Nat){ty el:TypeId}{z1 z2:Nat}{z3:Value}{i:TI}{x y:Operand}{k jd:IntKind}{n m:Int}{c:Nat}(ho:o.op=.makeSlice ty x y)(ht:ae ty=some ⟨.slice el,z1,z2,z3⟩)(ec:ae el=some i)(e8:Nat.beq i.sz 1=true)(AP:i.zero.cells=#[i.zero])
 (O:ev S x=some (.p (.raw (.int k n))))(hy:ev S y=some (.p (.raw (.int jd m))))(hn:n=c)(hm:m=c)(T:c*i.bytes<=140737488355328)(gh:c<=maxLen):dH P o S B (.arr nm 0 c c) (some (nm,List.replicate c (qQ i.zero))):=by
 subst hn;subst hm;intro a e hs fK;have h1:=cR (hs.1 x (by rw[ho];simp[Op.operands]) _ O);have A:=cR (hs.1 y (by rw[ho];simp[Op.operands]) _ hy);obtain⟨d0,dV,I⟩:=hT.desc ty _ ht;cases d0<;>simp only[jJ,reduceCtorEq,TK.slice.injEq] at I
 rw[I] at dV;obtain⟨gj,mQ,bQ,gu,hz⟩:=hT.info _ i ec;have Y9:=Nat.eq_of_beq_eq_true e8;have Jy:(gj.bytes:Int)*(c:Int)<=281474976710656:=by
  have:((c*i.bytes:Nat):Int)<=140737488355328:=by omega
  rw[Int.natCast_mul,Int.mul_comm] at this;rw[gu];omega
 have cJ:=run_make (P:=P) e.w ty el gj i.zero dV mQ hz k jd c c (Int.natCast_nonneg c) (by omega) Jy (by unfold maxLen at gh;omega);rw[Int.toNat_natCast,bQ,Y9,Nat.mul_one,AP,aas] at cJ;unfold Oper.wp;have e1:(execOp a.eval o).run P e.w=.ok (.value (.slice (some ⟨e.w.heap.size,0,none⟩) c c)) (e.w.alloc (.cells (List.replicate c i.zero).toArray el)):=by obtain⟨dst,op,type,pos,after,guard⟩:=o;simp only at ho;subst ho;simp[execOp,h1,A,cJ]
 rw[e1];have hg:=aA.ud e (.cells (List.replicate c i.zero).toArray el) (some 0);have i7:(e.alloc (.cells (List.replicate c i.zero).toArray el) (some 0)).bx nm=none:=by rw[hg.bx];exact fK _ rfl
 refine⟨_,(e.alloc (.cells (List.replicate c i.zero).toArray el) (some 0)).iX nm e.w.heap.size,rfl,rfl,_,e.w.heap.size,hg,Nat.le_refl _,by simp[aA.alloc],by simp[aA.alloc],rfl,⟨e.w.heap.size,List.replicate c i.zero,el,by simp[aA.iX],heap_alloc_new e.w _,?_⟩,.arr (by simp[aA.iX])⟩;refine⟨by simp,λ j v d hv F=>?_⟩;rw[List.getElem?_replicate] at hv F;split at hv
 ·rename_i hj;rw[if_pos hj] at F;cases hv;cases F;exact E3 _ _
 ·cases hv
theorem jy(hT:cW P ae){ty el:TypeId}{x y:Operand}{nm n c:Nat}{k:IntKind}{i:Int}{z1 z2:Nat}{z3:Value}{j:TI}{p:Nat}(ho:o.op=.indexAddr ty x y)(ht:ae ty=some ⟨.slice el,z1,z2,z3⟩)(he:ae el=some j)
 (O:ev S x=some (.arr nm 0 n c))(hy:ev S y=some (.p (.raw (.int k i))))(h0:0<=i)(ba:i<n)(hp:p=i.toNat*j.sz):dH P o S B (.ptr nm p) none:=by
 subst hp;refine jh λ a e hs=>?_
 have h1:=hs.1 x (by rw[ho];simp[Op.operands]) _ O;have A:=cR (hs.1 y (by rw[ho];simp[Op.operands]) _ hy);generalize hv:a.eval x=vx at h1;cases h1 with
 |arr T=>
  rename_i kk;obtain⟨d0,dV,I⟩:=hT.desc ty _ ht;cases d0<;>simp only[jJ,reduceCtorEq,TK.slice.injEq] at I
  rw[I] at dV;refine⟨.pointer (some ⟨kk,i.toNat*j.sz,none⟩),?_,.ptr T⟩;obtain⟨dst,op,type,pos,after,guard⟩:=o;simp only at ho;subst ho;simp[execOp,Instr.indexAt,A,hv,asIntOf,run_underlying dV,h0,ba,run_sizeOf hT he,rM]
theorem adL{cs:List G}{of:Nat}{d:G}(h:of<cs.length):stored cs of [d]=cs.set of d:=by unfold stored;rw[List.set_eq_take_append_cons_drop,if_pos h];simp
theorem rL(hT:cW P ae){ty:TypeId}{x y:Operand}{nm of:Nat}{cs:List G}{dy:G}{i:TI}(ho:o.op=.store ty x y)(F:o.dst=none)(ht:ae ty=some i)(e8:Nat.beq i.sz 1=true)(O:ev (kv s) x=some (.ptr nm of))(T:kv b nm=some cs)(hy:ev (kv s) y=some dy)
 (R:dy.leaf=true)(hg:gd l0 o (kv s)=some true)(gy:of<cs.length)(h:bp P Γ l0 Q l ⟨s,(nm,cs.set of dy)::b,g⟩):bp P Γ l0 Q (o::l) ⟨s,b,g⟩:=by
 have L:dy.cells=[dy]:=by cases dy<;>first|rfl|cases R
 have FY:tO dy=true:=by cases dy<;>first|exact R|cases R
 have uO:=Ml (P:=P) (Γ:=Γ) (J:=⟨s,b,g⟩) hT ho F ht O T hy FY (by rw[L,Nat.eq_of_beq_eq_true e8];rfl) (by rw[L];exact gy);rw[L,adL gy] at uO;exact vG (J:=⟨s,b,g⟩) hg uO h
end
end Go.Proofs.YtcnefjfboagbmaaGreat
end
