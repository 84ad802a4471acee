/- Worlds that have grown, plain data behind values, what is known where a function stands. -/
import Derived.WalkKit
import Derived.WalkSpells
import Derived.WalkLawsBesides
import Derived.BigQuiet
import Derived.Lib.Hide
import Derived.ProofKit
import Derived.OpenShut
import Derived.ShutString
import Derived.ChangeOld
import Derived.Below
import Derived.Deep.Slices
import Derived.Deep.Fields
import Derived.ChangeSame
import Derived.Maps.AppendAt
import Derived.LoopN
import Derived.Laws.MakeOwn
import Derived.Scope
section
namespace Go.Proofs.YtcnefjfboagbmaaGreat
open Go.RowKit
def tH(w:World):Type:={aM:World//Below w.heap.size w aM}
instance(w:World):Nonempty (tH w):=⟨⟨w,Below.refl _ _⟩⟩
def tH.on{w:World}(x:tH w):World:=x.1
theorem tH.below{w:World}(x:tH w):Below w.heap.size w x.on:=x.2
@[go_sem] theorem tH.cell{w:World}(x:tH w)(p:Addr)(h:p.block<w.heap.size):x.on.cell? p=w.cell? p:=x.below.cell h
def tH.next{w:World}(x:tH w){aM:World}(h:Below x.on.heap.size x.on aM):tH w:=⟨aM,x.below.trans (h.mono x.below.size)⟩
abbrev FJ:=Value->World->Prop
def FJ.lM(k:FJ):Prop:=∀v w aM,k v w->Below w.heap.size w aM->k v aM
def gq(a:Act)(t:Tmp):Value:=a.tmps.getD t undef
def ra(ops:Array Oper)(n:Nat):Bool:=
 Region.noSelect ops&&(List.range ops.size).all λ i=>match ops[i]? with
  |none=>true
  |some oi=>(match oi.dst with|some t=>decide (t<n)|none=>true)&&(oi.after.all λ e=>!Region.binds .any e||decide (e.on<i))&&
   (List.range ops.size).all λ j=>match ops[j]? with
    |none=>true
    |some oj=>i==j||((match oi.dst,oj.dst with|some t,some u=>t !=u|_,_=>true)&&
     (match oj.dst with
      |some t=>!(oi.looksAt ops).contains t||(decide (j<i)&&oi.after.any (λ e=>Region.binds .any e&&e.on==j))||(decide (i<j)&&oj.after.any (λ e=>Region.binds .any e&&e.on==i))
      |none=>true))
structure pO(ops:Array Oper)(n:Nat):Prop where
 ahT:Region.noSelect ops=true
 lt:∀(i:Nat)(o:Oper)(t:Tmp),ops[i]?=some o->o.dst=some t->t<n
 back:∀(i:Nat)(o:Oper),ops[i]?=some o->∀e∈o.after,Region.binds .any e=true->e.on<i
 ne:∀(i j:Nat)(oi oj:Oper)(t:Tmp),ops[i]?=some oi->ops[j]?=some oj->i≠j->oi.dst=some t->oj.dst≠some t
 dep:∀(i j:Nat)(oi oj:Oper)(t:Tmp),ops[i]?=some oi->ops[j]?=some oj->i≠j->oj.dst=some t->t∈oi.looksAt ops->
  (j<i/\∃e∈oi.after,Region.binds .any e=true/\e.on=j)\/(i<j/\∃e∈oj.after,Region.binds .any e=true/\e.on=i)
theorem If{ops:Array Oper}{n:Nat}(h:ra ops n=true):pO ops n:=by
 unfold ra at h;simp only[Bool.and_eq_true,List.all_eq_true,List.mem_range] at h;obtain⟨hs,h⟩:=h;have bm:∀i o,ops[i]?=some o->i<ops.size:=λ i o ho=>(Array.getElem?_eq_some_iff.1 ho).1
 refine⟨hs,λ i o t ho ht=>?_,λ i o ho e he Z=>?_,λ i j oi oj t hi hj kq ht hu=>?_,λ i j oi oj t hi hj kq ht hm=>?_⟩
 ·have:=h i (bm i o ho);simp only[ho,ht,Bool.and_eq_true] at this
  simpa using this.1.1
 ·have:=h i (bm i o ho);simp only[ho,Bool.and_eq_true] at this;have:=Array.all_eq_true_iff_forall_mem.1 this.1.2 e he
  simpa[Z] using this
 ·have:=h i (bm i oi hi);simp only[hi,Bool.and_eq_true,List.all_eq_true,List.mem_range] at this;have:=this.2 j (bm j oj hj);simp only[hj,ht,hu] at this;simp[kq] at this
 ·have:=h i (bm i oi hi);simp only[hi,Bool.and_eq_true,List.all_eq_true,List.mem_range] at this;have:=this.2 j (bm j oj hj);simp only[hj,ht] at this;have L:(oi.looksAt ops).contains t=true:=by simpa using hm
  simp only[L,Bool.or_eq_true,Bool.and_eq_true,beq_iff_eq,kq,false_or,Bool.not_true,Bool.false_eq_true,decide_eq_true_eq] at this;rcases this.2 with⟨A,F⟩|⟨A,F⟩
  ·obtain⟨e,he,Z⟩:=Array.any_eq_true'.1 F;simp only[Bool.and_eq_true,beq_iff_eq] at Z;exact .inl ⟨A,e,he,Z⟩
  ·obtain⟨e,he,Z⟩:=Array.any_eq_true'.1 F;simp only[Bool.and_eq_true,beq_iff_eq] at Z;exact .inr ⟨A,e,he,Z⟩
theorem Fs{a:Act}{t:Tmp}{v:Value}(h:t<a.tmps.size):gq (a.put (some t) v) t=v:=by simp[gq,Act.put,h]
theorem AG{a:Act}{d:Option Tmp}{t:Tmp}{v:Value}(h:d≠some t):gq (a.put d v) t=gq a t:=by
 cases d with
 |none=>rfl
 |some u=>
  have b9:u≠t:=λ e=>h (by rw[e])
  simp[gq,Act.put,Array.getElem?_setIfInBounds_ne b9]
theorem Io(a:Act)(d:Option Tmp)(v:Value):(a.put d v).tmps.size=a.tmps.size:=by cases d<;>simp[Act.put]
theorem Gk(a:Act)(d:Option Tmp)(v:Value):(a.put d v).defers=a.defers:=by cases d<;>rfl
theorem afU{P:Program}{o:Oper}{a:Act}{w:World}{aG:Act->World->Prop}{Q:Exit->Act->World->Prop}(h:o.wp P a w aG (λ _ _ _=>False)):o.wp P a w aG Q:=by
 unfold Oper.wp at*;generalize(execOp a.eval o).run P w=r at*;cases r with
 |ok n aM=>
  cases n<;>simp only[Oper.upon] at h⊢<;>first
   |exact h
   |exact Calls.mono h (λ e nN he=>by
    cases e with
    |returned v=>exact he
    |panicked c=>exact he.elim
    |outgrown=>obtain⟨_,_,hf⟩:=he;exact hf.elim)
 |halt x aM=>cases x<;>simp only[Oper.upon] at h⊢
structure agf(ops:Array Oper)(aA:Nat->FJ)(a0:Act)(aJ:Array Bool)(a:Act)(w:World):Prop where
 l8:aJ.size=ops.size
 size:a.tmps.size=a0.tmps.size
 defers:a.defers=a0.defers
 closed:∀(i:Nat)(o:Oper),ops[i]?=some o->aJ.getD i false=true->∀e∈o.after,Region.binds .any e=true->aJ.getD e.on false=true
 vV:∀(i:Nat)(o:Oper)(t:Tmp),ops[i]?=some o->aJ.getD i false=true->o.dst=some t->aA i (gq a t) w
 kept:∀t,(∀(i:Nat)(o:Oper),ops[i]?=some o->aJ.getD i false=true->o.dst≠some t)->gq a t=gq a0 t
theorem ng{l:Array Bool}{i:Nat}(h:l.getD i true=false):l.getD i false=false/\i<l.size:=by
 rcases Nat.lt_or_ge i l.size with bQ|bQ
 ·simp[bQ] at h⊢;exact h
 ·simp[Array.getElem?_eq_none bQ] at h
theorem XR{l:Array Bool}{i:Nat}(h:l.getD i false=false)(hi:i<l.size):l.getD i true=false:=by simp[hi] at h⊢;exact h
theorem Xv{ops:Array Oper}{n:Nat}(aT:pO ops n){aJ:Array Bool}(hs:aJ.size=ops.size)(h:Region.ready .any ops aJ=[]):∀i,i<ops.size->aJ.getD i false=true:=by
 intro i;induction i using Nat.strongRecOn with
 |ind i ih=>
  intro hi;rcases U:aJ.getD i false with _|_
  ·have hm:i∈Region.ready .any ops aJ:=mem_ready.2 ⟨XR U (by omega),ops[i],by simp[hi],λ e he Z=>by
    have:=aT.back i ops[i] (by simp[hi]) e he Z;exact ih _ this (by omega)⟩
   rw[h] at hm;cases hm
  ·rfl
def mZ(aJ:Array Bool):Nat:=(aJ.toList.filter (!·)).length
theorem U3:∀(l:List Bool)(i:Nat),i<l.length->l.getD i true=false->((l.set i true).filter (!·)).length+1=(l.filter (!·)).length
 |[],i,h,_=>by simp at h
 |b::l,0,_,Z=>by simp at Z;subst Z;simp
 |b::l,i+1,h,Z=>by
  have:=U3 l i (by simpa using h) (by simpa using Z);cases b<;>simp<;>omega
theorem NL{aJ:Array Bool}{i:Nat}(h:aJ.getD i true=false):mZ (aJ.setIfInBounds i true)+1=mZ aJ:=by
 obtain⟨_,hi⟩:=ng h;have:=U3 aJ.toList i (by simpa using hi) (by simpa using h)
 simpa[mZ,Array.toList_setIfInBounds] using this
theorem VZ{aJ:Array Bool}(h:mZ aJ=0){i:Nat}:aJ.getD i true=true:=by
 rcases U:aJ.getD i true with _|_
 ·have:=NL U;omega
 ·rfl
theorem IC(n:Nat):mZ (Array.replicate n false)=n:=by simp[mZ]
def A3:Value->Option Bool
 |.bool b=>some b
 |_=>none
def JZ(ops:Array Oper)(o:Oper):List Tmp:=match o.guard with|some (g,_)=>((ops[g]?).bind (·.dst)).toList|none=>[]
theorem PO{ops:Array Oper}{o:Oper}{t:Tmp}(h:t∈JZ ops o):t∈o.looksAt ops:=List.mem_append_right _ h
theorem IG(ops:Array Oper)(l:Array Value)(g:Nat):yielded ops l g=((ops[g]?).bind (·.dst)).bind λ t=>A3 (l.getD t undef):=by
 unfold yielded;cases ht:(ops[g]?).bind (·.dst) with
 |none=>rfl
 |some t=>
  simp only[Option.bind_some];rcases h:l[t]? with _|v
  ·simp[h,undef,A3]
  ·simp only[Array.getD_eq_getD_getElem?,h,Option.getD_some];cases v<;>rfl
section
variable{P:Program}{ops:Array Oper}{w0:World}{a0:Act}{Q:Exit->Act->World->Prop}{a:Act}{nd:List (Tmp×FJ)}{o:Oper}{rest:List Oper}
def ke(P:Program)(f:FuncId):Prop:=∀args w,(callFunc f args).run P w=.ok (.enter f args) w
end
theorem Vc{P:Program}{ops:Array Oper}{Q:Exit->Act->World->Prop}{i:Nat}{o:Oper}{rest:List Oper}{a:Act}{w:World}(hi:ops[i]?=some o)(h:wpList P ops Q (o::rest) a w):wpOp P ops Q i (wpList P ops Q rest) a w:=by unfold wpOp;simp only[hi];exact h
theorem IB:∀(l:List Bool)(n:Nat),n<=l.length->(∀i,i<n->l.getD i true=true)->(∀i,n<=i->i<l.length->l.getD i true=false)->(l.filter (!·)).length=l.length-n
 |[],n,hn,_,_=>by simp at hn;simp[hn]
 |b::l,0,_,_,F=>by
  have Z:b=false:=by simpa using F 0 (Nat.le_refl _) (by simp)
  have ih:=IB l 0 (by omega) (λ i hi=>by omega) (λ i _ hi=>by simpa using F (i+1) (by omega) (by simpa using hi));subst Z;simp at ih⊢;exact ih
 |b::l,n+1,hn,A,F=>by
  have Z:b=true:=by simpa using A 0 (by omega)
  have ih:=IB l n (by simpa using hn) (λ i hi=>by simpa using A (i+1) (by omega)) (λ i hi U=>by simpa using F (i+1) (by omega) (by simpa using U));subst Z;simp at ih⊢;exact ih
end Go.Proofs.YtcnefjfboagbmaaGreat
end
section
namespace Go.Proofs.YtcnefjfboagbmaaGreat
open Go.ChangeShapes Go.WideShapes Go.ChangeAt Go.RowKit Go.Deep
section
variable{H:Type}{enc:TypeId×Value->H}{P:Program}{w:World}{base:Nat}{mW:Nat->Bool}{aw:Bool}
def JL(P:Program)(t i:Nat):Option (TypeId×Nat×Nat):=
 match P.underlying t with
 |some (.struct fs)=>(fs[i]?).map λ f=>(f.type,f.offset,P.cellsOf f.type)
 |_=>none
def Read(enc:TypeId×Value->H)(P:Program)(w:World)(base:Nat)(mW:Nat->Bool)(aw:Bool)(t:TypeId)(cs:List Value):Prop:=∃n y,DataW.trod enc P w base mW aw n t cs=some y
theorem TH{t i ft dE sz:Nat}{cs:List Value}(hf:JL P t i=some (ft,dE,sz))(h:Read enc P w base mW aw t cs):Read enc P w base mW aw ft ((cs.drop dE).take sz):=by
 obtain⟨n,y,h⟩:=h;unfold JL at hf;split at hf
 ·rename_i fs hu;obtain⟨xs,m,_,_,_,cD,hg⟩:=DataW.trod_struct hu h;rcases jS:fs[i]? with _|f
  ·rw[jS] at hf;cases hf
  ·rw[jS] at hf;simp only[Option.map_some,Option.some.injEq,Prod.mk.injEq] at hf;obtain⟨rfl,rfl,rfl⟩:=hf;have A:=hg i f jS;have hi:i<fs.size:=(Array.getElem?_eq_some_iff.1 jS).1;have F:xs[i]?=some (xs[i]'(by omega)):=List.getElem?_eq_getElem (by omega);exact⟨m,_,A.trans F⟩
 ·cases hf
theorem TJ{t:TypeId}{cs:List Value}(ht:P.underlying t=some (.int .u8))(h:Read enc P w base mW aw t cs):∃n:Int,cs=[.int .u8 n]/\0<=n/\n<=255:=by obtain⟨m,y,h⟩:=h;obtain⟨n,hn,_,hw⟩:=DataW.trod_int ht h;exact⟨n,hn,bounds_u8 hw⟩
theorem ad6{t e:TypeId}{sz:Nat}{cs:List Value}(ht:P.underlying t=some (.slice e))(L:P.cellsOf e=sz)(h:Read enc P w base mW aw t cs):
 ∃(am:Option Addr)(len bS:Nat),cs=[.slice am len bS]/\len<=bS/\bS<=maxLen/\(len=0\/∃a,am=some a)/\
  ∀i,i<len->∃a aS,am=some a/\aS.length=sz/\(∀j,j<sz->w.cell? (a.add (i*sz+j))=aS[j]?)/\Read enc P w base mW aw e aS:=by
 obtain⟨m,y,h⟩:=h;rcases open_slice ht h with⟨rfl,_⟩|⟨a,len,bS,B7,n,ay,Pl,rfl,Z,U,hm,Q4,T,hi⟩
 ·exact⟨none,0,0,rfl,by omega,by unfold maxLen;omega,.inl rfl,λ i hi=>by omega⟩
 ·refine⟨some a,len,bS,rfl,U,hm,.inr ⟨a,rfl⟩,λ i agZ=>?_⟩;obtain⟨aS,dR,zn⟩:=hi i (by rw[Q4];split<;>omega);rw[L] at dR;obtain⟨_,cD,io⟩:=World.cells?_some dR;refine⟨a,aS,rfl,cD,λ j hj=>?_,n,_,zn⟩;rw[<-io j hj,Go.Deep.add_add]
theorem VU{a:Addr}{n:Nat}{v:Value}(h:w.cell? (a.add n)=some v):a.spot=none\/n≠0:=by
 by_cases hn:n=0
 ·subst hn;simp only[Addr.add,if_true] at h;exact .inl (by have:=World.cell?_spot h;simpa using this)
 ·exact .inr hn
theorem WN{p:Addr}{v:Value}(h:w.cell? p=some v):p.block<w.heap.size:=by
 rcases Nat.lt_or_ge p.block w.heap.size with bm|iq
 ·exact bm
 ·simp[World.cell?,Array.getElem?_eq_none iq] at h
theorem ad4{av:Type}{t e:TypeId}{sz:Nat}(cells:av->List Value)(ok:av->Prop)(ci:0<sz)(cD:∀x,(cells x).length=sz)(ht:P.underlying t=some (.slice e))(L:P.cellsOf e=sz)
 (Et:∀cs,cs.length=sz->Read enc P w base mW aw e cs->∃x,cs=cells x/\ok x){cs:List Value}(h:Read enc P w base mW aw t cs):
 ∃(am:Option Addr)(l:List av)(bS:Nat),cs=[.slice am l.length bS]/\l.length<=bS/\bS<=maxLen/\(∀x∈l,ok x)/\
  ∀i x,l[i]?=some x->∃b o,am=some ⟨b,o,none⟩/\b<w.heap.size/\∀j u,(cells x)[j]?=some u->w.cell? ⟨b,o+(i*sz+j),none⟩=some u:=by
 obtain⟨am,len,bS,rfl,U,hm,hA,ek⟩:=ad6 ht L h;have yU:∀i:Fin len,∃x,ok x/\∃a,am=some a/\∀j u,(cells x)[j]?=some u->w.cell? (a.add (i.1*sz+j))=some u:=λ i=>by
  obtain⟨a,aS,e,ZH,io,hr⟩:=ek i.1 i.2;obtain⟨x,rfl,aT⟩:=Et aS ZH hr;refine⟨x,aT,a,e,λ j u hu=>?_⟩;have hj:j<(cells x).length:=(List.getElem?_eq_some_iff.1 hu).1;rw[io j (by rw[cD] at hj;exact hj)];exact hu
 let f:Fin len->av:=λ i=>Classical.choose (yU i)
 have hf:∀i,ok (f i)/\∃a,am=some a/\∀j u,(cells (f i))[j]?=some u->w.cell? (a.add (i.1*sz+j))=some u:=λ i=>Classical.choose_spec (yU i)
 refine⟨am,List.ofFn f,bS,by simp,by simpa using U,hm,λ x T=>?_,λ i x hi=>?_⟩
 ·obtain⟨i,rfl⟩:=List.mem_ofFn.1 T;exact(hf i).1
 ·have dT:i<len:=by have:=(List.getElem?_eq_some_iff.1 hi).1;simpa using this
  have T:f ⟨i,dT⟩=x:=by simpa[dT] using hi
  obtain⟨a,e,L⟩:=(hf ⟨i,dT⟩).2;rw[T] at L;obtain⟨b,o,s⟩:=a;have Y3:=hf ⟨0,by omega⟩;have h0:∃u,(cells (f ⟨0,by omega⟩))[0]?=some u:=⟨_,List.getElem?_eq_getElem (by rw[cD];exact ci)⟩;obtain⟨afE,ut⟩:=h0;obtain⟨bs,ab,ip⟩:=Y3.2;have Qj:=ip 0 afE ut;rw[e] at ab;injection ab with ab
  subst ab;have hs:s=none:=by
   rcases VU Qj with bQ|bQ
   ·exact bQ
   ·simp at bQ
  subst hs;have DR:∀n,(⟨b,o,none⟩:Addr).add n=⟨b,o+n,none⟩:=λ n=>by
   unfold Addr.add;split
   ·rename_i hn;subst hn;simp
   ·rfl
  refine⟨b,o,e,by have:=WN Qj;rw[DR] at this;exact this,λ j u hu=>?_⟩;have:=L j u hu;rw[DR] at this;exact this
end
end Go.Proofs.YtcnefjfboagbmaaGreat
end
section
namespace Go.Proofs.YtcnefjfboagbmaaGreat
open Go.RowKit
inductive Pl where
 |raw (v:Value)
 |sl (ex:Bool) (n:Nat) (ps:List Pl)
inductive K where
 |p (x:Pl)
 |agg (ds:List K)
 |bd (ds:List K)
 |ptr (b o:Nat)
 |el (ps:List Pl)
 |aW (g n:Nat) (ps:List Pl)
 |arr (b o n c:Nat)
 |fn (f:Fn) (first c7:List K)
 |any
structure Gr where
 el:TypeId
 sz:Nat
 len:Nat
structure aC where
 w:World
 cl:Nat->Option Nat
 bx:Nat->Option Nat
 gr:Nat->Option Nat
 gi:Nat->Option Gr
def aC.nW(e:aC)(b o:Nat):Prop:=∀k,e.cl b=some k->o<k
def mr(v:Value):Bool:=v.oneCell'
inductive dm(e:aC):Value->Pl->Prop where
 |raw (v:Value):dm e v (.raw v)
 |sl {am:Option Addr} {n bS:Nat} {ex:Bool} {ps:List Pl} (f:Nat->Value) (A:n<=bS) (F:bS<=maxLen) (O:am=none->bS=0) (h4:ex=true->bS=n)
  (h5:∀i x,ps[i]?=some x->∃b o,am=some ⟨b,o,none⟩/\e.nW b (o+i)/\e.w.cell? ⟨b,o+i,none⟩=some (f i)/\mr (f i)=true)
  (h6:∀i x,ps[i]?=some x->dm e (f i) x):dm e (.slice am n bS) (.sl ex n ps)
def sx(e:aC)(b o:Nat)(ps:List Pl):Prop:=
 ∃f:Nat->Value,∀i x,ps[i]?=some x->e.nW b (o+i)/\e.w.cell? ⟨b,o+i,none⟩=some (f i)/\mr (f i)=true/\dm e (f i) x
structure Vt(e:aC)(au:Gr)(g k bS:Nat):Prop where
 gr:e.gr k=some g
 row:∃cur,e.w.heap[k]?=some (.cells cur au.el (0,0))/\cur.size=bS*au.sz
def FM(e:aC)(v:Value)(g n m:Nat):Prop:=
 ∃au am bS,e.gi g=some au/\v=.slice am n bS/\n<=au.len/\m=n*au.sz/\(bS=n\/∃k,am=some ⟨k,0,none⟩/\Vt e au g k bS)
inductive bz(e:aC):Value->K->Prop where
 |p {v:Value} {x:Pl} (h:dm e v x):bz e v (.p x)
 |agg {vs:List Value} {ds:List K} (U:vs.length=ds.length) (h:∀(i:Nat) v d,vs[i]?=some v->ds[i]?=some d->bz e v d):bz e (.agg vs.toArray) (.agg ds)
 |bd {vs:List Value} {ds:List K} (U:vs.length=ds.length) (h:∀(i:Nat) v d,vs[i]?=some v->ds[i]?=some d->bz e v d):bz e (.tuple vs.toArray) (.bd ds)
 |ptr {b o k:Nat} (h:e.bx b=some k):bz e (.pointer (some ⟨k,o,none⟩)) (.ptr b o)
 |el {b o:Nat} {ps:List Pl} (h:sx e b o ps):bz e (.pointer (some ⟨b,o,none⟩)) (.el ps)
 |aW {v:Value} {g n:Nat} {ps:List Pl} (h:dm e v (.sl false n ps)) (ht:FM e v g n ps.length):bz e v (.aW g n ps)
 |arr {b o n c k:Nat} (h:e.bx b=some k):bz e (.slice (some ⟨k,o,none⟩) n c) (.arr b o n c)
 |fn {f:Fn} {us vs:List Value} {first c7:List K} (U:us.length=first.length) (dX:vs.length=c7.length) (h:∀(i:Nat) v d,us[i]?=some v->first[i]?=some d->bz e v d) (F:∀(i:Nat) v d,vs[i]?=some v->c7[i]?=some d->bz e v d):bz e (.func f us.toArray vs.toArray) (.fn f first c7)
 |any {v:Value}:bz e v .any
def DReps(e:aC)(vs:List Value)(ds:List K):Prop:=vs.length=ds.length/\∀(i:Nat) v d,vs[i]?=some v->ds[i]?=some d->bz e v d
structure Ends(e ab:aC):Prop where
 yt:∀b o v,e.nW b o->e.w.cell? ⟨b,o,none⟩=some v->ab.nW b o/\ab.w.cell? ⟨b,o,none⟩=some v
 bx:∀b k,e.bx b=some k->ab.bx b=some k
 gi:∀g au,e.gi g=some au->∃m7,ab.gi g=some m7/\m7.el=au.el/\m7.sz=au.sz/\au.len<=m7.len
 row:∀k g au cur,e.gr k=some g->e.gi g=some au->e.w.heap[k]?=some (.cells cur au.el (0,0))->ab.gr k=some g/\∃iT,ab.w.heap[k]?=some (.cells iT au.el (0,0))/\iT.size=cur.size
theorem Ends.trans{a b c:aC}(h:Ends a b)(k:Ends b c):Ends a c:=by
 refine⟨λ x o v A F=>?_,λ x y hh=>k.bx _ _ (h.bx _ _ hh),λ g au hg=>?_,λ x g au cur A F O=>?_⟩
 ·obtain⟨O,h4⟩:=h.yt x o v A F;exact k.yt x o v O h4
 ·obtain⟨m7,e1,e2,e3,e4⟩:=h.gi g au hg;obtain⟨G2,f1,f2,lW,ve⟩:=k.gi g m7 e1;exact⟨G2,f1,f2.trans e2,lW.trans e3,Nat.le_trans e4 ve⟩
 ·obtain⟨h4,iT,h5,h6⟩:=h.row x g au cur A F O;obtain⟨m7,e1,e2,e3,e4⟩:=h.gi g au F;obtain⟨h7,W8,h8,h9⟩:=k.row x g m7 iT h4 e1 (by rw[e2];exact h5);exact⟨h7,W8,by rw[<-e2];exact h8,h9.trans h6⟩
theorem dm.next{e ab:aC}(I:Ends e ab){v:Value}{x:Pl}(h:dm e v x):dm ab v x:=by
 induction h with
 |raw v=>exact .raw v
 |sl f A F O h4 h5 h6 ih=>refine .sl f A F O h4 (λ i x T=>?_) ih;obtain⟨b,o,hA,L,hv,U⟩:=h5 i x T;obtain⟨h7,h8⟩:=I.yt _ _ _ L hv;exact⟨b,o,hA,h7,h8,U⟩
theorem sx.next{e ab:aC}(I:Ends e ab){b o:Nat}{ps:List Pl}(h:sx e b o ps):sx ab b o ps:=by obtain⟨f,hf⟩:=h;refine⟨f,λ i x T=>?_⟩;obtain⟨A,F,O,h4⟩:=hf i x T;obtain⟨h5,h6⟩:=I.yt _ _ _ A F;exact⟨h5,h6,O,h4.next I⟩
theorem FM.next{e ab:aC}(I:Ends e ab){v:Value}{g n m:Nat}(h:FM e v g n m):FM ab v g n m:=by obtain⟨au,am,bS,hg,hv,hn,hm,L⟩:=h;obtain⟨m7,e1,e2,e3,e4⟩:=I.gi g au hg;refine⟨m7,am,bS,e1,hv,Nat.le_trans hn e4,by rw[e3];exact hm,L.imp id ?_⟩;rintro⟨k,hA,A,cur,F,O⟩;obtain⟨h4,iT,h5,h6⟩:=I.row k g au cur A hg F;exact⟨k,hA,h4,iT,by rw[e2];exact h5,by rw[h6,O,e3]⟩
theorem bz.next{e ab:aC}(I:Ends e ab){v:Value}{d:K}(h:bz e v d):bz ab v d:=by
 induction h with
 |p h=>exact .p (h.next I)
 |agg U _ ih=>exact .agg U ih
 |bd U _ ih=>exact .bd U ih
 |ptr h=>exact .ptr (I.bx _ _ h)
 |el h=>exact .el (h.next I)
 |aW h ht=>exact .aW (h.next I) (ht.next I)
 |arr h=>exact .arr (I.bx _ _ h)
 |fn U dX _ _ ih EE=>exact .fn U dX ih EE
 |any=>exact .any
theorem DReps.next{e ab:aC}(I:Ends e ab){vs:List Value}{ds:List K}(h:DReps e vs ds):DReps ab vs ds:=⟨h.1,λ i v d A F=>(h.2 i v d A F).next I⟩
theorem DReps.nil(e:aC):DReps e [] []:=⟨rfl,λ i v d h=>by simp at h⟩
theorem DReps.cons{e:aC}{v:Value}{d:K}{vs:List Value}{ds:List K}(h:bz e v d)(hs:DReps e vs ds):DReps e (v::vs) (d::ds):=by
 refine⟨by simp[hs.1],λ i u c A F=>?_⟩;cases i with
 |zero=>simp at A F;subst A;subst F;exact h
 |succ i=>exact hs.2 i u c (by simpa using A) (by simpa using F)
theorem DReps.yd{e:aC}{vs:List Value}{d:K}{ds:List K}(h:DReps e vs (d::ds)):∃v eY,vs=v::eY/\bz e v d/\DReps e eY ds:=by
 obtain⟨U,hh⟩:=h;rcases vs with _|⟨v,eY⟩
 ·simp at U
 ·exact⟨v,eY,rfl,hh 0 v d rfl rfl,by simpa using U,λ i u c A F=>hh (i+1) u c (by simpa using A) (by simpa using F)⟩
theorem DReps.get{e:aC}{vs:List Value}{ds:List K}(h:DReps e vs ds){i:Nat}{d:K}(D:ds[i]?=some d):∃v,vs[i]?=some v/\bz e v d:=by
 have hi:i<ds.length:=(List.getElem?_eq_some_iff.1 D).1;have mM:i<vs.length:=by rw[h.1];exact hi
 exact⟨vs[i],List.getElem?_eq_getElem mM,h.2 i _ d (List.getElem?_eq_getElem mM) D⟩
theorem DReps.take{e:aC}{vs:List Value}{ds:List K}(h:DReps e vs ds)(k:Nat):DReps e (vs.take k) (ds.take k):=by
 refine⟨by simp[h.1],λ i v d A F=>?_⟩;rw[List.getElem?_take] at A F;split at A
 ·rename_i hi;rw[if_pos hi] at F;exact h.2 i v d A F
 ·cases A
theorem DReps.drop{e:aC}{vs:List Value}{ds:List K}(h:DReps e vs ds)(k:Nat):DReps e (vs.drop k) (ds.drop k):=by refine⟨by simp[h.1],λ i v d A F=>?_⟩;rw[List.getElem?_drop] at A F;exact h.2 _ v d A F
theorem DReps.append{e:aC}{vs us:List Value}{ds cs:List K}(h:DReps e vs ds)(bQ:DReps e us cs):DReps e (vs++us) (ds++cs):=by
 refine⟨by simp[h.1,bQ.1],λ i v d A F=>?_⟩;rcases Nat.lt_or_ge i vs.length with hi|hi
 ·rw[List.getElem?_append_left hi] at A;rw[List.getElem?_append_left (by rw[<-h.1];exact hi)] at F;exact h.2 i v d A F
 ·rw[List.getElem?_append_right hi] at A;rw[List.getElem?_append_right (by rw[<-h.1];exact hi),<-h.1] at F;exact bQ.2 _ v d A F
def K.leaf:K->Bool
 |.p (.raw v)=>mr v
 |.p (.sl ..)|.ptr ..|.el _|.aW ..|.arr ..|.fn ..=>true
 |_=>false
theorem LF{e:aC}{v:Value}{d:K}(h:bz e v d)(U:d.leaf=true):mr v=true:=by
 cases h with
 |p h=>cases h with
  |raw v=>exact U
  |sl=>rfl
 |agg=>cases U
 |bd=>cases U
 |ptr=>rfl
 |el=>rfl
 |aW h ht=>obtain⟨_,am,bS,_,rfl,_⟩:=ht;rfl
 |arr=>rfl
 |fn=>rfl
 |any=>cases U
def K.cells:K->List K
 |.agg ds=>ds
 |d=>[d]
theorem WQ{e:aC}{v:Value}{d:K}(h:bz e v d)(U:d.leaf=true\/∃ds,d=.agg ds):DReps e v.cells.toList d.cells:=by
 rcases U with U|⟨ds,rfl⟩
 ·have hv:=LF h U;have A:v.cells=#[v]:=by cases v<;>first|rfl|cases hv
  have F:d.cells=[d]:=by cases d<;>first|rfl|cases U
  rw[A,F];exact DReps.cons h (DReps.nil e)
 ·cases h with
  |agg U h=>exact⟨by simpa[Value.cells,K.cells] using U,λ i v d A F=>h i v d (by simpa[Value.cells] using A) (by simpa[K.cells] using F)⟩
end Go.Proofs.YtcnefjfboagbmaaGreat
end
section
namespace Go.Proofs.YtcnefjfboagbmaaGreat
open Go.RowKit
def kv{av:Type}:List (Nat×av)->Nat->Option av
 |[],_=>none
 |(k,v)::l,n=>bif Nat.beq k n then some v else kv l n
theorem da{av:Type}(k:Nat)(v:av)(l:List (Nat×av))(n:Nat):kv ((k,v)::l) n=if k=n then some v else kv l n:=by
 by_cases h:k=n
 ·subst h;simp[kv]
 ·have:Nat.beq k n=false:=by rw[Bool.eq_false_iff];intro Z;exact h (Nat.eq_of_beq_eq_true Z)
  simp[kv,this,h]
structure St where
 s:List (Nat×K)
 b:List (Nat×List K)
 g:List (Nat×Gr)
structure bN where
 n:Nat
 w0:World
 k9:Nat->Option Nat
 own:Nat->Prop
 kb:List (Nat×Nat)
 dz:List Deferred
def h1(e:aC)(b:Nat)(cs:List K):Prop:=∃k vs el,e.bx b=some k/\e.w.heap[k]?=some (.cells (List.toArray vs) el (0,0))/\DReps e vs cs
structure oz(own:Nat->Prop)(w aM:World):Prop where
 os:aM.os=w.os
 tape:aM.tape=w.tape
 output:aM.output=w.output
 size:w.heap.size<=aM.heap.size
 block:∀k,k<w.heap.size->¬own k->aM.heap[k]?=w.heap[k]?
theorem oz.refl(own:Nat->Prop)(w:World):oz own w w:=⟨rfl,rfl,rfl,Nat.le_refl _,λ _ _ _=>rfl⟩
theorem oz.below{own:Nat->Prop}{w aM nN:World}(h:oz own w aM)(Z:Below aM.heap.size aM nN):oz own w nN:=
 ⟨Z.os.trans h.os,Z.tape.trans h.tape,Z.output.trans h.output,Nat.le_trans h.size Z.size,λ k J ho=>(Z.block k (Nat.lt_of_lt_of_le J h.size)).trans (h.block k J ho)⟩
structure h2(Γ:bN)(e:aC):Prop where
 kept:oz Γ.own Γ.w0 e.w
 cl:∀k,k<Γ.w0.heap.size->¬Γ.own k->e.cl k=Γ.k9 k
 bx:∀b k,e.bx b=some k->k<e.w.heap.size/\(Γ.w0.heap.size<=k\/Γ.own k)/\e.cl k=some 0/\e.gr k=none
 inj:∀b c k,e.bx b=some k->e.bx c=some k->b=c
 gr:∀k g,e.gr k=some g->∃au cur,e.gi g=some au/\k<e.w.heap.size/\(Γ.w0.heap.size<=k\/Γ.own k)/\e.cl k=some (au.len*au.sz)/\e.w.heap[k]?=some (.cells cur au.el (0,0))
 kb:∀b k,kv Γ.kb b=some k->e.bx b=some k
structure bu(Γ:bN)(M:St)(e:aC)(a:Act):Prop where
 size:a.tmps.size=Γ.n
 df:a.defers=Γ.dz
 bU:∀t d,kv M.s t=some d->bz e (gq a t) d
 boxes:∀b cs,kv M.b b=some cs->h1 e b cs
 eE:∀b,kv M.b b=none->e.bx b=none
 gs:∀g,e.gi g=kv M.g g
 env:h2 Γ e
structure kI(e ab:aC):Prop where
 below:Below e.w.heap.size e.w ab.w
 cl:∀k,k<e.w.heap.size->ab.cl k=e.cl k
 bx:ab.bx=e.bx
 gr:ab.gr=e.gr
 gi:ab.gi=e.gi
theorem kI.refl(e:aC):kI e e:=⟨Below.refl _ _,λ _ _=>rfl,rfl,rfl,rfl⟩
theorem F6{w:World}{b o:Nat}{v:Value}(h:w.cell? ⟨b,o,none⟩=some v):b<w.heap.size:=by
 rcases Nat.lt_or_ge b w.heap.size with bm|iq
 ·exact bm
 ·simp[World.cell?,Array.getElem?_eq_none iq] at h
theorem sU{w:World}{b:Nat}{o:Obj}(h:w.heap[b]?=some o):b<w.heap.size:=by
 rcases Nat.lt_or_ge b w.heap.size with bm|iq
 ·exact bm
 ·rw[Array.getElem?_eq_none iq] at h;cases h
theorem kI.nW{e ab:aC}(h:kI e ab){b o:Nat}(Z:b<e.w.heap.size)(L:e.nW b o):ab.nW b o:=λ k J=>L k (by rw[<-h.cl b Z];exact J)
theorem kI.ends{e ab:aC}(h:kI e ab):Ends e ab:=by
 refine⟨λ b o v L hv=>?_,λ b k J=>by rw[h.bx];exact J,λ g au hg=>⟨au,by rw[h.gi];exact hg,rfl,rfl,Nat.le_refl _⟩,λ k g au cur A F O=>⟨by rw[h.gr];exact A,cur,?_,rfl⟩⟩
 ·have Z:=F6 hv;exact⟨h.nW Z L,by rw[h.below.cell (p:=⟨b,o,none⟩) Z];exact hv⟩
 ·rw[h.below.block k (sU O)];exact O
theorem kI.box{e ab:aC}(h:kI e ab){b:Nat}{cs:List K}(Z:h1 e b cs):h1 ab b cs:=by obtain⟨k,vs,el,A,F,O⟩:=Z;exact⟨k,vs,el,by rw[h.bx];exact A,by rw[h.below.block k (sU F)];exact F,O.next h.ends⟩
theorem kI.ok{Γ:bN}{e ab:aC}(h:kI e ab)(ho:h2 Γ e):h2 Γ ab:=by
 refine⟨ho.kept.below h.below,λ k J hw=>(h.cl k (Nat.lt_of_lt_of_le J ho.kept.size)).trans (ho.cl k J hw),λ b k Z=>?_,λ b c k A F=>ho.inj b c k (by rw[<-h.bx];exact A) (by rw[<-h.bx];exact F),λ k g hg=>?_,λ b k J=>by rw[h.bx];exact ho.kb b k J⟩
 ·rw[h.bx] at Z;obtain⟨A,F,O,h4⟩:=ho.bx b k Z;exact⟨Nat.lt_of_lt_of_le A h.below.size,F,(h.cl k A).trans O,by rw[h.gr];exact h4⟩
 ·rw[h.gr] at hg;obtain⟨au,cur,A,F,O,h4,h5⟩:=ho.gr k g hg;exact⟨au,cur,by rw[h.gi];exact A,Nat.lt_of_lt_of_le F h.below.size,O,(h.cl k F).trans h4,by rw[h.below.block k F];exact h5⟩
theorem bu.grow{Γ:bN}{M:St}{e ab:aC}{a:Act}(L:bu Γ M e a)(h:kI e ab):bu Γ M ab a:=
 ⟨L.size,L.df,λ t d ht=>(L.bU t d ht).next h.ends,λ b cs Z=>h.box (L.boxes b cs Z),λ b Z=>by rw[h.bx];exact L.eE b Z,λ g=>by rw[h.gi];exact L.gs g,h.ok L.env⟩
def St.put(M:St):Option Nat->K->St
 |some t,d=>⟨(t,d)::M.s,M.b,M.g⟩
 |none,_=>M
def St.box(M:St):Option (Nat×List K)->St
 |some p=>⟨M.s,p::M.b,M.g⟩
 |none=>M
def wT(n:Nat):Option Nat->Bool
 |some t=>Nat.blt t n
 |none=>true
theorem bu.put{Γ:bN}{M:St}{e:aC}{a:Act}(L:bu Γ M e a){dst:Option Nat}(D:wT Γ.n dst=true){v:Value}{d:K}(hv:bz e v d):bu Γ (M.put dst d) e (a.put dst v):=by
 cases dst with
 |none=>exact L
 |some t=>
  have ht:t<Γ.n:=by simpa[wT,Nat.blt_eq] using D
  refine⟨by rw[Io];exact L.size,by rw[Gk];exact L.df,λ u c hu=>?_,L.boxes,L.eE,L.gs,L.env⟩;simp only[St.put,da] at hu;split at hu
  ·rename_i l6;subst l6;cases hu;rw[Fs (by rw[L.size];exact ht)];exact hv
  ·rename_i l6;rw[AG (λ e=>l6 (by cases e;rfl))];exact L.bU u c hu
def aC.iz(e:aC)(b k:Nat):aC:={e with bx:=λ x=>if x=b then some k else e.bx x}
theorem tE{e:aC}{b k:Nat}(h:e.bx b=none):Ends e (e.iz b k):=
 ⟨λ _ _ _ A F=>⟨A,F⟩,λ c j hj=>by
  show(if c=b then some k else e.bx c)=some j;rw[if_neg (λ ab=>by rw[ab,h] at hj;cases hj)];exact hj,λ _ au hg=>⟨au,hg,rfl,rfl,Nat.le_refl _⟩,λ _ _ _ cur A _ O=>⟨A,cur,O,rfl⟩⟩
theorem h1.ends{e ab:aC}{b:Nat}{cs:List K}(h:h1 e b cs)(I:Ends e ab)(hw:ab.w=e.w):h1 ab b cs:=by obtain⟨k,vs,el,A,F,O⟩:=h;exact⟨k,vs,el,I.bx _ _ A,by rw[hw];exact F,O.next I⟩
theorem bu.abY{Γ:bN}{M:St}{e:aC}{a:Act}(L:bu Γ M e a){b k:Nat}{cs:List K}(Z:kv M.b b=none)(J:k<e.w.heap.size)(pZ:Γ.w0.heap.size<=k)(ea:e.cl k=some 0)(hc:e.gr k=none)(dC:∀c,e.bx c≠some k)
 (io:h1 (e.iz b k) b cs):bu Γ (M.box (some (b,cs))) (e.iz b k) a:=by
 have hn:=L.eE b Z;have I:=tE (k:=k) hn;refine⟨L.size,L.df,λ t d ht=>(L.bU t d ht).next I,λ c ds rM=>?_,λ c qN=>?_,L.gs,?_⟩
 ·simp only[St.box,da] at rM;split at rM
  ·rename_i ue;subst ue;cases rM;exact io
  ·exact(L.boxes c ds rM).ends I rfl
 ·simp only[St.box,da] at qN;split at qN
  ·cases qN
  ·rename_i ue;show(if c=b then some k else e.bx c)=none;rw[if_neg (λ ab=>ue ab.symm)];exact L.eE c qN
 ·refine⟨L.env.kept,L.env.cl,λ c j hj=>?_,λ c cg j A F=>?_,L.env.gr,λ c j hj=>I.bx c j (L.env.kb c j hj)⟩
  ·have fI:(if c=b then some k else e.bx c)=some j:=hj;split at fI
   ·cases fI;exact⟨J,.inl pZ,ea,hc⟩
   ·exact L.env.bx c j fI
  ·have aU:(if c=b then some k else e.bx c)=some j:=A;have bB:(if cg=b then some k else e.bx cg)=some j:=F
   by_cases e1:c=b<;>by_cases e2:cg=b
   ·rw[e1,e2]
   ·rw[if_pos e1] at aU;rw[if_neg e2] at bB;cases aU;exact absurd bB (dC cg)
   ·rw[if_neg e1] at aU;rw[if_pos e2] at bB;cases bB;exact absurd aU (dC c)
   ·rw[if_neg e1] at aU;rw[if_neg e2] at bB;exact L.env.inj c cg j aU bB
def pa(e ab:aC)(v:Value)(d:K):Option (Nat×List K)->Prop
 |none=>kI e ab/\bz ab v d
 |some (b,cs)=>∃e1 k,kI e e1/\e.w.heap.size<=k/\k<e1.w.heap.size/\e1.cl k=some 0/\ab=e1.iz b k/\h1 ab b cs/\bz ab v d
theorem bu.quiet{Γ:bN}{M:St}{e ab:aC}{a:Act}(L:bu Γ M e a){dst:Option Nat}(D:wT Γ.n dst=true){v:Value}{d:K}{nb:Option (Nat×List K)}(eo:∀p,nb=some p->kv M.b p.1=none)(h:pa e ab v d nb):bu Γ ((M.box nb).put dst d) ab (a.put dst v):=by
 cases nb with
 |none=>exact(L.grow h.1).put D h.2
 |some p=>
  obtain⟨b,cs⟩:=p;obtain⟨e1,k,hg,A,F,O,rfl,h5,h6⟩:=h;have cM:=L.grow hg;refine(cM.abY (eo _ rfl) F (Nat.le_trans L.env.kept.size A) O ?_ ?_ h5).put D h6
  ·rw[hg.gr];rcases je:e.gr k with _|g
   ·rfl
   ·obtain⟨_,_,_,bm,_⟩:=L.env.gr k g je;omega
  ·intro c vm;rw[hg.bx] at vm;have:=(L.env.bx c k vm).1;omega
def pV:Value->K
 |.slice none 0 0=>.p (.sl true 0 [])
 |v=>.p (.raw v)
def ki:Value->K
 |.agg cs=>.agg (cs.toList.map pV)
 |v=>pV v
theorem acb(e:aC):dm e (.slice none 0 0) (.sl true 0 []):=.sl (λ _=>undef) (Nat.le_refl _) (by unfold maxLen;omega) (λ _=>rfl) (λ _=>rfl) (λ i x h=>by simp at h) (λ i x h=>by simp at h)
theorem Gc(e:aC)(v:Value):bz e v (pV v):=by
 unfold pV;split
 ·exact .p (acb e)
 ·exact .p (.raw v)
theorem wQ(e:aC)(v:Value):bz e v (ki v):=by
 unfold ki;split
 ·rename_i cs;have:bz e (.agg cs.toList.toArray) (.agg (cs.toList.map pV)):=.agg (by simp) (λ i v d A F=>by
   rw[List.getElem?_map,A] at F;cases F;exact Gc e v)
  simpa using this
 ·exact Gc e v
def mD{av ei:Type}:Nat->List ei->(List ei->Option av)->Option av
 |0,_,k=>k []
 |n+1,x::l,k=>mD n l (λ r=>k (x::r))
 |_+1,[],_=>none
def la{av ei:Type}:Nat->List ei->(List ei->Option av)->Option av
 |0,l,k=>k l
 |n+1,_::l,k=>la n l k
 |_+1,[],_=>none
def HP{av ei cC:Type}(f:cC->ei):List cC->(List ei->Option av)->Option av
 |[],k=>k []
 |x::l,k=>HP f l (λ r=>k (f x::r))
def m8{av ei:Type}:List ei->List ei->(List ei->Option av)->Option av
 |[],m,k=>k m
 |x::l,m,k=>m8 l m (λ r=>k (x::r))
theorem sq{av ei:Type}:∀{n:Nat}{l:List ei}{k:List ei->Option av}{a:av},mD n l k=some a->n<=l.length/\k (l.take n)=some a
 |0,l,k,a,h=>⟨Nat.zero_le _,by simpa[mD] using h⟩
 |n+1,x::l,k,a,h=>by
  obtain⟨A,F⟩:=sq (n:=n) (l:=l) (k:=λ r=>k (x::r)) h;exact⟨by simpa using A,by simpa using F⟩
 |n+1,[],k,a,h=>by cases h
theorem nY{av ei:Type}:∀{n:Nat}{l:List ei}{k:List ei->Option av}{a:av},la n l k=some a->n<=l.length/\k (l.drop n)=some a
 |0,l,k,a,h=>⟨Nat.zero_le _,by simpa[la] using h⟩
 |n+1,x::l,k,a,h=>by
  obtain⟨A,F⟩:=nY (n:=n) (l:=l) (k:=k) h;exact⟨by simpa using A,by simpa using F⟩
 |n+1,[],k,a,h=>by cases h
theorem Sq{av ei cC:Type}(f:cC->ei):∀(l:List cC)(k:List ei->Option av),HP f l k=k (l.map f)
 |[],k=>rfl
 |x::l,k=>by rw[HP,Sq f l];rfl
theorem rC{av ei:Type}:∀(l m:List ei)(k:List ei->Option av),m8 l m k=k (l++m)
 |[],m,k=>rfl
 |x::l,m,k=>by rw[m8,rC l m];rfl
def HE{av:Type}(v:Value)(k:K->Option av):Option av:=match v with
 |.slice none 0 0=>k (.p (.sl true 0 []))
 |v=>k (.p (.raw v))
def HF{av:Type}:List Value->(List K->Option av)->Option av
 |[],k=>k []
 |v::l,k=>HE v λ d=>HF l λ r=>k (d::r)
def qC{av:Type}(v:Value)(k:K->Option av):Option av:=match v with
 |.agg cs=>HF cs.toList λ ds=>k (.agg ds)
 |v=>HE v k
theorem R6{av:Type}(v:Value)(k:K->Option av):HE v k=k (pV v):=by unfold HE pV;split<;>rfl
theorem R7{av:Type}:∀(l:List Value)(k:List K->Option av),HF l k=k (l.map pV)
 |[],k=>rfl
 |v::l,k=>by rw[HF,R6,R7 l];rfl
theorem wR{av:Type}(v:Value)(k:K->Option av):qC v k=k (ki v):=by
 unfold qC ki;split
 ·rw[R7]
 ·rw[R6]
def ev(S:Nat->Option K):Operand->Option K
 |.tmp t=>S t
 |.const v=>qC v some
 |.func f=>some (.fn (.func f) [] [])
 |.global _=>none
def jc{av:Type}(S:Nat->Option K):List Operand->(List K->Option av)->Option av
 |[],k=>k []
 |x::l,k=>match ev S x with
  |some d=>jc S l λ r=>k (d::r)
  |none=>none
def I3(S:Nat->Option K)(B:Nat->Option (List K))(a:Act)(e:aC)(xs:Array Operand):Prop:=
 (∀x∈xs,∀d,ev S x=some d->bz e (a.eval x) d)/\∀b cs,B b=some cs->h1 e b cs
theorem bu.iP{Γ:bN}{M:St}{e:aC}{a:Act}(L:bu Γ M e a)(xs:Array Operand):I3 (kv M.s) (kv M.b) a e xs:=by
 refine⟨λ x _ d T=>?_,L.boxes⟩;cases x with
 |tmp t=>exact L.bU t d T
 |const v=>simp only[ev,wR,Option.some.injEq] at T;subst T;exact wQ e v
 |global g=>cases T
 |func f=>simp only[ev,Option.some.injEq] at T;subst T;exact .fn (us:=[]) (vs:=[]) rfl rfl (λ i v d h=>by simp at h) (λ i v d h=>by simp at h)
def dN(P:Program)(o:Oper)(S:Nat->Option K)(B:Nat->Option (List K))(d:K)(nb:Option (Nat×List K)):Prop:=
 ∀(a:Act)(e:aC),I3 S B a e o.op.operands->(∀p,nb=some p->e.bx p.1=none)->
  o.wp P a e.w (λ bs aM=>∃v ab,bs=a.put o.dst v/\ab.w=aM/\pa e ab v d nb) (λ _ _ _=>False)
theorem jp{P:Program}{o:Oper}{S:Nat->Option K}{B:Nat->Option (List K)}{d:K}(h:∀(a:Act)(e:aC),I3 S B a e o.op.operands->∃v,(execOp a.eval o).run P e.w=.ok (.value v) e.w/\bz e v d):dN P o S B d none:=by intro a e hs _;obtain⟨v,hr,hv⟩:=h a e hs;unfold Oper.wp;rw[hr];exact⟨v,e,rfl,rfl,kI.refl e,hv⟩
end Go.Proofs.YtcnefjfboagbmaaGreat
end
section
namespace Go.Proofs.YtcnefjfboagbmaaGreat
open Go.RowKit
inductive TK where
 |int (k:IntKind)
 |bool
 |str
 |slice (e:TypeId)
 |struct (fs:List (TypeId×Nat×Nat))
 |array (n:Nat) (e:TypeId)
 |other
structure TI where
 k:TK
 sz:Nat
 bytes:Nat
 zero:Value
def jI(P:Program):TypeDesc->TK
 |.int k=>.int k
 |.bool=>.bool
 |.string=>.str
 |.slice e=>.slice e
 |.struct fs=>.struct (fs.toList.map λ f=>(f.type,f.offset,P.cellsOf f.type))
 |.array n e=>.array n e
 |_=>.other
structure di(P:Program)(ap:Nat->Option TI):Prop where
 desc:∀t i,ap t=some i->∃d,P.underlying t=some d/\jI P d=i.k
 info:∀t i,ap t=some i->∃f,P.info? t=some f/\f.size=i.sz/\f.bytes=i.bytes/\f.zero=some i.zero
def TK.agg:TK->Bool
 |.struct _|.array _ _=>true
 |_=>false
def zY(i:TI)(ds:List K):Option K:=
 bif i.k.agg then mD i.sz ds λ r=>some (.agg r)
 else match ds with
  |d::_=>some d
  |[]=>none
def AZ:BinOp->Value->Value->Option Value
 |.add,.int .i64 a,.int .i64 b=>some (.int .i64 (IntKind.i64.wrap (a+b)))
 |.sub,.int .i64 a,.int .i64 b=>some (.int .i64 (IntKind.i64.wrap (a-b)))
 |.mul,.int .i64 a,.int .i64 b=>some (.int .i64 (IntKind.i64.wrap (a*b)))
 |.eql,.int .i64 a,.int .i64 b=>some (.bool (decide (a=b)))
 |.neq,.int .i64 a,.int .i64 b=>some (.bool (!decide (a=b)))
 |.lss,.int .i64 a,.int .i64 b=>some (.bool (decide (a<b)))
 |.leq,.int .i64 a,.int .i64 b=>some (.bool (decide (a<=b)))
 |.gtr,.int .i64 a,.int .i64 b=>some (.bool (decide (b<a)))
 |.geq,.int .i64 a,.int .i64 b=>some (.bool (decide (b<=a)))
 |.add,.int .u64 a,.int .u64 b=>some (.int .u64 (IntKind.u64.wrap (a+b)))
 |.sub,.int .u64 a,.int .u64 b=>some (.int .u64 (IntKind.u64.wrap (a-b)))
 |.mul,.int .u64 a,.int .u64 b=>some (.int .u64 (IntKind.u64.wrap (a*b)))
 |.eql,.int .u64 a,.int .u64 b=>some (.bool (decide (a=b)))
 |.neq,.int .u64 a,.int .u64 b=>some (.bool (!decide (a=b)))
 |.lss,.int .u64 a,.int .u64 b=>some (.bool (decide (a<b)))
 |.and,.int .u64 a,.int .u64 b=>some (.int .u64 (IntKind.u64.wrap ((BitVec.ofInt 64 a&&&BitVec.ofInt 64 b).toNat)))
 |.andNot,.int .u64 a,.int .u64 b=>some (.int .u64 (IntKind.u64.wrap ((BitVec.ofInt 64 a&&&~~~BitVec.ofInt 64 b).toNat)))
 |.and,.int .i64 a,.int .i64 b=>some (.int .i64 (IntKind.i64.wrap ((BitVec.ofInt 64 a&&&BitVec.ofInt 64 b).toNat)))
 |.eql,.int .u8 a,.int .u8 b=>some (.bool (decide (a=b)))
 |.eql,.bool a,.bool b=>some (.bool (a==b))
 |.neq,.bool a,.bool b=>some (.bool (!(a==b)))
 |_,_,_=>none
theorem run_equal_bool{P:Program}{t:TypeId}(hu:P.underlying t=some .bool)(a b:Bool)(w:World):(Op.equal t (.bool a) (.bool b)).run P w=.ok (a==b) w:=by
 show(Op.equalIn (9999+1) t _ _).run P w=_;rw[Op.equalIn];simp only[Sem.run_bind,run_underlying hu,Result.andThen_ok]
 rfl
theorem WG{P:Program}{ap:Nat->Option TI}(_:di P ap){op:BinOp}{t:TypeId}{u v r:Value}(h:AZ op u v=some r)(Z:∀b:Bool,u=.bool b->P.underlying t=some .bool)(x y:Operand)(w:World):
 (do eqGuard op t x y u v;binOp op t u v:Sem Value).run P w=.ok r w:=by
 unfold AZ at h;split at h
 all_goals cases h
 all_goals first
  |(simp only[eqGuard,binOp,Op.intArith,Op.intCmp,Op.intBits,IntKind.bits];rfl)
  |(rename_i a b;have hu:P.underlying t=some .bool:=Z a rfl;simp only[eqGuard,binOp];simp[run_equal_bool hu];done)
  |skip
def Tc(ft:TypeId×Nat×Nat)(isAgg:Bool)(ds:List K):Option K:=
 bif isAgg then la ft.2.1 ds λ r=>mD ft.2.2 r λ q=>some (.agg q)
 else ds[ft.2.1]?
def LH(c:Call):Option (Operand×TypeId):=match c.callee with
 |.builtin .len=>match c.args.toList,c.argTypes.toList with
  |[x],[t]=>some (x,t)
  |_,_=>none
 |_=>none
theorem abi{c:Call}{x:Operand}{t:TypeId}(h:LH c=some (x,t)):c={callee:=.builtin .len,args:=#[x],argTypes:=#[t]}:=by
 obtain⟨callee,args,fB⟩:=c;unfold LH at h;simp only at h;split at h
 ·split at h
  ·rename_i A F;cases h;obtain⟨l1⟩:=args;obtain⟨l2⟩:=fB;simp only at A F;subst A;subst F
   rfl
  ·cases h
 ·cases h
def ax(ap:Nat->Option TI)(S:Nat->Option K)(B:Nat->Option (List K)):Op->Option K
 |.move x|.assign x=>ev S x
 |.pick c x y=>match ev S c with
  |some (.p (.raw (.bool true)))=>ev S x
  |some (.p (.raw (.bool false)))=>ev S y
  |_=>none
 |.load t x=>match ap t,ev S x with
  |some i,some (.ptr b o)=>match B b with
   |some cs=>la o cs (zY i)
   |none=>none
  |some i,some (.el ps)=>HP K.p ps (zY i)
  |_,_=>none
 |.binOp op t x y _=>match ap t,ev S x,ev S y with
  |some i,some (.p (.raw u)),some (.p (.raw v))=>match AZ op u v,u,i.k with
   |some r,.bool _,.bool=>some (.p (.raw r))
   |some r,.int ..,_=>some (.p (.raw r))
   |_,_,_=>none
  |_,_,_=>none
 |.unOp u _ x=>match u,ev S x with
  |.not,some (.p (.raw (.bool b)))=>some (.p (.raw (.bool (!b))))
  |.neg,some (.p (.raw (.int .i64 n)))=>some (.p (.raw (.int .i64 (IntKind.i64.wrap (0-n)))))
  |_,_=>none
 |.convert s t x=>match ap s,ap t,ev S x with
  |some ⟨.int _,_,_,_⟩,some ⟨.int k,_,_,_⟩,some (.p (.raw (.int _ n)))=>some (.p (.raw (.int k (k.wrap n))))
  |_,_,_=>none
 |.extract x i=>match ev S x with
  |some (.bd ds)=>ds[i]?
  |_=>none
 |.fieldAddr t x f=>match ap t,ev S x with
  |some ⟨.struct fs,_,_,_⟩,some (.ptr b o)=>match fs[f]? with
   |some (_,dE,_+1)=>some (.ptr b (o+dE))
   |_=>none
  |some ⟨.struct fs,_,_,_⟩,some (.el ps)=>match fs[f]? with
   |some (_,dE,_+1)=>la dE ps λ r=>some (.el r)
   |_=>none
  |_,_=>none
 |.field t x f=>match ap t,ev S x with
  |some ⟨.struct fs,_,_,_⟩,some (.agg ds)=>match fs[f]? with
   |some ft=>match ap ft.1 with
    |some j=>Tc ft j.k.agg ds
    |none=>none
   |none=>none
  |_,_=>none
 |.call c=>match LH c with
  |some (x,t)=>match ap t,ev S x with
   |some ⟨.slice _,_,_,_⟩,some (.p (.sl _ n _))=>some (.p (.raw (.int .i64 n)))
   |some ⟨.slice _,_,_,_⟩,some (.aW _ n _)=>some (.p (.raw (.int .i64 n)))
   |some ⟨.slice _,_,_,_⟩,some (.arr _ _ n _)=>some (.p (.raw (.int .i64 n)))
   |_,_=>none
  |none=>none
 |.makeFunc f first c7=>jc S first.toList λ fs=>jc S c7.toList λ cs=>some (.fn f fs cs)
 |.nilCheck x=>match ev S x with
  |some (.ptr b o)=>some (.ptr b o)
  |some (.el ps)=>some (.el ps)
  |_=>none
 |_=>none
end Go.Proofs.YtcnefjfboagbmaaGreat
end
section
namespace Go.Proofs.YtcnefjfboagbmaaGreat
open Go.RowKit
section
variable{P:Program}{ap:Nat->Option TI}{S:Nat->Option K}{B:Nat->Option (List K)}
theorem Fm{t:TypeId}{i:TI}(hT:di P ap)(ht:ap t=some i)(w:World):(isAgg t).run P w=.ok i.k.agg w:=by obtain⟨d,D,J⟩:=hT.desc t i ht;unfold isAgg;simp only[Sem.run_bind,run_underlying D,Result.andThen_ok];rw[<-J];cases d<;>rfl
theorem run_sizeOf{t:TypeId}{i:TI}(hT:di P ap)(ht:ap t=some i)(w:World):(sizeOf t).run P w=.ok i.sz w:=by obtain⟨f,hf,hs,_⟩:=hT.info t i ht;simp[sizeOf,typeInfo,hf,hs]
theorem Az{t:TypeId}{i:TI}(hT:di P ap)(ht:ap t=some i)(w:World):(zeroValue t).run P w=.ok i.zero w:=by obtain⟨f,hf,_,_,hz⟩:=hT.info t i ht;simp[zeroValue,typeInfo,hf,hz]
theorem sC(b o n:Nat):(⟨b,o,none⟩:Addr).add n=⟨b,o+n,none⟩:=Addr.add_lit b o n
theorem LO(hT:di P ap){t:TypeId}{i:TI}(ht:ap t=some i){e:aC}{k o:Nat}{us:List Value}{ds:List K}(hu:∀j v,us[j]?=some v->e.w.cell? ⟨k,o+j,none⟩=some v)(hr:DReps e us ds){d:K}(D:zY i ds=some d):
 ∃v,(Instr.loadAt t (.pointer (some ⟨k,o,none⟩))).run P e.w=.ok v e.w/\bz e v d:=by
 unfold zY at D;simp only[Instr.loadAt,Instr.sureAddr,loadVar,Sem.run_bind,Sem.run_pure,Result.andThen_ok,Fm hT ht];cases pj:i.k.agg
 ·rw[pj] at D;simp only[cond_false] at D;split at D
  ·rename_i d9 iA;cases D;obtain⟨v,ahW,rfl,hv,_⟩:=hr.yd;have:=hu 0 v rfl;simp only[Nat.add_zero] at this;exact⟨v,by simp[run_load,this],hv⟩
  ·cases D
 ·rw[pj] at D;simp only[cond_true] at D;obtain⟨ag5,D⟩:=sq D;cases D
  ·skip
   have U:(us.take i.sz).length=i.sz:=by rw[List.length_take,hr.1];omega
   have:=run_loadCells_list (P:=P) e.w ⟨k,o,none⟩ (us.take i.sz) (λ j v hj=>by
    rw[List.getElem?_take] at hj;split at hj
    ·rw[sC];exact hu j v hj
    ·cases hj)
   rw[U] at this;refine⟨.agg (us.take i.sz).toArray,by simp[this,run_sizeOf hT ht],?_⟩;have ht:=hr.take i.sz;exact .agg ht.1 ht.2
theorem Pt{e:aC}{b o:Nat}{ps:List Pl}(h:sx e b o ps):∃us,(∀j v,us[j]?=some v->e.w.cell? ⟨b,o+j,none⟩=some v)/\DReps e us (ps.map .p)/\∀v∈us,mr v=true:=by
 obtain⟨f,hf⟩:=h;refine⟨(List.range ps.length).map f,λ j v hj=>?_,⟨by simp,λ j v d A F=>?_⟩,λ v hv=>?_⟩
 ·rw[List.getElem?_map] at hj;rcases Ea:(List.range ps.length)[j]? with _|q
  ·rw[Ea] at hj;cases hj
  ·rw[Ea] at hj;have bm:j<ps.length:=by have:=(List.getElem?_eq_some_iff.1 Ea).1;simpa using this
   have hq:q=j:=by rw[List.getElem?_range bm] at Ea;cases Ea;rfl
   subst hq;simp only[Option.map_some,Option.some.injEq] at hj;subst hj;exact(hf q _ (List.getElem?_eq_getElem bm)).2.1
 ·rw[List.getElem?_map] at A F;rcases hp:ps[j]? with _|x
  ·rw[hp] at F;cases F
  ·rw[hp] at F;have bm:j<ps.length:=(List.getElem?_eq_some_iff.1 hp).1;rw[List.getElem?_range bm] at A;simp only[Option.map_some,Option.some.injEq] at A F;subst A;subst F;exact .p (hf j x hp).2.2.2
 ·obtain⟨j,hj,rfl⟩:=List.mem_map.1 hv;have bm:j<ps.length:=by simpa using hj
  exact(hf j _ (List.getElem?_eq_getElem bm)).2.2.1
theorem dh{e:aC}{v u:Value}(h:bz e v (.p (.raw u))):v=u:=by
 cases h with
 |p h=>cases h;rfl
theorem tW{av:Type}{a:Act}{e:aC}:∀(xs:List Operand)(k:List K->Option av)(r:av),(∀x∈xs,∀d,ev S x=some d->bz e (a.eval x) d)->jc S xs k=some r->∃ds,DReps e (xs.map a.eval) ds/\k ds=some r
 |[],k,r,_,h=>⟨[],DReps.nil e,h⟩
 |x::xs,k,r,hs,h=>by
  simp only[jc] at h;split at h
  ·rename_i d D;obtain⟨ds,A,F⟩:=tW xs _ r (λ y hy=>hs y (by simp[hy])) h;exact⟨d::ds,DReps.cons (hs x (by simp) d D) A,F⟩
  ·cases h
theorem JK{t:TypeId}{fs:List (TypeId×Nat×Nat)}{a b c:_}(hT:di P ap)(ht:ap t=some ⟨.struct fs,a,b,c⟩){f:Nat}{ft:TypeId}{dE sz:Nat}(hf:fs[f]?=some (ft,dE,sz+1))(k o:Nat)(w:World):
 (Instr.fieldAt t (.pointer (some ⟨k,o,none⟩)) f).run P w=.ok (.pointer (some ⟨k,o+dE,none⟩)) w:=by
 obtain⟨d,D,J⟩:=hT.desc t _ ht;cases d<;>simp only[jI,TK.struct.injEq,reduceCtorEq] at J
 rename_i sM;subst J;rw[List.getElem?_map] at hf;rcases hq:sM.toList[f]? with _|q
 ·rw[hq] at hf;cases hf
 ·rw[hq] at hf;simp only[Option.map_some,Option.some.injEq,Prod.mk.injEq] at hf;obtain⟨rfl,rfl,O⟩:=hf;have iF:sM[f]?=some q:=by simpa using hq
  have ci:(sizeOf q.type).run P w=.ok (sz+1) w:=by
   unfold Program.cellsOf at O;rcases hi:P.info? q.type with _|i
   ·rw[hi] at O;simp at O
   ·rw[hi] at O;simp only[Option.map_some,Option.getD_some] at O;simp[sizeOf,typeInfo,hi,O]
  simp[Instr.fieldAt,run_underlying D,iF,Instr.sureAddr,fieldPlace,ci,sC]
theorem tN(hT:di P ap){o:Oper}{d:K}(h:ax ap S B o.op=some d):dN P o S B d none:=by
 obtain⟨dst,op,type,pos,after,guard⟩:=o;refine jp λ a e hs=>?_
 simp only at h hs;have kW:∀x∈op.operands,∀d,ev S x=some d->bz e (a.eval x) d:=hs.1;cases op<;>simp only[ax,reduceCtorEq] at h
 case move x=>exact⟨_,rfl,kW x (by simp[Op.operands]) d h⟩
 case assign x=>exact⟨_,rfl,kW x (by simp[Op.operands]) d h⟩
 case pick c x y=>
  split at h
  ·rename_i L;have dG:=dh (kW c (by simp[Op.operands]) _ L);exact⟨a.eval x,by simp[execOp,asBool,dG],kW x (by simp[Op.operands]) d h⟩
  ·rename_i L;have dG:=dh (kW c (by simp[Op.operands]) _ L);exact⟨a.eval y,by simp[execOp,asBool,dG],kW y (by simp[Op.operands]) d h⟩
  ·cases h
 case load t x=>
  split at h
  ·rename_i i b o ht T;have A:=kW x (by simp[Op.operands]) _ T;split at h
   ·rename_i cs hB;obtain⟨k,vs,el,F,O,h4⟩:=hs.2 b cs hB;generalize dG:a.eval x=vx at A;cases A with
    |ptr A=>
     rename_i iG;rw[F] at A;cases A;have:=LO hT ht (k:=k) (o:=o) (us:=vs.drop o) (λ j v hj=>by
      rw[List.getElem?_drop] at hj;rw[cell_of_row e.w k (o+j) vs.toArray el (0,0) O]
      simpa using hj) (h4.drop o) (nY h).2
     obtain⟨v,hr,hv⟩:=this;exact⟨v,by simp[execOp,dG,hr],hv⟩
   ·cases h
  ·rename_i i ps ht T;have A:=kW x (by simp[Op.operands]) _ T;generalize dG:a.eval x=vx at A;cases A with
   |el A=>obtain⟨us,F,O,_⟩:=Pt A;rw[Sq] at h;obtain⟨v,hr,hv⟩:=LO hT ht F O h;exact⟨v,by simp[execOp,dG,hr],hv⟩
  ·cases h
 case binOp op t x y af3=>
  split at h
  ·rename_i i u v ht T hy;have dG:=dh (kW x (by simp[Op.operands]) _ T);have YZ:=dh (kW y (by simp[Op.operands]) _ hy);have key:∀r,AZ op u v=some r->(∀b:Bool,u=.bool b->P.underlying t=some .bool)->(execOp a.eval {dst:=dst,op:=.binOp op t x y af3,type:=type,pos:=pos,after:=after,guard:=guard}).run P e.w=.ok (.value r) e.w:=by
    intro r hr Z;have:=WG hT hr Z x y e.w;simp only[execOp,dG,YZ];rw[Sem.run_bind,this]
    rfl
   split at h
   ·rename_i r b hi hr;cases h;refine⟨r,key r hr λ bf _=>?_,.p (.raw r)⟩;obtain⟨d,D,J⟩:=hT.desc t _ ht;rw[hi] at J;cases d<;>simp only[jI,reduceCtorEq] at J
    exact D
   ·rename_i r k n hr;cases h;exact⟨r,key r hr (λ bf Z=>by cases Z),.p (.raw r)⟩
   ·cases h
  ·cases h
 case unOp op t x=>
  split at h
  ·rename_i b T;have A:=kW x (by simp[Op.operands]) _ T;have dG:=dh A;cases h;exact⟨_,by simp[execOp,dG,Op.unary],.p (.raw _)⟩
  ·rename_i n T;have A:=kW x (by simp[Op.operands]) _ T;have dG:=dh A;cases h;exact⟨_,by simp only[execOp,dG,Op.unary,Op.intArith];rfl,.p (.raw _)⟩
  ·cases h
 case convert s t x=>
  split at h
  ·rename_i ks z1 z2 z3 kt z4 z5 z6 k0 n oa ht T;have A:=kW x (by simp[Op.operands]) _ T;have dG:=dh A;cases h;obtain⟨d1,mL,oN⟩:=hT.desc s _ oa;obtain⟨d2,xj,hk⟩:=hT.desc t _ ht;cases d1<;>simp only[jI,reduceCtorEq] at oN
   cases d2<;>simp only[jI,reduceCtorEq,TK.int.injEq] at hk
   subst hk;exact⟨_,by simp[execOp,dG,convert,run_underlying mL,run_underlying xj,Conv.intToInt],.p (.raw _)⟩
  ·cases h
 case extract x i=>
  split at h
  ·rename_i ds T;have A:=kW x (by simp[Op.operands]) _ T;generalize dG:a.eval x=vx at A;cases A with
   |bd U hh=>
    rename_i vs;obtain⟨v,O,h4⟩:=DReps.get ⟨U,hh⟩ h;have h5:vs.toArray[i]?=some v:=by simpa using O
    exact⟨v,by simp[execOp,dG,Instr.extract,O],h4⟩
  ·cases h
 case fieldAddr t x f=>
  split at h
  ·rename_i fs z1 z2 z3 b o ht T;have A:=kW x (by simp[Op.operands]) _ T;generalize dG:a.eval x=vx at A;split at h
   ·rename_i ft dE sz hf;cases h;cases A with
    |ptr A=>exact⟨_,by simp[execOp,dG,JK hT ht hf],.ptr A⟩
   ·cases h
  ·rename_i fs z1 z2 z3 ps ht T;have A:=kW x (by simp[Op.operands]) _ T;generalize dG:a.eval x=vx at A;split at h
   ·rename_i ft dE sz hf;obtain⟨_,h⟩:=nY h;cases h;cases A with
    |el A=>rename_i b0 act;refine⟨.pointer (some ⟨b0,act+dE,none⟩),by simp[execOp,dG,JK hT ht hf],.el ?_⟩;obtain⟨g,hg⟩:=A;refine⟨λ j=>g (dE+j),λ j y hy=>?_⟩;rw[List.getElem?_drop] at hy;obtain⟨h5,h6,h7,h8⟩:=hg _ y hy;rw[Nat.add_assoc];exact⟨h5,h6,h7,h8⟩
   ·cases h
  ·cases h
 case field t x f=>
  split at h
  ·rename_i fs z1 z2 z3 ds ht T;have A:=kW x (by simp[Op.operands]) _ T;generalize dG:a.eval x=vx at A;split at h
   ·rename_i ft hf;split at h
    ·rename_i j hj;cases A with
     |agg U hh=>
      rename_i vs;obtain⟨d0,D,J⟩:=hT.desc t _ ht;cases d0<;>simp only[jI,TK.struct.injEq,reduceCtorEq] at J
      rename_i sM;subst J;rw[List.getElem?_map] at hf;rcases hq:sM.toList[f]? with _|q
      ·rw[hq] at hf;cases hf
      ·rw[hq] at hf;simp only[Option.map_some,Option.some.injEq] at hf;subst hf;have iF:sM[f]?=some q:=by simpa using hq
       have ci:=run_sizeOf hT hj e.w;have Ko:P.cellsOf q.type=j.sz:=by obtain⟨i0,QM,oa,_⟩:=hT.info _ _ hj;simp only at QM;simp[Program.cellsOf,QM,oa]
       unfold Tc at h;simp only[Ko] at h;cases pj:j.k.agg
       ·rw[pj] at h;simp only[cond_false] at h;obtain⟨v,O,h4⟩:=DReps.get ⟨U,hh⟩ h;refine⟨v,?_,h4⟩;simp only at hj;simp[execOp,dG,Instr.field,run_underlying D,iF,asAgg,part,Fm hT hj,pj,O]
       ·rw[pj] at h;simp only[cond_true] at h;obtain⟨_,h⟩:=nY h;obtain⟨_,h⟩:=sq h;cases h
        ·have hr:=(DReps.drop ⟨U,hh⟩ q.offset).take j.sz;refine⟨.agg ((vs.drop q.offset).take j.sz).toArray,?_,.agg hr.1 hr.2⟩;simp only at hj;simp[execOp,dG,Instr.field,run_underlying D,iF,asAgg,part,Fm hT hj,pj,run_sizeOf hT hj,List.extract_eq_take_drop]
    ·cases h
   ·cases h
  ·cases h
 case call c=>
  split at h
  ·rename_i x t jg;have jg:=abi jg;subst jg;have xr:x∈(Op.call {callee:=.builtin .len,args:=#[x],argTypes:=#[t]}).operands:=by simp[Op.operands,Call.operands]
   have key:∀(am:Option Addr)(n c:Nat)(el:TypeId),P.underlying t=some (.slice el)->a.eval x=.slice am n c->(execOp a.eval {dst:=dst,op:=.call {callee:=.builtin .len,args:=#[x],argTypes:=#[t]},type:=type,pos:=pos,after:=after,guard:=guard}).run P e.w=.ok (.value (.int .i64 n)) e.w:=by intro am n c el D hv;simp[execOp,resolve,invoke,builtin,Builtin.len_,hv,run_underlying D,goInt]
   split at h
   ·rename_i el z1 z2 z3 ex n ps ht T;have A:=kW x xr _ T;obtain⟨d0,D,J⟩:=hT.desc t _ ht;cases d0<;>simp only[jI,reduceCtorEq,TK.slice.injEq] at J
    generalize dG:a.eval x=vx at A;cases A with
    |p A=>cases A with
     |sl=>cases h;exact⟨_,key _ _ _ _ D dG,.p (.raw _)⟩
   ·rename_i el z1 z2 z3 g n ps ht T;have A:=kW x xr _ T;obtain⟨d0,D,J⟩:=hT.desc t _ ht;cases d0<;>simp only[jI,reduceCtorEq,TK.slice.injEq] at J
    generalize dG:a.eval x=vx at A;cases A with
    |aW A _=>cases A with
     |sl=>cases h;exact⟨_,key _ _ _ _ D dG,.p (.raw _)⟩
   ·rename_i el z1 z2 z3 b o n c ht T;have A:=kW x xr _ T;obtain⟨d0,D,J⟩:=hT.desc t _ ht;cases d0<;>simp only[jI,reduceCtorEq,TK.slice.injEq] at J
    generalize dG:a.eval x=vx at A;cases A with
    |arr A=>cases h;exact⟨_,key _ _ _ _ D dG,.p (.raw _)⟩
   ·cases h
  ·cases h
 case makeFunc f first c7=>obtain⟨fs,r1,h⟩:=tW first.toList _ d (λ x T=>kW x (by simp[Op.operands] at*;exact .inl T)) h;obtain⟨cs,r2,h⟩:=tW c7.toList _ d (λ x T=>kW x (by simp[Op.operands] at*;exact .inr T)) h;cases h;refine⟨.func f (first.toList.map a.eval).toArray (c7.toList.map a.eval).toArray,?_,.fn r1.1 r2.1 r1.2 r2.2⟩;simp[execOp,Instr.makeFunc];exact⟨by apply Array.ext';simp,by apply Array.ext';simp⟩
 case nilCheck x=>
  split at h
  ·rename_i b o T;have A:=kW x (by simp[Op.operands]) _ T;generalize dG:a.eval x=vx at A;cases h;cases A with
   |ptr A=>exact⟨_,by simp only[execOp,dG];rfl,.ptr A⟩
  ·rename_i ps T;have A:=kW x (by simp[Op.operands]) _ T;generalize dG:a.eval x=vx at A;cases h;cases A with
   |el A=>exact⟨_,by simp only[execOp,dG];rfl,.el A⟩
  ·cases h
end
end Go.Proofs.YtcnefjfboagbmaaGreat
end
section
namespace Go.Proofs.YtcnefjfboagbmaaGreat
open Go.RowKit
def hb(w:World)(cl:Nat->Option Nat):aC:=⟨w,cl,λ _=>none,λ _=>none,λ _=>none⟩
def bc(P:Program)(f:FuncId)(ds:List K)(d:K):Prop:=
 ∀(w:World)(cl:Nat->Option Nat)(vs:List Value),DReps (hb w cl) vs ds->
  Calls P f vs.toArray w (λ r aM=>∃v bv,r=.returned v/\Below w.heap.size w aM/\(∀k,k<w.heap.size->bv k=cl k)/\bz (hb aM bv) v d)
def zZ:Pl->Pl
 |.sl _ n ps=>.sl false n ps
 |x=>x
def K.low:K->Option K
 |.p x=>some (.p (zZ x))
 |.agg ds=>(kS ds).map .agg
 |.bd ds=>(kS ds).map .bd
 |.el ps=>some (.el ps)
 |.aW _ n ps=>some (.p (.sl false n ps))
 |.any=>some .any
 |.fn f first c7=>match kS first,kS c7 with
  |some a,some b=>some (.fn f a b)
  |_,_=>none
 |_=>none
where kS:List K->Option (List K)
 |[]=>some []
 |d::ds=>match d.low,kS ds with
  |some a,some b=>some (a::b)
  |_,_=>none
def K.to{av:Type}:K->(K->Option av)->Option av
 |.p (.raw v),k=>k (.p (.raw v))
 |.p (.sl _ n ps),k=>k (.p (.sl false n ps))
 |.agg ds,k=>Ab ds λ r=>k (.agg r)
 |.bd ds,k=>Ab ds λ r=>k (.bd r)
 |.el ps,k=>k (.el ps)
 |.aW _ n ps,k=>k (.p (.sl false n ps))
 |.any,k=>k .any
 |.fn f first c7,k=>Ab first λ a=>Ab c7 λ b=>k (.fn f a b)
 |_,_=>none
where Ab {av:Type}:List K->(List K->Option av)->Option av
 |[],k=>k []
 |d::ds,k=>d.to λ a=>Ab ds λ b=>k (a::b)
mutual
theorem HJ{av:Type}:∀(d:K)(k:K->Option av),d.to k=d.low.bind k
 |.p (.raw v),k=>rfl
 |.p (.sl _ n ps),k=>rfl
 |.agg ds,k=>by
  rw[K.to,EO ds];simp only[K.low];cases K.low.kS ds<;>rfl
 |.bd ds,k=>by
  rw[K.to,EO ds];simp only[K.low];cases K.low.kS ds<;>rfl
 |.el ps,k=>rfl
 |.aW _ n ps,k=>rfl
 |.any,k=>rfl
 |.fn f first c7,k=>by
  rw[K.to,EO first];simp only[K.low];cases K.low.kS first with
  |none=>rfl
  |some a=>simp only[Option.bind_some];rw[EO c7];cases K.low.kS c7<;>rfl
 |.ptr _ _,k=>rfl
 |.arr _ _ _ _,k=>rfl
theorem EO{av:Type}:∀(ds:List K)(k:List K->Option av),K.to.Ab ds k=(K.low.kS ds).bind k
 |[],k=>rfl
 |d::ds,k=>by
  rw[K.to.Ab,HJ d];simp only[K.low.kS];cases d.low with
  |none=>rfl
  |some a=>simp only[Option.bind_some];rw[EO ds];cases K.low.kS ds<;>rfl
end
theorem dm.env{e ab:aC}(hw:ab.w=e.w)(L:ab.cl=e.cl){v:Value}{x:Pl}(h:dm e v x):dm ab v x:=by
 induction h with
 |raw v=>exact .raw v
 |sl f A F O h4 h5 h6 ih=>refine .sl f A F O h4 (λ i x T=>?_) ih;obtain⟨b,o,h7,h8,h9,J1⟩:=h5 i x T;exact⟨b,o,h7,λ k J=>h8 k (by rw[<-L];exact J),by rw[hw];exact h9,J1⟩
theorem dm.low{e:aC}{v:Value}{x:Pl}(h:dm e v x):dm e v (zZ x):=by
 cases h with
 |raw=>exact .raw v
 |sl f A F O h4 h5 h6=>exact .sl f A F O (λ h=>by cases h) h5 h6
theorem B4:∀{ds iA:List K}(_:K.low.kS ds=some iA){i:Nat}{d9:K},iA[i]?=some d9->∃d,ds[i]?=some d/\d.low=some d9
 |[],iA,h,i,d9,hi=>by simp only[K.low.kS,Option.some.injEq] at h;subst h;simp at hi
 |d::ds,iA,h,i,d9,hi=>by
  simp only[K.low.kS] at h;split at h
  ·rename_i a b ha Z;cases h;cases i with
   |zero=>simp only[List.getElem?_cons_zero,Option.some.injEq] at hi;subst hi;exact⟨d,rfl,ha⟩
   |succ i=>exact B4 Z (by simpa using hi)
  ·cases h
theorem B5:∀{ds iA:List K}(_:K.low.kS ds=some iA),iA.length=ds.length
 |[],iA,h=>by simp only[K.low.kS,Option.some.injEq] at h;subst h;rfl
 |d::ds,iA,h=>by
  simp only[K.low.kS] at h;split at h
  ·rename_i a b ha Z;cases h;simp[B5 Z]
  ·cases h
theorem HK{e:aC}{v:Value}{d:K}(h:bz e v d):∀d9,d.low=some d9->bz (hb e.w e.cl) v d9:=by
 induction h with
 |p h=>intro d9 D;simp only[K.low,Option.some.injEq] at D;subst D;exact .p (dm.env (e:=e) (ab:=hb e.w e.cl) rfl rfl h.low)
 |agg U h ih=>intro d9 D;simp only[K.low,Option.map_eq_some_iff] at D;obtain⟨iA,A,rfl⟩:=D;exact .agg (by rw[U,B5 A]) (λ i v d hv D=>by obtain⟨d0,F,O⟩:=B4 A D;exact ih i v d0 hv F d O)
 |bd U h ih=>intro d9 D;simp only[K.low,Option.map_eq_some_iff] at D;obtain⟨iA,A,rfl⟩:=D;exact .bd (by rw[U,B5 A]) (λ i v d hv D=>by obtain⟨d0,F,O⟩:=B4 A D;exact ih i v d0 hv F d O)
 |ptr h=>intro d9 D;simp[K.low] at D
 |el h=>intro d9 D;simp only[K.low,Option.some.injEq] at D;subst D;obtain⟨f,hf⟩:=h;exact .el ⟨f,λ i x T=>by obtain⟨A,F,O,h4⟩:=hf i x T;exact⟨A,F,O,dm.env (e:=e) (ab:=hb e.w e.cl) rfl rfl h4⟩⟩
 |aW h ht=>intro d9 D;simp only[K.low,Option.some.injEq] at D;subst D;exact .p (dm.env (e:=e) (ab:=hb e.w e.cl) rfl rfl h)
 |arr h=>intro d9 D;simp[K.low] at D
 |fn U dX h F ih EE=>
  intro d9 D;simp only[K.low] at D;split at D
  ·rename_i a b ha Z;cases D;exact .fn (by rw[U,B5 ha]) (by rw[dX,B5 Z]) (λ i v d hv D=>by obtain⟨d0,O,h4⟩:=B4 ha D;exact ih i v d0 hv O d h4) (λ i v d hv D=>by obtain⟨d0,O,h4⟩:=B4 Z D;exact EE i v d0 hv O d h4)
  ·cases D
 |any=>intro d9 D;simp only[K.low,Option.some.injEq] at D;subst D;exact .any
theorem LS{e:aC}{vs:List Value}{ds iA:List K}(h:DReps e vs ds)(U:K.low.kS ds=some iA):DReps (hb e.w e.cl) vs iA:=
 ⟨by rw[h.1,B5 U],λ i v d hv D=>by obtain⟨d0,A,F⟩:=B4 U D;exact HK (h.2 i v d0 hv A) d F⟩
theorem Xu(e:aC)(w:World)(cl:Nat->Option Nat):Ends (hb w cl) {e with w:=w,cl:=cl}:=
 ⟨λ _ _ _ A F=>⟨A,F⟩,λ _ _ h=>(by cases h),λ _ _ h=>(by cases h),λ _ _ _ _ h=>(by cases h)⟩
section
variable{P:Program}{ap:Nat->Option TI}{S:Nat->Option K}{B:Nat->Option (List K)}
theorem Tq{P:Program}{f:FuncId}{ds d:_}(L:bc P f ds d){e:aC}{vs:List Value}(hv:DReps (hb e.w e.cl) vs ds){o:Oper}{a:Act}:
 Calls P f vs.toArray e.w λ
  |.returned v,nN=>∃ij ab,a.put o.dst v=a.put o.dst ij/\ab.w=nN/\pa e ab ij d none
  |.panicked _,_=>False
  |.outgrown,_=>LetsOut (λ _ _ _=>False):=by
 refine(L e.w e.cl vs hv).mono λ r aM hh=>?_
 obtain⟨v,bv,rfl,Z,ea,hr⟩:=hh;exact⟨v,{e with w:=aM,cl:=bv},rfl,rfl,⟨Z,ea,rfl,rfl,rfl⟩,hr.next (Xu e aM bv)⟩
theorem OR{o:Oper}{f:FuncId}{xs:List Operand}{fB:Array TypeId}{ds:List K}{d:K}(L:bc P f ds d)(ho:o.op=.call {callee:=.value (.func f),args:=xs.toArray,argTypes:=fB})(hf:ke P f)(he:jc S xs K.low.kS=some ds):dN P o S B d none:=by
 intro a e hs _;obtain⟨jx,hr,U⟩:=tW xs _ ds (λ x T=>hs.1 x (by rw[ho];simp[Op.operands,Call.operands,T])) he;unfold Oper.wp;have e1:(execOp a.eval o).run P e.w=.ok (.enter f (xs.map a.eval).toArray) e.w:=by obtain⟨dst,op,type,pos,after,guard⟩:=o;simp only at ho;subst ho;rw[execOp_call_go,hf];simp
 rw[e1];exact Tq L (LS hr U)
theorem wP{o:Oper}{f:FuncId}{g:Operand}{xs:List Operand}{fB:Array TypeId}{ds first c7:List K}{d:K}(L:bc P f ds d)(ho:o.op=.call {callee:=.value g,args:=xs.toArray,argTypes:=fB})(hf:ke P f)(hg:ev S g=some (.fn (.func f) first c7))(he:jc S xs (λ jx=>K.low.kS (first++jx++c7))=some ds):dN P o S B d none:=by
 intro a e hs _;obtain⟨jx,hr,U⟩:=tW xs _ ds (λ x T=>hs.1 x (by rw[ho];simp[Op.operands,Call.operands,T])) he;have xp:=hs.1 g (by rw[ho];simp[Op.operands,Call.operands]) _ hg;generalize dG:a.eval g=gv at xp;cases xp with
 |fn jU dX A F=>
  rename_i us vs;have dF:DReps e (us++xs.map a.eval++vs) (first++jx++c7):=(DReps.append ⟨jU,A⟩ hr).append ⟨dX,F⟩;unfold Oper.wp;have e1:(execOp a.eval o).run P e.w=.ok (.enter f (us++xs.map a.eval++vs).toArray) e.w:=by obtain⟨dst,op,type,pos,after,guard⟩:=o;simp only at ho;subst ho;simp only[execOp,resolve,dG,Deferred.ofValue,Sem.run_bind,Sem.run_pure,Result.andThen_ok,invoke];rw[hf];simp
  rw[e1];exact Tq L (LS dF U)
def aC.alloc(e:aC)(o:Obj)(c:Option Nat):aC:={e with w:=e.w.alloc o,cl:=λ k=>if k=e.w.heap.size then c else e.cl k}
theorem aC.tM(e:aC)(o:Obj)(c:Option Nat):kI e (e.alloc o c):=
 ⟨(Below.refl _ _).alloc (Nat.le_refl _) _,λ k J=>by show(if k=e.w.heap.size then c else e.cl k)=_;rw[if_neg (by omega)],rfl,rfl,rfl⟩
theorem Tz{e:aC}{us:List Value}{ds:List K}{t:TypeId}{b:Nat}(hr:DReps e us ds)(Z:e.bx b=none):
 pa e ((e.alloc (.cells us.toArray t) (some 0)).iz b e.w.heap.size) (.pointer (some ⟨e.w.heap.size,0,none⟩)) (.ptr b 0) (some (b,ds)):=by
 have hg:=aC.tM e (.cells us.toArray t) (some 0);have ia:(e.alloc (.cells us.toArray t) (some 0)).bx b=none:=by rw[hg.bx];exact Z
 refine⟨_,e.w.heap.size,hg,Nat.le_refl _,by simp[aC.alloc],by simp[aC.alloc],rfl,⟨e.w.heap.size,us,t,?_,?_,?_⟩,.ptr ?_⟩
 ·simp[aC.iz]
 ·exact heap_alloc_new e.w _
 ·exact(hr.next hg.ends).next (tE ia)
 ·simp[aC.iz]
def kE:K->Bool
 |.agg _=>true
 |d=>d.leaf
theorem uD{e:aC}{v:Value}{d:K}(h:bz e v d)(J:kE d=true):DReps e v.cells.toList d.cells:=by refine WQ h ?_;cases d<;>first|exact .inl J|exact .inr ⟨_,rfl⟩
def mE{av:Type}(d:K)(k:List K->Option av):Option av:=match d with
 |.agg ds=>k ds
 |d=>k [d]
theorem uZ{av:Type}(d:K)(k:List K->Option av):mE d k=k d.cells:=by cases d<;>rfl
theorem FY{o:Oper}{t:TypeId}{x:Operand}(b:Nat){dx:K}{cs:List K}(ho:o.op=.box t x)(T:ev S x=some dx)(J:kE dx=true)(cR:mE dx some=some cs):dN P o S B (.ptr b 0) (some (b,cs)):=by
 rw[uZ] at cR;cases cR;intro a e hs eo;have A:=hs.1 x (by rw[ho];simp[Op.operands]) _ T;have hr:=uD A J;unfold Oper.wp;have e1:(execOp a.eval o).run P e.w=.ok (.value (.pointer (some ⟨e.w.heap.size,0,none⟩))) (e.w.alloc (.cells (a.eval x).cells t)):=by obtain⟨dst,op,type,pos,after,guard⟩:=o;simp only at ho;subst ho;simp[execOp,Instr.box,newVar,newRow]
 rw[e1];refine⟨_,(e.alloc (.cells (a.eval x).cells.toList.toArray t) (some 0)).iz b e.w.heap.size,rfl,by simp[aC.iz,aC.alloc],Tz hr (eo _ rfl)⟩
theorem wH(hT:di P ap){o:Oper}{t:TypeId}(b:Nat){i:TI}{cs:List K}(ho:o.op=.alloc t)(ht:ap t=some i)(J:kE (ki i.zero)=true)(cR:qC i.zero (λ d=>mE d some)=some cs):dN P o S B (.ptr b 0) (some (b,cs)):=by
 rw[wR,uZ] at cR;cases cR;intro a e hs eo;have hr:=uD (wQ e i.zero) J;unfold Oper.wp;have e1:(execOp a.eval o).run P e.w=.ok (.value (.pointer (some ⟨e.w.heap.size,0,none⟩))) (e.w.alloc (.cells i.zero.cells t)):=by obtain⟨dst,op,type,pos,after,guard⟩:=o;simp only at ho;subst ho;simp[execOp,Instr.alloc,Az hT ht,newVar,newRow]
 rw[e1];refine⟨_,(e.alloc (.cells i.zero.cells.toList.toArray t) (some 0)).iz b e.w.heap.size,rfl,by simp[aC.iz,aC.alloc],Tz hr (eo _ rfl)⟩
theorem rf{e:aC}{v:Value}{ex:Bool}{n:Nat}{ps:List Pl}(h:dm e v (.sl ex n ps)):∃am bS,v=.slice am n bS/\n<=bS/\bS<=maxLen/\(am=none->bS=0)/\(ex=true->bS=n)/\(ps=[]\/∃b o,am=some ⟨b,o,none⟩/\sx e b o ps):=by
 cases h with
 |sl f A F O h4 h5 h6=>
  refine⟨_,_,rfl,A,F,O,h4,?_⟩;rcases ps with _|⟨x,ps⟩
  ·exact .inl rfl
  ·obtain⟨b,o,hA,_⟩:=h5 0 x rfl;refine .inr ⟨b,o,hA,f,λ i y hy=>?_⟩;obtain⟨bf,o',DC,h7,h8,h9⟩:=h5 i y hy;rw[hA] at DC;cases DC;exact⟨h7,h8,h9,h6 i y hy⟩
theorem CH{e:aC}{am:Option Addr}{ex:Bool}{n bS:Nat}{ps:List Pl}(A:n<=bS)(F:bS<=maxLen)(O:am=none->bS=0)(h4:ex=true->bS=n)(h5:ps=[]\/∃b o,am=some ⟨b,o,none⟩/\sx e b o ps):dm e (.slice am n bS) (.sl ex n ps):=by
 rcases h5 with rfl|⟨b,o,hA,f,hf⟩
 ·exact .sl (λ _=>undef) A F O h4 (λ i x h=>by simp at h) (λ i x h=>by simp at h)
 ·exact .sl f A F O h4 (λ i x T=>by obtain⟨h6,h7,h8,_⟩:=hf i x T;exact⟨b,o,hA,h6,h7,h8⟩) (λ i x T=>(hf i x T).2.2.2)
theorem sx.part{e:aC}{b o:Nat}{ps qs:List Pl}(h:sx e b o ps)(m:Nat)(hq:∀(j:Nat) q,qs[j]?=some q->ps[m+j]?=some q):sx e b (o+m) qs:=by obtain⟨f,hf⟩:=h;refine⟨λ j=>f (m+j),λ j q hj=>?_⟩;obtain⟨A,F,O,h4⟩:=hf _ q (hq j q hj);rw[Nat.add_assoc];exact⟨A,F,O,h4⟩
def nK:K->Option (Nat×List Pl)
 |.p (.sl _ n ps)=>some (n,ps)
 |.aW _ n ps=>some (n,ps)
 |_=>none
theorem x3{e:aC}{v:Value}{d:K}{n:Nat}{ps:List Pl}(h:bz e v d)(D:nK d=some (n,ps)):dm e v (.sl false n ps):=by
 cases h with
 |p h=>cases h with
  |raw=>cases D
  |sl f A F O h4 h5 h6=>cases D;exact .sl f A F O (λ h=>by cases h) h5 h6
 |aW h _=>cases D;exact h
 |_=>cases D
theorem RG(hT:di P ap){o:Oper}{t el:TypeId}{x y:Operand}{dx:K}{n:Nat}{ps:List Pl}{k:IntKind}{i:Int}{z1 z2:Nat}{z3:Value}{j:TI}(qs:List Pl)(ho:o.op=.indexAddr t x y)(ht:ap t=some ⟨.slice el,z1,z2,z3⟩)(he:ap el=some j)
 (T:ev S x=some dx)(D:nK dx=some (n,ps))(hy:ev S y=some (.p (.raw (.int k i))))(h0:0<=i)(bm:i<n)(xy:qs≠[])(hq:∀(m:Nat) q,qs[m]?=some q->ps[i.toNat*j.sz+m]?=some q):dN P o S B (.el qs) none:=by
 refine jp λ a e hs=>?_
 have A:=x3 (hs.1 x (by rw[ho];simp[Op.operands]) _ T) D;have F:=dh (hs.1 y (by rw[ho];simp[Op.operands]) _ hy);obtain⟨am,bS,hv,_,_,_,_,hA⟩:=rf A;rcases hA with rfl|⟨b,of,rfl,ek⟩
 ·rcases qs with _|⟨q,qs⟩
  ·exact absurd rfl xy
  ·have:=hq 0 q rfl;simp at this
 obtain⟨d0,ec,J⟩:=hT.desc t _ ht;cases d0<;>simp only[jI,reduceCtorEq,TK.slice.injEq] at J
 subst J;refine⟨.pointer (some ⟨b,of+i.toNat*j.sz,none⟩),?_,.el (ek.part _ hq)⟩;obtain⟨dst,op,type,pos,after,guard⟩:=o;simp only at ho;subst ho;simp[execOp,Instr.indexAt,F,hv,asIntOf,run_underlying ec,h0,bm,run_sizeOf hT he,sC]
end
end Go.Proofs.YtcnefjfboagbmaaGreat
end
section
namespace Go.Proofs.YtcnefjfboagbmaaGreat
open Go.RowKit
section
variable{P:Program}{ap:Nat->Option TI}{Γ:bN}{M cb:St}
def AP(P:Program)(Γ:bN)(o:Oper)(M cb:St):Prop:=
 ∀(a:Act)(e:aC),bu Γ M e a->o.wp P a e.w (λ bs aM=>∃ab,ab.w=aM/\bu Γ cb ab bs) (λ _ _ _=>False)
theorem yg{P:Program}{o:Oper}{a:Act}{w:World}{aG tI:Act->World->Prop}{Q:Exit->Act->World->Prop}(h:o.wp P a w aG (λ _ _ _=>False))(J:∀bs aM,aG bs aM->tI bs aM):o.wp P a w tI Q:=
 afU (Oper.wp_mono J h)
theorem dN.step{o:Oper}{d:K}{nb:Option (Nat×List K)}(h:dN P o (kv M.s) (kv M.b) d nb)(D:wT Γ.n o.dst=true)(eo:∀p,nb=some p->kv M.b p.1=none):AP P Γ o M ((M.box nb).put o.dst d):=by
 intro a e L;refine yg (h a e (L.iP _) λ p hp=>L.eE _ (eo p hp)) λ bs aM hh=>?_
 obtain⟨v,ab,rfl,hw,hq⟩:=hh;exact⟨ab,hw,L.quiet D eo hq⟩
def jM(Γ:bN)(Q:Exit->St->Prop):Exit->Act->World->Prop:=λ x a w=>∃M e,e.w=w/\bu Γ M e a/\Q x M
structure bq(P:Program)(Γ:bN)(l0:List Oper)(Q:Exit->St->Prop)(l:List Oper)(M:St):Prop where
 run:∀(a:Act)(e:aC),bu Γ M e a->wpList P l0.toArray (jM Γ Q) l a e.w
variable{l0 l:List Oper}{Q:Exit->St->Prop}{o:Oper}
theorem kM(h:Q .normal M):bq P Γ l0 Q [] M:=⟨λ _ e L=>⟨M,e,rfl,L,h⟩⟩
def gd(l0:List Oper)(o:Oper)(S:Nat->Option K):Option Bool:=match o.guard with
 |none=>some true
 |some (j,want)=>match(l0[j]?).bind (·.dst) with
  |some t=>match S t with
   |some (.p (.raw (.bool b)))=>some (b==want)
   |some (.p (.raw (.tuple _)))=>some false
   |_=>none
  |none=>none
theorem mf{e:aC}{a:Act}(L:bu Γ M e a){c:Bool}(h:gd l0 o (kv M.s)=some c):Region.wanted o (yielded l0.toArray a.tmps)=c:=by
 unfold gd at h;unfold Region.wanted;split at h
 ·rename_i hg;rw[hg];cases h;rfl
 ·rename_i j want hg;rw[hg];split at h
  ·rename_i t ht;split at h
   ·rename_i b Z;cases h;have hv:=dh (L.bU t _ Z);have:yielded l0.toArray a.tmps j=some b:=by
     rw[IG];have A:(l0.toArray[j]?).bind (·.dst)=some t:=by simpa using ht
     rw[A];unfold gq at hv;simp only[Option.bind_some,hv,A3]
    simp only[this];cases b<;>cases want<;>rfl
   ·rename_i b Z;cases h;have hv:=dh (L.bU t _ Z);have:yielded l0.toArray a.tmps j=none:=by
     rw[IG];have A:(l0.toArray[j]?).bind (·.dst)=some t:=by simpa using ht
     rw[A];unfold gq at hv;simp only[Option.bind_some,hv,A3]
    simp only[this];cases want<;>rfl
   ·cases h
  ·cases h
theorem wI(hg:gd l0 o (kv M.s)=some true)(hs:AP P Γ o M cb)(h:bq P Γ l0 Q l cb):bq P Γ l0 Q (o::l) M:=by refine⟨λ a e L=>?_⟩;unfold wpList;rw[if_pos (mf L hg)];refine .inl (yg (hs a e L) λ bs aM hh=>?_);obtain⟨ab,rfl,dR⟩:=hh;exact h.run bs ab dR
theorem V7(hg:gd l0 o (kv M.s)=some false)(D:wT Γ.n o.dst=true)(h:bq P Γ l0 Q l (M.put o.dst (.p (.raw undef)))):bq P Γ l0 Q (o::l) M:=by refine⟨λ a e L=>?_⟩;unfold wpList;rw[if_neg (by rw[mf L hg];simp)];exact h.run _ e (L.put D (.p (.raw undef)))
theorem Oz{d:K}{nb:Option (Nat×List K)}(hq:dN P o (kv M.s) (kv M.b) d nb)(hg:gd l0 o (kv M.s)=some true)(D:wT Γ.n o.dst=true)(eo:∀p,nb=some p->kv M.b p.1=none)(h:bq P Γ l0 Q l ((M.box nb).put o.dst d)):bq P Γ l0 Q (o::l) M:=
 wI hg (hq.step D eo) h
structure agi(M bb:St):Prop where
 s:∀t d,kv bb.s t=some d->kv M.s t=some d
 b:bb.b=M.b
 g:bb.g=M.g
def St.Il(M:St)(b:Nat)(cs:List K):St:=⟨M.s,(b,cs)::M.b,M.g⟩
theorem FX{w:World}{k:Nat}{vs us:List Value}{el:TypeId}(h:w.heap[k]?=some (.cells vs.toArray el (0,0))):(w.setRow k us.toArray).heap[k]?=some (.cells us.toArray el (0,0)):=setRow_heap w k _ _ el _ h
theorem bu.setRow{e:aC}{a:Act}(L:bu Γ M e a){b k:Nat}{vs us:List Value}{el:TypeId}{cs:List K}(Z:e.bx b=some k)(J:e.w.heap[k]?=some (.cells vs.toArray el (0,0)))(hr:DReps e us cs):
 bu Γ (M.Il b cs) {e with w:=e.w.setRow k us.toArray} a:=by
 obtain⟨A,F,O,h4⟩:=L.env.bx b k Z;have ib:∀j,j≠k->(e.w.setRow k us.toArray).heap[j]?=e.w.heap[j]?:=λ j hj=>setRow_other e.w k j _ hj
 have I:Ends e {e with w:=e.w.setRow k us.toArray}:=by
  refine⟨λ bf o v ea hv=>?_,λ _ _ h=>h,λ _ au h=>⟨au,h,rfl,rfl,Nat.le_refl _⟩,λ j g au cur h5 h6 h7=>⟨h5,cur,?_,rfl⟩⟩
  ·have b9:bf≠k:=λ ab=>by subst ab;exact absurd (ea 0 O) (by omega)
   exact⟨ea,by show(e.w.setRow k us.toArray).cell? _=_;rw[World.cell?_of_block (w:=e.w) (ib bf b9)];exact hv⟩
  ·show(e.w.setRow k us.toArray).heap[j]?=_;rw[ib j (λ ab=>by subst ab;rw[h4] at h5;cases h5)];exact h7
 refine⟨L.size,L.df,λ t d ht=>(L.bU t d ht).next I,λ bf ds D=>?_,λ bf ia=>?_,L.gs,?_⟩
 ·simp only[St.Il,da] at D;split at D
  ·rename_i ud;subst ud;cases D;exact⟨k,us,el,Z,FX J,hr.next I⟩
  ·rename_i ud;obtain⟨iG,eY,Ds,h5,h6,h7⟩:=L.boxes bf ds D;refine⟨iG,eY,Ds,h5,?_,h7.next I⟩;show(e.w.setRow k us.toArray).heap[iG]?=_;rw[ib iG (λ ab=>ud (by subst ab;exact L.env.inj _ _ _ Z h5))];exact h6
 ·simp only[St.Il,da] at ia;split at ia
  ·cases ia
  ·exact L.eE bf ia
 ·refine⟨⟨L.env.kept.os,L.env.kept.tape,L.env.kept.output,by show _<=(e.w.setRow k us.toArray).heap.size;rw[setRow_size];exact L.env.kept.size,λ j hj ho=>?_⟩,L.env.cl,λ bf j hj=>?_,L.env.inj,λ j g hg=>?_,L.env.kb⟩
  ·show(e.w.setRow k us.toArray).heap[j]?=_;rw[ib j (λ ab=>by subst ab;rcases F with F|F<;>first|omega|exact ho F)];exact L.env.kept.block j hj ho
  ·obtain⟨h5,h6,h7,h8⟩:=L.env.bx bf j hj;exact⟨by show j<(e.w.setRow k us.toArray).heap.size;rw[setRow_size];exact h5,h6,h7,h8⟩
  ·obtain⟨au,cur,h5,h6,h7,h8,h9⟩:=L.env.gr j g hg;refine⟨au,cur,h5,by show j<(e.w.setRow k us.toArray).heap.size;rw[setRow_size];exact h6,h7,h8,?_⟩;show(e.w.setRow k us.toArray).heap[j]?=_;rw[ib j (λ ab=>by subst ab;rw[h4] at hg;cases hg)];exact h9
def stored(cs:List K)(o:Nat)(ds:List K):List K:=cs.take o++ds++cs.drop (o+ds.length)
def ux:K->Bool
 |.agg ds=>ds.all K.leaf
 |d=>d.leaf
theorem R8{e:aC}{v:Value}{d:K}(h:bz e v d)(U:ux d=true):∀u∈v.cells.toList,mr u=true:=by
 have J:kE d=true:=by cases d<;>first|exact U|rfl
 have hr:=uD h J;have dF:∀c∈d.cells,c.leaf=true:=by
  cases d with
  |agg ds=>exact λ c L=>List.all_eq_true.1 U c L
  |_=>intro c L;simp only[K.cells,List.mem_singleton] at L;subst L;exact U
 intro u hu;obtain⟨i,hi,rfl⟩:=List.mem_iff_getElem.1 hu;have mM:i<d.cells.length:=by rw[<-hr.1];exact hi
 exact LF (hr.2 i _ _ (List.getElem?_eq_getElem hi) (List.getElem?_eq_getElem mM)) (dF _ (List.getElem_mem mM))
def tD{av:Type}(cs:List K)(o:Nat)(d:K)(k:List K->Option av):Option av:=
 mE d λ ds=>mD o cs λ a=>la o cs λ b=>la ds.length b λ c=>m8 ds c λ r=>m8 a r k
theorem UE{av:Type}{cs:List K}{o:Nat}{d:K}{k:List K->Option av}{r:av}(h:tD cs o d k=some r):o+d.cells.length<=cs.length/\k (stored cs o d.cells)=some r:=by unfold tD at h;rw[uZ] at h;obtain⟨A,h⟩:=sq h;obtain⟨F,h⟩:=nY h;obtain⟨O,h⟩:=nY h;rw[rC,rC] at h;refine⟨by simp at O;omega,?_⟩;unfold stored;rw[List.append_assoc];rw[List.drop_drop] at h;exact h
theorem Nu(hT:di P ap){t:TypeId}{x y:Operand}{b of:Nat}{cs:List K}{dy:K}{i:TI}(ho:o.op=.store t x y)(D:o.dst=none)(ht:ap t=some i)(T:ev (kv M.s) x=some (.ptr b of))(Z:kv M.b b=some cs)(hy:ev (kv M.s) y=some dy)
 (U:ux dy=true)(ci:dy.cells.length=i.sz)(DZ:of+dy.cells.length<=cs.length):AP P Γ o M (M.Il b (stored cs of dy.cells)):=by
 intro a e L;have hs:=L.iP (M:=M) o.op.operands;have A:=hs.1 x (by rw[ho];simp[Op.operands]) _ T;have F:=hs.1 y (by rw[ho];simp[Op.operands]) _ hy;have J:kE dy=true:=by cases dy<;>first|exact U|rfl
 have hr:=uD F J;obtain⟨k,vs,el,O,h4,h5⟩:=L.boxes b cs Z;generalize dG:a.eval x=vx at A;cases A with
 |ptr A=>
  rw[O] at A;cases A;have cD:(a.eval y).cells.size=i.sz:=by have:=hr.1;simp at this;omega
  have cF:=run_storeCells_at P k of el (a.eval y).cells.toList 0 vs.toArray e.w h4 (by have:=hr.1;have:=h5.1;simp at*;omega) (R8 F U);unfold Oper.wp;have e1:(execOp a.eval o).run P e.w=.ok .skip (e.w.setRow k (vs.take of++(a.eval y).cells.toList++vs.drop (of+(a.eval y).cells.toList.length)).toArray):=by obtain⟨dst,op,type,pos,after,guard⟩:=o;simp only at ho;subst ho;simp only[Nat.add_zero] at cF;simp[execOp,Instr.storeAt,Instr.sureAddr,dG,storeVar,run_sizeOf hT ht,cD,cF]
  rw[e1];refine⟨{e with w:=e.w.setRow k (vs.take of++(a.eval y).cells.toList++vs.drop (of+(a.eval y).cells.toList.length)).toArray},rfl,?_⟩;have:=L.setRow O h4 (us:=vs.take of++(a.eval y).cells.toList++vs.drop (of+(a.eval y).cells.toList.length)) (cs:=stored cs of dy.cells) (by
   unfold stored;rw[hr.1];exact((h5.take of).append hr).append (h5.drop _))
  rw[D];exact this
end
end Go.Proofs.YtcnefjfboagbmaaGreat
end
section
namespace Go.Proofs.YtcnefjfboagbmaaGreat
open Go.RowKit
section
variable{P:Program}{ap:Nat->Option TI}{Γ:bN}{M cb:St}{o:Oper}
def St.Fo(M:St)(g:Nat)(au:Gr):St:=⟨M.s,M.b,(g,au)::M.g⟩
def aC.more(e:aC)(w:World)(g:Nat)(au:Gr)(k:Option Nat):aC:=
 {w:=w,cl:=λ j=>if some j=k\/e.gr j=some g then some (au.len*au.sz) else e.cl j,bx:=e.bx,gr:=λ j=>if some j=k then some g else e.gr j,gi:=λ h=>if h=g then some au else e.gi h}
structure pN(e:aC)(w:World)(g:Nat)(au:Gr)(k:Option Nat):Prop where
 os:w.os=e.w.os
 tape:w.tape=e.w.tape
 output:w.output=e.w.output
 size:e.w.heap.size<=w.heap.size
 dg:∀j,j<e.w.heap.size->e.gr j≠some g->w.heap[j]?=e.w.heap[j]?
 row:∀j cur,e.gr j=some g->e.w.heap[j]?=some (.cells cur au.el (0,0))->∃iT,w.heap[j]?=some (.cells iT au.el (0,0))/\iT.size=cur.size/\∀i,e.nW j i->iT[i]?=cur[i]?
 new:∀j,k=some j->e.w.heap.size<=j/\j<w.heap.size/\∃cur,w.heap[j]?=some (.cells cur au.el (0,0))
theorem pN.ends{e:aC}{w:World}{g:Nat}{au G0:Gr}{k:Option Nat}(h:pN e w g au k)(aT:h2 Γ e)(hg:e.gi g=some G0)(ek:au.el=G0.el)(ci:au.sz=G0.sz)(cD:G0.len<=au.len):Ends e (e.more w g au k):=by
 refine⟨λ b i v L hv=>?_,λ _ _ h=>h,λ bF m7 vt=>?_,λ j bF m7 cur A F O=>?_⟩
 ·have Z:=F6 hv;have b9:¬some b=k:=λ ab=>by have:=(h.new b ab.symm).1;omega
  by_cases hc:e.gr b=some g
  ·obtain⟨G1,cur,A,F,O,h4,h5⟩:=aT.gr b g hc;rw[hg] at A;cases A;obtain⟨iT,h6,h7,h8⟩:=h.row b cur hc (by rw[ek];exact h5);have hi:=L _ h4;refine⟨λ n hn=>?_,?_⟩
   ·have lD:(if some b=k\/e.gr b=some g then some (au.len*au.sz) else e.cl b)=some n:=hn;rw[if_pos (.inr hc)] at lD;cases lD;have:=Nat.mul_le_mul_right G0.sz cD;rw[ci];omega
   ·show w.cell? _=_;rw[cell_of_row w b i iT au.el (0,0) h6,h8 i L];rw[cell_of_row e.w b i cur G0.el (0,0) h5] at hv;exact hv
  ·refine⟨λ n hn=>?_,?_⟩
   ·have lD:(if some b=k\/e.gr b=some g then some (au.len*au.sz) else e.cl b)=some n:=hn;rw[if_neg (λ bQ=>bQ.elim b9 hc)] at lD;exact L n lD
   ·show w.cell? _=_;rw[World.cell?_of_block (w:=e.w) (h.dg b Z hc)];exact hv
 ·by_cases e1:bF=g
  ·subst e1;rw[hg] at vt;cases vt;exact⟨au,by simp[aC.more],ek,ci,cD⟩
  ·exact⟨m7,by simp[aC.more,e1];exact vt,rfl,rfl,Nat.le_refl _⟩
 ·have hj:=sU O;have b9:¬some j=k:=λ ab=>by have:=(h.new j ab.symm).1;omega
  refine⟨by show(if some j=k then some g else e.gr j)=_;rw[if_neg b9];exact A,?_⟩
  by_cases hc:bF=g
  ·subst hc;rw[hg] at F;cases F;obtain⟨iT,h6,h7,_⟩:=h.row j cur A (by rw[ek];exact O);exact⟨iT,by rw[<-ek];exact h6,h7⟩
  ·exact⟨cur,by show w.heap[j]?=_;rw[h.dg j hj (by rw[A];simpa using hc)];exact O,rfl⟩
theorem pN.box{e:aC}{w:World}{g:Nat}{au G0:Gr}{k:Option Nat}(h:pN e w g au k)(aT:h2 Γ e)(hg:e.gi g=some G0)(ek:au.el=G0.el)(ci:au.sz=G0.sz)(cD:G0.len<=au.len){b:Nat}{cs:List K}(Z:h1 e b cs):h1 (e.more w g au k) b cs:=by obtain⟨j,vs,el,A,F,O⟩:=Z;obtain⟨h4,_,_,h5⟩:=aT.bx b j A;exact⟨j,vs,el,A,by show w.heap[j]?=_;rw[h.dg j h4 (by rw[h5];simp)];exact F,O.next (h.ends aT hg ek ci cD)⟩
theorem pN.ok{e:aC}{w:World}{g:Nat}{au G0:Gr}{k:Option Nat}(h:pN e w g au k)(aT:h2 Γ e)(fH:e.gi g=some G0)(ek:au.el=G0.el):h2 Γ (e.more w g au k):=by
 have Ep:∀j,j<e.w.heap.size->¬some j=k:=λ j hj ab=>by have:=(h.new j ab.symm).1;omega
 refine⟨⟨h.os.trans aT.kept.os,h.tape.trans aT.kept.tape,h.output.trans aT.kept.output,Nat.le_trans aT.kept.size h.size,λ j hj ho=>?_⟩,λ j hj ho=>?_,λ b j Z=>?_,aT.inj,λ j bF vt=>?_,aT.kb⟩
 ·have qT:=Nat.lt_of_lt_of_le hj aT.kept.size;have qV:e.gr j≠some g:=λ vt=>by
   obtain⟨_,_,_,_,O,_⟩:=aT.gr j g vt;rcases O with O|O<;>first|omega|exact ho O
  show w.heap[j]?=_;rw[h.dg j qT qV];exact aT.kept.block j hj ho
 ·have qT:=Nat.lt_of_lt_of_le hj aT.kept.size;have qV:e.gr j≠some g:=λ vt=>by
   obtain⟨_,_,_,_,O,_⟩:=aT.gr j g vt;rcases O with O|O<;>first|omega|exact ho O
  show(if some j=k\/e.gr j=some g then _ else e.cl j)=_;rw[if_neg (λ bQ=>bQ.elim (Ep j qT) qV)];exact aT.cl j hj ho
 ·obtain⟨A,F,O,h4⟩:=aT.bx b j Z;refine⟨Nat.lt_of_lt_of_le A h.size,F,?_,?_⟩
  ·show(if some j=k\/e.gr j=some g then _ else e.cl j)=_;rw[if_neg (λ bQ=>bQ.elim (Ep j A) (by rw[h4];simp))];exact O
  ·show(if some j=k then some g else e.gr j)=_;rw[if_neg (Ep j A)];exact h4
 ·have d4:(if some j=k then some g else e.gr j)=some bF:=vt
  by_cases mN:some j=k
  ·rw[if_pos mN] at d4;cases d4;obtain⟨A,F,cur,O⟩:=h.new j mN.symm;refine⟨au,cur,by simp[aC.more],F,.inl (Nat.le_trans aT.kept.size A),by simp[aC.more,mN],O⟩
  ·rw[if_neg mN] at d4;obtain⟨G1,cur,A,F,O,h4,h5⟩:=aT.gr j bF d4
   by_cases e1:bF=g
   ·subst e1;rw[fH] at A;cases A;obtain⟨iT,h6,_,_⟩:=h.row j cur d4 (by rw[ek];exact h5);exact⟨au,iT,by simp[aC.more],Nat.lt_of_lt_of_le F h.size,O,by simp[aC.more,d4],h6⟩
   ·refine⟨G1,cur,by simp[aC.more,e1];exact A,Nat.lt_of_lt_of_le F h.size,O,?_,?_⟩
    ·show(if some j=k\/e.gr j=some g then _ else e.cl j)=_;rw[if_neg (λ bQ=>bQ.elim mN (by rw[d4];simpa using e1))];exact h4
    ·show w.heap[j]?=_;rw[h.dg j F (by rw[d4];simpa using e1)];exact h5
theorem bu.more{e:aC}{a:Act}(L:bu Γ M e a){w:World}{g:Nat}{au G0:Gr}{k:Option Nat}(h:pN e w g au k)(hg:kv M.g g=some G0)(ek:au.el=G0.el)(ci:au.sz=G0.sz)(cD:G0.len<=au.len):bu Γ (M.Fo g au) (e.more w g au k) a:=by
 have fH:e.gi g=some G0:=by rw[L.gs];exact hg
 have I:=h.ends L.env fH ek ci cD;refine⟨L.size,L.df,λ t d ht=>(L.bU t d ht).next I,λ b cs Z=>h.box L.env fH ek ci cD (L.boxes b cs Z),L.eE,λ bF=>?_,h.ok L.env fH ek⟩;show(if bF=g then some au else e.gi bF)=kv ((g,au)::M.g) bF;rw[da]
 by_cases e1:bF=g
 ·subst e1;simp
 ·rw[if_neg e1,if_neg (λ ab=>e1 ab.symm)];exact L.gs bF
theorem Dh{e:aC}{b of:Nat}{ps:List Pl}(h:sx e b of ps):∃us:List Value,us.length=ps.length/\(∀(j:Nat) v,us[j]?=some v->e.w.cell? ((⟨b,of,none⟩:Addr).add j)=some v)/\(∀v∈us,v.oneCell'=true)/\∀(j:Nat) v x,us[j]?=some v->ps[j]?=some x->dm e v x:=by
 obtain⟨us,A,F,O⟩:=Pt h;refine⟨us,by have:=F.1;simpa using this,λ j v hj=>by rw[sC];exact A j v hj,O,λ j v x hv T=>?_⟩;have:=F.2 j v (.p x) hv (by rw[List.getElem?_map,T];rfl);cases this with
 |p h=>exact h
theorem MS{e:aC}{k bS n:Nat}{g:Nat}{au:Gr}{ps:List Pl}{us:List Value}{cur:Array Value}(J:e.w.heap[k]?=some (.cells cur au.el (0,0)))(ea:e.cl k=some (au.len*au.sz))(hc:e.gr k=some g)(fH:e.gi g=some au)(hn:n=au.len)(db:ps.length=n*au.sz)(Km:n<=bS)(hm:bS<=maxLen)(cR:cur.size=bS*au.sz)
 (U:us.length=ps.length)(sT:∀(j:Nat) v,us[j]?=some v->cur[j]?=some v)(n9:∀v∈us,v.oneCell'=true)(hr:∀(j:Nat) v x,us[j]?=some v->ps[j]?=some x->dm e v x):bz e (.slice (some ⟨k,0,none⟩) n bS) (.aW g n ps):=by
 refine .aW (CH Km hm (λ h=>by cases h) (λ h=>by cases h) (.inr ⟨k,0,rfl,λ j=>us.getD j undef,λ j x T=>?_⟩)) ⟨au,_,bS,fH,rfl,by omega,db,.inr ⟨k,rfl,hc,cur,J,cR⟩⟩;have hj:j<us.length:=by rw[U];exact(List.getElem?_eq_some_iff.1 T).1
 have hu:us[j]?=some us[j]:=List.getElem?_eq_getElem hj;have p6:us.getD j undef=us[j]:=by simp[hj]
 show e.nW k (0+j)/\e.w.cell? ⟨k,0+j,none⟩=some (us.getD j undef)/\mr (us.getD j undef)=true/\dm e (us.getD j undef) x;rw[p6];refine⟨λ m rS=>?_,?_,n9 _ (List.getElem_mem hj),hr j _ x hu T⟩
 ·rw[ea] at rS;cases rS;rw[<-hn,<-db];omega
 ·rw[Nat.zero_add,cell_of_row e.w k j cur au.el (0,0) J];exact sT j _ hu
def St.app(M:St)(g:Nat)(au:Gr)(dst:Option Nat)(ps:List Pl):St:=(M.Fo g au).put dst (.aW g au.len ps)
theorem Je(hT:di P ap){e:aC}(aT:h2 Γ e){t ty:TypeId}{g n m el z1 z2:Nat}{z3:Value}{ps qs:List Pl}{i:TI}{vx vy:Value}(ht:ap t=some ⟨.slice el,z1,z2,z3⟩)(ek:ap el=some i)(gX:i.zero.cells.size=i.sz)(py:0<i.sz)
 (cj:bz e vx (.aW g n ps))(fH:e.gi g=some ⟨el,i.sz,n⟩)(fw:dm e vy (.sl false m qs))(d6:qs.length=m*i.sz)
 (gt:n+m<=maxLen)(gF:(n+m)*i.bytes<=140737488355328):∃v aM k,(Builtin.append_ #[t,t] ty #[vx,vy]).run P e.w=.ok v aM/\pN e aM g ⟨el,i.sz,n+m⟩ k/\bz (e.more aM g ⟨el,i.sz,n+m⟩ k) v (.aW g (n+m) (ps++qs)):=by
 obtain⟨d0,ec,J⟩:=hT.desc t _ ht;cases d0<;>simp only[jI,reduceCtorEq,TK.slice.injEq] at J
 rw[J] at ec;obtain⟨gy,nn,ci,uf,hz⟩:=hT.info _ i ek;cases cj with
 |aW du Hr=>
 obtain⟨am,bS,rfl,uq,lc,hA0,_,hA⟩:=rf du;obtain⟨G0,af6,ago,PY,zp,ag6,td,Li⟩:=Hr;cases zp;rw[fH] at PY;cases PY;simp only at td;obtain⟨aH,md,rfl,Rx,Rz,Qd,_,hY⟩:=rf fw
 by_cases l4:m=0
 ·subst l4;have xy:qs=[]:=List.eq_nil_of_length_eq_zero (by simpa using d6);subst xy;have Y2:(Builtin.firstCells gy.size 0 (.slice aH 0 md)).run P e.w=.ok #[] e.w:=by
   cases aH<;>simp[Builtin.firstCells,loadCells,loadCellsFrom]
  have c8:(Builtin.append_ #[t,t] ty #[.slice am n bS,.slice aH 0 md]).run P e.w=.ok (.slice am n bS) e.w:=by cases am<;>simp[Builtin.append_,run_underlying ec,sizeOf,typeInfo,nn,Builtin.lenOf,uq,Y2,storeCells]
  have qa:pN e e.w g ⟨el,i.sz,n+0⟩ none:=⟨rfl,rfl,rfl,Nat.le_refl _,λ _ _ _=>rfl,λ j cur _ h=>⟨cur,h,rfl,λ _ _=>rfl⟩,λ j h=>by cases h⟩;refine⟨_,_,none,c8,qa,?_⟩;have:=(bz.aW du ⟨_,_,_,fH,rfl,Nat.le_refl _,td,Li⟩).next (qa.ends aT fH rfl rfl (by simp))
  simpa using this
 have Ex:qs≠[]:=λ ab=>by
  rw[ab] at d6;rcases Nat.mul_eq_zero.1 d6.symm with bQ|bQ
  ·exact l4 bQ
  ·omega
 rcases hY with hY|⟨yb,yo,rfl,DI⟩
 ·exact absurd hY Ex
 obtain⟨us,tm,qX,mo,vN⟩:=Dh DI;have qf:us.length=m*gy.size:=by rw[tm,d6,ci]
 by_cases qe:n+m<=bS
 ·
  rcases Li with Li|⟨k,Ye,je,cur,sT,cR⟩
  ·omega
  ·cases Ye;simp only at sT cR;obtain⟨G1,agu,A,F,O,h4,h5⟩:=aT.gr k g je;rw[fH] at A;cases A;have DZ:n*gy.size+us.length<=cur.size:=by rw[qf,cR,ci,<-Nat.add_mul];exact Nat.mul_le_mul_right _ qe
   have c8:=run_append_room (P:=P) e.w t ty el gy ec nn k n bS cur sT ⟨yb,yo,none⟩ m md us qf qX mo qe DZ;have kP:(cur.toList.take (n*gy.size)++us++cur.toList.drop (n*gy.size+us.length)).toArray.size=cur.size:=by simp only[List.size_toArray,List.length_append,List.length_take,List.length_drop,Array.length_toList];omega
   have qa:pN e (e.w.setRow k (cur.toList.take (n*gy.size)++us++cur.toList.drop (n*gy.size+us.length)).toArray) g ⟨el,i.sz,n+m⟩ none:=by
    refine⟨rfl,rfl,rfl,by simp,λ j hj vz=>setRow_other _ _ _ _ (λ ab=>vz (by rw[ab];exact je)),λ j c0 vz hj=>?_,λ j h=>by cases h⟩
    by_cases mN:j=k
    ·subst mN;simp only at hj;rw[sT] at hj;cases hj;refine⟨_,setRow_heap _ _ cur _ _ _ sT,kP,λ q hq=>?_⟩;have Ew:=hq _ h4;simp only at Ew;rw[ci];rw[List.getElem?_toArray,List.append_assoc,List.getElem?_append_left (by simp;rw[cR];have:=Nat.mul_le_mul_right i.sz uq;omega),List.getElem?_take,if_pos Ew];simp
    ·exact⟨c0,by rw[setRow_other _ _ _ _ mN];exact hj,rfl,λ _ _=>rfl⟩
   refine⟨_,_,none,c8,qa,?_⟩;have I:=qa.ends aT fH rfl rfl (by simp);rcases hA with hA|⟨bf,o',ia,J4⟩
   ·have ml:n=0:=by
     rw[hA] at td;simp only[List.length_nil] at td;rcases Nat.mul_eq_zero.1 td.symm with bQ|bQ
     ·exact bQ
     ·exact absurd bQ (Nat.pos_iff_ne_zero.1 py)
    subst hA;refine MS (au:=⟨el,i.sz,n+m⟩) (us:=us) (cur:=(cur.toList.take (n*gy.size)++us++cur.toList.drop (n*gy.size+us.length)).toArray) (setRow_heap _ _ cur _ _ _ sT) (by simp[aC.more,je]) (by simp[aC.more,je]) (by simp[aC.more]) rfl (by simp[d6,ml]) qe lc (by rw[kP];exact cR) (by simpa using tm) (λ j v hj=>?_) mo (λ j v y A F=>(vN j v y A (by simpa using F)).next I);have np:=(List.getElem?_eq_some_iff.1 hj).1;rw[List.getElem?_toArray,ml,List.append_assoc,List.getElem?_append_right (by simp)];simp only[Nat.zero_mul,List.take_zero,List.length_nil,Nat.sub_zero];rw[List.getElem?_append_left np];exact hj
   ·cases ia;obtain⟨os,jB,y8,y7,vG⟩:=Dh J4;have Hh:os.length=n*i.sz:=by rw[jB,td]
    have pz:∀(j:Nat) v,os[j]?=some v->cur[j]?=some v:=λ j v hj=>by
     have:=y8 j v hj;rw[sC,Nat.zero_add,cell_of_row e.w k j cur el (0,0) sT] at this;exact this
    refine MS (au:=⟨el,i.sz,n+m⟩) (us:=os++us) (cur:=(cur.toList.take (n*gy.size)++us++cur.toList.drop (n*gy.size+us.length)).toArray) (setRow_heap _ _ cur _ _ _ sT) (by simp[aC.more,je]) (by simp[aC.more,je]) (by simp[aC.more]) rfl (by simp[d6,td,Nat.add_mul]) qe lc (by rw[kP];exact cR) (by simp[tm,jB]) (λ j v hj=>?_) (λ v hv=>by rcases List.mem_append.1 hv with bQ|bQ;exact y7 v bQ;exact mo v bQ) (λ j v y A F=>?_)
    ·rw[List.getElem?_toArray,List.append_assoc];have ea:(cur.toList.take (n*gy.size)).length=n*i.sz:=by
      rw[List.length_take,ci,Array.length_toList,cR];have:=Nat.mul_le_mul_right i.sz uq;omega
     rcases Nat.lt_or_ge j os.length with fI|fI
     ·rw[List.getElem?_append_left fI] at hj;rw[List.getElem?_append_left (by rw[ea,<-Hh];exact fI),List.getElem?_take,if_pos (by rw[ci,<-Hh];exact fI)]
      simpa using pz j v hj
     ·rw[List.getElem?_append_right fI] at hj;rw[List.getElem?_append_right (by rw[ea,<-Hh];exact fI),ea,<-Hh,List.getElem?_append_left (List.getElem?_eq_some_iff.1 hj).1];exact hj
    ·rcases Nat.lt_or_ge j os.length with fI|fI
     ·rw[List.getElem?_append_left fI] at A;rw[List.getElem?_append_left (by rw[<-jB];exact fI)] at F;exact(vG j v y A F).next I
     ·rw[List.getElem?_append_right fI] at A;rw[List.getElem?_append_right (by rw[<-jB];exact fI),<-jB] at F;exact(vN _ v y A F).next I
 ·
  have uh:∀(os:List Value)(dg:Nat),os.length=ps.length->(∀v∈os,v.oneCell'=true)->(∀(j:Nat) v x,os[j]?=some v->ps[j]?=some x->dm e v x)->dg<n+m->
   (Builtin.append_ #[t,t] ty #[.slice am n bS,.slice (some ⟨yb,yo,none⟩) m md]).run P e.w=.ok (.slice (some ⟨e.w.heap.size,0,none⟩) (n+m) (grownCap e.w (n+m) dg el)) (e.w.drew.alloc (.cells (os.toArray++us.toArray++Builtin.zeroCells i.zero.cells (grownCap e.w (n+m) dg el-(n+m))) el))->
   ∃v aM k,(Builtin.append_ #[t,t] ty #[.slice am n bS,.slice (some ⟨yb,yo,none⟩) m md]).run P e.w=.ok v aM/\pN e aM g ⟨el,i.sz,n+m⟩ k/\bz (e.more aM g ⟨el,i.sz,n+m⟩ k) v (.aW g (n+m) (ps++qs)):=by
   intro os dg jB y7 vG pq c8;have iq:=grownCap_ge e.w (n+m) dg el;have pp:=grownCap_le_maxLen e.w (n+m) dg el gt;have qa:pN e (e.w.drew.alloc (.cells (os.toArray++us.toArray++Builtin.zeroCells i.zero.cells (grownCap e.w (n+m) dg el-(n+m))) el)) g ⟨el,i.sz,n+m⟩ (some e.w.heap.size):=
    ⟨rfl,rfl,rfl,by simp,λ j hj _=>Below.heap_alloc e.w.drew _ j hj,λ j c0 vz hj=>⟨c0,by rw[Below.heap_alloc e.w.drew _ j (sU hj)];exact hj,rfl,λ _ _=>rfl⟩,λ j hj=>by cases hj;exact⟨Nat.le_refl _,by simp,_,heap_alloc_new e.w.drew _⟩⟩
   have I:=qa.ends aT fH rfl rfl (by simp);refine⟨_,_,_,c8,qa,MS (au:=⟨el,i.sz,n+m⟩) (us:=os++us) (heap_alloc_new e.w.drew _) (by simp[aC.more]) (by simp[aC.more]) (by simp[aC.more]) rfl (by simp[d6,td,Nat.add_mul]) iq pp ?_ (by simp[tm,jB]) (λ j v hj=>?_) (λ v hv=>by rcases List.mem_append.1 hv with bQ|bQ;exact y7 v bQ;exact mo v bQ) (λ j v y A F=>?_)⟩
   ·simp only[Array.size_append,List.size_toArray,size_zeroCells,gX,jB,tm,td,d6,<-Nat.add_mul]
    congr 1
    omega
   ·have np:=(List.getElem?_eq_some_iff.1 hj).1;rw[show os.toArray++us.toArray=(os++us).toArray by simp,Array.getElem?_append_left (by simpa using np),List.getElem?_toArray];exact hj
   ·rcases Nat.lt_or_ge j os.length with fI|fI
    ·rw[List.getElem?_append_left fI] at A;rw[List.getElem?_append_left (by rw[<-jB];exact fI)] at F;exact(vG j v y A F).next I
    ·rw[List.getElem?_append_right fI] at A;rw[List.getElem?_append_right (by rw[<-jB];exact fI),<-jB] at F;exact(vN _ v y A F).next I
  rcases am with _|ad
  ·have ip:=hA0 rfl;have ml:n=0:=by omega
   subst ml;subst ip;have db:ps=[]:=List.eq_nil_of_length_eq_zero (by simpa using td);have c8:=run_append_nil (P:=P) e.w t ty el gy i.zero ec nn hz ⟨yb,yo,none⟩ m md us qf qX (by omega) (by simp only[maxLen] at gt;omega) (by rw[uf];simp only[Nat.zero_add] at gF;omega);refine uh [] 0 (by simp[db]) (λ v hv=>(by cases hv)) (λ j v x hj=>(by simp at hj)) (by omega) ?_
   simpa using c8
  ·have pq:∃os:List Value,os.length=ps.length/\(∀(j:Nat) v,os[j]?=some v->e.w.cell? (ad.add j)=some v)/\(∀v∈os,v.oneCell'=true)/\∀(j:Nat) v x,os[j]?=some v->ps[j]?=some x->dm e v x:=by
    rcases hA with rfl|⟨bf,o',ia,J4⟩
    ·exact⟨[],rfl,(λ j v h=>by simp at h),(λ v h=>by cases h),(λ j v x h=>by simp at h)⟩
    ·cases ia;exact Dh J4
   obtain⟨os,jB,y8,y7,vG⟩:=pq;have c8:=run_append_grow (P:=P) e.w t ty el gy i.zero ec nn hz ad n bS os (by rw[jB,td,ci]) y8 ⟨yb,yo,none⟩ m md us qf qX (by omega) (by simp only[maxLen] at gt;omega) (growslice_fits (by omega) (by rw[uf];exact gF));exact uh os bS jB y7 vG (by omega) c8
theorem Wb(hT:di P ap){t:TypeId}{x y:Operand}{g n m el z1 z2:Nat}{z3:Value}{ps qs:List Pl}{dy:K}{i:TI}(ho:o.op=.call {callee:=.builtin .append,args:=#[x,y],argTypes:=#[t,t]})(ht:ap t=some ⟨.slice el,z1,z2,z3⟩)(ek:ap el=some i)(gX:i.zero.cells.size=i.sz)(py:0<i.sz)
 (D:wT Γ.n o.dst=true)(T:ev (kv M.s) x=some (.aW g n ps))(hg:kv M.g g=some ⟨el,i.sz,n⟩)(hy:ev (kv M.s) y=some dy)(lZ:nK dy=some (m,qs))(d6:qs.length=m*i.sz)
 (gt:n+m<=maxLen)(gF:(n+m)*i.bytes<=140737488355328):AP P Γ o M (M.app g ⟨el,i.sz,n+m⟩ o.dst (ps++qs)):=by
 intro a e L;have hs:=L.iP (M:=M) o.op.operands;have cj:=hs.1 x (by rw[ho];simp[Op.operands,Call.operands]) _ T;have fw:=x3 (hs.1 y (by rw[ho];simp[Op.operands,Call.operands]) _ hy) lZ;have fH:e.gi g=some ⟨el,i.sz,n⟩:=by rw[L.gs];exact hg
 obtain⟨v,aM,k,c8,qa,px⟩:=Je hT L.env (ty:=o.type) ht ek gX py cj fH fw d6 gt gF;unfold Oper.wp;have e1:(execOp a.eval o).run P e.w=.ok (.value v) aM:=by obtain⟨dst,op,type,pos,after,guard⟩:=o;simp only at ho;subst ho;simp only[execOp,resolve,invoke,builtin,Sem.run_bind,Sem.run_pure,Result.andThen_ok,List.map_toArray,List.map_cons,List.map_nil,c8]
 rw[e1];exact⟨e.more aM g ⟨el,i.sz,n+m⟩ k,rfl,(L.more qa hg rfl rfl (by simp)).put D px⟩
end
end Go.Proofs.YtcnefjfboagbmaaGreat
end
section
namespace Go.Proofs.YtcnefjfboagbmaaGreat
open Go.RowKit
section
variable{P:Program}{ap:Nat->Option TI}{Γ:bN}{M cb bb:St}{o:Oper}
def bY(Γ:bN)(M cb:St):Prop:=∀(a:Act)(e:aC),bu Γ M e a->∃ab,ab.w=e.w/\bu Γ cb ab a
theorem bY.trans{Vg:St}(h:bY Γ M bb)(k:bY Γ bb Vg):bY Γ M Vg:=λ a e L=>by
 obtain⟨e1,A,F⟩:=h a e L;obtain⟨e2,O,h4⟩:=k a e1 F;exact⟨e2,O.trans A,h4⟩
theorem lu(t g el sz:Nat){n:Nat}{ps:List Pl}(ht:kv M.s t=some (.p (.sl true n ps)))(hg:kv M.g g=none)(U:ps.length=n*sz):bY Γ M ⟨(t,.aW g n ps)::M.s,M.b,(g,⟨el,sz,n⟩)::M.g⟩:=by
 intro a e L;have fH:e.gi g=none:=by rw[L.gs];exact hg
 have qV:∀k,e.gr k≠some g:=λ k J=>by obtain⟨au,_,h,_⟩:=L.env.gr k g J;rw[fH] at h;cases h
 have I:Ends e {e with gi:=λ h=>if h=g then some ⟨el,sz,n⟩ else e.gi h}:=
  ⟨λ _ _ _ A F=>⟨A,F⟩,λ _ _ h=>h,λ bF au h=>⟨au,by show(if bF=g then _ else e.gi bF)=_;rw[if_neg (λ ab=>by rw[ab,fH] at h;cases h)];exact h,rfl,rfl,Nat.le_refl _⟩,λ _ _ _ cur A _ O=>⟨A,cur,O,rfl⟩⟩
 refine⟨{e with gi:=λ h=>if h=g then some ⟨el,sz,n⟩ else e.gi h},rfl,L.size,L.df,λ u d hu=>?_,λ b cs Z=>(L.boxes b cs Z).ends I rfl,L.eE,λ h=>?_,L.env.kept,L.env.cl,L.env.bx,L.env.inj,λ k bF J=>?_,L.env.kb⟩
 ·simp only[da] at hu;split at hu
  ·rename_i l6;subst l6;cases hu;have A:=L.bU _ _ ht;generalize gq a t=v at A;cases A with
   |p A=>have F:=(A.next I).low;obtain⟨am,bS,rfl,O,h4,h5,h6,h7⟩:=rf A;exact .aW F ⟨⟨el,sz,n⟩,am,bS,by simp,rfl,Nat.le_refl _,U,.inl (h6 rfl)⟩
  ·exact(L.bU u d hu).next I
 ·show(if h=g then _ else e.gi h)=_;simp only[da]
  by_cases e1:h=g
  ·subst e1;simp
  ·rw[if_neg e1,if_neg (λ ab=>e1 ab.symm)];exact L.gs h
 ·obtain⟨au,cur,A,F⟩:=L.env.gr k bF J;exact⟨au,cur,by show(if bF=g then _ else e.gi bF)=_;rw[if_neg (λ ab=>qV k (by rw[<-ab];exact J))];exact A,F⟩
def K.ok(B au:Nat->Bool):K->Bool
 |.agg ds=>eR ds
 |.bd ds=>eR ds
 |.ptr b _=>B b
 |.arr b _ _ _=>B b
 |.aW g _ _=>au g
 |.fn _ x y=>eR x&&eR y
 |_=>true
where eR:List K->Bool
 |[]=>true
 |d::ds=>d.ok B au&&eR ds
theorem q7{B au:Nat->Bool}:∀{ds:List K}(_:K.ok.eR B au ds=true){i:Nat}{d:K},ds[i]?=some d->d.ok B au=true
 |[],_,i,d,hi=>by simp at hi
 |d0::ds,h,i,d,hi=>by
  simp only[K.ok.eR,Bool.and_eq_true] at h;cases i with
  |zero=>simp only[List.getElem?_cons_zero,Option.some.injEq] at hi;subst hi;exact h.1
  |succ i=>exact q7 h.2 (by simpa using hi)
def aC.cut(e:aC)(B au:Nat->Bool):aC:=
 {e with bx:=λ b=>if B b=true then e.bx b else none,gr:=λ k=>match e.gr k with|some g=>if au g=true then some g else none|none=>none,gi:=λ g=>if au g=true then e.gi g else none}
theorem dm.cut{e:aC}{B au:Nat->Bool}{v:Value}{x:Pl}(h:dm e v x):dm (e.cut B au) v x:=dm.env (e:=e) (ab:=e.cut B au) rfl rfl h
theorem bz.cut{e:aC}{B au:Nat->Bool}{v:Value}{d:K}(h:bz e v d):d.ok B au=true->bz (e.cut B au) v d:=by
 induction h with
 |p h=>intro _;exact .p h.cut
 |agg U _ ih=>intro J;exact .agg U (λ i v d A F=>ih i v d A F (q7 J F))
 |bd U _ ih=>intro J;exact .bd U (λ i v d A F=>ih i v d A F (q7 J F))
 |ptr h=>intro J;simp only[K.ok] at J;exact .ptr (by simp only[aC.cut,if_pos J];exact h)
 |el h=>intro _;obtain⟨f,hf⟩:=h;exact .el ⟨f,λ i x T=>by obtain⟨A,F,O,h4⟩:=hf i x T;exact⟨A,F,O,h4.cut⟩⟩
 |aW h ht=>intro J;simp only[K.ok] at J;refine .aW h.cut ?_;obtain⟨G0,am,bS,A,F,O,h4,h5⟩:=ht;refine⟨G0,am,bS,by simp only[aC.cut,if_pos J];exact A,F,O,h4,h5.imp id ?_⟩;rintro⟨k,h6,h7,h8⟩;refine⟨k,h6,?_,h8⟩;show(match e.gr k with|some g=>if au g=true then some g else none|none=>none)=_;rw[h7];simp[J]
 |arr h=>intro J;simp only[K.ok] at J;exact .arr (by simp only[aC.cut,if_pos J];exact h)
 |fn U dX _ _ ih EE=>intro J;simp only[K.ok,Bool.and_eq_true] at J;exact .fn U dX (λ i v d A F=>ih i v d A F (q7 J.1 F)) (λ i v d A F=>EE i v d A F (q7 J.2 F))
 |any=>intro _;exact .any
def aI{av:Type}(l:List (Nat×av))(n:Nat):Bool:=(kv l n).isSome
def wG(M bb:St):List (Nat×K)->Prop
 |[]=>True
 |p::l=>(kv M.s p.1=some p.2/\p.2.ok (aI bb.b) (aI bb.g)=true)/\wG M bb l
def wz(M bb:St):List (Nat×List K)->Prop
 |[]=>True
 |p::l=>(kv M.b p.1=some p.2/\K.ok.eR (aI bb.b) (aI bb.g) p.2=true)/\wz M bb l
def wE(M:St):List (Nat×Gr)->Prop
 |[]=>True
 |p::l=>kv M.g p.1=some p.2/\wE M l
theorem wG.get{M bb:St}:∀{l:List (Nat×K)}(_:wG M bb l){t:Nat}{d:K},kv l t=some d->kv M.s t=some d/\d.ok (aI bb.b) (aI bb.g)=true
 |[],_,t,d,h=>by cases h
 |(k,v)::l,hs,t,d,h=>by
  rw[da] at h;split at h
  ·rename_i J;subst J;cases h;exact hs.1
  ·exact hs.2.get h
theorem wz.get{M bb:St}:∀{l:List (Nat×List K)}(_:wz M bb l){t:Nat}{d:List K},kv l t=some d->kv M.b t=some d/\K.ok.eR (aI bb.b) (aI bb.g) d=true
 |[],_,t,d,h=>by cases h
 |(k,v)::l,hs,t,d,h=>by
  rw[da] at h;split at h
  ·rename_i J;subst J;cases h;exact hs.1
  ·exact hs.2.get h
theorem wE.get{M:St}:∀{l:List (Nat×Gr)}(_:wE M l){t:Nat}{d:Gr},kv l t=some d->kv M.g t=some d
 |[],_,t,d,h=>by cases h
 |(k,v)::l,hs,t,d,h=>by
  rw[da] at h;split at h
  ·rename_i J;subst J;cases h;exact hs.1
  ·exact hs.2.get h
def wF(bb:St):List (Nat×Nat)->Prop
 |[]=>True
 |p::l=>aI bb.b p.1=true/\wF bb l
theorem wF.get{bb:St}:∀{l:List (Nat×Nat)}(_:wF bb l){b k:Nat},kv l b=some k->aI bb.b b=true
 |[],_,b,k,h=>by cases h
 |(x,y)::l,hs,b,k,h=>by
  rw[da] at h;split at h
  ·rename_i J;subst J;exact hs.1
  ·exact hs.2.get h
theorem e7(hs:wG M bb bb.s)(Z:wz M bb bb.b)(hg:wE M bb.g)(dV:wF bb Γ.kb):bY Γ M bb:=by
 intro a e L;have fH:∀g,aI bb.g g=true->∃au,e.gi g=some au/\kv bb.g g=some au:=λ g h=>by
  unfold aI at h;obtain⟨au,hG⟩:=Option.isSome_iff_exists.1 h;exact⟨au,by rw[L.gs];exact hg.get hG,hG⟩
 refine⟨e.cut (aI bb.b) (aI bb.g),rfl,L.size,L.df,λ t d ht=>(L.bU t d (hs.get ht).1).cut (hs.get ht).2,λ b cs cR=>?_,λ b iC=>?_,λ g=>?_,L.env.kept,L.env.cl,λ b k J=>?_,λ b c k A F=>?_,λ k g J=>?_,λ b k J=>?_⟩
 ·obtain⟨k,vs,el,A,F,O⟩:=L.boxes b cs (Z.get cR).1;refine⟨k,vs,el,?_,F,O.1,λ i v d hv D=>(O.2 i v d hv D).cut (q7 (Z.get cR).2 D)⟩;show(if aI bb.b b=true then e.bx b else none)=_;rw[if_pos (by simp[aI,cR])];exact A
 ·show(if aI bb.b b=true then e.bx b else none)=_;rw[if_neg (by simp[aI,iC])]
 ·show(if aI bb.g g=true then e.gi g else none)=_;cases U:kv bb.g g with
  |none=>rw[if_neg (by simp[aI,U])]
  |some au=>rw[if_pos (by simp[aI,U]),L.gs];exact hg.get U
 ·have dI:(if aI bb.b b=true then e.bx b else none)=some k:=J;split at dI
  ·obtain⟨A,F,O,h4⟩:=L.env.bx b k dI;refine⟨A,F,O,?_⟩;show(match e.gr k with|some g=>if aI bb.g g=true then some g else none|none=>none)=none;rw[h4]
  ·cases dI
 ·have aU:(if aI bb.b b=true then e.bx b else none)=some k:=A;have bB:(if aI bb.b c=true then e.bx c else none)=some k:=F;split at aU
  ·split at bB
   ·exact L.env.inj b c k aU bB
   ·cases bB
  ·cases aU
 ·have dI:(match e.gr k with|some g=>if aI bb.g g=true then some g else none|none=>none)=some g:=J;rcases je:e.gr k with _|g0
  ·rw[je] at dI;cases dI
  ·rw[je] at dI;simp only at dI;split at dI
   ·rename_i dH;cases dI;obtain⟨au,cur,A,F⟩:=L.env.gr k g je;exact⟨au,cur,by show(if aI bb.g g=true then e.gi g else none)=_;rw[if_pos dH];exact A,F⟩
   ·cases dI
 ·show(if aI bb.b b=true then e.bx b else none)=_;rw[if_pos (dV.get J)];exact L.env.kb b k J
theorem nT{l0 l:List Oper}{Q:Exit->St->Prop}(h:bY Γ M cb)(k:bq P Γ l0 Q l cb):bq P Γ l0 Q l M:=⟨λ a e L=>by
 obtain⟨ab,A,F⟩:=h a e L;rw[<-A];exact k.run a ab F⟩
structure aP(P:Program)(Γ:bN)(c:Code)(Q:Exit->St->Prop)(M:St):Prop where
 run:∀(a:Act)(e:aC),bu Γ M e a->c.wp P (jM Γ Q) a e.w
variable{Q:Exit->St->Prop}{c x y:Code}
theorem ey(h:bY Γ M cb)(k:aP P Γ c Q cb):aP P Γ c Q M:=⟨λ a e L=>by
 obtain⟨ab,A,F⟩:=h a e L;rw[<-A];exact k.run a ab F⟩
theorem wM{js:Exit->St->Prop}(h:aP P Γ c Q M)(hq:∀ex cb,Q ex cb->js ex cb):aP P Γ c js M:=⟨λ a e L=>Code.wp_mono (λ ex bs aM hh=>by obtain⟨cb,ab,A,F,O⟩:=hh;exact⟨cb,ab,A,F,hq _ _ O⟩) (h.run a e L)⟩
def su(aG:St->Prop)(Q:Exit->St->Prop):Exit->St->Prop
 |.normal,M=>aG M
 |ex,M=>Q ex M
theorem qA(h:aP P Γ x (su (aP P Γ y Q) Q) M):aP P Γ (.seq x y) Q M:=⟨λ a e L=>by
 refine wp_seq (Code.wp_mono (λ ex bs aM hh=>?_) (h.run a e L));obtain⟨cb,ab,rfl,F,O⟩:=hh;cases ex with
 |normal=>exact O.run bs ab F
 |_=>exact⟨cb,ab,rfl,F,O⟩⟩
theorem FT(h:Q .normal M):aP P Γ .skip Q M:=⟨λ _ e L=>wp_skip ⟨M,e,rfl,L,h⟩⟩
theorem Ww(h:Q .ret M):aP P Γ .ret Q M:=⟨λ _ e L=>wp_ret ⟨M,e,rfl,L,h⟩⟩
theorem Wp{id:Nat}(h:Q (.exit id) M):aP P Γ (.exit id) Q M:=⟨λ _ e L=>wp_exit ⟨M,e,rfl,L,h⟩⟩
def qB(id:Nat)(Q:Exit->St->Prop):Exit->St->Prop
 |.exit oS,M=>if oS=id then Q .normal M else Q (.exit oS) M
 |ex,M=>Q ex M
theorem Wm{id:Nat}(h:aP P Γ c (qB id Q) M):aP P Γ (.block id c) Q M:=⟨λ a e L=>by
 refine wp_block (Code.wp_mono (λ ex bs aM hh=>?_) (h.run a e L));obtain⟨cb,ab,rfl,F,O⟩:=hh;cases ex with
 |exit oS=>
  simp only[qB] at O;simp only[Exit.inBlock];split
  ·rename_i p7;rw[if_pos p7] at O;exact⟨cb,ab,rfl,F,O⟩
  ·rename_i p7;rw[if_neg p7] at O;exact⟨cb,ab,rfl,F,O⟩
 |_=>exact⟨cb,ab,rfl,F,O⟩⟩
theorem Pv{e:aC}{a:Act}(L:bu Γ M e a){z:Operand}{v:Value}(h:ev (kv M.s) z=some (.p (.raw v))):a.eval z=v:=dh ((L.iP #[z]).1 z (by simp) _ h)
theorem Wn{z:Operand}{t:Bool}(hz:ev (kv M.s) z=some (.p (.raw (.bool t))))(ht:t=true->aP P Γ x Q M)(hf:t=false->aP P Γ y Q M):aP P Γ (.cond z x y) Q M:=⟨λ a e L=>wp_cond_split (Pv L hz) (λ h=>(ht h).run a e L) (λ h=>(hf h).run a e L)⟩
theorem wN{id:Nat}{l:List Oper}(h:bq P Γ l Q l M):aP P Γ (.region id l.toArray false) Q M:=⟨λ a e L=>wp_region_lit (h.run a e L)⟩
theorem Wt{d7:Type}(jK:d7->St)(m5:d7->Nat)(i0:d7)(h0:bY Γ M (jK i0))(Fi:∀i,aP P Γ c (su (λ cb=>∃j,m5 j<m5 i/\bY Γ cb (jK j)) Q) (jK i)):aP P Γ (.loop c) Q M:=by
 refine⟨λ a e L=>?_⟩;obtain⟨e0,A,F⟩:=h0 a e L;rw[<-A];have key:∀n i,m5 i<n->∀a e,bu Γ (jK i) e a->Code.rounds P c (jM Γ Q) n a e.w:=by
  intro n;induction n with
  |zero=>intro i hi;omega
  |succ n ih=>
   intro i hi a e L;rw[rounds_succ];refine Code.wp_mono (λ ex bs aM hh=>?_) ((Fi i).run a e L);obtain⟨cb,ab,rfl,F,O⟩:=hh;cases ex with
   |normal=>obtain⟨j,hj,hg⟩:=O;obtain⟨e2,h4,h5⟩:=hg bs ab F;show Code.rounds P c (jM Γ Q) n bs ab.w;rw[<-h4];exact ih j (by omega) bs e2 h5
   |_=>exact⟨cb,ab,rfl,F,O⟩
 exact wp_loop_rounds (m5 i0+1) (key _ i0 (by omega) a e0 F)
def MH(ap:Nat->Option TI)(M:St):ResultVar->Option K
 |.tmp t=>kv M.s t
 |.cell t ty=>match ap ty,kv M.s t with
  |some i,some (.ptr b o)=>match kv M.b b with
   |some cs=>la o cs (zY i)
   |none=>none
  |_,_=>none
def Fb{av:Type}(ap:Nat->Option TI)(M:St):List ResultVar->(List K->Option av)->Option av
 |[],k=>k []
 |r::l,k=>match MH ap M r with
  |some d=>Fb ap M l λ ds=>k (d::ds)
  |none=>none
def Cx(ap:Nat->Option TI)(M:St)(l:List ResultVar):Option K:=Fb ap M l λ
 |[d]=>d.to some
 |ds=>(K.bd ds).to some
def vd(ds:List K):List (Nat×K):=go 0 ds
where go:Nat->List K->List (Nat×K)
 |_,[]=>[]
 |n,d::ds=>(n,d)::go (n+1) ds
theorem Dt:∀(ds:List K)(n t:Nat)(d:K),kv (vd.go n ds) t=some d->n<=t/\ds[t-n]?=some d
 |[],n,t,d,h=>by cases h
 |c::ds,n,t,d,h=>by
  simp only[vd.go,da] at h;split at h
  ·rename_i hn;subst hn;cases h;simp
  ·rename_i hn;obtain⟨A,F⟩:=Dt ds (n+1) t d h;refine⟨by omega,?_⟩;rw[show t-n=(t-(n+1))+1 by omega]
   simpa using F
theorem Sr{P:Program}{w:World}{av ei:Type}(f:av->Sem ei)(g:av->ei):∀(l:List av),(∀x∈l,(f x).run P w=.ok (g x) w)->(l.mapM f).run P w=.ok (l.map g) w
 |[],_=>by simp
 |x::l,h=>by
  rw[List.mapM_cons];simp only[Sem.run_bind,h x (by simp),Result.andThen_ok,Sr f g l (λ y hy=>h y (by simp[hy])),Sem.run_pure,List.map_cons]
def Fe(tmps:Array Value):ResultVar->Sem Value
 |.tmp t=>pure (tmps.getD t undef)
 |.cell a t=>do loadVar t (<-asAddr (tmps.getD a undef))
theorem Cy(fn:Func)(tmps:Array Value):results fn tmps=(do let vs <-fn.results.mapM (Fe tmps);pure (if h:vs.size=1 then vs[0] else .tuple vs)):=rfl
theorem aer(hT:di P ap){e:aC}{a:Act}(L:bu Γ M e a){r:ResultVar}{d:K}(h:MH ap M r=some d):
 ∃v,(Fe a.tmps r).run P e.w=.ok v e.w/\bz e v d:=by
 cases r with
 |tmp t=>exact⟨gq a t,rfl,L.bU t d h⟩
 |cell t ty=>
  simp only[MH] at h;split at h
  ·rename_i i b o hi hp;split at h
   ·rename_i cs cR;obtain⟨k,vs,el,F,O,h4⟩:=L.boxes b cs cR;have A:=L.bU t _ hp;generalize dG:gq a t=vx at A;cases A with
    |ptr A=>
     rw[F] at A;cases A;obtain⟨v,hr,hv⟩:=LO hT hi (k:=k) (o:=o) (us:=vs.drop o) (λ j v hj=>by
      rw[List.getElem?_drop] at hj;rw[cell_of_row e.w k (o+j) vs.toArray el (0,0) O]
      simpa using hj) (h4.drop o) (nY h).2
     refine⟨v,?_,hv⟩;unfold gq at dG;simp only[Fe,dG]
     simpa[asAddr,Instr.loadAt,Instr.sureAddr] using hr
   ·cases h
  ·cases h
theorem MI{av:Type}(hT:di P ap){e:aC}{a:Act}(L:bu Γ M e a):∀(l:List ResultVar)(k:List K->Option av)(r:av),Fb ap M l k=some r->∃ds vs,(l.mapM (Fe a.tmps)).run P e.w=.ok vs e.w/\DReps e vs ds/\k ds=some r
 |[],k,r,h=>⟨[],[],by simp,DReps.nil e,h⟩
 |q::l,k,r,h=>by
  simp only[Fb] at h;split at h
  ·rename_i d A;obtain⟨v,hv,D⟩:=aer hT L A;obtain⟨ds,vs,oR,n4,J⟩:=MI hT L l _ r h;refine⟨d::ds,v::vs,?_,DReps.cons D n4,J⟩;rw[List.mapM_cons];simp only[Sem.run_bind,hv,oR,Result.andThen_ok,Sem.run_pure]
  ·cases h
theorem aes(hT:di P ap){fn:Func}{e:aC}{a:Act}(L:bu Γ M e a){d:K}(h:Cx ap M fn.results.toList=some d):∃v,(results fn a.tmps).run P e.w=.ok v e.w/\bz (hb e.w e.cl) v d:=by
 unfold Cx at h;obtain⟨ds,vs,oR,n4,h⟩:=MI hT L _ _ d h;split at h
 ·rename_i d0;obtain⟨v,eY,rfl,hv,hn⟩:=n4.yd;have:eY=[]:=List.eq_nil_of_length_eq_zero hn.1;subst this;simp only[HJ,Option.bind_fun_some] at h;refine⟨v,?_,HK hv d h⟩;rw[Cy,Array.mapM_eq_mapM_toList];simp only[bind_map_left,Sem.run_bind,oR,Result.andThen_ok,Sem.run_pure];simp
 ·rename_i b9;simp only[HJ,Option.bind_fun_some] at h;refine⟨.tuple vs.toArray,?_,HK (.bd n4.1 n4.2) d h⟩;rw[Cy,Array.mapM_eq_mapM_toList];simp only[bind_map_left,Sem.run_bind,oR,Result.andThen_ok,Sem.run_pure];rw[dif_neg];intro hs;have U:ds.length=1:=by rw[<-n4.1];simpa using hs
  obtain⟨d1,rfl⟩:=List.length_eq_one_iff.1 U;exact b9 d1 rfl
theorem adI(hT:di P ap){f:FuncId}{fn:Func}{c:Code}{ds:List K}{d:K}(hf:P.funcs[f]?=some fn)(Z:fn.body=some c)(hn:ds.length<=fn.ntmps)
 (h:∀w cl,aP P ⟨fn.ntmps,w,cl,λ _=>False,[],[]⟩ c (λ ex M=>(ex=.normal\/ex=.ret)/\Cx ap M fn.results.toList=some d) ⟨vd ds,[],[]⟩):bc P f ds d:=by
 intro w cl vs hv;refine calls_of_wp hf Z ?_;have U:vs.length=ds.length:=hv.1;have L:bu ⟨fn.ntmps,w,cl,λ _=>False,[],[]⟩ ⟨vd ds,[],[]⟩ (hb w cl) {tmps:=vs.toArray++Array.replicate (fn.ntmps-vs.toArray.size) undef,defers:=[]}:=by
  refine⟨by simp;omega,rfl,λ t d0 ht=>?_,λ b cs Z=>(by cases Z),λ b _=>rfl,λ g=>rfl,⟨oz.refl _ _,λ _ _ _=>rfl,λ b k J=>(by cases J),λ b c k J=>(by cases J),λ k g J=>(by cases J),λ b k J=>(by cases J)⟩⟩;obtain⟨_,F⟩:=Dt ds 0 t d0 ht;simp only[Nat.sub_zero] at F;obtain⟨v,O,h4⟩:=hv.get F;have gV:t<vs.length:=(List.getElem?_eq_some_iff.1 O).1;have:gq {tmps:=vs.toArray++Array.replicate (fn.ntmps-vs.toArray.size) undef,defers:=[]} t=v:=by
   unfold gq;simp only[Array.getD_eq_getD_getElem?];rw[Array.getElem?_append_left (by simpa using gV),List.getElem?_toArray,O]
   rfl
  rw[this];exact h4
 refine Code.wp_mono (λ ex bs aM hh=>?_) ((h w cl).run _ (hb w cl) L);obtain⟨cb,ab,rfl,F,O,h4⟩:=hh;obtain⟨v,hr,hv⟩:=aes hT F h4;have Kk:Below w.heap.size w ab.w:=⟨F.env.kept.os,F.env.kept.tape,F.env.kept.output,F.env.kept.size,λ k J=>F.env.kept.block k J (λ h=>h)⟩;have lh:bs.defers=[]/\∃v,(results fn bs.tmps).run P ab.w=.ok v ab.w/\∃ij bv,Ending.returned v=.returned ij/\Below w.heap.size w ab.w/\(∀k,k<w.heap.size->bv k=cl k)/\bz (hb ab.w bv) ij d:=
  ⟨F.df,v,hr,v,ab.cl,rfl,Kk,λ k J=>F.env.cl k J (λ h=>h),hv⟩
 rcases O with rfl|rfl
 ·exact lh
 ·exact lh
end
end Go.Proofs.YtcnefjfboagbmaaGreat
end
section
namespace Go.Proofs.YtcnefjfboagbmaaGreat
open Go.RowKit
section
variable{P:Program}{Γ:bN}
structure I6(Γ:bN)(e ab:aC)(b:Nat)(cs:List K):Prop where
 ends:Ends e ab
 ok:h2 Γ ab
 bx:ab.bx=e.bx
 gi:ab.gi=e.gi
 at_:h1 ab b cs
 other:∀c ds,c≠b->h1 e c ds->h1 ab c ds
def I1(P:Program)(o:Oper)(S:Nat->Option K)(nm:Nat)(cs aS:List K):Prop:=
 ∀(Γ:bN)(a:Act)(e:aC),h2 Γ e->(∀x∈o.op.operands,∀d,ev S x=some d->bz e (a.eval x) d)->(e.bx nm≠none->h1 e nm cs)->
  e.bx nm≠none/\o.wp P a e.w (λ bs aM=>bs=a.put o.dst undef/\∃ab,ab.w=aM/\I6 Γ e ab nm aS) (λ _ _ _=>False)
structure IN(Γ:bN)(e ab:aC)(g:Nat)(au:Gr)(v:Value)(d:K):Prop where
 ends:Ends e ab
 ok:h2 Γ ab
 bx:ab.bx=e.bx
 gi:∀h,ab.gi h=if h=g then some au else e.gi h
 other:∀c ds,h1 e c ds->h1 ab c ds
 rep:bz ab v d
def GStep(P:Program)(o:Oper)(S:Nat->Option K)(g:Nat)(G0:Option Gr)(au:Gr)(d:K):Prop:=
 ∀(Γ:bN)(a:Act)(e:aC),h2 Γ e->(∀x∈o.op.operands,∀d,ev S x=some d->bz e (a.eval x) d)->e.gi g=G0->
  o.wp P a e.w (λ bs aM=>∃v ab,bs=a.put o.dst v/\ab.w=aM/\IN Γ e ab g au v d) (λ _ _ _=>False)
def EM(o:Oper)(aE:List (Nat×Nat))(g:Nat):Bool:=match kv aE g with
 |none=>true
 |some t=>o.op.operands.toList.any λ|.tmp u=>Nat.beq u t|_=>false
def Bd(l0:List Oper)(o:Oper):Bool:=match o.dst with
 |none=>false
 |some t=>l0.all λ p=>match p.dst with
  |some _=>true
  |none=>p.after.any λ e=>Region.binds .any e&&(match(l0[e.on]?).bind (·.dst) with|some u=>Nat.beq u t|none=>false)
def uY(o:Oper):Bool:=match o.op with
 |.call _=>true
 |_=>false
def EI(l0:List Oper)(o:Oper)(ix:Nat):Bool:=(List.range ix).all λ k=>match l0[k]? with
 |some p=>p.dst.isSome||o.after.any λ e=>Region.binds .any e&&e.on==k
 |none=>true
theorem RY{l0:List Oper}{o p:Oper}{ix k:Nat}(h:EI l0 o ix=true)(J:k<ix)(hp:l0[k]?=some p)(D:p.dst=none):∃e∈o.after,Region.binds .any e=true/\e.on=k:=by have A:=List.all_eq_true.1 h k (List.mem_range.2 J);simp only[hp,D,Option.isSome_none,Bool.false_or] at A;obtain⟨e,he,Z⟩:=Array.any_eq_true'.1 A;simp only[Bool.and_eq_true,beq_iff_eq] at Z;exact⟨e,he,Z⟩
def cJ(P:Program)(n:Nat)(l0:List Oper)(B B0:List (Nat×List K))(aG:St->Prop):Nat->List Nat->List (Nat×Nat)->List Oper->St->Prop
 |_,_,_,[],M=>aG M
 |ix,ay,aE,o::rest,M=>(∃d nb,gd l0 o (kv M.s)=some true/\(dN P o (kv M.s) (kv B) d nb\/(Bd l0 o=true/\dN P o (kv M.s) (kv B0) d nb))/\(∀p,nb=some p->kv M.b p.1=none/\kv B p.1=none)/\cJ P n l0 B B0 aG (ix+1) ay aE rest ((M.box nb).put o.dst d))\/(gd l0 o (kv M.s)=some false/\cJ P n l0 B B0 aG (ix+1) ay aE rest (M.put o.dst (.p (.raw undef))))\/
  (∃nm cs aS,gd l0 o (kv M.s)=some true/\o.dst=none/\kv B nm=none/\(ay.contains nm=false\/EI l0 o ix=true)/\kv M.b nm=some cs/\I1 P o (kv M.s) nm cs aS/\cJ P n l0 B B0 aG (ix+1) (nm::ay) aE rest (M.box (some (nm,aS))))\/
  (∃g au d t,gd l0 o (kv M.s)=some true/\o.dst=some t/\uY o=true/\EM o aE g=true/\GStep P o (kv M.s) g (kv M.g g) au d/\cJ P n l0 B B0 aG (ix+1) ay ((g,t)::aE) rest ((M.Fo g au).put o.dst d))
def ed(l:List Oper)(aA:Nat->K)(S:Nat->Option K):Nat->Nat->Option K
 |0=>S
 |i+1=>λ t=>if(l[i]?).bind (·.dst)=some t then some (aA i) else ed l aA S i t
def uP(nb:Option (Nat×List K))(B:Nat->Option (List K)):Nat->Option (List K):=λ b=>match nb with
 |some p=>if p.1=b then some p.2 else B b
 |none=>B b
def dM(N:Nat->Option (Nat×List K))(B:Nat->Option (List K)):Nat->Nat->Option (List K)
 |0=>B
 |i+1=>uP (N i) (dM N B i)
def AI(m:Option (Nat×Gr))(au:Nat->Option Gr):Nat->Option Gr:=λ h=>match m with
 |some p=>if p.1=h then some p.2 else au h
 |none=>au h
def eH(ak:Nat->Option (Nat×Gr))(au:Nat->Option Gr):Nat->Nat->Option Gr
 |0=>au
 |i+1=>AI (ak i) (eH ak au i)
def u6(m:Option (Nat×Gr))(t:Option Nat)(aE:List (Nat×Nat)):List (Nat×Nat):=match m with
 |some p=>match t with
  |some u=>(p.1,u)::aE
  |none=>aE
 |none=>aE
def fW(l:List Oper)(ak:Nat->Option (Nat×Gr))(aE:List (Nat×Nat)):Nat->List (Nat×Nat)
 |0=>aE
 |i+1=>u6 (ak i) ((l[i]?).bind (·.dst)) (fW l ak aE i)
theorem Np(m:Option (Nat×Gr))(ak:Nat->Option (Nat×Gr))(au:Nat->Option Gr):∀i,eH (λ j=>if j=0 then m else ak (j-1)) au (i+1)=eH ak (AI m au) i
 |0=>by simp[eH]
 |i+1=>by
  rw[eH,Np m ak au i,eH];simp
theorem Uy(o:Oper)(l:List Oper)(m:Option (Nat×Gr))(ak:Nat->Option (Nat×Gr))(aE:List (Nat×Nat)):∀i,fW (o::l) (λ j=>if j=0 then m else ak (j-1)) aE (i+1)=fW l ak (u6 m o.dst aE) i
 |0=>by simp[fW]
 |i+1=>by
  rw[fW,Uy o l m ak aE i,fW];simp
def ET(p:Option (Nat×List K))(ay:List Nat):List Nat:=match p with
 |some q=>q.1::ay
 |none=>ay
def fR(bP:Nat->Bool)(N:Nat->Option (Nat×List K))(ay:List Nat):Nat->List Nat
 |0=>ay
 |i+1=>bif bP i then ET (N i) (fR bP N ay i) else fR bP N ay i
def tJ(P:Program)(l0:List Oper)(ix:Nat)(B B0:Nat->Option (List K))(S:Nat->Option K)(Bi:Nat->Option (List K))(Gi:Nat->Option Gr)(ay:List Nat)(aE:List (Nat×Nat))(o:Oper)(d:K)(nb:Option (Nat×List K))(u:Bool)(m:Option (Nat×Gr)):Prop:=
 (gd l0 o S=some true/\(dN P o S B d nb\/(Bd l0 o=true/\dN P o S B0 d nb))/\(∀p,nb=some p->Bi p.1=none/\B p.1=none)/\u=false/\m=none)\/(gd l0 o S=some false/\d=.p (.raw undef)/\nb=none/\u=false/\m=none)\/
 (∃nm cs aS,gd l0 o S=some true/\o.dst=none/\B nm=none/\(ay.contains nm=false\/EI l0 o ix=true)/\Bi nm=some cs/\I1 P o S nm cs aS/\d=.any/\nb=some (nm,aS)/\u=true/\m=none)\/
 (∃g au t,gd l0 o S=some true/\o.dst=some t/\uY o=true/\EM o aE g=true/\GStep P o S g (Gi g) au d/\nb=none/\u=false/\m=some (g,au))
theorem Us(u:Bool)(nb:Option (Nat×List K))(bP:Nat->Bool)(N:Nat->Option (Nat×List K))(ay:List Nat):∀i,fR (λ j=>if j=0 then u else bP (j-1)) (λ j=>if j=0 then nb else N (j-1)) ay (i+1)=fR bP N (bif u then ET nb ay else ay) i
 |0=>by simp[fR]
 |i+1=>by
  rw[fR,Us u nb bP N ay i,fR];simp
theorem Nt(o:Oper)(l:List Oper)(d:K)(aA:Nat->K)(S:Nat->Option K):∀i,ed (o::l) (λ j=>if j=0 then d else aA (j-1)) S (i+1)=ed l aA (λ t=>if o.dst=some t then some d else S t) i
 |0=>by funext t;simp[ed]
 |i+1=>by
  rw[ed,Nt o l d aA S i,ed];simp
theorem Nh(nb:Option (Nat×List K))(N:Nat->Option (Nat×List K))(B:Nat->Option (List K)):∀i,dM (λ j=>if j=0 then nb else N (j-1)) B (i+1)=dM N (uP nb B) i
 |0=>by funext t;simp[dM]
 |i+1=>by
  rw[dM,Nh nb N B i,dM];simp
theorem abw(M:St)(dst:Option Nat)(d:K):kv (M.put dst d).s=λ t=>if dst=some t then some d else kv M.s t:=by
 funext t
 cases dst with
 |none=>simp[St.put]
 |some u=>simp[St.put,da]
theorem abu(M:St)(nb:Option (Nat×List K)):kv (M.box nb).b=uP nb (kv M.b):=by
 funext b
 cases nb with
 |none=>rfl
 |some p=>obtain⟨x,y⟩:=p;simp[St.box,da,uP]
theorem WI(M:St)(nb:Option (Nat×List K)):(M.box nb).s=M.s:=by cases nb<;>rfl
theorem adN(M:St)(dst:Option Nat)(d:K):(M.put dst d).b=M.b:=by cases dst<;>rfl
theorem adO(M:St)(dst:Option Nat)(d:K):(M.put dst d).g=M.g:=by cases dst<;>rfl
theorem WH(M:St)(nb:Option (Nat×List K)):(M.box nb).g=M.g:=by cases nb<;>rfl
def St.grow(M:St):Option (Nat×Gr)->St
 |some p=>M.Fo p.1 p.2
 |none=>M
theorem abv(M:St)(m:Option (Nat×Gr)):kv (M.grow m).g=AI m (kv M.g):=by
 funext h
 cases m with
 |none=>rfl
 |some p=>obtain⟨x,y⟩:=p;simp[St.grow,St.Fo,da,AI]
theorem X5(M:St)(m:Option (Nat×Gr)):(M.grow m).s=M.s:=by cases m<;>rfl
theorem X4(M:St)(m:Option (Nat×Gr)):(M.grow m).b=M.b:=by cases m<;>rfl
theorem cJ.extract{n:Nat}{l0:List Oper}{B B0:List (Nat×List K)}{aG:St->Prop}:∀(l:List Oper)(ix:Nat)(ay:List Nat)(aE:List (Nat×Nat))(M:St),cJ P n l0 B B0 aG ix ay aE l M->
 ∃(aA:Nat->K)(N:Nat->Option (Nat×List K))(bP:Nat->Bool)(ak:Nat->Option (Nat×Gr))(kc:St),aG kc/\kv kc.g=eH ak (kv M.g) l.length/\kv kc.s=ed l aA (kv M.s) l.length/\kv kc.b=dM N (kv M.b) l.length/\
  ∀i o,l[i]?=some o->tJ P l0 (ix+i) (kv B) (kv B0) (ed l aA (kv M.s) i) (dM N (kv M.b) i) (eH ak (kv M.g) i) (fR bP N ay i) (fW l ak aE i) o (aA i) (N i) (bP i) (ak i)
 |[],ix,ay,aE,M,h=>⟨λ _=>.any,λ _=>none,λ _=>false,λ _=>none,M,h,rfl,rfl,rfl,λ i o hi=>by simp at hi⟩
 |o::l,ix,ay,aE,M,h=>by
  have key:∀(d:K)(nb:Option (Nat×List K))(u:Bool)(m:Option (Nat×Gr)),tJ P l0 ix (kv B) (kv B0) (kv M.s) (kv M.b) (kv M.g) ay aE o d nb u m->cJ P n l0 B B0 aG (ix+1) (bif u then ET nb ay else ay) (u6 m o.dst aE) l (((M.box nb).grow m).put o.dst d)->∃(aA:Nat->K)(N:Nat->Option (Nat×List K))(bP:Nat->Bool)(ak:Nat->Option (Nat×Gr))(kc:St),aG kc/\kv kc.g=eH ak (kv M.g) (o::l).length/\kv kc.s=ed (o::l) aA (kv M.s) (o::l).length/\kv kc.b=dM N (kv M.b) (o::l).length/\
   ∀i o',(o::l)[i]?=some o'->tJ P l0 (ix+i) (kv B) (kv B0) (ed (o::l) aA (kv M.s) i) (dM N (kv M.b) i) (eH ak (kv M.g) i) (fR bP N ay i) (fW (o::l) ak aE i) o' (aA i) (N i) (bP i) (ak i):=by
   intro d nb u m U hr;obtain⟨aA,N,bP,ak,kc,A,F,O,h4,h5⟩:=cJ.extract l _ _ _ _ hr;have es:kv (((M.box nb).grow m).put o.dst d).s=λ t=>if o.dst=some t then some d else kv M.s t:=by rw[abw,X5,WI]
   have eb:kv (((M.box nb).grow m).put o.dst d).b=uP nb (kv M.b):=by rw[adN,X4,abu]
   have eg:kv (((M.box nb).grow m).put o.dst d).g=AI m (kv M.g):=by rw[adO,abv,WH]
   refine⟨λ j=>if j=0 then d else aA (j-1),λ j=>if j=0 then nb else N (j-1),λ j=>if j=0 then u else bP (j-1),λ j=>if j=0 then m else ak (j-1),kc,A,?_,?_,?_,λ i o' hi=>?_⟩
   ·rw[List.length_cons,Np,<-eg];exact F
   ·rw[List.length_cons,Nt,<-es];exact O
   ·rw[List.length_cons,Nh,<-eb];exact h4
   ·cases i with
    |zero=>simp only[List.getElem?_cons_zero,Option.some.injEq] at hi;subst hi;exact U
    |succ i=>
     have:=h5 i o' (by simpa using hi);rw[show ix+1+i=ix+(i+1) by omega] at this;rw[Nt,Nh,Np,Us,Uy,<-es,<-eb,<-eg]
     simpa using this
  rcases h with⟨d,nb,hg,hq,hf,hr⟩|⟨hg,hr⟩|⟨nm,cs,aS,hg,D,Z,hD,L,hs,hr⟩|⟨g,au,d,t,hg,D,ea,hL,hs,hr⟩
  ·exact key d nb false none (.inl ⟨hg,hq,hf,rfl,rfl⟩) hr
  ·exact key (.p (.raw undef)) none false none (.inr (.inl ⟨hg,rfl,rfl,rfl,rfl⟩)) (by simpa[St.box,St.grow,u6] using hr)
  ·exact key .any (some (nm,aS)) true none (.inr (.inr (.inl ⟨nm,cs,aS,hg,D,Z,hD,L,hs,rfl,rfl,rfl,rfl⟩))) (by rw[D];exact hr)
  ·exact key d none false (some (g,au)) (.inr (.inr (.inr ⟨g,au,t,hg,D,ea,hL,hs,rfl,rfl,rfl⟩))) (by rw[D] at hr⊢;exact hr)
theorem Is{ops:Array Oper}{n:Nat}(aT:pO ops n){aA:Nat->K}{S:Nat->Option K}{j:Nat}{oj:Oper}{t:Tmp}(hj:ops[j]?=some oj)(ht:oj.dst=some t):∀i,j<i->ed ops.toList aA S i t=some (aA j)
 |0,h=>by omega
 |i+1,h=>by
  by_cases hd:j=i
  ·subst hd;simp[ed,hj,ht]
  ·simp only[ed];rw[if_neg,Is aT hj ht i (by omega)];intro he;rcases ho:ops[i]? with _|oi
   ·simp[ho] at he
   ·exact aT.ne j i oj oi t hj ho hd ht (by simpa[ho] using he)
theorem It{ops:Array Oper}{aA:Nat->K}{S:Nat->Option K}{t:Tmp}:∀i,(∀j oj,j<i->ops[j]?=some oj->oj.dst≠some t)->ed ops.toList aA S i t=S t
 |0,_=>rfl
 |i+1,h=>by
  simp only[ed];rw[if_neg,It i λ j oj hj=>h j oj (by omega)];intro he;rcases ho:ops[i]? with _|oi
  ·simp[ho] at he
  ·exact h i oi (by omega) ho (by simpa[ho] using he)
theorem rp{N:Nat->Option (Nat×List K)}{B:Nat->Option (List K)}{b:Nat}:∀i,dM N B i b=none->B b=none/\∀j p,j<i->N j=some p->p.1≠b
 |0,h=>⟨h,λ j p hj=>by omega⟩
 |i+1,h=>by
  simp only[dM,uP] at h;have step:dM N B i b=none/\∀p,N i=some p->p.1≠b:=by
   split at h
   ·rename_i p hp;split at h
    ·cases h
    ·rename_i b9;exact⟨h,λ q hq=>by rw[hp] at hq;cases hq;exact b9⟩
   ·rename_i hp;exact⟨h,λ q hq=>by rw[hp] at hq;cases hq⟩
  obtain⟨A,F⟩:=rp i step.1;refine⟨A,λ j p hj hp=>?_⟩
  by_cases e:j=i
  ·subst e;exact step.2 p hp
  ·exact F j p (by omega) hp
theorem Iq{N:Nat->Option (Nat×List K)}{B:Nat->Option (List K)}{b:Nat}{cs:List K}:∀i,dM N B i b=some cs->(B b=some cs/\∀j p,j<i->N j=some p->p.1≠b)\/∃j,j<i/\N j=some (b,cs)/\∀k p,j<k->k<i->N k=some p->p.1≠b
 |0,h=>.inl ⟨h,λ j p hj=>by omega⟩
 |i+1,h=>by
  simp only[dM,uP] at h;have ext:(∀p,N i=some p->p.1≠b)->dM N B i b=some cs->(B b=some cs/\∀j p,j<i+1->N j=some p->p.1≠b)\/∃j,j<i+1/\N j=some (b,cs)/\∀k p,j<k->k<i+1->N k=some p->p.1≠b:=by
   intro hn h;rcases Iq i h with⟨A,F⟩|⟨j,hj,hq,F⟩
   ·refine .inl ⟨A,λ j p hj hp=>?_⟩
    by_cases e:j=i
    ·subst e;exact hn p hp
    ·exact F j p (by omega) hp
   ·refine .inr ⟨j,by omega,hq,λ k p J mO hp=>?_⟩
    by_cases e:k=i
    ·subst e;exact hn p hp
    ·exact F k p J (by omega) hp
  split at h
  ·rename_i p hp;split at h
   ·rename_i he;cases h;refine .inr ⟨i,by omega,by rw[hp,<-he],λ k p J mO=>by omega⟩
   ·rename_i b9;exact ext (λ q hq=>by rw[hp] at hq;cases hq;exact b9) h
  ·rename_i hp;exact ext (λ q hq=>by rw[hp] at hq;cases hq) h
theorem Nm{bP:Nat->Bool}{N:Nat->Option (Nat×List K)}{ay:List Nat}:∀{i j:Nat}{p:Nat×List K},j<i->bP j=true->N j=some p->p.1∈fR bP N ay i
 |0,j,p,h,_,_=>by omega
 |i+1,j,p,h,hu,hp=>by
  by_cases e:j=i
  ·subst e;simp[fR,hu,hp,ET]
  ·have:=Nm (ay:=ay) (i:=i) (j:=j) (p:=p) (by omega) hu hp;rw[fR];cases bP i
   ·exact this
   ·cases N i with
    |none=>exact this
    |some q=>exact List.mem_cons_of_mem _ this
theorem Fu{ak:Nat->Option (Nat×Gr)}{au:Nat->Option Gr}{h:Nat}:∀i,(eH ak au i h=au h/\∀j p,j<i->ak j=some p->p.1≠h)\/∃j Gj,j<i/\ak j=some (h,Gj)/\eH ak au i h=some Gj/\∀k p,j<k->k<i->ak k=some p->p.1≠h
 |0=>.inl ⟨rfl,λ j p hj=>by omega⟩
 |i+1=>by
  have ext:(∀p,ak i=some p->p.1≠h)->eH ak au (i+1) h=eH ak au i h:=by
   intro hn;simp only[eH,AI];cases hm:ak i with
   |none=>rfl
   |some p=>simp only;rw[if_neg (hn p hm)]
  by_cases hn:∀p,ak i=some p->p.1≠h
  ·rw[ext hn];rcases Fu (ak:=ak) (au:=au) (h:=h) i with⟨A,F⟩|⟨j,Gj,hj,hm,hs,F⟩
   ·refine .inl ⟨A,λ j p hj hp=>?_⟩
    by_cases e:j=i
    ·subst e;exact hn p hp
    ·exact F j p (by omega) hp
   ·refine .inr ⟨j,Gj,by omega,hm,hs,λ k p J mO hp=>?_⟩
    by_cases e:k=i
    ·subst e;exact hn p hp
    ·exact F k p J (by omega) hp
  ·obtain⟨p,hp,he⟩:∃p,ak i=some p/\p.1=h:=by
    refine Classical.byContradiction λ L=>hn λ p hp he=>L ⟨p,hp,he⟩
   refine .inr ⟨i,p.2,by omega,by rw[hp,<-he],by simp[eH,AI,hp,he],λ k p J mO=>by omega⟩
theorem Ux{l:List Oper}{ak:Nat->Option (Nat×Gr)}{h:Nat}:∀{i j:Nat}{p:Nat×Gr}{t:Nat},j<i->ak j=some p->p.1=h->(l[j]?).bind (·.dst)=some t->(∀k q,j<k->k<i->ak k=some q->q.1≠h)->kv (fW l ak [] i) h=some t
 |0,j,p,t,hj,_,_,_,_=>by omega
 |i+1,j,p,t,hj,hp,hh,ht,hn=>by
  by_cases e:j=i
  ·subst e;simp[fW,u6,hp,ht,da,hh]
  ·have ih:=Ux (l:=l) (ak:=ak) (h:=h) (i:=i) (j:=j) (p:=p) (t:=t) (by omega) hp hh ht (λ k q J mO hq=>hn k q J (by omega) hq);simp only[fW];cases hm:ak i with
   |none=>simpa[u6] using ih
   |some q=>
    have b9:=hn i q (by omega) (by omega) hm;cases D:(l[i]?).bind (·.dst) with
    |none=>simpa[u6] using ih
    |some u=>simp only[u6,da];rw[if_neg b9];exact ih
structure lv(Γ:bN)(M:St)(ops:Array Oper)(aA:Nat->K)(N:Nat->Option (Nat×List K))(bP:Nat->Bool)(ak:Nat->Option (Nat×Gr))(a0:Act)(aJ:Array Bool)(e:aC)(a:Act):Prop where
 l8:aJ.size=ops.size
 size:a.tmps.size=Γ.n
 df:a.defers=Γ.dz
 closed:∀(i:Nat)(o:Oper),ops[i]?=some o->aJ.getD i false=true->∀x∈o.after,Region.binds .any x=true->aJ.getD x.on false=true
 vV:∀(i:Nat)(o:Oper)(t:Tmp),ops[i]?=some o->aJ.getD i false=true->o.dst=some t->bz e (gq a t) (aA i)
 kept:∀t,(∀(i:Nat)(o:Oper),ops[i]?=some o->aJ.getD i false=true->o.dst≠some t)->gq a t=gq a0 t
 bU:∀t d,kv M.s t=some d->bz e (gq a0 t) d
 boxes:∀b cs,kv M.b b=some cs->(∀i p,aJ.getD i false=true->N i=some p->p.1≠b)->h1 e b cs
 news:∀i p,aJ.getD i false=true->N i=some p->(∀k q,i<k->aJ.getD k false=true->N k=some q->q.1≠p.1)->h1 e p.1 p.2
 eE:∀b,kv M.b b=none->(∀i p,aJ.getD i false=true->bP i=false->N i=some p->p.1≠b)->e.bx b=none
 gs:∀g,(∀i p,aJ.getD i false=true->ak i=some p->p.1≠g)->e.gi g=kv M.g g
 gw:∀i p,aJ.getD i false=true->ak i=some p->(∀k q,i<k->aJ.getD k false=true->ak k=some q->q.1≠p.1)->e.gi p.1=some p.2
 env:h2 Γ e
theorem pa.ends{e ab:aC}{v:Value}{d:K}{nb:Option (Nat×List K)}(h:pa e ab v d nb)(hf:∀p,nb=some p->e.bx p.1=none):Ends e ab:=by
 cases nb with
 |none=>exact h.1.ends
 |some p=>obtain⟨e1,k,hg,A,F,O,rfl,h5,h6⟩:=h;exact hg.ends.trans (tE (by rw[hg.bx];exact hf _ rfl))
theorem pa.rep{e ab:aC}{v:Value}{d:K}{nb:Option (Nat×List K)}(h:pa e ab v d nb):bz ab v d:=by
 cases nb with
 |none=>exact h.2
 |some p=>obtain⟨e1,k,hg,A,F,O,rfl,h5,h6⟩:=h;exact h6
theorem pa.box{e ab:aC}{v:Value}{d:K}{nb:Option (Nat×List K)}(h:pa e ab v d nb)(hf:∀p,nb=some p->e.bx p.1=none){b:Nat}{cs:List K}(Z:h1 e b cs):h1 ab b cs:=by
 cases nb with
 |none=>exact h.1.box Z
 |some p=>obtain⟨e1,k,hg,A,F,O,rfl,h5,h6⟩:=h;exact(hg.box Z).ends (tE (by rw[hg.bx];exact hf _ rfl)) rfl
theorem pa.pU{e ab:aC}{v:Value}{d:K}{nb:Option (Nat×List K)}(h:pa e ab v d nb)(aT:h2 Γ e)(hf:∀p,nb=some p->e.bx p.1=none):h2 Γ ab/\(∀g,ab.gi g=e.gi g)/\(∀b,(∀p,nb=some p->p.1≠b)->ab.bx b=e.bx b):=by
 cases nb with
 |none=>exact⟨h.1.ok aT,λ g=>by rw[h.1.gi],λ b _=>by rw[h.1.bx]⟩
 |some p=>
  obtain⟨e1,k,hg,A,F,O,rfl,h5,h6⟩:=h;have vF:=hg.ok aT;have hc:e1.gr k=none:=by
   rw[hg.gr];rcases je:e.gr k with _|g
   ·rfl
   ·obtain⟨_,_,_,bm,_⟩:=aT.gr k g je;omega
  have dC:∀c,e1.bx c≠some k:=λ c vm=>by
   rw[hg.bx] at vm;have:=(aT.bx c k vm).1;omega
  refine⟨⟨vF.kept,vF.cl,λ c j hj=>?_,λ c cg j h4 vh=>?_,vF.gr,λ c j hj=>(tE (by rw[hg.bx];exact hf p rfl)).bx c j (vF.kb c j hj)⟩,λ g=>by show e1.gi g=_;rw[hg.gi],λ b Z=>?_⟩
  ·have fI:(if c=p.1 then some k else e1.bx c)=some j:=hj;split at fI
   ·cases fI;exact⟨F,.inl (Nat.le_trans aT.kept.size A),O,hc⟩
   ·exact vF.bx c j fI
  ·have aU:(if c=p.1 then some k else e1.bx c)=some j:=h4;have bB:(if cg=p.1 then some k else e1.bx cg)=some j:=vh
   by_cases Gm:c=p.1<;>by_cases e2:cg=p.1
   ·rw[Gm,e2]
   ·rw[if_pos Gm] at aU;rw[if_neg e2] at bB;cases aU;exact absurd bB (dC cg)
   ·rw[if_neg Gm] at aU;rw[if_pos e2] at bB;cases bB;exact absurd aU (dC c)
   ·rw[if_neg Gm] at aU;rw[if_neg e2] at bB;exact vF.inj c cg j aU bB
  ·show(if b=p.1 then some k else e1.bx b)=_;rw[if_neg (λ ab=>Z p rfl ab.symm),hg.bx]
theorem lv.next{M:St}{ops:Array Oper}(aT:pO ops Γ.n){aA:Nat->K}{N:Nat->Option (Nat×List K)}{bP:Nat->Bool}{ak:Nat->Option (Nat×Gr)}{a0:Act}{aJ:Array Bool}{e ab:aC}{a:Act}(h:lv Γ M ops aA N bP ak a0 aJ e a)
 {i:Nat}{o:Oper}(hi:ops[i]?=some o)(hr:i∈Region.ready .any ops aJ){v:Value}(hq:pa e ab v (aA i) (N i))(hf:∀p,N i=some p->e.bx p.1=none)(hu:bP i=false)(hM:ak i=none):
 lv Γ M ops aA N bP ak a0 (aJ.setIfInBounds i true) ab (a.put o.dst v):=by
 obtain⟨kx,o',hl,dF⟩:=mem_ready.1 hr;rw[hi] at hl;cases hl;obtain⟨kR,dT⟩:=ng kx;have I:=hq.ends hf;obtain⟨c1,c2,c3⟩:=hq.pU h.env hf;have split:∀j,(aJ.setIfInBounds i true).getD j false=true->j=i\/aJ.getD j false=true:=λ j hj=>by
  by_cases e:i=j
  ·exact .inl e.symm
  ·rw[getD_set_ne false e] at hj;exact .inr hj
 have tg:(aJ.setIfInBounds i true).getD i false=true:=by simp[dT]
 refine⟨by simpa using h.l8,by rw[Io];exact h.size,by rw[Gk];exact h.df,λ j oj hj U x T ia=>?_,λ j oj t hj U ht=>?_,λ t ht=>?_,λ t d ht=>(h.bU t d ht).next I,λ b cs Z hn=>hq.box hf (h.boxes b cs Z λ j p U hp=>hn j p (getD_set_true U) hp),λ j p U hp hn=>?_,λ b Z hn=>?_,λ g hn=>by rw[c2];exact h.gs g λ j p U hp=>hn j p (getD_set_true U) hp,λ j p U hp hn=>?_,c1⟩
 ·rcases split j U with rfl|fq
  ·rw[hi] at hj;cases hj;exact getD_set_true (dF x T ia)
  ·exact getD_set_true (h.closed j oj hj fq x T ia)
 ·rcases split j U with rfl|fq
  ·rw[hi] at hj;cases hj;rw[ht,Fs (by rw[h.size];exact aT.lt _ _ _ hi ht)];exact hq.rep
  ·have b9:j≠i:=λ e=>by subst e;rw[kR] at fq;cases fq
   rw[AG (λ e=>aT.ne j i oj o t hj hi b9 ht e)];exact(h.vV j oj t hj fq ht).next I
 ·rw[AG (ht i o hi tg)];exact h.kept t λ j oj hj U=>ht j oj hj (getD_set_true U)
 ·rcases split j U with rfl|fq
  ·rw[hp] at hq;obtain⟨e1,k,hg,A,F,O,rfl,h5,h6⟩:=hq;exact h5
  ·exact hq.box hf (h.news j p fq hp λ k q J dX bg=>hn k q J (getD_set_true dX) bg)
 ·rw[c3 b (λ p hp=>hn i p tg hu hp)];exact h.eE b Z λ j p U zo hp=>hn j p (getD_set_true U) zo hp
 ·rw[c2];rcases split j U with rfl|fq
  ·rw[hM] at hp;cases hp
  ·exact h.gw j p fq hp λ k q J dX bg=>hn k q J (getD_set_true dX) bg
theorem lv.ab5{M:St}{ops:Array Oper}{aA:Nat->K}{N:Nat->Option (Nat×List K)}{bP:Nat->Bool}{ak:Nat->Option (Nat×Gr)}{a0:Act}{aJ:Array Bool}{e ab:aC}{a:Act}(h:lv Γ M ops aA N bP ak a0 aJ e a)
 {i:Nat}{o:Oper}(hi:ops[i]?=some o)(D:o.dst=none)(hr:i∈Region.ready .any ops aJ){nm:Nat}{aS:List K}(hN:N i=some (nm,aS))(hM:ak i=none)(n9:∀j p,aJ.getD j false=true->i<j->N j=some p->p.1≠nm)(hu:I6 Γ e ab nm aS):
 lv Γ M ops aA N bP ak a0 (aJ.setIfInBounds i true) ab a:=by
 obtain⟨kx,o',hl,dF⟩:=mem_ready.1 hr;rw[hi] at hl;cases hl;obtain⟨kR,dT⟩:=ng kx;have split:∀j,(aJ.setIfInBounds i true).getD j false=true->j=i\/aJ.getD j false=true:=λ j hj=>by
  by_cases e:i=j
  ·exact .inl e.symm
  ·rw[getD_set_ne false e] at hj;exact .inr hj
 have tg:(aJ.setIfInBounds i true).getD i false=true:=by simp[dT]
 refine⟨by simpa using h.l8,h.size,h.df,λ j oj hj U x T ia=>?_,λ j oj t hj U ht=>?_,λ t ht=>?_,λ t d ht=>(h.bU t d ht).next hu.ends,λ b cs Z hn=>?_,λ j p U hp hn=>?_,λ b Z hn=>?_,λ g hn=>by rw[hu.gi];exact h.gs g λ j p U hp=>hn j p (getD_set_true U) hp,λ j p U hp hn=>?_,hu.ok⟩
 ·rcases split j U with rfl|fq
  ·rw[hi] at hj;cases hj;exact getD_set_true (dF x T ia)
  ·exact getD_set_true (h.closed j oj hj fq x T ia)
 ·rcases split j U with rfl|fq
  ·rw[hi] at hj;cases hj;rw[D] at ht;cases ht
  ·exact(h.vV j oj t hj fq ht).next hu.ends
 ·exact h.kept t λ j oj hj U=>ht j oj hj (getD_set_true U)
 ·exact hu.other b cs (λ ab=>hn i _ tg hN ab.symm) (h.boxes b cs Z λ j p U hp=>hn j p (getD_set_true U) hp)
 ·rcases split j U with rfl|fq
  ·rw[hN] at hp;cases hp;exact hu.at_
  ·have hd:j≠i:=λ e=>by subst e;rw[kR] at fq;cases fq
   have b9:p.1≠nm:=by
    rcases Nat.lt_or_ge j i with A|A
    ·exact λ ab=>hn i _ A tg hN ab.symm
    ·exact n9 j p fq (by omega) hp
   exact hu.other p.1 p.2 b9 (h.news j p fq hp λ k q J dX bg=>hn k q J (getD_set_true dX) bg)
 ·rw[hu.bx];exact h.eE b Z λ j p U zo hp=>hn j p (getD_set_true U) zo hp
 ·rw[hu.gi];rcases split j U with rfl|fq
  ·rw[hM] at hp;cases hp
  ·exact h.gw j p fq hp λ k q J dX bg=>hn k q J (getD_set_true dX) bg
theorem lv.ab4{M:St}{ops:Array Oper}(aT:pO ops Γ.n){aA:Nat->K}{N:Nat->Option (Nat×List K)}{bP:Nat->Bool}{ak:Nat->Option (Nat×Gr)}{a0:Act}{aJ:Array Bool}{e ab:aC}{a:Act}(h:lv Γ M ops aA N bP ak a0 aJ e a)
 {i:Nat}{o:Oper}(hi:ops[i]?=some o)(hr:i∈Region.ready .any ops aJ){g:Nat}{au:Gr}(hN:N i=none)(hM:ak i=some (g,au))(n9:∀j p,aJ.getD j false=true->i<j->ak j=some p->p.1≠g){v:Value}(hu:IN Γ e ab g au v (aA i)):
 lv Γ M ops aA N bP ak a0 (aJ.setIfInBounds i true) ab (a.put o.dst v):=by
 obtain⟨kx,o',hl,dF⟩:=mem_ready.1 hr;rw[hi] at hl;cases hl;obtain⟨kR,dT⟩:=ng kx;have split:∀j,(aJ.setIfInBounds i true).getD j false=true->j=i\/aJ.getD j false=true:=λ j hj=>by
  by_cases e:i=j
  ·exact .inl e.symm
  ·rw[getD_set_ne false e] at hj;exact .inr hj
 have tg:(aJ.setIfInBounds i true).getD i false=true:=by simp[dT]
 refine⟨by simpa using h.l8,by rw[Io];exact h.size,by rw[Gk];exact h.df,λ j oj hj U x T ia=>?_,λ j oj t hj U ht=>?_,λ t ht=>?_,λ t d ht=>(h.bU t d ht).next hu.ends,λ b cs Z hn=>hu.other b cs (h.boxes b cs Z λ j p U hp=>hn j p (getD_set_true U) hp),λ j p U hp hn=>?_,λ b Z hn=>?_,λ bQ hn=>?_,λ j p U hp hn=>?_,hu.ok⟩
 ·rcases split j U with rfl|fq
  ·rw[hi] at hj;cases hj;exact getD_set_true (dF x T ia)
  ·exact getD_set_true (h.closed j oj hj fq x T ia)
 ·rcases split j U with rfl|fq
  ·rw[hi] at hj;cases hj;rw[ht,Fs (by rw[h.size];exact aT.lt _ _ _ hi ht)];exact hu.rep
  ·have b9:j≠i:=λ e=>by subst e;rw[kR] at fq;cases fq
   rw[AG (λ e=>aT.ne j i oj o t hj hi b9 ht e)];exact(h.vV j oj t hj fq ht).next hu.ends
 ·rw[AG (ht i o hi tg)];exact h.kept t λ j oj hj U=>ht j oj hj (getD_set_true U)
 ·rcases split j U with rfl|fq
  ·rw[hN] at hp;cases hp
  ·exact hu.other p.1 p.2 (h.news j p fq hp λ k q J dX bg=>hn k q J (getD_set_true dX) bg)
 ·rw[hu.bx];exact h.eE b Z λ j p U zo hp=>hn j p (getD_set_true U) zo hp
 ·rw[hu.gi,if_neg (λ ab=>hn i _ tg hM ab.symm)];exact h.gs bQ λ j p U hp=>hn j p (getD_set_true U) hp
 ·rcases split j U with rfl|fq
  ·rw[hM] at hp;cases hp;rw[hu.gi];simp
  ·have hd:j≠i:=λ e=>by subst e;rw[kR] at fq;cases fq
   have b9:p.1≠g:=by
    rcases Nat.lt_or_ge j i with A|A
    ·exact λ ab=>hn i _ A tg hM ab.symm
    ·exact n9 j p fq (by omega) hp
   rw[hu.gi,if_neg b9];exact h.gw j p fq hp λ k q J dX bg=>hn k q J (getD_set_true dX) bg
theorem lv.iP{M:St}{ops:Array Oper}(aT:pO ops Γ.n){aA:Nat->K}{N:Nat->Option (Nat×List K)}{bP:Nat->Bool}{ak:Nat->Option (Nat×Gr)}{a0:Act}{aJ:Array Bool}{e:aC}{a:Act}(h:lv Γ M ops aA N bP ak a0 aJ e a)
 {i:Nat}{o:Oper}(hi:ops[i]?=some o)(hr:i∈Region.ready .any ops aJ):∀t∈o.looksAt ops,∀d,ed ops.toList aA (kv M.s) i t=some d->bz e (gq a t) d:=by
 obtain⟨kx,o',hl,dF⟩:=mem_ready.1 hr;rw[hi] at hl;cases hl;obtain⟨kR,dT⟩:=ng kx;intro t ht d D
 by_cases pm:∃(j:Nat)(oj:Oper),j<i/\ops[j]?=some oj/\oj.dst=some t
 ·obtain⟨j,oj,hd,hj,nj⟩:=pm;rw[Is aT hj nj i hd] at D;cases D;rcases aT.dep i j o oj t hi hj (by omega) nj ht with⟨_,x,T,Z,mP⟩|⟨bQ,_⟩
  ·exact h.vV j oj t hj (mP▸dF x T Z) nj
  ·omega
 ·rw[It _ λ j oj hd hj nj=>pm ⟨j,oj,hd,hj,nj⟩] at D;rw[h.kept t λ j oj hj U nj=>?_]
  ·exact h.bU t d D
  ·have hd:j≠i:=λ e=>by subst e;rw[kR] at U;cases U
   rcases aT.dep i j o oj t hi hj (Ne.symm hd) nj ht with⟨bQ,_⟩|⟨_,x,T,Z,mP⟩
   ·exact pm ⟨j,oj,bQ,hj,nj⟩
   ·have:=h.closed j oj hj U x T Z;rw[mP,kR] at this;cases this
def j3(ops:Array Oper):Nat->Nat->Nat->Bool
 |0,_,_=>false
 |f+1,t,i=>match ops[t]? with
  |some o=>o.after.any λ e=>Region.binds .any e&&(e.on==i||j3 ops f e.on i)
  |none=>false
def uN(ops:Array Oper)(n:Nat):Bool:=
 (List.range ops.size).all λ t=>decide (t<n)||(List.range t).all λ i=>match ops[t]? with
  |some o=>(o.after.any λ e=>Region.binds .any e&&e.on==i)||(decide (i<n)&&j3 ops ops.size t i)
  |none=>true
theorem NA{ops:Array Oper}{n:Nat}(h:uN ops n=true){t i:Nat}{o:Oper}(ht:ops[t]?=some o)(hn:n<=t)(hi:i<t):(∃e∈o.after,Region.binds .any e=true/\e.on=i)\/(i<n/\j3 ops ops.size t i=true):=by
 have gV:t<ops.size:=(Array.getElem?_eq_some_iff.1 ht).1;have A:=List.all_eq_true.1 h t (List.mem_range.2 gV);simp only[Bool.or_eq_true,decide_eq_true_eq] at A;have F:=A.resolve_left (by omega);have O:=List.all_eq_true.1 F i (List.mem_range.2 hi);rw[ht] at O;simp only[Bool.or_eq_true,Bool.and_eq_true,decide_eq_true_eq] at O;rcases O with O|O
 ·obtain⟨e,he,Z⟩:=Array.any_eq_true'.1 O;simp only[Bool.and_eq_true,beq_iff_eq] at Z;exact .inl ⟨e,he,Z⟩
 ·exact .inr O
theorem Av{ops:Array Oper}{aJ:Array Bool}(L:∀(i:Nat)(o:Oper),ops[i]?=some o->aJ.getD i false=true->∀x∈o.after,Region.binds .any x=true->aJ.getD x.on false=true):∀(f t i:Nat)(o:Oper),ops[t]?=some o->(∀x∈o.after,Region.binds .any x=true->aJ.getD x.on false=true)->j3 ops f t i=true->aJ.getD i false=true
 |0,_,_,_,_,_,h=>by cases h
 |f+1,t,i,o,ho,ni,h=>by
  simp only[j3,ho] at h;obtain⟨e,he,Z⟩:=Array.any_eq_true'.1 h;simp only[Bool.and_eq_true,Bool.or_eq_true,beq_iff_eq] at Z;have A:=ni e he Z.1;rcases Z.2 with F|F
  ·rw[<-F];exact A
  ·cases xt:ops[e.on]? with
   |none=>cases f<;>simp[j3,xt] at F
   |some o2=>exact Av L f e.on i o2 xt (L e.on o2 xt A) F
theorem IE{P:Program}{ops:Array Oper}{m n:Nat}(aT:pO ops m)(hB:uN ops n=true){Q:Exit->Act->World->Prop}:∀(fuel k:Nat)(aJ:Array Bool)(a:Act)(w:World),fuel+k=ops.size->n<=k->aJ.size=ops.size->
 (∀i,i<k->aJ.getD i false=true)->(∀i,k<=i->i<ops.size->aJ.getD i true=false)->wpList P ops Q (ops.toList.drop k) a w->wpAny P .any ops Q fuel aJ a w
 |0,k,aJ,a,w,hf,hn,hs,bm,iq,h=>by
  have hr:Region.ready .any ops aJ=[]:=by
   rcases hr:Region.ready .any ops aJ with _|⟨i,_⟩
   ·rfl
   ·have hm:i∈Region.ready .any ops aJ:=by rw[hr];simp
    obtain⟨kx,o,ho,_⟩:=mem_ready.1 hm;have hi:i<ops.size:=(Array.getElem?_eq_some_iff.1 ho).1;have:=bm i (by omega);rw[(ng kx).1] at this;cases this
  refine⟨hr,?_⟩;rw[List.drop_eq_nil_of_le (by simp;omega)] at h;exact h
 |fuel+1,k,aJ,a,w,hf,hn,hs,bm,iq,h=>by
  have gH:k<ops.size:=by omega
  have vA:ops[k]?=some ops[k]:=by simp[gH]
  have y3:k∈Region.ready .any ops aJ:=mem_ready.2 ⟨iq k (Nat.le_refl _) gH,ops[k],vA,λ e he Z=>bm _ (aT.back k ops[k] vA e he Z)⟩;refine⟨(λ h0=>by rw[h0] at y3;cases y3),λ i hi=>?_⟩;obtain⟨kx,o,ho,dF⟩:=mem_ready.1 hi;have dT:i<ops.size:=(Array.getElem?_eq_some_iff.1 ho).1;have KJ:i=k:=by
   rcases Nat.lt_trichotomy i k with A|A|A
   ·have:=bm i A;rw[(ng kx).1] at this;cases this
   ·exact A
   ·rcases NA hB ho (by omega) A with⟨e,he,Z,mP⟩|⟨F,_⟩
    ·have F:=dF e he Z;rw[mP] at F;have O:=iq k (Nat.le_refl _) gH;rw[(ng O).1] at F;cases F
    ·omega
  subst KJ;rw[vA] at ho;cases ho;rw[List.drop_eq_getElem_cons (by simpa using gH)] at h;have bQ:wpList P ops Q (ops[i]::ops.toList.drop (i+1)) a w:=by simpa using h
  refine wpOp_mono (λ bs aM hh=>?_) (Vc vA bQ);refine IE aT hB fuel (i+1) _ bs aM (by omega) (by omega) (by simpa using hs) (λ j hj=>?_) (λ j hj qT=>?_) hh
  ·by_cases e:i=j
   ·subst e;simp[hs,gH]
   ·rw[getD_set_ne false e];exact bm j (by omega)
  ·rw[getD_set_ne true (by omega)];exact iq j (by omega) qT
def Dd(ops:Array Oper)(n:Nat):Bool:=
 (List.range ops.size).all λ t=>decide (t<n)||(List.range n).all λ i=>match ops[t]? with
  |some o=>(o.after.any λ e=>Region.binds .any e&&e.on==i)||j3 ops ops.size t i
  |none=>true
theorem WF{ops:Array Oper}{n:Nat}(h:Dd ops n=true){t i:Nat}{o:Oper}(ht:ops[t]?=some o)(hn:n<=t)(hi:i<n):(∃e∈o.after,Region.binds .any e=true/\e.on=i)\/j3 ops ops.size t i=true:=by
 have gV:t<ops.size:=(Array.getElem?_eq_some_iff.1 ht).1;have A:=List.all_eq_true.1 h t (List.mem_range.2 gV);simp only[Bool.or_eq_true,decide_eq_true_eq] at A;have F:=A.resolve_left (by omega);have O:=List.all_eq_true.1 F i (List.mem_range.2 hi);rw[ht] at O;simp only[Bool.or_eq_true] at O;rcases O with O|O
 ·obtain⟨e,he,Z⟩:=Array.any_eq_true'.1 O;simp only[Bool.and_eq_true,beq_iff_eq] at Z;exact .inl ⟨e,he,Z⟩
 ·exact .inr O
theorem Jm{ops:Array Oper}{n:Nat}(h:uN ops n=true):Dd ops n=true:=by
 refine List.all_eq_true.2 λ t ht=>?_
 by_cases hn:t<n
 ·simp[hn]
 ·simp only[Bool.or_eq_true,decide_eq_true_eq];refine .inr (List.all_eq_true.2 λ i hi=>?_);cases ho:ops[t]? with
  |none=>rfl
  |some o=>
   have dH:i<n:=List.mem_range.1 hi;simp only[Bool.or_eq_true];rcases NA h ho (by omega) (show i<t by omega) with⟨e,he,A,F⟩|⟨_,A⟩
   ·refine .inl (Array.any_eq_true'.2 ⟨e,he,?_⟩);simp[A,F]
   ·exact .inr A
theorem lv.pU{M:St}{ops:Array Oper}{H:Nat}(aT:pO ops Γ.n){aA:Nat->K}{N:Nat->Option (Nat×List K)}{bP:Nat->Bool}{ak:Nat->Option (Nat×Gr)}{a0:Act}{kc:St}(zi:kv kc.s=ed ops.toList aA (kv M.s) H)(Qg:kv kc.b=dM N (kv M.b) H)(iq:kv kc.g=eH ak (kv M.g) H)
 {aJ:Array Bool}{a:Act}{e:aC}(cB:lv Γ M ops aA N bP ak a0 aJ e a)(dF:∀i,i<H->aJ.getD i false=true)(gV:∀t,H<=t->t<ops.size->aJ.getD t true=false):bu Γ kc e a:=by
 have n8:∀j,aJ.getD j false=true->j<H:=λ j hj=>by
  rcases Nat.lt_or_ge j H with bQ|bQ
  ·exact bQ
  ·rcases Nat.lt_or_ge j ops.size with F|F
   ·have:=gV j bQ F;rw[(ng this).1] at hj;cases hj
   ·have O:aJ[j]?=none:=Array.getElem?_eq_none (by rw[cB.l8];exact F);simp[O] at hj
 refine⟨cB.size,cB.df,λ t d ht=>?_,λ b cs Z=>?_,λ b Z=>?_,λ g=>?_,cB.env⟩
 ·rw[zi] at ht
  by_cases pm:∃(j:Nat)(oj:Oper),j<H/\ops[j]?=some oj/\oj.dst=some t
  ·obtain⟨j,oj,oM,hj,D⟩:=pm;rw[Is aT hj D _ oM] at ht;cases ht;exact cB.vV j oj t hj (dF j oM) D
  ·rw[It _ λ j oj oM hj D=>pm ⟨j,oj,oM,hj,D⟩] at ht;rw[cB.kept t λ j oj hj U D=>pm ⟨j,oj,n8 j U,hj,D⟩];exact cB.bU t d ht
 ·rw[Qg] at Z;rcases Iq H Z with⟨A,F⟩|⟨j,hj,hp,F⟩
  ·exact cB.boxes b cs A λ j p U hp=>F j p (n8 j U) hp
  ·exact cB.news j _ (dF j hj) hp λ k q J U hq=>F k q J (n8 k U) hq
 ·rw[Qg] at Z;obtain⟨A,F⟩:=rp H Z;exact cB.eE b A λ j p U _ hp=>F j p (n8 j U) hp
 ·rw[iq];rcases Fu (ak:=ak) (au:=kv M.g) (h:=g) H with⟨A,F⟩|⟨j,Gj,hj,hm,hs,F⟩
  ·rw[A];exact cB.gs g λ j p U hp=>F j p (n8 j U) hp
  ·rw[hs];exact cB.gw j _ (dF j hj) hm λ k q J U hq=>F k q J (n8 k U) hq
theorem lv.wanted{M:St}{ops:Array Oper}(aT:pO ops Γ.n){aA:Nat->K}{N:Nat->Option (Nat×List K)}{bP:Nat->Bool}{ak:Nat->Option (Nat×Gr)}{a0:Act}{aJ:Array Bool}{e:aC}{a:Act}(cB:lv Γ M ops aA N bP ak a0 aJ e a)
 {i:Nat}{o:Oper}(hi:ops[i]?=some o)(hr:i∈Region.ready .any ops aJ){c:Bool}(L:gd ops.toList o (ed ops.toList aA (kv M.s) i)=some c):Region.wanted o (yielded ops a.tmps)=c:=by
 have jC:=cB.iP aT hi hr;unfold gd at L;unfold Region.wanted;split at L
 ·rename_i hg;rw[hg];cases L;rfl
 ·rename_i j want hg;rw[hg];split at L
  ·rename_i t ht;split at L
   ·rename_i b Z;cases L;have A:(ops[j]?).bind (·.dst)=some t:=by simpa using ht
    have hv:=dh (jC t (PO (by simp[JZ,hg,A])) _ Z);have:yielded ops a.tmps j=some b:=by rw[IG,A];unfold gq at hv;simp only[Option.bind_some,hv,A3]
    simp only[this];cases b<;>cases want<;>rfl
   ·rename_i b Z;cases L;have A:(ops[j]?).bind (·.dst)=some t:=by simpa using ht
    have hv:=dh (jC t (PO (by simp[JZ,hg,A])) _ Z);have:yielded ops a.tmps j=none:=by rw[IG,A];unfold gq at hv;simp only[Option.bind_some,hv,A3]
    simp only[this];cases want<;>rfl
   ·cases L
  ·cases L
theorem CJ{M:St}{ops:Array Oper}{H:Nat}(dn sp ok:Nat->Bool)(aT:pO ops Γ.n)(hT:Dd ops H=true)(hH:H<=ops.size){aA:Nat->K}{N:Nat->Option (Nat×List K)}{bP:Nat->Bool}{ak:Nat->Option (Nat×Gr)}{B:List (Nat×List K)}{a0:Act}{Q:Exit->Act->World->Prop}(ml:∀i,H<=i->N i=none)(l4:∀i,H<=i->ak i=none)(pi:∀i,dn i=true\/sp i=true->N i=none)(vi:∀i,dn i=true\/sp i=true->ak i=none)(Rk:∀i o,ops[i]?=some o->ok i=true\/sp i=true\/∃s,sp s=true/\j3 ops ops.size i s=true)(K7:(∀i,ok i=true->bP i=false/\ak i=none)\/∀i,ok i=true)(oJ:∀b cs,kv B b=some cs->kv M.b b=some cs)
 (um:∀i o,i<H->ops[i]?=some o->dn i=false->sp i=false->ok i=true->tJ P ops.toList i (kv B) (kv M.b) (ed ops.toList aA (kv M.s) i) (dM N (kv M.b) i) (eH ak (kv M.g) i) (fR bP N [] i) (fW ops.toList ak [] i) o (aA i) (N i) (bP i) (ak i))
 (lh:∀(aJ:Array Bool)(a:Act)(e:aC),lv Γ M ops aA N bP ak a0 aJ e a->(∀i,i<H->aJ.getD i false=true)->(∀t,H<=t->t<ops.size->aJ.getD t true=false)->(∀s,sp s=true->aJ.getD s false=false)->wpAny P .any ops Q (ops.size-H) aJ a e.w)
 (kQ:∀(fuel:Nat)(aJ:Array Bool)(a:Act)(e:aC)(i:Nat),sp i=true->fuel+1=mZ aJ->i∈Region.ready .any ops aJ->lv Γ M ops aA N bP ak a0 aJ e a->(∀t,H<=t->t<ops.size->aJ.getD t true=false)->(∀i,dn i=true->aJ.getD i false=true)->wpOp P ops Q i (wpAny P .any ops Q fuel (aJ.setIfInBounds i true)) a e.w):
 ∀(fuel:Nat)(aJ:Array Bool)(a:Act)(e:aC),fuel=mZ aJ->lv Γ M ops aA N bP ak a0 aJ e a->(∀t,H<=t->t<ops.size->aJ.getD t true=false)->(∀i,dn i=true->aJ.getD i false=true)->(∀i,sp i=true->aJ.getD i false=false)->wpAny P .any ops Q fuel aJ a e.w:=by
 have fin:∀(fuel:Nat)(aJ:Array Bool)(a:Act)(e:aC),fuel=mZ aJ->lv Γ M ops aA N bP ak a0 aJ e a->(∀t,H<=t->t<ops.size->aJ.getD t true=false)->(∀s,sp s=true->aJ.getD s false=false)->(∀i,i<H->aJ.getD i false=true)->wpAny P .any ops Q fuel aJ a e.w:=by
  intro fuel aJ a e sW cB gV oa dF;have DW:mZ aJ=ops.size-H:=by
   have:=IB aJ.toList H (by simpa[cB.l8] using hH) (λ i hi=>by
    have A:=dF i hi;have dT:i<aJ.size:=by rw[cB.l8];omega
    simp[dT] at A⊢;exact A) (λ i hi U=>by
    have dT:i<aJ.size:=by simpa using U
    have A:=gV i hi (by rw[<-cB.l8];exact dT);simp[dT] at A⊢;exact A)
   simpa[mZ,cB.l8] using this
  obtain rfl:fuel=ops.size-H:=by omega
  exact lh aJ a e cB dF gV oa
 intro fuel;induction fuel with
 |zero=>
  intro aJ a e sW cB gV vB oa;refine fin 0 aJ a e sW cB gV oa λ i hi=>?_
  have A:=VZ sW.symm (i:=i);have dT:i<aJ.size:=by rw[cB.l8];omega
  simp[dT] at A⊢;exact A
 |succ fuel ih=>
  intro aJ a e sW cB gV vB oa
  by_cases dF:∀i,i<H->aJ.getD i false=true
  ·exact fin _ aJ a e sW cB gV oa dF
  ·have pm:∃i,i<H/\aJ.getD i false=false:=by
    refine Classical.byContradiction λ b9=>dF λ i hi=>?_
    rcases U:aJ.getD i false with _|_
    ·exact absurd ⟨i,hi,U⟩ b9
    ·rfl
   obtain⟨m,ZP,KY⟩:=pm;refine⟨λ hr=>?_,λ i hi=>?_⟩
   ·have:=Xv aT cB.l8 hr m (by omega);rw[KY] at this;cases this
   ·by_cases BO:sp i=true
    ·exact kQ fuel aJ a e i BO sW.symm.symm hi cB gV vB
    have BO:sp i=false:=by simpa using BO
    obtain⟨kx,o,ho,ni⟩:=mem_ready.1 hi;obtain⟨kR,dT⟩:=ng kx;have ag1:i<ops.size:=(Array.getElem?_eq_some_iff.1 ho).1;have Zo:i<H:=by
     rcases Nat.lt_or_ge i H with bQ|bQ
     ·exact bQ
     ·rcases WF hT ho bQ ZP with⟨x,T,Z,mP⟩|te
      ·have:=ni x T Z;rw[mP,KY] at this;cases this
      ·have:=Av cB.closed _ _ _ o ho ni te;rw[KY] at this;cases this
    have He:ok i=true:=by
     rcases Rk i o ho with h|h|⟨s,A,F⟩
     ·exact h
     ·rw[BO] at h;cases h
     ·have:=Av cB.closed _ _ _ o ho ni F;rw[oa s A] at this;cases this
    have Hf:∀j,aJ.getD j false=true->j<ops.size->sp j=false/\ok j=true:=λ j U qT=>by
     have Rn:sp j=false:=by
      rcases h:sp j with _|_
      ·rfl
      ·rw[oa j h] at U;cases U
     refine⟨Rn,?_⟩;rcases Rk j ops[j] (by simp[qT]) with h|h|⟨s,A,F⟩
     ·exact h
     ·rw[Rn] at h;cases h
     ·have:=Av cB.closed _ _ _ ops[j] (by simp[qT]) (λ x T Z=>cB.closed j ops[j] (by simp[qT]) U x T Z) F;rw[oa s A] at this;cases this
    have jC:=cB.iP aT ho hi;have BD:fuel=mZ (aJ.setIfInBounds i true):=by have:=NL kx;omega
    have G7:∀k,dn k=true->(aJ.setIfInBounds i true).getD k false=true:=λ k J=>getD_set_true (vB k J)
    have Hk:∀k,sp k=true->(aJ.setIfInBounds i true).getD k false=false:=λ k J=>by
     rw[getD_set_ne false (λ e=>by subst e;rw[BO] at J;cases J)];exact oa k J
    have Ho:∀t,H<=t->t<ops.size->(aJ.setIfInBounds i true).getD t true=false:=λ t A F=>by rw[getD_set_ne true (by omega)];exact gV t A F
    have p6:∀c,gd ops.toList o (ed ops.toList aA (kv M.s) i)=some c->Region.wanted o (yielded ops a.tmps)=c:=λ c L=>cB.wanted aT ho hi L
    unfold wpOp;simp only[ho];have aaD:∀b cs,kv B b=some cs->h1 e b cs:=λ b cs Z=>cB.boxes b cs (oJ b cs Z) λ j p U hp ab=>by
     have D9:j<ops.size:=by
      rcases Nat.lt_or_ge j ops.size with bQ|bQ
      ·exact bQ
      ·have O:aJ[j]?=none:=Array.getElem?_eq_none (by rw[cB.l8];exact bQ);simp[O] at U
     have oM:j<H:=by
      rcases Nat.lt_or_ge j H with bQ|bQ
      ·exact bQ
      ·rw[ml j bQ] at hp;cases hp
     rcases um j _ oM (show ops[j]?=some ops[j] by simp[D9]) (Bool.eq_false_iff.2 λ h=>by rw[pi j (.inl h)] at hp;cases hp) (Bool.eq_false_iff.2 λ h=>by rw[pi j (.inr h)] at hp;cases hp) (Hf j U D9).2 with⟨_,_,hf,_⟩|⟨_,_,iX,_⟩|⟨nm,_,_,_,_,iC,_,_,_,_,eo,_⟩|⟨_,_,_,_,_,_,_,_,iX,_⟩
     ·have h5:=(hf p hp).2;rw[ab,Z] at h5;cases h5
     ·rw[iX] at hp;cases hp
     ·rw[eo] at hp;cases hp;simp only at ab;rw[ab,Z] at iC;cases iC
     ·rw[iX] at hp;cases hp
    have aaE:Bd ops.toList o=true->∀b cs,kv M.b b=some cs->h1 e b cs:=λ BB b cs Z=>cB.boxes b cs Z λ j p U hp ab=>by
     have D9:j<ops.size:=by
      rcases Nat.lt_or_ge j ops.size with bQ|bQ
      ·exact bQ
      ·have O:aJ[j]?=none:=Array.getElem?_eq_none (by rw[cB.l8];exact bQ);simp[O] at U
     have oM:j<H:=by
      rcases Nat.lt_or_ge j H with bQ|bQ
      ·exact bQ
      ·rw[ml j bQ] at hp;cases hp
     have iY:ops[j]?=some ops[j]:=by simp[D9]
     rcases um j _ oM iY (Bool.eq_false_iff.2 λ h=>by rw[pi j (.inl h)] at hp;cases hp) (Bool.eq_false_iff.2 λ h=>by rw[pi j (.inr h)] at hp;cases hp) (Hf j U D9).2 with⟨_,_,hf,_⟩|⟨_,_,iX,_⟩|⟨nm,_,_,_,rN,_⟩|⟨_,_,_,_,_,_,_,_,iX,_⟩
     ·have h5:=(rp j (hf p hp).1).1;rw[ab,Z] at h5;cases h5
     ·rw[iX] at hp;cases hp
     ·unfold Bd at BB;split at BB
      ·cases BB
      ·rename_i t ht;have A:=List.all_eq_true.1 BB ops[j] (by simp);rw[rN] at A;simp only at A;obtain⟨x,T,ia⟩:=Array.any_eq_true'.1 A;simp only[Bool.and_eq_true] at ia;have Rv:=cB.closed j _ iY U x T ia.1;have F:=ia.2;split at F
       ·rename_i u hu;have aaB:=Nat.eq_of_beq_eq_true F;subst aaB;cases K1:ops.toList[x.on]? with
        |none=>rw[K1] at hu;cases hu
        |some acV=>
         rw[K1] at hu;have aaO:x.on=i:=by
          by_cases he:x.on=i
          ·exact he
          ·exact absurd ht (aT.ne x.on i acV o u (by simpa using K1) ho he hu)
         rw[aaO,kR] at Rv;cases Rv
       ·cases F
     ·rw[iX] at hp;cases hp
    have BK:∀x∈o.op.operands,∀d,ev (ed ops.toList aA (kv M.s) i) x=some d->bz e (a.eval x) d:=λ x T d D=>by
     cases x with
     |tmp t=>exact jC t (List.mem_append_left _ (List.mem_filterMap.2 ⟨.tmp t,by simpa using T,rfl⟩)) d D
     |const v=>simp only[ev,wR,Option.some.injEq] at D;subst D;exact wQ e v
     |global g=>cases D
     |func f=>simp only[ev,Option.some.injEq] at D;subst D;exact .fn (us:=[]) (vs:=[]) rfl rfl (λ i v d h=>by simp at h) (λ i v d h=>by simp at h)
    rcases um i o Zo ho (Bool.eq_false_iff.2 λ h=>by rw[vB i h] at kR;cases kR) BO He with⟨hg,d6,po,Hp,qI⟩|⟨hg,D,hn,Hp,qI⟩|⟨nm,cs,aS,hg,nj,iC,hD,Yg,vL,_,eo,hU,qI⟩|⟨g,au,t,hg,nj,_,ag8,ui,Yn,Hp,qI⟩
    ·rw[if_pos (p6 _ hg)];have dC:∀p,N i=some p->e.bx p.1=none:=λ p hp=>by
      obtain⟨A,F⟩:=rp i (po p hp).1;refine cB.eE p.1 A λ j q U hu iF=>?_
      rcases Nat.lt_trichotomy j i with O|O|O
      ·exact F j q O iF
      ·subst O;rw[kR] at U;cases U
      ·have oM:j<H:=by
        rcases Nat.lt_or_ge j H with bQ|bQ
        ·exact bQ
        ·rw[ml j bQ] at iF;cases iF
       have iY:ops[j]?=some ops[j]:=by simp[show j<ops.size by omega]
       rcases um j _ oM iY (Bool.eq_false_iff.2 λ h=>by rw[pi j (.inl h)] at iF;cases iF) (Bool.eq_false_iff.2 λ h=>by rw[pi j (.inr h)] at iF;cases iF) (Hf j U (by omega)).2 with⟨_,_,D0,_⟩|⟨_,_,s9,_⟩|⟨_,_,_,_,_,_,_,_,_,_,_,hU,_⟩|⟨_,_,_,_,_,_,_,_,s9,_⟩
       ·exact λ ab=>(rp j (D0 q iF).1).2 i p O hp ab.symm
       ·rw[s9] at iF;cases iF
       ·rw[hu] at hU;cases hU
       ·rw[s9] at iF;cases iF
     have c8:o.wp P a e.w (λ bs aM=>∃v ab,bs=a.put o.dst v/\ab.w=aM/\pa e ab v (aA i) (N i)) (λ _ _ _=>False):=by
      rcases d6 with d6|⟨BB,d6⟩
      ·exact d6 a e ⟨BK,aaD⟩ dC
      ·exact d6 a e ⟨BK,aaE BB⟩ dC
     refine .inl (yg c8 λ bs aM hh=>?_);obtain⟨v,ab,rfl,rfl,iF⟩:=hh;exact ih _ _ ab BD (cB.next aT ho hi iF dC Hp qI) Ho G7 Hk
    ·rw[if_neg (by rw[p6 _ hg];simp)];exact ih _ _ e BD (cB.next aT ho hi (v:=undef) (by rw[hn,D];exact⟨kI.refl e,.p (.raw undef)⟩) (λ p hp=>by rw[hn] at hp;cases hp) Hp qI) Ho G7 Hk
    ·rw[if_pos (p6 _ hg)];have BP:∀j p,aJ.getD j false=true->i<j->N j=some p->p.1≠nm:=λ j p np kq hp ab=>by
      have oM:j<H:=by
       rcases Nat.lt_or_ge j H with bQ|bQ
       ·exact bQ
       ·rw[ml j bQ] at hp;cases hp
      have iY:ops[j]?=some ops[j]:=by simp[show j<ops.size by omega]
      rcases um j _ oM iY (Bool.eq_false_iff.2 λ h=>by rw[pi j (.inl h)] at hp;cases hp) (Bool.eq_false_iff.2 λ h=>by rw[pi j (.inr h)] at hp;cases hp) (Hf j np (by omega)).2 with⟨_,_,D0,_⟩|⟨_,_,s9,_⟩|⟨acd,_,_,_,_,_,Bq,_,_,_,Eo,_⟩|⟨_,_,_,_,_,_,_,_,s9,_⟩
      ·exact(rp j (D0 p hp).1).2 i _ kq eo ab.symm
      ·rw[s9] at hp;cases hp
      ·rw[Eo] at hp;cases hp;simp only at ab;have:=Nm (ay:=[]) kq hU eo;simp only at this;rw[<-ab] at this;rcases Bq with Bq|Bq
       ·simp at Bq;exact absurd this Bq
       ·obtain⟨x,T,Z,mP⟩:=RY Bq kq (by simpa using ho) nj;have:=cB.closed j _ iY np x T Z;rw[mP,kR] at this;cases this
      ·rw[s9] at hp;cases hp
     have YI:e.bx nm≠none->h1 e nm cs:=λ b9=>by
      have fz:∀j p,aJ.getD j false=true->¬j<i->N j=some p->p.1≠nm:=λ j p U hd hp=>by
       rcases Nat.lt_trichotomy j i with O|O|O
       ·exact absurd O hd
       ·subst O;rw[kR] at U;cases U
       ·exact BP j p U O hp
      rcases Iq i Yg with⟨A,F⟩|⟨j,hd,hj,F⟩
      ·exact cB.boxes nm cs A λ j p U hp=>by
        by_cases hd:j<i
        ·exact F j p hd hp
        ·exact fz j p U hd hp
      ·have oM:j<H:=by omega
       have iY:ops[j]?=some ops[j]:=by simp[show j<ops.size by omega]
       rcases um j _ oM iY (Bool.eq_false_iff.2 λ h=>by rw[pi j (.inl h)] at hj;cases hj) (Bool.eq_false_iff.2 λ h=>by rw[pi j (.inr h)] at hj;cases hj) (K7.elim (λ h=>by rw[(h i He).1] at hU;cases hU) λ h=>h j) with⟨_,_,D0,_⟩|⟨_,_,s9,_⟩|⟨acd,_,_,_,YS,_,_,_,_,_,Eo,Yt,_⟩|⟨_,_,_,_,_,_,_,_,s9,_⟩
       ·obtain⟨h5,h6⟩:=rp j (D0 _ hj).1;simp only at h5 h6;have np:aJ.getD j false=true:=by
         rcases np:aJ.getD j false with _|_
         ·exfalso;refine b9 (cB.eE nm h5 λ k q J hu hq ab=>?_);have mO:k<i:=by
           rcases Nat.lt_or_ge k i with h7|h7
           ·exact h7
           ·exact absurd ab (fz k q J (by omega) hq)
          rcases Nat.lt_trichotomy k j with h7|h7|h7
          ·exact h6 k q h7 hq ab
          ·subst h7;rw[np] at J;cases J
          ·exact F k q h7 mO hq ab
         ·rfl
        exact cB.news j _ np hj λ k q J U hq=>by
         by_cases mO:k<i
         ·exact F k q J mO hq
         ·exact fz k q U mO hq
       ·rw[s9] at hj;cases hj
       ·rw[Eo] at hj;cases hj;have:=Nm (ay:=[]) hd Yt Eo;rcases hD with hD|hD
        ·simp at hD;exact absurd this hD
        ·obtain⟨x,T,Z,mP⟩:=RY hD hd (by simp) YS;have np:=ni x T Z;rw[mP] at np;exact cB.news j _ np Eo λ k q J U hq=>by
          by_cases mO:k<i
          ·exact F k q J mO hq
          ·exact fz k q U mO hq
       ·rw[s9] at hj;cases hj
     obtain⟨_,aaN⟩:=vL Γ a e cB.env BK YI;refine .inl (yg aaN λ bs aM hh=>?_);obtain⟨rfl,ab,rfl,hu⟩:=hh;have:=ih _ _ ab BD (cB.ab5 ho nj hi eo qI (λ j p U kq hp=>BP j p U kq hp) hu) Ho G7 Hk;rw[nj];exact this
    ·rw[if_pos (p6 _ hg)];have bm:∀j p,ak j=some p->j<H:=λ j p hp=>by
      rcases Nat.lt_or_ge j H with bQ|bQ
      ·exact bQ
      ·rw[l4 j bQ] at hp;cases hp
     have xx:∀k p,ak k=some p->p.1=g->∀j q,j<k->ak j=some q->q.1=g->(∀zw bD,j<zw->zw<k->ak zw=some bD->bD.1≠g)->∃oj tj,ops[j]?=some oj/\oj.dst=some tj/\∃ok,ops[k]?=some ok/\tj∈ok.looksAt ops:=by
      intro k p J G6 j q mN hj vz YF;have Zz:=bm k p J;have oM:=bm j q hj;have iY:ops[j]?=some ops[j]:=by simp[show j<ops.size by omega]
      have Ra:ops[k]?=some ops[k]:=by simp[show k<ops.size by omega]
      rcases um j _ oM iY (Bool.eq_false_iff.2 λ h=>by rw[vi j (.inl h)] at hj;cases hj) (Bool.eq_false_iff.2 λ h=>by rw[vi j (.inr h)] at hj;cases hj) (K7.elim (λ h=>by rw[(h i He).2] at qI;cases qI) λ h=>h j) with⟨_,_,_,_,Eh⟩|⟨_,_,_,_,Eh⟩|⟨_,_,_,_,_,_,_,_,_,_,_,_,Eh⟩|⟨g1,G1,t1,_,mL,_,_,_,_,_,mj⟩
      ·rw[Eh] at hj;cases hj
      ·rw[Eh] at hj;cases hj
      ·rw[Eh] at hj;cases hj
      rcases um k _ Zz Ra (Bool.eq_false_iff.2 λ h=>by rw[vi k (.inl h)] at J;cases J) (Bool.eq_false_iff.2 λ h=>by rw[vi k (.inr h)] at J;cases J) (K7.elim (λ h=>by rw[(h i He).2] at qI;cases qI) λ h=>h k) with⟨_,_,_,_,y5⟩|⟨_,_,_,_,y5⟩|⟨_,_,_,_,_,_,_,_,_,_,_,_,y5⟩|⟨g2,G2,t2,_,_,_,dX,_,_,_,un⟩
      ·rw[y5] at J;cases J
      ·rw[y5] at J;cases J
      ·rw[y5] at J;cases J
      rw[un] at J;cases J;simp only at G6;subst G6;have ku:kv (fW ops.toList ak [] k) g2=some t1:=Ux (l:=ops.toList) mN hj vz (by simpa[iY] using mL) YF;unfold EM at dX;rw[ku] at dX;simp only[List.any_eq_true] at dX;obtain⟨x,T,Ht⟩:=dX;refine⟨_,t1,iY,mL,_,Ra,?_⟩;cases x with
      |tmp u=>have:u=t1:=Nat.eq_of_beq_eq_true Ht;subst this;exact List.mem_append_left _ (List.mem_filterMap.2 ⟨.tmp u,T,rfl⟩)
      |const v=>cases Ht
      |global v=>cases Ht
      |func v=>cases Ht
     have vk:∀(d k:Nat) p,ak k=some p->p.1=g->aJ.getD k false=true->∀j q,j+d=k->ak j=some q->q.1=g->aJ.getD j false=true:=by
      intro d;induction d using Nat.strongRecOn with
      |ind d aaY=>
       intro k p J G6 gH j q ag3 hj vz;rcases Nat.eq_zero_or_pos d with h0|h0
       ·have:j=k:=by omega
        rw[this];exact gH
       ·rcases Fu (ak:=ak) (au:=kv M.g) (h:=g) k with⟨_,F⟩|⟨j1,G1,Zt,mj,_,F⟩
        ·exact absurd vz (F j q (by omega) hj)
        ·have ag4:j<=j1:=by
          rcases Nat.lt_or_ge j1 j with O|O
          ·exact absurd vz (F j q O (by omega) hj)
          ·exact O
         obtain⟨oj,tj,iY,rN,ok,za,KV⟩:=xx k p J G6 j1 _ Zt mj rfl F;have Zu:aJ.getD j1 false=true:=by
          rcases aT.dep k j1 ok oj tj za iY (by omega) rN KV with⟨_,x,T,Z,mP⟩|⟨h4,_⟩
          ·have:=cB.closed k ok za gH x T Z;rw[mP] at this;exact this
          ·omega
         exact aaY (j1-j) (by omega) j1 _ mj rfl Zu j q (by omega) hj vz
     have BP:∀j p,aJ.getD j false=true->i<j->ak j=some p->p.1≠g:=λ j p U kq hp ab=>by
      have:=vk (j-i) j p hp ab U i _ (by omega) qI rfl;rw[kR] at this;cases this
     have sT:e.gi g=eH ak (kv M.g) i g:=by
      rcases Fu (ak:=ak) (au:=kv M.g) (h:=g) i with⟨A,F⟩|⟨j,Gj,hj,hm,hs,F⟩
      ·rw[A];refine cB.gs g λ j p U hp=>?_
       rcases Nat.lt_trichotomy j i with O|O|O
       ·exact F j p O hp
       ·subst O;rw[kR] at U;cases U
       ·exact BP j p U O hp
      ·rw[hs];obtain⟨oj,tj,iY,rN,ok,za,KV⟩:=xx i _ qI rfl j _ hj hm rfl F;rw[ho] at za;cases za;have np:aJ.getD j false=true:=by
        rcases aT.dep i j o oj tj ho iY (by omega) rN KV with⟨_,x,T,Z,mP⟩|⟨h4,_⟩
        ·have:=ni x T Z;rw[mP] at this;exact this
        ·omega
       refine cB.gw j _ np hm λ k q J U hq=>?_
       rcases Nat.lt_trichotomy k i with O|O|O
       ·exact F k q J O hq
       ·subst O;rw[kR] at U;cases U
       ·exact BP k q U O hq
     refine .inl (yg (ui Γ a e cB.env BK sT) λ bs aM hh=>?_);obtain⟨v,ab,rfl,rfl,hu⟩:=hh;exact ih _ _ ab BD (cB.ab4 aT ho hi Yn qI BP hu) Ho G7 Hk
theorem Fv{l iM:List Oper}{aA:Nat->K}{S:Nat->Option K}:∀i,(∀j,j<i->l[j]?=iM[j]?)->ed l aA S i=ed iM aA S i
 |0,_=>rfl
 |i+1,h=>by rw[ed,ed,Fv i λ j hj=>h j (by omega),h i (by omega)]
theorem CI{N kY:Nat->Option (Nat×List K)}{B:Nat->Option (List K)}:∀i,(∀j,j<i->N j=kY j)->dM N B i=dM kY B i
 |0,_=>rfl
 |i+1,h=>by rw[dM,dM,CI i λ j hj=>h j (by omega),h i (by omega)]
theorem Ni{bP sB:Nat->Bool}{N kY:Nat->Option (Nat×List K)}{ay:List Nat}:∀i,(∀j,j<i->N j=kY j/\bP j=sB j)->fR bP N ay i=fR sB kY ay i
 |0,_=>rfl
 |i+1,h=>by rw[fR,fR,Ni i λ j hj=>h j (by omega),(h i (by omega)).1,(h i (by omega)).2]
theorem Ir{ak dZ:Nat->Option (Nat×Gr)}{au:Nat->Option Gr}:∀i,(∀j,j<i->ak j=dZ j)->eH ak au i=eH dZ au i
 |0,_=>rfl
 |i+1,h=>by rw[eH,eH,Ir i λ j hj=>h j (by omega),h i (by omega)]
theorem Nq{l iM:List Oper}{ak dZ:Nat->Option (Nat×Gr)}{aE:List (Nat×Nat)}:∀i,(∀j,j<i->ak j=dZ j/\l[j]?=iM[j]?)->fW l ak aE i=fW iM dZ aE i
 |0,_=>rfl
 |i+1,h=>by rw[fW,fW,Nq i λ j hj=>h j (by omega),(h i (by omega)).1,(h i (by omega)).2]
def wD(B:List (Nat×List K)):List (Nat×List K)->Prop
 |[]=>True
 |p::l=>kv B p.1=some p.2/\wD B l
theorem wD.get{B:List (Nat×List K)}:∀{l:List (Nat×List K)}(_:wD B l){b:Nat}{cs:List K},kv l b=some cs->kv B b=some cs
 |[],_,_,_,h=>by cases h
 |(k,v)::l,hs,b,cs,h=>by
  rw[da] at h;split at h
  ·rename_i J;subst J;cases h;exact hs.1
  ·exact hs.2.get h
theorem OG{id:Nat}{Q:Exit->St->Prop}{M:St}(B:List (Nat×List K))(oJ:wD M.b B)(l1 l2:List Oper){l:List Oper}(U:l=l1++l2)(hm:P.follows .mixedOrders=true)(hB:ra l.toArray Γ.n=true)(hT:uN l.toArray l1.length=true)
 (h:cJ P Γ.n l B M.b (bq P Γ l Q l2) 0 [] [] l1 M):aP P Γ (.region id l.toArray true) Q M:=by
 refine⟨λ a e L=>?_⟩;have aT:=If hB;obtain⟨aA,N,bP,ak,kc,A,F,O,h4,h5⟩:=cJ.extract l1 0 [] [] M h;have nl:∀j,j<l1.length->l1[j]?=l[j]?:=λ j hj=>by rw[U,List.getElem?_append_left hj]
 have cD:l1.length<=l.toArray.size:=by rw[U];simp
 have Kq:l.toArray.toList.drop l1.length=l2:=by rw[U];simp
 have hN:∀i,i<=l1.length->dM N (kv M.b) i=dM (λ i=>if i<l1.length then N i else none) (kv M.b) i:=λ i hi=>CI i λ j hj=>by rw[if_pos (by omega)]
 have hD:∀i,i<=l1.length->fR bP N [] i=fR bP (λ i=>if i<l1.length then N i else none) [] i:=λ i hi=>Ni i λ j hj=>⟨by rw[if_pos (by omega)],rfl⟩
 have hG:∀i,i<=l1.length->eH ak (kv M.g) i=eH (λ i=>if i<l1.length then ak i else none) (kv M.g) i:=λ i hi=>Ir i λ j hj=>by rw[if_pos (by omega)]
 have hL:∀i,i<=l1.length->fW l1 ak [] i=fW l.toArray.toList (λ i=>if i<l1.length then ak i else none) [] i:=λ i hi=>Nq i λ j hj=>⟨by rw[if_pos (by omega)],by simpa using nl j (by omega)⟩
 have:=CJ (P:=P) (Γ:=Γ) (M:=M) (ops:=l.toArray) (H:=l1.length) (λ _=>false) (λ _=>false) (λ _=>true) aT (Jm hT) cD (aA:=aA) (N:=λ i=>if i<l1.length then N i else none) (bP:=bP) (ak:=λ i=>if i<l1.length then ak i else none) (B:=B) (a0:=a) (Q:=jM Γ Q) (λ i hi=>if_neg (by omega)) (λ i hi=>if_neg (by omega)) (λ i hi=>by simp at hi) (λ i hi=>by simp at hi) (λ _ _ _=>.inl rfl) (.inr λ _=>rfl) (λ b cs=>oJ.get)
  (λ i o hi ho _ _ _=>by
   have h6:=h5 i o (by rw[nl i hi];simpa using ho);rw[Nat.zero_add,hN i (by omega),hD i (by omega),hG i (by omega),hL i (by omega)] at h6;have e5:ed l1 aA (kv M.s) i=ed l.toArray.toList aA (kv M.s) i:=Fv i λ j hj=>by simpa using nl j (by omega)
   rw[e5] at h6
   simpa[hi] using h6)
  (λ aJ b ab hv q2 q3 _=>IE aT hT _ _ aJ b ab.w (by omega) (Nat.le_refl _) hv.l8 q2 q3 (by rw[Kq];exact A.run b ab (hv.pU aT (kc:=kc) (by rw[O];exact Fv _ λ j hj=>by simpa using nl j hj) (by rw[h4];exact hN _ (Nat.le_refl _)) (by rw[F];exact hG _ (Nat.le_refl _)) q2 q3))) (λ _ _ _ _ _ h=>by cases h)
  l.toArray.size (Array.replicate l.toArray.size false) a {e with w:=e.w.drew} (IC _).symm
  ?_ (λ t _ ht=>by have zn:t<l.length:=by simpa using ht
                   simp[zn]) (λ i hi=>by cases hi) (λ i hi=>by cases hi)
 ·exact wp_region_any hm this
 ·have hg:kI e {e with w:=e.w.drew}:=⟨(Below.refl _ _).drew,λ _ _=>rfl,rfl,rfl,rfl⟩;have dR:=L.grow hg;refine⟨by simp,L.size,L.df,λ i o _ U=>?_,λ i o t _ U=>?_,λ t _=>rfl,dR.bU,λ b cs Z _=>dR.boxes b cs Z,λ i p U=>?_,λ b Z _=>dR.eE b Z,λ g _=>dR.gs g,λ i p U=>?_,dR.env⟩
  all_goals(simp[Array.getElem?_replicate] at U;split at U<;>simp at U)
end
end Go.Proofs.YtcnefjfboagbmaaGreat
end
section
namespace Go.Proofs.YtcnefjfboagbmaaGreat
open Go.RowKit
section
variable{P:Program}{ap:Nat->Option TI}{Γ:bN}{M cb:St}{Q:Exit->St->Prop}{aG:St->Prop}
theorem nI(h:aG M):su aG Q .normal M:=h
theorem adS{id:Nat}(h:Q .normal M):qB id Q (.exit id) M:=by simp only[qB,if_true];exact h
theorem adT{id oS:Nat}(b9:(oS==id)=false)(h:Q (.exit oS) M):qB id Q (.exit oS) M:=by
 have:oS≠id:=by simpa using b9
 simp only[qB,if_neg this];exact h
def CK(t:Bool)(X aH:Prop):Prop:=(t=true->X)/\(t=false->aH)
theorem Jg{x y:Code}{z:Operand}{t:Bool}(hz:ev (kv M.s) z=some (.p (.raw (.bool t))))(h:CK t (aP P Γ x Q M) (aP P Γ y Q M)):aP P Γ (.cond z x y) Q M:=Wn hz h.1 h.2
section
variable{X aH:Prop}
theorem Jt(h:X):CK true X aH:=⟨λ _=>h,λ bQ=>by cases bQ⟩
theorem Dk(h:aH):CK false X aH:=⟨λ bQ=>(by cases bQ),λ _=>h⟩
theorem dk{t:Bool}(ht:t=true->X)(hf:t=false->aH):CK t X aH:=⟨ht,hf⟩
end
def Fin(ap:Nat->Option TI)(rs:List ResultVar)(d:K):Exit->St->Prop:=λ ex M=>(ex=.normal\/ex=.ret)/\Cx ap M rs=some d
theorem Pz{rs:List ResultVar}{d d9:K}(h:Cx ap M rs=some d9)(D:d9=d):Fin ap rs d .ret M:=⟨.inr rfl,by rw[h,D]⟩
theorem XK{rs:List ResultVar}{d d9:K}(h:Cx ap M rs=some d9)(D:d9=d):Fin ap rs d .normal M:=⟨.inl rfl,by rw[h,D]⟩
def sL{av:Type}:Nat->List K->(List (Nat×K)->Option av)->Option av
 |_,[],k=>k []
 |n,d::ds,k=>sL (n+1) ds λ r=>k ((n,d)::r)
theorem Be{av:Type}:∀(n:Nat)(ds:List K)(k:List (Nat×K)->Option av),sL n ds k=k (vd.go n ds)
 |_,[],_=>rfl
 |n,d::ds,k=>by rw[sL,Be (n+1) ds];rfl
theorem adH(hT:di P ap){f:FuncId}{fn:Func}{c:Code}{ds:List K}{d:K}{rs:List ResultVar}{n:Nat}{s:List (Nat×K)}(hf:P.funcs[f]?=some fn)(Z:fn.body=some c)(iX:fn.ntmps=n)(mm:fn.results.toList=rs)(hn:Nat.ble ds.length n=true)(hs:sL 0 ds some=some s)
 (h:∀w cl,aP P ⟨n,w,cl,λ _=>False,[],[]⟩ c (Fin ap rs d) ⟨s,[],[]⟩):bc P f ds d:=by
 subst iX;subst mm;rw[Be] at hs;cases hs;exact adI hT hf Z (Nat.le_of_ble_eq_true hn) h
section
variable{o:Oper}{l0 l:List Oper}{s:List (Nat×K)}{b:List (Nat×List K)}{g:List (Nat×Gr)}{t:Nat}{d:K}
theorem qD{n:Nat}(D:o.dst=some t)(U:Nat.blt t n=true):wT n o.dst=true:=by rw[D];exact U
theorem bh(hq:dN P o (kv s) (kv b) d none)(hg:gd l0 o (kv s)=some true)(D:o.dst=some t)(U:Nat.blt t Γ.n=true)(h:bq P Γ l0 Q l ⟨(t,d)::s,b,g⟩):bq P Γ l0 Q (o::l) ⟨s,b,g⟩:=
 Oz (M:=⟨s,b,g⟩) hq hg (qD D U) (λ p hp=>by cases hp) (by rw[D];exact h)
theorem yn{nm:Nat}{cs:List K}(hq:dN P o (kv s) (kv b) d (some (nm,cs)))(hg:gd l0 o (kv s)=some true)(D:o.dst=some t)(U:Nat.blt t Γ.n=true)(hf:kv b nm=none)(h:bq P Γ l0 Q l ⟨(t,d)::s,(nm,cs)::b,g⟩):bq P Γ l0 Q (o::l) ⟨s,b,g⟩:=
 Oz (M:=⟨s,b,g⟩) hq hg (qD D U) (λ p hp=>by cases hp;exact hf) (by rw[D];exact h)
def vZ{av:Type}:Nat->List (Nat×List K)->(Nat->Option av)->Option av
 |n,[],k=>k n
 |n,_::l,k=>vZ (n+1) l k
theorem VA{nm:Nat}{ty:TypeId}{x:Operand}{dx:K}{cs:List K}(ho:o.op=.box ty x)(_:vZ 0 b some=some nm)(T:ev (kv s) x=some dx)(J:kE dx=true)(cR:mE dx some=some cs)(hg:gd l0 o (kv s)=some true)(D:o.dst=some t)(U:Nat.blt t Γ.n=true)(hf:kv b nm=none)(h:bq P Γ l0 Q l ⟨(t,.ptr nm 0)::s,(nm,cs)::b,g⟩):bq P Γ l0 Q (o::l) ⟨s,b,g⟩:=
 yn (FY nm ho T J cR) hg D U hf h
theorem VD(hT:di P ap){nm:Nat}{ty:TypeId}{i:TI}{cs:List K}(ho:o.op=.alloc ty)(_:vZ 0 b some=some nm)(ht:ap ty=some i)(J:kE (ki i.zero)=true)(cR:qC i.zero (λ d=>mE d some)=some cs)(hg:gd l0 o (kv s)=some true)(D:o.dst=some t)(U:Nat.blt t Γ.n=true)(hf:kv b nm=none)(h:bq P Γ l0 Q l ⟨(t,.ptr nm 0)::s,(nm,cs)::b,g⟩):bq P Γ l0 Q (o::l) ⟨s,b,g⟩:=
 yn (wH hT nm ho ht J cR) hg D U hf h
theorem nP(hT:di P ap)(hq:ax ap (kv s) (kv b) o.op=some d)(hg:gd l0 o (kv s)=some true)(D:o.dst=some t)(U:Nat.blt t Γ.n=true)(h:bq P Γ l0 Q l ⟨(t,d)::s,b,g⟩):bq P Γ l0 Q (o::l) ⟨s,b,g⟩:=bh (tN hT hq) hg D U h
theorem VE(hg:gd l0 o (kv s)=some false)(D:o.dst=some t)(U:Nat.blt t Γ.n=true)(h:bq P Γ l0 Q l ⟨(t,.p (.raw undef))::s,b,g⟩):bq P Γ l0 Q (o::l) ⟨s,b,g⟩:=
 V7 (M:=⟨s,b,g⟩) hg (qD D U) (by rw[D];exact h)
theorem VF(hT:di P ap){ty:TypeId}{x y:Operand}{nm of:Nat}{cs aS:List K}{dy:K}{i:TI}(ho:o.op=.store ty x y)(D:o.dst=none)(ht:ap ty=some i)(T:ev (kv s) x=some (.ptr nm of))(Z:kv b nm=some cs)(hy:ev (kv s) y=some dy)
 (U:ux dy=true)(ci:Nat.beq dy.cells.length i.sz=true)(cF:tD cs of dy some=some aS)(hg:gd l0 o (kv s)=some true)(h:bq P Γ l0 Q l ⟨s,(nm,aS)::b,g⟩):bq P Γ l0 Q (o::l) ⟨s,b,g⟩:=by
 obtain⟨A,F⟩:=UE cF;cases F;exact wI (M:=⟨s,b,g⟩) hg (Nu hT ho D ht T Z hy U (Nat.eq_of_beq_eq_true ci) A) h
theorem oE(hT:di P ap){ty:TypeId}{x y:Operand}{gn n m el z1 z2:Nat}{z3:Value}{ps qs:List Pl}{dy:K}{i:TI}(ho:o.op=.call {callee:=.builtin .append,args:=#[x,y],argTypes:=#[ty,ty]})(ht:ap ty=some ⟨.slice el,z1,z2,z3⟩)(ek:ap el=some i)(gX:Nat.beq i.zero.cells.size i.sz=true)(py:Nat.blt 0 i.sz=true)
 (hg:gd l0 o (kv s)=some true)(D:o.dst=some t)(U:Nat.blt t Γ.n=true)(T:ev (kv s) x=some (.aW gn n ps))(hc:kv g gn=some ⟨el,i.sz,n⟩)(hy:ev (kv s) y=some dy)(lZ:nK dy=some (m,qs))(d6:qs.length=m*i.sz)
 (gt:n+m<=maxLen)(gF:(n+m)*i.bytes<=140737488355328)(h:bq P Γ l0 Q l ⟨(t,.aW gn (n+m) (ps++qs))::s,b,(gn,⟨el,i.sz,n+m⟩)::g⟩):bq P Γ l0 Q (o::l) ⟨s,b,g⟩:=
 wI (M:=⟨s,b,g⟩) hg (Wb hT ho ht ek (Nat.eq_of_beq_eq_true gX) (by simpa[Nat.blt_eq] using py) (qD D U) T hc hy lZ d6 gt gF) (by rw[D];exact h)
variable{n:Nat}{B B0:List (Nat×List K)}
variable{ay:List Nat}{aE:List (Nat×Nat)}{ix:Nat}
theorem cV(hq:dN P o (kv s) (kv B) d none)(hg:gd l0 o (kv s)=some true)(D:o.dst=some t)(h:cJ P n l0 B B0 aG (ix+1) ay aE l ⟨(t,d)::s,b,g⟩):cJ P n l0 B B0 aG ix ay aE (o::l) ⟨s,b,g⟩:=
 .inl ⟨d,none,hg,.inl hq,λ p hp=>(by cases hp),by rw[D];exact h⟩
theorem sj{nm:Nat}{cs:List K}(hq:dN P o (kv s) (kv B) d (some (nm,cs)))(hg:gd l0 o (kv s)=some true)(D:o.dst=some t)(hf:kv b nm=none)(p5:kv B nm=none)(h:cJ P n l0 B B0 aG (ix+1) ay aE l ⟨(t,d)::s,(nm,cs)::b,g⟩):cJ P n l0 B B0 aG ix ay aE (o::l) ⟨s,b,g⟩:=
 .inl ⟨d,some (nm,cs),hg,.inl hq,λ p hp=>(by cases hp;exact⟨hf,p5⟩),by rw[D];exact h⟩
theorem adX{nm:Nat}{ty:TypeId}{x:Operand}{dx:K}{cs:List K}(ho:o.op=.box ty x)(_:vZ 0 b some=some nm)(T:ev (kv s) x=some dx)(J:kE dx=true)(cR:mE dx some=some cs)(hg:gd l0 o (kv s)=some true)(D:o.dst=some t)(hf:kv b nm=none)(p5:kv B nm=none)(h:cJ P n l0 B B0 aG (ix+1) ay aE l ⟨(t,.ptr nm 0)::s,(nm,cs)::b,g⟩):cJ P n l0 B B0 aG ix ay aE (o::l) ⟨s,b,g⟩:=
 sj (FY nm ho T J cR) hg D hf p5 h
theorem adY(hT:di P ap){nm:Nat}{ty:TypeId}{i:TI}{cs:List K}(ho:o.op=.alloc ty)(_:vZ 0 b some=some nm)(ht:ap ty=some i)(J:kE (ki i.zero)=true)(cR:qC i.zero (λ d=>mE d some)=some cs)(hg:gd l0 o (kv s)=some true)(D:o.dst=some t)(hf:kv b nm=none)(p5:kv B nm=none)(h:cJ P n l0 B B0 aG (ix+1) ay aE l ⟨(t,.ptr nm 0)::s,(nm,cs)::b,g⟩):cJ P n l0 B B0 aG ix ay aE (o::l) ⟨s,b,g⟩:=
 sj (wH hT nm ho ht J cR) hg D hf p5 h
theorem E7(hT:di P ap)(hq:ax ap (kv s) (kv B) o.op=some d)(hg:gd l0 o (kv s)=some true)(D:o.dst=some t)(h:cJ P n l0 B B0 aG (ix+1) ay aE l ⟨(t,d)::s,b,g⟩):cJ P n l0 B B0 aG ix ay aE (o::l) ⟨s,b,g⟩:=cV (tN hT hq) hg D h
theorem TD(hT:di P ap)(hq:ax ap (kv s) (kv B0) o.op=some d)(hg:gd l0 o (kv s)=some true)(D:o.dst=some t)(he:Bd l0 o=true)(h:cJ P n l0 B B0 aG (ix+1) ay aE l ⟨(t,d)::s,b,g⟩):cJ P n l0 B B0 aG ix ay aE (o::l) ⟨s,b,g⟩:=
 .inl ⟨d,none,hg,.inr ⟨he,tN hT hq⟩,λ p hp=>(by cases hp),by rw[D];exact h⟩
theorem adZ(hg:gd l0 o (kv s)=some false)(D:o.dst=some t)(h:cJ P n l0 B B0 aG (ix+1) ay aE l ⟨(t,.p (.raw undef))::s,b,g⟩):cJ P n l0 B B0 aG ix ay aE (o::l) ⟨s,b,g⟩:=
 .inr (.inl ⟨hg,by rw[D];exact h⟩)
theorem aeR{e:aC}(aT:h2 Γ e){nm k:Nat}{vs us:List Value}{el:TypeId}{cs:List K}(Z:e.bx nm=some k)(J:e.w.heap[k]?=some (.cells vs.toArray el (0,0)))(hr:DReps e us cs):I6 Γ e {e with w:=e.w.setRow k us.toArray} nm cs:=by
 obtain⟨A,F,O,h4⟩:=aT.bx nm k Z;have ib:∀j,j≠k->(e.w.setRow k us.toArray).heap[j]?=e.w.heap[j]?:=λ j hj=>setRow_other e.w k j _ hj
 have I:Ends e {e with w:=e.w.setRow k us.toArray}:=by
  refine⟨λ bf o v ea hv=>?_,λ _ _ h=>h,λ _ au h=>⟨au,h,rfl,rfl,Nat.le_refl _⟩,λ j g au cur h5 h6 h7=>⟨h5,cur,?_,rfl⟩⟩
  ·have b9:bf≠k:=λ ab=>by subst ab;exact absurd (ea 0 O) (by omega)
   exact⟨ea,by show(e.w.setRow k us.toArray).cell? _=_;rw[World.cell?_of_block (w:=e.w) (ib bf b9)];exact hv⟩
  ·show(e.w.setRow k us.toArray).heap[j]?=_;rw[ib j (λ ab=>by subst ab;rw[h4] at h5;cases h5)];exact h7
 refine⟨I,?_,rfl,rfl,⟨k,us,el,Z,FX J,hr.next I⟩,λ c ds b9 jd=>?_⟩
 ·refine⟨⟨aT.kept.os,aT.kept.tape,aT.kept.output,by show _<=(e.w.setRow k us.toArray).heap.size;rw[setRow_size];exact aT.kept.size,λ j hj ho=>?_⟩,aT.cl,λ bf j hj=>?_,aT.inj,λ j g hg=>?_,aT.kb⟩
  ·show(e.w.setRow k us.toArray).heap[j]?=_;rw[ib j (λ ab=>by subst ab;rcases F with F|F<;>first|omega|exact ho F)];exact aT.kept.block j hj ho
  ·obtain⟨h5,h6,h7,h8⟩:=aT.bx bf j hj;exact⟨by show j<(e.w.setRow k us.toArray).heap.size;rw[setRow_size];exact h5,h6,h7,h8⟩
  ·obtain⟨au,cur,h5,h6,h7,h8,h9⟩:=aT.gr j g hg;refine⟨au,cur,h5,by show j<(e.w.setRow k us.toArray).heap.size;rw[setRow_size];exact h6,h7,h8,?_⟩;show(e.w.setRow k us.toArray).heap[j]?=_;rw[ib j (λ ab=>by subst ab;rw[h4] at hg;cases hg)];exact h9
 ·obtain⟨iG,eY,Ds,h5,h6,h7⟩:=jd;refine⟨iG,eY,Ds,h5,?_,h7.next I⟩;show(e.w.setRow k us.toArray).heap[iG]?=_;rw[ib iG (λ ab=>b9 (by subst ab;exact aT.inj _ _ _ h5 Z))];exact h6
theorem afj(hT:di P ap){S:Nat->Option K}{ty:TypeId}{x y:Operand}{nm of:Nat}{cs aS:List K}{dy:K}{i:TI}(ho:o.op=.store ty x y)(D:o.dst=none)(ht:ap ty=some i)(T:ev S x=some (.ptr nm of))(hy:ev S y=some dy)
 (U:ux dy=true)(ci:Nat.beq dy.cells.length i.sz=true)(cF:tD cs of dy some=some aS):I1 P o S nm cs aS:=by
 intro Γ a e aT hs jd;obtain⟨DZ,cF⟩:=UE cF;cases cF;have A:=hs x (by rw[ho];simp[Op.operands]) _ T;have F:=hs y (by rw[ho];simp[Op.operands]) _ hy;have J:kE dy=true:=by cases dy<;>first|exact U|rfl
 have hr:=uD F J;generalize dG:a.eval x=vx at A;cases A with
 |ptr A=>
  refine⟨by rw[A];simp,?_⟩;obtain⟨k,vs,el,O,h4,h5⟩:=jd (by rw[A];simp);rename_i k0;obtain rfl:k=k0:=by rw[O] at A;cases A;rfl
  have ahu:=Nat.eq_of_beq_eq_true ci;have cD:(a.eval y).cells.size=i.sz:=by have:=hr.1;simp at this;omega
  have Ro:=run_storeCells_at P k of el (a.eval y).cells.toList 0 vs.toArray e.w h4 (by have:=hr.1;have:=h5.1;simp at*;omega) (R8 F U);unfold Oper.wp;have e1:(execOp a.eval o).run P e.w=.ok .skip (e.w.setRow k (vs.take of++(a.eval y).cells.toList++vs.drop (of+(a.eval y).cells.toList.length)).toArray):=by obtain⟨dst,op,type,pos,after,guard⟩:=o;simp only at ho;subst ho;simp only[Nat.add_zero] at Ro;simp[execOp,Instr.storeAt,Instr.sureAddr,dG,storeVar,run_sizeOf hT ht,cD,Ro]
  rw[e1];refine⟨rfl,_,rfl,aeR aT O h4 ?_⟩;unfold stored;rw[hr.1];exact((h5.take of).append hr).append (h5.drop _)
theorem uJ(hT:di P ap){ty:TypeId}{x y:Operand}{nm of:Nat}{cs aS:List K}{dy:K}{i:TI}(ho:o.op=.store ty x y)(D:o.dst=none)(ht:ap ty=some i)(T:ev (kv s) x=some (.ptr nm of))(Z:kv b nm=some cs)(hy:ev (kv s) y=some dy)
 (U:ux dy=true)(ci:Nat.beq dy.cells.length i.sz=true)(cF:tD cs of dy some=some aS)(hg:gd l0 o (kv s)=some true)(hB:kv B nm=none)(hD:ay.contains nm=false\/EI l0 o ix=true)(h:cJ P n l0 B B0 aG (ix+1) (nm::ay) aE l ⟨s,(nm,aS)::b,g⟩):cJ P n l0 B B0 aG ix ay aE (o::l) ⟨s,b,g⟩:=
 .inr (.inr (.inl ⟨nm,cs,aS,hg,D,hB,hD,Z,afj hT ho D ht T hy U ci cF,h⟩))
theorem pN.post{e:aC}{w:World}{gn:Nat}{au G0:Gr}{k:Option Nat}{v:Value}{d:K}(h:pN e w gn au k)(aT:h2 Γ e)(hg:e.gi gn=some G0)(ek:au.el=G0.el)(ci:au.sz=G0.sz)(cD:G0.len<=au.len)(hr:bz (e.more w gn au k) v d):IN Γ e (e.more w gn au k) gn au v d:=
 ⟨h.ends aT hg ek ci cD,h.ok aT hg ek,rfl,λ _=>rfl,λ _ _ Z=>h.box aT hg ek ci cD Z,hr⟩
theorem X6(hT:di P ap){S:Nat->Option K}{ty:TypeId}{x y:Operand}{gn n m el z1 z2:Nat}{z3:Value}{ps qs:List Pl}{dy:K}{i:TI}(ho:o.op=.call {callee:=.builtin .append,args:=#[x,y],argTypes:=#[ty,ty]})(ht:ap ty=some ⟨.slice el,z1,z2,z3⟩)(ek:ap el=some i)(gX:Nat.beq i.zero.cells.size i.sz=true)(py:Nat.blt 0 i.sz=true)
 (T:ev S x=some (.aW gn n ps))(hy:ev S y=some dy)(lZ:nK dy=some (m,qs))(d6:qs.length=m*i.sz)(gt:n+m<=maxLen)(gF:(n+m)*i.bytes<=140737488355328):GStep P o S gn (some ⟨el,i.sz,n⟩) ⟨el,i.sz,n+m⟩ (.aW gn (n+m) (ps++qs)):=by
 intro Γ a e aT hs fH;have cj:=hs x (by rw[ho];simp[Op.operands,Call.operands]) _ T;have fw:=x3 (hs y (by rw[ho];simp[Op.operands,Call.operands]) _ hy) lZ;obtain⟨v,aM,k,c8,qa,px⟩:=Je hT aT (ty:=o.type) ht ek (Nat.eq_of_beq_eq_true gX) (by simpa[Nat.blt_eq] using py) cj fH fw d6 gt gF;unfold Oper.wp;have e1:(execOp a.eval o).run P e.w=.ok (.value v) aM:=by obtain⟨dst,op,type,pos,after,guard⟩:=o;simp only at ho;subst ho;simp only[execOp,resolve,invoke,builtin,Sem.run_bind,Sem.run_pure,Result.andThen_ok,List.map_toArray,List.map_cons,List.map_nil,c8]
 rw[e1];exact⟨v,_,rfl,rfl,qa.post aT fH rfl rfl (by simp) px⟩
theorem h2.group{e:aC}(aT:h2 Γ e){gn:Nat}(fH:e.gi gn=none)(au:Gr):h2 Γ {e with gi:=λ h=>if h=gn then some au else e.gi h}/\Ends e {e with gi:=λ h=>if h=gn then some au else e.gi h}:=by
 have qV:∀k,e.gr k≠some gn:=λ k J=>by obtain⟨au,_,h,_⟩:=aT.gr k gn J;rw[fH] at h;cases h
 refine⟨⟨aT.kept,aT.cl,aT.bx,aT.inj,λ k bF J=>?_,aT.kb⟩,⟨λ _ _ _ A F=>⟨A,F⟩,λ _ _ h=>h,λ bF m7 h=>⟨m7,?_,rfl,rfl,Nat.le_refl _⟩,λ _ _ _ cur A _ O=>⟨A,cur,O,rfl⟩⟩⟩
 ·obtain⟨m7,cur,A,F⟩:=aT.gr k bF J;exact⟨m7,cur,by show(if bF=gn then _ else e.gi bF)=_;rw[if_neg (λ ab=>qV k (by rw[<-ab];exact J))];exact A,F⟩
 ·show(if bF=gn then _ else e.gi bF)=_;rw[if_neg (λ ab=>by rw[ab,fH] at h;cases h)];exact h
theorem X7(hT:di P ap){S:Nat->Option K}{ty:TypeId}{x y:Operand}(gn:Nat){n m el z1 z2:Nat}{z3:Value}{ps qs:List Pl}{dy:K}{i:TI}(ho:o.op=.call {callee:=.builtin .append,args:=#[x,y],argTypes:=#[ty,ty]})(ht:ap ty=some ⟨.slice el,z1,z2,z3⟩)(ek:ap el=some i)(gX:Nat.beq i.zero.cells.size i.sz=true)(py:Nat.blt 0 i.sz=true)
 (T:ev S x=some (.p (.sl true n ps)))(db:ps.length=n*i.sz)(hy:ev S y=some dy)(lZ:nK dy=some (m,qs))(d6:qs.length=m*i.sz)(gt:n+m<=maxLen)(gF:(n+m)*i.bytes<=140737488355328):GStep P o S gn none ⟨el,i.sz,n+m⟩ (.aW gn (n+m) (ps++qs)):=by
 intro Γ a e aT hs fH;have cj:=hs x (by rw[ho];simp[Op.operands,Call.operands]) _ T;have fw:=x3 (hs y (by rw[ho];simp[Op.operands,Call.operands]) _ hy) lZ;obtain⟨vF,GI⟩:=aT.group fH ⟨el,i.sz,n⟩;have du:bz {e with gi:=λ h=>if h=gn then some ⟨el,i.sz,n⟩ else e.gi h} (a.eval x) (.aW gn n ps):=by
  generalize a.eval x=vx at cj;cases cj with
  |p h=>have F:=(h.next GI).low;obtain⟨am,bS,hv,_,_,_,h6,_⟩:=rf h;exact .aW F ⟨⟨el,i.sz,n⟩,am,bS,by simp,hv,Nat.le_refl _,db,.inl (h6 rfl)⟩
 obtain⟨v,aM,k,c8,qa,px⟩:=Je hT vF (ty:=o.type) ht ek (Nat.eq_of_beq_eq_true gX) (by simpa[Nat.blt_eq] using py) du (by simp) (fw.next GI) d6 gt gF;have tc:=qa.post vF (G0:=⟨el,i.sz,n⟩) (by simp) rfl rfl (by simp) px;unfold Oper.wp;have e1:(execOp a.eval o).run P e.w=.ok (.value v) aM:=by obtain⟨dst,op,type,pos,after,guard⟩:=o;simp only at ho;subst ho;simp only[execOp,resolve,invoke,builtin,Sem.run_bind,Sem.run_pure,Result.andThen_ok,List.map_toArray,List.map_cons,List.map_nil,c8]
 rw[e1];refine⟨v,_,rfl,rfl,⟨GI.trans tc.ends,tc.ok,tc.bx,λ h=>?_,λ c ds Z=>tc.other c ds (Z.ends GI rfl),tc.rep⟩⟩;rw[tc.gi]
 by_cases ab:h=gn
 ·simp[ab]
 ·simp[ab]
theorem tx(hT:di P ap){ty:TypeId}{x y:Operand}{gn fU m el z1 z2:Nat}{z3:Value}{ps qs:List Pl}{dy:K}{i:TI}(ho:o.op=.call {callee:=.builtin .append,args:=#[x,y],argTypes:=#[ty,ty]})(ht:ap ty=some ⟨.slice el,z1,z2,z3⟩)(ek:ap el=some i)(gX:Nat.beq i.zero.cells.size i.sz=true)(py:Nat.blt 0 i.sz=true)
 (hg:gd l0 o (kv s)=some true)(D:o.dst=some t)(T:ev (kv s) x=some (.aW gn fU ps))(hc:kv g gn=some ⟨el,i.sz,fU⟩)(hL:EM o aE gn=true)(hy:ev (kv s) y=some dy)(lZ:nK dy=some (m,qs))(d6:qs.length=m*i.sz)
 (gt:fU+m<=maxLen)(gF:(fU+m)*i.bytes<=140737488355328)(h:cJ P n l0 B B0 aG (ix+1) ay ((gn,t)::aE) l ⟨(t,.aW gn (fU+m) (ps++qs))::s,b,(gn,⟨el,i.sz,fU+m⟩)::g⟩):cJ P n l0 B B0 aG ix ay aE (o::l) ⟨s,b,g⟩:=
 .inr (.inr (.inr ⟨gn,_,_,t,hg,D,by simp[uY,ho],hL,by rw[hc];exact X6 hT ho ht ek gX py T hy lZ d6 gt gF,by rw[D];exact h⟩))
theorem TC(hT:di P ap){ty:TypeId}{x y:Operand}(gn:Nat){fU m el z1 z2:Nat}{z3:Value}{ps qs:List Pl}{dy:K}{i:TI}(ho:o.op=.call {callee:=.builtin .append,args:=#[x,y],argTypes:=#[ty,ty]})(ht:ap ty=some ⟨.slice el,z1,z2,z3⟩)(ek:ap el=some i)(gX:Nat.beq i.zero.cells.size i.sz=true)(py:Nat.blt 0 i.sz=true)
 (hg:gd l0 o (kv s)=some true)(D:o.dst=some t)(T:ev (kv s) x=some (.p (.sl true fU ps)))(db:ps.length=fU*i.sz)(hc:kv g gn=none)(hL:EM o aE gn=true)(hy:ev (kv s) y=some dy)(lZ:nK dy=some (m,qs))(d6:qs.length=m*i.sz)
 (gt:fU+m<=maxLen)(gF:(fU+m)*i.bytes<=140737488355328)(h:cJ P n l0 B B0 aG (ix+1) ay ((gn,t)::aE) l ⟨(t,.aW gn (fU+m) (ps++qs))::s,b,(gn,⟨el,i.sz,fU+m⟩)::g⟩):cJ P n l0 B B0 aG ix ay aE (o::l) ⟨s,b,g⟩:=
 .inr (.inr (.inr ⟨gn,_,_,t,hg,D,by simp[uY,ho],hL,by rw[hc];exact X7 hT gn ho ht ek gX py T db hy lZ d6 gt gF,by rw[D];exact h⟩))
def oZ{av:Type}:List Nat->List (Nat×List K)->(List (Nat×List K)->Option av)->Option av
 |_,[],k=>k []
 |ws,(m,cs)::l,k=>bif ws.contains m then oZ ws l k else oZ (m::ws) l λ r=>k ((m,cs)::r)
theorem AK{av:Type}:∀(m:List (Nat×List K))(ws:List Nat)(k:List (Nat×List K)->Option av)(r:av),oZ ws m k=some r->∃B,k B=some r/\(B.map (·.1)).Nodup/\(∀b∈B.map (·.1),b∉ws)/\wD m B:=by
 intro m;induction m with
 |nil=>intro ws k r h;exact⟨[],h,by simp,λ b Z=>by simp at Z,trivial⟩
 |cons p m ih=>
  intro ws k r h;obtain⟨q,ds⟩:=p;have U9:∀(B:List (Nat×List K)),q∉B.map (·.1)->wD m B->wD ((q,ds)::m) B:=by
   intro B;induction B with
   |nil=>intro _ _;trivial
   |cons x B aaX=>intro hq hs;simp only[List.map_cons,List.mem_cons,not_or] at hq;exact⟨by rw[da,if_neg hq.1];exact hs.1,aaX hq.2 hs.2⟩
  simp only[oZ] at h;cases L:ws.contains q
  ·rw[L] at h;simp only[cond_false] at h;obtain⟨B,h5,h6,h7,h8⟩:=ih _ _ _ h;have hq:q∉B.map (·.1):=λ hq=>h7 q hq (by simp)
   refine⟨(q,ds)::B,h5,?_,λ b Z=>?_,⟨by rw[da];simp,U9 B hq h8⟩⟩
   ·simp only[List.map_cons,List.nodup_cons];exact⟨hq,h6⟩
   ·simp only[List.map_cons,List.mem_cons] at Z;rcases Z with rfl|Z
    ·simpa using L
    ·exact λ h8=>h7 b Z (List.mem_cons_of_mem _ h8)
  ·rw[L] at h;simp only[cond_true] at h;obtain⟨B,h5,h6,h7,h8⟩:=ih _ _ _ h;have hm:q∈ws:=by simpa using L
   exact⟨B,h5,h6,h7,U9 B (λ hq=>h7 q hq hm) h8⟩
theorem OI{M:St}(k:Nat)(ws:List Nat){id:Nat}{l l1 l2:List Oper}{B:List (Nat×List K)}(hs:mD k l (λ a=>la k l λ b=>some (a,b))=some (l1,l2))(hv:oZ ws M.b some=some B)(hm:P.follows .mixedOrders=true)(hB:ra l.toArray Γ.n=true)(hT:uN l.toArray k=true)(h:cJ P Γ.n l B M.b (bq P Γ l Q l2) 0 [] [] l1 M):aP P Γ (.region id l.toArray true) Q M:=by obtain⟨A,hs⟩:=sq hs;obtain⟨F,hs⟩:=nY hs;cases hs;obtain⟨o4,O,_,_,h4⟩:=AK _ _ _ _ hv;cases O;refine OG B h4 (l.take k) (l.drop k) (List.take_append_drop k l).symm hm hB ?_ h;rw[List.length_take,Nat.min_eq_left A];exact hT
theorem OH{M:St}(ws:List Nat){id:Nat}{l:List Oper}{B:List (Nat×List K)}(hv:oZ ws M.b some=some B)(hm:P.follows .mixedOrders=true)(hB:ra l.toArray Γ.n=true)(h:cJ P Γ.n l B M.b (Q .normal) 0 [] [] l M):aP P Γ (.region id l.toArray true) Q M:=by
 obtain⟨o4,O,_,_,h4⟩:=AK _ _ _ _ hv;cases O;refine OG B h4 l [] (by simp) hm hB ?_ ?_
 ·unfold uN;simp only[List.all_eq_true,List.mem_range,Bool.or_eq_true,decide_eq_true_eq];intro t ht;left
  simpa using ht
 ·have mono:∀(B0:List (Nat×List K))(iM:List Oper)(ix:Nat)(ay:List Nat)(aE:List (Nat×Nat))(M:St)(aG tI:St->Prop),(∀M,aG M->tI M)->cJ P Γ.n l B B0 aG ix ay aE iM M->cJ P Γ.n l B B0 tI ix ay aE iM M:=by
   intro B0 iM;induction iM with
   |nil=>intro ix ay aE M aG tI J h;exact J M h
   |cons o iM ih=>
    intro ix ay aE M aG tI J h;rcases h with⟨d,nb,A,F,O,h4⟩|⟨A,F⟩|⟨nm,cs,aS,A,F,O,h4,h5,h6,h7⟩|⟨g,au,d,t,A,F,h0,O,h4,h5⟩
    ·exact .inl ⟨d,nb,A,F,O,ih _ _ _ _ _ _ J h4⟩
    ·exact .inr (.inl ⟨A,ih _ _ _ _ _ _ J F⟩)
    ·exact .inr (.inr (.inl ⟨nm,cs,aS,A,F,O,h4,h5,h6,ih _ _ _ _ _ _ J h7⟩))
    ·exact .inr (.inr (.inr ⟨g,au,d,t,A,F,h0,O,h4,ih _ _ _ _ _ _ J h5⟩))
  exact mono M.b l 0 [] [] M _ _ (λ cb bQ=>kM bQ) h
end
variable{S:Nat->Option K}{B:Nat->Option (List K)}{o:Oper}
def H3(cs:List K)(dE:Nat)(ds:List K):List K:=cs.take dE++ds++cs.drop (dE+ds.length)
def Mi{av:Type}(cs:List K)(dE:Nat)(ds:List K)(k:List K->Option av):Option av:=
 mD dE cs λ a=>la dE cs λ b=>la ds.length b λ c=>m8 ds c λ r=>m8 a r k
theorem acQ{av:Type}{cs:List K}{dE:Nat}{ds:List K}{k:List K->Option av}{r:av}(h:Mi cs dE ds k=some r):dE+ds.length<=cs.length/\k (H3 cs dE ds)=some r:=by unfold Mi at h;obtain⟨A,h⟩:=sq h;obtain⟨F,h⟩:=nY h;obtain⟨O,h⟩:=nY h;rw[rC,rC] at h;refine⟨by simp at O;omega,?_⟩;unfold H3;rw[List.append_assoc];rw[List.drop_drop] at h;exact h
def w4(Cs:Nat->Option (Nat×Nat)):List K->List (Nat×K)->Option (List K)
 |cs,[]=>some cs
 |cs,(i,d)::rest=>match Cs i with
  |some (dE,sz)=>bif kE d&&Nat.beq d.cells.length sz then mE d λ ds=>Mi cs dE ds λ r=>w4 Cs r rest else none
  |none=>none
theorem XN(us:List Value):∀(k dE:Nat)(cs:Array Value),dE+k+us.length<=cs.size->((us.zipIdx k).foldl (λ cs(c,j)=>cs.setIfInBounds (dE+j) c) cs).toList=cs.toList.take (dE+k)++us++cs.toList.drop (dE+k+us.length):=by
 induction us with
 |nil=>intro k dE cs h;simp
 |cons u us ih=>
  intro k dE cs h;rw[List.zipIdx_cons,List.foldl_cons];simp only[List.length_cons] at h;rw[ih (k+1) dE _ (by simp;omega)];have J:dE+k<cs.toList.length:=by simp;omega
  apply List.ext_getElem?;intro j;simp only[Array.toList_setIfInBounds,List.length_cons];rcases Nat.lt_trichotomy j (dE+k) with A|A|A
  ·rw[List.append_assoc,List.append_assoc,List.getElem?_append_left (by simp;omega),List.getElem?_append_left (by simp;omega),List.getElem?_take,List.getElem?_take,if_pos (by omega),if_pos A,List.getElem?_set_ne (by omega)]
  ·subst A;rw[List.append_assoc,List.append_assoc,List.getElem?_append_left (by simp;omega),List.getElem?_append_right (by simp;omega),List.getElem?_take,if_pos (by omega)];simp only[List.length_take,Array.length_toList];rw[show dE+k-min (dE+k) cs.size=0 by simp at J;omega];rw[List.getElem?_set_self J]
   rfl
  ·rw[List.append_assoc,List.append_assoc];rcases Nat.lt_or_ge j (dE+k+1+us.length) with F|F
   ·rw[List.getElem?_append_right (by simp;omega),List.getElem?_append_left (by simp;omega),List.getElem?_append_right (by simp;omega)];simp only[List.length_take,List.length_set,Array.length_toList];simp only[Array.length_toList] at J;rw[show min (dE+(k+1)) cs.size=dE+k+1 by omega,show min (dE+k) cs.size=dE+k by omega,show j-(dE+k)=(j-(dE+k+1))+1 by omega];simp only[List.cons_append,List.getElem?_cons_succ];rw[List.getElem?_append_left (by omega)]
   ·rw[List.getElem?_append_right (by simp;omega),List.getElem?_append_right (by simp;omega),List.getElem?_append_right (by simp;omega),List.getElem?_append_right (by simp;omega)];simp only[List.length_take,List.length_set,Array.length_toList,List.length_cons,List.getElem?_drop];simp only[Array.length_toList] at J;rw[List.getElem?_set_ne (by omega)]
    congr 1
    omega
def IY(e:aC):List (Nat×Value)->List (Nat×K)->Prop
 |[],_=>True
 |(_,v)::l,(_,d)::m=>bz e v d/\IY e l m
 |_::_,[]=>False
theorem Dw{e:aC}(Cs:Nat->Option (Nat×Nat)):∀(gI:List (Nat×Value))(Ao:List (Nat×K))(cells:Array Value)(cs res:List K),DReps e cells.toList cs->gI.map (·.1)=Ao.map (·.1)->IY e gI Ao->w4 Cs cs Ao=some res->∃nV,Instr.fill Cs cells gI=some nV/\DReps e nV.toList res
 |[],Ao,cells,cs,res,hr,hm,_,h=>by
  have:Ao=[]:=by simpa using hm.symm
  subst this;simp only[w4,Option.some.injEq] at h;subst h;exact⟨cells,rfl,hr⟩
 |(i,v)::gI,[],cells,cs,res,hr,hm,_,h=>by simp at hm
 |(i,v)::gI,(j,d)::Ao,cells,cs,res,hr,hm,D,h=>by
  simp only[List.map_cons,List.cons.injEq] at hm;obtain⟨rfl,hm⟩:=hm;simp only[w4] at h;split at h
  ·rename_i dE sz hp;cases Z:(kE d&&Nat.beq d.cells.length sz)
   ·rw[Z] at h;cases h
   ·rw[Z] at h;simp only[cond_true,uZ] at h;obtain⟨dt,h⟩:=acQ h;simp only[Bool.and_eq_true] at Z;obtain⟨A,F⟩:=Z;have bB:=Nat.eq_of_beq_eq_true F;have hv:=uD D.1 A;have aaF:v.cells.size=sz:=by have:=hv.1;simp at this;omega
    have ea:cells.size=cs.length:=by have:=hr.1;simpa using this
    have Qq:=XN v.cells.toList 0 dE cells (by simp;omega);have hz:(v.cells.zipIdx.foldl (λ cs(c,j)=>cs.setIfInBounds (dE+j) c) cells).toList=cells.toList.take dE++v.cells.toList++cells.toList.drop (dE+v.cells.toList.length):=by simp only[Nat.add_zero] at Qq;rw[<-Qq,<-Array.foldl_toList,Array.toList_zipIdx]
    have kP:DReps e (v.cells.zipIdx.foldl (λ cs(c,j)=>cs.setIfInBounds (dE+j) c) cells).toList (H3 cs dE d.cells):=by rw[hz,H3,hv.1];exact((hr.take dE).append hv).append (hr.drop _)
    obtain⟨nV,h5,h6⟩:=Dw Cs gI Ao _ _ res kP hm D.2 h;refine⟨nV,?_,h6⟩;unfold Instr.fill;rw[hp];simp only[aaF];rw[if_neg (by simp;omega)];exact h5
  ·cases h
def tV{av:Type}(S:Nat->Option K):List (Nat×Operand)->(List (Nat×K)->Option av)->Option av
 |[],k=>k []
 |(i,x)::l,k=>match ev S x with
  |some d=>tV S l λ ds=>k ((i,d)::ds)
  |none=>none
theorem Gp{av:Type}{e:aC}{a:Act}:∀(l:List (Nat×Operand))(k:List (Nat×K)->Option av)(r:av),(∀x∈l.map (·.2),∀d,ev S x=some d->bz e (a.eval x) d)->tV S l k=some r->∃ds,(l.map λ p=>(p.1,a.eval p.2)).map (·.1)=ds.map (·.1)/\IY e (l.map λ p=>(p.1,a.eval p.2)) ds/\k ds=some r
 |[],k,r,_,h=>⟨[],rfl,trivial,h⟩
 |(i,x)::l,k,r,hs,h=>by
  simp only[tV] at h;split at h
  ·rename_i d A;obtain⟨ds,O,h4,h5⟩:=Gp l _ r (λ y hy=>hs y (by simp at hy⊢;exact .inr hy)) h;exact⟨(i,d)::ds,by simp only[List.map_cons] at O⊢;rw[O],⟨hs x (by simp) d A,h4⟩,h5⟩
  ·cases h
def FZ(ap:Nat->Option TI)(t:TypeId)(ds:List (Nat×K)):Option K:=match ap t with
 |some ⟨.struct fs,_,_,z⟩=>bif fs.all (λ f=>Nat.blt 0 f.2.2) then(match qC z (λ c=>mE c λ cs=>w4 (λ i=>(fs[i]?).map λ f=>(f.2.1,f.2.2)) cs ds) with
  |some cs=>some (.agg cs)
  |none=>none) else none
 |some ⟨.array _ el,_,_,z⟩=>match ap el with
  |some j=>match qC z (λ c=>mE c λ cs=>w4 (λ i=>some (i*j.sz,j.sz)) cs ds) with
   |some cs=>some (.agg cs)
   |none=>none
  |none=>none
 |_=>none
theorem We{P:Program}{w:World}{av ei:Type}(f:av->Sem ei)(g:av->ei)(l:Array av)(h:∀x∈l.toList,(f x).run P w=.ok (g x) w):(l.mapM f).run P w=.ok (l.map g) w:=by
 rw[Array.mapM_eq_mapM_toList];have:=Sr f g l.toList h;simp only[map_eq_pure_bind,Sem.run_bind,this,Result.andThen_ok,Sem.run_pure]
 congr 1
 apply Array.ext';simp
theorem A4(hT:di P ap){t:TypeId}{gI:Array (Nat×Operand)}{d:K}(ho:o.op=.build t gI)(hp:tV S gI.toList (FZ ap t)=some d)(hz:(match ap t with|some i=>kE (ki i.zero)|none=>false)=true):dN P o S B d none:=by
 refine jp λ a e hs=>?_
 obtain⟨ds,A,F,D⟩:=Gp (e:=e) (a:=a) gI.toList _ d (λ x T=>hs.1 x (by rw[ho];simp only[Op.operands];simpa using T)) hp;have xv:(gI.map λ(i,x)=>(i,a.eval x)).toList=gI.toList.map λ p=>(p.1,a.eval p.2):=by simp
 unfold FZ at D;split at D
 ·rename_i fs z1 z2 z ht;rw[ht] at hz;cases dF:fs.all (λ f=>Nat.blt 0 f.2.2)
  ·rw[dF] at D;cases D
  rw[dF] at D;simp only[cond_true] at D;split at D
  ·rename_i cs sV;rw[wR,uZ] at sV;cases D;obtain⟨d0,ec,J⟩:=hT.desc t _ ht;cases d0<;>simp only[jI,TK.struct.injEq,reduceCtorEq] at J
   rename_i sM;have vQ:=uD (wQ e z) hz;obtain⟨nV,O,h4⟩:=Dw (e:=e) _ _ ds z.cells (ki z).cells cs vQ A F sV;refine⟨.agg nV,?_,by have:=bz.agg (e:=e) h4.1 h4.2;simpa using this⟩;have aae:(sM.mapM λ f=>do pure (f.offset,<-sizeOf f.type):Sem (Array (Nat×Nat))).run P e.w=.ok (sM.map λ f=>(f.offset,P.cellsOf f.type)) e.w:=by
    refine We _ _ sM λ f hf=>?_
    have BC:(f.type,f.offset,P.cellsOf f.type)∈fs:=by rw[<-J];exact List.mem_map.2 ⟨f,hf,rfl⟩
    have rT:=List.all_eq_true.1 dF _ BC;have aai:0<P.cellsOf f.type:=by simpa[Nat.blt_eq] using rT
    rcases hi:P.info? f.type with _|i
    ·simp[Program.cellsOf,hi] at aai
    ·simp[sizeOf,typeInfo,hi,Program.cellsOf]
   have bH:(λ i=>(sM.map λ f=>(f.offset,P.cellsOf f.type))[i]?)=λ(i:Nat)=>(fs[i]?).map λ(f:TypeId×Nat×Nat)=>(f.2.1,f.2.2):=by
    funext i
    rw[<-J];simp;cases sM[i]?<;>rfl
   obtain⟨dst,op,type,pos,after,guard⟩:=o;simp only at ho;subst ho;have zu:(zeroValue t).run P e.w=.ok z e.w:=Az hT ht e.w;rw[<-bH] at O;simp only[execOp,Instr.build,Sem.run_bind,zu,Result.andThen_ok,run_underlying ec];rw[aae];simp only[Result.andThen_ok,xv,O,Sem.run_pure]
  ·cases D
 ·rename_i n el z1 z2 z ht;rw[ht] at hz;split at D
  ·rename_i j hj;split at D
   ·rename_i cs sV;rw[wR,uZ] at sV;cases D;obtain⟨d0,ec,J⟩:=hT.desc t _ ht;cases d0<;>simp only[jI,TK.array.injEq,reduceCtorEq] at J
    have vQ:=uD (wQ e z) hz;obtain⟨nV,O,h4⟩:=Dw (e:=e) _ _ ds z.cells (ki z).cells cs vQ A F sV;refine⟨.agg nV,?_,by have:=bz.agg (e:=e) h4.1 h4.2;simpa using this⟩;obtain⟨dst,op,type,pos,after,guard⟩:=o;simp only at ho;subst ho;have zu:(zeroValue t).run P e.w=.ok z e.w:=Az hT ht e.w;rw[J.2] at ec;simp only[execOp,Instr.build,Sem.run_bind,zu,Result.andThen_ok,run_underlying ec,run_sizeOf hT hj,xv,O,Sem.run_pure]
   ·cases D
  ·cases D
 ·cases D
end
end Go.Proofs.YtcnefjfboagbmaaGreat
end
section
namespace Go.Proofs.YtcnefjfboagbmaaGreat
open Go.RowKit
section
variable{P:Program}{ap:Nat->Option TI}{Γ:bN}{S:Nat->Option K}{B:Nat->Option (List K)}{o:Oper}
def wt(zc:List K):Nat->List K
 |0=>[]
 |n+1=>zc++wt zc n
theorem NW(zc:List K):∀n,(wt zc n).length=n*zc.length
 |0=>by simp[wt]
 |n+1=>by simp[wt,NW zc n,Nat.add_mul];omega
theorem NV(zc:List K):∀(n j:Nat),j<n*zc.length->(wt zc n)[j]?=zc[j%zc.length]?
 |0,j,h=>by omega
 |n+1,j,h=>by
  rw[wt];rcases Nat.lt_or_ge j zc.length with hj|hj
  ·rw[List.getElem?_append_left hj,Nat.mod_eq_of_lt hj]
  ·rw[List.getElem?_append_right hj,NV zc n _ (by rw[Nat.add_mul] at h;omega),Nat.mod_eq_sub_mod hj]
def FF{av:Type}(zc:List K):Nat->(List K->Option av)->Option av
 |0,k=>k []
 |n+1,k=>FF zc n λ r=>m8 zc r k
theorem NU{av:Type}(zc:List K):∀(n:Nat)(k:List K->Option av),FF zc n k=k (wt zc n)
 |0,k=>rfl
 |n+1,k=>by rw[FF,NU zc n,rC];rfl
def x9{av:Type}:List K->(List Pl->Option av)->Option av
 |[],k=>k []
 |.p (.raw v)::l,k=>x9 l λ r=>k (.raw v::r)
 |.p (.sl _ n ps)::l,k=>x9 l λ r=>k (.sl false n ps::r)
 |.aW _ n ps::l,k=>x9 l λ r=>k (.sl false n ps::r)
 |_,_=>none
def rq:List K->Option (List Pl)
 |[]=>some []
 |.p x::l=>(rq l).map (zZ x::·)
 |.aW _ n ps::l=>(rq l).map (Pl.sl false n ps::·)
 |_=>none
theorem Iy{av:Type}:∀(ds:List K)(k:List Pl->Option av),x9 ds k=(rq ds).bind k
 |[],k=>rfl
 |.p (.raw v)::l,k=>by simp only[x9,rq,Iy l];cases rq l<;>rfl
 |.p (.sl _ n ps)::l,k=>by simp only[x9,rq,Iy l];cases rq l<;>rfl
 |.aW _ n ps::l,k=>by simp only[x9,rq,Iy l];cases rq l<;>rfl
 |.agg _::l,k=>rfl
 |.bd _::l,k=>rfl
 |.ptr _ _::l,k=>rfl
 |.el _::l,k=>rfl
 |.arr _ _ _ _::l,k=>rfl
 |.fn _ _ _::l,k=>rfl
 |.any::l,k=>rfl
theorem NF:∀{ds:List K}{ps:List Pl}(_:rq ds=some ps),ds.length=ps.length/\∀(i:Nat) x,ps[i]?=some x->∃d,ds[i]?=some d/\∀e v,bz e v d->dm e v x
 |[],ps,h=>by simp only[rq,Option.some.injEq] at h;subst h;exact⟨rfl,λ i x h=>by simp at h⟩
 |.p y::l,ps,h=>by
  simp only[rq,Option.map_eq_some_iff] at h;obtain⟨qs,A,rfl⟩:=h;obtain⟨F,O⟩:=NF A;refine⟨by simp[F],λ i x T=>?_⟩;cases i with
  |zero=>simp only[List.getElem?_cons_zero,Option.some.injEq] at T;subst T;exact⟨_,rfl,λ e v hv=>by cases hv with|p h=>exact h.low⟩
  |succ i=>simpa using O i x (by simpa using T)
 |.aW g n ahP::l,ps,h=>by
  simp only[rq,Option.map_eq_some_iff] at h;obtain⟨qs,A,rfl⟩:=h;obtain⟨F,O⟩:=NF A;refine⟨by simp[F],λ i x T=>?_⟩;cases i with
  |zero=>simp only[List.getElem?_cons_zero,Option.some.injEq] at T;subst T;exact⟨_,rfl,λ e v hv=>by cases hv with|aW h _=>exact h⟩
  |succ i=>simpa using O i x (by simpa using T)
 |.agg _::l,ps,h=>by cases h
 |.bd _::l,ps,h=>by cases h
 |.ptr _ _::l,ps,h=>by cases h
 |.el _::l,ps,h=>by cases h
 |.arr _ _ _ _::l,ps,h=>by cases h
 |.fn _ _ _::l,ps,h=>by cases h
 |.any::l,ps,h=>by cases h
def F0(ap:Nat->Option TI)(t:TypeId)(len:Nat)(ds:List (Nat×K)):Option (List Pl):=match ap t with
 |some ⟨.slice el,_,_,_⟩=>match ap el with
  |some j=>bif kE (ki j.zero)&&Nat.beq (ki j.zero).cells.length j.sz&&Nat.ble (len*j.sz) 1000000&&Nat.blt 0 j.sz then(match qC j.zero (λ c=>mE c λ zc=>FF zc len λ z=>w4 (λ i=>some (i*j.sz,j.sz)) z ds) with
   |some cs=>bif cs.all K.leaf then x9 cs some else none
   |none=>none) else none
  |none=>none
 |_=>none
theorem abZ{e:aC}{us:List Value}{ps:List Pl}{n:Nat}{t:TypeId}(hn:n<=maxLen)(cD:us.length=ps.length)(ZF:∀v∈us,mr v=true)(hr:∀(i:Nat) v x,us[i]?=some v->ps[i]?=some x->dm e v x):
 bz (e.alloc (.cells us.toArray t) none) (.slice (some ⟨e.w.heap.size,0,none⟩) n n) (.p (.sl true n ps)):=by
 have hg:=aC.tM e (.cells us.toArray t) none;refine .p (CH (Nat.le_refl _) hn (λ h=>by cases h) (λ _=>rfl) (.inr ⟨_,0,rfl,λ i=>us.getD i undef,λ i x T=>?_⟩));have hi:i<us.length:=by rw[cD];exact(List.getElem?_eq_some_iff.1 T).1
 have hu:us[i]?=some us[i]:=List.getElem?_eq_getElem hi;have p6:us.getD i undef=us[i]:=by simp[hi]
 show _/\_=some (us.getD i undef)/\mr (us.getD i undef)=true/\dm _ (us.getD i undef) x;rw[p6];refine⟨λ k J=>?_,?_,ZF _ (List.getElem_mem hi),(hr i _ x hu T).next hg.ends⟩
 ·simp[aC.alloc] at J
 ·show(e.w.alloc _).cell? _=_;rw[cell_of_row _ _ (0+i) us.toArray t (0,0) (heap_alloc_new e.w _)];simp
theorem OP(hT:di P ap){t:TypeId}{len:Nat}{gI:Array (Nat×Operand)}{ps:List Pl}(ho:o.op=.buildSlice t len gI)(hp:tV S gI.toList (F0 ap t len)=some ps):dN P o S B (.p (.sl true len ps)) none:=by
 intro a e hs _;obtain⟨ds,A,F,D⟩:=Gp (e:=e) (a:=a) gI.toList _ ps (λ x T=>hs.1 x (by rw[ho];simp only[Op.operands];simpa using T)) hp;have xv:(gI.map λ(i,x)=>(i,a.eval x)).toList=gI.toList.map λ p=>(p.1,a.eval p.2):=by simp
 unfold F0 at D;split at D
 ·rename_i el z1 z2 z3 ht;split at D
  ·rename_i j hj;cases Z:(kE (ki j.zero)&&Nat.beq (ki j.zero).cells.length j.sz&&Nat.ble (len*j.sz) 1000000&&Nat.blt 0 j.sz)
   ·rw[Z] at D;cases D
   rw[Z] at D;simp only[cond_true] at D;simp only[Bool.and_eq_true] at Z;obtain⟨⟨⟨pk,GN⟩,GO⟩,Kj⟩:=Z;have yT:=Nat.eq_of_beq_eq_true GN;have YE:=Nat.le_of_ble_eq_true GO;have GP:0<j.sz:=by simpa[Nat.blt_eq] using Kj
   split at D
   ·rename_i cs sV;rw[wR,uZ,NU] at sV;cases qU:cs.all K.leaf
    ·rw[qU] at D;cases D
    rw[qU] at D;simp only[cond_true,Iy,Option.bind_fun_some] at D;obtain⟨d0,ec,J⟩:=hT.desc t _ ht;cases d0<;>simp only[jI,TK.slice.injEq,reduceCtorEq] at J
    rw[J] at ec;have vQ:=uD (wQ e j.zero) pk;have gX:j.zero.cells.size=j.sz:=by have:=vQ.1;simp at this;omega
    have Lo:DReps e ((Array.range (len*j.sz)).map (λ i=>j.zero.cells[i%j.zero.cells.size]!)).toList (wt (ki j.zero).cells len):=by
     refine⟨by simp[NW,yT],λ i v d hv qO=>?_⟩;have dT:i<len*j.sz:=by have:=(List.getElem?_eq_some_iff.1 hv).1;simpa using this
     rw[NV _ _ _ (by rw[yT];exact dT),yT] at qO;simp[dT] at hv;rw[gX] at hv;have hm:i%j.sz<j.sz:=Nat.mod_lt _ GP;have:j.zero.cells.toList[i%j.sz]?=some v:=by rw[<-hv];simp[gX,hm]
     exact vQ.2 _ v d this qO
    obtain⟨nV,O,h4⟩:=Dw (e:=e) _ _ ds _ _ cs Lo A F sV;obtain⟨h5,h6⟩:=NF D;unfold Oper.wp;have e1:(execOp a.eval o).run P e.w=.ok (.value (.slice (some ⟨e.w.heap.size,0,none⟩) len len)) (e.w.alloc (.cells nV.toList.toArray el)):=by
     obtain⟨dst,op,type,pos,after,guard⟩:=o;simp only at ho;subst ho;have zu:(zeroValue el).run P e.w=.ok j.zero e.w:=Az hT hj e.w;have eo:¬(len*j.sz>2^24):=by omega
     simp only[execOp,Instr.buildSlice,Sem.run_bind,run_underlying ec,Result.andThen_ok,run_sizeOf hT hj];rw[if_neg eo]
     by_cases h0:len*j.sz=0
     ·have BM:(Array.range (len*j.sz)).map (λ i=>j.zero.cells[i%j.zero.cells.size]!)=(Array.range (len*j.sz)).map (λ i=>(#[]:Array Value)[i%(#[]:Array Value).size]!):=by simp[h0]
      rw[BM] at O;simp only[h0,if_true,Sem.run_bind,Sem.run_pure,Result.andThen_ok,xv] at O⊢;rw[O];simp[newRow]
     ·simp only[h0,if_false,Sem.run_bind,zu,Sem.run_pure,Result.andThen_ok,xv,O];simp[newRow]
    rw[e1];refine⟨_,e.alloc (.cells nV.toList.toArray el) none,rfl,rfl,aC.tM _ _ _,abZ (by have:len*1<=len*j.sz:=Nat.mul_le_mul_left _ GP;unfold maxLen;omega) (by rw[h4.1,h5]) (λ v hv=>?_) (λ i v x hv T=>?_)⟩
    ·obtain⟨i,hi,rfl⟩:=List.mem_iff_getElem.1 hv;have mM:i<cs.length:=by rw[<-h4.1];exact hi
     exact LF (h4.2 i _ _ (List.getElem?_eq_getElem hi) (List.getElem?_eq_getElem mM)) (List.all_eq_true.1 qU _ (List.getElem_mem mM))
    ·obtain⟨d,h7,h8⟩:=h6 i x T;exact h8 e v (h4.2 i v d hv h7)
   ·cases D
  ·cases D
 ·cases D
def A0(S:Nat->Option K)(x:Option Operand)(Xe:Int):Option Int:=match x with
 |none=>some Xe
 |some y=>match ev S y with
  |some (.p (.raw (.int _ i)))=>some i
  |_=>none
theorem Ul(hT:di P ap){t el:TypeId}{x:Operand}{lo hi:Option Operand}{dx:K}{n:Nat}{ps:List Pl}{l h:Int}{z1 z2:Nat}{z3:Value}{j:TI}(m:Nat)(qs:List Pl)(ho:o.op=.slice t x lo hi none)(ht:ap t=some ⟨.slice el,z1,z2,z3⟩)(he:ap el=some j)
 (T:ev S x=some dx)(YW:nK dx=some (n,ps))(n6:A0 S lo 0=some l)(qS:A0 S hi n=some h)(h0:0<=l)(A:l<=h)(F:h<=n)(hm:h-l=m)(Ew:qs.length=m*j.sz)(hq:∀(i:Nat) q,qs[i]?=some q->ps[l.toNat*j.sz+i]?=some q):dN P o S B (.p (.sl false m qs)) none:=by
 refine jp λ a e hs=>?_
 have cj:=x3 (hs.1 x (by rw[ho];simp[Op.operands]) _ T) YW;obtain⟨am,bS,hv,cM,e9,iW,_,hA⟩:=rf cj;obtain⟨d0,ec,J⟩:=hT.desc t _ ht;cases d0<;>simp only[jI,reduceCtorEq,TK.slice.injEq] at J
 rw[J] at ec;have Ha:∀y,lo=some y->∃k,a.eval y=.int k l:=λ y hy=>by
  subst hy;simp only[A0] at n6;split at n6
  ·rename_i k i dG;cases n6;exact⟨k,dh (hs.1 y (by rw[ho];simp[Op.operands]) _ dG)⟩
  ·cases n6
 have Zm:∀y,hi=some y->∃k,a.eval y=.int k h:=λ y hy=>by
  subst hy;simp only[A0] at qS;split at qS
  ·rename_i k i dG;cases qS;exact⟨k,dh (hs.1 y (by rw[ho];simp[Op.operands]) _ dG)⟩
  ·cases qS
 have YH:(Instr.sliceBounds true n bS (lo.map a.eval) (hi.map a.eval) none).run P e.w=.ok (l.toNat,h.toNat,bS) e.w:=by
  have Zl:hi=none->h=n:=λ ab=>by subst ab;simp only[A0,Option.some.injEq] at qS;omega
  have QW:lo=none->l=0:=λ ab=>by subst ab;simp only[A0,Option.some.injEq] at n6;omega
  have QK:h<=(bS:Int):=by omega
  have QI:0<=h:=by omega
  have QV:l<=(h.toNat:Int):=by omega
  cases hi with
  |none=>
   have hn:=Zl rfl;subst hn;cases lo with
   |none=>have:=QW rfl;subst this;simp[Instr.sliceBounds]
   |some y=>obtain⟨k,hy⟩:=Ha y rfl;simp only[Int.toNat_natCast] at QV;simp[Instr.sliceBounds,Instr.sliceBound,hy,asIntOf,h0,QV]
  |some afX=>
   obtain⟨iG,Rw⟩:=Zm afX rfl;cases lo with
   |none=>have:=QW rfl;subst this;simp[Instr.sliceBounds,Instr.sliceBound,Rw,asIntOf,QI,QK]
   |some y=>
    obtain⟨k,hy⟩:=Ha y rfl;have ZS:max h 0=h:=by omega
    simp[Instr.sliceBounds,Instr.sliceBound,hy,Rw,asIntOf,QI,QK,h0,ZS,A]
 have jA:h.toNat-l.toNat=m:=by omega
 refine⟨.slice (if bS=l.toNat then am else am.map (·.add (l.toNat*j.sz))) m (bS-l.toNat),?_,.p (CH (by omega) (by omega) (λ bQ=>?_) (λ bQ=>by cases bQ) ?_)⟩
 ·obtain⟨dst,op,type,pos,after,guard⟩:=o;simp only at ho;subst ho;simp only[execOp,Instr.sliceAt,hv,Sem.run_bind,run_underlying ec,Result.andThen_ok,Instr.slice,Option.map_none,YH,run_sizeOf hT he,jA,Sem.run_pure]
 ·split at bQ
  ·omega
  ·cases am with
   |none=>have:=iW rfl;omega
   |some a=>simp at bQ
 ·rcases qs with _|⟨q,qs⟩
  ·exact .inl rfl
  ·refine .inr ?_;have db:ps≠[]:=λ ab=>by have:=hq 0 q rfl;rw[ab] at this;simp at this
   rcases hA with hA|⟨b,of,rfl,ek⟩
   ·exact absurd hA db
   ·have l4:m≠0:=λ ab=>by rw[ab] at Ew;simp at Ew
    have b9:¬bS=l.toNat:=by omega
    refine⟨b,of+l.toNat*j.sz,by rw[if_neg b9];simp[sC],ek.part _ hq⟩
end
end Go.Proofs.YtcnefjfboagbmaaGreat
end
section
namespace Go.Proofs.YtcnefjfboagbmaaGreat
open Go.RowKit
abbrev E(n:Int):K:=.p (.raw (.int .i64 n))
abbrev dB(b:Bool):K:=.p (.raw (.bool b))
abbrev pI(n:Int):Pl:=.raw (.int .i64 n)
abbrev pB(b:Bool):Pl:=.raw (.bool b)
def cy(l:List Int):List Pl:=l.map pI
abbrev bX(l:List Int):K:=.p (.sl false l.length (cy l))
section
variable{P:Program}{ap:Nat->Option TI}{Γ:bN}{M:St}{Q:Exit->St->Prop}{c:Code}{S:Nat->Option K}{B:Nat->Option (List K)}{o:Oper}
theorem cn{d7:Type}(ok:d7->Prop)(jK:d7->St)(m5:d7->Nat)(i0:d7)(J:ok i0)(h0:bY Γ M (jK i0))(Fi:∀i,ok i->aP P Γ c (su (λ cb=>∃j,ok j/\m5 j<m5 i/\bY Γ cb (jK j)) Q) (jK i)):aP P Γ (.loop c) Q M:=
 Wt (d7:={i:d7//ok i}) (λ i=>jK i.1) (λ i=>m5 i.1) ⟨i0,J⟩ h0 λ i=>wM (Fi i.1 i.2) λ ex cb h=>by
  cases ex with
  |normal=>obtain⟨j,A,F,O⟩:=h;exact⟨⟨j,A⟩,F,O⟩
  |_=>exact h
theorem eU{n:Int}(A:-9223372036854775808<=n)(F:n<=9223372036854775807):IntKind.i64.wrap n=n:=IntWalk.i64_in n (by omega)
theorem Oq(hT:di P ap){t u:TypeId}{i:TI}{x y:Operand}{a b:Int}(ho:o.op=.binOp .add t x y u)(ht:ap t=some i)(T:ev S x=some (E a))(hy:ev S y=some (E b))(A:-9223372036854775808<=a+b)(F:a+b<=9223372036854775807):dN P o S B (E (a+b)) none:=
 tN hT (by rw[ho];simp only[ax,ht,T,hy,AZ,eU A F])
theorem UG(hT:di P ap){t u:TypeId}{i:TI}{x y:Operand}{a b:Int}(ho:o.op=.binOp .sub t x y u)(ht:ap t=some i)(T:ev S x=some (E a))(hy:ev S y=some (E b))(A:-9223372036854775808<=a-b)(F:a-b<=9223372036854775807):dN P o S B (E (a-b)) none:=
 tN hT (by rw[ho];simp only[ax,ht,T,hy,AZ,eU A F])
theorem MB{t u:TypeId}{x y:Operand}{a b:Int}(ho:o.op=.binOp .quo t x y u)(T:ev S x=some (E a))(hy:ev S y=some (E b))(h0:0<=a)(A:0<b)(F:a<=9223372036854775807):dN P o S B (E (a/b)) none:=by
 refine jp λ ac e hs=>?_
 have cj:=dh (hs.1 x (by rw[ho];simp[Op.operands]) _ T);have fw:=dh (hs.1 y (by rw[ho];simp[Op.operands]) _ hy);refine⟨_,?_,.p (.raw _)⟩;obtain⟨dst,op,type,pos,after,guard⟩:=o;simp only at ho;subst ho;have Z:¬b=0:=by omega
 have D:a.tdiv b=a/b:=Int.tdiv_eq_ediv_of_nonneg h0;have O:0<=a/b:=Int.ediv_nonneg h0 (by omega);have h4:a/b<=a:=Int.ediv_le_self b h0;simp[execOp,cj,fw,eqGuard,binOp,Op.intDiv,Z,D,eU (n:=a/b) (by omega) (by omega)]
theorem Fa{t u:TypeId}{x y:Operand}{a b:Int}(ho:o.op=.binOp .rem t x y u)(T:ev S x=some (E a))(hy:ev S y=some (E b))(h0:0<=a)(A:0<b):dN P o S B (E (a%b)) none:=by
 refine jp λ ac e hs=>?_
 have cj:=dh (hs.1 x (by rw[ho];simp[Op.operands]) _ T);have fw:=dh (hs.1 y (by rw[ho];simp[Op.operands]) _ hy);refine⟨_,?_,.p (.raw _)⟩;obtain⟨dst,op,type,pos,after,guard⟩:=o;simp only at ho;subst ho;have Z:¬b=0:=by omega
 have D:a.tmod b=a%b:=Int.tmod_eq_emod_of_nonneg h0;simp[execOp,cj,fw,eqGuard,binOp,Op.intDiv,Z,D]
theorem v8(l:List Int):(cy l).length=l.length:=by simp[cy]
theorem S9{l:List Int}{i:Nat}{x:Int}(h:l[i]?=some x):(cy l)[i]?=some (pI x):=by simp[cy,h]
theorem jE{l:List Int}{i:Int}{x:Int}(h:l[i.toNat]?=some x):∀(m:Nat) q,[pI x][m]?=some q->(cy l)[i.toNat*1+m]?=some q:=by
 intro m q hq;cases m with
 |zero=>simp at hq;subst hq;simpa using S9 h
 |succ m=>simp at hq
theorem nh{av:Type}{l:List av}{i:Int}(h0:0<=i)(h:i<l.length):∃x,l[i.toNat]?=some x:=⟨l[i.toNat]'(by omega),List.getElem?_eq_getElem (by omega)⟩
end
end Go.Proofs.YtcnefjfboagbmaaGreat
end
section
namespace Go.Proofs.YtcnefjfboagbmaaGreat
open Go.RowKit
section
variable{P:Program}{ap:Nat->Option TI}{Γ:bN}{Q:Exit->St->Prop}{o:Oper}{l0 l:List Oper}{s:List (Nat×K)}{b:List (Nat×List K)}{g:List (Nat×Gr)}{t:Nat}
theorem aeB{P:Program}{t e:TypeId}(hu:P.underlying t=some (.slice e))(am:Option Addr)(n c:Nat)(w:World):(Op.equal t (.slice am n c) (.slice none 0 0)).run P w=.ok am.isNone w:=by show(Op.equalIn (9999+1) t _ _).run P w=_;rw[Op.equalIn];simp only[Sem.run_bind,run_underlying hu,Result.andThen_ok];cases am<;>rfl
theorem On(hT:di P ap){ty u el:TypeId}{z1 z2:Nat}{z3:Value}{x:Operand}{dx:K}{n:Nat}{ps:List Pl}(ho:o.op=.binOp .eql ty x (.const (.slice none 0 0)) u)(ht:ap ty=some ⟨.slice el,z1,z2,z3⟩)(T:ev (kv s) x=some dx)(D:nK dx=some (n,ps))(hg:gd l0 o (kv s)=some true)(nj:o.dst=some t)(U:Nat.blt t Γ.n=true)
 (h:∀c:Bool,(c=true->n=0)->bq P Γ l0 Q l ⟨(t,dB c)::s,b,g⟩):bq P Γ l0 Q (o::l) ⟨s,b,g⟩:=by
 refine⟨λ a e L=>?_⟩;have hs:=L.iP (M:=⟨s,b,g⟩) o.op.operands;have A:=x3 (hs.1 x (by rw[ho];simp[Op.operands]) _ T) D;obtain⟨am,bS,hv,F,_,O,_,_⟩:=rf A;obtain⟨d0,ec,J⟩:=hT.desc ty _ ht;cases d0<;>simp only[jI,reduceCtorEq,TK.slice.injEq] at J
 have hn:am.isNone=true->n=0:=λ bQ=>by
  have:=O (by simpa using bQ);omega
 have c8:(execOp a.eval o).run P e.w=.ok (.value (.bool am.isNone)) e.w:=by obtain⟨dst,op,type,pos,after,guard⟩:=o;simp only at ho;subst ho;have qN:a.eval (.const (.slice none 0 0))=.slice none 0 0:=rfl;simp only[execOp,hv,qN,eqGuard,binOp];simp[aeB ec]
 have dR:=(L.put (dst:=o.dst) (by rw[nj];exact U) (v:=.bool am.isNone) (d:=dB am.isNone) (.p (.raw _)));unfold wpList;rw[if_pos (mf L hg)];refine .inl ?_;unfold Oper.wp;rw[c8];have:=(h am.isNone hn).run (a.put o.dst (.bool am.isNone)) e (by rw[nj] at dR⊢;exact dR);exact this
theorem vT{S:Nat->Option K}{B:Nat->Option (List K)}(hT:di P ap){ty el:TypeId}{n z1 z2:Nat}{z3:Value}{j:TI}{x y:Operand}{ds:List K}{k:IntKind}{i:Int}(d:K)(ho:o.op=.index ty x y)(ht:ap ty=some ⟨.array n el,z1,z2,z3⟩)(he:ap el=some j)(pj:j.k.agg=false)(T:ev S x=some (.agg ds))(hy:ev S y=some (.p (.raw (.int k i))))(h0:0<=i)(bm:i<n)(D:ds[i.toNat*j.sz]?=some d):dN P o S B d none:=by
 refine jp λ a e hs=>?_
 have A:=hs.1 x (by rw[ho];simp[Op.operands]) _ T;have F:=dh (hs.1 y (by rw[ho];simp[Op.operands]) _ hy);generalize dG:a.eval x=vx at A;cases A with
 |agg U hh=>
  rename_i vs;obtain⟨d0,ec,J⟩:=hT.desc ty _ ht;cases d0<;>simp only[jI,reduceCtorEq,TK.array.injEq] at J
  rw[J.1,J.2] at ec;obtain⟨v,O,h4⟩:=DReps.get ⟨U,hh⟩ D;refine⟨v,?_,h4⟩;obtain⟨dst,op,type,pos,after,guard⟩:=o;simp only at ho;subst ho;simp[execOp,dG,F,Instr.index,asIntOf,run_underlying ec,h0,bm,run_sizeOf hT he,part,Fm hT he,pj,O]
end
end Go.Proofs.YtcnefjfboagbmaaGreat
end
section
namespace Go.Proofs.YtcnefjfboagbmaaGreat
open Go.RowKit
abbrev dK(k:IntKind)(n:Int):K:=.p (.raw (.int k n))
section
variable{P:Program}{ap:Nat->Option TI}{S:Nat->Option K}{B:Nat->Option (List K)}{o:Oper}
theorem aeo{k:IntKind}{t u:TypeId}{x y:Operand}{a b:Int}(ho:o.op=.binOp .rem t x y u)(T:ev S x=some (dK k a))(hy:ev S y=some (dK k b))(h0:0<=a)(A:0<b):dN P o S B (dK k (a%b)) none:=by
 refine jp λ ac e hs=>?_
 have cj:=dh (hs.1 x (by rw[ho];simp[Op.operands]) _ T);have fw:=dh (hs.1 y (by rw[ho];simp[Op.operands]) _ hy);refine⟨_,?_,.p (.raw _)⟩;obtain⟨dst,op,type,pos,after,guard⟩:=o;simp only at ho;subst ho;have Z:¬b=0:=by omega
 have D:a.tmod b=a%b:=Int.tmod_eq_emod_of_nonneg h0;simp[execOp,cj,fw,eqGuard,binOp,Op.intDiv,Z,D]
theorem Jy(hT:di P ap){k:IntKind}{s t:TypeId}{x:Operand}{n:Int}{ks:IntKind}{z1 z2 z4 z5:Nat}{z3 z6:Value}(ho:o.op=.convert s t x)(hs:ap s=some ⟨.int ks,z1,z2,z3⟩)(ht:ap t=some ⟨.int .i64,z4,z5,z6⟩)(T:ev S x=some (dK k n))(A:-9223372036854775808<=n)(F:n<=9223372036854775807):dN P o S B (E n) none:=
 tN hT (by rw[ho];simp only[ax,hs,ht,T,eU A F])
end
end Go.Proofs.YtcnefjfboagbmaaGreat
end
section
namespace Go.Proofs.YtcnefjfboagbmaaGreat
open Go.RowKit
def tn(B:Nat->Bool)(d:K):K:=bif d.ok B (λ _=>true) then d else .any
def sG(B:Nat->Bool):List (Nat×K)->List (Nat×K)
 |[]=>[]
 |(t,d)::l=>(t,tn B d)::sG B l
def lS{av:Type}(B:Nat->Bool):List (Nat×K)->(List (Nat×K)->Option av)->Option av
 |[],k=>k []
 |(t,d)::l,k=>match d.ok B (λ _=>true) with
  |true=>lS B l λ r=>k ((t,d)::r)
  |false=>lS B l λ r=>k ((t,.any)::r)
theorem u9{av:Type}(B:Nat->Bool):∀(l:List (Nat×K))(k:List (Nat×K)->Option av),lS B l k=k (sG B l)
 |[],k=>rfl
 |(t,d)::l,k=>by
  rw[lS,sG];unfold tn;cases d.ok B (λ _=>true)<;>simp only[u9 B l]<;>rfl
def wS(B:Nat->Bool):List K->List K
 |[]=>[]
 |d::l=>tn B d::wS B l
def Bb{av:Type}(B:Nat->Bool):List K->(List K->Option av)->Option av
 |[],k=>k []
 |d::l,k=>match d.ok B (λ _=>true) with
  |true=>Bb B l λ r=>k (d::r)
  |false=>Bb B l λ r=>k (.any::r)
theorem Jz{av:Type}(B:Nat->Bool):∀(l:List K)(k:List K->Option av),Bb B l k=k (wS B l)
 |[],k=>rfl
 |d::l,k=>by
  rw[Bb,wS];unfold tn;cases d.ok B (λ _=>true)<;>simp only[Jz B l]<;>rfl
def iL(H B:Nat->Bool):List (Nat×List K)->List (Nat×List K)
 |[]=>[]
 |(b,cs)::l=>bif H b then iL H B l else(b,wS B cs)::iL H B l
def me{av:Type}(H B:Nat->Bool):List (Nat×List K)->(List (Nat×List K)->Option av)->Option av
 |[],k=>k []
 |(b,cs)::l,k=>match H b with
  |true=>me H B l k
  |false=>Bb B cs λ q=>me H B l λ r=>k ((b,q)::r)
theorem u7{av:Type}(H B:Nat->Bool):∀(l:List (Nat×List K))(k:List (Nat×List K)->Option av),me H B l k=k (iL H B l)
 |[],k=>rfl
 |(b,cs)::l,k=>by
  rw[me,iL];cases H b<;>simp only[Jz,u7 H B l]<;>rfl
theorem JB{B:Nat->Bool}:∀{l:List (Nat×K)}{t:Nat}{d:K},kv (sG B l) t=some d->∃d0,kv l t=some d0/\d=tn B d0
 |[],t,d,h=>by cases h
 |(u,c)::l,t,d,h=>by
  simp only[sG,da] at h⊢;split at h
  ·rename_i hu;cases h;exact⟨c,by rw[if_pos hu],rfl⟩
  ·rename_i hu;obtain⟨d0,A,F⟩:=JB h;exact⟨d0,by rw[if_neg hu];exact A,F⟩
theorem Ba{H B:Nat->Bool}:∀{l:List (Nat×List K)}{b:Nat}{cs:List K},kv (iL H B l) b=some cs->H b=false/\∃lP,kv l b=some lP/\cs=wS B lP
 |[],b,cs,h=>by cases h
 |(u,c)::l,b,cs,h=>by
  simp only[iL] at h;cases hH:H u with
  |true=>rw[hH] at h;obtain⟨A,lP,F,O⟩:=Ba (l:=l) h;exact⟨A,lP,by rw[da,if_neg (λ e=>by rw[e,A] at hH;cases hH)];exact F,O⟩
  |false=>
   rw[hH] at h;simp only[cond_false,da] at h;split at h
   ·rename_i hu;subst hu;cases h;exact⟨hH,c,by rw[da,if_pos rfl],rfl⟩
   ·rename_i hu;obtain⟨A,lP,F,O⟩:=Ba h;exact⟨A,lP,by rw[da,if_neg hu];exact F,O⟩
theorem Ge{H B:Nat->Bool}:∀{l:List (Nat×List K)}{b:Nat},kv (iL H B l) b=none->H b=true\/kv l b=none
 |[],b,h=>.inr rfl
 |(u,c)::l,b,h=>by
  simp only[iL] at h;cases hH:H u with
  |true=>
   rw[hH] at h
   by_cases e:u=b
   ·exact .inl (by rw[<-e];exact hH)
   ·rw[da,if_neg e];exact Ge (l:=l) h
  |false=>
   rw[hH] at h;simp only[cond_false,da] at h;split at h
   ·cases h
   ·rename_i hu;rw[da,if_neg hu];exact Ge h
theorem Lx{e:aC}{B:Nat->Bool}{v:Value}{d:K}(h:bz e v d):bz (e.cut B λ _=>true) v (tn B d):=by
 unfold tn;cases J:d.ok B (λ _=>true) with
 |true=>exact h.cut J
 |false=>exact .any
theorem JA{e:aC}{B:Nat->Bool}:∀{cs:List K}{vs:List Value},DReps e vs cs->DReps (e.cut B λ _=>true) vs (wS B cs)
 |[],vs,h=>by
  have:vs=[]:=List.eq_nil_of_length_eq_zero h.1;subst this;exact DReps.nil _
 |d::cs,vs,h=>by
  obtain⟨v,eY,rfl,A,F⟩:=h.yd;exact DReps.cons (Lx A) (JA F)
section
variable{P:Program}{ap:Nat->Option TI}{Γ:bN}{M cb bb:St}{o:Oper}
structure fY(Y:List (Nat×List K))(e:aC):Prop where
 boxes:∀b cs,kv Y b=some cs->h1 e b cs
 eE:∀b,kv Y b=none->e.bx b=none
 gi:∀g,e.gi g=none
 gr:∀k,e.gr k=none
 bx:∀b k,e.bx b=some k->k<e.w.heap.size/\e.cl k=some 0
 inj:∀b c k,e.bx b=some k->e.bx c=some k->b=c
structure Left(aV:List Nat)(e ab:aC):Prop where
 kept:oz (λ k=>∃b,e.bx b=some k) e.w ab.w
 cl:∀k,k<e.w.heap.size->¬(∃b,e.bx b=some k)->ab.cl k=e.cl k
 bx:∀b k,ab.bx b=some k->e.w.heap.size<=k\/∃c,e.bx c=some k
 aV:∀b,b∈aV->ab.bx b=e.bx b
def eI(P:Program)(f:FuncId)(aV:List Nat)(ds:List K)(Y:List (Nat×List K))(aO:K->List (Nat×List K)->Prop):Prop:=
 ∀(e:aC)(vs:List Value),fY Y e->DReps e vs ds->
  Calls P f vs.toArray e.w (λ r aM=>∃v d aq ab,r=.returned v/\ab.w=aM/\aO d aq/\fY aq ab/\bz ab v d/\Left aV e ab)
def ir(l:List Nat)(n:Nat):Bool:=match l with
 |[]=>false
 |x::l=>bif Nat.beq x n then true else ir l n
theorem Lr:∀{l:List Nat}{n:Nat},ir l n=true->n∈l
 |[],n,h=>by cases h
 |x::l,n,h=>by
  simp only[ir] at h;cases T:Nat.beq x n with
  |true=>rw[Nat.eq_of_beq_eq_true T];exact List.mem_cons_self
  |false=>rw[T] at h;exact List.mem_cons_of_mem _ (Lr h)
theorem Sv:∀{l:List Nat}{n:Nat},n∈l->ir l n=true
 |[],n,h=>by cases h
 |x::l,n,h=>by
  simp only[ir];cases T:Nat.beq x n with
  |true=>rfl
  |false=>
   rcases List.mem_cons.1 h with h|h
   ·subst h;rw[Nat.beq_refl] at T;cases T
   ·exact Sv h
def jN(M:St)(H:Nat->Bool):List (Nat×List K)->Prop
 |[]=>True
 |p::l=>(kv M.b p.1=some p.2/\K.ok.eR H (λ _=>false) p.2=true)/\jN M H l
theorem jN.get{H:Nat->Bool}:∀{l:List (Nat×List K)}(_:jN M H l){t:Nat}{d:List K},kv l t=some d->kv M.b t=some d/\K.ok.eR H (λ _=>false) d=true
 |[],_,t,d,h=>by cases h
 |(k,v)::l,hs,t,d,h=>by
  rw[da] at h;split at h
  ·rename_i J;subst J;cases h;exact hs.1
  ·exact hs.2.get h
theorem lT{e:aC}{a:Act}(L:bu Γ M e a){Y:List (Nat×List K)}(hs:jN M (aI Y) Y):fY Y (e.cut (aI Y) λ _=>false):=by
 refine⟨λ b cs Z=>?_,λ b Z=>?_,λ g=>?_,λ k=>?_,λ b k J=>?_,λ b c k A F=>?_⟩
 ·obtain⟨A,F⟩:=hs.get Z;obtain⟨k,vs,el,O,h4,h5⟩:=L.boxes b cs A;refine⟨k,vs,el,?_,h4,h5.1,λ i v d hv D=>(h5.2 i v d hv D).cut (q7 F D)⟩;show(if aI Y b=true then e.bx b else none)=_;rw[if_pos (by simp[aI,Z])];exact O
 ·show(if aI Y b=true then e.bx b else none)=_;rw[if_neg (by simp[aI,Z])]
 ·show(if false=true then e.gi g else none)=_;simp
 ·show(match e.gr k with|some g=>if false=true then some g else none|none=>none)=none;cases e.gr k<;>simp
 ·have dI:(if aI Y b=true then e.bx b else none)=some k:=J;split at dI
  ·obtain⟨A,_,O,_⟩:=L.env.bx b k dI;exact⟨A,O⟩
  ·cases dI
 ·have aU:(if aI Y b=true then e.bx b else none)=some k:=A;have bB:(if aI Y c=true then e.bx c else none)=some k:=F;split at aU
  ·split at bB
   ·exact L.env.inj b c k aU bB
   ·cases bB
  ·cases aU
def aC.after(e ab:aC)(Y aq:List (Nat×List K)):aC:=
 {w:=ab.w,cl:=ab.cl,bx:=λ b=>if aI aq b=true then ab.bx b else if aI Y b=true then none else e.bx b,gr:=e.gr,gi:=e.gi}
theorem bu.after{e ab:aC}{a:Act}(L:bu Γ M e a){aV:List Nat}{Y aq:List (Nat×List K)}(hI:fY aq ab)(hL:Left aV (e.cut (aI Y) λ _=>false) ab)(dC:∀b,aI aq b=true->aI Y b=true\/kv M.b b=none)(dV:∀b k,kv Γ.kb b=some k->aI Y b=true->b∈aV):
 bu Γ ⟨sG (λ b=>!aI Y b||ir aV b) M.s,aq++iL (aI Y) (λ b=>!aI Y b||ir aV b) M.b,M.g⟩ (e.after ab Y aq) a/\Ends ab (e.after ab Y aq):=by
 have l5:∀k,(∃b,(e.cut (aI Y) λ _=>false).bx b=some k)->∃b,aI Y b=true/\e.bx b=some k:=by
  rintro k ⟨b,Z⟩;have ia:(if aI Y b=true then e.bx b else none)=some k:=Z;split at ia
  ·rename_i dH;exact⟨b,dH,ia⟩
  ·cases ia
 have Z3:∀b o,e.nW b o->¬∃c,(e.cut (aI Y) λ _=>false).bx c=some b:=by intro b o ea hh;obtain⟨c,_,A⟩:=l5 b hh;have:=ea 0 (L.env.bx c b A).2.2.1;omega
 have Hd:∀k g,e.gr k=some g->¬∃c,(e.cut (aI Y) λ _=>false).bx c=some k:=by intro k g hg hh;obtain⟨c,_,A⟩:=l5 k hh;rw[(L.env.bx c k A).2.2.2] at hg;cases hg
 have ib:∀b k,aI Y b=false->e.bx b=some k->¬∃c,(e.cut (aI Y) λ _=>false).bx c=some k:=by intro b k Z J hh;obtain⟨c,A,F⟩:=l5 k hh;rw[L.env.inj c b k F J,Z] at A;cases A
 have eo:∀b,aI Y b=false->∀k,e.bx b=some k->aI aq b=false:=by
  intro b Z k J;cases dH:aI aq b with
  |false=>rfl
  |true=>
   rcases dC b dH with h|h
   ·rw[Z] at h;cases h
   ·rw[L.eE b h] at J;cases J
 have xe:Ends ab (e.after ab Y aq):=by
  refine⟨λ _ _ _ A F=>⟨A,F⟩,λ b k J=>?_,λ g au hg=>?_,λ k g au cur hg=>?_⟩
  ·show(if aI aq b=true then ab.bx b else _)=_;rw[if_pos]
   ·exact J
   ·cases Z:kv aq b with
    |none=>rw[hI.eE b Z] at J;cases J
    |some cs=>simp[aI,Z]
  ·rw[hI.gi g] at hg;cases hg
  ·rw[hI.gr k] at hg;cases hg
 have I:Ends (e.cut (λ b=>!aI Y b||ir aV b) λ _=>true) (e.after ab Y aq):=by
  refine⟨λ b o v ea hv=>?_,λ b k J=>?_,λ g au hg=>⟨au,(show(if true=true then e.gi g else none)=some au from hg)▸(if_pos rfl).symm,rfl,rfl,Nat.le_refl _⟩,λ k g au cur A F O=>?_⟩
  ·have hn:=Z3 b o ea;have Z:=F6 hv;refine⟨λ n lD=>ea n ?_,?_⟩
   ·have:ab.cl b=e.cl b:=hL.cl b Z hn;show e.cl b=_;rw[<-this];exact lD
   ·show ab.w.cell? _=_;rw[World.cell?_of_block (w:=e.w) (hL.kept.block b Z hn)];exact hv
  ·have dI:(if(!aI Y b||ir aV b)=true then e.bx b else none)=some k:=J;split at dI
   ·rename_i hB;cases dH:aI Y b with
    |false=>show(if aI aq b=true then ab.bx b else if aI Y b=true then none else e.bx b)=_;rw[eo b dH k dI,dH];simpa using dI
    |true=>
     rw[dH] at hB;have hm:=Lr (show ir aV b=true by simpa using hB);have A:ab.bx b=some k:=by rw[hL.aV b hm];show(if aI Y b=true then e.bx b else none)=_;rw[if_pos dH];exact dI
     exact xe.bx b k A
   ·cases dI
  ·have aU:(match e.gr k with|some g=>if true=true then some g else none|none=>none)=some g:=A;have hg:e.gr k=some g:=by
    cases je:e.gr k with
    |none=>rw[je] at aU;cases aU
    |some g0=>rw[je] at aU;simpa using aU
   refine⟨hg,cur,?_,rfl⟩;show ab.w.heap[k]?=_;rw[hL.kept.block k (sU O) (Hd k g hg)];exact O
 refine⟨⟨L.size,L.df,λ t d ht=>?_,λ b cs Z=>?_,λ b Z=>?_,L.gs,⟨?_,λ k J ho=>?_,λ b k J=>?_,λ b c k A F=>?_,λ k g hg=>?_,λ b k J=>?_⟩⟩,xe⟩
 ·obtain⟨d0,A,rfl⟩:=JB ht;exact(Lx (L.bU t d0 A)).next I
 ·have Hm:(∃aS,kv aq b=some aS/\aS=cs)\/(kv aq b=none/\kv (iL (aI Y) (λ b=>!aI Y b||ir aV b) M.b) b=some cs):=by
   clear I xe eo dC hI hL;induction aq with
   |nil=>exact .inr ⟨rfl,Z⟩
   |cons p l ih=>
    obtain⟨u,q⟩:=p;simp only[List.cons_append,da] at Z⊢;split at Z
    ·rename_i hu;cases Z;exact .inl ⟨cs,by rw[if_pos hu],rfl⟩
    ·rename_i hu;rw[if_neg hu];exact ih Z
  rcases Hm with⟨_,A,rfl⟩|⟨A,F⟩
  ·exact(hI.boxes b _ A).ends xe rfl
  ·obtain⟨O,lP,h4,rfl⟩:=Ba F;obtain⟨k,vs,el,h5,h6,h7⟩:=L.boxes b lP h4;refine⟨k,vs,el,?_,?_,(JA h7).next I⟩
   ·show(if aI aq b=true then ab.bx b else if aI Y b=true then none else e.bx b)=_;rw[eo b O k h5,O];simpa using h5
   ·show ab.w.heap[k]?=_;rw[hL.kept.block k (sU h6) (ib b k O h5)];exact h6
 ·have Hm:kv aq b=none/\kv (iL (aI Y) (λ b=>!aI Y b||ir aV b) M.b) b=none:=by
   clear I xe eo dC hI hL;induction aq with
   |nil=>exact⟨rfl,Z⟩
   |cons p l ih=>
    obtain⟨u,q⟩:=p;simp only[List.cons_append,da] at Z⊢;split at Z
    ·cases Z
    ·rename_i hu;rw[if_neg hu];exact ih Z
  show(if aI aq b=true then ab.bx b else if aI Y b=true then none else e.bx b)=_;rw[if_neg (by simp[aI,Hm.1])];split
  ·rfl
  ·rename_i hn;rcases Ge Hm.2 with h|h
   ·exact absurd h hn
   ·exact L.eE b h
 ·refine⟨hL.kept.os.trans L.env.kept.os,hL.kept.tape.trans L.env.kept.tape,hL.kept.output.trans L.env.kept.output,Nat.le_trans L.env.kept.size hL.kept.size,λ k J ho=>?_⟩;show ab.w.heap[k]?=_;rw[hL.kept.block k (Nat.lt_of_lt_of_le J L.env.kept.size)]
  ·exact L.env.kept.block k J ho
  ·intro hh;obtain⟨c,_,A⟩:=l5 k hh;rcases(L.env.bx c k A).2.1 with h|h
   ·omega
   ·exact ho h
 ·show ab.cl k=_;rw[hL.cl k (Nat.lt_of_lt_of_le J L.env.kept.size)]
  ·exact L.env.cl k J ho
  ·intro hh;obtain⟨c,_,A⟩:=l5 k hh;rcases(L.env.bx c k A).2.1 with h|h
   ·omega
   ·exact ho h
 ·have dI:(if aI aq b=true then ab.bx b else if aI Y b=true then none else e.bx b)=some k:=J;split at dI
  ·obtain⟨A,F⟩:=hI.bx b k dI;refine⟨A,?_,F,?_⟩
   ·rcases hL.bx b k dI with h|h
    ·exact .inl (Nat.le_trans L.env.kept.size h)
    ·obtain⟨c,_,O⟩:=l5 k h;exact(L.env.bx c k O).2.1
   ·show e.gr k=none;cases hg:e.gr k with
    |none=>rfl
    |some g=>
     obtain⟨_,_,_,O,_⟩:=L.env.gr k g hg;rcases hL.bx b k dI with h|h
     ·have bQ:e.w.heap.size<=k:=h;omega
     ·exact absurd h (Hd k g hg)
  ·split at dI
   ·cases dI
   ·rename_i hn;obtain⟨A,F,O,h4⟩:=L.env.bx b k dI;refine⟨Nat.lt_of_lt_of_le A hL.kept.size,F,?_,h4⟩;show ab.cl k=_;rw[hL.cl k A (ib b k (by simpa using hn) dI)];exact O
 ·have aU:(if aI aq b=true then ab.bx b else if aI Y b=true then none else e.bx b)=some k:=A;have bB:(if aI aq c=true then ab.bx c else if aI Y c=true then none else e.bx c)=some k:=F;have Sy:∀b c,ab.bx b=some k->aI Y c=false->e.bx c=some k->False:=by
   intro b c Z cM e9;rcases hL.bx b k Z with h|h
   ·have bQ:e.w.heap.size<=k:=h;have:=(L.env.bx c k e9).1;omega
   ·exact ib c k cM e9 h
  split at aU
  ·split at bB
   ·exact hI.inj b c k aU bB
   ·split at bB
    ·cases bB
    ·rename_i hn;exact(Sy b c aU (by simpa using hn) bB).elim
  ·split at aU
   ·cases aU
   ·rename_i hn;split at bB
    ·exact(Sy c b bB (by simpa using hn) aU).elim
    ·split at bB
     ·cases bB
     ·exact L.env.inj b c k aU bB
 ·obtain⟨au,cur,A,F,O,h4,h5⟩:=L.env.gr k g hg;refine⟨au,cur,A,Nat.lt_of_lt_of_le F hL.kept.size,O,?_,?_⟩
  ·show ab.cl k=_;rw[hL.cl k F (Hd k g hg)];exact h4
  ·show ab.w.heap[k]?=_;rw[hL.kept.block k F (Hd k g hg)];exact h5
 ·have A:=L.env.kb b k J;refine I.bx b k ?_;show(if(!aI Y b||ir aV b)=true then e.bx b else none)=_;rw[if_pos]
  ·exact A
  ·cases dH:aI Y b with
   |false=>rfl
   |true=>have:=Sv (dV b k J dH);simp[this]
end
end Go.Proofs.YtcnefjfboagbmaaGreat
end
section
namespace Go.Proofs.YtcnefjfboagbmaaGreat
open Go.RowKit
section
variable{P:Program}{ap:Nat->Option TI}{Γ:bN}{M cb bb:St}{o:Oper}{l0 l:List Oper}{Q:Exit->St->Prop}
variable{s aa:List (Nat×K)}{b bf:List (Nat×List K)}{g:List (Nat×Gr)}{t:Nat}{d:K}
def kH(Y b:List (Nat×List K)):List (Nat×List K)->Prop
 |[]=>True
 |p::l=>(aI Y p.1=true\/kv b p.1=none)/\kH Y b l
theorem kH.get{Y b:List (Nat×List K)}:∀{l:List (Nat×List K)}(_:kH Y b l){n:Nat},aI l n=true->aI Y n=true\/kv b n=none
 |[],_,n,h=>by simp[aI,kv] at h
 |(k,v)::l,hs,n,h=>by
  by_cases e:k=n
  ·subst e;exact hs.1
  ·exact hs.2.get (by simpa[aI,da,e] using h)
def sA(aV:List Nat)(Y:List (Nat×List K)):List (Nat×Nat)->Prop
 |[]=>True
 |p::l=>(aI Y p.1=false\/ir aV p.1=true)/\sA aV Y l
theorem sA.get{aV:List Nat}{Y:List (Nat×List K)}:∀{l:List (Nat×Nat)}(_:sA aV Y l){b k:Nat},kv l b=some k->aI Y b=true->b∈aV
 |[],_,n,k,h,_=>by cases h
 |(x,v)::l,hs,n,k,h,Z=>by
  rw[da] at h;split at h
  ·rename_i e;subst e;rcases hs.1 with A|A
   ·rw[Z] at A;cases A
   ·exact Lr A
  ·exact hs.2.get h Z
theorem RD{f:FuncId}{aV:List Nat}{ds:List K}{Y:List (Nat×List K)}{aO:K->List (Nat×List K)->Prop}(hC:eI P f aV ds Y aO){e:aC}{a:Act}(L:bu Γ ⟨s,b,g⟩ e a){vs:List Value}(hv:DReps e vs ds)(aT:K.ok.eR (aI Y) (λ _=>false) ds=true)(hs:jN ⟨s,b,g⟩ (aI Y) Y)(dV:sA aV Y Γ.kb)
 (D:o.dst=some t)(U:Nat.blt t Γ.n=true)(gG:lS (λ b=>!aI Y b||ir aV b) s (λ aa=>me (aI Y) (λ b=>!aI Y b||ir aV b) b (λ bf=>some (aa,bf)))=some (aa,bf))
 (dC:∀d aq,aO d aq->kH Y b aq){js:Exit->Act->World->Prop}:
 Calls P f vs.toArray e.w λ
  |.returned v,nN=>∃d aq ab,aO d aq/\ab.w=nN/\bu Γ ⟨(t,d)::aa,aq++bf,g⟩ ab (a.put o.dst v)
  |.panicked _,_=>False
  |.outgrown,_=>LetsOut js:=by
 rw[u9,u7] at gG;cases gG;refine(hC (e.cut (aI Y) λ _=>false) vs (lT L hs) ⟨hv.1,λ i v d A F=>(hv.2 i v d A F).cut (q7 aT F)⟩).mono λ r aM hh=>?_
 obtain⟨v,d,aq,ab,rfl,rfl,hR,hI,hr,hL⟩:=hh;obtain⟨A,F⟩:=L.after hI hL (λ n hn=>(dC d aq hR).get hn) (λ n k A F=>dV.get A F);refine⟨d,aq,e.after ab Y aq,hR,rfl,?_⟩;have:=A.put (dst:=o.dst) (qD D U) (hr.next F);rw[D] at this⊢;exact this
theorem Oy(hg:gd l0 o (kv s)=some true){aO:K->List (Nat×List K)->Prop}(hs:∀(a:Act)(e:aC),bu Γ ⟨s,b,g⟩ e a->o.wp P a e.w (λ bs aM=>∃d aq ab,aO d aq/\ab.w=aM/\bu Γ ⟨(t,d)::aa,aq++bf,g⟩ ab bs) (λ _ _ _=>False))(h:∀d aq,aO d aq->bq P Γ l0 Q l ⟨(t,d)::aa,aq++bf,g⟩):bq P Γ l0 Q (o::l) ⟨s,b,g⟩:=by refine⟨λ a e L=>?_⟩;unfold wpList;rw[if_pos (mf L hg)];refine .inl (yg (hs a e L) λ bs aM hh=>?_);obtain⟨d,aq,ab,hR,rfl,dR⟩:=hh;exact(h d aq hR).run bs ab dR
theorem Dv{a:Act}{e:aC}{S:Nat->Option K}(xs:List Operand){ds:List K}(h:∀x∈xs,∀d,ev S x=some d->bz e (a.eval x) d)(he:jc S xs some=some ds):DReps e (xs.map a.eval) ds:=by obtain⟨jx,A,F⟩:=tW xs _ ds h he;cases F;exact A
theorem il{f:FuncId}{aV:List Nat}{ds:List K}{Y:List (Nat×List K)}{aO:K->List (Nat×List K)->Prop}{xs:List Operand}{fB:Array TypeId}(hC:eI P f aV ds Y aO)(ho:o.op=.call {callee:=.value (.func f),args:=xs.toArray,argTypes:=fB})(hf:ke P f)(he:jc (kv s) xs some=some ds)(aT:K.ok.eR (aI Y) (λ _=>false) ds=true)(hs:jN ⟨s,b,g⟩ (aI Y) Y)(dV:sA aV Y Γ.kb)
 (hg:gd l0 o (kv s)=some true)(D:o.dst=some t)(U:Nat.blt t Γ.n=true)(gG:lS (λ b=>!aI Y b||ir aV b) s (λ aa=>me (aI Y) (λ b=>!aI Y b||ir aV b) b (λ bf=>some (aa,bf)))=some (aa,bf))
 (dC:∀d aq,aO d aq->kH Y b aq)(h:∀d aq,aO d aq->bq P Γ l0 Q l ⟨(t,d)::aa,aq++bf,g⟩):bq P Γ l0 Q (o::l) ⟨s,b,g⟩:=by
 refine Oy hg (λ a e L=>?_) h;have jC:=L.iP o.op.operands;have hv:=Dv (a:=a) (e:=e) xs (λ x T=>jC.1 x (by rw[ho];simp[Op.operands,Call.operands,T])) he;unfold Oper.wp;have e1:(execOp a.eval o).run P e.w=.ok (.enter f (xs.map a.eval).toArray) e.w:=by obtain⟨dst,op,type,pos,after,guard⟩:=o;simp only at ho;subst ho;rw[execOp_call_go,hf];simp
 rw[e1];exact RD hC L hv aT hs dV D U gG dC
theorem yp{f:FuncId}{aV:List Nat}{ds first c7:List K}{Y:List (Nat×List K)}{aO:K->List (Nat×List K)->Prop}{fo:Operand}{xs:List Operand}{fB:Array TypeId}(hC:eI P f aV ds Y aO)(ho:o.op=.call {callee:=.value fo,args:=xs.toArray,argTypes:=fB})(hf:ke P f)(vp:ev (kv s) fo=some (.fn (.func f) first c7))(he:jc (kv s) xs (λ jx=>m8 first jx λ r=>m8 r c7 some)=some ds)(aT:K.ok.eR (aI Y) (λ _=>false) ds=true)(hs:jN ⟨s,b,g⟩ (aI Y) Y)(dV:sA aV Y Γ.kb)
 (hg:gd l0 o (kv s)=some true)(D:o.dst=some t)(U:Nat.blt t Γ.n=true)(gG:lS (λ b=>!aI Y b||ir aV b) s (λ aa=>me (aI Y) (λ b=>!aI Y b||ir aV b) b (λ bf=>some (aa,bf)))=some (aa,bf))
 (dC:∀d aq,aO d aq->kH Y b aq)(h:∀d aq,aO d aq->bq P Γ l0 Q l ⟨(t,d)::aa,aq++bf,g⟩):bq P Γ l0 Q (o::l) ⟨s,b,g⟩:=by
 refine Oy hg (λ a e L=>?_) h;have jC:=L.iP o.op.operands;obtain⟨jx,hr,n4⟩:=tW (a:=a) (e:=e) xs _ ds (λ x T=>jC.1 x (by rw[ho];simp[Op.operands,Call.operands,T])) he;rw[rC,rC] at n4;cases n4;have xp:=jC.1 fo (by rw[ho];simp[Op.operands,Call.operands]) _ vp;generalize dG:a.eval fo=gv at xp;cases xp with
 |fn jU dX A F=>
  rename_i us vs;have dF:DReps e (us++xs.map a.eval++vs) (first++jx++c7):=(DReps.append ⟨jU,A⟩ hr).append ⟨dX,F⟩;unfold Oper.wp;have e1:(execOp a.eval o).run P e.w=.ok (.enter f (us++xs.map a.eval++vs).toArray) e.w:=by obtain⟨dst,op,type,pos,after,guard⟩:=o;simp only at ho;subst ho;simp only[execOp,resolve,dG,Deferred.ofValue,Sem.run_bind,Sem.run_pure,Result.andThen_ok,invoke];rw[hf];simp
  rw[e1];exact RD hC L dF aT hs dV D U gG dC
def uK(ap:Nat->Option TI)(M:St)(l:List ResultVar):Option K:=Fb ap M l λ
 |[d]=>some d
 |ds=>some (.bd ds)
theorem pJ(hT:di P ap){fn:Func}{e:aC}{a:Act}(L:bu Γ M e a){d:K}(h:uK ap M fn.results.toList=some d):∃v,(results fn a.tmps).run P e.w=.ok v e.w/\bz e v d:=by
 unfold uK at h;obtain⟨ds,vs,oR,n4,h⟩:=MI hT L _ _ d h;split at h
 ·rename_i d0;obtain⟨v,eY,rfl,hv,hn⟩:=n4.yd;have:eY=[]:=List.eq_nil_of_length_eq_zero hn.1;subst this;cases h;refine⟨v,?_,hv⟩;rw[Cy,Array.mapM_eq_mapM_toList];simp only[bind_map_left,Sem.run_bind,oR,Result.andThen_ok,Sem.run_pure];simp
 ·rename_i b9;cases h;refine⟨.tuple vs.toArray,?_,.bd n4.1 n4.2⟩;rw[Cy,Array.mapM_eq_mapM_toList];simp only[bind_map_left,Sem.run_bind,oR,Result.andThen_ok,Sem.run_pure];rw[dif_neg];intro hs;have U:ds.length=1:=by rw[<-n4.1];simpa using hs
  obtain⟨d1,rfl⟩:=List.length_eq_one_iff.1 U;exact b9 d1 rfl
def kK(Y:List (Nat×List K)):List Nat->Prop
 |[]=>True
 |n::l=>aI Y n=true/\kK Y l
theorem kK.get{Y:List (Nat×List K)}:∀{l:List Nat}(_:kK Y l){n:Nat},n∈l->aI Y n=true
 |[],_,n,h=>by cases h
 |x::l,hs,n,h=>by
  rcases List.mem_cons.1 h with h|h
  ·subst h;exact hs.1
  ·exact hs.2.get h
def CS(ap:Nat->Option TI)(rs:List ResultVar)(aV:List Nat)(aO:K->List (Nat×List K)->Prop):Exit->St->Prop:=λ ex M=>(ex=.normal\/ex=.ret)/\∃d aq,uK ap M rs=some d/\d.ok (aI aq) (λ _=>false)=true/\jN M (aI aq) aq/\kK aq aV/\aO d aq
theorem iB{rs:List ResultVar}{aV:List Nat}{aO:K->List (Nat×List K)->Prop}(aq:List (Nat×List K))(h:uK ap M rs=some d)(A:d.ok (aI aq) (λ _=>false)=true)(F:jN M (aI aq) aq)(O:kK aq aV)(hR:aO d aq):CS ap rs aV aO .ret M:=⟨.inr rfl,d,aq,h,A,F,O,hR⟩
theorem km{rs:List ResultVar}{aV:List Nat}{aO:K->List (Nat×List K)->Prop}(aq:List (Nat×List K))(h:uK ap M rs=some d)(A:d.ok (aI aq) (λ _=>false)=true)(F:jN M (aI aq) aq)(O:kK aq aV)(hR:aO d aq):CS ap rs aV aO .normal M:=⟨.inl rfl,d,aq,h,A,F,O,hR⟩
def mp(kf:Nat->Nat):List Nat->List (Nat×Nat)
 |[]=>[]
 |n::l=>(n,kf n)::mp kf l
theorem BV{kf:Nat->Nat}:∀{l:List Nat}{n k:Nat},kv (mp kf l) n=some k->n∈l/\k=kf n
 |[],n,k,h=>by cases h
 |x::l,n,k,h=>by
  simp only[mp,da] at h;split at h
  ·rename_i e;subst e;cases h;exact⟨List.mem_cons_self,rfl⟩
  ·obtain⟨A,F⟩:=BV h;exact⟨List.mem_cons_of_mem _ A,F⟩
theorem zx{kf:Nat->Nat}:∀{l:List Nat}{n:Nat},n∈l->kv (mp kf l) n=some (kf n)
 |[],n,h=>by cases h
 |x::l,n,h=>by
  simp only[mp,da];split
  ·rename_i e;subst e;rfl
  ·rename_i e;rcases List.mem_cons.1 h with h|h
   ·exact absurd h.symm e
   ·exact zx h
theorem aa0(hT:di P ap){f:FuncId}{fn:Func}{c:Code}{ds:List K}{aV:List Nat}{Y:List (Nat×List K)}{aO:K->List (Nat×List K)->Prop}{rs:List ResultVar}{n:Nat}{s:List (Nat×K)}(hf:P.funcs[f]?=some fn)(Z:fn.body=some c)(iX:fn.ntmps=n)(mm:fn.results.toList=rs)(hn:Nat.ble ds.length n=true)(hs:sL 0 ds some=some s)(oO:kK Y aV)
 (h:∀w cl own kf,aP P ⟨n,w,cl,own,mp kf aV,[]⟩ c (CS ap rs aV aO) ⟨s,Y,[]⟩):eI P f aV ds Y aO:=by
 subst iX;subst mm;rw[Be] at hs;cases hs;have hn:=Nat.le_of_ble_eq_true hn;intro e vs hI hv;refine calls_of_wp hf Z ?_;have U:vs.length=ds.length:=hv.1;have jd:∀b,b∈aV->e.bx b=some ((e.bx b).getD 0):=λ b Z=>by
  have A:=oO.get Z;obtain⟨cs,cR⟩:=Option.isSome_iff_exists.1 A;obtain⟨k,_,_,F,_⟩:=hI.boxes b cs cR;rw[F];rfl
 have L:bu ⟨fn.ntmps,e.w,e.cl,λ k=>∃b,e.bx b=some k,mp (λ b=>(e.bx b).getD 0) aV,[]⟩ ⟨vd.go 0 ds,Y,[]⟩ e {tmps:=vs.toArray++Array.replicate (fn.ntmps-vs.toArray.size) undef,defers:=[]}:=by
  refine⟨by simp;omega,rfl,λ t d0 ht=>?_,hI.boxes,hI.eE,λ g=>by rw[hI.gi];rfl,⟨oz.refl _ _,λ _ _ _=>rfl,λ b k J=>⟨(hI.bx b k J).1,.inr ⟨b,J⟩,(hI.bx b k J).2,hI.gr k⟩,hI.inj,λ k g J=>(by rw[hI.gr] at J;cases J),λ b k J=>?_⟩⟩
  ·obtain⟨_,F⟩:=Dt ds 0 t d0 ht;simp only[Nat.sub_zero] at F;obtain⟨v,O,h4⟩:=hv.get F;have gV:t<vs.length:=(List.getElem?_eq_some_iff.1 O).1;have:gq {tmps:=vs.toArray++Array.replicate (fn.ntmps-vs.toArray.size) undef,defers:=[]} t=v:=by
    unfold gq;simp only[Array.getD_eq_getD_getElem?];rw[Array.getElem?_append_left (by simpa using gV),List.getElem?_toArray,O]
    rfl
   rw[this];exact h4
  ·obtain⟨A,F⟩:=BV J;rw[F];exact jd b A
 refine Code.wp_mono (λ ex bs aM hh=>?_) ((h e.w e.cl _ _).run _ e L);obtain⟨cb,ab,rfl,F,O,d,aq,h4,h5,h6,h7,h8⟩:=hh;obtain⟨v,hr,hv⟩:=pJ hT F h4;have ZG:Left aV e (ab.cut (aI aq) λ _=>false):=by
  refine⟨F.env.kept,F.env.cl,λ b k J=>?_,λ b Z=>?_⟩
  ·have dI:(if aI aq b=true then ab.bx b else none)=some k:=J;split at dI
   ·exact(F.env.bx b k dI).2.1
   ·cases dI
  ·show(if aI aq b=true then ab.bx b else none)=_;rw[if_pos (h7.get Z),jd b Z];exact F.env.kb b _ (zx Z)
 have lh:bs.defers=[]/\∃v,(results fn bs.tmps).run P ab.w=.ok v ab.w/\∃ij d aq nZ,Ending.returned v=.returned ij/\nZ.w=ab.w/\aO d aq/\fY aq nZ/\bz nZ ij d/\Left aV e nZ:=
  ⟨F.df,v,hr,v,d,aq,ab.cut (aI aq) λ _=>false,rfl,rfl,h8,lT F h6,hv.cut h5,ZG⟩
 rcases O with rfl|rfl
 ·exact lh
 ·exact lh
def CB(Q:Exit->St->Prop):Exit->St->Prop
 |.goto _,_=>False
 |ex,M=>Q ex M
theorem Wx{c:Code}(h:aP P Γ c (CB Q) M):aP P Γ (.scope c) Q M:=⟨λ a e L=>by
 refine wp_scope_straight (Code.wp_mono (λ ex bs aM hh=>?_) (h.run a e L));obtain⟨cb,ab,rfl,F,O⟩:=hh;cases ex with
 |goto l=>exact O.elim
 |_=>exact⟨cb,ab,rfl,F,O⟩⟩
theorem Wr{n:Nat}(h:Q .normal M):aP P Γ (.label n) Q M:=⟨λ _ e L=>wp_label ⟨M,e,rfl,L,h⟩⟩
end
end Go.Proofs.YtcnefjfboagbmaaGreat
end
section
namespace Go.Proofs.YtcnefjfboagbmaaGreat
open Go.RowKit
section
variable{P:Program}{ap:Nat->Option TI}{Γ:bN}{M cb bb:St}{o:Oper}{l0 l:List Oper}{Q:Exit->St->Prop}
def cU(n:Nat):Nat->Bool:=λ m=>!Nat.beq n m
theorem L5{n m:Nat}(h:cU n m=true):m≠n:=λ e=>by subst e;simp[cU] at h
theorem acj{n m:Nat}(h:m≠n):cU n m=true:=by
 have:Nat.beq n m=false:=by rw[Bool.eq_false_iff];intro Z;exact h (Nat.eq_of_beq_eq_true Z).symm
 simp[cU,this]
theorem bu.forget{e:aC}{a:Act}(L:bu Γ M e a)(nm:Nat)(J:kv Γ.kb nm=none):bu Γ ⟨sG (cU nm) M.s,iL (Nat.beq nm) (cU nm) M.b,M.g⟩ (e.cut (cU nm) λ _=>true) a:=by
 have jd:∀b k,(e.cut (cU nm) λ _=>true).bx b=some k->e.bx b=some k:=λ b k h=>by
  have bQ:(if cU nm b=true then e.bx b else none)=some k:=h;split at bQ
  ·exact bQ
  ·cases bQ
 have hc:∀k,(e.cut (cU nm) λ _=>true).gr k=e.gr k:=λ k=>by
  show(match e.gr k with|some g=>if true=true then some g else none|none=>none)=_;cases e.gr k<;>simp
 have fH:∀g,(e.cut (cU nm) λ _=>true).gi g=e.gi g:=λ g=>by
  show(if true=true then e.gi g else none)=_;simp
 refine⟨L.size,L.df,λ t d ht=>?_,λ b cs Z=>?_,λ b Z=>?_,λ g=>by rw[fH];exact L.gs g,L.env.kept,L.env.cl,λ b k h=>?_,λ b c k A F=>L.env.inj b c k (jd _ _ A) (jd _ _ F),λ k g h=>?_,λ b k h=>?_⟩
 ·obtain⟨d0,A,rfl⟩:=JB ht;exact Lx (L.bU t d0 A)
 ·obtain⟨A,lP,F,rfl⟩:=Ba Z;obtain⟨k,vs,el,O,h4,h5⟩:=L.boxes b lP F;refine⟨k,vs,el,?_,h4,JA h5⟩;show(if cU nm b=true then e.bx b else none)=_;rw[if_pos (by simp[cU,A])];exact O
 ·show(if cU nm b=true then e.bx b else none)=_;rcases Ge Z with h|h
  ·rw[if_neg (by simp only[cU,h];decide)]
  ·rw[L.eE b h];simp
 ·obtain⟨A,F,O,h4⟩:=L.env.bx b k (jd b k h);exact⟨A,F,O,by rw[hc];exact h4⟩
 ·rw[hc] at h;obtain⟨au,cur,A,F⟩:=L.env.gr k g h;exact⟨au,cur,by rw[fH];exact A,F⟩
 ·show(if cU nm b=true then e.bx b else none)=_;rw[if_pos (acj (λ ab=>by rw[ab,J] at h;cases h))];exact L.env.kb b k h
theorem bu.GD{e:aC}{a:Act}(L:bu Γ M e a){b k:Nat}{cs:List K}(Z:kv M.b b=none)(J:k<e.w.heap.size)(pZ:Γ.w0.heap.size<=k\/Γ.own k)(ea:e.cl k=some 0)(hc:e.gr k=none)(dC:∀c,e.bx c≠some k)
 (io:h1 (e.iz b k) b cs):bu Γ ⟨M.s,(b,cs)::M.b,M.g⟩ (e.iz b k) a:=by
 have hn:=L.eE b Z;have I:=tE (k:=k) hn;refine⟨L.size,L.df,λ t d ht=>(L.bU t d ht).next I,λ c ds rM=>?_,λ c qN=>?_,L.gs,?_⟩
 ·simp only[da] at rM;split at rM
  ·rename_i ue;subst ue;cases rM;exact io
  ·exact(L.boxes c ds rM).ends I rfl
 ·simp only[da] at qN;split at qN
  ·cases qN
  ·rename_i ue;show(if c=b then some k else e.bx c)=none;rw[if_neg (λ ab=>ue ab.symm)];exact L.eE c qN
 ·refine⟨L.env.kept,L.env.cl,λ c j hj=>?_,λ c cg j A F=>?_,L.env.gr,λ c j hj=>I.bx c j (L.env.kb c j hj)⟩
  ·have fI:(if c=b then some k else e.bx c)=some j:=hj;split at fI
   ·cases fI;exact⟨J,pZ,ea,hc⟩
   ·exact L.env.bx c j fI
  ·have aU:(if c=b then some k else e.bx c)=some j:=A;have bB:(if cg=b then some k else e.bx cg)=some j:=F
   by_cases e1:c=b<;>by_cases e2:cg=b
   ·rw[e1,e2]
   ·rw[if_pos e1] at aU;rw[if_neg e2] at bB;cases aU;exact absurd bB (dC cg)
   ·rw[if_neg e1] at aU;rw[if_pos e2] at bB;cases bB;exact absurd aU (dC c)
   ·rw[if_neg e1] at aU;rw[if_neg e2] at bB;exact L.env.inj c cg j aU bB
theorem bu.Uf{e:aC}{a:Act}(L:bu Γ M e a){k:Nat}(us:List Value)(pZ:Γ.w0.heap.size<=k\/Γ.own k)(ea:e.cl k=some 0)(hc:e.gr k=none)(dC:∀c,e.bx c≠some k):
 bu Γ M {e with w:=e.w.setRow k us.toArray} a/\Ends e {e with w:=e.w.setRow k us.toArray}:=by
 have ib:∀j,j≠k->(e.w.setRow k us.toArray).heap[j]?=e.w.heap[j]?:=λ j hj=>setRow_other e.w k j _ hj
 have I:Ends e {e with w:=e.w.setRow k us.toArray}:=by
  refine⟨λ bf o v DV hv=>?_,λ _ _ h=>h,λ _ au h=>⟨au,h,rfl,rfl,Nat.le_refl _⟩,λ j g au cur h5 h6 h7=>⟨h5,cur,?_,rfl⟩⟩
  ·have b9:bf≠k:=λ ab=>by subst ab;exact absurd (DV 0 ea) (by omega)
   exact⟨DV,by show(e.w.setRow k us.toArray).cell? _=_;rw[World.cell?_of_block (w:=e.w) (ib bf b9)];exact hv⟩
  ·show(e.w.setRow k us.toArray).heap[j]?=_;rw[ib j (λ ab=>by subst ab;rw[hc] at h5;cases h5)];exact h7
 refine⟨⟨L.size,L.df,λ t d ht=>(L.bU t d ht).next I,λ bf ds D=>?_,L.eE,L.gs,?_⟩,I⟩
 ·obtain⟨iG,eY,Ds,h5,h6,h7⟩:=L.boxes bf ds D;refine⟨iG,eY,Ds,h5,?_,h7.next I⟩;show(e.w.setRow k us.toArray).heap[iG]?=_;rw[ib iG (λ ab=>dC bf (by rw[h5,ab]))];exact h6
 ·refine⟨⟨L.env.kept.os,L.env.kept.tape,L.env.kept.output,by show _<=(e.w.setRow k us.toArray).heap.size;rw[setRow_size];exact L.env.kept.size,λ j hj ho=>?_⟩,L.env.cl,λ bf j hj=>?_,L.env.inj,λ j g hg=>?_,L.env.kb⟩
  ·show(e.w.setRow k us.toArray).heap[j]?=_;rw[ib j (λ ab=>by subst ab;rcases pZ with F|F<;>first|omega|exact ho F)];exact L.env.kept.block j hj ho
  ·obtain⟨h5,h6,h7,h8⟩:=L.env.bx bf j hj;exact⟨by show j<(e.w.setRow k us.toArray).heap.size;rw[setRow_size];exact h5,h6,h7,h8⟩
  ·obtain⟨au,cur,h5,h6,h7,h8,h9⟩:=L.env.gr j g hg;refine⟨au,cur,h5,by show j<(e.w.setRow k us.toArray).heap.size;rw[setRow_size];exact h6,h7,h8,?_⟩;show(e.w.setRow k us.toArray).heap[j]?=_;rw[ib j (λ ab=>by subst ab;rw[hc] at hg;cases hg)];exact h9
theorem T1(w:World)(t ty e e0:TypeId)(i:TypeInfo)(ht:P.underlying t=some (.slice e))(hi:P.info? e=some i)
 (g AA MW:Nat)(cur:Array Value)(hg:w.heap[g]?=some (.cells cur e0 (0,0)))
 (a:Addr)(m c:Nat)(news:List Value)(U:news.length=m*i.size)(Z0:∀(j:Nat) u,news[j]?=some u->w.cell? (a.add j)=some u)(A:∀u∈news,u.oneCell'=true)
 (qe:AA+m<=MW)(DZ:AA*i.size+news.length<=cur.size):
 (Builtin.append_ #[t,t] ty #[.slice (some ⟨g,0,none⟩) AA MW,.slice (some a) m c]).run P w=
  .ok (.slice (some ⟨g,0,none⟩) (AA+m) MW) (w.setRow g (cur.toList.take (AA*i.size)++news++cur.toList.drop (AA*i.size+news.length)).toArray):=by
 have hf:=run_firstCells_some (P:=P) w i.size m a m c news U Z0;have cF:=run_storeCells_at P g (AA*i.size) e0 news 0 cur w hg (by simpa using DZ) A;simp only[Nat.add_zero] at cF;simp[Builtin.append_,run_underlying ht,sizeOf,typeInfo,hi,Builtin.lenOf,qe,hf,Addr.add_lit,cF]
inductive C5(e:aC)(nm n c:Nat)(ps:List Pl):Value->Prop where
 |none (hn:n=0) (L:c=0) (db:ps=[]):C5 e nm n c ps (.slice none 0 0)
 |empty {ad:Addr} (hn:n=0) (L:c=0) (db:ps=[]):C5 e nm n c ps (.slice (some ad) 0 0)
 |some {k:Nat} {vs:List Value} {el:TypeId} (J:e.bx nm=some k) (hh:e.w.heap[k]?=some (.cells vs.toArray el (0,0))) (U:vs.length=c) (hn:n<=c) (db:ps.length=n) (hr:∀(j:Nat) v x,vs[j]?=some v->ps[j]?=some x->dm e v x):C5 e nm n c ps (.slice (some ⟨k,0,none⟩) n c)
theorem Mq{e:aC}{vs:List Value}{cs:List K}{ps:List Pl}(h:DReps e vs cs)(hp:cs.take ps.length=ps.map K.p):∀(j:Nat) v x,vs[j]?=some v->ps[j]?=some x->dm e v x:=by
 intro j v x hv T;have hj:=(List.getElem?_eq_some_iff.1 T).1;have A:(cs.take ps.length)[j]?=some (.p x):=by rw[hp,List.getElem?_map,T];rfl
 rw[List.getElem?_take,if_pos hj] at A;have:=h.2 j v _ hv A;cases this with
 |p h=>exact h
theorem H5{e:aC}{vs:List Value}{ps:List Pl}(hn:ps.length<=vs.length)(h:∀(j:Nat) v x,vs[j]?=some v->ps[j]?=some x->dm e v x):DReps e vs (ps.map K.p++List.replicate (vs.length-ps.length) .any):=by
 refine⟨by simp;omega,λ j v d hv D=>?_⟩;rcases Nat.lt_or_ge j ps.length with hj|hj
 ·rw[List.getElem?_append_left (by simpa using hj),List.getElem?_map,List.getElem?_eq_getElem hj] at D;cases D;exact .p (h j v _ hv (List.getElem?_eq_getElem hj))
 ·rw[List.getElem?_append_right (by simpa using hj),List.getElem?_replicate] at D;split at D
  ·cases D;exact .any
  ·cases D
def fy(cs:List K):Prop:=∀B au,K.ok.eR B au cs=true
theorem H7(ps:List Pl)(r:Nat):fy (ps.map K.p++List.replicate r K.any):=by
 intro B au;induction ps with
 |nil=>
  induction r with
  |zero=>rfl
  |succ r ih=>simp only[List.map_nil,List.nil_append,List.replicate_succ,K.ok.eR,K.ok,Bool.true_and] at ih⊢;exact ih
 |cons p ps ih=>simp only[List.map_cons,List.cons_append,K.ok.eR,K.ok,Bool.true_and];exact ih
theorem V8(hT:di P ap){e:aC}{a:Act}(L:bu Γ M e a){ty:TypeId}{nm n m c el z1 z2:Nat}{z3:Value}{ps qs:List Pl}{i:TI}{vx vy:Value}{t:TypeId}(ht:ap t=some ⟨.slice el,z1,z2,z3⟩)(ek:ap el=some i)(gX:i.zero.cells.size=1)(Hn:i.sz=1)(dV:kv Γ.kb nm=none)
 (T:C5 e nm n c ps vx)(lc:c<=maxLen)(fw:dm e vy (.sl false m qs))(hm:0<m)(d6:qs.length=m)
 (gt:n+m<=maxLen)(gF:(n+m)*i.bytes<=140737488355328):∃v ab aS cg,(Builtin.append_ #[t,t] ty #[vx,vy]).run P e.w=.ok v ab.w/\aS.length=cg/\cg<=maxLen/\n+m<=cg/\aS.take (n+m)=(ps++qs).map K.p/\fy aS/\
  bu Γ ⟨sG (cU nm) M.s,(nm,aS)::iL (Nat.beq nm) (cU nm) M.b,M.g⟩ ab a/\bz ab v (.arr nm 0 (n+m) cg):=by
 obtain⟨d0,ec,J⟩:=hT.desc t _ ht;cases d0<;>simp only[jI,reduceCtorEq,TK.slice.injEq] at J
 rw[J] at ec;obtain⟨gy,nn,ci,uf,hz⟩:=hT.info _ i ek;rw[Hn] at ci;obtain⟨aH,md,rfl,Rx,Rz,Qd,_,hY⟩:=rf fw;have Ex:qs≠[]:=λ ab=>by rw[ab] at d6;simp at d6;omega
 rcases hY with hY|⟨yb,yo,rfl,DI⟩
 ·exact absurd hY Ex
 obtain⟨us,tm,qX,mo,vN⟩:=Dh DI;have qf:us.length=m*gy.size:=by rw[tm,d6,ci];omega
 have vM:us.length=m:=by rw[tm,d6]
 have vq:=L.forget nm dV;have Er:kv (iL (Nat.beq nm) (cU nm) M.b) nm=none:=by
  cases h:kv (iL (Nat.beq nm) (cU nm) M.b) nm with
  |none=>rfl
  |some cs=>have:=(Ba h).1;simp at this
 have uh:∀(os:List Value),os.length=n->ps.length=n->(∀(j:Nat) v x,os[j]?=some v->ps[j]?=some x->dm e v x)->(c<n+m)->(Builtin.append_ #[t,t] ty #[vx,.slice (some ⟨yb,yo,none⟩) m md]).run P e.w=.ok (.slice (some ⟨e.w.heap.size,0,none⟩) (n+m) (grownCap e.w (n+m) c el)) (e.w.drew.alloc (.cells (os.toArray++us.toArray++Builtin.zeroCells i.zero.cells (grownCap e.w (n+m) c el-(n+m))) el))->
  ∃v ab aS cg,(Builtin.append_ #[t,t] ty #[vx,.slice (some ⟨yb,yo,none⟩) m md]).run P e.w=.ok v ab.w/\aS.length=cg/\cg<=maxLen/\n+m<=cg/\aS.take (n+m)=(ps++qs).map K.p/\fy aS/\
  bu Γ ⟨sG (cU nm) M.s,(nm,aS)::iL (Nat.beq nm) (cU nm) M.b,M.g⟩ ab a/\bz ab v (.arr nm 0 (n+m) cg):=by
  intro os jB db vG bm c8;have iq:n+m<=grownCap e.w (n+m) c el:=grownCap_ge _ _ _ _;have pp:grownCap e.w (n+m) c el<=maxLen:=grownCap_le_maxLen _ _ _ _ gt;generalize grownCap e.w (n+m) c el=bS at iq pp c8
  let e1:=e.cut (cU nm) λ _=>true
  let i7:List Value:=os++us++(Builtin.zeroCells i.zero.cells (bS-(n+m))).toList
  have rU:os.toArray++us.toArray++Builtin.zeroCells i.zero.cells (bS-(n+m))=i7.toArray:=by apply Array.ext';simp[i7]
  have cD:i7.length=bS:=by
   have:(Builtin.zeroCells i.zero.cells (bS-(n+m))).toList.length=bS-(n+m):=by rw[Array.length_toList,size_zeroCells,gX];omega
   simp only[i7,List.length_append,jB,vM,this];omega
  rw[rU] at c8
  let e2:aC:={e1 with w:=e.w.drew}
  have jT:kI e1 e2:=⟨(Below.refl _ _).drew,λ _ _=>rfl,rfl,rfl,rfl⟩;have d4:=aC.tM e2 (.cells i7.toArray el) (some 0);have e9:=(vq.grow jT).grow d4;have mI:Ends e1 (e2.alloc (.cells i7.toArray el) (some 0)):=jT.ends.trans d4.ends;have px:∀(j:Nat) v x,i7[j]?=some v->(ps++qs)[j]?=some x->dm e1 v x:=by
   intro j v x hv T;rcases Nat.lt_or_ge j n with hj|hj
   ·rw[List.getElem?_append_left (by omega)] at T;simp only[i7,List.append_assoc] at hv;rw[List.getElem?_append_left (by omega)] at hv;exact(vG j v x hv T).cut
   ·rw[List.getElem?_append_right (by omega),db] at T;have KM:=(List.getElem?_eq_some_iff.1 T).1;simp only[i7,List.append_assoc] at hv;rw[List.getElem?_append_right (by omega),jB,List.getElem?_append_left (by omega)] at hv;exact(vN _ v x hv T).cut
  have bH:(ps++qs).length=n+m:=by simp[db,d6]
  have vk:=H5 (e:=e1) (vs:=i7) (ps:=ps++qs) (by omega) px;have iC:(e2.alloc (.cells i7.toArray el) (some 0)).bx nm=none:=by show(if cU nm nm=true then e.bx nm else none)=none;simp[cU]
  have yL:=tE (k:=e.w.heap.size) iC;have yZ:=e9.GD (b:=nm) (k:=e.w.heap.size) (cs:=(ps++qs).map K.p++List.replicate (i7.length-(ps++qs).length) K.any) Er (by simp[aC.alloc,e2]) (.inl L.env.kept.size) (by simp[aC.alloc,e2]) (by
   show(e.cut (cU nm) λ _=>true).gr _=none;show(match e.gr e.w.heap.size with|some g=>if true=true then some g else none|none=>none)=none;cases hg:e.gr e.w.heap.size with
   |none=>rfl
   |some g=>obtain⟨_,_,_,O,_⟩:=L.env.gr _ g hg;omega) (λ x T=>by
   have eA:(if cU nm x=true then e.bx x else none)=some e.w.heap.size:=T;split at eA
   ·have:=(L.env.bx x _ eA).1;omega
   ·cases eA) ⟨e.w.heap.size,i7,el,by simp[aC.iz],heap_alloc_new e2.w _,(vk.next mI).next yL⟩
  refine⟨_,(e2.alloc (.cells i7.toArray el) (some 0)).iz nm e.w.heap.size,_,bS,c8,?_,pp,iq,?_,H7 _ _,yZ,.arr (by simp[aC.iz])⟩
  ·simp only[List.length_append,List.length_map,List.length_replicate,cD,db,d6];omega
  ·rw[<-bH,List.take_append_of_le_length (by simp),List.take_of_length_le (by simp)]
 cases T with
 |empty hn ip db=>rename_i ad;subst hn;subst ip;subst db;have c8:=run_append_grow (P:=P) e.w t ty el gy i.zero ec nn hz ad 0 0 [] (by simp) (λ j v hj=>by simp at hj) ⟨yb,yo,none⟩ m md us qf qX (by omega) (by simp only[maxLen] at gt;omega) (growslice_fits (by omega) (by rw[uf];exact gF));exact uh [] rfl rfl (λ j v x hj=>by simp at hj) (by omega) c8
 |none hn ip db=>subst hn;subst ip;subst db;have c8:=run_append_nil (P:=P) e.w t ty el gy i.zero ec nn hz ⟨yb,yo,none⟩ m md us qf qX hm (by simp only[maxLen] at gt;omega) (by rw[uf];simp only[Nat.zero_add] at gF;omega);exact uh [] rfl rfl (λ j v x hj=>by simp at hj) (by omega) (by simpa using c8)
 |some J hh U hn db hr=>
  rename_i k vs qE
  by_cases qe:n+m<=c
  ·have c8:=T1 (P:=P) e.w t ty el qE gy ec nn k n c vs.toArray hh ⟨yb,yo,none⟩ m md us qf qX mo qe (by simp[ci,vM,U];omega);obtain⟨A,F,O,h4⟩:=L.env.bx nm k J
   let eY:=vs.take n++us++vs.drop (n+m)
   have oR:(vs.toArray.toList.take (n*gy.size)++us++vs.toArray.toList.drop (n*gy.size+us.length))=eY:=by simp[ci,vM,eY]
   rw[oR] at c8;have dC:∀x,(e.cut (cU nm) λ _=>true).bx x≠some k:=λ x T=>by
    have eA:(if cU nm x=true then e.bx x else none)=some k:=T;split at eA
    ·rename_i b9;exact L5 b9 (L.env.inj _ _ _ eA J)
    ·cases eA
   have vw:(e.cut (cU nm) λ _=>true).gr k=none:=by show(match e.gr k with|some g=>if true=true then some g else none|none=>none)=none;rw[h4]
   obtain⟨qW,I⟩:=vq.Uf eY F O vw dC;have cD:eY.length=c:=by simp[eY,vM,U];omega
   have bH:(ps++qs).length=n+m:=by simp[db,d6]
   have px:∀(j:Nat) v x,eY[j]?=some v->(ps++qs)[j]?=some x->dm (e.cut (cU nm) λ _=>true) v x:=by
    intro j v x hv T;rcases Nat.lt_or_ge j n with hj|hj
    ·rw[List.getElem?_append_left (by omega)] at T;simp only[eY,List.append_assoc] at hv;rw[List.getElem?_append_left (by simp;omega),List.getElem?_take,if_pos hj] at hv;exact(hr j v x hv T).cut
    ·rw[List.getElem?_append_right (by omega),db] at T;have KM:=(List.getElem?_eq_some_iff.1 T).1;simp only[eY,List.append_assoc] at hv;rw[List.getElem?_append_right (by simp;omega),List.length_take,U,Nat.min_eq_left hn,List.getElem?_append_left (by omega)] at hv;exact(vN _ v x hv T).cut
   have vk:=H5 (vs:=eY) (ps:=ps++qs) (by omega) px;have iC:(e.cut (cU nm) λ _=>true).bx nm=none:=by show(if cU nm nm=true then e.bx nm else none)=none;simp[cU]
   have yL:=tE (e:={w:=(e.cut (cU nm) λ _=>true).w.setRow k eY.toArray,cl:=(e.cut (cU nm) λ _=>true).cl,bx:=(e.cut (cU nm) λ _=>true).bx,gr:=(e.cut (cU nm) λ _=>true).gr,gi:=(e.cut (cU nm) λ _=>true).gi}) (b:=nm) (k:=k) iC;have yZ:=qW.GD (b:=nm) (k:=k) (cs:=(ps++qs).map K.p++List.replicate (eY.length-(ps++qs).length) K.any) Er (by show k<(e.w.setRow k _).heap.size;rw[setRow_size];exact A) F O vw dC ⟨k,eY,qE,by simp[aC.iz],FX hh,(vk.next I).next yL⟩;refine⟨_,_,_,c,c8,?_,lc,qe,?_,H7 _ _,yZ,.arr (by simp[aC.iz])⟩
   ·simp only[List.length_append,List.length_map,List.length_replicate,cD,db,d6];omega
   ·rw[<-bH,List.take_append_of_le_length (by simp),List.take_of_length_le (by simp)]
  ·have c8:=run_append_grow (P:=P) e.w t ty el gy i.zero ec nn hz ⟨k,0,none⟩ n c (vs.take n) (by simp[ci,U];omega) (λ j v hj=>by
    rw[List.getElem?_take] at hj;split at hj
    ·rw[sC,cell_of_row e.w k (0+j) vs.toArray qE (0,0) hh];simpa using hj
    ·cases hj) ⟨yb,yo,none⟩ m md us qf qX (by omega) (by simp only[maxLen] at gt;omega) (growslice_fits (by omega) (by rw[uf];exact gF))
   exact uh (vs.take n) (by simp[U];omega) db (λ j v x hv T=>by
    rw[List.getElem?_take] at hv;split at hv
    ·exact hr j v x hv T
    ·cases hv) (by omega) c8
end
end Go.Proofs.YtcnefjfboagbmaaGreat
end
section
namespace Go.Proofs.YtcnefjfboagbmaaGreat
open Go.RowKit
section
variable{P:Program}{ap:Nat->Option TI}{Γ:bN}{o:Oper}{l0 l:List Oper}{Q:Exit->St->Prop}
variable{s aa:List (Nat×K)}{b bf:List (Nat×List K)}{g:List (Nat×Gr)}{t:Nat}
theorem TZ{a:Act}{ty:TypeId}{x y:Operand}{w aM:World}{v:Value}(ho:o.op=.call {callee:=.builtin .append,args:=#[x,y],argTypes:=#[ty,ty]})(h:(Builtin.append_ #[ty,ty] o.type #[a.eval x,a.eval y]).run P w=.ok v aM):(execOp a.eval o).run P w=.ok (.value v) aM:=by obtain⟨dst,op,type,pos,after,guard⟩:=o;simp only at ho;subst ho;simp only[execOp,resolve,invoke,builtin,Sem.run_bind,Sem.run_pure,Result.andThen_ok,List.map_toArray,List.map_cons,List.map_nil,h]
theorem V6(hT:di P ap)(nm:Nat){ty:TypeId}{x y:Operand}{n m c el z1 z2:Nat}{z3:Value}{ps qs:List Pl}{dy:K}{i:TI}(ho:o.op=.call {callee:=.builtin .append,args:=#[x,y],argTypes:=#[ty,ty]})(ht:ap ty=some ⟨.slice el,z1,z2,z3⟩)(ek:ap el=some i)(gX:Nat.beq i.zero.cells.size 1=true)(ci:Nat.beq i.sz 1=true)
 (hg:gd l0 o (kv s)=some true)(D:o.dst=some t)(U:Nat.blt t Γ.n=true)(dV:kv Γ.kb nm=none)(T:∀(a:Act)(e:aC),bu Γ ⟨s,b,g⟩ e a->C5 e nm n c ps (a.eval x))(lc:c<=maxLen)(hy:ev (kv s) y=some dy)(lZ:nK dy=some (m,qs))(hm:0<m)(d6:qs.length=m)
 (gt:n+m<=maxLen)(gF:(n+m)*i.bytes<=140737488355328)(gG:lS (cU nm) s (λ aa=>me (Nat.beq nm) (cU nm) b (λ bf=>some (aa,bf)))=some (aa,bf))
 (h:∀aS cg,aS.length=cg->cg<=maxLen->n+m<=cg->aS.take (n+m)=(ps++qs).map K.p->fy aS->bq P Γ l0 Q l ⟨(t,.arr nm 0 (n+m) cg)::aa,(nm,aS)::bf,g⟩):bq P Γ l0 Q (o::l) ⟨s,b,g⟩:=by
 rw[u9,u7] at gG;cases gG;refine⟨λ a e L=>?_⟩;unfold wpList;rw[if_pos (mf L hg)];have jC:=L.iP o.op.operands;have fw:=x3 (jC.1 y (by rw[ho];simp[Op.operands,Call.operands]) _ hy) lZ;obtain⟨v,ab,aS,cg,c8,A,F,O,h4,bH,h5,h6⟩:=V8 hT L (ty:=o.type) ht ek (Nat.eq_of_beq_eq_true gX) (Nat.eq_of_beq_eq_true ci) dV (T a e L) lc fw hm d6 gt gF;refine .inl ?_;unfold Oper.wp;rw[TZ ho c8];have:=(h5.put (dst:=o.dst) (qD D U) h6);rw[D] at this;show wpList P l0.toArray (jM Γ Q) l (a.put o.dst v) ab.w;rw[D];exact(h aS cg A F O h4 bH).run _ ab this
theorem Ol(hT:di P ap)(nm:Nat){ty:TypeId}{x y:Operand}{m el z1 z2:Nat}{z3:Value}{qs:List Pl}{dy:K}{i:TI}(ho:o.op=.call {callee:=.builtin .append,args:=#[x,y],argTypes:=#[ty,ty]})(ht:ap ty=some ⟨.slice el,z1,z2,z3⟩)(ek:ap el=some i)(gX:Nat.beq i.zero.cells.size 1=true)(ci:Nat.beq i.sz 1=true)
 (hg:gd l0 o (kv s)=some true)(D:o.dst=some t)(U:Nat.blt t Γ.n=true)(T:ev (kv s) x=some (.p (.sl true 0 [])))(dV:kv Γ.kb nm=none)(hy:ev (kv s) y=some dy)(lZ:nK dy=some (m,qs))(gG:lS (cU nm) s (λ aa=>me (Nat.beq nm) (cU nm) b (λ bf=>some (aa,bf)))=some (aa,bf))
 (hm:0<m)(d6:qs.length=m)(gt:m<=maxLen)(gF:m*i.bytes<=140737488355328)
 (h:∀aS cg,aS.length=cg->cg<=maxLen->m<=cg->aS.take m=qs.map K.p->fy aS->bq P Γ l0 Q l ⟨(t,.arr nm 0 m cg)::aa,(nm,aS)::bf,g⟩):bq P Γ l0 Q (o::l) ⟨s,b,g⟩:=by
 refine V6 hT nm (n:=0) (c:=0) (ps:=[]) ho ht ek gX ci hg D U dV (λ a e L=>?_) (Nat.zero_le _) hy lZ hm d6 (by omega) (by simpa using gF) gG (λ aS cg A F O h4 bH=>?_)
 ·have cj:=(L.iP o.op.operands).1 x (by rw[ho];simp[Op.operands,Call.operands]) _ T;generalize a.eval x=vx at cj;cases cj with
  |p A=>
   obtain⟨am,bS,rfl,_,_,_,h5,_⟩:=rf A;have:=h5 rfl;subst this;cases am with
   |none=>exact .none rfl rfl rfl
   |some ad=>exact .empty rfl rfl rfl
 ·simp only[Nat.zero_add,List.nil_append] at O h4⊢;exact h aS cg A F O h4 bH
theorem bu.yt{M:St}{e:aC}{a:Act}(L:bu Γ M e a){k:Nat}(m:Nat)(pZ:Γ.w0.heap.size<=k\/Γ.own k)(ea:e.cl k=some 0)(hc:e.gr k=none)(dC:∀c,e.bx c≠some k):
 bu Γ M {e with cl:=λ j=>if j=k then some m else e.cl j} a/\Ends e {e with cl:=λ j=>if j=k then some m else e.cl j}:=by
 have I:Ends e {e with cl:=λ j=>if j=k then some m else e.cl j}:=by
  refine⟨λ bf o v DV hv=>⟨λ n hn=>?_,hv⟩,λ _ _ h=>h,λ _ au h=>⟨au,h,rfl,rfl,Nat.le_refl _⟩,λ j g au cur h5 h6 h7=>⟨h5,cur,h7,rfl⟩⟩;have b9:bf≠k:=λ ab=>by subst ab;exact absurd (DV 0 ea) (by omega)
  have lD:(if bf=k then some m else e.cl bf)=some n:=hn;rw[if_neg b9] at lD;exact DV n lD
 refine⟨⟨L.size,L.df,λ t d ht=>(L.bU t d ht).next I,λ bf ds D=>(L.boxes bf ds D).ends I rfl,L.eE,L.gs,⟨L.env.kept,λ j hj ho=>?_,λ bf j hj=>?_,L.env.inj,λ j g hg=>?_,L.env.kb⟩⟩,I⟩
 ·show(if j=k then some m else e.cl j)=_;rw[if_neg (λ ab=>by subst ab;rcases pZ with F|F<;>first|omega|exact ho F)];exact L.env.cl j hj ho
 ·obtain⟨h5,h6,h7,h8⟩:=L.env.bx bf j hj;refine⟨h5,h6,?_,h8⟩;show(if j=k then some m else e.cl j)=_;rw[if_neg (λ ab=>dC bf (by rw[<-ab];exact hj))];exact h7
 ·obtain⟨au,cur,h5,h6,h7,h8,h9⟩:=L.env.gr j g hg;refine⟨au,cur,h5,h6,h7,?_,h9⟩;show(if j=k then some m else e.cl j)=_;rw[if_neg (λ ab=>by subst ab;rw[hc] at hg;cases hg)];exact h8
def Pl.lf:Pl->Bool
 |.raw v=>mr v
 |.sl ..=>true
theorem LK{e:aC}{v:Value}{x:Pl}(h:dm e v x)(U:x.lf=true):mr v=true:=by
 cases h with
 |raw v=>exact U
 |sl=>rfl
theorem JT(t nm:Nat){n c:Nat}{cs:List K}(ps:List Pl)(ht:kv s t=some (.arr nm 0 n c))(Z:kv b nm=some cs)(dV:kv Γ.kb nm=none)(gG:lS (cU nm) s (λ aa=>me (Nat.beq nm) (cU nm) b (λ bf=>some (aa,bf)))=some (aa,bf))
 (cR:cs.length=c)(uq:n<=c)(db:ps.length=n)(pz:cs.take n=ps.map K.p)(lc:c<=maxLen)(qU:∀x∈ps,x.lf=true):bY Γ ⟨s,b,g⟩ ⟨(t,.p (.sl false n ps))::aa,bf,g⟩:=by
 rw[u9,u7] at gG;cases gG;intro a e L;have vq:=L.forget nm dV;have A:=L.bU t _ ht;obtain⟨k,vs,el,F,O,h4⟩:=L.boxes nm cs Z;have jd:=L.env.bx nm k F;have dC:∀x,(e.cut (cU nm) λ _=>true).bx x≠some k:=λ x T=>by
  have eA:(if cU nm x=true then e.bx x else none)=some k:=T;split at eA
  ·rename_i b9;exact L5 b9 (L.env.inj _ _ _ eA F)
  ·cases eA
 have vw:(e.cut (cU nm) λ _=>true).gr k=none:=by show(match e.gr k with|some g=>if true=true then some g else none|none=>none)=none;rw[jd.2.2.2]
 obtain⟨h5,I⟩:=vq.yt n jd.2.1 jd.2.2.1 vw dC;refine⟨{e.cut (cU nm) (λ _=>true) with cl:=λ j=>if j=k then some n else(e.cut (cU nm) λ _=>true).cl j},rfl,h5.size,h5.df,λ u d hu=>?_,h5.boxes,h5.eE,h5.gs,h5.env⟩;simp only[da] at hu;split at hu
 ·rename_i l6;subst l6;cases hu;have cD:vs.length=c:=by rw[h4.1,cR]
  have bH:=Mq h4 (by rw[db];exact pz);generalize gq a t=v at A;cases A with
  |arr J=>
   rw[F] at J;cases J;refine .p (CH uq lc (λ h=>by cases h) (λ h=>by cases h) (.inr ⟨k,0,rfl,λ j=>vs.getD j undef,λ j x T=>?_⟩));have hj:=(List.getElem?_eq_some_iff.1 T).1;have fI:j<vs.length:=by omega
   have p6:vs.getD j undef=vs[j]:=by simp[fI]
   have hu:vs[j]?=some vs[j]:=List.getElem?_eq_getElem fI;have hr:=bH j _ x hu T;show aC.nW _ k (0+j)/\World.cell? _ ⟨k,0+j,none⟩=some (vs.getD j undef)/\mr (vs.getD j undef)=true/\dm _ (vs.getD j undef) x;rw[p6,Nat.zero_add];refine⟨λ q hq=>?_,?_,LK hr (qU x (List.mem_of_getElem? T)),(hr.cut).next I⟩
   ·have iF:(if k=k then some n else e.cl k)=some q:=hq;rw[if_pos rfl] at iF;cases iF;omega
   ·show e.w.cell? _=_;rw[cell_of_row e.w k j vs.toArray el (0,0) O,List.getElem?_toArray];exact hu
 ·exact h5.bU u d hu
abbrev dU(m:Nat):K:=.p (.raw (.int .u64 m))
variable{S:Nat->Option K}{B:Nat->Option (List K)}
theorem Vf{n:Nat}(h:n<18446744073709551616):IntKind.u64.wrap (n:Int)=n:=by simp only[IntKind.wrap,IntKind.signed,IntKind.bits];simp;omega
def bG(m i:Nat):Nat:=(BitVec.ofNat 64 m&&&~~~BitVec.ofNat 64 (2^i)).toNat
theorem W0(m i j:Nat)(hm:m<18446744073709551616):(bG m i).testBit j=(m.testBit j&&!decide (i=j)):=by
 have A:(bG m i).testBit j=(BitVec.ofNat 64 m&&&~~~BitVec.ofNat 64 (2^i)).getLsbD j:=rfl;rw[A,BitVec.getLsbD_and,BitVec.getLsbD_not,BitVec.getLsbD_ofNat,BitVec.getLsbD_ofNat,Nat.testBit_two_pow]
 by_cases hj:j<64
 ·simp[hj]
 ·have:m.testBit j=false:=Nat.testBit_lt_two_pow (Nat.lt_of_lt_of_le hm (by have:=Nat.pow_le_pow_right (n:=2) (by omega) (show 64<=j by omega);omega));simp[hj,this]
end
end Go.Proofs.YtcnefjfboagbmaaGreat
end
section
namespace Go.Proofs.YtcnefjfboagbmaaGreat
open Go.RowKit
section
variable{P:Program}{ap:Nat->Option TI}{S:Nat->Option K}{B:Nat->Option (List K)}{o:Oper}
theorem gY(hT:di P ap){t el:TypeId}{x y:Operand}{nm of n:Nat}{k:IntKind}{i:Int}{z1 z2:Nat}{z3:Value}{j:TI}(ho:o.op=.indexAddr t x y)(ht:ap t=some ⟨.array n el,z1,z2,z3⟩)(he:ap el=some j)
 (T:ev S x=some (.ptr nm of))(hy:ev S y=some (.p (.raw (.int k i))))(h0:0<=i)(bm:i<n):dN P o S B (.ptr nm (of+i.toNat*j.sz)) none:=by
 refine jp λ a e hs=>?_
 have A:=hs.1 x (by rw[ho];simp[Op.operands]) _ T;have F:=dh (hs.1 y (by rw[ho];simp[Op.operands]) _ hy);generalize hv:a.eval x=vx at A;cases A with
 |ptr Z=>
  rename_i kk;obtain⟨d0,ec,J⟩:=hT.desc t _ ht;cases d0<;>simp only[jI,reduceCtorEq,TK.array.injEq] at J
  rw[J.1,J.2] at ec;refine⟨.pointer (some ⟨kk,of+i.toNat*j.sz,none⟩),?_,.ptr Z⟩;obtain⟨dst,op,type,pos,after,guard⟩:=o;simp only at ho;subst ho;simp[execOp,Instr.indexAt,Instr.sureAddr,F,hv,asIntOf,run_underlying ec,h0,bm,run_sizeOf hT he,sC]
theorem Do{av ei:Type}:∀(n:Nat)(l:List ei)(k:List ei->Option av),n<=l.length->la n l k=k (l.drop n)
 |0,l,k,_=>rfl
 |n+1,[],k,h=>by simp at h
 |n+1,x::l,k,h=>by rw[la,Do n l k (by simpa using h)];rfl
theorem jV(hT:di P ap){ty:TypeId}{x:Operand}{i:TI}{b of:Nat}{cs:List K}{d:K}(ho:o.op=.load ty x)(ht:ap ty=some i)(pj:i.k.agg=false)(T:ev S x=some (.ptr b of))(Z:B b=some cs)(D:cs[of]?=some d):dN P o S B d none:=by refine tN hT ?_;obtain⟨A,F⟩:=List.getElem?_eq_some_iff.1 D;rw[ho];simp only[ax,ht,T,Z];rw[Do of cs _ (by omega),List.drop_eq_getElem_cons A,F];simp[zY,pj]
end
end Go.Proofs.YtcnefjfboagbmaaGreat
end
section
namespace Go.Proofs.YtcnefjfboagbmaaGreat
open Go.RowKit
section
variable{P:Program}{ap:Nat->Option TI}{Γ:bN}{S:Nat->Option K}{B:Nat->Option (List K)}{o:Oper}{l0 l:List Oper}{Q:Exit->St->Prop}
variable{s:List (Nat×K)}{b:List (Nat×List K)}{g:List (Nat×Gr)}{t:Nat}
theorem abH(z:Value)(n:Nat):madeCells #[z] n=(List.replicate n z).toArray:=by
 apply Array.ext
 ·simp[madeCells]
 ·intro j A F;simp[madeCells,Nat.mod_one]
theorem So(hT:di P ap)(nm:Nat){ty el:TypeId}{z1 z2:Nat}{z3:Value}{i:TI}{x y:Operand}{k iG:IntKind}{n m:Int}{c:Nat}(ho:o.op=.makeSlice ty x y)(ht:ap ty=some ⟨.slice el,z1,z2,z3⟩)(ek:ap el=some i)(fe:Nat.beq i.sz 1=true)(RA:i.zero.cells=#[i.zero])
 (T:ev S x=some (.p (.raw (.int k n))))(hy:ev S y=some (.p (.raw (.int iG m))))(hn:n=c)(hm:m=c)(Z:c*i.bytes<=140737488355328)(gt:c<=maxLen):dN P o S B (.arr nm 0 c c) (some (nm,List.replicate c (pV i.zero))):=by
 subst hn;subst hm;intro a e hs eo;have A:=dh (hs.1 x (by rw[ho];simp[Op.operands]) _ T);have F:=dh (hs.1 y (by rw[ho];simp[Op.operands]) _ hy);obtain⟨d0,ec,J⟩:=hT.desc ty _ ht;cases d0<;>simp only[jI,reduceCtorEq,TK.slice.injEq] at J
 rw[J] at ec;obtain⟨gy,nn,ci,gF,hz⟩:=hT.info _ i ek;have aao:=Nat.eq_of_beq_eq_true fe;have Kl:(gy.bytes:Int)*(c:Int)<=281474976710656:=by
  have:((c*i.bytes:Nat):Int)<=140737488355328:=by omega
  rw[Int.natCast_mul,Int.mul_comm] at this;rw[gF];omega
 have c8:=run_make (P:=P) e.w ty el gy i.zero ec nn hz k iG c c (Int.natCast_nonneg c) (by omega) Kl (by unfold maxLen at gt;omega);rw[Int.toNat_natCast,ci,aao,Nat.mul_one,RA,abH] at c8;unfold Oper.wp;have e1:(execOp a.eval o).run P e.w=.ok (.value (.slice (some ⟨e.w.heap.size,0,none⟩) c c)) (e.w.alloc (.cells (List.replicate c i.zero).toArray el)):=by obtain⟨dst,op,type,pos,after,guard⟩:=o;simp only at ho;subst ho;simp[execOp,A,F,c8]
 rw[e1];have hg:=aC.tM e (.cells (List.replicate c i.zero).toArray el) (some 0);have iC:(e.alloc (.cells (List.replicate c i.zero).toArray el) (some 0)).bx nm=none:=by rw[hg.bx];exact eo _ rfl
 refine⟨_,(e.alloc (.cells (List.replicate c i.zero).toArray el) (some 0)).iz nm e.w.heap.size,rfl,rfl,_,e.w.heap.size,hg,Nat.le_refl _,by simp[aC.alloc],by simp[aC.alloc],rfl,⟨e.w.heap.size,List.replicate c i.zero,el,by simp[aC.iz],heap_alloc_new e.w _,?_⟩,.arr (by simp[aC.iz])⟩;refine⟨by simp,λ j v d hv D=>?_⟩;rw[List.getElem?_replicate] at hv D;split at hv
 ·rename_i hj;rw[if_pos hj] at D;cases hv;cases D;exact Gc _ _
 ·cases hv
theorem iu(hT:di P ap){ty el:TypeId}{x y:Operand}{nm n c:Nat}{k:IntKind}{i:Int}{z1 z2:Nat}{z3:Value}{j:TI}{p:Nat}(ho:o.op=.indexAddr ty x y)(ht:ap ty=some ⟨.slice el,z1,z2,z3⟩)(he:ap el=some j)
 (T:ev S x=some (.arr nm 0 n c))(hy:ev S y=some (.p (.raw (.int k i))))(h0:0<=i)(bm:i<n)(hp:p=i.toNat*j.sz):dN P o S B (.ptr nm p) none:=by
 subst hp;refine jp λ a e hs=>?_
 have A:=hs.1 x (by rw[ho];simp[Op.operands]) _ T;have F:=dh (hs.1 y (by rw[ho];simp[Op.operands]) _ hy);generalize hv:a.eval x=vx at A;cases A with
 |arr Z=>
  rename_i kk;obtain⟨d0,ec,J⟩:=hT.desc ty _ ht;cases d0<;>simp only[jI,reduceCtorEq,TK.slice.injEq] at J
  rw[J] at ec;refine⟨.pointer (some ⟨kk,i.toNat*j.sz,none⟩),?_,.ptr Z⟩;obtain⟨dst,op,type,pos,after,guard⟩:=o;simp only at ho;subst ho;simp[execOp,Instr.indexAt,F,hv,asIntOf,run_underlying ec,h0,bm,run_sizeOf hT he,sC]
theorem afk{cs:List K}{of:Nat}{d:K}(h:of<cs.length):stored cs of [d]=cs.set of d:=by unfold stored;rw[List.set_eq_take_append_cons_drop,if_pos h];simp
theorem pQ(hT:di P ap){ty:TypeId}{x y:Operand}{nm of:Nat}{cs:List K}{dy:K}{i:TI}(ho:o.op=.store ty x y)(D:o.dst=none)(ht:ap ty=some i)(fe:Nat.beq i.sz 1=true)(T:ev (kv s) x=some (.ptr nm of))(Z:kv b nm=some cs)(hy:ev (kv s) y=some dy)
 (U:dy.leaf=true)(hg:gd l0 o (kv s)=some true)(oQ:of<cs.length)(h:bq P Γ l0 Q l ⟨s,(nm,cs.set of dy)::b,g⟩):bq P Γ l0 Q (o::l) ⟨s,b,g⟩:=by
 have L:dy.cells=[dy]:=by cases dy<;>first|rfl|cases U
 have Ha:ux dy=true:=by cases dy<;>first|exact U|cases U
 have vL:=Nu (P:=P) (Γ:=Γ) (M:=⟨s,b,g⟩) hT ho D ht T Z hy Ha (by rw[L,Nat.eq_of_beq_eq_true fe];rfl) (by rw[L];exact oQ);rw[L,afk oQ] at vL;exact wI (M:=⟨s,b,g⟩) hg vL h
end
end Go.Proofs.YtcnefjfboagbmaaGreat
end
