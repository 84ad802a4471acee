/- Worlds that have grown, plain data behind values, what is known where a function stands. -/
import Derived.WalkKit
import Derived.WalkSpells
import Derived.WalkLawsBesides
import Derived.BigQuiet
import Derived.Lib.Hide
import Derived.ProofKit
import Derived.OpenShut
import Derived.ShutString
import Derived.ChangeOld
import Derived.Below
import Derived.Deep.Slices
import Derived.Deep.Fields
import Derived.ChangeSame
import Derived.Maps.AppendAt
import Derived.LoopN
import Derived.Laws.MakeOwn
import Derived.Scope
section
namespace Go.Proofs.YtcnefjfboagbmaaGreat
open Go.RowKit
def rh(w:World):Type:={aH:World//Below w.heap.size w aH}
instance(w:World):Nonempty (rh w):=⟨⟨w,Below.refl _ _⟩⟩
def rh.on{w:World}(x:rh w):World:=x.1
theorem rh.below{w:World}(x:rh w):Below w.heap.size w x.on:=x.2
@[go_sem] theorem rh.cell{w:World}(x:rh w)(p:Addr)(h:p.block<w.heap.size):x.on.cell? p=w.cell? p:=x.below.cell h
def rh.next{w:World}(x:rh w){aH:World}(h:Below x.on.heap.size x.on aH):rh w:=⟨aH,x.below.trans (h.mono x.below.size)⟩
abbrev JX:=Value->World->Prop
def fK(a:Act)(t:Tmp):Value:=a.tmps.getD t undef
def pq(ap:Array Oper)(n:Nat):Bool:=
 Region.noSelect ap&&(List.range ap.size).all λ i=>match ap[i]? with
  |none=>true
  |some oi=>(match oi.dst with|some t=>decide (t<n)|none=>true)&&(oi.after.all λ e=>!Region.binds .any e||decide (e.on<i))&&
   (List.range ap.size).all λ j=>match ap[j]? with
    |none=>true
    |some oj=>i==j||((match oi.dst,oj.dst with|some t,some aa=>t !=aa|_,_=>true)&&
     (match oj.dst with
      |some t=>!(oi.looksAt ap).contains t||(decide (j<i)&&oi.after.any (λ e=>Region.binds .any e&&e.on==j))||(decide (i<j)&&oj.after.any (λ e=>Region.binds .any e&&e.on==i))
      |none=>true))
structure oa(ap:Array Oper)(n:Nat):Prop where
 aaK:Region.noSelect ap=true
 lt:∀(i:Nat)(o:Oper)(t:Tmp),ap[i]?=some o->o.dst=some t->t<n
 back:∀(i:Nat)(o:Oper),ap[i]?=some o->∀e∈o.after,Region.binds .any e=true->e.on<i
 ne:∀(i j:Nat)(oi oj:Oper)(t:Tmp),ap[i]?=some oi->ap[j]?=some oj->i≠j->oi.dst=some t->oj.dst≠some t
 dep:∀(i j:Nat)(oi oj:Oper)(t:Tmp),ap[i]?=some oi->ap[j]?=some oj->i≠j->oj.dst=some t->t∈oi.looksAt ap->
  (j<i/\∃e∈oi.after,Region.binds .any e=true/\e.on=j)\/(i<j/\∃e∈oj.after,Region.binds .any e=true/\e.on=i)
theorem E6{ap:Array Oper}{n:Nat}(h:pq ap n=true):oa ap n:=by
 unfold pq at h;simp only[Bool.and_eq_true,List.all_eq_true,List.mem_range] at h;obtain⟨hs,h⟩:=h;have bh:∀i o,ap[i]?=some o->i<ap.size:=λ i o X=>(Array.getElem?_eq_some_iff.1 X).1
 refine⟨hs,λ i o t X ht=>?_,λ i o X e he R=>?_,λ i j oi oj t Z hj jr ht hu=>?_,λ i j oi oj t Z hj jr ht hm=>?_⟩
 ·have:=h i (bh i o X);simp only[X,ht,Bool.and_eq_true] at this
  simpa using this.1.1
 ·have:=h i (bh i o X);simp only[X,Bool.and_eq_true] at this;have:=Array.all_eq_true_iff_forall_mem.1 this.1.2 e he
  simpa[R] using this
 ·have:=h i (bh i oi Z);simp only[Z,Bool.and_eq_true,List.all_eq_true,List.mem_range] at this;have:=this.2 j (bh j oj hj);simp only[hj,ht,hu] at this;simp[jr] at this
 ·have:=h i (bh i oi Z);simp only[Z,Bool.and_eq_true,List.all_eq_true,List.mem_range] at this;have:=this.2 j (bh j oj hj);simp only[hj,ht] at this;have L:(oi.looksAt ap).contains t=true:=by simpa using hm
  simp only[L,Bool.or_eq_true,Bool.and_eq_true,beq_iff_eq,jr,false_or,Bool.not_true,Bool.false_eq_true,decide_eq_true_eq] at this;rcases this.2 with⟨u,D⟩|⟨u,D⟩
  ·obtain⟨e,he,R⟩:=Array.any_eq_true'.1 D;simp only[Bool.and_eq_true,beq_iff_eq] at R;exact .inl ⟨u,e,he,R⟩
  ·obtain⟨e,he,R⟩:=Array.any_eq_true'.1 D;simp only[Bool.and_eq_true,beq_iff_eq] at R;exact .inr ⟨u,e,he,R⟩
theorem CI{a:Act}{t:Tmp}{v:Value}(h:t<a.tmps.size):fK (a.put (some t) v) t=v:=by simp[fK,Act.put,h]
theorem xB{a:Act}{d:Option Tmp}{t:Tmp}{v:Value}(h:d≠some t):fK (a.put d v) t=fK a t:=by
 cases d with
 |none=>rfl
 |some aa=>
  have cP:aa≠t:=λ e=>h (by rw[e])
  simp[fK,Act.put,Array.getElem?_setIfInBounds_ne cP]
theorem Fh(a:Act)(d:Option Tmp)(v:Value):(a.put d v).tmps.size=a.tmps.size:=by cases d<;>simp[Act.put]
theorem Dk(a:Act)(d:Option Tmp)(v:Value):(a.put d v).defers=a.defers:=by cases d<;>rfl
theorem Zb{P:Program}{o:Oper}{a:Act}{w:World}{bC:Act->World->Prop}{Q:Exit->Act->World->Prop}(h:o.wp P a w bC (λ _ _ _=>False)):o.wp P a w bC Q:=by
 unfold Oper.wp at*;generalize(execOp a.eval o).run P w=r at*;cases r with
 |ok n aH=>
  cases n<;>simp only[Oper.upon] at h⊢<;>first
   |exact h
   |exact Calls.mono h (λ e mn he=>by
    cases e with
    |returned v=>exact he
    |panicked c=>exact he.elim
    |outgrown=>obtain⟨_,_,hf⟩:=he;exact hf.elim)
 |halt x aH=>cases x<;>simp only[Oper.upon] at h⊢
structure Zp(ap:Array Oper)(bq:Nat->JX)(a0:Act)(aD:Array Bool)(a:Act)(w:World):Prop where
 kK:aD.size=ap.size
 size:a.tmps.size=a0.tmps.size
 defers:a.defers=a0.defers
 closed:∀(i:Nat)(o:Oper),ap[i]?=some o->aD.getD i false=true->∀e∈o.after,Region.binds .any e=true->aD.getD e.on false=true
 tq:∀(i:Nat)(o:Oper)(t:Tmp),ap[i]?=some o->aD.getD i false=true->o.dst=some t->bq i (fK a t) w
 kept:∀t,(∀(i:Nat)(o:Oper),ap[i]?=some o->aD.getD i false=true->o.dst≠some t)->fK a t=fK a0 t
theorem lV{l:Array Bool}{i:Nat}(h:l.getD i true=false):l.getD i false=false/\i<l.size:=by
 rcases Nat.lt_or_ge i l.size with bN|bN
 ·simp[bN] at h⊢;exact h
 ·simp[Array.getElem?_eq_none bN] at h
theorem Sd{l:Array Bool}{i:Nat}(h:l.getD i false=false)(Z:i<l.size):l.getD i true=false:=by simp[Z] at h⊢;exact h
theorem RY{ap:Array Oper}{n:Nat}(aR:oa ap n){aD:Array Bool}(hs:aD.size=ap.size)(h:Region.ready .any ap aD=[]):∀i,i<ap.size->aD.getD i false=true:=by
 intro i;induction i using Nat.strongRecOn with
 |ind i ih=>
  intro Z;rcases M:aD.getD i false with _|_
  ·have hm:i∈Region.ready .any ap aD:=mem_ready.2 ⟨Sd M (by omega),ap[i],by simp[Z],λ e he R=>by
    have:=aR.back i ap[i] (by simp[Z]) e he R;exact ih _ this (by omega)⟩
   rw[h] at hm;cases hm
  ·rfl
def lL(aD:Array Bool):Nat:=(aD.toList.filter (!·)).length
theorem PV:∀(l:List Bool)(i:Nat),i<l.length->l.getD i true=false->((l.set i true).filter (!·)).length+1=(l.filter (!·)).length
 |[],i,h,_=>by simp at h
 |b::l,0,_,R=>by simp at R;subst R;simp
 |b::l,i+1,h,R=>by
  have:=PV l i (by simpa using h) (by simpa using R);cases b<;>simp<;>omega
theorem JP{aD:Array Bool}{i:Nat}(h:aD.getD i true=false):lL (aD.setIfInBounds i true)+1=lL aD:=by
 obtain⟨_,Z⟩:=lV h;have:=PV aD.toList i (by simpa using Z) (by simpa using h)
 simpa[lL,Array.toList_setIfInBounds] using this
theorem QK{aD:Array Bool}(h:lL aD=0){i:Nat}:aD.getD i true=true:=by
 rcases M:aD.getD i true with _|_
 ·have:=JP M;omega
 ·rfl
theorem Fu(n:Nat):lL (Array.replicate n false)=n:=by simp[lL]
def xZ:Value->Option Bool
 |.bool b=>some b
 |_=>none
def GR(ap:Array Oper)(o:Oper):List Tmp:=match o.guard with|some (g,_)=>((ap[g]?).bind (·.dst)).toList|none=>[]
theorem Lf{ap:Array Oper}{o:Oper}{t:Tmp}(h:t∈GR ap o):t∈o.looksAt ap:=List.mem_append_right _ h
theorem Fx(ap:Array Oper)(l:Array Value)(g:Nat):yielded ap l g=((ap[g]?).bind (·.dst)).bind λ t=>xZ (l.getD t undef):=by
 unfold yielded;cases ht:(ap[g]?).bind (·.dst) with
 |none=>rfl
 |some t=>
  simp only[Option.bind_some];rcases h:l[t]? with _|v
  ·simp[h,undef,xZ]
  ·simp only[Array.getD_eq_getD_getElem?,h,Option.getD_some];cases v<;>rfl
section
variable{P:Program}{ap:Array Oper}{w0:World}{a0:Act}{Q:Exit->Act->World->Prop}{a:Act}{nd:List (Tmp×JX)}{o:Oper}{rest:List Oper}
def jj(P:Program)(f:FuncId):Prop:=∀args w,(callFunc f args).run P w=.ok (.enter f args) w
end
theorem P1{P:Program}{ap:Array Oper}{Q:Exit->Act->World->Prop}{i:Nat}{o:Oper}{rest:List Oper}{a:Act}{w:World}(Z:ap[i]?=some o)(h:wpList P ap Q (o::rest) a w):wpOp P ap Q i (wpList P ap Q rest) a w:=by unfold wpOp;simp only[Z];exact h
theorem Ft:∀(l:List Bool)(n:Nat),n<=l.length->(∀i,i<n->l.getD i true=true)->(∀i,n<=i->i<l.length->l.getD i true=false)->(l.filter (!·)).length=l.length-n
 |[],n,hn,_,_=>by simp at hn;simp[hn]
 |b::l,0,_,_,D=>by
  have R:b=false:=by simpa using D 0 (Nat.le_refl _) (by simp)
  have ih:=Ft l 0 (by omega) (λ i Z=>by omega) (λ i _ Z=>by simpa using D (i+1) (by omega) (by simpa using Z));subst R;simp at ih⊢;exact ih
 |b::l,n+1,hn,u,D=>by
  have R:b=true:=by simpa using u 0 (by omega)
  have ih:=Ft l n (by simpa using hn) (λ i Z=>by simpa using u (i+1) (by omega)) (λ i Z M=>by simpa using D (i+1) (by omega) (by simpa using M));subst R;simp at ih⊢;exact ih
end Go.Proofs.YtcnefjfboagbmaaGreat
end
section
namespace Go.Proofs.YtcnefjfboagbmaaGreat
open Go.ChangeShapes Go.WideShapes Go.ChangeAt Go.RowKit Go.Deep
section
variable{H:Type}{enc:TypeId×Value->H}{P:Program}{w:World}{base:Nat}{kh:Nat->Bool}{aM:Bool}
def GF(P:Program)(t i:Nat):Option (TypeId×Nat×Nat):=
 match P.underlying t with
 |some (.struct fs)=>(fs[i]?).map λ f=>(f.type,f.offset,P.cellsOf f.type)
 |_=>none
def Read(enc:TypeId×Value->H)(P:Program)(w:World)(base:Nat)(kh:Nat->Bool)(aM:Bool)(t:TypeId)(cs:List Value):Prop:=∃n y,DataW.trod enc P w base kh aM n t cs=some y
theorem Cr{t i ft b6 sz:Nat}{cs:List Value}(hf:GF P t i=some (ft,b6,sz))(h:Read enc P w base kh aM t cs):Read enc P w base kh aM ft ((cs.drop b6).take sz):=by
 obtain⟨n,y,h⟩:=h;unfold GF at hf;split at hf
 ·rename_i fs hu;obtain⟨xs,m,_,_,_,cg,hg⟩:=DataW.trod_struct hu h;rcases DJ:fs[i]? with _|f
  ·rw[DJ] at hf;cases hf
  ·rw[DJ] at hf;simp only[Option.map_some,Option.some.injEq,Prod.mk.injEq] at hf;obtain⟨rfl,rfl,rfl⟩:=hf;have u:=hg i f DJ;have Z:i<fs.size:=(Array.getElem?_eq_some_iff.1 DJ).1;have D:xs[i]?=some (xs[i]'(by omega)):=List.getElem?_eq_getElem (by omega);exact⟨m,_,u.trans D⟩
 ·cases hf
theorem OM{t:TypeId}{cs:List Value}(ht:P.underlying t=some (.int .i64))(h:Read enc P w base kh aM t cs):∃n:Int,cs=[.int .i64 n]/\-9223372036854775808<=n/\n<=9223372036854775807:=by obtain⟨m,y,h⟩:=h;obtain⟨n,hn,_,hw⟩:=DataW.trod_int ht h;exact⟨n,hn,bounds_i64 hw⟩
theorem XN{t e:TypeId}{sz:Nat}{cs:List Value}(ht:P.underlying t=some (.slice e))(L:P.cellsOf e=sz)(h:Read enc P w base kh aM t cs):
 ∃(ar:Option Addr)(len bP:Nat),cs=[.slice ar len bP]/\len<=bP/\bP<=maxLen/\(len=0\/∃a,ar=some a)/\
  ∀i,i<len->∃a aO,ar=some a/\aO.length=sz/\(∀j,j<sz->w.cell? (a.add (i*sz+j))=aO[j]?)/\Read enc P w base kh aM e aO:=by
 obtain⟨m,y,h⟩:=h;rcases open_slice ht h with⟨rfl,_⟩|⟨a,len,bP,za,n,aI,Pl,rfl,R,M,hm,Mq,T,Z⟩
 ·exact⟨none,0,0,rfl,by omega,by unfold maxLen;omega,.inl rfl,λ i Z=>by omega⟩
 ·refine⟨some a,len,bP,rfl,M,hm,.inr ⟨a,rfl⟩,λ i ZY=>?_⟩;obtain⟨aO,ea,wJ⟩:=Z i (by rw[Mq];split<;>omega);rw[L] at ea;obtain⟨_,cg,mJ⟩:=World.cells?_some ea;refine⟨a,aO,rfl,cg,λ j hj=>?_,n,_,wJ⟩;rw[<-mJ j hj,Go.Deep.add_add]
theorem QF{a:Addr}{n:Nat}{v:Value}(h:w.cell? (a.add n)=some v):a.spot=none\/n≠0:=by
 by_cases hn:n=0
 ·subst hn;simp only[Addr.add,if_true] at h;exact .inl (by have:=World.cell?_spot h;simpa using this)
 ·exact .inr hn
theorem Rm{p:Addr}{v:Value}(h:w.cell? p=some v):p.block<w.heap.size:=by
 rcases Nat.lt_or_ge p.block w.heap.size with bh|gH
 ·exact bh
 ·simp[World.cell?,Array.getElem?_eq_none gH] at h
theorem XL{aq:Type}{t e:TypeId}{sz:Nat}(cells:aq->List Value)(ok:aq->Prop)(bT:0<sz)(cg:∀x,(cells x).length=sz)(ht:P.underlying t=some (.slice e))(L:P.cellsOf e=sz)
 (BJ:∀cs,cs.length=sz->Read enc P w base kh aM e cs->∃x,cs=cells x/\ok x){cs:List Value}(h:Read enc P w base kh aM t cs):
 ∃(ar:Option Addr)(l:List aq)(bP:Nat),cs=[.slice ar l.length bP]/\l.length<=bP/\bP<=maxLen/\(∀x∈l,ok x)/\
  ∀i x,l[i]?=some x->∃b o,ar=some ⟨b,o,none⟩/\b<w.heap.size/\∀j aa,(cells x)[j]?=some aa->w.cell? ⟨b,o+(i*sz+j),none⟩=some aa:=by
 obtain⟨ar,len,bP,rfl,M,hm,hA,dR⟩:=XN ht L h;have wc:∀i:Fin len,∃x,ok x/\∃a,ar=some a/\∀j aa,(cells x)[j]?=some aa->w.cell? (a.add (i.1*sz+j))=some aa:=λ i=>by
  obtain⟨a,aO,e,TY,mJ,hr⟩:=dR i.1 i.2;obtain⟨x,rfl,aR⟩:=BJ aO TY hr;refine⟨x,aR,a,e,λ j aa hu=>?_⟩;have hj:j<(cells x).length:=(List.getElem?_eq_some_iff.1 hu).1;rw[mJ j (by rw[cg] at hj;exact hj)];exact hu
 let f:Fin len->aq:=λ i=>Classical.choose (wc i)
 have hf:∀i,ok (f i)/\∃a,ar=some a/\∀j aa,(cells (f i))[j]?=some aa->w.cell? (a.add (i.1*sz+j))=some aa:=λ i=>Classical.choose_spec (wc i)
 refine⟨ar,List.ofFn f,bP,by simp,by simpa using M,hm,λ x T=>?_,λ i x Z=>?_⟩
 ·obtain⟨i,rfl⟩:=List.mem_ofFn.1 T;exact(hf i).1
 ·have dw:i<len:=by have:=(List.getElem?_eq_some_iff.1 Z).1;simpa using this
  have T:f ⟨i,dw⟩=x:=by simpa[dw] using Z
  obtain⟨a,e,L⟩:=(hf ⟨i,dw⟩).2;rw[T] at L;obtain⟨b,o,s⟩:=a;have Th:=hf ⟨0,by omega⟩;have h0:∃aa,(cells (f ⟨0,by omega⟩))[0]?=some aa:=⟨_,List.getElem?_eq_getElem (by rw[cg];exact bT)⟩;obtain⟨u0,r6⟩:=h0;obtain⟨bu,V,ho⟩:=Th.2;have LJ:=ho 0 u0 r6;rw[e] at V;injection V with V
  subst V;have hs:s=none:=by
   rcases QF LJ with bN|bN
   ·exact bN
   ·simp at bN
  subst hs;have Bg:∀n,(⟨b,o,none⟩:Addr).add n=⟨b,o+n,none⟩:=λ n=>by
   unfold Addr.add;split
   ·rename_i hn;subst hn;simp
   ·rfl
  refine⟨b,o,e,by have:=Rm LJ;rw[Bg] at this;exact this,λ j aa hu=>?_⟩;have:=L j aa hu;rw[Bg] at this;exact this
end
end Go.Proofs.YtcnefjfboagbmaaGreat
end
section
namespace Go.Proofs.YtcnefjfboagbmaaGreat
open Go.RowKit
inductive Pl where
 |raw (v:Value)
 |sl (ex:Bool) (n:Nat) (ps:List Pl)
inductive F where
 |p (x:Pl)
 |agg (ds:List F)
 |bc (ds:List F)
 |ptr (b o:Nat)
 |el (ps:List Pl)
 |aU (g n:Nat) (ps:List Pl)
 |arr (b o n c:Nat)
 |fn (f:Fn) (first cC:List F)
 |any
structure Gr where
 el:TypeId
 sz:Nat
 len:Nat
structure ay where
 w:World
 cl:Nat->Option Nat
 bx:Nat->Option Nat
 gr:Nat->Option Nat
 gi:Nat->Option Gr
def ay.mv(e:ay)(b o:Nat):Prop:=∀k,e.cl b=some k->o<k
def lc(v:Value):Bool:=v.oneCell'
inductive cV(e:ay):Value->Pl->Prop where
 |raw (v:Value):cV e v (.raw v)
 |sl {ar:Option Addr} {n bP:Nat} {ex:Bool} {ps:List Pl} (f:Nat->Value) (u:n<=bP) (D:bP<=maxLen) (K:ar=none->bP=0) (h4:ex=true->bP=n)
  (h5:∀i x,ps[i]?=some x->∃b o,ar=some ⟨b,o,none⟩/\e.mv b (o+i)/\e.w.cell? ⟨b,o+i,none⟩=some (f i)/\lc (f i)=true)
  (h6:∀i x,ps[i]?=some x->cV e (f i) x):cV e (.slice ar n bP) (.sl ex n ps)
def qm(e:ay)(b o:Nat)(ps:List Pl):Prop:=
 ∃f:Nat->Value,∀i x,ps[i]?=some x->e.mv b (o+i)/\e.w.cell? ⟨b,o+i,none⟩=some (f i)/\lc (f i)=true/\cV e (f i) x
structure Qi(e:ay)(ak:Gr)(g k bP:Nat):Prop where
 gr:e.gr k=some g
 row:∃cur,e.w.heap[k]?=some (.cells cur ak.el (0,0))/\cur.size=bP*ak.sz
def CV(e:ay)(v:Value)(g n m:Nat):Prop:=
 ∃ak ar bP,e.gi g=some ak/\v=.slice ar n bP/\n<=ak.len/\m=n*ak.sz/\(bP=n\/∃k,ar=some ⟨k,0,none⟩/\Qi e ak g k bP)
inductive bt(e:ay):Value->F->Prop where
 |p {v:Value} {x:Pl} (h:cV e v x):bt e v (.p x)
 |agg {vs:List Value} {ds:List F} (M:vs.length=ds.length) (h:∀(i:Nat) v d,vs[i]?=some v->ds[i]?=some d->bt e v d):bt e (.agg vs.toArray) (.agg ds)
 |bc {vs:List Value} {ds:List F} (M:vs.length=ds.length) (h:∀(i:Nat) v d,vs[i]?=some v->ds[i]?=some d->bt e v d):bt e (.tuple vs.toArray) (.bc ds)
 |ptr {b o k:Nat} (h:e.bx b=some k):bt e (.pointer (some ⟨k,o,none⟩)) (.ptr b o)
 |el {b o:Nat} {ps:List Pl} (h:qm e b o ps):bt e (.pointer (some ⟨b,o,none⟩)) (.el ps)
 |aU {v:Value} {g n:Nat} {ps:List Pl} (h:cV e v (.sl false n ps)) (ht:CV e v g n ps.length):bt e v (.aU g n ps)
 |arr {b o n c k:Nat} (h:e.bx b=some k):bt e (.slice (some ⟨k,o,none⟩) n c) (.arr b o n c)
 |fn {f:Fn} {us vs:List Value} {first cC:List F} (M:us.length=first.length) (dz:vs.length=cC.length) (h:∀(i:Nat) v d,us[i]?=some v->first[i]?=some d->bt e v d) (D:∀(i:Nat) v d,vs[i]?=some v->cC[i]?=some d->bt e v d):bt e (.func f us.toArray vs.toArray) (.fn f first cC)
 |any {v:Value}:bt e v .any
def DReps(e:ay)(vs:List Value)(ds:List F):Prop:=vs.length=ds.length/\∀(i:Nat) v d,vs[i]?=some v->ds[i]?=some d->bt e v d
structure Ends(e V:ay):Prop where
 vH:∀b o v,e.mv b o->e.w.cell? ⟨b,o,none⟩=some v->V.mv b o/\V.w.cell? ⟨b,o,none⟩=some v
 bx:∀b k,e.bx b=some k->V.bx b=some k
 gi:∀g ak,e.gi g=some ak->∃lO,V.gi g=some lO/\lO.el=ak.el/\lO.sz=ak.sz/\ak.len<=lO.len
 row:∀k g ak cur,e.gr k=some g->e.gi g=some ak->e.w.heap[k]?=some (.cells cur ak.el (0,0))->V.gr k=some g/\∃j0,V.w.heap[k]?=some (.cells j0 ak.el (0,0))/\j0.size=cur.size
theorem Ends.trans{a b c:ay}(h:Ends a b)(k:Ends b c):Ends a c:=by
 refine⟨λ x o v u D=>?_,λ x y hh=>k.bx _ _ (h.bx _ _ hh),λ g ak hg=>?_,λ x g ak cur u D K=>?_⟩
 ·obtain⟨K,h4⟩:=h.vH x o v u D;exact k.vH x o v K h4
 ·obtain⟨lO,e1,e2,e3,e4⟩:=h.gi g ak hg;obtain⟨G2,gT,iN,f3,i7⟩:=k.gi g lO e1;exact⟨G2,gT,iN.trans e2,f3.trans e3,Nat.le_trans e4 i7⟩
 ·obtain⟨h4,j0,h5,h6⟩:=h.row x g ak cur u D K;obtain⟨lO,e1,e2,e3,e4⟩:=h.gi g ak D;obtain⟨h7,RB,h8,h9⟩:=k.row x g lO j0 h4 e1 (by rw[e2];exact h5);exact⟨h7,RB,by rw[<-e2];exact h8,h9.trans h6⟩
theorem cV.next{e V:ay}(A:Ends e V){v:Value}{x:Pl}(h:cV e v x):cV V v x:=by
 induction h with
 |raw v=>exact .raw v
 |sl f u D K h4 h5 h6 ih=>refine .sl f u D K h4 (λ i x T=>?_) ih;obtain⟨b,o,hA,L,hv,M⟩:=h5 i x T;obtain⟨h7,h8⟩:=A.vH _ _ _ L hv;exact⟨b,o,hA,h7,h8,M⟩
theorem qm.next{e V:ay}(A:Ends e V){b o:Nat}{ps:List Pl}(h:qm e b o ps):qm V b o ps:=by obtain⟨f,hf⟩:=h;refine⟨f,λ i x T=>?_⟩;obtain⟨u,D,K,h4⟩:=hf i x T;obtain⟨h5,h6⟩:=A.vH _ _ _ u D;exact⟨h5,h6,K,h4.next A⟩
theorem CV.next{e V:ay}(A:Ends e V){v:Value}{g n m:Nat}(h:CV e v g n m):CV V v g n m:=by obtain⟨ak,ar,bP,hg,hv,hn,hm,L⟩:=h;obtain⟨lO,e1,e2,e3,e4⟩:=A.gi g ak hg;refine⟨lO,ar,bP,e1,hv,Nat.le_trans hn e4,by rw[e3];exact hm,L.imp id ?_⟩;rintro⟨k,hA,u,cur,D,K⟩;obtain⟨h4,j0,h5,h6⟩:=A.row k g ak cur u hg D;exact⟨k,hA,h4,j0,by rw[e2];exact h5,by rw[h6,K,e3]⟩
theorem bt.next{e V:ay}(A:Ends e V){v:Value}{d:F}(h:bt e v d):bt V v d:=by
 induction h with
 |p h=>exact .p (h.next A)
 |agg M _ ih=>exact .agg M ih
 |bc M _ ih=>exact .bc M ih
 |ptr h=>exact .ptr (A.bx _ _ h)
 |el h=>exact .el (h.next A)
 |aU h ht=>exact .aU (h.next A) (ht.next A)
 |arr h=>exact .arr (A.bx _ _ h)
 |fn M dz _ _ ih BW=>exact .fn M dz ih BW
 |any=>exact .any
theorem DReps.next{e V:ay}(A:Ends e V){vs:List Value}{ds:List F}(h:DReps e vs ds):DReps V vs ds:=⟨h.1,λ i v d u D=>(h.2 i v d u D).next A⟩
theorem DReps.nil(e:ay):DReps e [] []:=⟨rfl,λ i v d h=>by simp at h⟩
theorem DReps.cons{e:ay}{v:Value}{d:F}{vs:List Value}{ds:List F}(h:bt e v d)(hs:DReps e vs ds):DReps e (v::vs) (d::ds):=by
 refine⟨by simp[hs.1],λ i aa c u D=>?_⟩;cases i with
 |zero=>simp at u D;subst u;subst D;exact h
 |succ i=>exact hs.2 i aa c (by simpa using u) (by simpa using D)
theorem DReps.vh{e:ay}{vs:List Value}{d:F}{ds:List F}(h:DReps e vs (d::ds)):∃v eV,vs=v::eV/\bt e v d/\DReps e eV ds:=by
 obtain⟨M,hh⟩:=h;rcases vs with _|⟨v,eV⟩
 ·simp at M
 ·exact⟨v,eV,rfl,hh 0 v d rfl rfl,by simpa using M,λ i aa c u D=>hh (i+1) aa c (by simpa using u) (by simpa using D)⟩
theorem DReps.get{e:ay}{vs:List Value}{ds:List F}(h:DReps e vs ds){i:Nat}{d:F}(G:ds[i]?=some d):∃v,vs[i]?=some v/\bt e v d:=by
 have Z:i<ds.length:=(List.getElem?_eq_some_iff.1 G).1;have lz:i<vs.length:=by rw[h.1];exact Z
 exact⟨vs[i],List.getElem?_eq_getElem lz,h.2 i _ d (List.getElem?_eq_getElem lz) G⟩
theorem DReps.take{e:ay}{vs:List Value}{ds:List F}(h:DReps e vs ds)(k:Nat):DReps e (vs.take k) (ds.take k):=by
 refine⟨by simp[h.1],λ i v d u D=>?_⟩;rw[List.getElem?_take] at u D;split at u
 ·rename_i Z;rw[if_pos Z] at D;exact h.2 i v d u D
 ·cases u
theorem DReps.drop{e:ay}{vs:List Value}{ds:List F}(h:DReps e vs ds)(k:Nat):DReps e (vs.drop k) (ds.drop k):=by refine⟨by simp[h.1],λ i v d u D=>?_⟩;rw[List.getElem?_drop] at u D;exact h.2 _ v d u D
theorem DReps.append{e:ay}{vs us:List Value}{ds cs:List F}(h:DReps e vs ds)(bN:DReps e us cs):DReps e (vs++us) (ds++cs):=by
 refine⟨by simp[h.1,bN.1],λ i v d u D=>?_⟩;rcases Nat.lt_or_ge i vs.length with Z|Z
 ·rw[List.getElem?_append_left Z] at u;rw[List.getElem?_append_left (by rw[<-h.1];exact Z)] at D;exact h.2 i v d u D
 ·rw[List.getElem?_append_right Z] at u;rw[List.getElem?_append_right (by rw[<-h.1];exact Z),<-h.1] at D;exact bN.2 _ v d u D
def F.leaf:F->Bool
 |.p (.raw v)=>lc v
 |.p (.sl ..)|.ptr ..|.el _|.aU ..|.arr ..|.fn ..=>true
 |_=>false
theorem Ij{e:ay}{v:Value}{d:F}(h:bt e v d)(M:d.leaf=true):lc v=true:=by
 cases h with
 |p h=>cases h with
  |raw v=>exact M
  |sl=>rfl
 |agg=>cases M
 |bc=>cases M
 |ptr=>rfl
 |el=>rfl
 |aU h ht=>obtain⟨_,ar,bP,_,rfl,_⟩:=ht;rfl
 |arr=>rfl
 |fn=>rfl
 |any=>cases M
def F.cells:F->List F
 |.agg ds=>ds
 |d=>[d]
theorem Rn{e:ay}{v:Value}{d:F}(h:bt e v d)(M:d.leaf=true\/∃ds,d=.agg ds):DReps e v.cells.toList d.cells:=by
 rcases M with M|⟨ds,rfl⟩
 ·have hv:=Ij h M;have u:v.cells=#[v]:=by cases v<;>first|rfl|cases hv
  have D:d.cells=[d]:=by cases d<;>first|rfl|cases M
  rw[u,D];exact DReps.cons h (DReps.nil e)
 ·cases h with
  |agg M h=>exact⟨by simpa[Value.cells,F.cells] using M,λ i v d u D=>h i v d (by simpa[Value.cells] using u) (by simpa[F.cells] using D)⟩
end Go.Proofs.YtcnefjfboagbmaaGreat
end
section
namespace Go.Proofs.YtcnefjfboagbmaaGreat
open Go.RowKit
def Y{aq:Type}:List (Nat×aq)->Nat->Option aq
 |[],_=>none
 |(k,v)::l,n=>bif Nat.beq k n then some v else Y l n
theorem cL{aq:Type}(k:Nat)(v:aq)(l:List (Nat×aq))(n:Nat):Y ((k,v)::l) n=if k=n then some v else Y l n:=by
 by_cases h:k=n
 ·subst h;simp[Y]
 ·have:Nat.beq k n=false:=by rw[Bool.eq_false_iff];intro R;exact h (Nat.eq_of_beq_eq_true R)
  simp[Y,this,h]
structure St where
 s:List (Nat×F)
 b:List (Nat×List F)
 g:List (Nat×Gr)
structure bE where
 n:Nat
 w0:World
 jZ:Nat->Option Nat
 own:Nat->Prop
 kb:List (Nat×Nat)
 dg:List Deferred
def gu(e:ay)(b:Nat)(cs:List F):Prop:=∃k vs el,e.bx b=some k/\e.w.heap[k]?=some (.cells (List.toArray vs) el (0,0))/\DReps e vs cs
structure mZ(own:Nat->Prop)(w aH:World):Prop where
 os:aH.os=w.os
 tape:aH.tape=w.tape
 output:aH.output=w.output
 size:w.heap.size<=aH.heap.size
 block:∀k,k<w.heap.size->¬own k->aH.heap[k]?=w.heap[k]?
theorem mZ.refl(own:Nat->Prop)(w:World):mZ own w w:=⟨rfl,rfl,rfl,Nat.le_refl _,λ _ _ _=>rfl⟩
theorem mZ.below{own:Nat->Prop}{w aH mn:World}(h:mZ own w aH)(R:Below aH.heap.size aH mn):mZ own w mn:=
 ⟨R.os.trans h.os,R.tape.trans h.tape,R.output.trans h.output,Nat.le_trans h.size R.size,λ k J X=>(R.block k (Nat.lt_of_lt_of_le J h.size)).trans (h.block k J X)⟩
structure gx(Γ:bE)(e:ay):Prop where
 kept:mZ Γ.own Γ.w0 e.w
 cl:∀k,k<Γ.w0.heap.size->¬Γ.own k->e.cl k=Γ.jZ k
 bx:∀b k,e.bx b=some k->k<e.w.heap.size/\(Γ.w0.heap.size<=k\/Γ.own k)/\e.cl k=some 0/\e.gr k=none
 inj:∀b c k,e.bx b=some k->e.bx c=some k->b=c
 gr:∀k g,e.gr k=some g->∃ak cur,e.gi g=some ak/\k<e.w.heap.size/\(Γ.w0.heap.size<=k\/Γ.own k)/\e.cl k=some (ak.len*ak.sz)/\e.w.heap[k]?=some (.cells cur ak.el (0,0))
 kb:∀b k,Y Γ.kb b=some k->e.bx b=some k
structure bw(Γ:bE)(I:St)(e:ay)(a:Act):Prop where
 size:a.tmps.size=Γ.n
 df:a.defers=Γ.dg
 bm:∀t d,Y I.s t=some d->bt e (fK a t) d
 boxes:∀b cs,Y I.b b=some cs->gu e b cs
 dX:∀b,Y I.b b=none->e.bx b=none
 gs:∀g,e.gi g=Y I.g g
 env:gx Γ e
structure jI(e V:ay):Prop where
 below:Below e.w.heap.size e.w V.w
 cl:∀k,k<e.w.heap.size->V.cl k=e.cl k
 bx:V.bx=e.bx
 gr:V.gr=e.gr
 gi:V.gi=e.gi
theorem jI.refl(e:ay):jI e e:=⟨Below.refl _ _,λ _ _=>rfl,rfl,rfl,rfl⟩
theorem Db{w:World}{b o:Nat}{v:Value}(h:w.cell? ⟨b,o,none⟩=some v):b<w.heap.size:=by
 rcases Nat.lt_or_ge b w.heap.size with bh|gH
 ·exact bh
 ·simp[World.cell?,Array.getElem?_eq_none gH] at h
theorem qG{w:World}{b:Nat}{o:Obj}(h:w.heap[b]?=some o):b<w.heap.size:=by
 rcases Nat.lt_or_ge b w.heap.size with bh|gH
 ·exact bh
 ·rw[Array.getElem?_eq_none gH] at h;cases h
theorem jI.mv{e V:ay}(h:jI e V){b o:Nat}(R:b<e.w.heap.size)(L:e.mv b o):V.mv b o:=λ k J=>L k (by rw[<-h.cl b R];exact J)
theorem jI.ends{e V:ay}(h:jI e V):Ends e V:=by
 refine⟨λ b o v L hv=>?_,λ b k J=>by rw[h.bx];exact J,λ g ak hg=>⟨ak,by rw[h.gi];exact hg,rfl,rfl,Nat.le_refl _⟩,λ k g ak cur u D K=>⟨by rw[h.gr];exact u,cur,?_,rfl⟩⟩
 ·have R:=Db hv;exact⟨h.mv R L,by rw[h.below.cell (p:=⟨b,o,none⟩) R];exact hv⟩
 ·rw[h.below.block k (qG K)];exact K
theorem jI.box{e V:ay}(h:jI e V){b:Nat}{cs:List F}(R:gu e b cs):gu V b cs:=by obtain⟨k,vs,el,u,D,K⟩:=R;exact⟨k,vs,el,by rw[h.bx];exact u,by rw[h.below.block k (qG D)];exact D,K.next h.ends⟩
theorem jI.ok{Γ:bE}{e V:ay}(h:jI e V)(X:gx Γ e):gx Γ V:=by
 refine⟨X.kept.below h.below,λ k J hw=>(h.cl k (Nat.lt_of_lt_of_le J X.kept.size)).trans (X.cl k J hw),λ b k R=>?_,λ b c k u D=>X.inj b c k (by rw[<-h.bx];exact u) (by rw[<-h.bx];exact D),λ k g hg=>?_,λ b k J=>by rw[h.bx];exact X.kb b k J⟩
 ·rw[h.bx] at R;obtain⟨u,D,K,h4⟩:=X.bx b k R;exact⟨Nat.lt_of_lt_of_le u h.below.size,D,(h.cl k u).trans K,by rw[h.gr];exact h4⟩
 ·rw[h.gr] at hg;obtain⟨ak,cur,u,D,K,h4,h5⟩:=X.gr k g hg;exact⟨ak,cur,by rw[h.gi];exact u,Nat.lt_of_lt_of_le D h.below.size,K,(h.cl k D).trans h4,by rw[h.below.block k D];exact h5⟩
theorem bw.grow{Γ:bE}{I:St}{e V:ay}{a:Act}(L:bw Γ I e a)(h:jI e V):bw Γ I V a:=
 ⟨L.size,L.df,λ t d ht=>(L.bm t d ht).next h.ends,λ b cs R=>h.box (L.boxes b cs R),λ b R=>by rw[h.bx];exact L.dX b R,λ g=>by rw[h.gi];exact L.gs g,h.ok L.env⟩
def St.put(I:St):Option Nat->F->St
 |some t,d=>⟨(t,d)::I.s,I.b,I.g⟩
 |none,_=>I
def St.box(I:St):Option (Nat×List F)->St
 |some p=>⟨I.s,p::I.b,I.g⟩
 |none=>I
def t6(n:Nat):Option Nat->Bool
 |some t=>Nat.blt t n
 |none=>true
theorem bw.put{Γ:bE}{I:St}{e:ay}{a:Act}(L:bw Γ I e a){dst:Option Nat}(G:t6 Γ.n dst=true){v:Value}{d:F}(hv:bt e v d):bw Γ (I.put dst d) e (a.put dst v):=by
 cases dst with
 |none=>exact L
 |some t=>
  have ht:t<Γ.n:=by simpa[t6,Nat.blt_eq] using G
  refine⟨by rw[Fh];exact L.size,by rw[Dk];exact L.df,λ aa c hu=>?_,L.boxes,L.dX,L.gs,L.env⟩;simp only[St.put,cL] at hu;split at hu
  ·rename_i kG;subst kG;cases hu;rw[CI (by rw[L.size];exact ht)];exact hv
  ·rename_i kG;rw[xB (λ e=>kG (by cases e;rfl))];exact L.bm aa c hu
def ay.ip(e:ay)(b k:Nat):ay:={e with bx:=λ x=>if x=b then some k else e.bx x}
theorem sm{e:ay}{b k:Nat}(h:e.bx b=none):Ends e (e.ip b k):=
 ⟨λ _ _ _ u D=>⟨u,D⟩,λ c j hj=>by
  show(if c=b then some k else e.bx c)=some j;rw[if_neg (λ V=>by rw[V,h] at hj;cases hj)];exact hj,λ _ ak hg=>⟨ak,hg,rfl,rfl,Nat.le_refl _⟩,λ _ _ _ cur u _ K=>⟨u,cur,K,rfl⟩⟩
theorem gu.ends{e V:ay}{b:Nat}{cs:List F}(h:gu e b cs)(A:Ends e V)(hw:V.w=e.w):gu V b cs:=by obtain⟨k,vs,el,u,D,K⟩:=h;exact⟨k,vs,el,A.bx _ _ u,by rw[hw];exact D,K.next A⟩
theorem bw.V9{Γ:bE}{I:St}{e:ay}{a:Act}(L:bw Γ I e a){b k:Nat}{cs:List F}(R:Y I.b b=none)(J:k<e.w.heap.size)(ou:Γ.w0.heap.size<=k)(de:e.cl k=some 0)(gp:e.gr k=none)(dh:∀c,e.bx c≠some k)
 (mJ:gu (e.ip b k) b cs):bw Γ (I.box (some (b,cs))) (e.ip b k) a:=by
 have hn:=L.dX b R;have A:=sm (k:=k) hn;refine⟨L.size,L.df,λ t d ht=>(L.bm t d ht).next A,λ c ds pQ=>?_,λ c qE=>?_,L.gs,?_⟩
 ·simp only[St.box,cL] at pQ;split at pQ
  ·rename_i rM;subst rM;cases pQ;exact mJ
  ·exact(L.boxes c ds pQ).ends A rfl
 ·simp only[St.box,cL] at qE;split at qE
  ·cases qE
  ·rename_i rM;show(if c=b then some k else e.bx c)=none;rw[if_neg (λ V=>rM V.symm)];exact L.dX c qE
 ·refine⟨L.env.kept,L.env.cl,λ c j hj=>?_,λ c bU j u D=>?_,L.env.gr,λ c j hj=>A.bx c j (L.env.kb c j hj)⟩
  ·have fj:(if c=b then some k else e.bx c)=some j:=hj;split at fj
   ·cases fj;exact⟨J,.inl ou,de,gp⟩
   ·exact L.env.bx c j fj
  ·have aN:(if c=b then some k else e.bx c)=some j:=u;have bd:(if bU=b then some k else e.bx bU)=some j:=D
   by_cases e1:c=b<;>by_cases e2:bU=b
   ·rw[e1,e2]
   ·rw[if_pos e1] at aN;rw[if_neg e2] at bd;cases aN;exact absurd bd (dh bU)
   ·rw[if_neg e1] at aN;rw[if_pos e2] at bd;cases bd;exact absurd aN (dh c)
   ·rw[if_neg e1] at aN;rw[if_neg e2] at bd;exact L.env.inj c bU j aN bd
def nD(e V:ay)(v:Value)(d:F):Option (Nat×List F)->Prop
 |none=>jI e V/\bt V v d
 |some (b,cs)=>∃e1 k,jI e e1/\e.w.heap.size<=k/\k<e1.w.heap.size/\e1.cl k=some 0/\V=e1.ip b k/\gu V b cs/\bt V v d
theorem bw.quiet{Γ:bE}{I:St}{e V:ay}{a:Act}(L:bw Γ I e a){dst:Option Nat}(G:t6 Γ.n dst=true){v:Value}{d:F}{nb:Option (Nat×List F)}(fy:∀p,nb=some p->Y I.b p.1=none)(h:nD e V v d nb):bw Γ ((I.box nb).put dst d) V (a.put dst v):=by
 cases nb with
 |none=>exact(L.grow h.1).put G h.2
 |some p=>
  obtain⟨b,cs⟩:=p;obtain⟨e1,k,hg,u,D,K,rfl,h5,h6⟩:=h;have cb:=L.grow hg;refine(cb.V9 (fy _ rfl) D (Nat.le_trans L.env.kept.size u) K ?_ ?_ h5).put G h6
  ·rw[hg.gr];rcases iA:e.gr k with _|g
   ·rfl
   ·obtain⟨_,_,_,bh,_⟩:=L.env.gr k g iA;omega
  ·intro c o6;rw[hg.bx] at o6;have:=(L.env.bx c k o6).1;omega
def oo:Value->F
 |.slice none 0 0=>.p (.sl true 0 [])
 |v=>.p (.raw v)
def kP:Value->F
 |.agg cs=>.agg (cs.toList.map oo)
 |v=>oo v
theorem Wl(e:ay):cV e (.slice none 0 0) (.sl true 0 []):=.sl (λ _=>undef) (Nat.le_refl _) (by unfold maxLen;omega) (λ _=>rfl) (λ _=>rfl) (λ i x h=>by simp at h) (λ i x h=>by simp at h)
theorem De(e:ay)(v:Value):bt e v (oo v):=by
 unfold oo;split
 ·exact .p (Wl e)
 ·exact .p (.raw v)
theorem vJ(e:ay)(v:Value):bt e v (kP v):=by
 unfold kP;split
 ·rename_i cs;have:bt e (.agg cs.toList.toArray) (.agg (cs.toList.map oo)):=.agg (by simp) (λ i v d u D=>by
   rw[List.getElem?_map,u] at D;cases D;exact De e v)
  simpa using this
 ·exact De e v
def lm{aq dP:Type}:Nat->List dP->(List dP->Option aq)->Option aq
 |0,_,k=>k []
 |n+1,x::l,k=>lm n l (λ r=>k (x::r))
 |_+1,[],_=>none
def j2{aq dP:Type}:Nat->List dP->(List dP->Option aq)->Option aq
 |0,l,k=>k l
 |n+1,_::l,k=>j2 n l k
 |_+1,[],_=>none
def EB{aq dP xH:Type}(f:xH->dP):List xH->(List dP->Option aq)->Option aq
 |[],k=>k []
 |x::l,k=>EB f l (λ r=>k (f x::r))
def lP{aq dP:Type}:List dP->List dP->(List dP->Option aq)->Option aq
 |[],m,k=>k m
 |x::l,m,k=>lP l m (λ r=>k (x::r))
theorem qj{aq dP:Type}:∀{n:Nat}{l:List dP}{k:List dP->Option aq}{a:aq},lm n l k=some a->n<=l.length/\k (l.take n)=some a
 |0,l,k,a,h=>⟨Nat.zero_le _,by simpa[lm] using h⟩
 |n+1,x::l,k,a,h=>by
  obtain⟨u,D⟩:=qj (n:=n) (l:=l) (k:=λ r=>k (x::r)) h;exact⟨by simpa using u,by simpa using D⟩
 |n+1,[],k,a,h=>by cases h
theorem my{aq dP:Type}:∀{n:Nat}{l:List dP}{k:List dP->Option aq}{a:aq},j2 n l k=some a->n<=l.length/\k (l.drop n)=some a
 |0,l,k,a,h=>⟨Nat.zero_le _,by simpa[j2] using h⟩
 |n+1,x::l,k,a,h=>by
  obtain⟨u,D⟩:=my (n:=n) (l:=l) (k:=k) h;exact⟨by simpa using u,by simpa using D⟩
 |n+1,[],k,a,h=>by cases h
theorem Nw{aq dP xH:Type}(f:xH->dP):∀(l:List xH)(k:List dP->Option aq),EB f l k=k (l.map f)
 |[],k=>rfl
 |x::l,k=>by rw[EB,Nw f l];rfl
theorem pG{aq dP:Type}:∀(l m:List dP)(k:List dP->Option aq),lP l m k=k (l++m)
 |[],m,k=>rfl
 |x::l,m,k=>by rw[lP,pG l m];rfl
def Er{aq:Type}(v:Value)(k:F->Option aq):Option aq:=match v with
 |.slice none 0 0=>k (.p (.sl true 0 []))
 |v=>k (.p (.raw v))
def Es{aq:Type}:List Value->(List F->Option aq)->Option aq
 |[],k=>k []
 |v::l,k=>Er v λ d=>Es l λ r=>k (d::r)
def pK{aq:Type}(v:Value)(k:F->Option aq):Option aq:=match v with
 |.agg cs=>Es cs.toList λ ds=>k (.agg ds)
 |v=>Er v k
theorem Nd{aq:Type}(v:Value)(k:F->Option aq):Er v k=k (oo v):=by unfold Er oo;split<;>rfl
theorem Nf{aq:Type}:∀(l:List Value)(k:List F->Option aq),Es l k=k (l.map oo)
 |[],k=>rfl
 |v::l,k=>by rw[Es,Nd,Nf l];rfl
theorem vK{aq:Type}(v:Value)(k:F->Option aq):pK v k=k (kP v):=by
 unfold pK kP;split
 ·rw[Nf]
 ·rw[Nd]
def ev(S:Nat->Option F):Operand->Option F
 |.tmp t=>S t
 |.const v=>pK v some
 |.func f=>some (.fn (.func f) [] [])
 |.global _=>none
def iv{aq:Type}(S:Nat->Option F):List Operand->(List F->Option aq)->Option aq
 |[],k=>k []
 |x::l,k=>match ev S x with
  |some d=>iv S l λ r=>k (d::r)
  |none=>none
def FR(S:Nat->Option F)(B:Nat->Option (List F))(a:Act)(e:ay)(xs:Array Operand):Prop:=
 (∀x∈xs,∀d,ev S x=some d->bt e (a.eval x) d)/\∀b cs,B b=some cs->gu e b cs
theorem bw.h1{Γ:bE}{I:St}{e:ay}{a:Act}(L:bw Γ I e a)(xs:Array Operand):FR (Y I.s) (Y I.b) a e xs:=by
 refine⟨λ x _ d T=>?_,L.boxes⟩;cases x with
 |tmp t=>exact L.bm t d T
 |const v=>simp only[ev,vK,Option.some.injEq] at T;subst T;exact vJ e v
 |global g=>cases T
 |func f=>simp only[ev,Option.some.injEq] at T;subst T;exact .fn (us:=[]) (vs:=[]) rfl rfl (λ i v d h=>by simp at h) (λ i v d h=>by simp at h)
def dm(P:Program)(o:Oper)(S:Nat->Option F)(B:Nat->Option (List F))(d:F)(nb:Option (Nat×List F)):Prop:=
 ∀(a:Act)(e:ay),FR S B a e o.op.operands->(∀p,nb=some p->e.bx p.1=none)->
  o.wp P a e.w (λ bu aH=>∃v V,bu=a.put o.dst v/\V.w=aH/\nD e V v d nb) (λ _ _ _=>False)
theorem hZ{P:Program}{o:Oper}{S:Nat->Option F}{B:Nat->Option (List F)}{d:F}(h:∀(a:Act)(e:ay),FR S B a e o.op.operands->∃v,(execOp a.eval o).run P e.w=.ok (.value v) e.w/\bt e v d):dm P o S B d none:=by intro a e hs _;obtain⟨v,hr,hv⟩:=h a e hs;unfold Oper.wp;rw[hr];exact⟨v,e,rfl,rfl,jI.refl e,hv⟩
end Go.Proofs.YtcnefjfboagbmaaGreat
end
section
namespace Go.Proofs.YtcnefjfboagbmaaGreat
open Go.RowKit
inductive TK where
 |int (k:IntKind)
 |bool
 |str
 |slice (e:TypeId)
 |struct (fs:List (TypeId×Nat×Nat))
 |array (n:Nat) (e:TypeId)
 |other
structure TI where
 k:TK
 sz:Nat
 bytes:Nat
 zero:Value
def jg(P:Program):TypeDesc->TK
 |.int k=>.int k
 |.bool=>.bool
 |.string=>.str
 |.slice e=>.slice e
 |.struct fs=>.struct (fs.toList.map λ f=>(f.type,f.offset,P.cellsOf f.type))
 |.array n e=>.array n e
 |_=>.other
structure cR(P:Program)(ah:Nat->Option TI):Prop where
 desc:∀t i,ah t=some i->∃d,P.underlying t=some d/\jg P d=i.k
 info:∀t i,ah t=some i->∃f,P.info? t=some f/\f.size=i.sz/\f.bytes=i.bytes/\f.zero=some i.zero
def TK.agg:TK->Bool
 |.struct _|.array _ _=>true
 |_=>false
def wT(i:TI)(ds:List F):Option F:=
 bif i.k.agg then lm i.sz ds λ r=>some (.agg r)
 else match ds with
  |d::_=>some d
  |[]=>none
def xW:BinOp->Value->Value->Option Value
 |.add,.int .i64 a,.int .i64 b=>some (.int .i64 (IntKind.i64.wrap (a+b)))
 |.sub,.int .i64 a,.int .i64 b=>some (.int .i64 (IntKind.i64.wrap (a-b)))
 |.mul,.int .i64 a,.int .i64 b=>some (.int .i64 (IntKind.i64.wrap (a*b)))
 |.eql,.int .i64 a,.int .i64 b=>some (.bool (decide (a=b)))
 |.neq,.int .i64 a,.int .i64 b=>some (.bool (!decide (a=b)))
 |.lss,.int .i64 a,.int .i64 b=>some (.bool (decide (a<b)))
 |.leq,.int .i64 a,.int .i64 b=>some (.bool (decide (a<=b)))
 |.gtr,.int .i64 a,.int .i64 b=>some (.bool (decide (b<a)))
 |.geq,.int .i64 a,.int .i64 b=>some (.bool (decide (b<=a)))
 |.add,.int .u64 a,.int .u64 b=>some (.int .u64 (IntKind.u64.wrap (a+b)))
 |.sub,.int .u64 a,.int .u64 b=>some (.int .u64 (IntKind.u64.wrap (a-b)))
 |.mul,.int .u64 a,.int .u64 b=>some (.int .u64 (IntKind.u64.wrap (a*b)))
 |.eql,.int .u64 a,.int .u64 b=>some (.bool (decide (a=b)))
 |.neq,.int .u64 a,.int .u64 b=>some (.bool (!decide (a=b)))
 |.lss,.int .u64 a,.int .u64 b=>some (.bool (decide (a<b)))
 |.and,.int .u64 a,.int .u64 b=>some (.int .u64 (IntKind.u64.wrap ((BitVec.ofInt 64 a&&&BitVec.ofInt 64 b).toNat)))
 |.andNot,.int .u64 a,.int .u64 b=>some (.int .u64 (IntKind.u64.wrap ((BitVec.ofInt 64 a&&&~~~BitVec.ofInt 64 b).toNat)))
 |.and,.int .i64 a,.int .i64 b=>some (.int .i64 (IntKind.i64.wrap ((BitVec.ofInt 64 a&&&BitVec.ofInt 64 b).toNat)))
 |.eql,.int .u8 a,.int .u8 b=>some (.bool (decide (a=b)))
 |.eql,.bool a,.bool b=>some (.bool (a==b))
 |.neq,.bool a,.bool b=>some (.bool (!(a==b)))
 |_,_,_=>none
theorem run_equal_bool{P:Program}{t:TypeId}(hu:P.underlying t=some .bool)(a b:Bool)(w:World):(Op.equal t (.bool a) (.bool b)).run P w=.ok (a==b) w:=by
 show(Op.equalIn (9999+1) t _ _).run P w=_;rw[Op.equalIn];simp only[Sem.run_bind,run_underlying hu,Result.andThen_ok]
 rfl
theorem Rg{P:Program}{ah:Nat->Option TI}(_:cR P ah){op:BinOp}{t:TypeId}{aa v r:Value}(h:xW op aa v=some r)(R:∀b:Bool,aa=.bool b->P.underlying t=some .bool)(x y:Operand)(w:World):
 (do eqGuard op t x y aa v;binOp op t aa v:Sem Value).run P w=.ok r w:=by
 unfold xW at h;split at h
 all_goals cases h
 all_goals first
  |(simp only[eqGuard,binOp,Op.intArith,Op.intCmp,Op.intBits,IntKind.bits];rfl)
  |(rename_i a b;have hu:P.underlying t=some .bool:=R a rfl;simp only[eqGuard,binOp];simp[run_equal_bool hu];done)
  |skip
def Oi(ft:TypeId×Nat×Nat)(isAgg:Bool)(ds:List F):Option F:=
 bif isAgg then j2 ft.2.1 ds λ r=>lm ft.2.2 r λ q=>some (.agg q)
 else ds[ft.2.1]?
def Il(c:Call):Option (Operand×TypeId):=match c.callee with
 |.builtin .len=>match c.args.toList,c.argTypes.toList with
  |[x],[t]=>some (x,t)
  |_,_=>none
 |_=>none
theorem Vt{c:Call}{x:Operand}{t:TypeId}(h:Il c=some (x,t)):c={callee:=.builtin .len,args:=#[x],argTypes:=#[t]}:=by
 obtain⟨callee,args,fb⟩:=c;unfold Il at h;simp only at h;split at h
 ·split at h
  ·rename_i u D;cases h;obtain⟨l1⟩:=args;obtain⟨l2⟩:=fb;simp only at u D;subst u;subst D
   rfl
  ·cases h
 ·cases h
def ax(ah:Nat->Option TI)(S:Nat->Option F)(B:Nat->Option (List F)):Op->Option F
 |.move x|.assign x=>ev S x
 |.pick c x y=>match ev S c with
  |some (.p (.raw (.bool true)))=>ev S x
  |some (.p (.raw (.bool false)))=>ev S y
  |_=>none
 |.load t x=>match ah t,ev S x with
  |some i,some (.ptr b o)=>match B b with
   |some cs=>j2 o cs (wT i)
   |none=>none
  |some i,some (.el ps)=>EB F.p ps (wT i)
  |_,_=>none
 |.binOp op t x y _=>match ah t,ev S x,ev S y with
  |some i,some (.p (.raw aa)),some (.p (.raw v))=>match xW op aa v,aa,i.k with
   |some r,.bool _,.bool=>some (.p (.raw r))
   |some r,.int ..,_=>some (.p (.raw r))
   |_,_,_=>none
  |_,_,_=>none
 |.unOp aa _ x=>match aa,ev S x with
  |.not,some (.p (.raw (.bool b)))=>some (.p (.raw (.bool (!b))))
  |.neg,some (.p (.raw (.int .i64 n)))=>some (.p (.raw (.int .i64 (IntKind.i64.wrap (0-n)))))
  |_,_=>none
 |.convert s t x=>match ah s,ah t,ev S x with
  |some ⟨.int _,_,_,_⟩,some ⟨.int k,_,_,_⟩,some (.p (.raw (.int _ n)))=>some (.p (.raw (.int k (k.wrap n))))
  |_,_,_=>none
 |.extract x i=>match ev S x with
  |some (.bc ds)=>ds[i]?
  |_=>none
 |.fieldAddr t x f=>match ah t,ev S x with
  |some ⟨.struct fs,_,_,_⟩,some (.ptr b o)=>match fs[f]? with
   |some (_,b6,_+1)=>some (.ptr b (o+b6))
   |_=>none
  |some ⟨.struct fs,_,_,_⟩,some (.el ps)=>match fs[f]? with
   |some (_,b6,_+1)=>j2 b6 ps λ r=>some (.el r)
   |_=>none
  |_,_=>none
 |.field t x f=>match ah t,ev S x with
  |some ⟨.struct fs,_,_,_⟩,some (.agg ds)=>match fs[f]? with
   |some ft=>match ah ft.1 with
    |some j=>Oi ft j.k.agg ds
    |none=>none
   |none=>none
  |_,_=>none
 |.call c=>match Il c with
  |some (x,t)=>match ah t,ev S x with
   |some ⟨.slice _,_,_,_⟩,some (.p (.sl _ n _))=>some (.p (.raw (.int .i64 n)))
   |some ⟨.slice _,_,_,_⟩,some (.aU _ n _)=>some (.p (.raw (.int .i64 n)))
   |some ⟨.slice _,_,_,_⟩,some (.arr _ _ n _)=>some (.p (.raw (.int .i64 n)))
   |_,_=>none
  |none=>none
 |.makeFunc f first cC=>iv S first.toList λ fs=>iv S cC.toList λ cs=>some (.fn f fs cs)
 |.nilCheck x=>match ev S x with
  |some (.ptr b o)=>some (.ptr b o)
  |some (.el ps)=>some (.el ps)
  |_=>none
 |_=>none
end Go.Proofs.YtcnefjfboagbmaaGreat
end
section
namespace Go.Proofs.YtcnefjfboagbmaaGreat
open Go.RowKit
section
variable{P:Program}{ah:Nat->Option TI}{S:Nat->Option F}{B:Nat->Option (List F)}
theorem CB{t:TypeId}{i:TI}(hT:cR P ah)(ht:ah t=some i)(w:World):(isAgg t).run P w=.ok i.k.agg w:=by obtain⟨d,G,J⟩:=hT.desc t i ht;unfold isAgg;simp only[Sem.run_bind,run_underlying G,Result.andThen_ok];rw[<-J];cases d<;>rfl
theorem run_sizeOf{t:TypeId}{i:TI}(hT:cR P ah)(ht:ah t=some i)(w:World):(sizeOf t).run P w=.ok i.sz w:=by obtain⟨f,hf,hs,_⟩:=hT.info t i ht;simp[sizeOf,typeInfo,hf,hs]
theorem Ab{t:TypeId}{i:TI}(hT:cR P ah)(ht:ah t=some i)(w:World):(zeroValue t).run P w=.ok i.zero w:=by obtain⟨f,hf,_,_,hz⟩:=hT.info t i ht;simp[zeroValue,typeInfo,hf,hz]
theorem qq(b o n:Nat):(⟨b,o,none⟩:Addr).add n=⟨b,o+n,none⟩:=Addr.add_lit b o n
theorem Ir(hT:cR P ah){t:TypeId}{i:TI}(ht:ah t=some i){e:ay}{k o:Nat}{us:List Value}{ds:List F}(hu:∀j v,us[j]?=some v->e.w.cell? ⟨k,o+j,none⟩=some v)(hr:DReps e us ds){d:F}(G:wT i ds=some d):
 ∃v,(Instr.loadAt t (.pointer (some ⟨k,o,none⟩))).run P e.w=.ok v e.w/\bt e v d:=by
 unfold wT at G;simp only[Instr.loadAt,Instr.sureAddr,loadVar,Sem.run_bind,Sem.run_pure,Result.andThen_ok,CB hT ht];cases nH:i.k.agg
 ·rw[nH] at G;simp only[cond_false] at G;split at G
  ·rename_i dH gS;cases G;obtain⟨v,aaN,rfl,hv,_⟩:=hr.vh;have:=hu 0 v rfl;simp only[Nat.add_zero] at this;exact⟨v,by simp[run_load,this],hv⟩
  ·cases G
 ·rw[nH] at G;simp only[cond_true] at G;obtain⟨TV,G⟩:=qj G;cases G
  ·skip
   have M:(us.take i.sz).length=i.sz:=by rw[List.length_take,hr.1];omega
   have:=run_loadCells_list (P:=P) e.w ⟨k,o,none⟩ (us.take i.sz) (λ j v hj=>by
    rw[List.getElem?_take] at hj;split at hj
    ·rw[qq];exact hu j v hj
    ·cases hj)
   rw[M] at this;refine⟨.agg (us.take i.sz).toArray,by simp[this,run_sizeOf hT ht],?_⟩;have ht:=hr.take i.sz;exact .agg ht.1 ht.2
theorem KX{e:ay}{b o:Nat}{ps:List Pl}(h:qm e b o ps):∃us,(∀j v,us[j]?=some v->e.w.cell? ⟨b,o+j,none⟩=some v)/\DReps e us (ps.map .p)/\∀v∈us,lc v=true:=by
 obtain⟨f,hf⟩:=h;refine⟨(List.range ps.length).map f,λ j v hj=>?_,⟨by simp,λ j v d u D=>?_⟩,λ v hv=>?_⟩
 ·rw[List.getElem?_map] at hj;rcases Bx:(List.range ps.length)[j]? with _|q
  ·rw[Bx] at hj;cases hj
  ·rw[Bx] at hj;have bh:j<ps.length:=by have:=(List.getElem?_eq_some_iff.1 Bx).1;simpa using this
   have hq:q=j:=by rw[List.getElem?_range bh] at Bx;cases Bx;rfl
   subst hq;simp only[Option.map_some,Option.some.injEq] at hj;subst hj;exact(hf q _ (List.getElem?_eq_getElem bh)).2.1
 ·rw[List.getElem?_map] at u D;rcases hp:ps[j]? with _|x
  ·rw[hp] at D;cases D
  ·rw[hp] at D;have bh:j<ps.length:=(List.getElem?_eq_some_iff.1 hp).1;rw[List.getElem?_range bh] at u;simp only[Option.map_some,Option.some.injEq] at u D;subst u;subst D;exact .p (hf j x hp).2.2.2
 ·obtain⟨j,hj,rfl⟩:=List.mem_map.1 hv;have bh:j<ps.length:=by simpa using hj
  exact(hf j _ (List.getElem?_eq_getElem bh)).2.2.1
theorem cE{e:ay}{v aa:Value}(h:bt e v (.p (.raw aa))):v=aa:=by
 cases h with
 |p h=>cases h;rfl
theorem rB{aq:Type}{a:Act}{e:ay}:∀(xs:List Operand)(k:List F->Option aq)(r:aq),(∀x∈xs,∀d,ev S x=some d->bt e (a.eval x) d)->iv S xs k=some r->∃ds,DReps e (xs.map a.eval) ds/\k ds=some r
 |[],k,r,_,h=>⟨[],DReps.nil e,h⟩
 |x::xs,k,r,hs,h=>by
  simp only[iv] at h;split at h
  ·rename_i d G;obtain⟨ds,u,D⟩:=rB xs _ r (λ y hy=>hs y (by simp[hy])) h;exact⟨d::ds,DReps.cons (hs x (by simp) d G) u,D⟩
  ·cases h
theorem GD{t:TypeId}{fs:List (TypeId×Nat×Nat)}{a b c:_}(hT:cR P ah)(ht:ah t=some ⟨.struct fs,a,b,c⟩){f:Nat}{ft:TypeId}{b6 sz:Nat}(hf:fs[f]?=some (ft,b6,sz+1))(k o:Nat)(w:World):
 (Instr.fieldAt t (.pointer (some ⟨k,o,none⟩)) f).run P w=.ok (.pointer (some ⟨k,o+b6,none⟩)) w:=by
 obtain⟨d,G,J⟩:=hT.desc t _ ht;cases d<;>simp only[jg,TK.struct.injEq,reduceCtorEq] at J
 rename_i qz;subst J;rw[List.getElem?_map] at hf;rcases hq:qz.toList[f]? with _|q
 ·rw[hq] at hf;cases hf
 ·rw[hq] at hf;simp only[Option.map_some,Option.some.injEq,Prod.mk.injEq] at hf;obtain⟨rfl,rfl,K⟩:=hf;have ju:qz[f]?=some q:=by simpa using hq
  have bT:(sizeOf q.type).run P w=.ok (sz+1) w:=by
   unfold Program.cellsOf at K;rcases Z:P.info? q.type with _|i
   ·rw[Z] at K;simp at K
   ·rw[Z] at K;simp only[Option.map_some,Option.getD_some] at K;simp[sizeOf,typeInfo,Z,K]
  simp[Instr.fieldAt,run_underlying G,ju,Instr.sureAddr,fieldPlace,bT,qq]
theorem rn(hT:cR P ah){o:Oper}{d:F}(h:ax ah S B o.op=some d):dm P o S B d none:=by
 obtain⟨dst,op,type,pos,after,guard⟩:=o;refine hZ λ a e hs=>?_
 simp only at h hs;have jT:∀x∈op.operands,∀d,ev S x=some d->bt e (a.eval x) d:=hs.1;cases op<;>simp only[ax,reduceCtorEq] at h
 case move x=>exact⟨_,rfl,jT x (by simp[Op.operands]) d h⟩
 case assign x=>exact⟨_,rfl,jT x (by simp[Op.operands]) d h⟩
 case pick c x y=>
  split at h
  ·rename_i L;have dj:=cE (jT c (by simp[Op.operands]) _ L);exact⟨a.eval x,by simp[execOp,asBool,dj],jT x (by simp[Op.operands]) d h⟩
  ·rename_i L;have dj:=cE (jT c (by simp[Op.operands]) _ L);exact⟨a.eval y,by simp[execOp,asBool,dj],jT y (by simp[Op.operands]) d h⟩
  ·cases h
 case load t x=>
  split at h
  ·rename_i i b o ht T;have u:=jT x (by simp[Op.operands]) _ T;split at h
   ·rename_i cs hB;obtain⟨k,vs,el,D,K,h4⟩:=hs.2 b cs hB;generalize dj:a.eval x=vx at u;cases u with
    |ptr u=>
     rename_i jb;rw[D] at u;cases u;have:=Ir hT ht (k:=k) (o:=o) (us:=vs.drop o) (λ j v hj=>by
      rw[List.getElem?_drop] at hj;rw[cell_of_row e.w k (o+j) vs.toArray el (0,0) K]
      simpa using hj) (h4.drop o) (my h).2
     obtain⟨v,hr,hv⟩:=this;exact⟨v,by simp[execOp,dj,hr],hv⟩
   ·cases h
  ·rename_i i ps ht T;have u:=jT x (by simp[Op.operands]) _ T;generalize dj:a.eval x=vx at u;cases u with
   |el u=>obtain⟨us,D,K,_⟩:=KX u;rw[Nw] at h;obtain⟨v,hr,hv⟩:=Ir hT ht D K h;exact⟨v,by simp[execOp,dj,hr],hv⟩
  ·cases h
 case binOp op t x y yt=>
  split at h
  ·rename_i i aa v ht T hy;have dj:=cE (jT x (by simp[Op.operands]) _ T);have Tc:=cE (jT y (by simp[Op.operands]) _ hy);have key:∀r,xW op aa v=some r->(∀b:Bool,aa=.bool b->P.underlying t=some .bool)->(execOp a.eval {dst:=dst,op:=.binOp op t x y yt,type:=type,pos:=pos,after:=after,guard:=guard}).run P e.w=.ok (.value r) e.w:=by
    intro r hr R;have:=Rg hT hr R x y e.w;simp only[execOp,dj,Tc];rw[Sem.run_bind,this]
    rfl
   split at h
   ·rename_i r b Z hr;cases h;refine⟨r,key r hr λ bj _=>?_,.p (.raw r)⟩;obtain⟨d,G,J⟩:=hT.desc t _ ht;rw[Z] at J;cases d<;>simp only[jg,reduceCtorEq] at J
    exact G
   ·rename_i r k n hr;cases h;exact⟨r,key r hr (λ bj R=>by cases R),.p (.raw r)⟩
   ·cases h
  ·cases h
 case unOp op t x=>
  split at h
  ·rename_i b T;have u:=jT x (by simp[Op.operands]) _ T;have dj:=cE u;cases h;exact⟨_,by simp[execOp,dj,Op.unary],.p (.raw _)⟩
  ·rename_i n T;have u:=jT x (by simp[Op.operands]) _ T;have dj:=cE u;cases h;exact⟨_,by simp only[execOp,dj,Op.unary,Op.intArith];rfl,.p (.raw _)⟩
  ·cases h
 case convert s t x=>
  split at h
  ·rename_i ks z1 z2 z3 kt z4 z5 z6 k0 n nS ht T;have u:=jT x (by simp[Op.operands]) _ T;have dj:=cE u;cases h;obtain⟨d1,kE,nL⟩:=hT.desc s _ nS;obtain⟨d2,rP,kV⟩:=hT.desc t _ ht;cases d1<;>simp only[jg,reduceCtorEq] at nL
   cases d2<;>simp only[jg,reduceCtorEq,TK.int.injEq] at kV
   subst kV;exact⟨_,by simp[execOp,dj,convert,run_underlying kE,run_underlying rP,Conv.intToInt],.p (.raw _)⟩
  ·cases h
 case extract x i=>
  split at h
  ·rename_i ds T;have u:=jT x (by simp[Op.operands]) _ T;generalize dj:a.eval x=vx at u;cases u with
   |bc M hh=>
    rename_i vs;obtain⟨v,K,h4⟩:=DReps.get ⟨M,hh⟩ h;have h5:vs.toArray[i]?=some v:=by simpa using K
    exact⟨v,by simp[execOp,dj,Instr.extract,K],h4⟩
  ·cases h
 case fieldAddr t x f=>
  split at h
  ·rename_i fs z1 z2 z3 b o ht T;have u:=jT x (by simp[Op.operands]) _ T;generalize dj:a.eval x=vx at u;split at h
   ·rename_i ft b6 sz hf;cases h;cases u with
    |ptr u=>exact⟨_,by simp[execOp,dj,GD hT ht hf],.ptr u⟩
   ·cases h
  ·rename_i fs z1 z2 z3 ps ht T;have u:=jT x (by simp[Op.operands]) _ T;generalize dj:a.eval x=vx at u;split at h
   ·rename_i ft b6 sz hf;obtain⟨_,h⟩:=my h;cases h;cases u with
    |el u=>rename_i b0 o0;refine⟨.pointer (some ⟨b0,o0+b6,none⟩),by simp[execOp,dj,GD hT ht hf],.el ?_⟩;obtain⟨g,hg⟩:=u;refine⟨λ j=>g (b6+j),λ j y hy=>?_⟩;rw[List.getElem?_drop] at hy;obtain⟨h5,h6,h7,h8⟩:=hg _ y hy;rw[Nat.add_assoc];exact⟨h5,h6,h7,h8⟩
   ·cases h
  ·cases h
 case field t x f=>
  split at h
  ·rename_i fs z1 z2 z3 ds ht T;have u:=jT x (by simp[Op.operands]) _ T;generalize dj:a.eval x=vx at u;split at h
   ·rename_i ft hf;split at h
    ·rename_i j hj;cases u with
     |agg M hh=>
      rename_i vs;obtain⟨d0,G,J⟩:=hT.desc t _ ht;cases d0<;>simp only[jg,TK.struct.injEq,reduceCtorEq] at J
      rename_i qz;subst J;rw[List.getElem?_map] at hf;rcases hq:qz.toList[f]? with _|q
      ·rw[hq] at hf;cases hf
      ·rw[hq] at hf;simp only[Option.map_some,Option.some.injEq] at hf;subst hf;have ju:qz[f]?=some q:=by simpa using hq
       have bT:=run_sizeOf hT hj e.w;have Hk:P.cellsOf q.type=j.sz:=by obtain⟨i0,Mb,nS,_⟩:=hT.info _ _ hj;simp only at Mb;simp[Program.cellsOf,Mb,nS]
       unfold Oi at h;simp only[Hk] at h;cases nH:j.k.agg
       ·rw[nH] at h;simp only[cond_false] at h;obtain⟨v,K,h4⟩:=DReps.get ⟨M,hh⟩ h;refine⟨v,?_,h4⟩;simp only at hj;simp[execOp,dj,Instr.field,run_underlying G,ju,asAgg,part,CB hT hj,nH,K]
       ·rw[nH] at h;simp only[cond_true] at h;obtain⟨_,h⟩:=my h;obtain⟨_,h⟩:=qj h;cases h
        ·have hr:=(DReps.drop ⟨M,hh⟩ q.offset).take j.sz;refine⟨.agg ((vs.drop q.offset).take j.sz).toArray,?_,.agg hr.1 hr.2⟩;simp only at hj;simp[execOp,dj,Instr.field,run_underlying G,ju,asAgg,part,CB hT hj,nH,run_sizeOf hT hj,List.extract_eq_take_drop]
    ·cases h
   ·cases h
  ·cases h
 case call c=>
  split at h
  ·rename_i x t pY;have pY:=Vt pY;subst pY;have ut:x∈(Op.call {callee:=.builtin .len,args:=#[x],argTypes:=#[t]}).operands:=by simp[Op.operands,Call.operands]
   have key:∀(ar:Option Addr)(n c:Nat)(el:TypeId),P.underlying t=some (.slice el)->a.eval x=.slice ar n c->(execOp a.eval {dst:=dst,op:=.call {callee:=.builtin .len,args:=#[x],argTypes:=#[t]},type:=type,pos:=pos,after:=after,guard:=guard}).run P e.w=.ok (.value (.int .i64 n)) e.w:=by intro ar n c el G hv;simp[execOp,resolve,invoke,builtin,Builtin.len_,hv,run_underlying G,goInt]
   split at h
   ·rename_i el z1 z2 z3 ex n ps ht T;have u:=jT x ut _ T;obtain⟨d0,G,J⟩:=hT.desc t _ ht;cases d0<;>simp only[jg,reduceCtorEq,TK.slice.injEq] at J
    generalize dj:a.eval x=vx at u;cases u with
    |p u=>cases u with
     |sl=>cases h;exact⟨_,key _ _ _ _ G dj,.p (.raw _)⟩
   ·rename_i el z1 z2 z3 g n ps ht T;have u:=jT x ut _ T;obtain⟨d0,G,J⟩:=hT.desc t _ ht;cases d0<;>simp only[jg,reduceCtorEq,TK.slice.injEq] at J
    generalize dj:a.eval x=vx at u;cases u with
    |aU u _=>cases u with
     |sl=>cases h;exact⟨_,key _ _ _ _ G dj,.p (.raw _)⟩
   ·rename_i el z1 z2 z3 b o n c ht T;have u:=jT x ut _ T;obtain⟨d0,G,J⟩:=hT.desc t _ ht;cases d0<;>simp only[jg,reduceCtorEq,TK.slice.injEq] at J
    generalize dj:a.eval x=vx at u;cases u with
    |arr u=>cases h;exact⟨_,key _ _ _ _ G dj,.p (.raw _)⟩
   ·cases h
  ·cases h
 case makeFunc f first cC=>obtain⟨fs,r1,h⟩:=rB first.toList _ d (λ x T=>jT x (by simp[Op.operands] at*;exact .inl T)) h;obtain⟨cs,r2,h⟩:=rB cC.toList _ d (λ x T=>jT x (by simp[Op.operands] at*;exact .inr T)) h;cases h;refine⟨.func f (first.toList.map a.eval).toArray (cC.toList.map a.eval).toArray,?_,.fn r1.1 r2.1 r1.2 r2.2⟩;simp[execOp,Instr.makeFunc];exact⟨by apply Array.ext';simp,by apply Array.ext';simp⟩
 case nilCheck x=>
  split at h
  ·rename_i b o T;have u:=jT x (by simp[Op.operands]) _ T;generalize dj:a.eval x=vx at u;cases h;cases u with
   |ptr u=>exact⟨_,by simp only[execOp,dj];rfl,.ptr u⟩
  ·rename_i ps T;have u:=jT x (by simp[Op.operands]) _ T;generalize dj:a.eval x=vx at u;cases h;cases u with
   |el u=>exact⟨_,by simp only[execOp,dj];rfl,.el u⟩
  ·cases h
end
end Go.Proofs.YtcnefjfboagbmaaGreat
end
section
namespace Go.Proofs.YtcnefjfboagbmaaGreat
open Go.RowKit
def gl(w:World)(cl:Nat->Option Nat):ay:=⟨w,cl,λ _=>none,λ _=>none,λ _=>none⟩
def aW(P:Program)(f:FuncId)(ds:List F)(d:F):Prop:=
 ∀(w:World)(cl:Nat->Option Nat)(vs:List Value),DReps (gl w cl) vs ds->
  Calls P f vs.toArray w (λ r aH=>∃v bz,r=.returned v/\Below w.heap.size w aH/\(∀k,k<w.heap.size->bz k=cl k)/\bt (gl aH bz) v d)
def wU:Pl->Pl
 |.sl _ n ps=>.sl false n ps
 |x=>x
def F.low:F->Option F
 |.p x=>some (.p (wU x))
 |.agg ds=>(jR ds).map .agg
 |.bc ds=>(jR ds).map .bc
 |.el ps=>some (.el ps)
 |.aU _ n ps=>some (.p (.sl false n ps))
 |.any=>some .any
 |.fn f first cC=>match jR first,jR cC with
  |some a,some b=>some (.fn f a b)
  |_,_=>none
 |_=>none
where jR:List F->Option (List F)
 |[]=>some []
 |d::ds=>match d.low,jR ds with
  |some a,some b=>some (a::b)
  |_,_=>none
def F.qY{aq:Type}:F->(F->Option aq)->Option aq
 |.p (.raw v),k=>k (.p (.raw v))
 |.p (.sl _ n ps),k=>k (.p (.sl false n ps))
 |.agg ds,k=>wX ds λ r=>k (.agg r)
 |.bc ds,k=>wX ds λ r=>k (.bc r)
 |.el ps,k=>k (.el ps)
 |.aU _ n ps,k=>k (.p (.sl false n ps))
 |.any,k=>k .any
 |.fn f first cC,k=>wX first λ a=>wX cC λ b=>k (.fn f a b)
 |_,_=>none
where wX {aq:Type}:List F->(List F->Option aq)->Option aq
 |[],k=>k []
 |d::ds,k=>d.qY λ a=>wX ds λ b=>k (a::b)
mutual
theorem Ev{aq:Type}:∀(d:F)(k:F->Option aq),d.qY k=d.low.bind k
 |.p (.raw v),k=>rfl
 |.p (.sl _ n ps),k=>rfl
 |.agg ds,k=>by
  rw[F.qY,B7 ds];simp only[F.low];cases F.low.jR ds<;>rfl
 |.bc ds,k=>by
  rw[F.qY,B7 ds];simp only[F.low];cases F.low.jR ds<;>rfl
 |.el ps,k=>rfl
 |.aU _ n ps,k=>rfl
 |.any,k=>rfl
 |.fn f first cC,k=>by
  rw[F.qY,B7 first];simp only[F.low];cases F.low.jR first with
  |none=>rfl
  |some a=>simp only[Option.bind_some];rw[B7 cC];cases F.low.jR cC<;>rfl
 |.ptr _ _,k=>rfl
 |.arr _ _ _ _,k=>rfl
theorem B7{aq:Type}:∀(ds:List F)(k:List F->Option aq),F.qY.wX ds k=(F.low.jR ds).bind k
 |[],k=>rfl
 |d::ds,k=>by
  rw[F.qY.wX,Ev d];simp only[F.low.jR];cases d.low with
  |none=>rfl
  |some a=>simp only[Option.bind_some];rw[B7 ds];cases F.low.jR ds<;>rfl
end
theorem cV.env{e V:ay}(hw:V.w=e.w)(L:V.cl=e.cl){v:Value}{x:Pl}(h:cV e v x):cV V v x:=by
 induction h with
 |raw v=>exact .raw v
 |sl f u D K h4 h5 h6 ih=>refine .sl f u D K h4 (λ i x T=>?_) ih;obtain⟨b,o,h7,h8,h9,GV⟩:=h5 i x T;exact⟨b,o,h7,λ k J=>h8 k (by rw[<-L];exact J),by rw[hw];exact h9,GV⟩
theorem cV.low{e:ay}{v:Value}{x:Pl}(h:cV e v x):cV e v (wU x):=by
 cases h with
 |raw=>exact .raw v
 |sl f u D K h4 h5 h6=>exact .sl f u D K (λ h=>by cases h) h5 h6
theorem y7:∀{ds gS:List F}(_:F.low.jR ds=some gS){i:Nat}{dH:F},gS[i]?=some dH->∃d,ds[i]?=some d/\d.low=some dH
 |[],gS,h,i,dH,Z=>by simp only[F.low.jR,Option.some.injEq] at h;subst h;simp at Z
 |d::ds,gS,h,i,dH,Z=>by
  simp only[F.low.jR] at h;split at h
  ·rename_i a b ha R;cases h;cases i with
   |zero=>simp only[List.getElem?_cons_zero,Option.some.injEq] at Z;subst Z;exact⟨d,rfl,ha⟩
   |succ i=>exact y7 R (by simpa using Z)
  ·cases h
theorem y8:∀{ds gS:List F}(_:F.low.jR ds=some gS),gS.length=ds.length
 |[],gS,h=>by simp only[F.low.jR,Option.some.injEq] at h;subst h;rfl
 |d::ds,gS,h=>by
  simp only[F.low.jR] at h;split at h
  ·rename_i a b ha R;cases h;simp[y8 R]
  ·cases h
theorem Ew{e:ay}{v:Value}{d:F}(h:bt e v d):∀dH,d.low=some dH->bt (gl e.w e.cl) v dH:=by
 induction h with
 |p h=>intro dH G;simp only[F.low,Option.some.injEq] at G;subst G;exact .p (cV.env (e:=e) (V:=gl e.w e.cl) rfl rfl h.low)
 |agg M h ih=>intro dH G;simp only[F.low,Option.map_eq_some_iff] at G;obtain⟨gS,u,rfl⟩:=G;exact .agg (by rw[M,y8 u]) (λ i v d hv G=>by obtain⟨d0,D,K⟩:=y7 u G;exact ih i v d0 hv D d K)
 |bc M h ih=>intro dH G;simp only[F.low,Option.map_eq_some_iff] at G;obtain⟨gS,u,rfl⟩:=G;exact .bc (by rw[M,y8 u]) (λ i v d hv G=>by obtain⟨d0,D,K⟩:=y7 u G;exact ih i v d0 hv D d K)
 |ptr h=>intro dH G;simp[F.low] at G
 |el h=>intro dH G;simp only[F.low,Option.some.injEq] at G;subst G;obtain⟨f,hf⟩:=h;exact .el ⟨f,λ i x T=>by obtain⟨u,D,K,h4⟩:=hf i x T;exact⟨u,D,K,cV.env (e:=e) (V:=gl e.w e.cl) rfl rfl h4⟩⟩
 |aU h ht=>intro dH G;simp only[F.low,Option.some.injEq] at G;subst G;exact .p (cV.env (e:=e) (V:=gl e.w e.cl) rfl rfl h)
 |arr h=>intro dH G;simp[F.low] at G
 |fn M dz h D ih BW=>
  intro dH G;simp only[F.low] at G;split at G
  ·rename_i a b ha R;cases G;exact .fn (by rw[M,y8 ha]) (by rw[dz,y8 R]) (λ i v d hv G=>by obtain⟨d0,K,h4⟩:=y7 ha G;exact ih i v d0 hv K d h4) (λ i v d hv G=>by obtain⟨d0,K,h4⟩:=y7 R G;exact BW i v d0 hv K d h4)
  ·cases G
 |any=>intro dH G;simp only[F.low,Option.some.injEq] at G;subst G;exact .any
theorem Iv{e:ay}{vs:List Value}{ds gS:List F}(h:DReps e vs ds)(M:F.low.jR ds=some gS):DReps (gl e.w e.cl) vs gS:=
 ⟨by rw[h.1,y8 M],λ i v d hv G=>by obtain⟨d0,u,D⟩:=y7 M G;exact Ew (h.2 i v d0 hv u) d D⟩
theorem RW(e:ay)(w:World)(cl:Nat->Option Nat):Ends (gl w cl) {e with w:=w,cl:=cl}:=
 ⟨λ _ _ _ u D=>⟨u,D⟩,λ _ _ h=>(by cases h),λ _ _ h=>(by cases h),λ _ _ _ _ h=>(by cases h)⟩
section
variable{P:Program}{ah:Nat->Option TI}{S:Nat->Option F}{B:Nat->Option (List F)}
theorem Ow{P:Program}{f:FuncId}{ds d:_}(L:aW P f ds d){e:ay}{vs:List Value}(hv:DReps (gl e.w e.cl) vs ds){o:Oper}{a:Act}:
 Calls P f vs.toArray e.w λ
  |.returned v,mn=>∃jh V,a.put o.dst v=a.put o.dst jh/\V.w=mn/\nD e V jh d none
  |.panicked _,_=>False
  |.outgrown,_=>LetsOut (λ _ _ _=>False):=by
 refine(L e.w e.cl vs hv).mono λ r aH hh=>?_
 obtain⟨v,bz,rfl,R,de,hr⟩:=hh;exact⟨v,{e with w:=aH,cl:=bz},rfl,rfl,⟨R,de,rfl,rfl,rfl⟩,hr.next (RW e aH bz)⟩
theorem Ku{o:Oper}{f:FuncId}{xs:List Operand}{fb:Array TypeId}{ds:List F}{d:F}(L:aW P f ds d)(X:o.op=.call {callee:=.value (.func f),args:=xs.toArray,argTypes:=fb})(hf:jj P f)(he:iv S xs F.low.jR=some ds):dm P o S B d none:=by
 intro a e hs _;obtain⟨iK,hr,M⟩:=rB xs _ ds (λ x T=>hs.1 x (by rw[X];simp[Op.operands,Call.operands,T])) he;unfold Oper.wp;have e1:(execOp a.eval o).run P e.w=.ok (.enter f (xs.map a.eval).toArray) e.w:=by obtain⟨dst,op,type,pos,after,guard⟩:=o;simp only at X;subst X;rw[execOp_call_go,hf];simp
 rw[e1];exact Ow L (Iv hr M)
theorem tV{o:Oper}{f:FuncId}{g:Operand}{xs:List Operand}{fb:Array TypeId}{ds first cC:List F}{d:F}(L:aW P f ds d)(X:o.op=.call {callee:=.value g,args:=xs.toArray,argTypes:=fb})(hf:jj P f)(hg:ev S g=some (.fn (.func f) first cC))(he:iv S xs (λ iK=>F.low.jR (first++iK++cC))=some ds):dm P o S B d none:=by
 intro a e hs _;obtain⟨iK,hr,M⟩:=rB xs _ ds (λ x T=>hs.1 x (by rw[X];simp[Op.operands,Call.operands,T])) he;have ur:=hs.1 g (by rw[X];simp[Op.operands,Call.operands]) _ hg;generalize dj:a.eval g=gv at ur;cases ur with
 |fn i9 dz u D=>
  rename_i us vs;have dc:DReps e (us++xs.map a.eval++vs) (first++iK++cC):=(DReps.append ⟨i9,u⟩ hr).append ⟨dz,D⟩;unfold Oper.wp;have e1:(execOp a.eval o).run P e.w=.ok (.enter f (us++xs.map a.eval++vs).toArray) e.w:=by obtain⟨dst,op,type,pos,after,guard⟩:=o;simp only at X;subst X;simp only[execOp,resolve,dj,Deferred.ofValue,Sem.run_bind,Sem.run_pure,Result.andThen_ok,invoke];rw[hf];simp
  rw[e1];exact Ow L (Iv dc M)
def ay.alloc(e:ay)(o:Obj)(c:Option Nat):ay:={e with w:=e.w.alloc o,cl:=λ k=>if k=e.w.heap.size then c else e.cl k}
theorem ay.sr(e:ay)(o:Obj)(c:Option Nat):jI e (e.alloc o c):=
 ⟨(Below.refl _ _).alloc (Nat.le_refl _) _,λ k J=>by show(if k=e.w.heap.size then c else e.cl k)=_;rw[if_neg (by omega)],rfl,rfl,rfl⟩
theorem OD{e:ay}{us:List Value}{ds:List F}{t:TypeId}{b:Nat}(hr:DReps e us ds)(R:e.bx b=none):
 nD e ((e.alloc (.cells us.toArray t) (some 0)).ip b e.w.heap.size) (.pointer (some ⟨e.w.heap.size,0,none⟩)) (.ptr b 0) (some (b,ds)):=by
 have hg:=ay.sr e (.cells us.toArray t) (some 0);have gy:(e.alloc (.cells us.toArray t) (some 0)).bx b=none:=by rw[hg.bx];exact R
 refine⟨_,e.w.heap.size,hg,Nat.le_refl _,by simp[ay.alloc],by simp[ay.alloc],rfl,⟨e.w.heap.size,us,t,?_,?_,?_⟩,.ptr ?_⟩
 ·simp[ay.ip]
 ·exact heap_alloc_new e.w _
 ·exact(hr.next hg.ends).next (sm gy)
 ·simp[ay.ip]
def j9:F->Bool
 |.agg _=>true
 |d=>d.leaf
theorem tC{e:ay}{v:Value}{d:F}(h:bt e v d)(J:j9 d=true):DReps e v.cells.toList d.cells:=by refine Rn h ?_;cases d<;>first|exact .inl J|exact .inr ⟨_,rfl⟩
def lR{aq:Type}(d:F)(k:List F->Option aq):Option aq:=match d with
 |.agg ds=>k ds
 |d=>k [d]
theorem tX{aq:Type}(d:F)(k:List F->Option aq):lR d k=k d.cells:=by cases d<;>rfl
theorem C8{o:Oper}{t:TypeId}{x:Operand}(b:Nat){dx:F}{cs:List F}(X:o.op=.box t x)(T:ev S x=some dx)(J:j9 dx=true)(cr:lR dx some=some cs):dm P o S B (.ptr b 0) (some (b,cs)):=by
 rw[tX] at cr;cases cr;intro a e hs fy;have u:=hs.1 x (by rw[X];simp[Op.operands]) _ T;have hr:=tC u J;unfold Oper.wp;have e1:(execOp a.eval o).run P e.w=.ok (.value (.pointer (some ⟨e.w.heap.size,0,none⟩))) (e.w.alloc (.cells (a.eval x).cells t)):=by obtain⟨dst,op,type,pos,after,guard⟩:=o;simp only at X;subst X;simp[execOp,Instr.box,newVar,newRow]
 rw[e1];refine⟨_,(e.alloc (.cells (a.eval x).cells.toList.toArray t) (some 0)).ip b e.w.heap.size,rfl,by simp[ay.ip,ay.alloc],OD hr (fy _ rfl)⟩
theorem tQ(hT:cR P ah){o:Oper}{t:TypeId}(b:Nat){i:TI}{cs:List F}(X:o.op=.alloc t)(ht:ah t=some i)(J:j9 (kP i.zero)=true)(cr:pK i.zero (λ d=>lR d some)=some cs):dm P o S B (.ptr b 0) (some (b,cs)):=by
 rw[vK,tX] at cr;cases cr;intro a e hs fy;have hr:=tC (vJ e i.zero) J;unfold Oper.wp;have e1:(execOp a.eval o).run P e.w=.ok (.value (.pointer (some ⟨e.w.heap.size,0,none⟩))) (e.w.alloc (.cells i.zero.cells t)):=by obtain⟨dst,op,type,pos,after,guard⟩:=o;simp only at X;subst X;simp[execOp,Instr.alloc,Ab hT ht,newVar,newRow]
 rw[e1];refine⟨_,(e.alloc (.cells i.zero.cells.toList.toArray t) (some 0)).ip b e.w.heap.size,rfl,by simp[ay.ip,ay.alloc],OD hr (fy _ rfl)⟩
theorem pu{e:ay}{v:Value}{ex:Bool}{n:Nat}{ps:List Pl}(h:cV e v (.sl ex n ps)):∃ar bP,v=.slice ar n bP/\n<=bP/\bP<=maxLen/\(ar=none->bP=0)/\(ex=true->bP=n)/\(ps=[]\/∃b o,ar=some ⟨b,o,none⟩/\qm e b o ps):=by
 cases h with
 |sl f u D K h4 h5 h6=>
  refine⟨_,_,rfl,u,D,K,h4,?_⟩;rcases ps with _|⟨x,ps⟩
  ·exact .inl rfl
  ·obtain⟨b,o,hA,_⟩:=h5 0 x rfl;refine .inr ⟨b,o,hA,f,λ i y hy=>?_⟩;obtain⟨bj,o',A9,h7,h8,h9⟩:=h5 i y hy;rw[hA] at A9;cases A9;exact⟨h7,h8,h9,h6 i y hy⟩
theorem Ah{e:ay}{ar:Option Addr}{ex:Bool}{n bP:Nat}{ps:List Pl}(u:n<=bP)(D:bP<=maxLen)(K:ar=none->bP=0)(h4:ex=true->bP=n)(h5:ps=[]\/∃b o,ar=some ⟨b,o,none⟩/\qm e b o ps):cV e (.slice ar n bP) (.sl ex n ps):=by
 rcases h5 with rfl|⟨b,o,hA,f,hf⟩
 ·exact .sl (λ _=>undef) u D K h4 (λ i x h=>by simp at h) (λ i x h=>by simp at h)
 ·exact .sl f u D K h4 (λ i x T=>by obtain⟨h6,h7,h8,_⟩:=hf i x T;exact⟨b,o,hA,h6,h7,h8⟩) (λ i x T=>(hf i x T).2.2.2)
theorem qm.part{e:ay}{b o:Nat}{ps qs:List Pl}(h:qm e b o ps)(m:Nat)(hq:∀(j:Nat) q,qs[j]?=some q->ps[m+j]?=some q):qm e b (o+m) qs:=by obtain⟨f,hf⟩:=h;refine⟨λ j=>f (m+j),λ j q hj=>?_⟩;obtain⟨u,D,K,h4⟩:=hf _ q (hq j q hj);rw[Nat.add_assoc];exact⟨u,D,K,h4⟩
def mj:F->Option (Nat×List Pl)
 |.p (.sl _ n ps)=>some (n,ps)
 |.aU _ n ps=>some (n,ps)
 |_=>none
theorem u7{e:ay}{v:Value}{d:F}{n:Nat}{ps:List Pl}(h:bt e v d)(G:mj d=some (n,ps)):cV e v (.sl false n ps):=by
 cases h with
 |p h=>cases h with
  |raw=>cases G
  |sl f u D K h4 h5 h6=>cases G;exact .sl f u D K (λ h=>by cases h) h5 h6
 |aU h _=>cases G;exact h
 |_=>cases G
theorem MR(hT:cR P ah){o:Oper}{t el:TypeId}{x y:Operand}{dx:F}{n:Nat}{ps:List Pl}{k:IntKind}{i:Int}{z1 z2:Nat}{z3:Value}{j:TI}(qs:List Pl)(X:o.op=.indexAddr t x y)(ht:ah t=some ⟨.slice el,z1,z2,z3⟩)(he:ah el=some j)
 (T:ev S x=some dx)(G:mj dx=some (n,ps))(hy:ev S y=some (.p (.raw (.int k i))))(h0:0<=i)(bh:i<n)(BN:qs≠[])(hq:∀(m:Nat) q,qs[m]?=some q->ps[i.toNat*j.sz+m]?=some q):dm P o S B (.el qs) none:=by
 refine hZ λ a e hs=>?_
 have u:=u7 (hs.1 x (by rw[X];simp[Op.operands]) _ T) G;have D:=cE (hs.1 y (by rw[X];simp[Op.operands]) _ hy);obtain⟨ar,bP,hv,_,_,_,_,hA⟩:=pu u;rcases hA with rfl|⟨b,of,rfl,dR⟩
 ·rcases qs with _|⟨q,qs⟩
  ·exact absurd rfl BN
  ·have:=hq 0 q rfl;simp at this
 obtain⟨d0,dI,J⟩:=hT.desc t _ ht;cases d0<;>simp only[jg,reduceCtorEq,TK.slice.injEq] at J
 subst J;refine⟨.pointer (some ⟨b,of+i.toNat*j.sz,none⟩),?_,.el (dR.part _ hq)⟩;obtain⟨dst,op,type,pos,after,guard⟩:=o;simp only at X;subst X;simp[execOp,Instr.indexAt,D,hv,asIntOf,run_underlying dI,h0,bh,run_sizeOf hT he,qq]
end
end Go.Proofs.YtcnefjfboagbmaaGreat
end
section
namespace Go.Proofs.YtcnefjfboagbmaaGreat
open Go.RowKit
section
variable{P:Program}{ah:Nat->Option TI}{Γ:bE}{I bS:St}
def xM(P:Program)(Γ:bE)(o:Oper)(I bS:St):Prop:=
 ∀(a:Act)(e:ay),bw Γ I e a->o.wp P a e.w (λ bu aH=>∃V,V.w=aH/\bw Γ bS V bu) (λ _ _ _=>False)
theorem vj{P:Program}{o:Oper}{a:Act}{w:World}{bC vo:Act->World->Prop}{Q:Exit->Act->World->Prop}(h:o.wp P a w bC (λ _ _ _=>False))(J:∀bu aH,bC bu aH->vo bu aH):o.wp P a w vo Q:=
 Zb (Oper.wp_mono J h)
theorem dm.step{o:Oper}{d:F}{nb:Option (Nat×List F)}(h:dm P o (Y I.s) (Y I.b) d nb)(G:t6 Γ.n o.dst=true)(fy:∀p,nb=some p->Y I.b p.1=none):xM P Γ o I ((I.box nb).put o.dst d):=by
 intro a e L;refine vj (h a e (L.h1 _) λ p hp=>L.dX _ (fy p hp)) λ bu aH hh=>?_
 obtain⟨v,V,rfl,hw,hq⟩:=hh;exact⟨V,hw,L.quiet G fy hq⟩
def iZ(Γ:bE)(Q:Exit->St->Prop):Exit->Act->World->Prop:=λ x a w=>∃I e,e.w=w/\bw Γ I e a/\Q x I
structure bp(P:Program)(Γ:bE)(l0:List Oper)(Q:Exit->St->Prop)(l:List Oper)(I:St):Prop where
 run:∀(a:Act)(e:ay),bw Γ I e a->wpList P l0.toArray (iZ Γ Q) l a e.w
variable{l0 l:List Oper}{Q:Exit->St->Prop}{o:Oper}
theorem jK(h:Q .normal I):bp P Γ l0 Q [] I:=⟨λ _ e L=>⟨I,e,rfl,L,h⟩⟩
def gd(l0:List Oper)(o:Oper)(S:Nat->Option F):Option Bool:=match o.guard with
 |none=>some true
 |some (j,want)=>match(l0[j]?).bind (·.dst) with
  |some t=>match S t with
   |some (.p (.raw (.bool b)))=>some (b==want)
   |some (.p (.raw (.tuple _)))=>some false
   |_=>none
  |none=>none
theorem kS{e:ay}{a:Act}(L:bw Γ I e a){c:Bool}(h:gd l0 o (Y I.s)=some c):Region.wanted o (yielded l0.toArray a.tmps)=c:=by
 unfold gd at h;unfold Region.wanted;split at h
 ·rename_i hg;rw[hg];cases h;rfl
 ·rename_i j want hg;rw[hg];split at h
  ·rename_i t ht;split at h
   ·rename_i b R;cases h;have hv:=cE (L.bm t _ R);have:yielded l0.toArray a.tmps j=some b:=by
     rw[Fx];have u:(l0.toArray[j]?).bind (·.dst)=some t:=by simpa using ht
     rw[u];unfold fK at hv;simp only[Option.bind_some,hv,xZ]
    simp only[this];cases b<;>cases want<;>rfl
   ·rename_i b R;cases h;have hv:=cE (L.bm t _ R);have:yielded l0.toArray a.tmps j=none:=by
     rw[Fx];have u:(l0.toArray[j]?).bind (·.dst)=some t:=by simpa using ht
     rw[u];unfold fK at hv;simp only[Option.bind_some,hv,xZ]
    simp only[this];cases want<;>rfl
   ·cases h
  ·cases h
theorem tR(hg:gd l0 o (Y I.s)=some true)(hs:xM P Γ o I bS)(h:bp P Γ l0 Q l bS):bp P Γ l0 Q (o::l) I:=by refine⟨λ a e L=>?_⟩;unfold wpList;rw[if_pos (kS L hg)];refine .inl (vj (hs a e L) λ bu aH hh=>?_);obtain⟨V,rfl,ea⟩:=hh;exact h.run bu V ea
theorem QP(hg:gd l0 o (Y I.s)=some false)(G:t6 Γ.n o.dst=true)(h:bp P Γ l0 Q l (I.put o.dst (.p (.raw undef)))):bp P Γ l0 Q (o::l) I:=by refine⟨λ a e L=>?_⟩;unfold wpList;rw[if_neg (by rw[kS L hg];simp)];exact h.run _ e (L.put G (.p (.raw undef)))
theorem Kh{d:F}{nb:Option (Nat×List F)}(hq:dm P o (Y I.s) (Y I.b) d nb)(hg:gd l0 o (Y I.s)=some true)(G:t6 Γ.n o.dst=true)(fy:∀p,nb=some p->Y I.b p.1=none)(h:bp P Γ l0 Q l ((I.box nb).put o.dst d)):bp P Γ l0 Q (o::l) I:=
 tR hg (hq.step G fy) h
structure Zq(I bn:St):Prop where
 s:∀t d,Y bn.s t=some d->Y I.s t=some d
 b:bn.b=I.b
 g:bn.g=I.g
def St.Fe(I:St)(b:Nat)(cs:List F):St:=⟨I.s,(b,cs)::I.b,I.g⟩
theorem C7{w:World}{k:Nat}{vs us:List Value}{el:TypeId}(h:w.heap[k]?=some (.cells vs.toArray el (0,0))):(w.setRow k us.toArray).heap[k]?=some (.cells us.toArray el (0,0)):=setRow_heap w k _ _ el _ h
theorem bw.setRow{e:ay}{a:Act}(L:bw Γ I e a){b k:Nat}{vs us:List Value}{el:TypeId}{cs:List F}(R:e.bx b=some k)(J:e.w.heap[k]?=some (.cells vs.toArray el (0,0)))(hr:DReps e us cs):
 bw Γ (I.Fe b cs) {e with w:=e.w.setRow k us.toArray} a:=by
 obtain⟨u,D,K,h4⟩:=L.env.bx b k R;have gB:∀j,j≠k->(e.w.setRow k us.toArray).heap[j]?=e.w.heap[j]?:=λ j hj=>setRow_other e.w k j _ hj
 have A:Ends e {e with w:=e.w.setRow k us.toArray}:=by
  refine⟨λ bj o v de hv=>?_,λ _ _ h=>h,λ _ ak h=>⟨ak,h,rfl,rfl,Nat.le_refl _⟩,λ j g ak cur h5 h6 h7=>⟨h5,cur,?_,rfl⟩⟩
  ·have cP:bj≠k:=λ V=>by subst V;exact absurd (de 0 K) (by omega)
   exact⟨de,by show(e.w.setRow k us.toArray).cell? _=_;rw[World.cell?_of_block (w:=e.w) (gB bj cP)];exact hv⟩
  ·show(e.w.setRow k us.toArray).heap[j]?=_;rw[gB j (λ V=>by subst V;rw[h4] at h5;cases h5)];exact h7
 refine⟨L.size,L.df,λ t d ht=>(L.bm t d ht).next A,λ bj ds G=>?_,λ bj gy=>?_,L.gs,?_⟩
 ·simp only[St.Fe,cL] at G;split at G
  ·rename_i pP;subst pP;cases G;exact⟨k,us,el,R,C7 J,hr.next A⟩
  ·rename_i pP;obtain⟨jb,eV,AY,h5,h6,h7⟩:=L.boxes bj ds G;refine⟨jb,eV,AY,h5,?_,h7.next A⟩;show(e.w.setRow k us.toArray).heap[jb]?=_;rw[gB jb (λ V=>pP (by subst V;exact L.env.inj _ _ _ R h5))];exact h6
 ·simp only[St.Fe,cL] at gy;split at gy
  ·cases gy
  ·exact L.dX bj gy
 ·refine⟨⟨L.env.kept.os,L.env.kept.tape,L.env.kept.output,by show _<=(e.w.setRow k us.toArray).heap.size;rw[setRow_size];exact L.env.kept.size,λ j hj X=>?_⟩,L.env.cl,λ bj j hj=>?_,L.env.inj,λ j g hg=>?_,L.env.kb⟩
  ·show(e.w.setRow k us.toArray).heap[j]?=_;rw[gB j (λ V=>by subst V;rcases D with D|D<;>first|omega|exact X D)];exact L.env.kept.block j hj X
  ·obtain⟨h5,h6,h7,h8⟩:=L.env.bx bj j hj;exact⟨by show j<(e.w.setRow k us.toArray).heap.size;rw[setRow_size];exact h5,h6,h7,h8⟩
  ·obtain⟨ak,cur,h5,h6,h7,h8,h9⟩:=L.env.gr j g hg;refine⟨ak,cur,h5,by show j<(e.w.setRow k us.toArray).heap.size;rw[setRow_size];exact h6,h7,h8,?_⟩;show(e.w.setRow k us.toArray).heap[j]?=_;rw[gB j (λ V=>by subst V;rw[h4] at hg;cases hg)];exact h9
def stored(cs:List F)(o:Nat)(ds:List F):List F:=cs.take o++ds++cs.drop (o+ds.length)
def sb:F->Bool
 |.agg ds=>ds.all F.leaf
 |d=>d.leaf
theorem Ng{e:ay}{v:Value}{d:F}(h:bt e v d)(M:sb d=true):∀aa∈v.cells.toList,lc aa=true:=by
 have J:j9 d=true:=by cases d<;>first|exact M|rfl
 have hr:=tC h J;have dc:∀c∈d.cells,c.leaf=true:=by
  cases d with
  |agg ds=>exact λ c L=>List.all_eq_true.1 M c L
  |_=>intro c L;simp only[F.cells,List.mem_singleton] at L;subst L;exact M
 intro aa hu;obtain⟨i,Z,rfl⟩:=List.mem_iff_getElem.1 hu;have lz:i<d.cells.length:=by rw[<-hr.1];exact Z
 exact Ij (hr.2 i _ _ (List.getElem?_eq_getElem Z) (List.getElem?_eq_getElem lz)) (dc _ (List.getElem_mem lz))
def rd{aq:Type}(cs:List F)(o:Nat)(d:F)(k:List F->Option aq):Option aq:=
 lR d λ ds=>lm o cs λ a=>j2 o cs λ b=>j2 ds.length b λ c=>lP ds c λ r=>lP a r k
theorem Pz{aq:Type}{cs:List F}{o:Nat}{d:F}{k:List F->Option aq}{r:aq}(h:rd cs o d k=some r):o+d.cells.length<=cs.length/\k (stored cs o d.cells)=some r:=by unfold rd at h;rw[tX] at h;obtain⟨u,h⟩:=qj h;obtain⟨D,h⟩:=my h;obtain⟨K,h⟩:=my h;rw[pG,pG] at h;refine⟨by simp at K;omega,?_⟩;unfold stored;rw[List.append_assoc];rw[List.drop_drop] at h;exact h
theorem JF(hT:cR P ah){t:TypeId}{x y:Operand}{b of:Nat}{cs:List F}{dy:F}{i:TI}(X:o.op=.store t x y)(G:o.dst=none)(ht:ah t=some i)(T:ev (Y I.s) x=some (.ptr b of))(R:Y I.b b=some cs)(hy:ev (Y I.s) y=some dy)
 (M:sb dy=true)(bT:dy.cells.length=i.sz)(Bp:of+dy.cells.length<=cs.length):xM P Γ o I (I.Fe b (stored cs of dy.cells)):=by
 intro a e L;have hs:=L.h1 (I:=I) o.op.operands;have u:=hs.1 x (by rw[X];simp[Op.operands]) _ T;have D:=hs.1 y (by rw[X];simp[Op.operands]) _ hy;have J:j9 dy=true:=by cases dy<;>first|exact M|rfl
 have hr:=tC D J;obtain⟨k,vs,el,K,h4,h5⟩:=L.boxes b cs R;generalize dj:a.eval x=vx at u;cases u with
 |ptr u=>
  rw[K] at u;cases u;have cg:(a.eval y).cells.size=i.sz:=by have:=hr.1;simp at this;omega
  have b8:=run_storeCells_at P k of el (a.eval y).cells.toList 0 vs.toArray e.w h4 (by have:=hr.1;have:=h5.1;simp at*;omega) (Ng D M);unfold Oper.wp;have e1:(execOp a.eval o).run P e.w=.ok .skip (e.w.setRow k (vs.take of++(a.eval y).cells.toList++vs.drop (of+(a.eval y).cells.toList.length)).toArray):=by obtain⟨dst,op,type,pos,after,guard⟩:=o;simp only at X;subst X;simp only[Nat.add_zero] at b8;simp[execOp,Instr.storeAt,Instr.sureAddr,dj,storeVar,run_sizeOf hT ht,cg,b8]
  rw[e1];refine⟨{e with w:=e.w.setRow k (vs.take of++(a.eval y).cells.toList++vs.drop (of+(a.eval y).cells.toList.length)).toArray},rfl,?_⟩;have:=L.setRow K h4 (us:=vs.take of++(a.eval y).cells.toList++vs.drop (of+(a.eval y).cells.toList.length)) (cs:=stored cs of dy.cells) (by
   unfold stored;rw[hr.1];exact((h5.take of).append hr).append (h5.drop _))
  rw[G];exact this
end
end Go.Proofs.YtcnefjfboagbmaaGreat
end
section
namespace Go.Proofs.YtcnefjfboagbmaaGreat
open Go.RowKit
section
variable{P:Program}{ah:Nat->Option TI}{Γ:bE}{I bS:St}{o:Oper}
def St.CD(I:St)(g:Nat)(ak:Gr):St:=⟨I.s,I.b,(g,ak)::I.g⟩
def ay.more(e:ay)(w:World)(g:Nat)(ak:Gr)(k:Option Nat):ay:=
 {w:=w,cl:=λ j=>if some j=k\/e.gr j=some g then some (ak.len*ak.sz) else e.cl j,bx:=e.bx,gr:=λ j=>if some j=k then some g else e.gr j,gi:=λ h=>if h=g then some ak else e.gi h}
structure n9(e:ay)(w:World)(g:Nat)(ak:Gr)(k:Option Nat):Prop where
 os:w.os=e.w.os
 tape:w.tape=e.w.tape
 output:w.output=e.w.output
 size:e.w.heap.size<=w.heap.size
 eh:∀j,j<e.w.heap.size->e.gr j≠some g->w.heap[j]?=e.w.heap[j]?
 row:∀j cur,e.gr j=some g->e.w.heap[j]?=some (.cells cur ak.el (0,0))->∃j0,w.heap[j]?=some (.cells j0 ak.el (0,0))/\j0.size=cur.size/\∀i,e.mv j i->j0[i]?=cur[i]?
 new:∀j,k=some j->e.w.heap.size<=j/\j<w.heap.size/\∃cur,w.heap[j]?=some (.cells cur ak.el (0,0))
theorem n9.ends{e:ay}{w:World}{g:Nat}{ak G0:Gr}{k:Option Nat}(h:n9 e w g ak k)(aR:gx Γ e)(hg:e.gi g=some G0)(dR:ak.el=G0.el)(bT:ak.sz=G0.sz)(cg:G0.len<=ak.len):Ends e (e.more w g ak k):=by
 refine⟨λ b i v L hv=>?_,λ _ _ h=>h,λ d9 lO sR=>?_,λ j d9 lO cur u D K=>?_⟩
 ·have R:=Db hv;have cP:¬some b=k:=λ V=>by have:=(h.new b V.symm).1;omega
  by_cases gp:e.gr b=some g
  ·obtain⟨G1,cur,u,D,K,h4,h5⟩:=aR.gr b g gp;rw[hg] at u;cases u;obtain⟨j0,h6,h7,h8⟩:=h.row b cur gp (by rw[dR];exact h5);have Z:=L _ h4;refine⟨λ n hn=>?_,?_⟩
   ·have jt:(if some b=k\/e.gr b=some g then some (ak.len*ak.sz) else e.cl b)=some n:=hn;rw[if_pos (.inr gp)] at jt;cases jt;have:=Nat.mul_le_mul_right G0.sz cg;rw[bT];omega
   ·show w.cell? _=_;rw[cell_of_row w b i j0 ak.el (0,0) h6,h8 i L];rw[cell_of_row e.w b i cur G0.el (0,0) h5] at hv;exact hv
  ·refine⟨λ n hn=>?_,?_⟩
   ·have jt:(if some b=k\/e.gr b=some g then some (ak.len*ak.sz) else e.cl b)=some n:=hn;rw[if_neg (λ bN=>bN.elim cP gp)] at jt;exact L n jt
   ·show w.cell? _=_;rw[World.cell?_of_block (w:=e.w) (h.eh b R gp)];exact hv
 ·by_cases e1:d9=g
  ·subst e1;rw[hg] at sR;cases sR;exact⟨ak,by simp[ay.more],dR,bT,cg⟩
  ·exact⟨lO,by simp[ay.more,e1];exact sR,rfl,rfl,Nat.le_refl _⟩
 ·have hj:=qG K;have cP:¬some j=k:=λ V=>by have:=(h.new j V.symm).1;omega
  refine⟨by show(if some j=k then some g else e.gr j)=_;rw[if_neg cP];exact u,?_⟩
  by_cases gp:d9=g
  ·subst gp;rw[hg] at D;cases D;obtain⟨j0,h6,h7,_⟩:=h.row j cur u (by rw[dR];exact K);exact⟨j0,by rw[<-dR];exact h6,h7⟩
  ·exact⟨cur,by show w.heap[j]?=_;rw[h.eh j hj (by rw[u];simpa using gp)];exact K,rfl⟩
theorem n9.box{e:ay}{w:World}{g:Nat}{ak G0:Gr}{k:Option Nat}(h:n9 e w g ak k)(aR:gx Γ e)(hg:e.gi g=some G0)(dR:ak.el=G0.el)(bT:ak.sz=G0.sz)(cg:G0.len<=ak.len){b:Nat}{cs:List F}(R:gu e b cs):gu (e.more w g ak k) b cs:=by obtain⟨j,vs,el,u,D,K⟩:=R;obtain⟨h4,_,_,h5⟩:=aR.bx b j u;exact⟨j,vs,el,u,by show w.heap[j]?=_;rw[h.eh j h4 (by rw[h5];simp)];exact D,K.next (h.ends aR hg dR bT cg)⟩
theorem n9.ok{e:ay}{w:World}{g:Nat}{ak G0:Gr}{k:Option Nat}(h:n9 e w g ak k)(aR:gx Γ e)(fh:e.gi g=some G0)(dR:ak.el=G0.el):gx Γ (e.more w g ak k):=by
 have BH:∀j,j<e.w.heap.size->¬some j=k:=λ j hj V=>by have:=(h.new j V.symm).1;omega
 refine⟨⟨h.os.trans aR.kept.os,h.tape.trans aR.kept.tape,h.output.trans aR.kept.output,Nat.le_trans aR.kept.size h.size,λ j hj X=>?_⟩,λ j hj X=>?_,λ b j R=>?_,aR.inj,λ j d9 sR=>?_,aR.kb⟩
 ·have pb:=Nat.lt_of_lt_of_le hj aR.kept.size;have pd:e.gr j≠some g:=λ sR=>by
   obtain⟨_,_,_,_,K,_⟩:=aR.gr j g sR;rcases K with K|K<;>first|omega|exact X K
  show w.heap[j]?=_;rw[h.eh j pb pd];exact aR.kept.block j hj X
 ·have pb:=Nat.lt_of_lt_of_le hj aR.kept.size;have pd:e.gr j≠some g:=λ sR=>by
   obtain⟨_,_,_,_,K,_⟩:=aR.gr j g sR;rcases K with K|K<;>first|omega|exact X K
  show(if some j=k\/e.gr j=some g then _ else e.cl j)=_;rw[if_neg (λ bN=>bN.elim (BH j pb) pd)];exact aR.cl j hj X
 ·obtain⟨u,D,K,h4⟩:=aR.bx b j R;refine⟨Nat.lt_of_lt_of_le u h.size,D,?_,?_⟩
  ·show(if some j=k\/e.gr j=some g then _ else e.cl j)=_;rw[if_neg (λ bN=>bN.elim (BH j u) (by rw[h4];simp))];exact K
  ·show(if some j=k then some g else e.gr j)=_;rw[if_neg (BH j u)];exact h4
 ·have dS:(if some j=k then some g else e.gr j)=some d9:=sR
  by_cases lB:some j=k
  ·rw[if_pos lB] at dS;cases dS;obtain⟨u,D,cur,K⟩:=h.new j lB.symm;refine⟨ak,cur,by simp[ay.more],D,.inl (Nat.le_trans aR.kept.size u),by simp[ay.more,lB],K⟩
  ·rw[if_neg lB] at dS;obtain⟨G1,cur,u,D,K,h4,h5⟩:=aR.gr j d9 dS
   by_cases e1:d9=g
   ·subst e1;rw[fh] at u;cases u;obtain⟨j0,h6,_,_⟩:=h.row j cur dS (by rw[dR];exact h5);exact⟨ak,j0,by simp[ay.more],Nat.lt_of_lt_of_le D h.size,K,by simp[ay.more,dS],h6⟩
   ·refine⟨G1,cur,by simp[ay.more,e1];exact u,Nat.lt_of_lt_of_le D h.size,K,?_,?_⟩
    ·show(if some j=k\/e.gr j=some g then _ else e.cl j)=_;rw[if_neg (λ bN=>bN.elim lB (by rw[dS];simpa using e1))];exact h4
    ·show w.heap[j]?=_;rw[h.eh j D (by rw[dS];simpa using e1)];exact h5
theorem bw.more{e:ay}{a:Act}(L:bw Γ I e a){w:World}{g:Nat}{ak G0:Gr}{k:Option Nat}(h:n9 e w g ak k)(hg:Y I.g g=some G0)(dR:ak.el=G0.el)(bT:ak.sz=G0.sz)(cg:G0.len<=ak.len):bw Γ (I.CD g ak) (e.more w g ak k) a:=by
 have fh:e.gi g=some G0:=by rw[L.gs];exact hg
 have A:=h.ends L.env fh dR bT cg;refine⟨L.size,L.df,λ t d ht=>(L.bm t d ht).next A,λ b cs R=>h.box L.env fh dR bT cg (L.boxes b cs R),L.dX,λ d9=>?_,h.ok L.env fh dR⟩;show(if d9=g then some ak else e.gi d9)=Y ((g,ak)::I.g) d9;rw[cL]
 by_cases e1:d9=g
 ·subst e1;simp
 ·rw[if_neg e1,if_neg (λ V=>e1 V.symm)];exact L.gs d9
theorem AM{e:ay}{b of:Nat}{ps:List Pl}(h:qm e b of ps):∃us:List Value,us.length=ps.length/\(∀(j:Nat) v,us[j]?=some v->e.w.cell? ((⟨b,of,none⟩:Addr).add j)=some v)/\(∀v∈us,v.oneCell'=true)/\∀(j:Nat) v x,us[j]?=some v->ps[j]?=some x->cV e v x:=by
 obtain⟨us,u,D,K⟩:=KX h;refine⟨us,by have:=D.1;simpa using this,λ j v hj=>by rw[qq];exact u j v hj,K,λ j v x hv T=>?_⟩;have:=D.2 j v (.p x) hv (by rw[List.getElem?_map,T];rfl);cases this with
 |p h=>exact h
theorem Jk{e:ay}{k bP n:Nat}{g:Nat}{ak:Gr}{ps:List Pl}{us:List Value}{cur:Array Value}(J:e.w.heap[k]?=some (.cells cur ak.el (0,0)))(de:e.cl k=some (ak.len*ak.sz))(gp:e.gr k=some g)(fh:e.gi g=some ak)(hn:n=ak.len)(cM:ps.length=n*ak.sz)(Hi:n<=bP)(hm:bP<=maxLen)(cr:cur.size=bP*ak.sz)
 (M:us.length=ps.length)(qF:∀(j:Nat) v,us[j]?=some v->cur[j]?=some v)(wy:∀v∈us,v.oneCell'=true)(hr:∀(j:Nat) v x,us[j]?=some v->ps[j]?=some x->cV e v x):bt e (.slice (some ⟨k,0,none⟩) n bP) (.aU g n ps):=by
 refine .aU (Ah Hi hm (λ h=>by cases h) (λ h=>by cases h) (.inr ⟨k,0,rfl,λ j=>us.getD j undef,λ j x T=>?_⟩)) ⟨ak,_,bP,fh,rfl,by omega,cM,.inr ⟨k,rfl,gp,cur,J,cr⟩⟩;have hj:j<us.length:=by rw[M];exact(List.getElem?_eq_some_iff.1 T).1
 have hu:us[j]?=some us[j]:=List.getElem?_eq_getElem hj;have oy:us.getD j undef=us[j]:=by simp[hj]
 show e.mv k (0+j)/\e.w.cell? ⟨k,0+j,none⟩=some (us.getD j undef)/\lc (us.getD j undef)=true/\cV e (us.getD j undef) x;rw[oy];refine⟨λ m l5=>?_,?_,wy _ (List.getElem_mem hj),hr j _ x hu T⟩
 ·rw[de] at l5;cases l5;rw[<-hn,<-cM];omega
 ·rw[Nat.zero_add,cell_of_row e.w k j cur ak.el (0,0) J];exact qF j _ hu
def St.app(I:St)(g:Nat)(ak:Gr)(dst:Option Nat)(ps:List Pl):St:=(I.CD g ak).put dst (.aU g ak.len ps)
theorem F8(hT:cR P ah){e:ay}(aR:gx Γ e){t ty:TypeId}{g n m el z1 z2:Nat}{z3:Value}{ps qs:List Pl}{i:TI}{vx vy:Value}(ht:ah t=some ⟨.slice el,z1,z2,z3⟩)(dR:ah el=some i)(gI:i.zero.cells.size=i.sz)(nT:0<i.sz)
 (bV:bt e vx (.aU g n ps))(fh:e.gi g=some ⟨el,i.sz,n⟩)(eR:cV e vy (.sl false m qs))(dT:qs.length=m*i.sz)
 (fM:n+m<=maxLen)(fU:(n+m)*i.bytes<=140737488355328):∃v aH k,(Builtin.append_ #[t,t] ty #[vx,vy]).run P e.w=.ok v aH/\n9 e aH g ⟨el,i.sz,n+m⟩ k/\bt (e.more aH g ⟨el,i.sz,n+m⟩ k) v (.aU g (n+m) (ps++qs)):=by
 obtain⟨d0,dI,J⟩:=hT.desc t _ ht;cases d0<;>simp only[jg,reduceCtorEq,TK.slice.injEq] at J
 rw[J] at dI;obtain⟨fN,lY,bT,rO,hz⟩:=hT.info _ i dR;cases bV with
 |aU cZ Eg=>
 obtain⟨ar,bP,rfl,rZ,jp,hA0,_,hA⟩:=pu cZ;obtain⟨G0,A0,Zu,Lo,wM,Z3,qQ,H4⟩:=Eg;cases wM;rw[fh] at Lo;cases Lo;simp only at qQ;obtain⟨aF,kN,rfl,MK,MM,Lz,_,hY⟩:=pu eR
 by_cases kW:m=0
 ·subst kW;have BN:qs=[]:=List.eq_nil_of_length_eq_zero (by simpa using dT);subst BN;have Tg:(Builtin.firstCells fN.size 0 (.slice aF 0 kN)).run P e.w=.ok #[] e.w:=by
   cases aF<;>simp[Builtin.firstCells,loadCells,loadCellsFrom]
  have cG:(Builtin.append_ #[t,t] ty #[.slice ar n bP,.slice aF 0 kN]).run P e.w=.ok (.slice ar n bP) e.w:=by cases ar<;>simp[Builtin.append_,run_underlying dI,sizeOf,typeInfo,lY,Builtin.lenOf,rZ,Tg,storeCells]
  have oC:n9 e e.w g ⟨el,i.sz,n+0⟩ none:=⟨rfl,rfl,rfl,Nat.le_refl _,λ _ _ _=>rfl,λ j cur _ h=>⟨cur,h,rfl,λ _ _=>rfl⟩,λ j h=>by cases h⟩;refine⟨_,_,none,cG,oC,?_⟩;have:=(bt.aU cZ ⟨_,_,_,fh,rfl,Nat.le_refl _,qQ,H4⟩).next (oC.ends aR fh rfl rfl (by simp))
  simpa using this
 have BP:qs≠[]:=λ V=>by
  rw[V] at dT;rcases Nat.mul_eq_zero.1 dT.symm with bN|bN
  ·exact kW bN
  ·omega
 rcases hY with hY|⟨yb,yo,rfl,Be⟩
 ·exact absurd hY BP
 obtain⟨us,qV,pk,kZ,tf⟩:=AM Be;have oF:us.length=m*fN.size:=by rw[qV,dT,bT]
 by_cases oE:n+m<=bP
 ·
  rcases H4 with H4|⟨k,Ss,iA,cur,qF,cr⟩
  ·omega
  ·cases Ss;simp only at qF cr;obtain⟨G1,ZA,u,D,K,h4,h5⟩:=aR.gr k g iA;rw[fh] at u;cases u;have Bp:n*fN.size+us.length<=cur.size:=by rw[oF,cr,bT,<-Nat.add_mul];exact Nat.mul_le_mul_right _ oE
   have cG:=run_append_room (P:=P) e.w t ty el fN dI lY k n bP cur qF ⟨yb,yo,none⟩ m kN us oF pk kZ oE Bp;have nj:(cur.toList.take (n*fN.size)++us++cur.toList.drop (n*fN.size+us.length)).toArray.size=cur.size:=by simp only[List.size_toArray,List.length_append,List.length_take,List.length_drop,Array.length_toList];omega
   have oC:n9 e (e.w.setRow k (cur.toList.take (n*fN.size)++us++cur.toList.drop (n*fN.size+us.length)).toArray) g ⟨el,i.sz,n+m⟩ none:=by
    refine⟨rfl,rfl,rfl,by simp,λ j hj sU=>setRow_other _ _ _ _ (λ V=>sU (by rw[V];exact iA)),λ j c0 sU hj=>?_,λ j h=>by cases h⟩
    by_cases lB:j=k
    ·subst lB;simp only at hj;rw[qF] at hj;cases hj;refine⟨_,setRow_heap _ _ cur _ _ _ qF,nj,λ q hq=>?_⟩;have BO:=hq _ h4;simp only at BO;rw[bT];rw[List.getElem?_toArray,List.append_assoc,List.getElem?_append_left (by simp;rw[cr];have:=Nat.mul_le_mul_right i.sz rZ;omega),List.getElem?_take,if_pos BO];simp
    ·exact⟨c0,by rw[setRow_other _ _ _ _ lB];exact hj,rfl,λ _ _=>rfl⟩
   refine⟨_,_,none,cG,oC,?_⟩;have A:=oC.ends aR fh rfl rfl (by simp);rcases hA with hA|⟨bj,o',gy,GY⟩
   ·have iP:n=0:=by
     rw[hA] at qQ;simp only[List.length_nil] at qQ;rcases Nat.mul_eq_zero.1 qQ.symm with bN|bN
     ·exact bN
     ·exact absurd bN (Nat.pos_iff_ne_zero.1 nT)
    subst hA;refine Jk (ak:=⟨el,i.sz,n+m⟩) (us:=us) (cur:=(cur.toList.take (n*fN.size)++us++cur.toList.drop (n*fN.size+us.length)).toArray) (setRow_heap _ _ cur _ _ _ qF) (by simp[ay.more,iA]) (by simp[ay.more,iA]) (by simp[ay.more]) rfl (by simp[dT,iP]) oE jp (by rw[nj];exact cr) (by simpa using qV) (λ j v hj=>?_) kZ (λ j v y u D=>(tf j v y u (by simpa using D)).next A);have nh:=(List.getElem?_eq_some_iff.1 hj).1;rw[List.getElem?_toArray,iP,List.append_assoc,List.getElem?_append_right (by simp)];simp only[Nat.zero_mul,List.take_zero,List.length_nil,Nat.sub_zero];rw[List.getElem?_append_left nh];exact hj
   ·cases gy;obtain⟨os,iQ,wv,wu,s0⟩:=AM GY;have D4:os.length=n*i.sz:=by rw[iQ,qQ]
    have mP:∀(j:Nat) v,os[j]?=some v->cur[j]?=some v:=λ j v hj=>by
     have:=wv j v hj;rw[qq,Nat.zero_add,cell_of_row e.w k j cur el (0,0) qF] at this;exact this
    refine Jk (ak:=⟨el,i.sz,n+m⟩) (us:=os++us) (cur:=(cur.toList.take (n*fN.size)++us++cur.toList.drop (n*fN.size+us.length)).toArray) (setRow_heap _ _ cur _ _ _ qF) (by simp[ay.more,iA]) (by simp[ay.more,iA]) (by simp[ay.more]) rfl (by simp[dT,qQ,Nat.add_mul]) oE jp (by rw[nj];exact cr) (by simp[qV,iQ]) (λ j v hj=>?_) (λ v hv=>by rcases List.mem_append.1 hv with bN|bN;exact wu v bN;exact kZ v bN) (λ j v y u D=>?_)
    ·rw[List.getElem?_toArray,List.append_assoc];have de:(cur.toList.take (n*fN.size)).length=n*i.sz:=by
      rw[List.length_take,bT,Array.length_toList,cr];have:=Nat.mul_le_mul_right i.sz rZ;omega
     rcases Nat.lt_or_ge j os.length with fj|fj
     ·rw[List.getElem?_append_left fj] at hj;rw[List.getElem?_append_left (by rw[de,<-D4];exact fj),List.getElem?_take,if_pos (by rw[bT,<-D4];exact fj)]
      simpa using mP j v hj
     ·rw[List.getElem?_append_right fj] at hj;rw[List.getElem?_append_right (by rw[de,<-D4];exact fj),de,<-D4,List.getElem?_append_left (List.getElem?_eq_some_iff.1 hj).1];exact hj
    ·rcases Nat.lt_or_ge j os.length with fj|fj
     ·rw[List.getElem?_append_left fj] at u;rw[List.getElem?_append_left (by rw[<-iQ];exact fj)] at D;exact(s0 j v y u D).next A
     ·rw[List.getElem?_append_right fj] at u;rw[List.getElem?_append_right (by rw[<-iQ];exact fj),<-iQ] at D;exact(tf _ v y u D).next A
 ·
  have rS:∀(os:List Value)(eh:Nat),os.length=ps.length->(∀v∈os,v.oneCell'=true)->(∀(j:Nat) v x,os[j]?=some v->ps[j]?=some x->cV e v x)->eh<n+m->
   (Builtin.append_ #[t,t] ty #[.slice ar n bP,.slice (some ⟨yb,yo,none⟩) m kN]).run P e.w=.ok (.slice (some ⟨e.w.heap.size,0,none⟩) (n+m) (grownCap e.w (n+m) eh el)) (e.w.drew.alloc (.cells (os.toArray++us.toArray++Builtin.zeroCells i.zero.cells (grownCap e.w (n+m) eh el-(n+m))) el))->
   ∃v aH k,(Builtin.append_ #[t,t] ty #[.slice ar n bP,.slice (some ⟨yb,yo,none⟩) m kN]).run P e.w=.ok v aH/\n9 e aH g ⟨el,i.sz,n+m⟩ k/\bt (e.more aH g ⟨el,i.sz,n+m⟩ k) v (.aU g (n+m) (ps++qs)):=by
   intro os eh iQ wu s0 nP cG;have gH:=grownCap_ge e.w (n+m) eh el;have nK:=grownCap_le_maxLen e.w (n+m) eh el fM;have oC:n9 e (e.w.drew.alloc (.cells (os.toArray++us.toArray++Builtin.zeroCells i.zero.cells (grownCap e.w (n+m) eh el-(n+m))) el)) g ⟨el,i.sz,n+m⟩ (some e.w.heap.size):=
    ⟨rfl,rfl,rfl,by simp,λ j hj _=>Below.heap_alloc e.w.drew _ j hj,λ j c0 sU hj=>⟨c0,by rw[Below.heap_alloc e.w.drew _ j (qG hj)];exact hj,rfl,λ _ _=>rfl⟩,λ j hj=>by cases hj;exact⟨Nat.le_refl _,by simp,_,heap_alloc_new e.w.drew _⟩⟩
   have A:=oC.ends aR fh rfl rfl (by simp);refine⟨_,_,_,cG,oC,Jk (ak:=⟨el,i.sz,n+m⟩) (us:=os++us) (heap_alloc_new e.w.drew _) (by simp[ay.more]) (by simp[ay.more]) (by simp[ay.more]) rfl (by simp[dT,qQ,Nat.add_mul]) gH nK ?_ (by simp[qV,iQ]) (λ j v hj=>?_) (λ v hv=>by rcases List.mem_append.1 hv with bN|bN;exact wu v bN;exact kZ v bN) (λ j v y u D=>?_)⟩
   ·simp only[Array.size_append,List.size_toArray,size_zeroCells,gI,iQ,qV,qQ,dT,<-Nat.add_mul]
    congr 1
    omega
   ·have nh:=(List.getElem?_eq_some_iff.1 hj).1;rw[show os.toArray++us.toArray=(os++us).toArray by simp,Array.getElem?_append_left (by simpa using nh),List.getElem?_toArray];exact hj
   ·rcases Nat.lt_or_ge j os.length with fj|fj
    ·rw[List.getElem?_append_left fj] at u;rw[List.getElem?_append_left (by rw[<-iQ];exact fj)] at D;exact(s0 j v y u D).next A
    ·rw[List.getElem?_append_right fj] at u;rw[List.getElem?_append_right (by rw[<-iQ];exact fj),<-iQ] at D;exact(tf _ v y u D).next A
  rcases ar with _|ad
  ·have ho:=hA0 rfl;have iP:n=0:=by omega
   subst iP;subst ho;have cM:ps=[]:=List.eq_nil_of_length_eq_zero (by simpa using qQ);have cG:=run_append_nil (P:=P) e.w t ty el fN i.zero dI lY hz ⟨yb,yo,none⟩ m kN us oF pk (by omega) (by simp only[maxLen] at fM;omega) (by rw[rO];simp only[Nat.zero_add] at fU;omega);refine rS [] 0 (by simp[cM]) (λ v hv=>(by cases hv)) (λ j v x hj=>(by simp at hj)) (by omega) ?_
   simpa using cG
  ·have nP:∃os:List Value,os.length=ps.length/\(∀(j:Nat) v,os[j]?=some v->e.w.cell? (ad.add j)=some v)/\(∀v∈os,v.oneCell'=true)/\∀(j:Nat) v x,os[j]?=some v->ps[j]?=some x->cV e v x:=by
    rcases hA with rfl|⟨bj,o',gy,GY⟩
    ·exact⟨[],rfl,(λ j v h=>by simp at h),(λ v h=>by cases h),(λ j v x h=>by simp at h)⟩
    ·cases gy;exact AM GY
   obtain⟨os,iQ,wv,wu,s0⟩:=nP;have cG:=run_append_grow (P:=P) e.w t ty el fN i.zero dI lY hz ad n bP os (by rw[iQ,qQ,bT]) wv ⟨yb,yo,none⟩ m kN us oF pk (by omega) (by simp only[maxLen] at fM;omega) (growslice_fits (by omega) (by rw[rO];exact fU));exact rS os bP iQ wu s0 (by omega) cG
theorem QS(hT:cR P ah){t:TypeId}{x y:Operand}{g n m el z1 z2:Nat}{z3:Value}{ps qs:List Pl}{dy:F}{i:TI}(X:o.op=.call {callee:=.builtin .append,args:=#[x,y],argTypes:=#[t,t]})(ht:ah t=some ⟨.slice el,z1,z2,z3⟩)(dR:ah el=some i)(gI:i.zero.cells.size=i.sz)(nT:0<i.sz)
 (G:t6 Γ.n o.dst=true)(T:ev (Y I.s) x=some (.aU g n ps))(hg:Y I.g g=some ⟨el,i.sz,n⟩)(hy:ev (Y I.s) y=some dy)(kF:mj dy=some (m,qs))(dT:qs.length=m*i.sz)
 (fM:n+m<=maxLen)(fU:(n+m)*i.bytes<=140737488355328):xM P Γ o I (I.app g ⟨el,i.sz,n+m⟩ o.dst (ps++qs)):=by
 intro a e L;have hs:=L.h1 (I:=I) o.op.operands;have bV:=hs.1 x (by rw[X];simp[Op.operands,Call.operands]) _ T;have eR:=u7 (hs.1 y (by rw[X];simp[Op.operands,Call.operands]) _ hy) kF;have fh:e.gi g=some ⟨el,i.sz,n⟩:=by rw[L.gs];exact hg
 obtain⟨v,aH,k,cG,oC,nR⟩:=F8 hT L.env (ty:=o.type) ht dR gI nT bV fh eR dT fM fU;unfold Oper.wp;have e1:(execOp a.eval o).run P e.w=.ok (.value v) aH:=by obtain⟨dst,op,type,pos,after,guard⟩:=o;simp only at X;subst X;simp only[execOp,resolve,invoke,builtin,Sem.run_bind,Sem.run_pure,Result.andThen_ok,List.map_toArray,List.map_cons,List.map_nil,cG]
 rw[e1];exact⟨e.more aH g ⟨el,i.sz,n+m⟩ k,rfl,(L.more oC hg rfl rfl (by simp)).put G nR⟩
end
end Go.Proofs.YtcnefjfboagbmaaGreat
end
section
namespace Go.Proofs.YtcnefjfboagbmaaGreat
open Go.RowKit
section
variable{P:Program}{ah:Nat->Option TI}{Γ:bE}{I bS bn:St}{o:Oper}
def bF(Γ:bE)(I bS:St):Prop:=∀(a:Act)(e:ay),bw Γ I e a->∃V,V.w=e.w/\bw Γ bS V a
theorem bF.trans{P8:St}(h:bF Γ I bn)(k:bF Γ bn P8):bF Γ I P8:=λ a e L=>by
 obtain⟨e1,u,D⟩:=h a e L;obtain⟨e2,K,h4⟩:=k a e1 D;exact⟨e2,K.trans u,h4⟩
theorem gO(t g el sz:Nat){n:Nat}{ps:List Pl}(ht:Y I.s t=some (.p (.sl true n ps)))(hg:Y I.g g=none)(M:ps.length=n*sz):bF Γ I ⟨(t,.aU g n ps)::I.s,I.b,(g,⟨el,sz,n⟩)::I.g⟩:=by
 intro a e L;have fh:e.gi g=none:=by rw[L.gs];exact hg
 have pd:∀k,e.gr k≠some g:=λ k J=>by obtain⟨ak,_,h,_⟩:=L.env.gr k g J;rw[fh] at h;cases h
 have A:Ends e {e with gi:=λ h=>if h=g then some ⟨el,sz,n⟩ else e.gi h}:=
  ⟨λ _ _ _ u D=>⟨u,D⟩,λ _ _ h=>h,λ d9 ak h=>⟨ak,by show(if d9=g then _ else e.gi d9)=_;rw[if_neg (λ V=>by rw[V,fh] at h;cases h)];exact h,rfl,rfl,Nat.le_refl _⟩,λ _ _ _ cur u _ K=>⟨u,cur,K,rfl⟩⟩
 refine⟨{e with gi:=λ h=>if h=g then some ⟨el,sz,n⟩ else e.gi h},rfl,L.size,L.df,λ aa d hu=>?_,λ b cs R=>(L.boxes b cs R).ends A rfl,L.dX,λ h=>?_,L.env.kept,L.env.cl,L.env.bx,L.env.inj,λ k d9 J=>?_,L.env.kb⟩
 ·simp only[cL] at hu;split at hu
  ·rename_i kG;subst kG;cases hu;have u:=L.bm _ _ ht;generalize fK a t=v at u;cases u with
   |p u=>have D:=(u.next A).low;obtain⟨ar,bP,rfl,K,h4,h5,h6,h7⟩:=pu u;exact .aU D ⟨⟨el,sz,n⟩,ar,bP,by simp,rfl,Nat.le_refl _,M,.inl (h6 rfl)⟩
  ·exact(L.bm aa d hu).next A
 ·show(if h=g then _ else e.gi h)=_;simp only[cL]
  by_cases e1:h=g
  ·subst e1;simp
  ·rw[if_neg e1,if_neg (λ V=>e1 V.symm)];exact L.gs h
 ·obtain⟨ak,cur,u,D⟩:=L.env.gr k d9 J;exact⟨ak,cur,by show(if d9=g then _ else e.gi d9)=_;rw[if_neg (λ V=>pd k (by rw[<-V];exact J))];exact u,D⟩
def F.ok(B ak:Nat->Bool):F->Bool
 |.agg ds=>ec ds
 |.bc ds=>ec ds
 |.ptr b _=>B b
 |.arr b _ _ _=>B b
 |.aU g _ _=>ak g
 |.fn _ x y=>ec x&&ec y
 |_=>true
where ec:List F->Bool
 |[]=>true
 |d::ds=>d.ok B ak&&ec ds
theorem pp{B ak:Nat->Bool}:∀{ds:List F}(_:F.ok.ec B ak ds=true){i:Nat}{d:F},ds[i]?=some d->d.ok B ak=true
 |[],_,i,d,Z=>by simp at Z
 |d0::ds,h,i,d,Z=>by
  simp only[F.ok.ec,Bool.and_eq_true] at h;cases i with
  |zero=>simp only[List.getElem?_cons_zero,Option.some.injEq] at Z;subst Z;exact h.1
  |succ i=>exact pp h.2 (by simpa using Z)
def ay.cut(e:ay)(B ak:Nat->Bool):ay:=
 {e with bx:=λ b=>if B b=true then e.bx b else none,gr:=λ k=>match e.gr k with|some g=>if ak g=true then some g else none|none=>none,gi:=λ g=>if ak g=true then e.gi g else none}
theorem cV.cut{e:ay}{B ak:Nat->Bool}{v:Value}{x:Pl}(h:cV e v x):cV (e.cut B ak) v x:=cV.env (e:=e) (V:=e.cut B ak) rfl rfl h
theorem bt.cut{e:ay}{B ak:Nat->Bool}{v:Value}{d:F}(h:bt e v d):d.ok B ak=true->bt (e.cut B ak) v d:=by
 induction h with
 |p h=>intro _;exact .p h.cut
 |agg M _ ih=>intro J;exact .agg M (λ i v d u D=>ih i v d u D (pp J D))
 |bc M _ ih=>intro J;exact .bc M (λ i v d u D=>ih i v d u D (pp J D))
 |ptr h=>intro J;simp only[F.ok] at J;exact .ptr (by simp only[ay.cut,if_pos J];exact h)
 |el h=>intro _;obtain⟨f,hf⟩:=h;exact .el ⟨f,λ i x T=>by obtain⟨u,D,K,h4⟩:=hf i x T;exact⟨u,D,K,h4.cut⟩⟩
 |aU h ht=>intro J;simp only[F.ok] at J;refine .aU h.cut ?_;obtain⟨G0,ar,bP,u,D,K,h4,h5⟩:=ht;refine⟨G0,ar,bP,by simp only[ay.cut,if_pos J];exact u,D,K,h4,h5.imp id ?_⟩;rintro⟨k,h6,h7,h8⟩;refine⟨k,h6,?_,h8⟩;show(match e.gr k with|some g=>if ak g=true then some g else none|none=>none)=_;rw[h7];simp[J]
 |arr h=>intro J;simp only[F.ok] at J;exact .arr (by simp only[ay.cut,if_pos J];exact h)
 |fn M dz _ _ ih BW=>intro J;simp only[F.ok,Bool.and_eq_true] at J;exact .fn M dz (λ i v d u D=>ih i v d u D (pp J.1 D)) (λ i v d u D=>BW i v d u D (pp J.2 D))
 |any=>intro _;exact .any
def aC{aq:Type}(l:List (Nat×aq))(n:Nat):Bool:=(Y l n).isSome
def vB(I bn:St):List (Nat×F)->Prop
 |[]=>True
 |p::l=>(Y I.s p.1=some p.2/\p.2.ok (aC bn.b) (aC bn.g)=true)/\vB I bn l
def vw(I bn:St):List (Nat×List F)->Prop
 |[]=>True
 |p::l=>(Y I.b p.1=some p.2/\F.ok.ec (aC bn.b) (aC bn.g) p.2=true)/\vw I bn l
def vz(I:St):List (Nat×Gr)->Prop
 |[]=>True
 |p::l=>Y I.g p.1=some p.2/\vz I l
theorem vB.get{I bn:St}:∀{l:List (Nat×F)}(_:vB I bn l){t:Nat}{d:F},Y l t=some d->Y I.s t=some d/\d.ok (aC bn.b) (aC bn.g)=true
 |[],_,t,d,h=>by cases h
 |(k,v)::l,hs,t,d,h=>by
  rw[cL] at h;split at h
  ·rename_i J;subst J;cases h;exact hs.1
  ·exact hs.2.get h
theorem vw.get{I bn:St}:∀{l:List (Nat×List F)}(_:vw I bn l){t:Nat}{d:List F},Y l t=some d->Y I.b t=some d/\F.ok.ec (aC bn.b) (aC bn.g) d=true
 |[],_,t,d,h=>by cases h
 |(k,v)::l,hs,t,d,h=>by
  rw[cL] at h;split at h
  ·rename_i J;subst J;cases h;exact hs.1
  ·exact hs.2.get h
theorem vz.get{I:St}:∀{l:List (Nat×Gr)}(_:vz I l){t:Nat}{d:Gr},Y l t=some d->Y I.g t=some d
 |[],_,t,d,h=>by cases h
 |(k,v)::l,hs,t,d,h=>by
  rw[cL] at h;split at h
  ·rename_i J;subst J;cases h;exact hs.1
  ·exact hs.2.get h
def vA(bn:St):List (Nat×Nat)->Prop
 |[]=>True
 |p::l=>aC bn.b p.1=true/\vA bn l
theorem vA.get{bn:St}:∀{l:List (Nat×Nat)}(_:vA bn l){b k:Nat},Y l b=some k->aC bn.b b=true
 |[],_,b,k,h=>by cases h
 |(x,y)::l,hs,b,k,h=>by
  rw[cL] at h;split at h
  ·rename_i J;subst J;exact hs.1
  ·exact hs.2.get h
theorem dO(hs:vB I bn bn.s)(R:vw I bn bn.b)(hg:vz I bn.g)(dv:vA bn Γ.kb):bF Γ I bn:=by
 intro a e L;have fh:∀g,aC bn.g g=true->∃ak,e.gi g=some ak/\Y bn.g g=some ak:=λ g h=>by
  unfold aC at h;obtain⟨ak,hG⟩:=Option.isSome_iff_exists.1 h;exact⟨ak,by rw[L.gs];exact hg.get hG,hG⟩
 refine⟨e.cut (aC bn.b) (aC bn.g),rfl,L.size,L.df,λ t d ht=>(L.bm t d (hs.get ht).1).cut (hs.get ht).2,λ b cs cr=>?_,λ b iw=>?_,λ g=>?_,L.env.kept,L.env.cl,λ b k J=>?_,λ b c k u D=>?_,λ k g J=>?_,λ b k J=>?_⟩
 ·obtain⟨k,vs,el,u,D,K⟩:=L.boxes b cs (R.get cr).1;refine⟨k,vs,el,?_,D,K.1,λ i v d hv G=>(K.2 i v d hv G).cut (pp (R.get cr).2 G)⟩;show(if aC bn.b b=true then e.bx b else none)=_;rw[if_pos (by simp[aC,cr])];exact u
 ·show(if aC bn.b b=true then e.bx b else none)=_;rw[if_neg (by simp[aC,iw])]
 ·show(if aC bn.g g=true then e.gi g else none)=_;cases M:Y bn.g g with
  |none=>rw[if_neg (by simp[aC,M])]
  |some ak=>rw[if_pos (by simp[aC,M]),L.gs];exact hg.get M
 ·have dk:(if aC bn.b b=true then e.bx b else none)=some k:=J;split at dk
  ·obtain⟨u,D,K,h4⟩:=L.env.bx b k dk;refine⟨u,D,K,?_⟩;show(match e.gr k with|some g=>if aC bn.g g=true then some g else none|none=>none)=none;rw[h4]
  ·cases dk
 ·have aN:(if aC bn.b b=true then e.bx b else none)=some k:=u;have bd:(if aC bn.b c=true then e.bx c else none)=some k:=D;split at aN
  ·split at bd
   ·exact L.env.inj b c k aN bd
   ·cases bd
  ·cases aN
 ·have dk:(match e.gr k with|some g=>if aC bn.g g=true then some g else none|none=>none)=some g:=J;rcases iA:e.gr k with _|g0
  ·rw[iA] at dk;cases dk
  ·rw[iA] at dk;simp only at dk;split at dk
   ·rename_i eP;cases dk;obtain⟨ak,cur,u,D⟩:=L.env.gr k g iA;exact⟨ak,cur,by show(if aC bn.g g=true then e.gi g else none)=_;rw[if_pos eP];exact u,D⟩
   ·cases dk
 ·show(if aC bn.b b=true then e.bx b else none)=_;rw[if_pos (dv.get J)];exact L.env.kb b k J
theorem oh{l0 l:List Oper}{Q:Exit->St->Prop}(h:bF Γ I bS)(k:bp P Γ l0 Q l bS):bp P Γ l0 Q l I:=⟨λ a e L=>by
 obtain⟨V,u,D⟩:=h a e L;rw[<-u];exact k.run a V D⟩
structure aJ(P:Program)(Γ:bE)(c:Code)(Q:Exit->St->Prop)(I:St):Prop where
 run:∀(a:Act)(e:ay),bw Γ I e a->c.wp P (iZ Γ Q) a e.w
variable{Q:Exit->St->Prop}{c x y:Code}
theorem da(h:bF Γ I bS)(k:aJ P Γ c Q bS):aJ P Γ c Q I:=⟨λ a e L=>by
 obtain⟨V,u,D⟩:=h a e L;rw[<-u];exact k.run a V D⟩
theorem tS{iH:Exit->St->Prop}(h:aJ P Γ c Q I)(hq:∀ex bS,Q ex bS->iH ex bS):aJ P Γ c iH I:=⟨λ a e L=>Code.wp_mono (λ ex bu aH hh=>by obtain⟨bS,V,u,D,K⟩:=hh;exact⟨bS,V,u,D,hq _ _ K⟩) (h.run a e L)⟩
def ql(bC:St->Prop)(Q:Exit->St->Prop):Exit->St->Prop
 |.normal,I=>bC I
 |ex,I=>Q ex I
theorem oQ(h:aJ P Γ x (ql (aJ P Γ y Q) Q) I):aJ P Γ (.seq x y) Q I:=⟨λ a e L=>by
 refine wp_seq (Code.wp_mono (λ ex bu aH hh=>?_) (h.run a e L));obtain⟨bS,V,rfl,D,K⟩:=hh;cases ex with
 |normal=>exact K.run bu V D
 |_=>exact⟨bS,V,rfl,D,K⟩⟩
theorem C5(h:Q .normal I):aJ P Γ .skip Q I:=⟨λ _ e L=>wp_skip ⟨I,e,rfl,L,h⟩⟩
theorem Q5(h:Q .ret I):aJ P Γ .ret Q I:=⟨λ _ e L=>wp_ret ⟨I,e,rfl,L,h⟩⟩
theorem QZ{id:Nat}(h:Q (.exit id) I):aJ P Γ (.exit id) Q I:=⟨λ _ e L=>wp_exit ⟨I,e,rfl,L,h⟩⟩
def oR(id:Nat)(Q:Exit->St->Prop):Exit->St->Prop
 |.exit nk,I=>if nk=id then Q .normal I else Q (.exit nk) I
 |ex,I=>Q ex I
theorem QW{id:Nat}(h:aJ P Γ c (oR id Q) I):aJ P Γ (.block id c) Q I:=⟨λ a e L=>by
 refine wp_block (Code.wp_mono (λ ex bu aH hh=>?_) (h.run a e L));obtain⟨bS,V,rfl,D,K⟩:=hh;cases ex with
 |exit nk=>
  simp only[oR] at K;simp only[Exit.inBlock];split
  ·rename_i rU;rw[if_pos rU] at K;exact⟨bS,V,rfl,D,K⟩
  ·rename_i rU;rw[if_neg rU] at K;exact⟨bS,V,rfl,D,K⟩
 |_=>exact⟨bS,V,rfl,D,K⟩⟩
theorem KY{e:ay}{a:Act}(L:bw Γ I e a){aT:Operand}{v:Value}(h:ev (Y I.s) aT=some (.p (.raw v))):a.eval aT=v:=cE ((L.h1 #[aT]).1 aT (by simp) _ h)
theorem QX{aT:Operand}{t:Bool}(hz:ev (Y I.s) aT=some (.p (.raw (.bool t))))(ht:t=true->aJ P Γ x Q I)(hf:t=false->aJ P Γ y Q I):aJ P Γ (.cond aT x y) Q I:=⟨λ a e L=>wp_cond_split (KY L hz) (λ h=>(ht h).run a e L) (λ h=>(hf h).run a e L)⟩
theorem tT{id:Nat}{l:List Oper}(h:bp P Γ l Q l I):aJ P Γ (.region id l.toArray false) Q I:=⟨λ a e L=>wp_region_lit (h.run a e L)⟩
theorem Q2{dE:Type}(iX:dE->St)(lM:dE->Nat)(i0:dE)(h0:bF Γ I (iX i0))(Cz:∀i,aJ P Γ c (ql (λ bS=>∃j,lM j<lM i/\bF Γ bS (iX j)) Q) (iX i)):aJ P Γ (.loop c) Q I:=by
 refine⟨λ a e L=>?_⟩;obtain⟨e0,u,D⟩:=h0 a e L;rw[<-u];have key:∀n i,lM i<n->∀a e,bw Γ (iX i) e a->Code.rounds P c (iZ Γ Q) n a e.w:=by
  intro n;induction n with
  |zero=>intro i Z;omega
  |succ n ih=>
   intro i Z a e L;rw[rounds_succ];refine Code.wp_mono (λ ex bu aH hh=>?_) ((Cz i).run a e L);obtain⟨bS,V,rfl,D,K⟩:=hh;cases ex with
   |normal=>obtain⟨j,hj,hg⟩:=K;obtain⟨e2,h4,h5⟩:=hg bu V D;show Code.rounds P c (iZ Γ Q) n bu V.w;rw[<-h4];exact ih j (by omega) bu e2 h5
   |_=>exact⟨bS,V,rfl,D,K⟩
 exact wp_loop_rounds (lM i0+1) (key _ i0 (by omega) a e0 D)
def Jd(ah:Nat->Option TI)(I:St):ResultVar->Option F
 |.tmp t=>Y I.s t
 |.cell t ty=>match ah ty,Y I.s t with
  |some i,some (.ptr b o)=>match Y I.b b with
   |some cs=>j2 o cs (wT i)
   |none=>none
  |_,_=>none
def Cu{aq:Type}(ah:Nat->Option TI)(I:St):List ResultVar->(List F->Option aq)->Option aq
 |[],k=>k []
 |r::l,k=>match Jd ah I r with
  |some d=>Cu ah I l λ ds=>k (d::ds)
  |none=>none
def zY(ah:Nat->Option TI)(I:St)(l:List ResultVar):Option F:=Cu ah I l λ
 |[d]=>d.qY some
 |ds=>(F.bc ds).qY some
def sG(ds:List F):List (Nat×F):=go 0 ds
where go:Nat->List F->List (Nat×F)
 |_,[]=>[]
 |n,d::ds=>(n,d)::go (n+1) ds
theorem AZ:∀(ds:List F)(n t:Nat)(d:F),Y (sG.go n ds) t=some d->n<=t/\ds[t-n]?=some d
 |[],n,t,d,h=>by cases h
 |c::ds,n,t,d,h=>by
  simp only[sG.go,cL] at h;split at h
  ·rename_i hn;subst hn;cases h;simp
  ·rename_i hn;obtain⟨u,D⟩:=AZ ds (n+1) t d h;refine⟨by omega,?_⟩;rw[show t-n=(t-(n+1))+1 by omega]
   simpa using D
theorem Nx{P:Program}{w:World}{aq dP:Type}(f:aq->Sem dP)(g:aq->dP):∀(l:List aq),(∀x∈l,(f x).run P w=.ok (g x) w)->(l.mapM f).run P w=.ok (l.map g) w
 |[],_=>by simp
 |x::l,h=>by
  rw[List.mapM_cons];simp only[Sem.run_bind,h x (by simp),Result.andThen_ok,Nx f g l (λ y hy=>h y (by simp[hy])),Sem.run_pure,List.map_cons]
def Cv(tmps:Array Value):ResultVar->Sem Value
 |.tmp t=>pure (tmps.getD t undef)
 |.cell a t=>do loadVar t (<-asAddr (tmps.getD a undef))
theorem zZ(fn:Func)(tmps:Array Value):results fn tmps=(do let vs <-fn.results.mapM (Cv tmps);pure (if h:vs.size=1 then vs[0] else .tuple vs)):=rfl
theorem Yb(hT:cR P ah){e:ay}{a:Act}(L:bw Γ I e a){r:ResultVar}{d:F}(h:Jd ah I r=some d):
 ∃v,(Cv a.tmps r).run P e.w=.ok v e.w/\bt e v d:=by
 cases r with
 |tmp t=>exact⟨fK a t,rfl,L.bm t d h⟩
 |cell t ty=>
  simp only[Jd] at h;split at h
  ·rename_i i b o Z hp;split at h
   ·rename_i cs cr;obtain⟨k,vs,el,D,K,h4⟩:=L.boxes b cs cr;have u:=L.bm t _ hp;generalize dj:fK a t=vx at u;cases u with
    |ptr u=>
     rw[D] at u;cases u;obtain⟨v,hr,hv⟩:=Ir hT Z (k:=k) (o:=o) (us:=vs.drop o) (λ j v hj=>by
      rw[List.getElem?_drop] at hj;rw[cell_of_row e.w k (o+j) vs.toArray el (0,0) K]
      simpa using hj) (h4.drop o) (my h).2
     refine⟨v,?_,hv⟩;unfold fK at dj;simp only[Cv,dj]
     simpa[asAddr,Instr.loadAt,Instr.sureAddr] using hr
   ·cases h
  ·cases h
theorem Je{aq:Type}(hT:cR P ah){e:ay}{a:Act}(L:bw Γ I e a):∀(l:List ResultVar)(k:List F->Option aq)(r:aq),Cu ah I l k=some r->∃ds vs,(l.mapM (Cv a.tmps)).run P e.w=.ok vs e.w/\DReps e vs ds/\k ds=some r
 |[],k,r,h=>⟨[],[],by simp,DReps.nil e,h⟩
 |q::l,k,r,h=>by
  simp only[Cu] at h;split at h
  ·rename_i d u;obtain⟨v,hv,G⟩:=Yb hT L u;obtain⟨ds,vs,qW,mK,J⟩:=Je hT L l _ r h;refine⟨d::ds,v::vs,?_,DReps.cons G mK,J⟩;rw[List.mapM_cons];simp only[Sem.run_bind,hv,qW,Result.andThen_ok,Sem.run_pure]
  ·cases h
theorem Yc(hT:cR P ah){fn:Func}{e:ay}{a:Act}(L:bw Γ I e a){d:F}(h:zY ah I fn.results.toList=some d):∃v,(results fn a.tmps).run P e.w=.ok v e.w/\bt (gl e.w e.cl) v d:=by
 unfold zY at h;obtain⟨ds,vs,qW,mK,h⟩:=Je hT L _ _ d h;split at h
 ·rename_i d0;obtain⟨v,eV,rfl,hv,hn⟩:=mK.vh;have:eV=[]:=List.eq_nil_of_length_eq_zero hn.1;subst this;simp only[Ev,Option.bind_fun_some] at h;refine⟨v,?_,Ew hv d h⟩;rw[zZ,Array.mapM_eq_mapM_toList];simp only[bind_map_left,Sem.run_bind,qW,Result.andThen_ok,Sem.run_pure];simp
 ·rename_i cP;simp only[Ev,Option.bind_fun_some] at h;refine⟨.tuple vs.toArray,?_,Ew (.bc mK.1 mK.2) d h⟩;rw[zZ,Array.mapM_eq_mapM_toList];simp only[bind_map_left,Sem.run_bind,qW,Result.andThen_ok,Sem.run_pure];rw[dif_neg];intro hs;have M:ds.length=1:=by rw[<-mK.1];simpa using hs
  obtain⟨d1,rfl⟩:=List.length_eq_one_iff.1 M;exact cP d1 rfl
theorem Xo(hT:cR P ah){f:FuncId}{fn:Func}{c:Code}{ds:List F}{d:F}(hf:P.funcs[f]?=some fn)(R:fn.body=some c)(hn:ds.length<=fn.ntmps)
 (h:∀w cl,aJ P ⟨fn.ntmps,w,cl,λ _=>False,[],[]⟩ c (λ ex I=>(ex=.normal\/ex=.ret)/\zY ah I fn.results.toList=some d) ⟨sG ds,[],[]⟩):aW P f ds d:=by
 intro w cl vs hv;refine calls_of_wp hf R ?_;have M:vs.length=ds.length:=hv.1;have L:bw ⟨fn.ntmps,w,cl,λ _=>False,[],[]⟩ ⟨sG ds,[],[]⟩ (gl w cl) {tmps:=vs.toArray++Array.replicate (fn.ntmps-vs.toArray.size) undef,defers:=[]}:=by
  refine⟨by simp;omega,rfl,λ t d0 ht=>?_,λ b cs R=>(by cases R),λ b _=>rfl,λ g=>rfl,⟨mZ.refl _ _,λ _ _ _=>rfl,λ b k J=>(by cases J),λ b c k J=>(by cases J),λ k g J=>(by cases J),λ b k J=>(by cases J)⟩⟩;obtain⟨_,D⟩:=AZ ds 0 t d0 ht;simp only[Nat.sub_zero] at D;obtain⟨v,K,h4⟩:=hv.get D;have gq:t<vs.length:=(List.getElem?_eq_some_iff.1 K).1;have:fK {tmps:=vs.toArray++Array.replicate (fn.ntmps-vs.toArray.size) undef,defers:=[]} t=v:=by
   unfold fK;simp only[Array.getD_eq_getD_getElem?];rw[Array.getElem?_append_left (by simpa using gq),List.getElem?_toArray,K]
   rfl
  rw[this];exact h4
 refine Code.wp_mono (λ ex bu aH hh=>?_) ((h w cl).run _ (gl w cl) L);obtain⟨bS,V,rfl,D,K,h4⟩:=hh;obtain⟨v,hr,hv⟩:=Yc hT D h4;have Hf:Below w.heap.size w V.w:=⟨D.env.kept.os,D.env.kept.tape,D.env.kept.output,D.env.kept.size,λ k J=>D.env.kept.block k J (λ h=>h)⟩;have j5:bu.defers=[]/\∃v,(results fn bu.tmps).run P V.w=.ok v V.w/\∃jh bz,Ending.returned v=.returned jh/\Below w.heap.size w V.w/\(∀k,k<w.heap.size->bz k=cl k)/\bt (gl V.w bz) jh d:=
  ⟨D.df,v,hr,v,V.cl,rfl,Hf,λ k J=>D.env.cl k J (λ h=>h),hv⟩
 rcases K with rfl|rfl
 ·exact j5
 ·exact j5
end
end Go.Proofs.YtcnefjfboagbmaaGreat
end
section
namespace Go.Proofs.YtcnefjfboagbmaaGreat
open Go.RowKit
section
variable{P:Program}{Γ:bE}
structure FS(Γ:bE)(e V:ay)(b:Nat)(cs:List F):Prop where
 ends:Ends e V
 ok:gx Γ V
 bx:V.bx=e.bx
 gi:V.gi=e.gi
 at_:gu V b cs
 other:∀c ds,c≠b->gu e c ds->gu V c ds
def FP(P:Program)(o:Oper)(S:Nat->Option F)(nm:Nat)(cs aO:List F):Prop:=
 ∀(Γ:bE)(a:Act)(e:ay),gx Γ e->(∀x∈o.op.operands,∀d,ev S x=some d->bt e (a.eval x) d)->(e.bx nm≠none->gu e nm cs)->
  e.bx nm≠none/\o.wp P a e.w (λ bu aH=>bu=a.put o.dst undef/\∃V,V.w=aH/\FS Γ e V nm aO) (λ _ _ _=>False)
structure FE(Γ:bE)(e V:ay)(g:Nat)(ak:Gr)(v:Value)(d:F):Prop where
 ends:Ends e V
 ok:gx Γ V
 bx:V.bx=e.bx
 gi:∀h,V.gi h=if h=g then some ak else e.gi h
 other:∀c ds,gu e c ds->gu V c ds
 rep:bt V v d
def GStep(P:Program)(o:Oper)(S:Nat->Option F)(g:Nat)(G0:Option Gr)(ak:Gr)(d:F):Prop:=
 ∀(Γ:bE)(a:Act)(e:ay),gx Γ e->(∀x∈o.op.operands,∀d,ev S x=some d->bt e (a.eval x) d)->e.gi g=G0->
  o.wp P a e.w (λ bu aH=>∃v V,bu=a.put o.dst v/\V.w=aH/\FE Γ e V g ak v d) (λ _ _ _=>False)
def B5(o:Oper)(aP:List (Nat×Nat))(g:Nat):Bool:=match Y aP g with
 |none=>true
 |some t=>o.op.operands.toList.any λ|.tmp aa=>Nat.beq aa t|_=>false
def yk(l0:List Oper)(o:Oper):Bool:=match o.dst with
 |none=>false
 |some t=>l0.all λ p=>match p.dst with
  |some _=>true
  |none=>p.after.any λ e=>Region.binds .any e&&(match(l0[e.on]?).bind (·.dst) with|some aa=>Nat.beq aa t|none=>false)
def sw(o:Oper):Bool:=match o.op with
 |.call _=>true
 |_=>false
def BZ(l0:List Oper)(o:Oper)(ix:Nat):Bool:=(List.range ix).all λ k=>match l0[k]? with
 |some p=>p.dst.isSome||o.after.any λ e=>Region.binds .any e&&e.on==k
 |none=>true
theorem M7{l0:List Oper}{o p:Oper}{ix k:Nat}(h:BZ l0 o ix=true)(J:k<ix)(hp:l0[k]?=some p)(G:p.dst=none):∃e∈o.after,Region.binds .any e=true/\e.on=k:=by have u:=List.all_eq_true.1 h k (List.mem_range.2 J);simp only[hp,G,Option.isSome_none,Bool.false_or] at u;obtain⟨e,he,R⟩:=Array.any_eq_true'.1 u;simp only[Bool.and_eq_true,beq_iff_eq] at R;exact⟨e,he,R⟩
def b9(P:Program)(n:Nat)(l0:List Oper)(B B0:List (Nat×List F))(bC:St->Prop):Nat->List Nat->List (Nat×Nat)->List Oper->St->Prop
 |_,_,_,[],I=>bC I
 |ix,aI,aP,o::rest,I=>(∃d nb,gd l0 o (Y I.s)=some true/\(dm P o (Y I.s) (Y B) d nb\/(yk l0 o=true/\dm P o (Y I.s) (Y B0) d nb))/\(∀p,nb=some p->Y I.b p.1=none/\Y B p.1=none)/\b9 P n l0 B B0 bC (ix+1) aI aP rest ((I.box nb).put o.dst d))\/(gd l0 o (Y I.s)=some false/\b9 P n l0 B B0 bC (ix+1) aI aP rest (I.put o.dst (.p (.raw undef))))\/
  (∃nm cs aO,gd l0 o (Y I.s)=some true/\o.dst=none/\Y B nm=none/\(aI.contains nm=false\/BZ l0 o ix=true)/\Y I.b nm=some cs/\FP P o (Y I.s) nm cs aO/\b9 P n l0 B B0 bC (ix+1) (nm::aI) aP rest (I.box (some (nm,aO))))\/
  (∃g ak d t,gd l0 o (Y I.s)=some true/\o.dst=some t/\sw o=true/\B5 o aP g=true/\GStep P o (Y I.s) g (Y I.g g) ak d/\b9 P n l0 B B0 bC (ix+1) aI ((g,t)::aP) rest ((I.CD g ak).put o.dst d))
def dL(l:List Oper)(bq:Nat->F)(S:Nat->Option F):Nat->Nat->Option F
 |0=>S
 |i+1=>λ t=>if(l[i]?).bind (·.dst)=some t then some (bq i) else dL l bq S i t
def sk(nb:Option (Nat×List F))(B:Nat->Option (List F)):Nat->Option (List F):=λ b=>match nb with
 |some p=>if p.1=b then some p.2 else B b
 |none=>B b
def dp(N:Nat->Option (Nat×List F))(B:Nat->Option (List F)):Nat->Nat->Option (List F)
 |0=>B
 |i+1=>sk (N i) (dp N B i)
def xE(m:Option (Nat×Gr))(ak:Nat->Option Gr):Nat->Option Gr:=λ h=>match m with
 |some p=>if p.1=h then some p.2 else ak h
 |none=>ak h
def dZ(av:Nat->Option (Nat×Gr))(ak:Nat->Option Gr):Nat->Nat->Option Gr
 |0=>ak
 |i+1=>xE (av i) (dZ av ak i)
def sB(m:Option (Nat×Gr))(t:Option Nat)(aP:List (Nat×Nat)):List (Nat×Nat):=match m with
 |some p=>match t with
  |some aa=>(p.1,aa)::aP
  |none=>aP
 |none=>aP
def fF(l:List Oper)(av:Nat->Option (Nat×Gr))(aP:List (Nat×Nat)):Nat->List (Nat×Nat)
 |0=>aP
 |i+1=>sB (av i) ((l[i]?).bind (·.dst)) (fF l av aP i)
theorem JA(m:Option (Nat×Gr))(av:Nat->Option (Nat×Gr))(ak:Nat->Option Gr):∀i,dZ (λ j=>if j=0 then m else av (j-1)) ak (i+1)=dZ av (xE m ak) i
 |0=>by simp[dZ]
 |i+1=>by
  rw[dZ,JA m av ak i,dZ];simp
theorem Pv(o:Oper)(l:List Oper)(m:Option (Nat×Gr))(av:Nat->Option (Nat×Gr))(aP:List (Nat×Nat)):∀i,fF (o::l) (λ j=>if j=0 then m else av (j-1)) aP (i+1)=fF l av (sB m o.dst aP) i
 |0=>by simp[fF]
 |i+1=>by
  rw[fF,Pv o l m av aP i,fF];simp
def Cc(p:Option (Nat×List F))(aI:List Nat):List Nat:=match p with
 |some q=>q.1::aI
 |none=>aI
def fz(bM:Nat->Bool)(N:Nat->Option (Nat×List F))(aI:List Nat):Nat->List Nat
 |0=>aI
 |i+1=>bif bM i then Cc (N i) (fz bM N aI i) else fz bM N aI i
def rk(P:Program)(l0:List Oper)(ix:Nat)(B B0:Nat->Option (List F))(S:Nat->Option F)(Bi:Nat->Option (List F))(Gi:Nat->Option Gr)(aI:List Nat)(aP:List (Nat×Nat))(o:Oper)(d:F)(nb:Option (Nat×List F))(aa:Bool)(m:Option (Nat×Gr)):Prop:=
 (gd l0 o S=some true/\(dm P o S B d nb\/(yk l0 o=true/\dm P o S B0 d nb))/\(∀p,nb=some p->Bi p.1=none/\B p.1=none)/\aa=false/\m=none)\/(gd l0 o S=some false/\d=.p (.raw undef)/\nb=none/\aa=false/\m=none)\/
 (∃nm cs aO,gd l0 o S=some true/\o.dst=none/\B nm=none/\(aI.contains nm=false\/BZ l0 o ix=true)/\Bi nm=some cs/\FP P o S nm cs aO/\d=.any/\nb=some (nm,aO)/\aa=true/\m=none)\/
 (∃g ak t,gd l0 o S=some true/\o.dst=some t/\sw o=true/\B5 o aP g=true/\GStep P o S g (Gi g) ak d/\nb=none/\aa=false/\m=some (g,ak))
theorem Pp(aa:Bool)(nb:Option (Nat×List F))(bM:Nat->Bool)(N:Nat->Option (Nat×List F))(aI:List Nat):∀i,fz (λ j=>if j=0 then aa else bM (j-1)) (λ j=>if j=0 then nb else N (j-1)) aI (i+1)=fz bM N (bif aa then Cc nb aI else aI) i
 |0=>by simp[fz]
 |i+1=>by
  rw[fz,Pp aa nb bM N aI i,fz];simp
theorem JE(o:Oper)(l:List Oper)(d:F)(bq:Nat->F)(S:Nat->Option F):∀i,dL (o::l) (λ j=>if j=0 then d else bq (j-1)) S (i+1)=dL l bq (λ t=>if o.dst=some t then some d else S t) i
 |0=>by funext t;simp[dL]
 |i+1=>by
  rw[dL,JE o l d bq S i,dL];simp
theorem Jw(nb:Option (Nat×List F))(N:Nat->Option (Nat×List F))(B:Nat->Option (List F)):∀i,dp (λ j=>if j=0 then nb else N (j-1)) B (i+1)=dp N (sk nb B) i
 |0=>by funext t;simp[dp]
 |i+1=>by
  rw[dp,Jw nb N B i,dp];simp
theorem VI(I:St)(dst:Option Nat)(d:F):Y (I.put dst d).s=λ t=>if dst=some t then some d else Y I.s t:=by
 funext t
 cases dst with
 |none=>simp[St.put]
 |some aa=>simp[St.put,cL]
theorem VG(I:St)(nb:Option (Nat×List F)):Y (I.box nb).b=sk nb (Y I.b):=by
 funext b
 cases nb with
 |none=>rfl
 |some p=>obtain⟨x,y⟩:=p;simp[St.box,cL,sk]
theorem Rj(I:St)(nb:Option (Nat×List F)):(I.box nb).s=I.s:=by cases nb<;>rfl
theorem Xt(I:St)(dst:Option Nat)(d:F):(I.put dst d).b=I.b:=by cases dst<;>rfl
theorem Xu(I:St)(dst:Option Nat)(d:F):(I.put dst d).g=I.g:=by cases dst<;>rfl
theorem Ri(I:St)(nb:Option (Nat×List F)):(I.box nb).g=I.g:=by cases nb<;>rfl
def St.grow(I:St):Option (Nat×Gr)->St
 |some p=>I.CD p.1 p.2
 |none=>I
theorem VH(I:St)(m:Option (Nat×Gr)):Y (I.grow m).g=xE m (Y I.g):=by
 funext h
 cases m with
 |none=>rfl
 |some p=>obtain⟨x,y⟩:=p;simp[St.grow,St.CD,cL,xE]
theorem Sj(I:St)(m:Option (Nat×Gr)):(I.grow m).s=I.s:=by cases m<;>rfl
theorem Si(I:St)(m:Option (Nat×Gr)):(I.grow m).b=I.b:=by cases m<;>rfl
theorem b9.extract{n:Nat}{l0:List Oper}{B B0:List (Nat×List F)}{bC:St->Prop}:∀(l:List Oper)(ix:Nat)(aI:List Nat)(aP:List (Nat×Nat))(I:St),b9 P n l0 B B0 bC ix aI aP l I->
 ∃(bq:Nat->F)(N:Nat->Option (Nat×List F))(bM:Nat->Bool)(av:Nat->Option (Nat×Gr))(ji:St),bC ji/\Y ji.g=dZ av (Y I.g) l.length/\Y ji.s=dL l bq (Y I.s) l.length/\Y ji.b=dp N (Y I.b) l.length/\
  ∀i o,l[i]?=some o->rk P l0 (ix+i) (Y B) (Y B0) (dL l bq (Y I.s) i) (dp N (Y I.b) i) (dZ av (Y I.g) i) (fz bM N aI i) (fF l av aP i) o (bq i) (N i) (bM i) (av i)
 |[],ix,aI,aP,I,h=>⟨λ _=>.any,λ _=>none,λ _=>false,λ _=>none,I,h,rfl,rfl,rfl,λ i o Z=>by simp at Z⟩
 |o::l,ix,aI,aP,I,h=>by
  have key:∀(d:F)(nb:Option (Nat×List F))(aa:Bool)(m:Option (Nat×Gr)),rk P l0 ix (Y B) (Y B0) (Y I.s) (Y I.b) (Y I.g) aI aP o d nb aa m->b9 P n l0 B B0 bC (ix+1) (bif aa then Cc nb aI else aI) (sB m o.dst aP) l (((I.box nb).grow m).put o.dst d)->∃(bq:Nat->F)(N:Nat->Option (Nat×List F))(bM:Nat->Bool)(av:Nat->Option (Nat×Gr))(ji:St),bC ji/\Y ji.g=dZ av (Y I.g) (o::l).length/\Y ji.s=dL (o::l) bq (Y I.s) (o::l).length/\Y ji.b=dp N (Y I.b) (o::l).length/\
   ∀i o',(o::l)[i]?=some o'->rk P l0 (ix+i) (Y B) (Y B0) (dL (o::l) bq (Y I.s) i) (dp N (Y I.b) i) (dZ av (Y I.g) i) (fz bM N aI i) (fF (o::l) av aP i) o' (bq i) (N i) (bM i) (av i):=by
   intro d nb aa m M hr;obtain⟨bq,N,bM,av,ji,u,D,K,h4,h5⟩:=b9.extract l _ _ _ _ hr;have es:Y (((I.box nb).grow m).put o.dst d).s=λ t=>if o.dst=some t then some d else Y I.s t:=by rw[VI,Sj,Rj]
   have eb:Y (((I.box nb).grow m).put o.dst d).b=sk nb (Y I.b):=by rw[Xt,Si,VG]
   have eg:Y (((I.box nb).grow m).put o.dst d).g=xE m (Y I.g):=by rw[Xu,VH,Ri]
   refine⟨λ j=>if j=0 then d else bq (j-1),λ j=>if j=0 then nb else N (j-1),λ j=>if j=0 then aa else bM (j-1),λ j=>if j=0 then m else av (j-1),ji,u,?_,?_,?_,λ i o' Z=>?_⟩
   ·rw[List.length_cons,JA,<-eg];exact D
   ·rw[List.length_cons,JE,<-es];exact K
   ·rw[List.length_cons,Jw,<-eb];exact h4
   ·cases i with
    |zero=>simp only[List.getElem?_cons_zero,Option.some.injEq] at Z;subst Z;exact M
    |succ i=>
     have:=h5 i o' (by simpa using Z);rw[show ix+1+i=ix+(i+1) by omega] at this;rw[JE,Jw,JA,Pp,Pv,<-es,<-eb,<-eg]
     simpa using this
  rcases h with⟨d,nb,hg,hq,hf,hr⟩|⟨hg,hr⟩|⟨nm,cs,aO,hg,G,R,hD,L,hs,hr⟩|⟨g,ak,d,t,hg,G,de,hL,hs,hr⟩
  ·exact key d nb false none (.inl ⟨hg,hq,hf,rfl,rfl⟩) hr
  ·exact key (.p (.raw undef)) none false none (.inr (.inl ⟨hg,rfl,rfl,rfl,rfl⟩)) (by simpa[St.box,St.grow,sB] using hr)
  ·exact key .any (some (nm,aO)) true none (.inr (.inr (.inl ⟨nm,cs,aO,hg,G,R,hD,L,hs,rfl,rfl,rfl,rfl⟩))) (by rw[G];exact hr)
  ·exact key d none false (some (g,ak)) (.inr (.inr (.inr ⟨g,ak,t,hg,G,de,hL,hs,rfl,rfl,rfl⟩))) (by rw[G] at hr⊢;exact hr)
theorem Fo{ap:Array Oper}{n:Nat}(aR:oa ap n){bq:Nat->F}{S:Nat->Option F}{j:Nat}{oj:Oper}{t:Tmp}(hj:ap[j]?=some oj)(ht:oj.dst=some t):∀i,j<i->dL ap.toList bq S i t=some (bq j)
 |0,h=>by omega
 |i+1,h=>by
  by_cases jO:j=i
  ·subst jO;simp[dL,hj,ht]
  ·simp only[dL];rw[if_neg,Fo aR hj ht i (by omega)];intro he;rcases X:ap[i]? with _|oi
   ·simp[X] at he
   ·exact aR.ne j i oj oi t hj X jO ht (by simpa[X] using he)
theorem Fp{ap:Array Oper}{bq:Nat->F}{S:Nat->Option F}{t:Tmp}:∀i,(∀j oj,j<i->ap[j]?=some oj->oj.dst≠some t)->dL ap.toList bq S i t=S t
 |0,_=>rfl
 |i+1,h=>by
  simp only[dL];rw[if_neg,Fp i λ j oj hj=>h j oj (by omega)];intro he;rcases X:ap[i]? with _|oi
  ·simp[X] at he
  ·exact h i oi (by omega) X (by simpa[X] using he)
theorem py{N:Nat->Option (Nat×List F)}{B:Nat->Option (List F)}{b:Nat}:∀i,dp N B i b=none->B b=none/\∀j p,j<i->N j=some p->p.1≠b
 |0,h=>⟨h,λ j p hj=>by omega⟩
 |i+1,h=>by
  simp only[dp,sk] at h;have step:dp N B i b=none/\∀p,N i=some p->p.1≠b:=by
   split at h
   ·rename_i p hp;split at h
    ·cases h
    ·rename_i cP;exact⟨h,λ q hq=>by rw[hp] at hq;cases hq;exact cP⟩
   ·rename_i hp;exact⟨h,λ q hq=>by rw[hp] at hq;cases hq⟩
  obtain⟨u,D⟩:=py i step.1;refine⟨u,λ j p hj hp=>?_⟩
  by_cases e:j=i
  ·subst e;exact step.2 p hp
  ·exact D j p (by omega) hp
theorem Fl{N:Nat->Option (Nat×List F)}{B:Nat->Option (List F)}{b:Nat}{cs:List F}:∀i,dp N B i b=some cs->(B b=some cs/\∀j p,j<i->N j=some p->p.1≠b)\/∃j,j<i/\N j=some (b,cs)/\∀k p,j<k->k<i->N k=some p->p.1≠b
 |0,h=>.inl ⟨h,λ j p hj=>by omega⟩
 |i+1,h=>by
  simp only[dp,sk] at h;have ext:(∀p,N i=some p->p.1≠b)->dp N B i b=some cs->(B b=some cs/\∀j p,j<i+1->N j=some p->p.1≠b)\/∃j,j<i+1/\N j=some (b,cs)/\∀k p,j<k->k<i+1->N k=some p->p.1≠b:=by
   intro hn h;rcases Fl i h with⟨u,D⟩|⟨j,hj,hq,D⟩
   ·refine .inl ⟨u,λ j p hj hp=>?_⟩
    by_cases e:j=i
    ·subst e;exact hn p hp
    ·exact D j p (by omega) hp
   ·refine .inr ⟨j,by omega,hq,λ k p J lC hp=>?_⟩
    by_cases e:k=i
    ·subst e;exact hn p hp
    ·exact D k p J (by omega) hp
  split at h
  ·rename_i p hp;split at h
   ·rename_i he;cases h;refine .inr ⟨i,by omega,by rw[hp,<-he],λ k p J lC=>by omega⟩
   ·rename_i cP;exact ext (λ q hq=>by rw[hp] at hq;cases hq;exact cP) h
  ·rename_i hp;exact ext (λ q hq=>by rw[hp] at hq;cases hq) h
theorem Jz{bM:Nat->Bool}{N:Nat->Option (Nat×List F)}{aI:List Nat}:∀{i j:Nat}{p:Nat×List F},j<i->bM j=true->N j=some p->p.1∈fz bM N aI i
 |0,j,p,h,_,_=>by omega
 |i+1,j,p,h,hu,hp=>by
  by_cases e:j=i
  ·subst e;simp[fz,hu,hp,Cc]
  ·have:=Jz (aI:=aI) (i:=i) (j:=j) (p:=p) (by omega) hu hp;rw[fz];cases bM i
   ·exact this
   ·cases N i with
    |none=>exact this
    |some q=>exact List.mem_cons_of_mem _ this
theorem CJ{av:Nat->Option (Nat×Gr)}{ak:Nat->Option Gr}{h:Nat}:∀i,(dZ av ak i h=ak h/\∀j p,j<i->av j=some p->p.1≠h)\/∃j Gj,j<i/\av j=some (h,Gj)/\dZ av ak i h=some Gj/\∀k p,j<k->k<i->av k=some p->p.1≠h
 |0=>.inl ⟨rfl,λ j p hj=>by omega⟩
 |i+1=>by
  have ext:(∀p,av i=some p->p.1≠h)->dZ av ak (i+1) h=dZ av ak i h:=by
   intro hn;simp only[dZ,xE];cases hm:av i with
   |none=>rfl
   |some p=>simp only;rw[if_neg (hn p hm)]
  by_cases hn:∀p,av i=some p->p.1≠h
  ·rw[ext hn];rcases CJ (av:=av) (ak:=ak) (h:=h) i with⟨u,D⟩|⟨j,Gj,hj,hm,hs,D⟩
   ·refine .inl ⟨u,λ j p hj hp=>?_⟩
    by_cases e:j=i
    ·subst e;exact hn p hp
    ·exact D j p (by omega) hp
   ·refine .inr ⟨j,Gj,by omega,hm,hs,λ k p J lC hp=>?_⟩
    by_cases e:k=i
    ·subst e;exact hn p hp
    ·exact D k p J (by omega) hp
  ·obtain⟨p,hp,he⟩:∃p,av i=some p/\p.1=h:=by
    refine Classical.byContradiction λ L=>hn λ p hp he=>L ⟨p,hp,he⟩
   refine .inr ⟨i,p.2,by omega,by rw[hp,<-he],by simp[dZ,xE,hp,he],λ k p J lC=>by omega⟩
theorem Pu{l:List Oper}{av:Nat->Option (Nat×Gr)}{h:Nat}:∀{i j:Nat}{p:Nat×Gr}{t:Nat},j<i->av j=some p->p.1=h->(l[j]?).bind (·.dst)=some t->(∀k q,j<k->k<i->av k=some q->q.1≠h)->Y (fF l av [] i) h=some t
 |0,j,p,t,hj,_,_,_,_=>by omega
 |i+1,j,p,t,hj,hp,hh,ht,hn=>by
  by_cases e:j=i
  ·subst e;simp[fF,sB,hp,ht,cL,hh]
  ·have ih:=Pu (l:=l) (av:=av) (h:=h) (i:=i) (j:=j) (p:=p) (t:=t) (by omega) hp hh ht (λ k q J lC hq=>hn k q J (by omega) hq);simp only[fF];cases hm:av i with
   |none=>simpa[sB] using ih
   |some q=>
    have cP:=hn i q (by omega) (by omega) hm;cases G:(l[i]?).bind (·.dst) with
    |none=>simpa[sB] using ih
    |some aa=>simp only[sB,cL];rw[if_neg cP];exact ih
structure kl(Γ:bE)(I:St)(ap:Array Oper)(bq:Nat->F)(N:Nat->Option (Nat×List F))(bM:Nat->Bool)(av:Nat->Option (Nat×Gr))(a0:Act)(aD:Array Bool)(e:ay)(a:Act):Prop where
 kK:aD.size=ap.size
 size:a.tmps.size=Γ.n
 df:a.defers=Γ.dg
 closed:∀(i:Nat)(o:Oper),ap[i]?=some o->aD.getD i false=true->∀x∈o.after,Region.binds .any x=true->aD.getD x.on false=true
 tq:∀(i:Nat)(o:Oper)(t:Tmp),ap[i]?=some o->aD.getD i false=true->o.dst=some t->bt e (fK a t) (bq i)
 kept:∀t,(∀(i:Nat)(o:Oper),ap[i]?=some o->aD.getD i false=true->o.dst≠some t)->fK a t=fK a0 t
 bm:∀t d,Y I.s t=some d->bt e (fK a0 t) d
 boxes:∀b cs,Y I.b b=some cs->(∀i p,aD.getD i false=true->N i=some p->p.1≠b)->gu e b cs
 news:∀i p,aD.getD i false=true->N i=some p->(∀k q,i<k->aD.getD k false=true->N k=some q->q.1≠p.1)->gu e p.1 p.2
 dX:∀b,Y I.b b=none->(∀i p,aD.getD i false=true->bM i=false->N i=some p->p.1≠b)->e.bx b=none
 gs:∀g,(∀i p,aD.getD i false=true->av i=some p->p.1≠g)->e.gi g=Y I.g g
 gw:∀i p,aD.getD i false=true->av i=some p->(∀k q,i<k->aD.getD k false=true->av k=some q->q.1≠p.1)->e.gi p.1=some p.2
 env:gx Γ e
theorem nD.ends{e V:ay}{v:Value}{d:F}{nb:Option (Nat×List F)}(h:nD e V v d nb)(hf:∀p,nb=some p->e.bx p.1=none):Ends e V:=by
 cases nb with
 |none=>exact h.1.ends
 |some p=>obtain⟨e1,k,hg,u,D,K,rfl,h5,h6⟩:=h;exact hg.ends.trans (sm (by rw[hg.bx];exact hf _ rfl))
theorem nD.rep{e V:ay}{v:Value}{d:F}{nb:Option (Nat×List F)}(h:nD e V v d nb):bt V v d:=by
 cases nb with
 |none=>exact h.2
 |some p=>obtain⟨e1,k,hg,u,D,K,rfl,h5,h6⟩:=h;exact h6
theorem nD.box{e V:ay}{v:Value}{d:F}{nb:Option (Nat×List F)}(h:nD e V v d nb)(hf:∀p,nb=some p->e.bx p.1=none){b:Nat}{cs:List F}(R:gu e b cs):gu V b cs:=by
 cases nb with
 |none=>exact h.1.box R
 |some p=>obtain⟨e1,k,hg,u,D,K,rfl,h5,h6⟩:=h;exact(hg.box R).ends (sm (by rw[hg.bx];exact hf _ rfl)) rfl
theorem nD.om{e V:ay}{v:Value}{d:F}{nb:Option (Nat×List F)}(h:nD e V v d nb)(aR:gx Γ e)(hf:∀p,nb=some p->e.bx p.1=none):gx Γ V/\(∀g,V.gi g=e.gi g)/\(∀b,(∀p,nb=some p->p.1≠b)->V.bx b=e.bx b):=by
 cases nb with
 |none=>exact⟨h.1.ok aR,λ g=>by rw[h.1.gi],λ b _=>by rw[h.1.bx]⟩
 |some p=>
  obtain⟨e1,k,hg,u,D,K,rfl,h5,h6⟩:=h;have sZ:=hg.ok aR;have gp:e1.gr k=none:=by
   rw[hg.gr];rcases iA:e.gr k with _|g
   ·rfl
   ·obtain⟨_,_,_,bh,_⟩:=aR.gr k g iA;omega
  have dh:∀c,e1.bx c≠some k:=λ c o6=>by
   rw[hg.bx] at o6;have:=(aR.bx c k o6).1;omega
  refine⟨⟨sZ.kept,sZ.cl,λ c j hj=>?_,λ c bU j h4 yv=>?_,sZ.gr,λ c j hj=>(sm (by rw[hg.bx];exact hf p rfl)).bx c j (sZ.kb c j hj)⟩,λ g=>by show e1.gi g=_;rw[hg.gi],λ b R=>?_⟩
  ·have fj:(if c=p.1 then some k else e1.bx c)=some j:=hj;split at fj
   ·cases fj;exact⟨D,.inl (Nat.le_trans aR.kept.size u),K,gp⟩
   ·exact sZ.bx c j fj
  ·have aN:(if c=p.1 then some k else e1.bx c)=some j:=h4;have bd:(if bU=p.1 then some k else e1.bx bU)=some j:=yv
   by_cases Dm:c=p.1<;>by_cases e2:bU=p.1
   ·rw[Dm,e2]
   ·rw[if_pos Dm] at aN;rw[if_neg e2] at bd;cases aN;exact absurd bd (dh bU)
   ·rw[if_neg Dm] at aN;rw[if_pos e2] at bd;cases bd;exact absurd aN (dh c)
   ·rw[if_neg Dm] at aN;rw[if_neg e2] at bd;exact sZ.inj c bU j aN bd
  ·show(if b=p.1 then some k else e1.bx b)=_;rw[if_neg (λ V=>R p rfl V.symm),hg.bx]
theorem kl.next{I:St}{ap:Array Oper}(aR:oa ap Γ.n){bq:Nat->F}{N:Nat->Option (Nat×List F)}{bM:Nat->Bool}{av:Nat->Option (Nat×Gr)}{a0:Act}{aD:Array Bool}{e V:ay}{a:Act}(h:kl Γ I ap bq N bM av a0 aD e a)
 {i:Nat}{o:Oper}(Z:ap[i]?=some o)(hr:i∈Region.ready .any ap aD){v:Value}(hq:nD e V v (bq i) (N i))(hf:∀p,N i=some p->e.bx p.1=none)(hu:bM i=false)(hM:av i=none):
 kl Γ I ap bq N bM av a0 (aD.setIfInBounds i true) V (a.put o.dst v):=by
 obtain⟨jw,o',gZ,dc⟩:=mem_ready.1 hr;rw[Z] at gZ;cases gZ;obtain⟨jP,dw⟩:=lV jw;have A:=hq.ends hf;obtain⟨c1,c2,c3⟩:=hq.om h.env hf;have split:∀j,(aD.setIfInBounds i true).getD j false=true->j=i\/aD.getD j false=true:=λ j hj=>by
  by_cases e:i=j
  ·exact .inl e.symm
  ·rw[getD_set_ne false e] at hj;exact .inr hj
 have qT:(aD.setIfInBounds i true).getD i false=true:=by simp[dw]
 refine⟨by simpa using h.kK,by rw[Fh];exact h.size,by rw[Dk];exact h.df,λ j oj hj M x T gy=>?_,λ j oj t hj M ht=>?_,λ t ht=>?_,λ t d ht=>(h.bm t d ht).next A,λ b cs R hn=>hq.box hf (h.boxes b cs R λ j p M hp=>hn j p (getD_set_true M) hp),λ j p M hp hn=>?_,λ b R hn=>?_,λ g hn=>by rw[c2];exact h.gs g λ j p M hp=>hn j p (getD_set_true M) hp,λ j p M hp hn=>?_,c1⟩
 ·rcases split j M with rfl|eJ
  ·rw[Z] at hj;cases hj;exact getD_set_true (dc x T gy)
  ·exact getD_set_true (h.closed j oj hj eJ x T gy)
 ·rcases split j M with rfl|eJ
  ·rw[Z] at hj;cases hj;rw[ht,CI (by rw[h.size];exact aR.lt _ _ _ Z ht)];exact hq.rep
  ·have cP:j≠i:=λ e=>by subst e;rw[jP] at eJ;cases eJ
   rw[xB (λ e=>aR.ne j i oj o t hj Z cP ht e)];exact(h.tq j oj t hj eJ ht).next A
 ·rw[xB (ht i o Z qT)];exact h.kept t λ j oj hj M=>ht j oj hj (getD_set_true M)
 ·rcases split j M with rfl|eJ
  ·rw[hp] at hq;obtain⟨e1,k,hg,u,D,K,rfl,h5,h6⟩:=hq;exact h5
  ·exact hq.box hf (h.news j p eJ hp λ k q J dz bg=>hn k q J (getD_set_true dz) bg)
 ·rw[c3 b (λ p hp=>hn i p qT hu hp)];exact h.dX b R λ j p M wK hp=>hn j p (getD_set_true M) wK hp
 ·rw[c2];rcases split j M with rfl|eJ
  ·rw[hM] at hp;cases hp
  ·exact h.gw j p eJ hp λ k q J dz bg=>hn k q J (getD_set_true dz) bg
theorem kl.Wg{I:St}{ap:Array Oper}{bq:Nat->F}{N:Nat->Option (Nat×List F)}{bM:Nat->Bool}{av:Nat->Option (Nat×Gr)}{a0:Act}{aD:Array Bool}{e V:ay}{a:Act}(h:kl Γ I ap bq N bM av a0 aD e a)
 {i:Nat}{o:Oper}(Z:ap[i]?=some o)(G:o.dst=none)(hr:i∈Region.ready .any ap aD){nm:Nat}{aO:List F}(hN:N i=some (nm,aO))(hM:av i=none)(wy:∀j p,aD.getD j false=true->i<j->N j=some p->p.1≠nm)(hu:FS Γ e V nm aO):
 kl Γ I ap bq N bM av a0 (aD.setIfInBounds i true) V a:=by
 obtain⟨jw,o',gZ,dc⟩:=mem_ready.1 hr;rw[Z] at gZ;cases gZ;obtain⟨jP,dw⟩:=lV jw;have split:∀j,(aD.setIfInBounds i true).getD j false=true->j=i\/aD.getD j false=true:=λ j hj=>by
  by_cases e:i=j
  ·exact .inl e.symm
  ·rw[getD_set_ne false e] at hj;exact .inr hj
 have qT:(aD.setIfInBounds i true).getD i false=true:=by simp[dw]
 refine⟨by simpa using h.kK,h.size,h.df,λ j oj hj M x T gy=>?_,λ j oj t hj M ht=>?_,λ t ht=>?_,λ t d ht=>(h.bm t d ht).next hu.ends,λ b cs R hn=>?_,λ j p M hp hn=>?_,λ b R hn=>?_,λ g hn=>by rw[hu.gi];exact h.gs g λ j p M hp=>hn j p (getD_set_true M) hp,λ j p M hp hn=>?_,hu.ok⟩
 ·rcases split j M with rfl|eJ
  ·rw[Z] at hj;cases hj;exact getD_set_true (dc x T gy)
  ·exact getD_set_true (h.closed j oj hj eJ x T gy)
 ·rcases split j M with rfl|eJ
  ·rw[Z] at hj;cases hj;rw[G] at ht;cases ht
  ·exact(h.tq j oj t hj eJ ht).next hu.ends
 ·exact h.kept t λ j oj hj M=>ht j oj hj (getD_set_true M)
 ·exact hu.other b cs (λ V=>hn i _ qT hN V.symm) (h.boxes b cs R λ j p M hp=>hn j p (getD_set_true M) hp)
 ·rcases split j M with rfl|eJ
  ·rw[hN] at hp;cases hp;exact hu.at_
  ·have jO:j≠i:=λ e=>by subst e;rw[jP] at eJ;cases eJ
   have cP:p.1≠nm:=by
    rcases Nat.lt_or_ge j i with u|u
    ·exact λ V=>hn i _ u qT hN V.symm
    ·exact wy j p eJ (by omega) hp
   exact hu.other p.1 p.2 cP (h.news j p eJ hp λ k q J dz bg=>hn k q J (getD_set_true dz) bg)
 ·rw[hu.bx];exact h.dX b R λ j p M wK hp=>hn j p (getD_set_true M) wK hp
 ·rw[hu.gi];rcases split j M with rfl|eJ
  ·rw[hM] at hp;cases hp
  ·exact h.gw j p eJ hp λ k q J dz bg=>hn k q J (getD_set_true dz) bg
theorem kl.Wf{I:St}{ap:Array Oper}(aR:oa ap Γ.n){bq:Nat->F}{N:Nat->Option (Nat×List F)}{bM:Nat->Bool}{av:Nat->Option (Nat×Gr)}{a0:Act}{aD:Array Bool}{e V:ay}{a:Act}(h:kl Γ I ap bq N bM av a0 aD e a)
 {i:Nat}{o:Oper}(Z:ap[i]?=some o)(hr:i∈Region.ready .any ap aD){g:Nat}{ak:Gr}(hN:N i=none)(hM:av i=some (g,ak))(wy:∀j p,aD.getD j false=true->i<j->av j=some p->p.1≠g){v:Value}(hu:FE Γ e V g ak v (bq i)):
 kl Γ I ap bq N bM av a0 (aD.setIfInBounds i true) V (a.put o.dst v):=by
 obtain⟨jw,o',gZ,dc⟩:=mem_ready.1 hr;rw[Z] at gZ;cases gZ;obtain⟨jP,dw⟩:=lV jw;have split:∀j,(aD.setIfInBounds i true).getD j false=true->j=i\/aD.getD j false=true:=λ j hj=>by
  by_cases e:i=j
  ·exact .inl e.symm
  ·rw[getD_set_ne false e] at hj;exact .inr hj
 have qT:(aD.setIfInBounds i true).getD i false=true:=by simp[dw]
 refine⟨by simpa using h.kK,by rw[Fh];exact h.size,by rw[Dk];exact h.df,λ j oj hj M x T gy=>?_,λ j oj t hj M ht=>?_,λ t ht=>?_,λ t d ht=>(h.bm t d ht).next hu.ends,λ b cs R hn=>hu.other b cs (h.boxes b cs R λ j p M hp=>hn j p (getD_set_true M) hp),λ j p M hp hn=>?_,λ b R hn=>?_,λ bN hn=>?_,λ j p M hp hn=>?_,hu.ok⟩
 ·rcases split j M with rfl|eJ
  ·rw[Z] at hj;cases hj;exact getD_set_true (dc x T gy)
  ·exact getD_set_true (h.closed j oj hj eJ x T gy)
 ·rcases split j M with rfl|eJ
  ·rw[Z] at hj;cases hj;rw[ht,CI (by rw[h.size];exact aR.lt _ _ _ Z ht)];exact hu.rep
  ·have cP:j≠i:=λ e=>by subst e;rw[jP] at eJ;cases eJ
   rw[xB (λ e=>aR.ne j i oj o t hj Z cP ht e)];exact(h.tq j oj t hj eJ ht).next hu.ends
 ·rw[xB (ht i o Z qT)];exact h.kept t λ j oj hj M=>ht j oj hj (getD_set_true M)
 ·rcases split j M with rfl|eJ
  ·rw[hN] at hp;cases hp
  ·exact hu.other p.1 p.2 (h.news j p eJ hp λ k q J dz bg=>hn k q J (getD_set_true dz) bg)
 ·rw[hu.bx];exact h.dX b R λ j p M wK hp=>hn j p (getD_set_true M) wK hp
 ·rw[hu.gi,if_neg (λ V=>hn i _ qT hM V.symm)];exact h.gs bN λ j p M hp=>hn j p (getD_set_true M) hp
 ·rcases split j M with rfl|eJ
  ·rw[hM] at hp;cases hp;rw[hu.gi];simp
  ·have jO:j≠i:=λ e=>by subst e;rw[jP] at eJ;cases eJ
   have cP:p.1≠g:=by
    rcases Nat.lt_or_ge j i with u|u
    ·exact λ V=>hn i _ u qT hM V.symm
    ·exact wy j p eJ (by omega) hp
   rw[hu.gi,if_neg cP];exact h.gw j p eJ hp λ k q J dz bg=>hn k q J (getD_set_true dz) bg
theorem kl.h1{I:St}{ap:Array Oper}(aR:oa ap Γ.n){bq:Nat->F}{N:Nat->Option (Nat×List F)}{bM:Nat->Bool}{av:Nat->Option (Nat×Gr)}{a0:Act}{aD:Array Bool}{e:ay}{a:Act}(h:kl Γ I ap bq N bM av a0 aD e a)
 {i:Nat}{o:Oper}(Z:ap[i]?=some o)(hr:i∈Region.ready .any ap aD):∀t∈o.looksAt ap,∀d,dL ap.toList bq (Y I.s) i t=some d->bt e (fK a t) d:=by
 obtain⟨jw,o',gZ,dc⟩:=mem_ready.1 hr;rw[Z] at gZ;cases gZ;obtain⟨jP,dw⟩:=lV jw;intro t ht d G
 by_cases nJ:∃(j:Nat)(oj:Oper),j<i/\ap[j]?=some oj/\oj.dst=some t
 ·obtain⟨j,oj,jO,hj,lW⟩:=nJ;rw[Fo aR hj lW i jO] at G;cases G;rcases aR.dep i j o oj t Z hj (by omega) lW ht with⟨_,x,T,R,lE⟩|⟨bN,_⟩
  ·exact h.tq j oj t hj (lE▸dc x T R) lW
  ·omega
 ·rw[Fp _ λ j oj jO hj lW=>nJ ⟨j,oj,jO,hj,lW⟩] at G;rw[h.kept t λ j oj hj M lW=>?_]
  ·exact h.bm t d G
  ·have jO:j≠i:=λ e=>by subst e;rw[jP] at M;cases M
   rcases aR.dep i j o oj t Z hj (Ne.symm jO) lW ht with⟨bN,_⟩|⟨_,x,T,R,lE⟩
   ·exact nJ ⟨j,oj,bN,hj,lW⟩
   ·have:=h.closed j oj hj M x T R;rw[lE,jP] at this;cases this
def jd(ap:Array Oper):Nat->Nat->Nat->Bool
 |0,_,_=>false
 |f+1,t,i=>match ap[t]? with
  |some o=>o.after.any λ e=>Region.binds .any e&&(e.on==i||jd ap f e.on i)
  |none=>false
def sj(ap:Array Oper)(n:Nat):Bool:=
 (List.range ap.size).all λ t=>decide (t<n)||(List.range t).all λ i=>match ap[t]? with
  |some o=>(o.after.any λ e=>Region.binds .any e&&e.on==i)||(decide (i<n)&&jd ap ap.size t i)
  |none=>true
theorem JJ{ap:Array Oper}{n:Nat}(h:sj ap n=true){t i:Nat}{o:Oper}(ht:ap[t]?=some o)(hn:n<=t)(Z:i<t):(∃e∈o.after,Region.binds .any e=true/\e.on=i)\/(i<n/\jd ap ap.size t i=true):=by
 have gq:t<ap.size:=(Array.getElem?_eq_some_iff.1 ht).1;have u:=List.all_eq_true.1 h t (List.mem_range.2 gq);simp only[Bool.or_eq_true,decide_eq_true_eq] at u;have D:=u.resolve_left (by omega);have K:=List.all_eq_true.1 D i (List.mem_range.2 Z);rw[ht] at K;simp only[Bool.or_eq_true,Bool.and_eq_true,decide_eq_true_eq] at K;rcases K with K|K
 ·obtain⟨e,he,R⟩:=Array.any_eq_true'.1 K;simp only[Bool.and_eq_true,beq_iff_eq] at R;exact .inl ⟨e,he,R⟩
 ·exact .inr K
theorem xp{ap:Array Oper}{aD:Array Bool}(L:∀(i:Nat)(o:Oper),ap[i]?=some o->aD.getD i false=true->∀x∈o.after,Region.binds .any x=true->aD.getD x.on false=true):∀(f t i:Nat)(o:Oper),ap[t]?=some o->(∀x∈o.after,Region.binds .any x=true->aD.getD x.on false=true)->jd ap f t i=true->aD.getD i false=true
 |0,_,_,_,_,_,h=>by cases h
 |f+1,t,i,o,X,ly,h=>by
  simp only[jd,X] at h;obtain⟨e,he,R⟩:=Array.any_eq_true'.1 h;simp only[Bool.and_eq_true,Bool.or_eq_true,beq_iff_eq] at R;have u:=ly e he R.1;rcases R.2 with D|D
  ·rw[<-D];exact u
  ·cases uv:ap[e.on]? with
   |none=>cases f<;>simp[jd,uv] at D
   |some o2=>exact xp L f e.on i o2 uv (L e.on o2 uv u) D
theorem Fv{P:Program}{ap:Array Oper}{m n:Nat}(aR:oa ap m)(hB:sj ap n=true){Q:Exit->Act->World->Prop}:∀(fuel k:Nat)(aD:Array Bool)(a:Act)(w:World),fuel+k=ap.size->n<=k->aD.size=ap.size->
 (∀i,i<k->aD.getD i false=true)->(∀i,k<=i->i<ap.size->aD.getD i true=false)->wpList P ap Q (ap.toList.drop k) a w->wpAny P .any ap Q fuel aD a w
 |0,k,aD,a,w,hf,hn,hs,bh,gH,h=>by
  have hr:Region.ready .any ap aD=[]:=by
   rcases hr:Region.ready .any ap aD with _|⟨i,_⟩
   ·rfl
   ·have hm:i∈Region.ready .any ap aD:=by rw[hr];simp
    obtain⟨jw,o,X,_⟩:=mem_ready.1 hm;have Z:i<ap.size:=(Array.getElem?_eq_some_iff.1 X).1;have:=bh i (by omega);rw[(lV jw).1] at this;cases this
  refine⟨hr,?_⟩;rw[List.drop_eq_nil_of_le (by simp;omega)] at h;exact h
 |fuel+1,k,aD,a,w,hf,hn,hs,bh,gH,h=>by
  have mM:k<ap.size:=by omega
  have sV:ap[k]?=some ap[k]:=by simp[mM]
  have wm:k∈Region.ready .any ap aD:=mem_ready.2 ⟨gH k (Nat.le_refl _) mM,ap[k],sV,λ e he R=>bh _ (aR.back k ap[k] sV e he R)⟩;refine⟨(λ h0=>by rw[h0] at wm;cases wm),λ i Z=>?_⟩;obtain⟨jw,o,X,dc⟩:=mem_ready.1 Z;have dw:i<ap.size:=(Array.getElem?_eq_some_iff.1 X).1;have HF:i=k:=by
   rcases Nat.lt_trichotomy i k with u|u|u
   ·have:=bh i u;rw[(lV jw).1] at this;cases this
   ·exact u
   ·rcases JJ hB X (by omega) u with⟨e,he,R,lE⟩|⟨D,_⟩
    ·have D:=dc e he R;rw[lE] at D;have K:=gH k (Nat.le_refl _) mM;rw[(lV K).1] at D;cases D
    ·omega
  subst HF;rw[sV] at X;cases X;rw[List.drop_eq_getElem_cons (by simpa using mM)] at h;have bN:wpList P ap Q (ap[i]::ap.toList.drop (i+1)) a w:=by simpa using h
  refine wpOp_mono (λ bu aH hh=>?_) (P1 sV bN);refine Fv aR hB fuel (i+1) _ bu aH (by omega) (by omega) (by simpa using hs) (λ j hj=>?_) (λ j hj pb=>?_) hh
  ·by_cases e:i=j
   ·subst e;simp[hs,mM]
   ·rw[getD_set_ne false e];exact bh j (by omega)
  ·rw[getD_set_ne true (by omega)];exact gH j (by omega) pb
def AJ(ap:Array Oper)(n:Nat):Bool:=
 (List.range ap.size).all λ t=>decide (t<n)||(List.range n).all λ i=>match ap[t]? with
  |some o=>(o.after.any λ e=>Region.binds .any e&&e.on==i)||jd ap ap.size t i
  |none=>true
theorem Re{ap:Array Oper}{n:Nat}(h:AJ ap n=true){t i:Nat}{o:Oper}(ht:ap[t]?=some o)(hn:n<=t)(Z:i<n):(∃e∈o.after,Region.binds .any e=true/\e.on=i)\/jd ap ap.size t i=true:=by
 have gq:t<ap.size:=(Array.getElem?_eq_some_iff.1 ht).1;have u:=List.all_eq_true.1 h t (List.mem_range.2 gq);simp only[Bool.or_eq_true,decide_eq_true_eq] at u;have D:=u.resolve_left (by omega);have K:=List.all_eq_true.1 D i (List.mem_range.2 Z);rw[ht] at K;simp only[Bool.or_eq_true] at K;rcases K with K|K
 ·obtain⟨e,he,R⟩:=Array.any_eq_true'.1 K;simp only[Bool.and_eq_true,beq_iff_eq] at R;exact .inl ⟨e,he,R⟩
 ·exact .inr K
theorem Gl{ap:Array Oper}{n:Nat}(h:sj ap n=true):AJ ap n=true:=by
 refine List.all_eq_true.2 λ t ht=>?_
 by_cases hn:t<n
 ·simp[hn]
 ·simp only[Bool.or_eq_true,decide_eq_true_eq];refine .inr (List.all_eq_true.2 λ i Z=>?_);cases X:ap[t]? with
  |none=>rfl
  |some o=>
   have eP:i<n:=List.mem_range.1 Z;simp only[Bool.or_eq_true];rcases JJ h X (by omega) (show i<t by omega) with⟨e,he,u,D⟩|⟨_,u⟩
   ·refine .inl (Array.any_eq_true'.2 ⟨e,he,?_⟩);simp[u,D]
   ·exact .inr u
theorem kl.om{I:St}{ap:Array Oper}{H:Nat}(aR:oa ap Γ.n){bq:Nat->F}{N:Nat->Option (Nat×List F)}{bM:Nat->Bool}{av:Nat->Option (Nat×Gr)}{a0:Act}{ji:St}(ph:Y ji.s=dL ap.toList bq (Y I.s) H)(LH:Y ji.b=dp N (Y I.b) H)(gH:Y ji.g=dZ av (Y I.g) H)
 {aD:Array Bool}{a:Act}{e:ay}(cf:kl Γ I ap bq N bM av a0 aD e a)(dc:∀i,i<H->aD.getD i false=true)(gq:∀t,H<=t->t<ap.size->aD.getD t true=false):bw Γ ji e a:=by
 have mN:∀j,aD.getD j false=true->j<H:=λ j hj=>by
  rcases Nat.lt_or_ge j H with bN|bN
  ·exact bN
  ·rcases Nat.lt_or_ge j ap.size with D|D
   ·have:=gq j bN D;rw[(lV this).1] at hj;cases hj
   ·have K:aD[j]?=none:=Array.getElem?_eq_none (by rw[cf.kK];exact D);simp[K] at hj
 refine⟨cf.size,cf.df,λ t d ht=>?_,λ b cs R=>?_,λ b R=>?_,λ g=>?_,cf.env⟩
 ·rw[ph] at ht
  by_cases nJ:∃(j:Nat)(oj:Oper),j<H/\ap[j]?=some oj/\oj.dst=some t
  ·obtain⟨j,oj,ng,hj,G⟩:=nJ;rw[Fo aR hj G _ ng] at ht;cases ht;exact cf.tq j oj t hj (dc j ng) G
  ·rw[Fp _ λ j oj ng hj G=>nJ ⟨j,oj,ng,hj,G⟩] at ht;rw[cf.kept t λ j oj hj M G=>nJ ⟨j,oj,mN j M,hj,G⟩];exact cf.bm t d ht
 ·rw[LH] at R;rcases Fl H R with⟨u,D⟩|⟨j,hj,hp,D⟩
  ·exact cf.boxes b cs u λ j p M hp=>D j p (mN j M) hp
  ·exact cf.news j _ (dc j hj) hp λ k q J M hq=>D k q J (mN k M) hq
 ·rw[LH] at R;obtain⟨u,D⟩:=py H R;exact cf.dX b u λ j p M _ hp=>D j p (mN j M) hp
 ·rw[gH];rcases CJ (av:=av) (ak:=Y I.g) (h:=g) H with⟨u,D⟩|⟨j,Gj,hj,hm,hs,D⟩
  ·rw[u];exact cf.gs g λ j p M hp=>D j p (mN j M) hp
  ·rw[hs];exact cf.gw j _ (dc j hj) hm λ k q J M hq=>D k q J (mN k M) hq
theorem kl.wanted{I:St}{ap:Array Oper}(aR:oa ap Γ.n){bq:Nat->F}{N:Nat->Option (Nat×List F)}{bM:Nat->Bool}{av:Nat->Option (Nat×Gr)}{a0:Act}{aD:Array Bool}{e:ay}{a:Act}(cf:kl Γ I ap bq N bM av a0 aD e a)
 {i:Nat}{o:Oper}(Z:ap[i]?=some o)(hr:i∈Region.ready .any ap aD){c:Bool}(L:gd ap.toList o (dL ap.toList bq (Y I.s) i)=some c):Region.wanted o (yielded ap a.tmps)=c:=by
 have iR:=cf.h1 aR Z hr;unfold gd at L;unfold Region.wanted;split at L
 ·rename_i hg;rw[hg];cases L;rfl
 ·rename_i j want hg;rw[hg];split at L
  ·rename_i t ht;split at L
   ·rename_i b R;cases L;have u:(ap[j]?).bind (·.dst)=some t:=by simpa using ht
    have hv:=cE (iR t (Lf (by simp[GR,hg,u])) _ R);have:yielded ap a.tmps j=some b:=by rw[Fx,u];unfold fK at hv;simp only[Option.bind_some,hv,xZ]
    simp only[this];cases b<;>cases want<;>rfl
   ·rename_i b R;cases L;have u:(ap[j]?).bind (·.dst)=some t:=by simpa using ht
    have hv:=cE (iR t (Lf (by simp[GR,hg,u])) _ R);have:yielded ap a.tmps j=none:=by rw[Fx,u];unfold fK at hv;simp only[Option.bind_some,hv,xZ]
    simp only[this];cases want<;>rfl
   ·cases L
  ·cases L
theorem An{I:St}{ap:Array Oper}{H:Nat}(dn sp ok:Nat->Bool)(aR:oa ap Γ.n)(hT:AJ ap H=true)(hH:H<=ap.size){bq:Nat->F}{N:Nat->Option (Nat×List F)}{bM:Nat->Bool}{av:Nat->Option (Nat×Gr)}{B:List (Nat×List F)}{a0:Act}{Q:Exit->Act->World->Prop}(iP:∀i,H<=i->N i=none)(kW:∀i,H<=i->av i=none)(nG:∀i,dn i=true\/sp i=true->N i=none)(sK:∀i,dn i=true\/sp i=true->av i=none)(D8:∀i o,ap[i]?=some o->ok i=true\/sp i=true\/∃s,sp s=true/\jd ap ap.size i s=true)(HV:(∀i,ok i=true->bM i=false/\av i=none)\/∀i,ok i=true)(m9:∀b cs,Y B b=some cs->Y I.b b=some cs)
 (rW:∀i o,i<H->ap[i]?=some o->dn i=false->sp i=false->ok i=true->rk P ap.toList i (Y B) (Y I.b) (dL ap.toList bq (Y I.s) i) (dp N (Y I.b) i) (dZ av (Y I.g) i) (fz bM N [] i) (fF ap.toList av [] i) o (bq i) (N i) (bM i) (av i))
 (j5:∀(aD:Array Bool)(a:Act)(e:ay),kl Γ I ap bq N bM av a0 aD e a->(∀i,i<H->aD.getD i false=true)->(∀t,H<=t->t<ap.size->aD.getD t true=false)->(∀s,sp s=true->aD.getD s false=false)->wpAny P .any ap Q (ap.size-H) aD a e.w)
 (pj:∀(fuel:Nat)(aD:Array Bool)(a:Act)(e:ay)(i:Nat),sp i=true->fuel+1=lL aD->i∈Region.ready .any ap aD->kl Γ I ap bq N bM av a0 aD e a->(∀t,H<=t->t<ap.size->aD.getD t true=false)->(∀i,dn i=true->aD.getD i false=true)->wpOp P ap Q i (wpAny P .any ap Q fuel (aD.setIfInBounds i true)) a e.w):
 ∀(fuel:Nat)(aD:Array Bool)(a:Act)(e:ay),fuel=lL aD->kl Γ I ap bq N bM av a0 aD e a->(∀t,H<=t->t<ap.size->aD.getD t true=false)->(∀i,dn i=true->aD.getD i false=true)->(∀i,sp i=true->aD.getD i false=false)->wpAny P .any ap Q fuel aD a e.w:=by
 have fin:∀(fuel:Nat)(aD:Array Bool)(a:Act)(e:ay),fuel=lL aD->kl Γ I ap bq N bM av a0 aD e a->(∀t,H<=t->t<ap.size->aD.getD t true=false)->(∀s,sp s=true->aD.getD s false=false)->(∀i,i<H->aD.getD i false=true)->wpAny P .any ap Q fuel aD a e.w:=by
  intro fuel aD a e qI cf gq nS dc;have Bm:lL aD=ap.size-H:=by
   have:=Ft aD.toList H (by simpa[cf.kK] using hH) (λ i Z=>by
    have u:=dc i Z;have dw:i<aD.size:=by rw[cf.kK];omega
    simp[dw] at u⊢;exact u) (λ i Z M=>by
    have dw:i<aD.size:=by simpa using M
    have u:=gq i Z (by rw[<-cf.kK];exact dw);simp[dw] at u⊢;exact u)
   simpa[lL,cf.kK] using this
  obtain rfl:fuel=ap.size-H:=by omega
  exact j5 aD a e cf dc gq nS
 intro fuel;induction fuel with
 |zero=>
  intro aD a e qI cf gq wn nS;refine fin 0 aD a e qI cf gq nS λ i Z=>?_
  have u:=QK qI.symm (i:=i);have dw:i<aD.size:=by rw[cf.kK];omega
  simp[dw] at u⊢;exact u
 |succ fuel ih=>
  intro aD a e qI cf gq wn nS
  by_cases dc:∀i,i<H->aD.getD i false=true
  ·exact fin _ aD a e qI cf gq nS dc
  ·have nJ:∃i,i<H/\aD.getD i false=false:=by
    refine Classical.byContradiction λ cP=>dc λ i Z=>?_
    rcases M:aD.getD i false with _|_
    ·exact absurd ⟨i,Z,M⟩ cP
    ·rfl
   obtain⟨m,T5,HQ⟩:=nJ;refine⟨λ hr=>?_,λ i Z=>?_⟩
   ·have:=RY aR cf.kK hr m (by omega);rw[HQ] at this;cases this
   ·by_cases yQ:sp i=true
    ·exact pj fuel aD a e i yQ qI.symm.symm Z cf gq wn
    have yQ:sp i=false:=by simpa using yQ
    obtain⟨jw,o,X,ly⟩:=mem_ready.1 Z;obtain⟨jP,dw⟩:=lV jw;have Z0:i<ap.size:=(Array.getElem?_eq_some_iff.1 X).1;have TB:i<H:=by
     rcases Nat.lt_or_ge i H with bN|bN
     ·exact bN
     ·rcases Re hT X bN T5 with⟨x,T,R,lE⟩|qS
      ·have:=ly x T R;rw[lE,HQ] at this;cases this
      ·have:=xp cf.closed _ _ _ o X ly qS;rw[HQ] at this;cases this
    have DZ:ok i=true:=by
     rcases D8 i o X with h|h|⟨s,u,D⟩
     ·exact h
     ·rw[yQ] at h;cases h
     ·have:=xp cf.closed _ _ _ o X ly D;rw[nS s u] at this;cases this
    have D0:∀j,aD.getD j false=true->j<ap.size->sp j=false/\ok j=true:=λ j M pb=>by
     have ME:sp j=false:=by
      rcases h:sp j with _|_
      ·rfl
      ·rw[nS j h] at M;cases M
     refine⟨ME,?_⟩;rcases D8 j ap[j] (by simp[pb]) with h|h|⟨s,u,D⟩
     ·exact h
     ·rw[ME] at h;cases h
     ·have:=xp cf.closed _ _ _ ap[j] (by simp[pb]) (λ x T R=>cf.closed j ap[j] (by simp[pb]) M x T R) D;rw[nS s u] at this;cases this
    have iR:=cf.h1 aR X Z;have yG:fuel=lL (aD.setIfInBounds i true):=by have:=JP jw;omega
    have DR:∀k,dn k=true->(aD.setIfInBounds i true).getD k false=true:=λ k J=>getD_set_true (wn k J)
    have Ea:∀k,sp k=true->(aD.setIfInBounds i true).getD k false=false:=λ k J=>by
     rw[getD_set_ne false (λ e=>by subst e;rw[yQ] at J;cases J)];exact nS k J
    have Ed:∀t,H<=t->t<ap.size->(aD.setIfInBounds i true).getD t true=false:=λ t u D=>by rw[getD_set_ne true (by omega)];exact gq t u D
    have oy:∀c,gd ap.toList o (dL ap.toList bq (Y I.s) i)=some c->Region.wanted o (yielded ap a.tmps)=c:=λ c L=>cf.wanted aR X Z L
    unfold wpOp;simp only[X];have UP:∀b cs,Y B b=some cs->gu e b cs:=λ b cs R=>cf.boxes b cs (m9 b cs R) λ j p M hp V=>by
     have Bw:j<ap.size:=by
      rcases Nat.lt_or_ge j ap.size with bN|bN
      ·exact bN
      ·have K:aD[j]?=none:=Array.getElem?_eq_none (by rw[cf.kK];exact bN);simp[K] at M
     have ng:j<H:=by
      rcases Nat.lt_or_ge j H with bN|bN
      ·exact bN
      ·rw[iP j bN] at hp;cases hp
     rcases rW j _ ng (show ap[j]?=some ap[j] by simp[Bw]) (Bool.eq_false_iff.2 λ h=>by rw[nG j (.inl h)] at hp;cases hp) (Bool.eq_false_iff.2 λ h=>by rw[nG j (.inr h)] at hp;cases hp) (D0 j M Bw).2 with⟨_,_,hf,_⟩|⟨_,_,ic,_⟩|⟨nm,_,_,_,_,iw,_,_,_,_,fy,_⟩|⟨_,_,_,_,_,_,_,_,ic,_⟩
     ·have h5:=(hf p hp).2;rw[V,R] at h5;cases h5
     ·rw[ic] at hp;cases hp
     ·rw[fy] at hp;cases hp;simp only at V;rw[V,R] at iw;cases iw
     ·rw[ic] at hp;cases hp
    have UQ:yk ap.toList o=true->∀b cs,Y I.b b=some cs->gu e b cs:=λ yE b cs R=>cf.boxes b cs R λ j p M hp V=>by
     have Bw:j<ap.size:=by
      rcases Nat.lt_or_ge j ap.size with bN|bN
      ·exact bN
      ·have K:aD[j]?=none:=Array.getElem?_eq_none (by rw[cf.kK];exact bN);simp[K] at M
     have ng:j<H:=by
      rcases Nat.lt_or_ge j H with bN|bN
      ·exact bN
      ·rw[iP j bN] at hp;cases hp
     have ii:ap[j]?=some ap[j]:=by simp[Bw]
     rcases rW j _ ng ii (Bool.eq_false_iff.2 λ h=>by rw[nG j (.inl h)] at hp;cases hp) (Bool.eq_false_iff.2 λ h=>by rw[nG j (.inr h)] at hp;cases hp) (D0 j M Bw).2 with⟨_,_,hf,_⟩|⟨_,_,ic,_⟩|⟨nm,_,_,_,pR,_⟩|⟨_,_,_,_,_,_,_,_,ic,_⟩
     ·have h5:=(py j (hf p hp).1).1;rw[V,R] at h5;cases h5
     ·rw[ic] at hp;cases hp
     ·unfold yk at yE;split at yE
      ·cases yE
      ·rename_i t ht;have u:=List.all_eq_true.1 yE ap[j] (by simp);rw[pR] at u;simp only at u;obtain⟨x,T,gy⟩:=Array.any_eq_true'.1 u;simp only[Bool.and_eq_true] at gy;have H7:=cf.closed j _ ii M x T gy.1;have D:=gy.2;split at D
       ·rename_i aa hu;have UM:=Nat.eq_of_beq_eq_true D;subst UM;cases HS:ap.toList[x.on]? with
        |none=>rw[HS] at hu;cases hu
        |some ox=>
         rw[HS] at hu;have UY:x.on=i:=by
          by_cases he:x.on=i
          ·exact he
          ·exact absurd ht (aR.ne x.on i ox o aa (by simpa using HS) X he hu)
         rw[UY,jP] at H7;cases H7
       ·cases D
     ·rw[ic] at hp;cases hp
    have yN:∀x∈o.op.operands,∀d,ev (dL ap.toList bq (Y I.s) i) x=some d->bt e (a.eval x) d:=λ x T d G=>by
     cases x with
     |tmp t=>exact iR t (List.mem_append_left _ (List.mem_filterMap.2 ⟨.tmp t,by simpa using T,rfl⟩)) d G
     |const v=>simp only[ev,vK,Option.some.injEq] at G;subst G;exact vJ e v
     |global g=>cases G
     |func f=>simp only[ev,Option.some.injEq] at G;subst G;exact .fn (us:=[]) (vs:=[]) rfl rfl (λ i v d h=>by simp at h) (λ i v d h=>by simp at h)
    rcases rW i o TB X (Bool.eq_false_iff.2 λ h=>by rw[wn i h] at jP;cases jP) yQ DZ with⟨hg,dT,qH,Ee,oX⟩|⟨hg,G,hn,Ee,oX⟩|⟨nm,cs,aO,hg,lW,iw,hD,Sw,td,_,fy,hU,oX⟩|⟨g,ak,t,hg,lW,_,Z5,rT,SG,Ee,oX⟩
    ·rw[if_pos (oy _ hg)];have dh:∀p,N i=some p->e.bx p.1=none:=λ p hp=>by
      obtain⟨u,D⟩:=py i (qH p hp).1;refine cf.dX p.1 u λ j q M hu ju=>?_
      rcases Nat.lt_trichotomy j i with K|K|K
      ·exact D j q K ju
      ·subst K;rw[jP] at M;cases M
      ·have ng:j<H:=by
        rcases Nat.lt_or_ge j H with bN|bN
        ·exact bN
        ·rw[iP j bN] at ju;cases ju
       have ii:ap[j]?=some ap[j]:=by simp[show j<ap.size by omega]
       rcases rW j _ ng ii (Bool.eq_false_iff.2 λ h=>by rw[nG j (.inl h)] at ju;cases ju) (Bool.eq_false_iff.2 λ h=>by rw[nG j (.inr h)] at ju;cases ju) (D0 j M (by omega)).2 with⟨_,_,Bq,_⟩|⟨_,_,qN,_⟩|⟨_,_,_,_,_,_,_,_,_,_,_,hU,_⟩|⟨_,_,_,_,_,_,_,_,qN,_⟩
       ·exact λ V=>(py j (Bq q ju).1).2 i p K hp V.symm
       ·rw[qN] at ju;cases ju
       ·rw[hu] at hU;cases hU
       ·rw[qN] at ju;cases ju
     have cG:o.wp P a e.w (λ bu aH=>∃v V,bu=a.put o.dst v/\V.w=aH/\nD e V v (bq i) (N i)) (λ _ _ _=>False):=by
      rcases dT with dT|⟨yE,dT⟩
      ·exact dT a e ⟨yN,UP⟩ dh
      ·exact dT a e ⟨yN,UQ yE⟩ dh
     refine .inl (vj cG λ bu aH hh=>?_);obtain⟨v,V,rfl,rfl,ju⟩:=hh;exact ih _ _ V yG (cf.next aR X Z ju dh Ee oX) Ed DR Ea
    ·rw[if_neg (by rw[oy _ hg];simp)];exact ih _ _ e yG (cf.next aR X Z (v:=undef) (by rw[hn,G];exact⟨jI.refl e,.p (.raw undef)⟩) (λ p hp=>by rw[hn] at hp;cases hp) Ee oX) Ed DR Ea
    ·rw[if_pos (oy _ hg)];have yR:∀j p,aD.getD j false=true->i<j->N j=some p->p.1≠nm:=λ j p nh jr hp V=>by
      have ng:j<H:=by
       rcases Nat.lt_or_ge j H with bN|bN
       ·exact bN
       ·rw[iP j bN] at hp;cases hp
      have ii:ap[j]?=some ap[j]:=by simp[show j<ap.size by omega]
      rcases rW j _ ng ii (Bool.eq_false_iff.2 λ h=>by rw[nG j (.inl h)] at hp;cases hp) (Bool.eq_false_iff.2 λ h=>by rw[nG j (.inr h)] at hp;cases hp) (D0 j nh (by omega)).2 with⟨_,_,Bq,_⟩|⟨_,_,qN,_⟩|⟨Wm,_,_,_,_,_,yy,_,_,_,BG,_⟩|⟨_,_,_,_,_,_,_,_,qN,_⟩
      ·exact(py j (Bq p hp).1).2 i _ jr fy V.symm
      ·rw[qN] at hp;cases hp
      ·rw[BG] at hp;cases hp;simp only at V;have:=Jz (aI:=[]) jr hU fy;simp only at this;rw[<-V] at this;rcases yy with yy|yy
       ·simp at yy;exact absurd this yy
       ·obtain⟨x,T,R,lE⟩:=M7 yy jr (by simpa using X) lW;have:=cf.closed j _ ii nh x T R;rw[lE,jP] at this;cases this
      ·rw[qN] at hp;cases hp
     have SX:e.bx nm≠none->gu e nm cs:=λ cP=>by
      have ie:∀j p,aD.getD j false=true->¬j<i->N j=some p->p.1≠nm:=λ j p M jO hp=>by
       rcases Nat.lt_trichotomy j i with K|K|K
       ·exact absurd K jO
       ·subst K;rw[jP] at M;cases M
       ·exact yR j p M K hp
      rcases Fl i Sw with⟨u,D⟩|⟨j,jO,hj,D⟩
      ·exact cf.boxes nm cs u λ j p M hp=>by
        by_cases jO:j<i
        ·exact D j p jO hp
        ·exact ie j p M jO hp
      ·have ng:j<H:=by omega
       have ii:ap[j]?=some ap[j]:=by simp[show j<ap.size by omega]
       rcases rW j _ ng ii (Bool.eq_false_iff.2 λ h=>by rw[nG j (.inl h)] at hj;cases hj) (Bool.eq_false_iff.2 λ h=>by rw[nG j (.inr h)] at hj;cases hj) (HV.elim (λ h=>by rw[(h i DZ).1] at hU;cases hU) λ h=>h j) with⟨_,_,Bq,_⟩|⟨_,_,qN,_⟩|⟨Wm,_,_,_,S7,_,_,_,_,_,BG,SM,_⟩|⟨_,_,_,_,_,_,_,_,qN,_⟩
       ·obtain⟨h5,h6⟩:=py j (Bq _ hj).1;simp only at h5 h6;have nh:aD.getD j false=true:=by
         rcases nh:aD.getD j false with _|_
         ·exfalso;refine cP (cf.dX nm h5 λ k q J hu hq V=>?_);have lC:k<i:=by
           rcases Nat.lt_or_ge k i with h7|h7
           ·exact h7
           ·exact absurd V (ie k q J (by omega) hq)
          rcases Nat.lt_trichotomy k j with h7|h7|h7
          ·exact h6 k q h7 hq V
          ·subst h7;rw[nh] at J;cases J
          ·exact D k q h7 lC hq V
         ·rfl
        exact cf.news j _ nh hj λ k q J M hq=>by
         by_cases lC:k<i
         ·exact D k q J lC hq
         ·exact ie k q M lC hq
       ·rw[qN] at hj;cases hj
       ·rw[BG] at hj;cases hj;have:=Jz (aI:=[]) jO SM BG;rcases hD with hD|hD
        ·simp at hD;exact absurd this hD
        ·obtain⟨x,T,R,lE⟩:=M7 hD jO (by simp) S7;have nh:=ly x T R;rw[lE] at nh;exact cf.news j _ nh BG λ k q J M hq=>by
          by_cases lC:k<i
          ·exact D k q J lC hq
          ·exact ie k q M lC hq
       ·rw[qN] at hj;cases hj
     obtain⟨_,UW⟩:=td Γ a e cf.env yN SX;refine .inl (vj UW λ bu aH hh=>?_);obtain⟨rfl,V,rfl,hu⟩:=hh;have:=ih _ _ V yG (cf.Wg X lW Z fy oX (λ j p M jr hp=>yR j p M jr hp) hu) Ed DR Ea;rw[lW];exact this
    ·rw[if_pos (oy _ hg)];have bh:∀j p,av j=some p->j<H:=λ j p hp=>by
      rcases Nat.lt_or_ge j H with bN|bN
      ·exact bN
      ·rw[kW j bN] at hp;cases hp
     have uy:∀k p,av k=some p->p.1=g->∀j q,j<k->av j=some q->q.1=g->(∀Ia nu,j<Ia->Ia<k->av Ia=some nu->nu.1≠g)->∃oj tj,ap[j]?=some oj/\oj.dst=some tj/\∃ok,ap[k]?=some ok/\tj∈ok.looksAt ap:=by
      intro k p J DQ j q lB hj sU SU;have TO:=bh k p J;have ng:=bh j q hj;have ii:ap[j]?=some ap[j]:=by simp[show j<ap.size by omega]
      have Mv:ap[k]?=some ap[k]:=by simp[show k<ap.size by omega]
      rcases rW j _ ng ii (Bool.eq_false_iff.2 λ h=>by rw[sK j (.inl h)] at hj;cases hj) (Bool.eq_false_iff.2 λ h=>by rw[sK j (.inr h)] at hj;cases hj) (HV.elim (λ h=>by rw[(h i DZ).2] at oX;cases oX) λ h=>h j) with⟨_,_,_,_,BE⟩|⟨_,_,_,_,BE⟩|⟨_,_,_,_,_,_,_,_,_,_,_,_,BE⟩|⟨g1,G1,t1,_,kE,_,_,_,_,_,lD⟩
      ·rw[BE] at hj;cases hj
      ·rw[BE] at hj;cases hj
      ·rw[BE] at hj;cases hj
      rcases rW k _ TO Mv (Bool.eq_false_iff.2 λ h=>by rw[sK k (.inl h)] at J;cases J) (Bool.eq_false_iff.2 λ h=>by rw[sK k (.inr h)] at J;cases J) (HV.elim (λ h=>by rw[(h i DZ).2] at oX;cases oX) λ h=>h k) with⟨_,_,_,_,l6⟩|⟨_,_,_,_,l6⟩|⟨_,_,_,_,_,_,_,_,_,_,_,_,l6⟩|⟨g2,G2,t2,_,_,_,dz,_,_,_,rX⟩
      ·rw[l6] at J;cases J
      ·rw[l6] at J;cases J
      ·rw[l6] at J;cases J
      rw[rX] at J;cases J;simp only at DQ;subst DQ;have yK:Y (fF ap.toList av [] k) g2=some t1:=Pu (l:=ap.toList) lB hj sU (by simpa[ii] using kE) SU;unfold B5 at dz;rw[yK] at dz;simp only[List.any_eq_true] at dz;obtain⟨x,T,Eh⟩:=dz;refine⟨_,t1,ii,kE,_,Mv,?_⟩;cases x with
      |tmp aa=>have:aa=t1:=Nat.eq_of_beq_eq_true Eh;subst this;exact List.mem_append_left _ (List.mem_filterMap.2 ⟨.tmp aa,T,rfl⟩)
      |const v=>cases Eh
      |global v=>cases Eh
      |func v=>cases Eh
     have sM:∀(d k:Nat) p,av k=some p->p.1=g->aD.getD k false=true->∀j q,j+d=k->av j=some q->q.1=g->aD.getD j false=true:=by
      intro d;induction d using Nat.strongRecOn with
      |ind d U6=>
       intro k p J DQ mM j q Z1 hj sU;rcases Nat.eq_zero_or_pos d with h0|h0
       ·have:j=k:=by omega
        rw[this];exact mM
       ·rcases CJ (av:=av) (ak:=Y I.g) (h:=g) k with⟨_,D⟩|⟨j1,G1,TG,lD,_,D⟩
        ·exact absurd sU (D j q (by omega) hj)
        ·have Z2:j<=j1:=by
          rcases Nat.lt_or_ge j1 j with K|K
          ·exact absurd sU (D j q K (by omega) hj)
          ·exact K
         obtain⟨oj,tj,ii,pR,ok,wx,HN⟩:=uy k p J DQ j1 _ TG lD rfl D;have TH:aD.getD j1 false=true:=by
          rcases aR.dep k j1 ok oj tj wx ii (by omega) pR HN with⟨_,x,T,R,lE⟩|⟨h4,_⟩
          ·have:=cf.closed k ok wx mM x T R;rw[lE] at this;exact this
          ·omega
         exact U6 (j1-j) (by omega) j1 _ lD rfl TH j q (by omega) hj sU
     have yR:∀j p,aD.getD j false=true->i<j->av j=some p->p.1≠g:=λ j p M jr hp V=>by
      have:=sM (j-i) j p hp V M i _ (by omega) oX rfl;rw[jP] at this;cases this
     have qF:e.gi g=dZ av (Y I.g) i g:=by
      rcases CJ (av:=av) (ak:=Y I.g) (h:=g) i with⟨u,D⟩|⟨j,Gj,hj,hm,hs,D⟩
      ·rw[u];refine cf.gs g λ j p M hp=>?_
       rcases Nat.lt_trichotomy j i with K|K|K
       ·exact D j p K hp
       ·subst K;rw[jP] at M;cases M
       ·exact yR j p M K hp
      ·rw[hs];obtain⟨oj,tj,ii,pR,ok,wx,HN⟩:=uy i _ oX rfl j _ hj hm rfl D;rw[X] at wx;cases wx;have nh:aD.getD j false=true:=by
        rcases aR.dep i j o oj tj X ii (by omega) pR HN with⟨_,x,T,R,lE⟩|⟨h4,_⟩
        ·have:=ly x T R;rw[lE] at this;exact this
        ·omega
       refine cf.gw j _ nh hm λ k q J M hq=>?_
       rcases Nat.lt_trichotomy k i with K|K|K
       ·exact D k q J K hq
       ·subst K;rw[jP] at M;cases M
       ·exact yR k q M K hq
     refine .inl (vj (rT Γ a e cf.env yN qF) λ bu aH hh=>?_);obtain⟨v,V,rfl,rfl,hu⟩:=hh;exact ih _ _ V yG (cf.Wf aR X Z SG oX yR hu) Ed DR Ea
theorem CM{l ik:List Oper}{bq:Nat->F}{S:Nat->Option F}:∀i,(∀j,j<i->l[j]?=ik[j]?)->dL l bq S i=dL ik bq S i
 |0,_=>rfl
 |i+1,h=>by rw[dL,dL,CM i λ j hj=>h j (by omega),h i (by omega)]
theorem Aj{N jV:Nat->Option (Nat×List F)}{B:Nat->Option (List F)}:∀i,(∀j,j<i->N j=jV j)->dp N B i=dp jV B i
 |0,_=>rfl
 |i+1,h=>by rw[dp,dp,Aj i λ j hj=>h j (by omega),h i (by omega)]
theorem Jx{bM qp:Nat->Bool}{N jV:Nat->Option (Nat×List F)}{aI:List Nat}:∀i,(∀j,j<i->N j=jV j/\bM j=qp j)->fz bM N aI i=fz qp jV aI i
 |0,_=>rfl
 |i+1,h=>by rw[fz,fz,Jx i λ j hj=>h j (by omega),(h i (by omega)).1,(h i (by omega)).2]
theorem Fm{av dF:Nat->Option (Nat×Gr)}{ak:Nat->Option Gr}:∀i,(∀j,j<i->av j=dF j)->dZ av ak i=dZ dF ak i
 |0,_=>rfl
 |i+1,h=>by rw[dZ,dZ,Fm i λ j hj=>h j (by omega),h i (by omega)]
theorem JB{l ik:List Oper}{av dF:Nat->Option (Nat×Gr)}{aP:List (Nat×Nat)}:∀i,(∀j,j<i->av j=dF j/\l[j]?=ik[j]?)->fF l av aP i=fF ik dF aP i
 |0,_=>rfl
 |i+1,h=>by rw[fF,fF,JB i λ j hj=>h j (by omega),(h i (by omega)).1,(h i (by omega)).2]
def tP(B:List (Nat×List F)):List (Nat×List F)->Prop
 |[]=>True
 |p::l=>Y B p.1=some p.2/\tP B l
theorem tP.get{B:List (Nat×List F)}:∀{l:List (Nat×List F)}(_:tP B l){b:Nat}{cs:List F},Y l b=some cs->Y B b=some cs
 |[],_,_,_,h=>by cases h
 |(k,v)::l,hs,b,cs,h=>by
  rw[cL] at h;split at h
  ·rename_i J;subst J;cases h;exact hs.1
  ·exact hs.2.get h
theorem Km{id:Nat}{Q:Exit->St->Prop}{I:St}(B:List (Nat×List F))(m9:tP I.b B)(l1 l2:List Oper){l:List Oper}(M:l=l1++l2)(hm:P.follows .mixedOrders=true)(hB:pq l.toArray Γ.n=true)(hT:sj l.toArray l1.length=true)
 (h:b9 P Γ.n l B I.b (bp P Γ l Q l2) 0 [] [] l1 I):aJ P Γ (.region id l.toArray true) Q I:=by
 refine⟨λ a e L=>?_⟩;have aR:=E6 hB;obtain⟨bq,N,bM,av,ji,u,D,K,h4,h5⟩:=b9.extract l1 0 [] [] I h;have qK:∀j,j<l1.length->l1[j]?=l[j]?:=λ j hj=>by rw[M,List.getElem?_append_left hj]
 have cg:l1.length<=l.toArray.size:=by rw[M];simp
 have Hn:l.toArray.toList.drop l1.length=l2:=by rw[M];simp
 have hN:∀i,i<=l1.length->dp N (Y I.b) i=dp (λ i=>if i<l1.length then N i else none) (Y I.b) i:=λ i Z=>Aj i λ j hj=>by rw[if_pos (by omega)]
 have hD:∀i,i<=l1.length->fz bM N [] i=fz bM (λ i=>if i<l1.length then N i else none) [] i:=λ i Z=>Jx i λ j hj=>⟨by rw[if_pos (by omega)],rfl⟩
 have hG:∀i,i<=l1.length->dZ av (Y I.g) i=dZ (λ i=>if i<l1.length then av i else none) (Y I.g) i:=λ i Z=>Fm i λ j hj=>by rw[if_pos (by omega)]
 have hL:∀i,i<=l1.length->fF l1 av [] i=fF l.toArray.toList (λ i=>if i<l1.length then av i else none) [] i:=λ i Z=>JB i λ j hj=>⟨by rw[if_pos (by omega)],by simpa using qK j (by omega)⟩
 have:=An (P:=P) (Γ:=Γ) (I:=I) (ap:=l.toArray) (H:=l1.length) (λ _=>false) (λ _=>false) (λ _=>true) aR (Gl hT) cg (bq:=bq) (N:=λ i=>if i<l1.length then N i else none) (bM:=bM) (av:=λ i=>if i<l1.length then av i else none) (B:=B) (a0:=a) (Q:=iZ Γ Q) (λ i Z=>if_neg (by omega)) (λ i Z=>if_neg (by omega)) (λ i Z=>by simp at Z) (λ i Z=>by simp at Z) (λ _ _ _=>.inl rfl) (.inr λ _=>rfl) (λ b cs=>m9.get)
  (λ i o Z X _ _ _=>by
   have h6:=h5 i o (by rw[qK i Z];simpa using X);rw[Nat.zero_add,hN i (by omega),hD i (by omega),hG i (by omega),hL i (by omega)] at h6;have e5:dL l1 bq (Y I.s) i=dL l.toArray.toList bq (Y I.s) i:=CM i λ j hj=>by simpa using qK j (by omega)
   rw[e5] at h6
   simpa[Z] using h6)
  (λ aD b V hv q2 q3 _=>Fv aR hT _ _ aD b V.w (by omega) (Nat.le_refl _) hv.kK q2 q3 (by rw[Hn];exact u.run b V (hv.om aR (ji:=ji) (by rw[K];exact CM _ λ j hj=>by simpa using qK j hj) (by rw[h4];exact hN _ (Nat.le_refl _)) (by rw[D];exact hG _ (Nat.le_refl _)) q2 q3))) (λ _ _ _ _ _ h=>by cases h)
  l.toArray.size (Array.replicate l.toArray.size false) a {e with w:=e.w.drew} (Fu _).symm
  ?_ (λ t _ ht=>by have wJ:t<l.length:=by simpa using ht
                   simp[wJ]) (λ i Z=>by cases Z) (λ i Z=>by cases Z)
 ·exact wp_region_any hm this
 ·have hg:jI e {e with w:=e.w.drew}:=⟨(Below.refl _ _).drew,λ _ _=>rfl,rfl,rfl,rfl⟩;have ea:=L.grow hg;refine⟨by simp,L.size,L.df,λ i o _ M=>?_,λ i o t _ M=>?_,λ t _=>rfl,ea.bm,λ b cs R _=>ea.boxes b cs R,λ i p M=>?_,λ b R _=>ea.dX b R,λ g _=>ea.gs g,λ i p M=>?_,ea.env⟩
  all_goals(simp[Array.getElem?_replicate] at M;split at M<;>simp at M)
end
end Go.Proofs.YtcnefjfboagbmaaGreat
end
section
namespace Go.Proofs.YtcnefjfboagbmaaGreat
open Go.RowKit
section
variable{P:Program}{ah:Nat->Option TI}{Γ:bE}{I bS:St}{Q:Exit->St->Prop}{bC:St->Prop}
theorem mg(h:bC I):ql bC Q .normal I:=h
theorem Xw{id:Nat}(h:Q .normal I):oR id Q (.exit id) I:=by simp only[oR,if_true];exact h
theorem Xx{id nk:Nat}(cP:(nk==id)=false)(h:Q (.exit nk) I):oR id Q (.exit nk) I:=by
 have:nk≠id:=by simpa using cP
 simp only[oR,if_neg this];exact h
def CK(t:Bool)(ae aF:Prop):Prop:=(t=true->ae)/\(t=false->aF)
theorem Gd{x y:Code}{aT:Operand}{t:Bool}(hz:ev (Y I.s) aT=some (.p (.raw (.bool t))))(h:CK t (aJ P Γ x Q I) (aJ P Γ y Q I)):aJ P Γ (.cond aT x y) Q I:=QX hz h.1 h.2
section
variable{ae aF:Prop}
theorem Gn(h:ae):CK true ae aF:=⟨λ _=>h,λ bN=>by cases bN⟩
theorem AP(h:aF):CK false ae aF:=⟨λ bN=>(by cases bN),λ _=>h⟩
theorem cz{t:Bool}(ht:t=true->ae)(hf:t=false->aF):CK t ae aF:=⟨ht,hf⟩
end
def Fin(ah:Nat->Option TI)(rs:List ResultVar)(d:F):Exit->St->Prop:=λ ex I=>(ex=.normal\/ex=.ret)/\zY ah I rs=some d
theorem K5{rs:List ResultVar}{d dH:F}(h:zY ah I rs=some dH)(G:dH=d):Fin ah rs d .ret I:=⟨.inr rfl,by rw[h,G]⟩
theorem R8{rs:List ResultVar}{d dH:F}(h:zY ah I rs=some dH)(G:dH=d):Fin ah rs d .normal I:=⟨.inl rfl,by rw[h,G]⟩
def qy{aq:Type}:Nat->List F->(List (Nat×F)->Option aq)->Option aq
 |_,[],k=>k []
 |n,d::ds,k=>qy (n+1) ds λ r=>k ((n,d)::r)
theorem yl{aq:Type}:∀(n:Nat)(ds:List F)(k:List (Nat×F)->Option aq),qy n ds k=k (sG.go n ds)
 |_,[],_=>rfl
 |n,d::ds,k=>by rw[qy,yl (n+1) ds];rfl
theorem Xn(hT:cR P ah){f:FuncId}{fn:Func}{c:Code}{ds:List F}{d:F}{rs:List ResultVar}{n:Nat}{s:List (Nat×F)}(hf:P.funcs[f]?=some fn)(R:fn.body=some c)(ic:fn.ntmps=n)(kY:fn.results.toList=rs)(hn:Nat.ble ds.length n=true)(hs:qy 0 ds some=some s)
 (h:∀w cl,aJ P ⟨n,w,cl,λ _=>False,[],[]⟩ c (Fin ah rs d) ⟨s,[],[]⟩):aW P f ds d:=by
 subst ic;subst kY;rw[yl] at hs;cases hs;exact Xo hT hf R (Nat.le_of_ble_eq_true hn) h
section
variable{o:Oper}{l0 l:List Oper}{s:List (Nat×F)}{b:List (Nat×List F)}{g:List (Nat×Gr)}{t:Nat}{d:F}
theorem oS{n:Nat}(G:o.dst=some t)(M:Nat.blt t n=true):t6 n o.dst=true:=by rw[G];exact M
theorem bf(hq:dm P o (Y s) (Y b) d none)(hg:gd l0 o (Y s)=some true)(G:o.dst=some t)(M:Nat.blt t Γ.n=true)(h:bp P Γ l0 Q l ⟨(t,d)::s,b,g⟩):bp P Γ l0 Q (o::l) ⟨s,b,g⟩:=
 Kh (I:=⟨s,b,g⟩) hq hg (oS G M) (λ p hp=>by cases hp) (by rw[G];exact h)
theorem xQ{nm:Nat}{cs:List F}(hq:dm P o (Y s) (Y b) d (some (nm,cs)))(hg:gd l0 o (Y s)=some true)(G:o.dst=some t)(M:Nat.blt t Γ.n=true)(hf:Y b nm=none)(h:bp P Γ l0 Q l ⟨(t,d)::s,(nm,cs)::b,g⟩):bp P Γ l0 Q (o::l) ⟨s,b,g⟩:=
 Kh (I:=⟨s,b,g⟩) hq hg (oS G M) (λ p hp=>by cases hp;exact hf) (by rw[G];exact h)
def tv{aq:Type}:Nat->List (Nat×List F)->(Nat->Option aq)->Option aq
 |n,[],k=>k n
 |n,_::l,k=>tv (n+1) l k
theorem Qo{nm:Nat}{ty:TypeId}{x:Operand}{dx:F}{cs:List F}(X:o.op=.box ty x)(_:tv 0 b some=some nm)(T:ev (Y s) x=some dx)(J:j9 dx=true)(cr:lR dx some=some cs)(hg:gd l0 o (Y s)=some true)(G:o.dst=some t)(M:Nat.blt t Γ.n=true)(hf:Y b nm=none)(h:bp P Γ l0 Q l ⟨(t,.ptr nm 0)::s,(nm,cs)::b,g⟩):bp P Γ l0 Q (o::l) ⟨s,b,g⟩:=
 xQ (C8 nm X T J cr) hg G M hf h
theorem Qr(hT:cR P ah){nm:Nat}{ty:TypeId}{i:TI}{cs:List F}(X:o.op=.alloc ty)(_:tv 0 b some=some nm)(ht:ah ty=some i)(J:j9 (kP i.zero)=true)(cr:pK i.zero (λ d=>lR d some)=some cs)(hg:gd l0 o (Y s)=some true)(G:o.dst=some t)(M:Nat.blt t Γ.n=true)(hf:Y b nm=none)(h:bp P Γ l0 Q l ⟨(t,.ptr nm 0)::s,(nm,cs)::b,g⟩):bp P Γ l0 Q (o::l) ⟨s,b,g⟩:=
 xQ (tQ hT nm X ht J cr) hg G M hf h
theorem mq(hT:cR P ah)(hq:ax ah (Y s) (Y b) o.op=some d)(hg:gd l0 o (Y s)=some true)(G:o.dst=some t)(M:Nat.blt t Γ.n=true)(h:bp P Γ l0 Q l ⟨(t,d)::s,b,g⟩):bp P Γ l0 Q (o::l) ⟨s,b,g⟩:=bf (rn hT hq) hg G M h
theorem Qs(hg:gd l0 o (Y s)=some false)(G:o.dst=some t)(M:Nat.blt t Γ.n=true)(h:bp P Γ l0 Q l ⟨(t,.p (.raw undef))::s,b,g⟩):bp P Γ l0 Q (o::l) ⟨s,b,g⟩:=
 QP (I:=⟨s,b,g⟩) hg (oS G M) (by rw[G];exact h)
theorem Qt(hT:cR P ah){ty:TypeId}{x y:Operand}{nm of:Nat}{cs aO:List F}{dy:F}{i:TI}(X:o.op=.store ty x y)(G:o.dst=none)(ht:ah ty=some i)(T:ev (Y s) x=some (.ptr nm of))(R:Y b nm=some cs)(hy:ev (Y s) y=some dy)
 (M:sb dy=true)(bT:Nat.beq dy.cells.length i.sz=true)(b8:rd cs of dy some=some aO)(hg:gd l0 o (Y s)=some true)(h:bp P Γ l0 Q l ⟨s,(nm,aO)::b,g⟩):bp P Γ l0 Q (o::l) ⟨s,b,g⟩:=by
 obtain⟨u,D⟩:=Pz b8;cases D;exact tR (I:=⟨s,b,g⟩) hg (JF hT X G ht T R hy M (Nat.eq_of_beq_eq_true bT) u) h
theorem ln(hT:cR P ah){ty:TypeId}{x y:Operand}{gn n m el z1 z2:Nat}{z3:Value}{ps qs:List Pl}{dy:F}{i:TI}(X:o.op=.call {callee:=.builtin .append,args:=#[x,y],argTypes:=#[ty,ty]})(ht:ah ty=some ⟨.slice el,z1,z2,z3⟩)(dR:ah el=some i)(gI:Nat.beq i.zero.cells.size i.sz=true)(nT:Nat.blt 0 i.sz=true)
 (hg:gd l0 o (Y s)=some true)(G:o.dst=some t)(M:Nat.blt t Γ.n=true)(T:ev (Y s) x=some (.aU gn n ps))(gp:Y g gn=some ⟨el,i.sz,n⟩)(hy:ev (Y s) y=some dy)(kF:mj dy=some (m,qs))(dT:qs.length=m*i.sz)
 (fM:n+m<=maxLen)(fU:(n+m)*i.bytes<=140737488355328)(h:bp P Γ l0 Q l ⟨(t,.aU gn (n+m) (ps++qs))::s,b,(gn,⟨el,i.sz,n+m⟩)::g⟩):bp P Γ l0 Q (o::l) ⟨s,b,g⟩:=
 tR (I:=⟨s,b,g⟩) hg (QS hT X ht dR (Nat.eq_of_beq_eq_true gI) (by simpa[Nat.blt_eq] using nT) (oS G M) T gp hy kF dT fM fU) (by rw[G];exact h)
variable{n:Nat}{B B0:List (Nat×List F)}
variable{aI:List Nat}{aP:List (Nat×Nat)}{ix:Nat}
theorem cD(hq:dm P o (Y s) (Y B) d none)(hg:gd l0 o (Y s)=some true)(G:o.dst=some t)(h:b9 P n l0 B B0 bC (ix+1) aI aP l ⟨(t,d)::s,b,g⟩):b9 P n l0 B B0 bC ix aI aP (o::l) ⟨s,b,g⟩:=
 .inl ⟨d,none,hg,.inl hq,λ p hp=>(by cases hp),by rw[G];exact h⟩
theorem qe{nm:Nat}{cs:List F}(hq:dm P o (Y s) (Y B) d (some (nm,cs)))(hg:gd l0 o (Y s)=some true)(G:o.dst=some t)(hf:Y b nm=none)(ow:Y B nm=none)(h:b9 P n l0 B B0 bC (ix+1) aI aP l ⟨(t,d)::s,(nm,cs)::b,g⟩):b9 P n l0 B B0 bC ix aI aP (o::l) ⟨s,b,g⟩:=
 .inl ⟨d,some (nm,cs),hg,.inl hq,λ p hp=>(by cases hp;exact⟨hf,ow⟩),by rw[G];exact h⟩
theorem XD{nm:Nat}{ty:TypeId}{x:Operand}{dx:F}{cs:List F}(X:o.op=.box ty x)(_:tv 0 b some=some nm)(T:ev (Y s) x=some dx)(J:j9 dx=true)(cr:lR dx some=some cs)(hg:gd l0 o (Y s)=some true)(G:o.dst=some t)(hf:Y b nm=none)(ow:Y B nm=none)(h:b9 P n l0 B B0 bC (ix+1) aI aP l ⟨(t,.ptr nm 0)::s,(nm,cs)::b,g⟩):b9 P n l0 B B0 bC ix aI aP (o::l) ⟨s,b,g⟩:=
 qe (C8 nm X T J cr) hg G hf ow h
theorem XE(hT:cR P ah){nm:Nat}{ty:TypeId}{i:TI}{cs:List F}(X:o.op=.alloc ty)(_:tv 0 b some=some nm)(ht:ah ty=some i)(J:j9 (kP i.zero)=true)(cr:pK i.zero (λ d=>lR d some)=some cs)(hg:gd l0 o (Y s)=some true)(G:o.dst=some t)(hf:Y b nm=none)(ow:Y B nm=none)(h:b9 P n l0 B B0 bC (ix+1) aI aP l ⟨(t,.ptr nm 0)::s,(nm,cs)::b,g⟩):b9 P n l0 B B0 bC ix aI aP (o::l) ⟨s,b,g⟩:=
 qe (tQ hT nm X ht J cr) hg G hf ow h
theorem Cp(hT:cR P ah)(hq:ax ah (Y s) (Y B) o.op=some d)(hg:gd l0 o (Y s)=some true)(G:o.dst=some t)(h:b9 P n l0 B B0 bC (ix+1) aI aP l ⟨(t,d)::s,b,g⟩):b9 P n l0 B B0 bC ix aI aP (o::l) ⟨s,b,g⟩:=cD (rn hT hq) hg G h
theorem zv(hT:cR P ah)(hq:ax ah (Y s) (Y B0) o.op=some d)(hg:gd l0 o (Y s)=some true)(G:o.dst=some t)(he:yk l0 o=true)(h:b9 P n l0 B B0 bC (ix+1) aI aP l ⟨(t,d)::s,b,g⟩):b9 P n l0 B B0 bC ix aI aP (o::l) ⟨s,b,g⟩:=
 .inl ⟨d,none,hg,.inr ⟨he,rn hT hq⟩,λ p hp=>(by cases hp),by rw[G];exact h⟩
theorem XF(hg:gd l0 o (Y s)=some false)(G:o.dst=some t)(h:b9 P n l0 B B0 bC (ix+1) aI aP l ⟨(t,.p (.raw undef))::s,b,g⟩):b9 P n l0 B B0 bC ix aI aP (o::l) ⟨s,b,g⟩:=
 .inr (.inl ⟨hg,by rw[G];exact h⟩)
theorem Yt{e:ay}(aR:gx Γ e){nm k:Nat}{vs us:List Value}{el:TypeId}{cs:List F}(R:e.bx nm=some k)(J:e.w.heap[k]?=some (.cells vs.toArray el (0,0)))(hr:DReps e us cs):FS Γ e {e with w:=e.w.setRow k us.toArray} nm cs:=by
 obtain⟨u,D,K,h4⟩:=aR.bx nm k R;have gB:∀j,j≠k->(e.w.setRow k us.toArray).heap[j]?=e.w.heap[j]?:=λ j hj=>setRow_other e.w k j _ hj
 have A:Ends e {e with w:=e.w.setRow k us.toArray}:=by
  refine⟨λ bj o v de hv=>?_,λ _ _ h=>h,λ _ ak h=>⟨ak,h,rfl,rfl,Nat.le_refl _⟩,λ j g ak cur h5 h6 h7=>⟨h5,cur,?_,rfl⟩⟩
  ·have cP:bj≠k:=λ V=>by subst V;exact absurd (de 0 K) (by omega)
   exact⟨de,by show(e.w.setRow k us.toArray).cell? _=_;rw[World.cell?_of_block (w:=e.w) (gB bj cP)];exact hv⟩
  ·show(e.w.setRow k us.toArray).heap[j]?=_;rw[gB j (λ V=>by subst V;rw[h4] at h5;cases h5)];exact h7
 refine⟨A,?_,rfl,rfl,⟨k,us,el,R,C7 J,hr.next A⟩,λ c ds cP iy=>?_⟩
 ·refine⟨⟨aR.kept.os,aR.kept.tape,aR.kept.output,by show _<=(e.w.setRow k us.toArray).heap.size;rw[setRow_size];exact aR.kept.size,λ j hj X=>?_⟩,aR.cl,λ bj j hj=>?_,aR.inj,λ j g hg=>?_,aR.kb⟩
  ·show(e.w.setRow k us.toArray).heap[j]?=_;rw[gB j (λ V=>by subst V;rcases D with D|D<;>first|omega|exact X D)];exact aR.kept.block j hj X
  ·obtain⟨h5,h6,h7,h8⟩:=aR.bx bj j hj;exact⟨by show j<(e.w.setRow k us.toArray).heap.size;rw[setRow_size];exact h5,h6,h7,h8⟩
  ·obtain⟨ak,cur,h5,h6,h7,h8,h9⟩:=aR.gr j g hg;refine⟨ak,cur,h5,by show j<(e.w.setRow k us.toArray).heap.size;rw[setRow_size];exact h6,h7,h8,?_⟩;show(e.w.setRow k us.toArray).heap[j]?=_;rw[gB j (λ V=>by subst V;rw[h4] at hg;cases hg)];exact h9
 ·obtain⟨jb,eV,AY,h5,h6,h7⟩:=iy;refine⟨jb,eV,AY,h5,?_,h7.next A⟩;show(e.w.setRow k us.toArray).heap[jb]?=_;rw[gB jb (λ V=>cP (by subst V;exact aR.inj _ _ _ h5 R))];exact h6
theorem YQ(hT:cR P ah){S:Nat->Option F}{ty:TypeId}{x y:Operand}{nm of:Nat}{cs aO:List F}{dy:F}{i:TI}(X:o.op=.store ty x y)(G:o.dst=none)(ht:ah ty=some i)(T:ev S x=some (.ptr nm of))(hy:ev S y=some dy)
 (M:sb dy=true)(bT:Nat.beq dy.cells.length i.sz=true)(b8:rd cs of dy some=some aO):FP P o S nm cs aO:=by
 intro Γ a e aR hs iy;obtain⟨Bp,b8⟩:=Pz b8;cases b8;have u:=hs x (by rw[X];simp[Op.operands]) _ T;have D:=hs y (by rw[X];simp[Op.operands]) _ hy;have J:j9 dy=true:=by cases dy<;>first|exact M|rfl
 have hr:=tC D J;generalize dj:a.eval x=vx at u;cases u with
 |ptr u=>
  refine⟨by rw[u];simp,?_⟩;obtain⟨k,vs,el,K,h4,h5⟩:=iy (by rw[u];simp);rename_i k0;obtain rfl:k=k0:=by rw[K] at u;cases u;rfl
  have aap:=Nat.eq_of_beq_eq_true bT;have cg:(a.eval y).cells.size=i.sz:=by have:=hr.1;simp at this;omega
  have MF:=run_storeCells_at P k of el (a.eval y).cells.toList 0 vs.toArray e.w h4 (by have:=hr.1;have:=h5.1;simp at*;omega) (Ng D M);unfold Oper.wp;have e1:(execOp a.eval o).run P e.w=.ok .skip (e.w.setRow k (vs.take of++(a.eval y).cells.toList++vs.drop (of+(a.eval y).cells.toList.length)).toArray):=by obtain⟨dst,op,type,pos,after,guard⟩:=o;simp only at X;subst X;simp only[Nat.add_zero] at MF;simp[execOp,Instr.storeAt,Instr.sureAddr,dj,storeVar,run_sizeOf hT ht,cg,MF]
  rw[e1];refine⟨rfl,_,rfl,Yt aR K h4 ?_⟩;unfold stored;rw[hr.1];exact((h5.take of).append hr).append (h5.drop _)
theorem sf(hT:cR P ah){ty:TypeId}{x y:Operand}{nm of:Nat}{cs aO:List F}{dy:F}{i:TI}(X:o.op=.store ty x y)(G:o.dst=none)(ht:ah ty=some i)(T:ev (Y s) x=some (.ptr nm of))(R:Y b nm=some cs)(hy:ev (Y s) y=some dy)
 (M:sb dy=true)(bT:Nat.beq dy.cells.length i.sz=true)(b8:rd cs of dy some=some aO)(hg:gd l0 o (Y s)=some true)(hB:Y B nm=none)(hD:aI.contains nm=false\/BZ l0 o ix=true)(h:b9 P n l0 B B0 bC (ix+1) (nm::aI) aP l ⟨s,(nm,aO)::b,g⟩):b9 P n l0 B B0 bC ix aI aP (o::l) ⟨s,b,g⟩:=
 .inr (.inr (.inl ⟨nm,cs,aO,hg,G,hB,hD,R,YQ hT X G ht T hy M bT b8,h⟩))
theorem n9.post{e:ay}{w:World}{gn:Nat}{ak G0:Gr}{k:Option Nat}{v:Value}{d:F}(h:n9 e w gn ak k)(aR:gx Γ e)(hg:e.gi gn=some G0)(dR:ak.el=G0.el)(bT:ak.sz=G0.sz)(cg:G0.len<=ak.len)(hr:bt (e.more w gn ak k) v d):FE Γ e (e.more w gn ak k) gn ak v d:=
 ⟨h.ends aR hg dR bT cg,h.ok aR hg dR,rfl,λ _=>rfl,λ _ _ R=>h.box aR hg dR bT cg R,hr⟩
theorem Sk(hT:cR P ah){S:Nat->Option F}{ty:TypeId}{x y:Operand}{gn n m el z1 z2:Nat}{z3:Value}{ps qs:List Pl}{dy:F}{i:TI}(X:o.op=.call {callee:=.builtin .append,args:=#[x,y],argTypes:=#[ty,ty]})(ht:ah ty=some ⟨.slice el,z1,z2,z3⟩)(dR:ah el=some i)(gI:Nat.beq i.zero.cells.size i.sz=true)(nT:Nat.blt 0 i.sz=true)
 (T:ev S x=some (.aU gn n ps))(hy:ev S y=some dy)(kF:mj dy=some (m,qs))(dT:qs.length=m*i.sz)(fM:n+m<=maxLen)(fU:(n+m)*i.bytes<=140737488355328):GStep P o S gn (some ⟨el,i.sz,n⟩) ⟨el,i.sz,n+m⟩ (.aU gn (n+m) (ps++qs)):=by
 intro Γ a e aR hs fh;have bV:=hs x (by rw[X];simp[Op.operands,Call.operands]) _ T;have eR:=u7 (hs y (by rw[X];simp[Op.operands,Call.operands]) _ hy) kF;obtain⟨v,aH,k,cG,oC,nR⟩:=F8 hT aR (ty:=o.type) ht dR (Nat.eq_of_beq_eq_true gI) (by simpa[Nat.blt_eq] using nT) bV fh eR dT fM fU;unfold Oper.wp;have e1:(execOp a.eval o).run P e.w=.ok (.value v) aH:=by obtain⟨dst,op,type,pos,after,guard⟩:=o;simp only at X;subst X;simp only[execOp,resolve,invoke,builtin,Sem.run_bind,Sem.run_pure,Result.andThen_ok,List.map_toArray,List.map_cons,List.map_nil,cG]
 rw[e1];exact⟨v,_,rfl,rfl,oC.post aR fh rfl rfl (by simp) nR⟩
theorem gx.group{e:ay}(aR:gx Γ e){gn:Nat}(fh:e.gi gn=none)(ak:Gr):gx Γ {e with gi:=λ h=>if h=gn then some ak else e.gi h}/\Ends e {e with gi:=λ h=>if h=gn then some ak else e.gi h}:=by
 have pd:∀k,e.gr k≠some gn:=λ k J=>by obtain⟨ak,_,h,_⟩:=aR.gr k gn J;rw[fh] at h;cases h
 refine⟨⟨aR.kept,aR.cl,aR.bx,aR.inj,λ k d9 J=>?_,aR.kb⟩,⟨λ _ _ _ u D=>⟨u,D⟩,λ _ _ h=>h,λ d9 lO h=>⟨lO,?_,rfl,rfl,Nat.le_refl _⟩,λ _ _ _ cur u _ K=>⟨u,cur,K,rfl⟩⟩⟩
 ·obtain⟨lO,cur,u,D⟩:=aR.gr k d9 J;exact⟨lO,cur,by show(if d9=gn then _ else e.gi d9)=_;rw[if_neg (λ V=>pd k (by rw[<-V];exact J))];exact u,D⟩
 ·show(if d9=gn then _ else e.gi d9)=_;rw[if_neg (λ V=>by rw[V,fh] at h;cases h)];exact h
theorem Sl(hT:cR P ah){S:Nat->Option F}{ty:TypeId}{x y:Operand}(gn:Nat){n m el z1 z2:Nat}{z3:Value}{ps qs:List Pl}{dy:F}{i:TI}(X:o.op=.call {callee:=.builtin .append,args:=#[x,y],argTypes:=#[ty,ty]})(ht:ah ty=some ⟨.slice el,z1,z2,z3⟩)(dR:ah el=some i)(gI:Nat.beq i.zero.cells.size i.sz=true)(nT:Nat.blt 0 i.sz=true)
 (T:ev S x=some (.p (.sl true n ps)))(cM:ps.length=n*i.sz)(hy:ev S y=some dy)(kF:mj dy=some (m,qs))(dT:qs.length=m*i.sz)(fM:n+m<=maxLen)(fU:(n+m)*i.bytes<=140737488355328):GStep P o S gn none ⟨el,i.sz,n+m⟩ (.aU gn (n+m) (ps++qs)):=by
 intro Γ a e aR hs fh;have bV:=hs x (by rw[X];simp[Op.operands,Call.operands]) _ T;have eR:=u7 (hs y (by rw[X];simp[Op.operands,Call.operands]) _ hy) kF;obtain⟨sZ,Dz⟩:=aR.group fh ⟨el,i.sz,n⟩;have cZ:bt {e with gi:=λ h=>if h=gn then some ⟨el,i.sz,n⟩ else e.gi h} (a.eval x) (.aU gn n ps):=by
  generalize a.eval x=vx at bV;cases bV with
  |p h=>have D:=(h.next Dz).low;obtain⟨ar,bP,hv,_,_,_,h6,_⟩:=pu h;exact .aU D ⟨⟨el,i.sz,n⟩,ar,bP,by simp,hv,Nat.le_refl _,cM,.inl (h6 rfl)⟩
 obtain⟨v,aH,k,cG,oC,nR⟩:=F8 hT sZ (ty:=o.type) ht dR (Nat.eq_of_beq_eq_true gI) (by simpa[Nat.blt_eq] using nT) cZ (by simp) (eR.next Dz) dT fM fU;have qP:=oC.post sZ (G0:=⟨el,i.sz,n⟩) (by simp) rfl rfl (by simp) nR;unfold Oper.wp;have e1:(execOp a.eval o).run P e.w=.ok (.value v) aH:=by obtain⟨dst,op,type,pos,after,guard⟩:=o;simp only at X;subst X;simp only[execOp,resolve,invoke,builtin,Sem.run_bind,Sem.run_pure,Result.andThen_ok,List.map_toArray,List.map_cons,List.map_nil,cG]
 rw[e1];refine⟨v,_,rfl,rfl,⟨Dz.trans qP.ends,qP.ok,qP.bx,λ h=>?_,λ c ds R=>qP.other c ds (R.ends Dz rfl),qP.rep⟩⟩;rw[qP.gi]
 by_cases V:h=gn
 ·simp[V]
 ·simp[V]
theorem nv(hT:cR P ah){ty:TypeId}{x y:Operand}{gn iD m el z1 z2:Nat}{z3:Value}{ps qs:List Pl}{dy:F}{i:TI}(X:o.op=.call {callee:=.builtin .append,args:=#[x,y],argTypes:=#[ty,ty]})(ht:ah ty=some ⟨.slice el,z1,z2,z3⟩)(dR:ah el=some i)(gI:Nat.beq i.zero.cells.size i.sz=true)(nT:Nat.blt 0 i.sz=true)
 (hg:gd l0 o (Y s)=some true)(G:o.dst=some t)(T:ev (Y s) x=some (.aU gn iD ps))(gp:Y g gn=some ⟨el,i.sz,iD⟩)(hL:B5 o aP gn=true)(hy:ev (Y s) y=some dy)(kF:mj dy=some (m,qs))(dT:qs.length=m*i.sz)
 (fM:iD+m<=maxLen)(fU:(iD+m)*i.bytes<=140737488355328)(h:b9 P n l0 B B0 bC (ix+1) aI ((gn,t)::aP) l ⟨(t,.aU gn (iD+m) (ps++qs))::s,b,(gn,⟨el,i.sz,iD+m⟩)::g⟩):b9 P n l0 B B0 bC ix aI aP (o::l) ⟨s,b,g⟩:=
 .inr (.inr (.inr ⟨gn,_,_,t,hg,G,by simp[sw,X],hL,by rw[gp];exact Sk hT X ht dR gI nT T hy kF dT fM fU,by rw[G];exact h⟩))
theorem E3(hT:cR P ah){ty:TypeId}{x y:Operand}(gn:Nat){iD m el z1 z2:Nat}{z3:Value}{ps qs:List Pl}{dy:F}{i:TI}(X:o.op=.call {callee:=.builtin .append,args:=#[x,y],argTypes:=#[ty,ty]})(ht:ah ty=some ⟨.slice el,z1,z2,z3⟩)(dR:ah el=some i)(gI:Nat.beq i.zero.cells.size i.sz=true)(nT:Nat.blt 0 i.sz=true)
 (hg:gd l0 o (Y s)=some true)(G:o.dst=some t)(T:ev (Y s) x=some (.p (.sl true iD ps)))(cM:ps.length=iD*i.sz)(gp:Y g gn=none)(hL:B5 o aP gn=true)(hy:ev (Y s) y=some dy)(kF:mj dy=some (m,qs))(dT:qs.length=m*i.sz)
 (fM:iD+m<=maxLen)(fU:(iD+m)*i.bytes<=140737488355328)(h:b9 P n l0 B B0 bC (ix+1) aI ((gn,t)::aP) l ⟨(t,.aU gn (iD+m) (ps++qs))::s,b,(gn,⟨el,i.sz,iD+m⟩)::g⟩):b9 P n l0 B B0 bC ix aI aP (o::l) ⟨s,b,g⟩:=
 .inr (.inr (.inr ⟨gn,_,_,t,hg,G,by simp[sw,X],hL,by rw[gp];exact Sl hT gn X ht dR gI nT T cM hy kF dT fM fU,by rw[G];exact h⟩))
def nz{aq:Type}:List Nat->List (Nat×List F)->(List (Nat×List F)->Option aq)->Option aq
 |_,[],k=>k []
 |ws,(m,cs)::l,k=>bif ws.contains m then nz ws l k else nz (m::ws) l λ r=>k ((m,cs)::r)
theorem xF{aq:Type}:∀(m:List (Nat×List F))(ws:List Nat)(k:List (Nat×List F)->Option aq)(r:aq),nz ws m k=some r->∃B,k B=some r/\(B.map (·.1)).Nodup/\(∀b∈B.map (·.1),b∉ws)/\tP m B:=by
 intro m;induction m with
 |nil=>intro ws k r h;exact⟨[],h,by simp,λ b R=>by simp at R,trivial⟩
 |cons p m ih=>
  intro ws k r h;obtain⟨q,ds⟩:=p;have PZ:∀(B:List (Nat×List F)),q∉B.map (·.1)->tP m B->tP ((q,ds)::m) B:=by
   intro B;induction B with
   |nil=>intro _ _;trivial
   |cons x B U5=>intro hq hs;simp only[List.map_cons,List.mem_cons,not_or] at hq;exact⟨by rw[cL,if_neg hq.1];exact hs.1,U5 hq.2 hs.2⟩
  simp only[nz] at h;cases L:ws.contains q
  ·rw[L] at h;simp only[cond_false] at h;obtain⟨B,h5,h6,h7,h8⟩:=ih _ _ _ h;have hq:q∉B.map (·.1):=λ hq=>h7 q hq (by simp)
   refine⟨(q,ds)::B,h5,?_,λ b R=>?_,⟨by rw[cL];simp,PZ B hq h8⟩⟩
   ·simp only[List.map_cons,List.nodup_cons];exact⟨hq,h6⟩
   ·simp only[List.map_cons,List.mem_cons] at R;rcases R with rfl|R
    ·simpa using L
    ·exact λ h8=>h7 b R (List.mem_cons_of_mem _ h8)
  ·rw[L] at h;simp only[cond_true] at h;obtain⟨B,h5,h6,h7,h8⟩:=ih _ _ _ h;have hm:q∈ws:=by simpa using L
   exact⟨B,h5,h6,h7,PZ B (λ hq=>h7 q hq hm) h8⟩
theorem Ko{I:St}(k:Nat)(ws:List Nat){id:Nat}{l l1 l2:List Oper}{B:List (Nat×List F)}(hs:lm k l (λ a=>j2 k l λ b=>some (a,b))=some (l1,l2))(hv:nz ws I.b some=some B)(hm:P.follows .mixedOrders=true)(hB:pq l.toArray Γ.n=true)(hT:sj l.toArray k=true)(h:b9 P Γ.n l B I.b (bp P Γ l Q l2) 0 [] [] l1 I):aJ P Γ (.region id l.toArray true) Q I:=by obtain⟨u,hs⟩:=qj hs;obtain⟨D,hs⟩:=my hs;cases hs;obtain⟨re,K,_,_,h4⟩:=xF _ _ _ _ hv;cases K;refine Km B h4 (l.take k) (l.drop k) (List.take_append_drop k l).symm hm hB ?_ h;rw[List.length_take,Nat.min_eq_left u];exact hT
theorem Kn{I:St}(ws:List Nat){id:Nat}{l:List Oper}{B:List (Nat×List F)}(hv:nz ws I.b some=some B)(hm:P.follows .mixedOrders=true)(hB:pq l.toArray Γ.n=true)(h:b9 P Γ.n l B I.b (Q .normal) 0 [] [] l I):aJ P Γ (.region id l.toArray true) Q I:=by
 obtain⟨re,K,_,_,h4⟩:=xF _ _ _ _ hv;cases K;refine Km B h4 l [] (by simp) hm hB ?_ ?_
 ·unfold sj;simp only[List.all_eq_true,List.mem_range,Bool.or_eq_true,decide_eq_true_eq];intro t ht;left
  simpa using ht
 ·have mono:∀(B0:List (Nat×List F))(ik:List Oper)(ix:Nat)(aI:List Nat)(aP:List (Nat×Nat))(I:St)(bC vo:St->Prop),(∀I,bC I->vo I)->b9 P Γ.n l B B0 bC ix aI aP ik I->b9 P Γ.n l B B0 vo ix aI aP ik I:=by
   intro B0 ik;induction ik with
   |nil=>intro ix aI aP I bC vo J h;exact J I h
   |cons o ik ih=>
    intro ix aI aP I bC vo J h;rcases h with⟨d,nb,u,D,K,h4⟩|⟨u,D⟩|⟨nm,cs,aO,u,D,K,h4,h5,h6,h7⟩|⟨g,ak,d,t,u,D,h0,K,h4,h5⟩
    ·exact .inl ⟨d,nb,u,D,K,ih _ _ _ _ _ _ J h4⟩
    ·exact .inr (.inl ⟨u,ih _ _ _ _ _ _ J D⟩)
    ·exact .inr (.inr (.inl ⟨nm,cs,aO,u,D,K,h4,h5,h6,ih _ _ _ _ _ _ J h7⟩))
    ·exact .inr (.inr (.inr ⟨g,ak,d,t,u,D,h0,K,h4,ih _ _ _ _ _ _ J h5⟩))
  exact mono I.b l 0 [] [] I _ _ (λ bS bN=>jK bN) h
end
variable{S:Nat->Option F}{B:Nat->Option (List F)}{o:Oper}
def ET(cs:List F)(b6:Nat)(ds:List F):List F:=cs.take b6++ds++cs.drop (b6+ds.length)
def IV{aq:Type}(cs:List F)(b6:Nat)(ds:List F)(k:List F->Option aq):Option aq:=
 lm b6 cs λ a=>j2 b6 cs λ b=>j2 ds.length b λ c=>lP ds c λ r=>lP a r k
theorem WS{aq:Type}{cs:List F}{b6:Nat}{ds:List F}{k:List F->Option aq}{r:aq}(h:IV cs b6 ds k=some r):b6+ds.length<=cs.length/\k (ET cs b6 ds)=some r:=by unfold IV at h;obtain⟨u,h⟩:=qj h;obtain⟨D,h⟩:=my h;obtain⟨K,h⟩:=my h;rw[pG,pG] at h;refine⟨by simp at K;omega,?_⟩;unfold ET;rw[List.append_assoc];rw[List.drop_drop] at h;exact h
def vT(zt:Nat->Option (Nat×Nat)):List F->List (Nat×F)->Option (List F)
 |cs,[]=>some cs
 |cs,(i,d)::rest=>match zt i with
  |some (b6,sz)=>bif j9 d&&Nat.beq d.cells.length sz then lR d λ ds=>IV cs b6 ds λ r=>vT zt r rest else none
  |none=>none
theorem Sa(us:List Value):∀(k b6:Nat)(cs:Array Value),b6+k+us.length<=cs.size->((us.zipIdx k).foldl (λ cs(c,j)=>cs.setIfInBounds (b6+j) c) cs).toList=cs.toList.take (b6+k)++us++cs.toList.drop (b6+k+us.length):=by
 induction us with
 |nil=>intro k b6 cs h;simp
 |cons aa us ih=>
  intro k b6 cs h;rw[List.zipIdx_cons,List.foldl_cons];simp only[List.length_cons] at h;rw[ih (k+1) b6 _ (by simp;omega)];have J:b6+k<cs.toList.length:=by simp;omega
  apply List.ext_getElem?;intro j;simp only[Array.toList_setIfInBounds,List.length_cons];rcases Nat.lt_trichotomy j (b6+k) with u|u|u
  ·rw[List.append_assoc,List.append_assoc,List.getElem?_append_left (by simp;omega),List.getElem?_append_left (by simp;omega),List.getElem?_take,List.getElem?_take,if_pos (by omega),if_pos u,List.getElem?_set_ne (by omega)]
  ·subst u;rw[List.append_assoc,List.append_assoc,List.getElem?_append_left (by simp;omega),List.getElem?_append_right (by simp;omega),List.getElem?_take,if_pos (by omega)];simp only[List.length_take,Array.length_toList];rw[show b6+k-min (b6+k) cs.size=0 by simp at J;omega];rw[List.getElem?_set_self J]
   rfl
  ·rw[List.append_assoc,List.append_assoc];rcases Nat.lt_or_ge j (b6+k+1+us.length) with D|D
   ·rw[List.getElem?_append_right (by simp;omega),List.getElem?_append_left (by simp;omega),List.getElem?_append_right (by simp;omega)];simp only[List.length_take,List.length_set,Array.length_toList];simp only[Array.length_toList] at J;rw[show min (b6+(k+1)) cs.size=b6+k+1 by omega,show min (b6+k) cs.size=b6+k by omega,show j-(b6+k)=(j-(b6+k+1))+1 by omega];simp only[List.cons_append,List.getElem?_cons_succ];rw[List.getElem?_append_left (by omega)]
   ·rw[List.getElem?_append_right (by simp;omega),List.getElem?_append_right (by simp;omega),List.getElem?_append_right (by simp;omega),List.getElem?_append_right (by simp;omega)];simp only[List.length_take,List.length_set,Array.length_toList,List.length_cons,List.getElem?_drop];simp only[Array.length_toList] at J;rw[List.getElem?_set_ne (by omega)]
    congr 1
    omega
def FO(e:ay):List (Nat×Value)->List (Nat×F)->Prop
 |[],_=>True
 |(_,v)::l,(_,d)::m=>bt e v d/\FO e l m
 |_::_,[]=>False
theorem Do{e:ay}(zt:Nat->Option (Nat×Nat)):∀(hE:List (Nat×Value))(xi:List (Nat×F))(cells:Array Value)(cs uY:List F),DReps e cells.toList cs->hE.map (·.1)=xi.map (·.1)->FO e hE xi->vT zt cs xi=some uY->∃qu,Instr.fill zt cells hE=some qu/\DReps e qu.toList uY
 |[],xi,cells,cs,uY,hr,hm,_,h=>by
  have:xi=[]:=by simpa using hm.symm
  subst this;simp only[vT,Option.some.injEq] at h;subst h;exact⟨cells,rfl,hr⟩
 |(i,v)::hE,[],cells,cs,uY,hr,hm,_,h=>by simp at hm
 |(i,v)::hE,(j,d)::xi,cells,cs,uY,hr,hm,G,h=>by
  simp only[List.map_cons,List.cons.injEq] at hm;obtain⟨rfl,hm⟩:=hm;simp only[vT] at h;split at h
  ·rename_i b6 sz hp;cases R:(j9 d&&Nat.beq d.cells.length sz)
   ·rw[R] at h;cases h
   ·rw[R] at h;simp only[cond_true,tX] at h;obtain⟨cK,h⟩:=WS h;simp only[Bool.and_eq_true] at R;obtain⟨u,D⟩:=R;have bd:=Nat.eq_of_beq_eq_true D;have hv:=tC G.1 u;have UR:v.cells.size=sz:=by have:=hv.1;simp at this;omega
    have de:cells.size=cs.length:=by have:=hr.1;simpa using this
    have LQ:=Sa v.cells.toList 0 b6 cells (by simp;omega);have hz:(v.cells.zipIdx.foldl (λ cs(c,j)=>cs.setIfInBounds (b6+j) c) cells).toList=cells.toList.take b6++v.cells.toList++cells.toList.drop (b6+v.cells.toList.length):=by simp only[Nat.add_zero] at LQ;rw[<-LQ,<-Array.foldl_toList,Array.toList_zipIdx]
    have nj:DReps e (v.cells.zipIdx.foldl (λ cs(c,j)=>cs.setIfInBounds (b6+j) c) cells).toList (ET cs b6 d.cells):=by rw[hz,ET,hv.1];exact((hr.take b6).append hv).append (hr.drop _)
    obtain⟨qu,h5,h6⟩:=Do zt hE xi _ _ uY nj hm G.2 h;refine⟨qu,?_,h6⟩;unfold Instr.fill;rw[hp];simp only[UR];rw[if_neg (by simp;omega)];exact h5
  ·cases h
def sH{aq:Type}(S:Nat->Option F):List (Nat×Operand)->(List (Nat×F)->Option aq)->Option aq
 |[],k=>k []
 |(i,x)::l,k=>match ev S x with
  |some d=>sH S l λ ds=>k ((i,d)::ds)
  |none=>none
theorem GB{aq:Type}{e:ay}{a:Act}:∀(l:List (Nat×Operand))(k:List (Nat×F)->Option aq)(r:aq),(∀x∈l.map (·.2),∀d,ev S x=some d->bt e (a.eval x) d)->sH S l k=some r->∃ds,(l.map λ p=>(p.1,a.eval p.2)).map (·.1)=ds.map (·.1)/\FO e (l.map λ p=>(p.1,a.eval p.2)) ds/\k ds=some r
 |[],k,r,_,h=>⟨[],rfl,trivial,h⟩
 |(i,x)::l,k,r,hs,h=>by
  simp only[sH] at h;split at h
  ·rename_i d u;obtain⟨ds,K,h4,h5⟩:=GB l _ r (λ y hy=>hs y (by simp at hy⊢;exact .inr hy)) h;exact⟨(i,d)::ds,by simp only[List.map_cons] at K⊢;rw[K],⟨hs x (by simp) d u,h4⟩,h5⟩
  ·cases h
def C9(ah:Nat->Option TI)(t:TypeId)(ds:List (Nat×F)):Option F:=match ah t with
 |some ⟨.struct fs,_,_,aT⟩=>bif fs.all (λ f=>Nat.blt 0 f.2.2) then(match pK aT (λ c=>lR c λ cs=>vT (λ i=>(fs[i]?).map λ f=>(f.2.1,f.2.2)) cs ds) with
  |some cs=>some (.agg cs)
  |none=>none) else none
 |some ⟨.array _ el,_,_,aT⟩=>match ah el with
  |some j=>match pK aT (λ c=>lR c λ cs=>vT (λ i=>some (i*j.sz,j.sz)) cs ds) with
   |some cs=>some (.agg cs)
   |none=>none
  |none=>none
 |_=>none
theorem QU{P:Program}{w:World}{aq dP:Type}(f:aq->Sem dP)(g:aq->dP)(l:Array aq)(h:∀x∈l.toList,(f x).run P w=.ok (g x) w):(l.mapM f).run P w=.ok (l.map g) w:=by
 rw[Array.mapM_eq_mapM_toList];have:=Nx f g l.toList h;simp only[map_eq_pure_bind,Sem.run_bind,this,Result.andThen_ok,Sem.run_pure]
 congr 1
 apply Array.ext';simp
theorem ya(hT:cR P ah){t:TypeId}{hE:Array (Nat×Operand)}{d:F}(X:o.op=.build t hE)(hp:sH S hE.toList (C9 ah t)=some d)(hz:(match ah t with|some i=>j9 (kP i.zero)|none=>false)=true):dm P o S B d none:=by
 refine hZ λ a e hs=>?_
 obtain⟨ds,u,D,G⟩:=GB (e:=e) (a:=a) hE.toList _ d (λ x T=>hs.1 x (by rw[X];simp only[Op.operands];simpa using T)) hp;have BL:(hE.map λ(i,x)=>(i,a.eval x)).toList=hE.toList.map λ p=>(p.1,a.eval p.2):=by simp
 unfold C9 at G;split at G
 ·rename_i fs z1 z2 aT ht;rw[ht] at hz;cases dc:fs.all (λ f=>Nat.blt 0 f.2.2)
  ·rw[dc] at G;cases G
  rw[dc] at G;simp only[cond_true] at G;split at G
  ·rename_i cs um;rw[vK,tX] at um;cases G;obtain⟨d0,dI,J⟩:=hT.desc t _ ht;cases d0<;>simp only[jg,TK.struct.injEq,reduceCtorEq] at J
   rename_i qz;have yT:=tC (vJ e aT) hz;obtain⟨qu,K,h4⟩:=Do (e:=e) _ _ ds aT.cells (kP aT).cells cs yT u D um;refine⟨.agg qu,?_,by have:=bt.agg (e:=e) h4.1 h4.2;simpa using this⟩;have Ut:(qz.mapM λ f=>do pure (f.offset,<-sizeOf f.type):Sem (Array (Nat×Nat))).run P e.w=.ok (qz.map λ f=>(f.offset,P.cellsOf f.type)) e.w:=by
    refine QU _ _ qz λ f hf=>?_
    have yF:(f.type,f.offset,P.cellsOf f.type)∈fs:=by rw[<-J];exact List.mem_map.2 ⟨f,hf,rfl⟩
    have pZ:=List.all_eq_true.1 dc _ yF;have Uw:0<P.cellsOf f.type:=by simpa[Nat.blt_eq] using pZ
    rcases Z:P.info? f.type with _|i
    ·simp[Program.cellsOf,Z] at Uw
    ·simp[sizeOf,typeInfo,Z,Program.cellsOf]
   have bG:(λ i=>(qz.map λ f=>(f.offset,P.cellsOf f.type))[i]?)=λ(i:Nat)=>(fs[i]?).map λ(f:TypeId×Nat×Nat)=>(f.2.1,f.2.2):=by
    funext i
    rw[<-J];simp;cases qz[i]?<;>rfl
   obtain⟨dst,op,type,pos,after,guard⟩:=o;simp only at X;subst X;have BS:(zeroValue t).run P e.w=.ok aT e.w:=Ab hT ht e.w;rw[<-bG] at K;simp only[execOp,Instr.build,Sem.run_bind,BS,Result.andThen_ok,run_underlying dI];rw[Ut];simp only[Result.andThen_ok,BL,K,Sem.run_pure]
  ·cases G
 ·rename_i n el z1 z2 aT ht;rw[ht] at hz;split at G
  ·rename_i j hj;split at G
   ·rename_i cs um;rw[vK,tX] at um;cases G;obtain⟨d0,dI,J⟩:=hT.desc t _ ht;cases d0<;>simp only[jg,TK.array.injEq,reduceCtorEq] at J
    have yT:=tC (vJ e aT) hz;obtain⟨qu,K,h4⟩:=Do (e:=e) _ _ ds aT.cells (kP aT).cells cs yT u D um;refine⟨.agg qu,?_,by have:=bt.agg (e:=e) h4.1 h4.2;simpa using this⟩;obtain⟨dst,op,type,pos,after,guard⟩:=o;simp only at X;subst X;have BS:(zeroValue t).run P e.w=.ok aT e.w:=Ab hT ht e.w;rw[J.2] at dI;simp only[execOp,Instr.build,Sem.run_bind,BS,Result.andThen_ok,run_underlying dI,run_sizeOf hT hj,BL,K,Sem.run_pure]
   ·cases G
  ·cases G
 ·cases G
end
end Go.Proofs.YtcnefjfboagbmaaGreat
end
section
namespace Go.Proofs.YtcnefjfboagbmaaGreat
open Go.RowKit
section
variable{P:Program}{ah:Nat->Option TI}{Γ:bE}{S:Nat->Option F}{B:Nat->Option (List F)}{o:Oper}
def vk(zc:List F):Nat->List F
 |0=>[]
 |n+1=>zc++vk zc n
theorem P7(zc:List F):∀n,(vk zc n).length=n*zc.length
 |0=>by simp[vk]
 |n+1=>by simp[vk,P7 zc n,Nat.add_mul];omega
theorem P6(zc:List F):∀(n j:Nat),j<n*zc.length->(vk zc n)[j]?=zc[j%zc.length]?
 |0,j,h=>by omega
 |n+1,j,h=>by
  rw[vk];rcases Nat.lt_or_ge j zc.length with hj|hj
  ·rw[List.getElem?_append_left hj,Nat.mod_eq_of_lt hj]
  ·rw[List.getElem?_append_right hj,P6 zc n _ (by rw[Nat.add_mul] at h;omega),Nat.mod_eq_sub_mod hj]
def Fy{aq:Type}(zc:List F):Nat->(List F->Option aq)->Option aq
 |0,k=>k []
 |n+1,k=>Fy zc n λ r=>lP zc r k
theorem P5{aq:Type}(zc:List F):∀(n:Nat)(k:List F->Option aq),Fy zc n k=k (vk zc n)
 |0,k=>rfl
 |n+1,k=>by rw[Fy,P5 zc n,pG];rfl
def ve{aq:Type}:List F->(List Pl->Option aq)->Option aq
 |[],k=>k []
 |.p (.raw v)::l,k=>ve l λ r=>k (.raw v::r)
 |.p (.sl _ n ps)::l,k=>ve l λ r=>k (.sl false n ps::r)
 |.aU _ n ps::l,k=>ve l λ r=>k (.sl false n ps::r)
 |_,_=>none
def pz:List F->Option (List Pl)
 |[]=>some []
 |.p x::l=>(pz l).map (wU x::·)
 |.aU _ n ps::l=>(pz l).map (Pl.sl false n ps::·)
 |_=>none
theorem Fs{aq:Type}:∀(ds:List F)(k:List Pl->Option aq),ve ds k=(pz ds).bind k
 |[],k=>rfl
 |.p (.raw v)::l,k=>by simp only[ve,pz,Fs l];cases pz l<;>rfl
 |.p (.sl _ n ps)::l,k=>by simp only[ve,pz,Fs l];cases pz l<;>rfl
 |.aU _ n ps::l,k=>by simp only[ve,pz,Fs l];cases pz l<;>rfl
 |.agg _::l,k=>rfl
 |.bc _::l,k=>rfl
 |.ptr _ _::l,k=>rfl
 |.el _::l,k=>rfl
 |.arr _ _ _ _::l,k=>rfl
 |.fn _ _ _::l,k=>rfl
 |.any::l,k=>rfl
theorem JN:∀{ds:List F}{ps:List Pl}(_:pz ds=some ps),ds.length=ps.length/\∀(i:Nat) x,ps[i]?=some x->∃d,ds[i]?=some d/\∀e v,bt e v d->cV e v x
 |[],ps,h=>by simp only[pz,Option.some.injEq] at h;subst h;exact⟨rfl,λ i x h=>by simp at h⟩
 |.p y::l,ps,h=>by
  simp only[pz,Option.map_eq_some_iff] at h;obtain⟨qs,u,rfl⟩:=h;obtain⟨D,K⟩:=JN u;refine⟨by simp[D],λ i x T=>?_⟩;cases i with
  |zero=>simp only[List.getElem?_cons_zero,Option.some.injEq] at T;subst T;exact⟨_,rfl,λ e v hv=>by cases hv with|p h=>exact h.low⟩
  |succ i=>simpa using K i x (by simpa using T)
 |.aU g n aaG::l,ps,h=>by
  simp only[pz,Option.map_eq_some_iff] at h;obtain⟨qs,u,rfl⟩:=h;obtain⟨D,K⟩:=JN u;refine⟨by simp[D],λ i x T=>?_⟩;cases i with
  |zero=>simp only[List.getElem?_cons_zero,Option.some.injEq] at T;subst T;exact⟨_,rfl,λ e v hv=>by cases hv with|aU h _=>exact h⟩
  |succ i=>simpa using K i x (by simpa using T)
 |.agg _::l,ps,h=>by cases h
 |.bc _::l,ps,h=>by cases h
 |.ptr _ _::l,ps,h=>by cases h
 |.el _::l,ps,h=>by cases h
 |.arr _ _ _ _::l,ps,h=>by cases h
 |.fn _ _ _::l,ps,h=>by cases h
 |.any::l,ps,h=>by cases h
def Da(ah:Nat->Option TI)(t:TypeId)(len:Nat)(ds:List (Nat×F)):Option (List Pl):=match ah t with
 |some ⟨.slice el,_,_,_⟩=>match ah el with
  |some j=>bif j9 (kP j.zero)&&Nat.beq (kP j.zero).cells.length j.sz&&Nat.ble (len*j.sz) 1000000&&Nat.blt 0 j.sz then(match pK j.zero (λ c=>lR c λ zc=>Fy zc len λ aT=>vT (λ i=>some (i*j.sz,j.sz)) aT ds) with
   |some cs=>bif cs.all F.leaf then ve cs some else none
   |none=>none) else none
  |none=>none
 |_=>none
theorem Wa{e:ay}{us:List Value}{ps:List Pl}{n:Nat}{t:TypeId}(hn:n<=maxLen)(cg:us.length=ps.length)(TW:∀v∈us,lc v=true)(hr:∀(i:Nat) v x,us[i]?=some v->ps[i]?=some x->cV e v x):
 bt (e.alloc (.cells us.toArray t) none) (.slice (some ⟨e.w.heap.size,0,none⟩) n n) (.p (.sl true n ps)):=by
 have hg:=ay.sr e (.cells us.toArray t) none;refine .p (Ah (Nat.le_refl _) hn (λ h=>by cases h) (λ _=>rfl) (.inr ⟨_,0,rfl,λ i=>us.getD i undef,λ i x T=>?_⟩));have Z:i<us.length:=by rw[cg];exact(List.getElem?_eq_some_iff.1 T).1
 have hu:us[i]?=some us[i]:=List.getElem?_eq_getElem Z;have oy:us.getD i undef=us[i]:=by simp[Z]
 show _/\_=some (us.getD i undef)/\lc (us.getD i undef)=true/\cV _ (us.getD i undef) x;rw[oy];refine⟨λ k J=>?_,?_,TW _ (List.getElem_mem Z),(hr i _ x hu T).next hg.ends⟩
 ·simp[ay.alloc] at J
 ·show(e.w.alloc _).cell? _=_;rw[cell_of_row _ _ (0+i) us.toArray t (0,0) (heap_alloc_new e.w _)];simp
theorem Ks(hT:cR P ah){t:TypeId}{len:Nat}{hE:Array (Nat×Operand)}{ps:List Pl}(X:o.op=.buildSlice t len hE)(hp:sH S hE.toList (Da ah t len)=some ps):dm P o S B (.p (.sl true len ps)) none:=by
 intro a e hs _;obtain⟨ds,u,D,G⟩:=GB (e:=e) (a:=a) hE.toList _ ps (λ x T=>hs.1 x (by rw[X];simp only[Op.operands];simpa using T)) hp;have BL:(hE.map λ(i,x)=>(i,a.eval x)).toList=hE.toList.map λ p=>(p.1,a.eval p.2):=by simp
 unfold Da at G;split at G
 ·rename_i el z1 z2 z3 ht;split at G
  ·rename_i j hj;cases R:(j9 (kP j.zero)&&Nat.beq (kP j.zero).cells.length j.sz&&Nat.ble (len*j.sz) 1000000&&Nat.blt 0 j.sz)
   ·rw[R] at G;cases G
   rw[R] at G;simp only[cond_true] at G;simp only[Bool.and_eq_true] at R;obtain⟨⟨⟨nI,Hb⟩,Hd⟩,SS⟩:=R;have Hc:=Nat.eq_of_beq_eq_true Hb;have ZP:=Nat.le_of_ble_eq_true Hd;have LF:0<j.sz:=by simpa[Nat.blt_eq] using SS
   split at G
   ·rename_i cs um;rw[vK,tX,P5] at um;cases wo:cs.all F.leaf
    ·rw[wo] at G;cases G
    rw[wo] at G;simp only[cond_true,Fs,Option.bind_fun_some] at G;obtain⟨d0,dI,J⟩:=hT.desc t _ ht;cases d0<;>simp only[jg,TK.slice.injEq,reduceCtorEq] at J
    rw[J] at dI;have yT:=tC (vJ e j.zero) nI;have gI:j.zero.cells.size=j.sz:=by have:=yT.1;simp at this;omega
    have UZ:DReps e ((Array.range (len*j.sz)).map (λ i=>j.zero.cells[i%j.zero.cells.size]!)).toList (vk (kP j.zero).cells len):=by
     refine⟨by simp[P7,Hc],λ i v d hv we=>?_⟩;have dw:i<len*j.sz:=by have:=(List.getElem?_eq_some_iff.1 hv).1;simpa using this
     rw[P6 _ _ _ (by rw[Hc];exact dw),Hc] at we;simp[dw] at hv;rw[gI] at hv;have hm:i%j.sz<j.sz:=Nat.mod_lt _ LF;have:j.zero.cells.toList[i%j.sz]?=some v:=by rw[<-hv];simp[gI,hm]
     exact yT.2 _ v d this we
    obtain⟨qu,K,h4⟩:=Do (e:=e) _ _ ds _ _ cs UZ u D um;obtain⟨h5,h6⟩:=JN G;unfold Oper.wp;have e1:(execOp a.eval o).run P e.w=.ok (.value (.slice (some ⟨e.w.heap.size,0,none⟩) len len)) (e.w.alloc (.cells qu.toList.toArray el)):=by
     obtain⟨dst,op,type,pos,after,guard⟩:=o;simp only at X;subst X;have BS:(zeroValue el).run P e.w=.ok j.zero e.w:=Ab hT hj e.w;have fy:¬(len*j.sz>2^24):=by omega
     simp only[execOp,Instr.buildSlice,Sem.run_bind,run_underlying dI,Result.andThen_ok,run_sizeOf hT hj];rw[if_neg fy]
     by_cases h0:len*j.sz=0
     ·have D7:(Array.range (len*j.sz)).map (λ i=>j.zero.cells[i%j.zero.cells.size]!)=(Array.range (len*j.sz)).map (λ i=>(#[]:Array Value)[i%(#[]:Array Value).size]!):=by simp[h0]
      rw[D7] at K;simp only[h0,if_true,Sem.run_bind,Sem.run_pure,Result.andThen_ok,BL] at K⊢;rw[K];simp[newRow]
     ·simp only[h0,if_false,Sem.run_bind,BS,Sem.run_pure,Result.andThen_ok,BL,K];simp[newRow]
    rw[e1];refine⟨_,e.alloc (.cells qu.toList.toArray el) none,rfl,rfl,ay.sr _ _ _,Wa (by have:len*1<=len*j.sz:=Nat.mul_le_mul_left _ LF;unfold maxLen;omega) (by rw[h4.1,h5]) (λ v hv=>?_) (λ i v x hv T=>?_)⟩
    ·obtain⟨i,Z,rfl⟩:=List.mem_iff_getElem.1 hv;have lz:i<cs.length:=by rw[<-h4.1];exact Z
     exact Ij (h4.2 i _ _ (List.getElem?_eq_getElem Z) (List.getElem?_eq_getElem lz)) (List.all_eq_true.1 wo _ (List.getElem_mem lz))
    ·obtain⟨d,h7,h8⟩:=h6 i x T;exact h8 e v (h4.2 i v d hv h7)
   ·cases G
  ·cases G
 ·cases G
def xY(S:Nat->Option F)(x:Option Operand)(RH:Int):Option Int:=match x with
 |none=>some RH
 |some y=>match ev S y with
  |some (.p (.raw (.int _ i)))=>some i
  |_=>none
theorem Ai(hT:cR P ah){t el:TypeId}{x:Operand}{lo Z:Option Operand}{dx:F}{n:Nat}{ps:List Pl}{l h:Int}{z1 z2:Nat}{z3:Value}{j:TI}(m:Nat)(qs:List Pl)(X:o.op=.slice t x lo Z none)(ht:ah t=some ⟨.slice el,z1,z2,z3⟩)(he:ah el=some j)
 (T:ev S x=some dx)(Tb:mj dx=some (n,ps))(nN:xY S lo 0=some l)(pa:xY S Z n=some h)(h0:0<=l)(u:l<=h)(D:h<=n)(hm:h-l=m)(BO:qs.length=m*j.sz)(hq:∀(i:Nat) q,qs[i]?=some q->ps[l.toNat*j.sz+i]?=some q):dm P o S B (.p (.sl false m qs)) none:=by
 refine hZ λ a e hs=>?_
 have bV:=u7 (hs.1 x (by rw[X];simp[Op.operands]) _ T) Tb;obtain⟨ar,bP,hv,cb,ez,ib,_,hA⟩:=pu bV;obtain⟨d0,dI,J⟩:=hT.desc t _ ht;cases d0<;>simp only[jg,reduceCtorEq,TK.slice.injEq] at J
 rw[J] at dI;have DV:∀y,lo=some y->∃k,a.eval y=.int k l:=λ y hy=>by
  subst hy;simp only[xY] at nN;split at nN
  ·rename_i k i dj;cases nN;exact⟨k,cE (hs.1 y (by rw[X];simp[Op.operands]) _ dj)⟩
  ·cases nN
 have Tz:∀y,Z=some y->∃k,a.eval y=.int k h:=λ y hy=>by
  subst hy;simp only[xY] at pa;split at pa
  ·rename_i k i dj;cases pa;exact⟨k,cE (hs.1 y (by rw[X];simp[Op.operands]) _ dj)⟩
  ·cases pa
 have SW:(Instr.sliceBounds true n bP (lo.map a.eval) (Z.map a.eval) none).run P e.w=.ok (l.toNat,h.toNat,bP) e.w:=by
  have Ty:Z=none->h=n:=λ V=>by subst V;simp only[xY,Option.some.injEq] at pa;omega
  have Mi:lo=none->l=0:=λ V=>by subst V;simp only[xY,Option.some.injEq] at nN;omega
  have Ma:h<=(bP:Int):=by omega
  have L8:0<=h:=by omega
  have Mh:l<=(h.toNat:Int):=by omega
  cases Z with
  |none=>
   have hn:=Ty rfl;subst hn;cases lo with
   |none=>have:=Mi rfl;subst this;simp[Instr.sliceBounds]
   |some y=>obtain⟨k,hy⟩:=DV y rfl;simp only[Int.toNat_natCast] at Mh;simp[Instr.sliceBounds,Instr.sliceBound,hy,asIntOf,h0,Mh]
  |some Zd=>
   obtain⟨jb,wP⟩:=Tz Zd rfl;cases lo with
   |none=>have:=Mi rfl;subst this;simp[Instr.sliceBounds,Instr.sliceBound,wP,asIntOf,L8,Ma]
   |some y=>
    obtain⟨k,hy⟩:=DV y rfl;have T6:max h 0=h:=by omega
    simp[Instr.sliceBounds,Instr.sliceBound,hy,wP,asIntOf,L8,Ma,h0,T6,u]
 have T9:h.toNat-l.toNat=m:=by omega
 refine⟨.slice (if bP=l.toNat then ar else ar.map (·.add (l.toNat*j.sz))) m (bP-l.toNat),?_,.p (Ah (by omega) (by omega) (λ bN=>?_) (λ bN=>by cases bN) ?_)⟩
 ·obtain⟨dst,op,type,pos,after,guard⟩:=o;simp only at X;subst X;simp only[execOp,Instr.sliceAt,hv,Sem.run_bind,run_underlying dI,Result.andThen_ok,Instr.slice,Option.map_none,SW,run_sizeOf hT he,T9,Sem.run_pure]
 ·split at bN
  ·omega
  ·cases ar with
   |none=>have:=ib rfl;omega
   |some a=>simp at bN
 ·rcases qs with _|⟨q,qs⟩
  ·exact .inl rfl
  ·refine .inr ?_;have cM:ps≠[]:=λ V=>by have:=hq 0 q rfl;rw[V] at this;simp at this
   rcases hA with hA|⟨b,of,rfl,dR⟩
   ·exact absurd hA cM
   ·have kW:m≠0:=λ V=>by rw[V] at BO;simp at BO
    have cP:¬bP=l.toNat:=by omega
    refine⟨b,of+l.toNat*j.sz,by rw[if_neg cP];simp[qq],dR.part _ hq⟩
end
end Go.Proofs.YtcnefjfboagbmaaGreat
end
section
namespace Go.Proofs.YtcnefjfboagbmaaGreat
open Go.RowKit
abbrev z(n:Int):F:=.p (.raw (.int .i64 n))
abbrev dB(b:Bool):F:=.p (.raw (.bool b))
abbrev pI(n:Int):Pl:=.raw (.int .i64 n)
abbrev pB(b:Bool):Pl:=.raw (.bool b)
def aZ(l:List Int):List Pl:=l.map pI
def EU(l:List Bool):List Pl:=l.map pB
abbrev aV(l:List Int):F:=.p (.sl false l.length (aZ l))
section
variable{P:Program}{ah:Nat->Option TI}{Γ:bE}{I:St}{Q:Exit->St->Prop}{c:Code}{S:Nat->Option F}{B:Nat->Option (List F)}{o:Oper}
theorem bL{dE:Type}(ok:dE->Prop)(iX:dE->St)(lM:dE->Nat)(i0:dE)(J:ok i0)(h0:bF Γ I (iX i0))(Cz:∀i,ok i->aJ P Γ c (ql (λ bS=>∃j,ok j/\lM j<lM i/\bF Γ bS (iX j)) Q) (iX i)):aJ P Γ (.loop c) Q I:=
 Q2 (dE:={i:dE//ok i}) (λ i=>iX i.1) (λ i=>lM i.1) ⟨i0,J⟩ h0 λ i=>tS (Cz i.1 i.2) λ ex bS h=>by
  cases ex with
  |normal=>obtain⟨j,u,D,K⟩:=h;exact⟨⟨j,u⟩,D,K⟩
  |_=>exact h
theorem d6{n:Int}(u:-9223372036854775808<=n)(D:n<=9223372036854775807):IntKind.i64.wrap n=n:=IntWalk.i64_in n (by omega)
theorem Kb(hT:cR P ah){t aa:TypeId}{i:TI}{x y:Operand}{a b:Int}(X:o.op=.binOp .add t x y aa)(ht:ah t=some i)(T:ev S x=some (z a))(hy:ev S y=some (z b))(u:-9223372036854775808<=a+b)(D:a+b<=9223372036854775807):dm P o S B (z (a+b)) none:=
 rn hT (by rw[X];simp only[ax,ht,T,hy,xW,d6 u D])
theorem PC(hT:cR P ah){t aa:TypeId}{i:TI}{x y:Operand}{a b:Int}(X:o.op=.binOp .sub t x y aa)(ht:ah t=some i)(T:ev S x=some (z a))(hy:ev S y=some (z b))(u:-9223372036854775808<=a-b)(D:a-b<=9223372036854775807):dm P o S B (z (a-b)) none:=
 rn hT (by rw[X];simp only[ax,ht,T,hy,xW,d6 u D])
theorem Co{t aa:TypeId}{x y:Operand}{a b:Int}(X:o.op=.binOp .quo t x y aa)(T:ev S x=some (z a))(hy:ev S y=some (z b))(h0:0<=a)(u:0<b)(D:a<=9223372036854775807):dm P o S B (z (a/b)) none:=by
 refine hZ λ ac e hs=>?_
 have bV:=cE (hs.1 x (by rw[X];simp[Op.operands]) _ T);have eR:=cE (hs.1 y (by rw[X];simp[Op.operands]) _ hy);refine⟨_,?_,.p (.raw _)⟩;obtain⟨dst,op,type,pos,after,guard⟩:=o;simp only at X;subst X;have R:¬b=0:=by omega
 have G:a.tdiv b=a/b:=Int.tdiv_eq_ediv_of_nonneg h0;have K:0<=a/b:=Int.ediv_nonneg h0 (by omega);have h4:a/b<=a:=Int.ediv_le_self b h0;simp[execOp,bV,eR,eqGuard,binOp,Op.intDiv,R,G,d6 (n:=a/b) (by omega) (by omega)]
theorem E7{t aa:TypeId}{x y:Operand}{a b:Int}(X:o.op=.binOp .rem t x y aa)(T:ev S x=some (z a))(hy:ev S y=some (z b))(h0:0<=a)(u:0<b):dm P o S B (z (a%b)) none:=by
 refine hZ λ ac e hs=>?_
 have bV:=cE (hs.1 x (by rw[X];simp[Op.operands]) _ T);have eR:=cE (hs.1 y (by rw[X];simp[Op.operands]) _ hy);refine⟨_,?_,.p (.raw _)⟩;obtain⟨dst,op,type,pos,after,guard⟩:=o;simp only at X;subst X;have R:¬b=0:=by omega
 have G:a.tmod b=a%b:=Int.tmod_eq_emod_of_nonneg h0;simp[execOp,bV,eR,eqGuard,binOp,Op.intDiv,R,G]
theorem kL(l:List Int):(aZ l).length=l.length:=by simp[aZ]
theorem N9{l:List Int}{i:Nat}{x:Int}(h:l[i]?=some x):(aZ l)[i]?=some (pI x):=by simp[aZ,h]
theorem gK{l:List Int}{i:Int}{x:Int}(h:l[i.toNat]?=some x):∀(m:Nat) q,[pI x][m]?=some q->(aZ l)[i.toNat*1+m]?=some q:=by
 intro m q hq;cases m with
 |zero=>simp at hq;subst hq;simpa using N9 h
 |succ m=>simp at hq
theorem j3{aq:Type}{l:List aq}{i:Int}(h0:0<=i)(h:i<l.length):∃x,l[i.toNat]?=some x:=⟨l[i.toNat]'(by omega),List.getElem?_eq_getElem (by omega)⟩
end
end Go.Proofs.YtcnefjfboagbmaaGreat
end
section
namespace Go.Proofs.YtcnefjfboagbmaaGreat
open Go.RowKit
section
variable{P:Program}{ah:Nat->Option TI}{Γ:bE}{Q:Exit->St->Prop}{o:Oper}{l0 l:List Oper}{s:List (Nat×F)}{b:List (Nat×List F)}{g:List (Nat×Gr)}{t:Nat}
theorem Yj{P:Program}{t e:TypeId}(hu:P.underlying t=some (.slice e))(ar:Option Addr)(n c:Nat)(w:World):(Op.equal t (.slice ar n c) (.slice none 0 0)).run P w=.ok ar.isNone w:=by show(Op.equalIn (9999+1) t _ _).run P w=_;rw[Op.equalIn];simp only[Sem.run_bind,run_underlying hu,Result.andThen_ok];cases ar<;>rfl
theorem Ka(hT:cR P ah){ty aa el:TypeId}{z1 z2:Nat}{z3:Value}{x:Operand}{dx:F}{n:Nat}{ps:List Pl}(X:o.op=.binOp .eql ty x (.const (.slice none 0 0)) aa)(ht:ah ty=some ⟨.slice el,z1,z2,z3⟩)(T:ev (Y s) x=some dx)(G:mj dx=some (n,ps))(hg:gd l0 o (Y s)=some true)(lW:o.dst=some t)(M:Nat.blt t Γ.n=true)
 (h:∀c:Bool,(c=true->n=0)->bp P Γ l0 Q l ⟨(t,dB c)::s,b,g⟩):bp P Γ l0 Q (o::l) ⟨s,b,g⟩:=by
 refine⟨λ a e L=>?_⟩;have hs:=L.h1 (I:=⟨s,b,g⟩) o.op.operands;have u:=u7 (hs.1 x (by rw[X];simp[Op.operands]) _ T) G;obtain⟨ar,bP,hv,D,_,K,_,_⟩:=pu u;obtain⟨d0,dI,J⟩:=hT.desc ty _ ht;cases d0<;>simp only[jg,reduceCtorEq,TK.slice.injEq] at J
 have hn:ar.isNone=true->n=0:=λ bN=>by
  have:=K (by simpa using bN);omega
 have cG:(execOp a.eval o).run P e.w=.ok (.value (.bool ar.isNone)) e.w:=by obtain⟨dst,op,type,pos,after,guard⟩:=o;simp only at X;subst X;have qE:a.eval (.const (.slice none 0 0))=.slice none 0 0:=rfl;simp only[execOp,hv,qE,eqGuard,binOp];simp[Yj dI]
 have ea:=(L.put (dst:=o.dst) (by rw[lW];exact M) (v:=.bool ar.isNone) (d:=dB ar.isNone) (.p (.raw _)));unfold wpList;rw[if_pos (kS L hg)];refine .inl ?_;unfold Oper.wp;rw[cG];have:=(h ar.isNone hn).run (a.put o.dst (.bool ar.isNone)) e (by rw[lW] at ea⊢;exact ea);exact this
theorem tm{S:Nat->Option F}{B:Nat->Option (List F)}(hT:cR P ah){ty el:TypeId}{n z1 z2:Nat}{z3:Value}{j:TI}{x y:Operand}{ds:List F}{k:IntKind}{i:Int}(d:F)(X:o.op=.index ty x y)(ht:ah ty=some ⟨.array n el,z1,z2,z3⟩)(he:ah el=some j)(nH:j.k.agg=false)(T:ev S x=some (.agg ds))(hy:ev S y=some (.p (.raw (.int k i))))(h0:0<=i)(bh:i<n)(G:ds[i.toNat*j.sz]?=some d):dm P o S B d none:=by
 refine hZ λ a e hs=>?_
 have u:=hs.1 x (by rw[X];simp[Op.operands]) _ T;have D:=cE (hs.1 y (by rw[X];simp[Op.operands]) _ hy);generalize dj:a.eval x=vx at u;cases u with
 |agg M hh=>
  rename_i vs;obtain⟨d0,dI,J⟩:=hT.desc ty _ ht;cases d0<;>simp only[jg,reduceCtorEq,TK.array.injEq] at J
  rw[J.1,J.2] at dI;obtain⟨v,K,h4⟩:=DReps.get ⟨M,hh⟩ G;refine⟨v,?_,h4⟩;obtain⟨dst,op,type,pos,after,guard⟩:=o;simp only at X;subst X;simp[execOp,dj,D,Instr.index,asIntOf,run_underlying dI,h0,bh,run_sizeOf hT he,part,CB hT he,nH,K]
end
end Go.Proofs.YtcnefjfboagbmaaGreat
end
section
namespace Go.Proofs.YtcnefjfboagbmaaGreat
open Go.RowKit
abbrev dK(k:IntKind)(n:Int):F:=.p (.raw (.int k n))
section
variable{P:Program}{ah:Nat->Option TI}{S:Nat->Option F}{B:Nat->Option (List F)}{o:Oper}
theorem X8{k:IntKind}{t aa:TypeId}{x y:Operand}{a b:Int}(X:o.op=.binOp .rem t x y aa)(T:ev S x=some (dK k a))(hy:ev S y=some (dK k b))(h0:0<=a)(u:0<b):dm P o S B (dK k (a%b)) none:=by
 refine hZ λ ac e hs=>?_
 have bV:=cE (hs.1 x (by rw[X];simp[Op.operands]) _ T);have eR:=cE (hs.1 y (by rw[X];simp[Op.operands]) _ hy);refine⟨_,?_,.p (.raw _)⟩;obtain⟨dst,op,type,pos,after,guard⟩:=o;simp only at X;subst X;have R:¬b=0:=by omega
 have G:a.tmod b=a%b:=Int.tmod_eq_emod_of_nonneg h0;simp[execOp,bV,eR,eqGuard,binOp,Op.intDiv,R,G]
theorem Gt(hT:cR P ah){k:IntKind}{s t:TypeId}{x:Operand}{n:Int}{ks:IntKind}{z1 z2 z4 z5:Nat}{z3 z6:Value}(X:o.op=.convert s t x)(hs:ah s=some ⟨.int ks,z1,z2,z3⟩)(ht:ah t=some ⟨.int .i64,z4,z5,z6⟩)(T:ev S x=some (dK k n))(u:-9223372036854775808<=n)(D:n<=9223372036854775807):dm P o S B (z n) none:=
 rn hT (by rw[X];simp only[ax,hs,ht,T,d6 u D])
end
end Go.Proofs.YtcnefjfboagbmaaGreat
end
section
namespace Go.Proofs.YtcnefjfboagbmaaGreat
open Go.RowKit
def tp(B:Nat->Bool)(d:F):F:=bif d.ok B (λ _=>true) then d else .any
def qw(B:Nat->Bool):List (Nat×F)->List (Nat×F)
 |[]=>[]
 |(t,d)::l=>(t,tp B d)::qw B l
def kA{aq:Type}(B:Nat->Bool):List (Nat×F)->(List (Nat×F)->Option aq)->Option aq
 |[],k=>k []
 |(t,d)::l,k=>match d.ok B (λ _=>true) with
  |true=>kA B l λ r=>k ((t,d)::r)
  |false=>kA B l λ r=>k ((t,.any)::r)
theorem sD{aq:Type}(B:Nat->Bool):∀(l:List (Nat×F))(k:List (Nat×F)->Option aq),kA B l k=k (qw B l)
 |[],k=>rfl
 |(t,d)::l,k=>by
  rw[kA,qw];unfold tp;cases d.ok B (λ _=>true)<;>simp only[sD B l]<;>rfl
def tY(B:Nat->Bool):List F->List F
 |[]=>[]
 |d::l=>tp B d::tY B l
def yi{aq:Type}(B:Nat->Bool):List F->(List F->Option aq)->Option aq
 |[],k=>k []
 |d::l,k=>match d.ok B (λ _=>true) with
  |true=>yi B l λ r=>k (d::r)
  |false=>yi B l λ r=>k (.any::r)
theorem Gu{aq:Type}(B:Nat->Bool):∀(l:List F)(k:List F->Option aq),yi B l k=k (tY B l)
 |[],k=>rfl
 |d::l,k=>by
  rw[yi,tY];unfold tp;cases d.ok B (λ _=>true)<;>simp only[Gu B l]<;>rfl
def hl(H B:Nat->Bool):List (Nat×List F)->List (Nat×List F)
 |[]=>[]
 |(b,cs)::l=>bif H b then hl H B l else(b,tY B cs)::hl H B l
def kQ{aq:Type}(H B:Nat->Bool):List (Nat×List F)->(List (Nat×List F)->Option aq)->Option aq
 |[],k=>k []
 |(b,cs)::l,k=>match H b with
  |true=>kQ H B l k
  |false=>yi B cs λ q=>kQ H B l λ r=>k ((b,q)::r)
theorem sC{aq:Type}(H B:Nat->Bool):∀(l:List (Nat×List F))(k:List (Nat×List F)->Option aq),kQ H B l k=k (hl H B l)
 |[],k=>rfl
 |(b,cs)::l,k=>by
  rw[kQ,hl];cases H b<;>simp only[Gu,sC H B l]<;>rfl
theorem Gw{B:Nat->Bool}:∀{l:List (Nat×F)}{t:Nat}{d:F},Y (qw B l) t=some d->∃d0,Y l t=some d0/\d=tp B d0
 |[],t,d,h=>by cases h
 |(aa,c)::l,t,d,h=>by
  simp only[qw,cL] at h⊢;split at h
  ·rename_i hu;cases h;exact⟨c,by rw[if_pos hu],rfl⟩
  ·rename_i hu;obtain⟨d0,u,D⟩:=Gw h;exact⟨d0,by rw[if_neg hu];exact u,D⟩
theorem yh{H B:Nat->Bool}:∀{l:List (Nat×List F)}{b:Nat}{cs:List F},Y (hl H B l) b=some cs->H b=false/\∃lS,Y l b=some lS/\cs=tY B lS
 |[],b,cs,h=>by cases h
 |(aa,c)::l,b,cs,h=>by
  simp only[hl] at h;cases hH:H aa with
  |true=>rw[hH] at h;obtain⟨u,lS,D,K⟩:=yh (l:=l) h;exact⟨u,lS,by rw[cL,if_neg (λ e=>by rw[e,u] at hH;cases hH)];exact D,K⟩
  |false=>
   rw[hH] at h;simp only[cond_false,cL] at h;split at h
   ·rename_i hu;subst hu;cases h;exact⟨hH,c,by rw[cL,if_pos rfl],rfl⟩
   ·rename_i hu;obtain⟨u,lS,D,K⟩:=yh h;exact⟨u,lS,by rw[cL,if_neg hu];exact D,K⟩
theorem Dg{H B:Nat->Bool}:∀{l:List (Nat×List F)}{b:Nat},Y (hl H B l) b=none->H b=true\/Y l b=none
 |[],b,h=>.inr rfl
 |(aa,c)::l,b,h=>by
  simp only[hl] at h;cases hH:H aa with
  |true=>
   rw[hH] at h
   by_cases e:aa=b
   ·exact .inl (by rw[<-e];exact hH)
   ·rw[cL,if_neg e];exact Dg (l:=l) h
  |false=>
   rw[hH] at h;simp only[cond_false,cL] at h;split at h
   ·cases h
   ·rename_i hu;rw[cL,if_neg hu];exact Dg h
theorem Ie{e:ay}{B:Nat->Bool}{v:Value}{d:F}(h:bt e v d):bt (e.cut B λ _=>true) v (tp B d):=by
 unfold tp;cases J:d.ok B (λ _=>true) with
 |true=>exact h.cut J
 |false=>exact .any
theorem Gv{e:ay}{B:Nat->Bool}:∀{cs:List F}{vs:List Value},DReps e vs cs->DReps (e.cut B λ _=>true) vs (tY B cs)
 |[],vs,h=>by
  have:vs=[]:=List.eq_nil_of_length_eq_zero h.1;subst this;exact DReps.nil _
 |d::cs,vs,h=>by
  obtain⟨v,eV,rfl,u,D⟩:=h.vh;exact DReps.cons (Ie u) (Gv D)
section
variable{P:Program}{ah:Nat->Option TI}{Γ:bE}{I bS bn:St}{o:Oper}
structure fG(O:List (Nat×List F))(e:ay):Prop where
 boxes:∀b cs,Y O b=some cs->gu e b cs
 dX:∀b,Y O b=none->e.bx b=none
 gi:∀g,e.gi g=none
 gr:∀k,e.gr k=none
 bx:∀b k,e.bx b=some k->k<e.w.heap.size/\e.cl k=some 0
 inj:∀b c k,e.bx b=some k->e.bx c=some k->b=c
structure Left(aX:List Nat)(e V:ay):Prop where
 kept:mZ (λ k=>∃b,e.bx b=some k) e.w V.w
 cl:∀k,k<e.w.heap.size->¬(∃b,e.bx b=some k)->V.cl k=e.cl k
 bx:∀b k,V.bx b=some k->e.w.heap.size<=k\/∃c,e.bx c=some k
 aX:∀b,b∈aX->V.bx b=e.bx b
def d8(P:Program)(f:FuncId)(aX:List Nat)(ds:List F)(O:List (Nat×List F))(aE:F->List (Nat×List F)->Prop):Prop:=
 ∀(e:ay)(vs:List Value),fG O e->DReps e vs ds->
  Calls P f vs.toArray e.w (λ r aH=>∃v d ag V,r=.returned v/\V.w=aH/\aE d ag/\fG ag V/\bt V v d/\Left aX e V)
def gJ(l:List Nat)(n:Nat):Bool:=match l with
 |[]=>false
 |x::l=>bif Nat.beq x n then true else gJ l n
theorem H8:∀{l:List Nat}{n:Nat},gJ l n=true->n∈l
 |[],n,h=>by cases h
 |x::l,n,h=>by
  simp only[gJ] at h;cases T:Nat.beq x n with
  |true=>rw[Nat.eq_of_beq_eq_true T];exact List.mem_cons_self
  |false=>rw[T] at h;exact List.mem_cons_of_mem _ (H8 h)
theorem NC:∀{l:List Nat}{n:Nat},n∈l->gJ l n=true
 |[],n,h=>by cases h
 |x::l,n,h=>by
  simp only[gJ];cases T:Nat.beq x n with
  |true=>rfl
  |false=>
   rcases List.mem_cons.1 h with h|h
   ·subst h;rw[Nat.beq_refl] at T;cases T
   ·exact NC h
def i3(I:St)(H:Nat->Bool):List (Nat×List F)->Prop
 |[]=>True
 |p::l=>(Y I.b p.1=some p.2/\F.ok.ec H (λ _=>false) p.2=true)/\i3 I H l
theorem i3.get{H:Nat->Bool}:∀{l:List (Nat×List F)}(_:i3 I H l){t:Nat}{d:List F},Y l t=some d->Y I.b t=some d/\F.ok.ec H (λ _=>false) d=true
 |[],_,t,d,h=>by cases h
 |(k,v)::l,hs,t,d,h=>by
  rw[cL] at h;split at h
  ·rename_i J;subst J;cases h;exact hs.1
  ·exact hs.2.get h
theorem kB{e:ay}{a:Act}(L:bw Γ I e a){O:List (Nat×List F)}(hs:i3 I (aC O) O):fG O (e.cut (aC O) λ _=>false):=by
 refine⟨λ b cs R=>?_,λ b R=>?_,λ g=>?_,λ k=>?_,λ b k J=>?_,λ b c k u D=>?_⟩
 ·obtain⟨u,D⟩:=hs.get R;obtain⟨k,vs,el,K,h4,h5⟩:=L.boxes b cs u;refine⟨k,vs,el,?_,h4,h5.1,λ i v d hv G=>(h5.2 i v d hv G).cut (pp D G)⟩;show(if aC O b=true then e.bx b else none)=_;rw[if_pos (by simp[aC,R])];exact K
 ·show(if aC O b=true then e.bx b else none)=_;rw[if_neg (by simp[aC,R])]
 ·show(if false=true then e.gi g else none)=_;simp
 ·show(match e.gr k with|some g=>if false=true then some g else none|none=>none)=none;cases e.gr k<;>simp
 ·have dk:(if aC O b=true then e.bx b else none)=some k:=J;split at dk
  ·obtain⟨u,_,K,_⟩:=L.env.bx b k dk;exact⟨u,K⟩
  ·cases dk
 ·have aN:(if aC O b=true then e.bx b else none)=some k:=u;have bd:(if aC O c=true then e.bx c else none)=some k:=D;split at aN
  ·split at bd
   ·exact L.env.inj b c k aN bd
   ·cases bd
  ·cases aN
def ay.after(e V:ay)(O ag:List (Nat×List F)):ay:=
 {w:=V.w,cl:=V.cl,bx:=λ b=>if aC ag b=true then V.bx b else if aC O b=true then none else e.bx b,gr:=e.gr,gi:=e.gi}
theorem bw.after{e V:ay}{a:Act}(L:bw Γ I e a){aX:List Nat}{O ag:List (Nat×List F)}(hI:fG ag V)(hL:Left aX (e.cut (aC O) λ _=>false) V)(dh:∀b,aC ag b=true->aC O b=true\/Y I.b b=none)(dv:∀b k,Y Γ.kb b=some k->aC O b=true->b∈aX):
 bw Γ ⟨qw (λ b=>!aC O b||gJ aX b) I.s,ag++hl (aC O) (λ b=>!aC O b||gJ aX b) I.b,I.g⟩ (e.after V O ag) a/\Ends V (e.after V O ag):=by
 have yO:∀k,(∃b,(e.cut (aC O) λ _=>false).bx b=some k)->∃b,aC O b=true/\e.bx b=some k:=by
  rintro k ⟨b,R⟩;have gy:(if aC O b=true then e.bx b else none)=some k:=R;split at gy
  ·rename_i eP;exact⟨b,eP,gy⟩
  ·cases gy
 have Uh:∀b o,e.mv b o->¬∃c,(e.cut (aC O) λ _=>false).bx c=some b:=by intro b o de hh;obtain⟨c,_,u⟩:=yO b hh;have:=de 0 (L.env.bx c b u).2.2.1;omega
 have DY:∀k g,e.gr k=some g->¬∃c,(e.cut (aC O) λ _=>false).bx c=some k:=by intro k g hg hh;obtain⟨c,_,u⟩:=yO k hh;rw[(L.env.bx c k u).2.2.2] at hg;cases hg
 have gB:∀b k,aC O b=false->e.bx b=some k->¬∃c,(e.cut (aC O) λ _=>false).bx c=some k:=by intro b k R J hh;obtain⟨c,u,D⟩:=yO k hh;rw[L.env.inj c b k D J,R] at u;cases u
 have fy:∀b,aC O b=false->∀k,e.bx b=some k->aC ag b=false:=by
  intro b R k J;cases eP:aC ag b with
  |false=>rfl
  |true=>
   rcases dh b eP with h|h
   ·rw[R] at h;cases h
   ·rw[L.dX b h] at J;cases J
 have ui:Ends V (e.after V O ag):=by
  refine⟨λ _ _ _ u D=>⟨u,D⟩,λ b k J=>?_,λ g ak hg=>?_,λ k g ak cur hg=>?_⟩
  ·show(if aC ag b=true then V.bx b else _)=_;rw[if_pos]
   ·exact J
   ·cases R:Y ag b with
    |none=>rw[hI.dX b R] at J;cases J
    |some cs=>simp[aC,R]
  ·rw[hI.gi g] at hg;cases hg
  ·rw[hI.gr k] at hg;cases hg
 have A:Ends (e.cut (λ b=>!aC O b||gJ aX b) λ _=>true) (e.after V O ag):=by
  refine⟨λ b o v de hv=>?_,λ b k J=>?_,λ g ak hg=>⟨ak,(show(if true=true then e.gi g else none)=some ak from hg)▸(if_pos rfl).symm,rfl,rfl,Nat.le_refl _⟩,λ k g ak cur u D K=>?_⟩
  ·have hn:=Uh b o de;have R:=Db hv;refine⟨λ n jt=>de n ?_,?_⟩
   ·have:V.cl b=e.cl b:=hL.cl b R hn;show e.cl b=_;rw[<-this];exact jt
   ·show V.w.cell? _=_;rw[World.cell?_of_block (w:=e.w) (hL.kept.block b R hn)];exact hv
  ·have dk:(if(!aC O b||gJ aX b)=true then e.bx b else none)=some k:=J;split at dk
   ·rename_i hB;cases eP:aC O b with
    |false=>show(if aC ag b=true then V.bx b else if aC O b=true then none else e.bx b)=_;rw[fy b eP k dk,eP];simpa using dk
    |true=>
     rw[eP] at hB;have hm:=H8 (show gJ aX b=true by simpa using hB);have u:V.bx b=some k:=by rw[hL.aX b hm];show(if aC O b=true then e.bx b else none)=_;rw[if_pos eP];exact dk
     exact ui.bx b k u
   ·cases dk
  ·have aN:(match e.gr k with|some g=>if true=true then some g else none|none=>none)=some g:=u;have hg:e.gr k=some g:=by
    cases iA:e.gr k with
    |none=>rw[iA] at aN;cases aN
    |some g0=>rw[iA] at aN;simpa using aN
   refine⟨hg,cur,?_,rfl⟩;show V.w.heap[k]?=_;rw[hL.kept.block k (qG K) (DY k g hg)];exact K
 refine⟨⟨L.size,L.df,λ t d ht=>?_,λ b cs R=>?_,λ b R=>?_,L.gs,⟨?_,λ k J X=>?_,λ b k J=>?_,λ b c k u D=>?_,λ k g hg=>?_,λ b k J=>?_⟩⟩,ui⟩
 ·obtain⟨d0,u,rfl⟩:=Gw ht;exact(Ie (L.bm t d0 u)).next A
 ·have Eb:(∃aO,Y ag b=some aO/\aO=cs)\/(Y ag b=none/\Y (hl (aC O) (λ b=>!aC O b||gJ aX b) I.b) b=some cs):=by
   clear A ui fy dh hI hL;induction ag with
   |nil=>exact .inr ⟨rfl,R⟩
   |cons p l ih=>
    obtain⟨aa,q⟩:=p;simp only[List.cons_append,cL] at R⊢;split at R
    ·rename_i hu;cases R;exact .inl ⟨cs,by rw[if_pos hu],rfl⟩
    ·rename_i hu;rw[if_neg hu];exact ih R
  rcases Eb with⟨_,u,rfl⟩|⟨u,D⟩
  ·exact(hI.boxes b _ u).ends ui rfl
  ·obtain⟨K,lS,h4,rfl⟩:=yh D;obtain⟨k,vs,el,h5,h6,h7⟩:=L.boxes b lS h4;refine⟨k,vs,el,?_,?_,(Gv h7).next A⟩
   ·show(if aC ag b=true then V.bx b else if aC O b=true then none else e.bx b)=_;rw[fy b K k h5,K];simpa using h5
   ·show V.w.heap[k]?=_;rw[hL.kept.block k (qG h6) (gB b k K h5)];exact h6
 ·have Eb:Y ag b=none/\Y (hl (aC O) (λ b=>!aC O b||gJ aX b) I.b) b=none:=by
   clear A ui fy dh hI hL;induction ag with
   |nil=>exact⟨rfl,R⟩
   |cons p l ih=>
    obtain⟨aa,q⟩:=p;simp only[List.cons_append,cL] at R⊢;split at R
    ·cases R
    ·rename_i hu;rw[if_neg hu];exact ih R
  show(if aC ag b=true then V.bx b else if aC O b=true then none else e.bx b)=_;rw[if_neg (by simp[aC,Eb.1])];split
  ·rfl
  ·rename_i hn;rcases Dg Eb.2 with h|h
   ·exact absurd h hn
   ·exact L.dX b h
 ·refine⟨hL.kept.os.trans L.env.kept.os,hL.kept.tape.trans L.env.kept.tape,hL.kept.output.trans L.env.kept.output,Nat.le_trans L.env.kept.size hL.kept.size,λ k J X=>?_⟩;show V.w.heap[k]?=_;rw[hL.kept.block k (Nat.lt_of_lt_of_le J L.env.kept.size)]
  ·exact L.env.kept.block k J X
  ·intro hh;obtain⟨c,_,u⟩:=yO k hh;rcases(L.env.bx c k u).2.1 with h|h
   ·omega
   ·exact X h
 ·show V.cl k=_;rw[hL.cl k (Nat.lt_of_lt_of_le J L.env.kept.size)]
  ·exact L.env.cl k J X
  ·intro hh;obtain⟨c,_,u⟩:=yO k hh;rcases(L.env.bx c k u).2.1 with h|h
   ·omega
   ·exact X h
 ·have dk:(if aC ag b=true then V.bx b else if aC O b=true then none else e.bx b)=some k:=J;split at dk
  ·obtain⟨u,D⟩:=hI.bx b k dk;refine⟨u,?_,D,?_⟩
   ·rcases hL.bx b k dk with h|h
    ·exact .inl (Nat.le_trans L.env.kept.size h)
    ·obtain⟨c,_,K⟩:=yO k h;exact(L.env.bx c k K).2.1
   ·show e.gr k=none;cases hg:e.gr k with
    |none=>rfl
    |some g=>
     obtain⟨_,_,_,K,_⟩:=L.env.gr k g hg;rcases hL.bx b k dk with h|h
     ·have bN:e.w.heap.size<=k:=h;omega
     ·exact absurd h (DY k g hg)
  ·split at dk
   ·cases dk
   ·rename_i hn;obtain⟨u,D,K,h4⟩:=L.env.bx b k dk;refine⟨Nat.lt_of_lt_of_le u hL.kept.size,D,?_,h4⟩;show V.cl k=_;rw[hL.cl k u (gB b k (by simpa using hn) dk)];exact K
 ·have aN:(if aC ag b=true then V.bx b else if aC O b=true then none else e.bx b)=some k:=u;have bd:(if aC ag c=true then V.bx c else if aC O c=true then none else e.bx c)=some k:=D;have NF:∀b c,V.bx b=some k->aC O c=false->e.bx c=some k->False:=by
   intro b c R cb ez;rcases hL.bx b k R with h|h
   ·have bN:e.w.heap.size<=k:=h;have:=(L.env.bx c k ez).1;omega
   ·exact gB c k cb ez h
  split at aN
  ·split at bd
   ·exact hI.inj b c k aN bd
   ·split at bd
    ·cases bd
    ·rename_i hn;exact(NF b c aN (by simpa using hn) bd).elim
  ·split at aN
   ·cases aN
   ·rename_i hn;split at bd
    ·exact(NF c b bd (by simpa using hn) aN).elim
    ·split at bd
     ·cases bd
     ·exact L.env.inj b c k aN bd
 ·obtain⟨ak,cur,u,D,K,h4,h5⟩:=L.env.gr k g hg;refine⟨ak,cur,u,Nat.lt_of_lt_of_le D hL.kept.size,K,?_,?_⟩
  ·show V.cl k=_;rw[hL.cl k D (DY k g hg)];exact h4
  ·show V.w.heap[k]?=_;rw[hL.kept.block k D (DY k g hg)];exact h5
 ·have u:=L.env.kb b k J;refine A.bx b k ?_;show(if(!aC O b||gJ aX b)=true then e.bx b else none)=_;rw[if_pos]
  ·exact u
  ·cases eP:aC O b with
   |false=>rfl
   |true=>have:=NC (dv b k J eP);simp[this]
end
end Go.Proofs.YtcnefjfboagbmaaGreat
end
section
namespace Go.Proofs.YtcnefjfboagbmaaGreat
open Go.RowKit
section
variable{P:Program}{ah:Nat->Option TI}{Γ:bE}{I bS bn:St}{o:Oper}{l0 l:List Oper}{Q:Exit->St->Prop}
variable{s U:List (Nat×F)}{b bj:List (Nat×List F)}{g:List (Nat×Gr)}{t:Nat}{d:F}
def jH(O b:List (Nat×List F)):List (Nat×List F)->Prop
 |[]=>True
 |p::l=>(aC O p.1=true\/Y b p.1=none)/\jH O b l
theorem jH.get{O b:List (Nat×List F)}:∀{l:List (Nat×List F)}(_:jH O b l){n:Nat},aC l n=true->aC O n=true\/Y b n=none
 |[],_,n,h=>by simp[aC,Y] at h
 |(k,v)::l,hs,n,h=>by
  by_cases e:k=n
  ·subst e;exact hs.1
  ·exact hs.2.get (by simpa[aC,cL,e] using h)
def qn(aX:List Nat)(O:List (Nat×List F)):List (Nat×Nat)->Prop
 |[]=>True
 |p::l=>(aC O p.1=false\/gJ aX p.1=true)/\qn aX O l
theorem qn.get{aX:List Nat}{O:List (Nat×List F)}:∀{l:List (Nat×Nat)}(_:qn aX O l){b k:Nat},Y l b=some k->aC O b=true->b∈aX
 |[],_,n,k,h,_=>by cases h
 |(x,v)::l,hs,n,k,h,R=>by
  rw[cL] at h;split at h
  ·rename_i e;subst e;rcases hs.1 with u|u
   ·rw[R] at u;cases u
   ·exact H8 u
  ·exact hs.2.get h R
theorem MP{f:FuncId}{aX:List Nat}{ds:List F}{O:List (Nat×List F)}{aE:F->List (Nat×List F)->Prop}(hC:d8 P f aX ds O aE){e:ay}{a:Act}(L:bw Γ ⟨s,b,g⟩ e a){vs:List Value}(hv:DReps e vs ds)(aR:F.ok.ec (aC O) (λ _=>false) ds=true)(hs:i3 ⟨s,b,g⟩ (aC O) O)(dv:qn aX O Γ.kb)
 (G:o.dst=some t)(M:Nat.blt t Γ.n=true)(fV:kA (λ b=>!aC O b||gJ aX b) s (λ U=>kQ (aC O) (λ b=>!aC O b||gJ aX b) b (λ bj=>some (U,bj)))=some (U,bj))
 (dh:∀d ag,aE d ag->jH O b ag){iH:Exit->Act->World->Prop}:
 Calls P f vs.toArray e.w λ
  |.returned v,mn=>∃d ag V,aE d ag/\V.w=mn/\bw Γ ⟨(t,d)::U,ag++bj,g⟩ V (a.put o.dst v)
  |.panicked _,_=>False
  |.outgrown,_=>LetsOut iH:=by
 rw[sD,sC] at fV;cases fV;refine(hC (e.cut (aC O) λ _=>false) vs (kB L hs) ⟨hv.1,λ i v d u D=>(hv.2 i v d u D).cut (pp aR D)⟩).mono λ r aH hh=>?_
 obtain⟨v,d,ag,V,rfl,rfl,hR,hI,hr,hL⟩:=hh;obtain⟨u,D⟩:=L.after hI hL (λ n hn=>(dh d ag hR).get hn) (λ n k u D=>dv.get u D);refine⟨d,ag,e.after V O ag,hR,rfl,?_⟩;have:=u.put (dst:=o.dst) (oS G M) (hr.next D);rw[G] at this⊢;exact this
theorem Kg(hg:gd l0 o (Y s)=some true){aE:F->List (Nat×List F)->Prop}(hs:∀(a:Act)(e:ay),bw Γ ⟨s,b,g⟩ e a->o.wp P a e.w (λ bu aH=>∃d ag V,aE d ag/\V.w=aH/\bw Γ ⟨(t,d)::U,ag++bj,g⟩ V bu) (λ _ _ _=>False))(h:∀d ag,aE d ag->bp P Γ l0 Q l ⟨(t,d)::U,ag++bj,g⟩):bp P Γ l0 Q (o::l) ⟨s,b,g⟩:=by refine⟨λ a e L=>?_⟩;unfold wpList;rw[if_pos (kS L hg)];refine .inl (vj (hs a e L) λ bu aH hh=>?_);obtain⟨d,ag,V,hR,rfl,ea⟩:=hh;exact(h d ag hR).run bu V ea
theorem A5{a:Act}{e:ay}{S:Nat->Option F}(xs:List Operand){ds:List F}(h:∀x∈xs,∀d,ev S x=some d->bt e (a.eval x) d)(he:iv S xs some=some ds):DReps e (xs.map a.eval) ds:=by obtain⟨iK,u,D⟩:=rB xs _ ds h he;cases D;exact u
theorem gk{f:FuncId}{aX:List Nat}{ds:List F}{O:List (Nat×List F)}{aE:F->List (Nat×List F)->Prop}{xs:List Operand}{fb:Array TypeId}(hC:d8 P f aX ds O aE)(X:o.op=.call {callee:=.value (.func f),args:=xs.toArray,argTypes:=fb})(hf:jj P f)(he:iv (Y s) xs some=some ds)(aR:F.ok.ec (aC O) (λ _=>false) ds=true)(hs:i3 ⟨s,b,g⟩ (aC O) O)(dv:qn aX O Γ.kb)
 (hg:gd l0 o (Y s)=some true)(G:o.dst=some t)(M:Nat.blt t Γ.n=true)(fV:kA (λ b=>!aC O b||gJ aX b) s (λ U=>kQ (aC O) (λ b=>!aC O b||gJ aX b) b (λ bj=>some (U,bj)))=some (U,bj))
 (dh:∀d ag,aE d ag->jH O b ag)(h:∀d ag,aE d ag->bp P Γ l0 Q l ⟨(t,d)::U,ag++bj,g⟩):bp P Γ l0 Q (o::l) ⟨s,b,g⟩:=by
 refine Kg hg (λ a e L=>?_) h;have iR:=L.h1 o.op.operands;have hv:=A5 (a:=a) (e:=e) xs (λ x T=>iR.1 x (by rw[X];simp[Op.operands,Call.operands,T])) he;unfold Oper.wp;have e1:(execOp a.eval o).run P e.w=.ok (.enter f (xs.map a.eval).toArray) e.w:=by obtain⟨dst,op,type,pos,after,guard⟩:=o;simp only at X;subst X;rw[execOp_call_go,hf];simp
 rw[e1];exact MP hC L hv aR hs dv G M fV dh
theorem vC{f:FuncId}{aX:List Nat}{ds first cC:List F}{O:List (Nat×List F)}{aE:F->List (Nat×List F)->Prop}{fo:Operand}{xs:List Operand}{fb:Array TypeId}(hC:d8 P f aX ds O aE)(X:o.op=.call {callee:=.value fo,args:=xs.toArray,argTypes:=fb})(hf:jj P f)(sO:ev (Y s) fo=some (.fn (.func f) first cC))(he:iv (Y s) xs (λ iK=>lP first iK λ r=>lP r cC some)=some ds)(aR:F.ok.ec (aC O) (λ _=>false) ds=true)(hs:i3 ⟨s,b,g⟩ (aC O) O)(dv:qn aX O Γ.kb)
 (hg:gd l0 o (Y s)=some true)(G:o.dst=some t)(M:Nat.blt t Γ.n=true)(fV:kA (λ b=>!aC O b||gJ aX b) s (λ U=>kQ (aC O) (λ b=>!aC O b||gJ aX b) b (λ bj=>some (U,bj)))=some (U,bj))
 (dh:∀d ag,aE d ag->jH O b ag)(h:∀d ag,aE d ag->bp P Γ l0 Q l ⟨(t,d)::U,ag++bj,g⟩):bp P Γ l0 Q (o::l) ⟨s,b,g⟩:=by
 refine Kg hg (λ a e L=>?_) h;have iR:=L.h1 o.op.operands;obtain⟨iK,hr,mK⟩:=rB (a:=a) (e:=e) xs _ ds (λ x T=>iR.1 x (by rw[X];simp[Op.operands,Call.operands,T])) he;rw[pG,pG] at mK;cases mK;have ur:=iR.1 fo (by rw[X];simp[Op.operands,Call.operands]) _ sO;generalize dj:a.eval fo=gv at ur;cases ur with
 |fn i9 dz u D=>
  rename_i us vs;have dc:DReps e (us++xs.map a.eval++vs) (first++iK++cC):=(DReps.append ⟨i9,u⟩ hr).append ⟨dz,D⟩;unfold Oper.wp;have e1:(execOp a.eval o).run P e.w=.ok (.enter f (us++xs.map a.eval++vs).toArray) e.w:=by obtain⟨dst,op,type,pos,after,guard⟩:=o;simp only at X;subst X;simp only[execOp,resolve,dj,Deferred.ofValue,Sem.run_bind,Sem.run_pure,Result.andThen_ok,invoke];rw[hf];simp
  rw[e1];exact MP hC L dc aR hs dv G M fV dh
def sg(ah:Nat->Option TI)(I:St)(l:List ResultVar):Option F:=Cu ah I l λ
 |[d]=>some d
 |ds=>some (.bc ds)
theorem n5(hT:cR P ah){fn:Func}{e:ay}{a:Act}(L:bw Γ I e a){d:F}(h:sg ah I fn.results.toList=some d):∃v,(results fn a.tmps).run P e.w=.ok v e.w/\bt e v d:=by
 unfold sg at h;obtain⟨ds,vs,qW,mK,h⟩:=Je hT L _ _ d h;split at h
 ·rename_i d0;obtain⟨v,eV,rfl,hv,hn⟩:=mK.vh;have:eV=[]:=List.eq_nil_of_length_eq_zero hn.1;subst this;cases h;refine⟨v,?_,hv⟩;rw[zZ,Array.mapM_eq_mapM_toList];simp only[bind_map_left,Sem.run_bind,qW,Result.andThen_ok,Sem.run_pure];simp
 ·rename_i cP;cases h;refine⟨.tuple vs.toArray,?_,.bc mK.1 mK.2⟩;rw[zZ,Array.mapM_eq_mapM_toList];simp only[bind_map_left,Sem.run_bind,qW,Result.andThen_ok,Sem.run_pure];rw[dif_neg];intro hs;have M:ds.length=1:=by rw[<-mK.1];simpa using hs
  obtain⟨d1,rfl⟩:=List.length_eq_one_iff.1 M;exact cP d1 rfl
def jJ(O:List (Nat×List F)):List Nat->Prop
 |[]=>True
 |n::l=>aC O n=true/\jJ O l
theorem jJ.get{O:List (Nat×List F)}:∀{l:List Nat}(_:jJ O l){n:Nat},n∈l->aC O n=true
 |[],_,n,h=>by cases h
 |x::l,hs,n,h=>by
  rcases List.mem_cons.1 h with h|h
  ·subst h;exact hs.1
  ·exact hs.2.get h
def As(ah:Nat->Option TI)(rs:List ResultVar)(aX:List Nat)(aE:F->List (Nat×List F)->Prop):Exit->St->Prop:=λ ex I=>(ex=.normal\/ex=.ret)/\∃d ag,sg ah I rs=some d/\d.ok (aC ag) (λ _=>false)=true/\i3 I (aC ag) ag/\jJ ag aX/\aE d ag
theorem gU{rs:List ResultVar}{aX:List Nat}{aE:F->List (Nat×List F)->Prop}(ag:List (Nat×List F))(h:sg ah I rs=some d)(u:d.ok (aC ag) (λ _=>false)=true)(D:i3 I (aC ag) ag)(K:jJ ag aX)(hR:aE d ag):As ah rs aX aE .ret I:=⟨.inr rfl,d,ag,h,u,D,K,hR⟩
theorem jn{rs:List ResultVar}{aX:List Nat}{aE:F->List (Nat×List F)->Prop}(ag:List (Nat×List F))(h:sg ah I rs=some d)(u:d.ok (aC ag) (λ _=>false)=true)(D:i3 I (aC ag) ag)(K:jJ ag aX)(hR:aE d ag):As ah rs aX aE .normal I:=⟨.inl rfl,d,ag,h,u,D,K,hR⟩
def k8(kf:Nat->Nat):List Nat->List (Nat×Nat)
 |[]=>[]
 |n::l=>(n,kf n)::k8 kf l
theorem yX{kf:Nat->Nat}:∀{l:List Nat}{n k:Nat},Y (k8 kf l) n=some k->n∈l/\k=kf n
 |[],n,k,h=>by cases h
 |x::l,n,k,h=>by
  simp only[k8,cL] at h;split at h
  ·rename_i e;subst e;cases h;exact⟨List.mem_cons_self,rfl⟩
  ·obtain⟨u,D⟩:=yX h;exact⟨List.mem_cons_of_mem _ u,D⟩
theorem wR{kf:Nat->Nat}:∀{l:List Nat}{n:Nat},n∈l->Y (k8 kf l) n=some (kf n)
 |[],n,h=>by cases h
 |x::l,n,h=>by
  simp only[k8,cL];split
  ·rename_i e;subst e;rfl
  ·rename_i e;rcases List.mem_cons.1 h with h|h
   ·exact absurd h.symm e
   ·exact wR h
theorem U8(hT:cR P ah){f:FuncId}{fn:Func}{c:Code}{ds:List F}{aX:List Nat}{O:List (Nat×List F)}{aE:F->List (Nat×List F)->Prop}{rs:List ResultVar}{n:Nat}{s:List (Nat×F)}(hf:P.funcs[f]?=some fn)(R:fn.body=some c)(ic:fn.ntmps=n)(kY:fn.results.toList=rs)(hn:Nat.ble ds.length n=true)(hs:qy 0 ds some=some s)(ni:jJ O aX)
 (h:∀w cl own kf,aJ P ⟨n,w,cl,own,k8 kf aX,[]⟩ c (As ah rs aX aE) ⟨s,O,[]⟩):d8 P f aX ds O aE:=by
 subst ic;subst kY;rw[yl] at hs;cases hs;have hn:=Nat.le_of_ble_eq_true hn;intro e vs hI hv;refine calls_of_wp hf R ?_;have M:vs.length=ds.length:=hv.1;have iy:∀b,b∈aX->e.bx b=some ((e.bx b).getD 0):=λ b R=>by
  have u:=ni.get R;obtain⟨cs,cr⟩:=Option.isSome_iff_exists.1 u;obtain⟨k,_,_,D,_⟩:=hI.boxes b cs cr;rw[D];rfl
 have L:bw ⟨fn.ntmps,e.w,e.cl,λ k=>∃b,e.bx b=some k,k8 (λ b=>(e.bx b).getD 0) aX,[]⟩ ⟨sG.go 0 ds,O,[]⟩ e {tmps:=vs.toArray++Array.replicate (fn.ntmps-vs.toArray.size) undef,defers:=[]}:=by
  refine⟨by simp;omega,rfl,λ t d0 ht=>?_,hI.boxes,hI.dX,λ g=>by rw[hI.gi];rfl,⟨mZ.refl _ _,λ _ _ _=>rfl,λ b k J=>⟨(hI.bx b k J).1,.inr ⟨b,J⟩,(hI.bx b k J).2,hI.gr k⟩,hI.inj,λ k g J=>(by rw[hI.gr] at J;cases J),λ b k J=>?_⟩⟩
  ·obtain⟨_,D⟩:=AZ ds 0 t d0 ht;simp only[Nat.sub_zero] at D;obtain⟨v,K,h4⟩:=hv.get D;have gq:t<vs.length:=(List.getElem?_eq_some_iff.1 K).1;have:fK {tmps:=vs.toArray++Array.replicate (fn.ntmps-vs.toArray.size) undef,defers:=[]} t=v:=by
    unfold fK;simp only[Array.getD_eq_getD_getElem?];rw[Array.getElem?_append_left (by simpa using gq),List.getElem?_toArray,K]
    rfl
   rw[this];exact h4
  ·obtain⟨u,D⟩:=yX J;rw[D];exact iy b u
 refine Code.wp_mono (λ ex bu aH hh=>?_) ((h e.w e.cl _ _).run _ e L);obtain⟨bS,V,rfl,D,K,d,ag,h4,h5,h6,h7,h8⟩:=hh;obtain⟨v,hr,hv⟩:=n5 hT D h4;have TX:Left aX e (V.cut (aC ag) λ _=>false):=by
  refine⟨D.env.kept,D.env.cl,λ b k J=>?_,λ b R=>?_⟩
  ·have dk:(if aC ag b=true then V.bx b else none)=some k:=J;split at dk
   ·exact(D.env.bx b k dk).2.1
   ·cases dk
  ·show(if aC ag b=true then V.bx b else none)=_;rw[if_pos (h7.get R),iy b R];exact D.env.kb b _ (wR R)
 have j5:bu.defers=[]/\∃v,(results fn bu.tmps).run P V.w=.ok v V.w/\∃jh d ag mz,Ending.returned v=.returned jh/\mz.w=V.w/\aE d ag/\fG ag mz/\bt mz jh d/\Left aX e mz:=
  ⟨D.df,v,hr,v,d,ag,V.cut (aC ag) λ _=>false,rfl,rfl,h8,kB D h6,hv.cut h5,TX⟩
 rcases K with rfl|rfl
 ·exact j5
 ·exact j5
def Ae(Q:Exit->St->Prop):Exit->St->Prop
 |.goto _,_=>False
 |ex,I=>Q ex I
theorem Q6{c:Code}(h:aJ P Γ c (Ae Q) I):aJ P Γ (.scope c) Q I:=⟨λ a e L=>by
 refine wp_scope_straight (Code.wp_mono (λ ex bu aH hh=>?_) (h.run a e L));obtain⟨bS,V,rfl,D,K⟩:=hh;cases ex with
 |goto l=>exact K.elim
 |_=>exact⟨bS,V,rfl,D,K⟩⟩
theorem Q1{n:Nat}(h:Q .normal I):aJ P Γ (.label n) Q I:=⟨λ _ e L=>wp_label ⟨I,e,rfl,L,h⟩⟩
end
end Go.Proofs.YtcnefjfboagbmaaGreat
end
section
namespace Go.Proofs.YtcnefjfboagbmaaGreat
open Go.RowKit
section
variable{P:Program}{ah:Nat->Option TI}{Γ:bE}{I bS bn:St}{o:Oper}{l0 l:List Oper}{Q:Exit->St->Prop}
def cj(n:Nat):Nat->Bool:=λ m=>!Nat.beq n m
theorem IL{n m:Nat}(h:cj n m=true):m≠n:=λ e=>by subst e;simp[cj] at h
theorem Wo{n m:Nat}(h:m≠n):cj n m=true:=by
 have:Nat.beq n m=false:=by rw[Bool.eq_false_iff];intro R;exact h (Nat.eq_of_beq_eq_true R).symm
 simp[cj,this]
theorem bw.forget{e:ay}{a:Act}(L:bw Γ I e a)(nm:Nat)(J:Y Γ.kb nm=none):bw Γ ⟨qw (cj nm) I.s,hl (Nat.beq nm) (cj nm) I.b,I.g⟩ (e.cut (cj nm) λ _=>true) a:=by
 have iy:∀b k,(e.cut (cj nm) λ _=>true).bx b=some k->e.bx b=some k:=λ b k h=>by
  have bN:(if cj nm b=true then e.bx b else none)=some k:=h;split at bN
  ·exact bN
  ·cases bN
 have gp:∀k,(e.cut (cj nm) λ _=>true).gr k=e.gr k:=λ k=>by
  show(match e.gr k with|some g=>if true=true then some g else none|none=>none)=_;cases e.gr k<;>simp
 have fh:∀g,(e.cut (cj nm) λ _=>true).gi g=e.gi g:=λ g=>by
  show(if true=true then e.gi g else none)=_;simp
 refine⟨L.size,L.df,λ t d ht=>?_,λ b cs R=>?_,λ b R=>?_,λ g=>by rw[fh];exact L.gs g,L.env.kept,L.env.cl,λ b k h=>?_,λ b c k u D=>L.env.inj b c k (iy _ _ u) (iy _ _ D),λ k g h=>?_,λ b k h=>?_⟩
 ·obtain⟨d0,u,rfl⟩:=Gw ht;exact Ie (L.bm t d0 u)
 ·obtain⟨u,lS,D,rfl⟩:=yh R;obtain⟨k,vs,el,K,h4,h5⟩:=L.boxes b lS D;refine⟨k,vs,el,?_,h4,Gv h5⟩;show(if cj nm b=true then e.bx b else none)=_;rw[if_pos (by simp[cj,u])];exact K
 ·show(if cj nm b=true then e.bx b else none)=_;rcases Dg R with h|h
  ·rw[if_neg (by simp only[cj,h];decide)]
  ·rw[L.dX b h];simp
 ·obtain⟨u,D,K,h4⟩:=L.env.bx b k (iy b k h);exact⟨u,D,K,by rw[gp];exact h4⟩
 ·rw[gp] at h;obtain⟨ak,cur,u,D⟩:=L.env.gr k g h;exact⟨ak,cur,by rw[fh];exact u,D⟩
 ·show(if cj nm b=true then e.bx b else none)=_;rw[if_pos (Wo (λ V=>by rw[V,J] at h;cases h))];exact L.env.kb b k h
theorem bw.Dx{e:ay}{a:Act}(L:bw Γ I e a){b k:Nat}{cs:List F}(R:Y I.b b=none)(J:k<e.w.heap.size)(ou:Γ.w0.heap.size<=k\/Γ.own k)(de:e.cl k=some 0)(gp:e.gr k=none)(dh:∀c,e.bx c≠some k)
 (mJ:gu (e.ip b k) b cs):bw Γ ⟨I.s,(b,cs)::I.b,I.g⟩ (e.ip b k) a:=by
 have hn:=L.dX b R;have A:=sm (k:=k) hn;refine⟨L.size,L.df,λ t d ht=>(L.bm t d ht).next A,λ c ds pQ=>?_,λ c qE=>?_,L.gs,?_⟩
 ·simp only[cL] at pQ;split at pQ
  ·rename_i rM;subst rM;cases pQ;exact mJ
  ·exact(L.boxes c ds pQ).ends A rfl
 ·simp only[cL] at qE;split at qE
  ·cases qE
  ·rename_i rM;show(if c=b then some k else e.bx c)=none;rw[if_neg (λ V=>rM V.symm)];exact L.dX c qE
 ·refine⟨L.env.kept,L.env.cl,λ c j hj=>?_,λ c bU j u D=>?_,L.env.gr,λ c j hj=>A.bx c j (L.env.kb c j hj)⟩
  ·have fj:(if c=b then some k else e.bx c)=some j:=hj;split at fj
   ·cases fj;exact⟨J,ou,de,gp⟩
   ·exact L.env.bx c j fj
  ·have aN:(if c=b then some k else e.bx c)=some j:=u;have bd:(if bU=b then some k else e.bx bU)=some j:=D
   by_cases e1:c=b<;>by_cases e2:bU=b
   ·rw[e1,e2]
   ·rw[if_pos e1] at aN;rw[if_neg e2] at bd;cases aN;exact absurd bd (dh bU)
   ·rw[if_neg e1] at aN;rw[if_pos e2] at bd;cases bd;exact absurd aN (dh c)
   ·rw[if_neg e1] at aN;rw[if_neg e2] at bd;exact L.env.inj c bU j aN bd
theorem bw.O7{e:ay}{a:Act}(L:bw Γ I e a){k:Nat}(us:List Value)(ou:Γ.w0.heap.size<=k\/Γ.own k)(de:e.cl k=some 0)(gp:e.gr k=none)(dh:∀c,e.bx c≠some k):
 bw Γ I {e with w:=e.w.setRow k us.toArray} a/\Ends e {e with w:=e.w.setRow k us.toArray}:=by
 have gB:∀j,j≠k->(e.w.setRow k us.toArray).heap[j]?=e.w.heap[j]?:=λ j hj=>setRow_other e.w k j _ hj
 have A:Ends e {e with w:=e.w.setRow k us.toArray}:=by
  refine⟨λ bj o v Bl hv=>?_,λ _ _ h=>h,λ _ ak h=>⟨ak,h,rfl,rfl,Nat.le_refl _⟩,λ j g ak cur h5 h6 h7=>⟨h5,cur,?_,rfl⟩⟩
  ·have cP:bj≠k:=λ V=>by subst V;exact absurd (Bl 0 de) (by omega)
   exact⟨Bl,by show(e.w.setRow k us.toArray).cell? _=_;rw[World.cell?_of_block (w:=e.w) (gB bj cP)];exact hv⟩
  ·show(e.w.setRow k us.toArray).heap[j]?=_;rw[gB j (λ V=>by subst V;rw[gp] at h5;cases h5)];exact h7
 refine⟨⟨L.size,L.df,λ t d ht=>(L.bm t d ht).next A,λ bj ds G=>?_,L.dX,L.gs,?_⟩,A⟩
 ·obtain⟨jb,eV,AY,h5,h6,h7⟩:=L.boxes bj ds G;refine⟨jb,eV,AY,h5,?_,h7.next A⟩;show(e.w.setRow k us.toArray).heap[jb]?=_;rw[gB jb (λ V=>dh bj (by rw[h5,V]))];exact h6
 ·refine⟨⟨L.env.kept.os,L.env.kept.tape,L.env.kept.output,by show _<=(e.w.setRow k us.toArray).heap.size;rw[setRow_size];exact L.env.kept.size,λ j hj X=>?_⟩,L.env.cl,λ bj j hj=>?_,L.env.inj,λ j g hg=>?_,L.env.kb⟩
  ·show(e.w.setRow k us.toArray).heap[j]?=_;rw[gB j (λ V=>by subst V;rcases ou with D|D<;>first|omega|exact X D)];exact L.env.kept.block j hj X
  ·obtain⟨h5,h6,h7,h8⟩:=L.env.bx bj j hj;exact⟨by show j<(e.w.setRow k us.toArray).heap.size;rw[setRow_size];exact h5,h6,h7,h8⟩
  ·obtain⟨ak,cur,h5,h6,h7,h8,h9⟩:=L.env.gr j g hg;refine⟨ak,cur,h5,by show j<(e.w.setRow k us.toArray).heap.size;rw[setRow_size];exact h6,h7,h8,?_⟩;show(e.w.setRow k us.toArray).heap[j]?=_;rw[gB j (λ V=>by subst V;rw[gp] at hg;cases hg)];exact h9
theorem O2(w:World)(t ty e e0:TypeId)(i:TypeInfo)(ht:P.underlying t=some (.slice e))(Z:P.info? e=some i)
 (g xw Jm:Nat)(cur:Array Value)(hg:w.heap[g]?=some (.cells cur e0 (0,0)))
 (a:Addr)(m c:Nat)(news:List Value)(M:news.length=m*i.size)(Ue:∀(j:Nat) aa,news[j]?=some aa->w.cell? (a.add j)=some aa)(u:∀aa∈news,aa.oneCell'=true)
 (oE:xw+m<=Jm)(Bp:xw*i.size+news.length<=cur.size):
 (Builtin.append_ #[t,t] ty #[.slice (some ⟨g,0,none⟩) xw Jm,.slice (some a) m c]).run P w=
  .ok (.slice (some ⟨g,0,none⟩) (xw+m) Jm) (w.setRow g (cur.toList.take (xw*i.size)++news++cur.toList.drop (xw*i.size+news.length)).toArray):=by
 have hf:=run_firstCells_some (P:=P) w i.size m a m c news M Ue;have b8:=run_storeCells_at P g (xw*i.size) e0 news 0 cur w hg (by simpa using Bp) u;simp only[Nat.add_zero] at b8;simp[Builtin.append_,run_underlying ht,sizeOf,typeInfo,Z,Builtin.lenOf,oE,hf,Addr.add_lit,b8]
inductive AB(e:ay)(nm n c:Nat)(ps:List Pl):Value->Prop where
 |none (hn:n=0) (L:c=0) (cM:ps=[]):AB e nm n c ps (.slice none 0 0)
 |empty {ad:Addr} (hn:n=0) (L:c=0) (cM:ps=[]):AB e nm n c ps (.slice (some ad) 0 0)
 |some {k:Nat} {vs:List Value} {el:TypeId} (J:e.bx nm=some k) (hh:e.w.heap[k]?=some (.cells vs.toArray el (0,0))) (M:vs.length=c) (hn:n<=c) (cM:ps.length=n) (hr:∀(j:Nat) v x,vs[j]?=some v->ps[j]?=some x->cV e v x):AB e nm n c ps (.slice (some ⟨k,0,none⟩) n c)
theorem I1{e:ay}{vs:List Value}{cs:List F}{ps:List Pl}(h:DReps e vs cs)(hp:cs.take ps.length=ps.map F.p):∀(j:Nat) v x,vs[j]?=some v->ps[j]?=some x->cV e v x:=by
 intro j v x hv T;have hj:=(List.getElem?_eq_some_iff.1 T).1;have u:(cs.take ps.length)[j]?=some (.p x):=by rw[hp,List.getElem?_map,T];rfl
 rw[List.getElem?_take,if_pos hj] at u;have:=h.2 j v _ hv u;cases this with
 |p h=>exact h
theorem EX{e:ay}{vs:List Value}{ps:List Pl}(hn:ps.length<=vs.length)(h:∀(j:Nat) v x,vs[j]?=some v->ps[j]?=some x->cV e v x):DReps e vs (ps.map F.p++List.replicate (vs.length-ps.length) .any):=by
 refine⟨by simp;omega,λ j v d hv G=>?_⟩;rcases Nat.lt_or_ge j ps.length with hj|hj
 ·rw[List.getElem?_append_left (by simpa using hj),List.getElem?_map,List.getElem?_eq_getElem hj] at G;cases G;exact .p (h j v _ hv (List.getElem?_eq_getElem hj))
 ·rw[List.getElem?_append_right (by simpa using hj),List.getElem?_replicate] at G;split at G
  ·cases G;exact .any
  ·cases G
def eN(cs:List F):Prop:=∀B ak,F.ok.ec B ak cs=true
theorem EZ(ps:List Pl)(r:Nat):eN (ps.map F.p++List.replicate r F.any):=by
 intro B ak;induction ps with
 |nil=>
  induction r with
  |zero=>rfl
  |succ r ih=>simp only[List.map_nil,List.nil_append,List.replicate_succ,F.ok.ec,F.ok,Bool.true_and] at ih⊢;exact ih
 |cons p ps ih=>simp only[List.map_cons,List.cons_append,F.ok.ec,F.ok,Bool.true_and];exact ih
theorem QQ(hT:cR P ah){e:ay}{a:Act}(L:bw Γ I e a){ty:TypeId}{nm n m c el z1 z2:Nat}{z3:Value}{ps qs:List Pl}{i:TI}{vx vy:Value}{t:TypeId}(ht:ah t=some ⟨.slice el,z1,z2,z3⟩)(dR:ah el=some i)(gI:i.zero.cells.size=1)(Ec:i.sz=1)(dv:Y Γ.kb nm=none)
 (T:AB e nm n c ps vx)(jp:c<=maxLen)(eR:cV e vy (.sl false m qs))(hm:0<m)(dT:qs.length=m)
 (fM:n+m<=maxLen)(fU:(n+m)*i.bytes<=140737488355328):∃v V aO bU,(Builtin.append_ #[t,t] ty #[vx,vy]).run P e.w=.ok v V.w/\aO.length=bU/\bU<=maxLen/\n+m<=bU/\aO.take (n+m)=(ps++qs).map F.p/\eN aO/\
  bw Γ ⟨qw (cj nm) I.s,(nm,aO)::hl (Nat.beq nm) (cj nm) I.b,I.g⟩ V a/\bt V v (.arr nm 0 (n+m) bU):=by
 obtain⟨d0,dI,J⟩:=hT.desc t _ ht;cases d0<;>simp only[jg,reduceCtorEq,TK.slice.injEq] at J
 rw[J] at dI;obtain⟨fN,lY,bT,rO,hz⟩:=hT.info _ i dR;rw[Ec] at bT;obtain⟨aF,kN,rfl,MK,MM,Lz,_,hY⟩:=pu eR;have BP:qs≠[]:=λ V=>by rw[V] at dT;simp at dT;omega
 rcases hY with hY|⟨yb,yo,rfl,Be⟩
 ·exact absurd hY BP
 obtain⟨us,qV,pk,kZ,tf⟩:=AM Be;have oF:us.length=m*fN.size:=by rw[qV,dT,bT];omega
 have te:us.length=m:=by rw[qV,dT]
 have sQ:=L.forget nm dv;have BI:Y (hl (Nat.beq nm) (cj nm) I.b) nm=none:=by
  cases h:Y (hl (Nat.beq nm) (cj nm) I.b) nm with
  |none=>rfl
  |some cs=>have:=(yh h).1;simp at this
 have rS:∀(os:List Value),os.length=n->ps.length=n->(∀(j:Nat) v x,os[j]?=some v->ps[j]?=some x->cV e v x)->(c<n+m)->(Builtin.append_ #[t,t] ty #[vx,.slice (some ⟨yb,yo,none⟩) m kN]).run P e.w=.ok (.slice (some ⟨e.w.heap.size,0,none⟩) (n+m) (grownCap e.w (n+m) c el)) (e.w.drew.alloc (.cells (os.toArray++us.toArray++Builtin.zeroCells i.zero.cells (grownCap e.w (n+m) c el-(n+m))) el))->
  ∃v V aO bU,(Builtin.append_ #[t,t] ty #[vx,.slice (some ⟨yb,yo,none⟩) m kN]).run P e.w=.ok v V.w/\aO.length=bU/\bU<=maxLen/\n+m<=bU/\aO.take (n+m)=(ps++qs).map F.p/\eN aO/\
  bw Γ ⟨qw (cj nm) I.s,(nm,aO)::hl (Nat.beq nm) (cj nm) I.b,I.g⟩ V a/\bt V v (.arr nm 0 (n+m) bU):=by
  intro os iQ cM s0 bh cG;have gH:n+m<=grownCap e.w (n+m) c el:=grownCap_ge _ _ _ _;have nK:grownCap e.w (n+m) c el<=maxLen:=grownCap_le_maxLen _ _ _ _ fM;generalize grownCap e.w (n+m) c el=bP at gH nK cG
  let e1:=e.cut (cj nm) λ _=>true
  let io:List Value:=os++us++(Builtin.zeroCells i.zero.cells (bP-(n+m))).toList
  have s9:os.toArray++us.toArray++Builtin.zeroCells i.zero.cells (bP-(n+m))=io.toArray:=by apply Array.ext';simp[io]
  have cg:io.length=bP:=by
   have:(Builtin.zeroCells i.zero.cells (bP-(n+m))).toList.length=bP-(n+m):=by rw[Array.length_toList,size_zeroCells,gI];omega
   simp only[io,List.length_append,iQ,te,this];omega
  rw[s9] at cG
  let e2:ay:={e1 with w:=e.w.drew}
  have i8:jI e1 e2:=⟨(Below.refl _ _).drew,λ _ _=>rfl,rfl,rfl,rfl⟩;have dS:=ay.sr e2 (.cells io.toArray el) (some 0);have ez:=(sQ.grow i8).grow dS;have G3:Ends e1 (e2.alloc (.cells io.toArray el) (some 0)):=i8.ends.trans dS.ends;have nR:∀(j:Nat) v x,io[j]?=some v->(ps++qs)[j]?=some x->cV e1 v x:=by
   intro j v x hv T;rcases Nat.lt_or_ge j n with hj|hj
   ·rw[List.getElem?_append_left (by omega)] at T;simp only[io,List.append_assoc] at hv;rw[List.getElem?_append_left (by omega)] at hv;exact(s0 j v x hv T).cut
   ·rw[List.getElem?_append_right (by omega),cM] at T;have HG:=(List.getElem?_eq_some_iff.1 T).1;simp only[io,List.append_assoc] at hv;rw[List.getElem?_append_right (by omega),iQ,List.getElem?_append_left (by omega)] at hv;exact(tf _ v x hv T).cut
  have bG:(ps++qs).length=n+m:=by simp[cM,dT]
  have sM:=EX (e:=e1) (vs:=io) (ps:=ps++qs) (by omega) nR;have iw:(e2.alloc (.cells io.toArray el) (some 0)).bx nm=none:=by show(if cj nm nm=true then e.bx nm else none)=none;simp[cj]
  have vZ:=sm (k:=e.w.heap.size) iw;have wj:=ez.Dx (b:=nm) (k:=e.w.heap.size) (cs:=(ps++qs).map F.p++List.replicate (io.length-(ps++qs).length) F.any) BI (by simp[ay.alloc,e2]) (.inl L.env.kept.size) (by simp[ay.alloc,e2]) (by
   show(e.cut (cj nm) λ _=>true).gr _=none;show(match e.gr e.w.heap.size with|some g=>if true=true then some g else none|none=>none)=none;cases hg:e.gr e.w.heap.size with
   |none=>rfl
   |some g=>obtain⟨_,_,_,K,_⟩:=L.env.gr _ g hg;omega) (λ x T=>by
   have fJ:(if cj nm x=true then e.bx x else none)=some e.w.heap.size:=T;split at fJ
   ·have:=(L.env.bx x _ fJ).1;omega
   ·cases fJ) ⟨e.w.heap.size,io,el,by simp[ay.ip],heap_alloc_new e2.w _,(sM.next G3).next vZ⟩
  refine⟨_,(e2.alloc (.cells io.toArray el) (some 0)).ip nm e.w.heap.size,_,bP,cG,?_,nK,gH,?_,EZ _ _,wj,.arr (by simp[ay.ip])⟩
  ·simp only[List.length_append,List.length_map,List.length_replicate,cg,cM,dT];omega
  ·rw[<-bG,List.take_append_of_le_length (by simp),List.take_of_length_le (by simp)]
 cases T with
 |empty hn ho cM=>rename_i ad;subst hn;subst ho;subst cM;have cG:=run_append_grow (P:=P) e.w t ty el fN i.zero dI lY hz ad 0 0 [] (by simp) (λ j v hj=>by simp at hj) ⟨yb,yo,none⟩ m kN us oF pk (by omega) (by simp only[maxLen] at fM;omega) (growslice_fits (by omega) (by rw[rO];exact fU));exact rS [] rfl rfl (λ j v x hj=>by simp at hj) (by omega) cG
 |none hn ho cM=>subst hn;subst ho;subst cM;have cG:=run_append_nil (P:=P) e.w t ty el fN i.zero dI lY hz ⟨yb,yo,none⟩ m kN us oF pk hm (by simp only[maxLen] at fM;omega) (by rw[rO];simp only[Nat.zero_add] at fU;omega);exact rS [] rfl rfl (λ j v x hj=>by simp at hj) (by omega) (by simpa using cG)
 |some J hh M hn cM hr=>
  rename_i k vs oT
  by_cases oE:n+m<=c
  ·have cG:=O2 (P:=P) e.w t ty el oT fN dI lY k n c vs.toArray hh ⟨yb,yo,none⟩ m kN us oF pk kZ oE (by simp[bT,te,M];omega);obtain⟨u,D,K,h4⟩:=L.env.bx nm k J
   let eV:=vs.take n++us++vs.drop (n+m)
   have qW:(vs.toArray.toList.take (n*fN.size)++us++vs.toArray.toList.drop (n*fN.size+us.length))=eV:=by simp[bT,te,eV]
   rw[qW] at cG;have dh:∀x,(e.cut (cj nm) λ _=>true).bx x≠some k:=λ x T=>by
    have fJ:(if cj nm x=true then e.bx x else none)=some k:=T;split at fJ
    ·rename_i cP;exact IL cP (L.env.inj _ _ _ fJ J)
    ·cases fJ
   have sT:(e.cut (cj nm) λ _=>true).gr k=none:=by show(match e.gr k with|some g=>if true=true then some g else none|none=>none)=none;rw[h4]
   obtain⟨tc,A⟩:=sQ.O7 eV D K sT dh;have cg:eV.length=c:=by simp[eV,te,M];omega
   have bG:(ps++qs).length=n+m:=by simp[cM,dT]
   have nR:∀(j:Nat) v x,eV[j]?=some v->(ps++qs)[j]?=some x->cV (e.cut (cj nm) λ _=>true) v x:=by
    intro j v x hv T;rcases Nat.lt_or_ge j n with hj|hj
    ·rw[List.getElem?_append_left (by omega)] at T;simp only[eV,List.append_assoc] at hv;rw[List.getElem?_append_left (by simp;omega),List.getElem?_take,if_pos hj] at hv;exact(hr j v x hv T).cut
    ·rw[List.getElem?_append_right (by omega),cM] at T;have HG:=(List.getElem?_eq_some_iff.1 T).1;simp only[eV,List.append_assoc] at hv;rw[List.getElem?_append_right (by simp;omega),List.length_take,M,Nat.min_eq_left hn,List.getElem?_append_left (by omega)] at hv;exact(tf _ v x hv T).cut
   have sM:=EX (vs:=eV) (ps:=ps++qs) (by omega) nR;have iw:(e.cut (cj nm) λ _=>true).bx nm=none:=by show(if cj nm nm=true then e.bx nm else none)=none;simp[cj]
   have vZ:=sm (e:={w:=(e.cut (cj nm) λ _=>true).w.setRow k eV.toArray,cl:=(e.cut (cj nm) λ _=>true).cl,bx:=(e.cut (cj nm) λ _=>true).bx,gr:=(e.cut (cj nm) λ _=>true).gr,gi:=(e.cut (cj nm) λ _=>true).gi}) (b:=nm) (k:=k) iw;have wj:=tc.Dx (b:=nm) (k:=k) (cs:=(ps++qs).map F.p++List.replicate (eV.length-(ps++qs).length) F.any) BI (by show k<(e.w.setRow k _).heap.size;rw[setRow_size];exact u) D K sT dh ⟨k,eV,oT,by simp[ay.ip],C7 hh,(sM.next A).next vZ⟩;refine⟨_,_,_,c,cG,?_,jp,oE,?_,EZ _ _,wj,.arr (by simp[ay.ip])⟩
   ·simp only[List.length_append,List.length_map,List.length_replicate,cg,cM,dT];omega
   ·rw[<-bG,List.take_append_of_le_length (by simp),List.take_of_length_le (by simp)]
  ·have cG:=run_append_grow (P:=P) e.w t ty el fN i.zero dI lY hz ⟨k,0,none⟩ n c (vs.take n) (by simp[bT,M];omega) (λ j v hj=>by
    rw[List.getElem?_take] at hj;split at hj
    ·rw[qq,cell_of_row e.w k (0+j) vs.toArray oT (0,0) hh];simpa using hj
    ·cases hj) ⟨yb,yo,none⟩ m kN us oF pk (by omega) (by simp only[maxLen] at fM;omega) (growslice_fits (by omega) (by rw[rO];exact fU))
   exact rS (vs.take n) (by simp[M];omega) cM (λ j v x hv T=>by
    rw[List.getElem?_take] at hv;split at hv
    ·exact hr j v x hv T
    ·cases hv) (by omega) cG
end
end Go.Proofs.YtcnefjfboagbmaaGreat
end
section
namespace Go.Proofs.YtcnefjfboagbmaaGreat
open Go.RowKit
section
variable{P:Program}{ah:Nat->Option TI}{Γ:bE}{o:Oper}{l0 l:List Oper}{Q:Exit->St->Prop}
variable{s U:List (Nat×F)}{b bj:List (Nat×List F)}{g:List (Nat×Gr)}{t:Nat}
theorem O1{a:Act}{ty:TypeId}{x y:Operand}{w aH:World}{v:Value}(X:o.op=.call {callee:=.builtin .append,args:=#[x,y],argTypes:=#[ty,ty]})(h:(Builtin.append_ #[ty,ty] o.type #[a.eval x,a.eval y]).run P w=.ok v aH):(execOp a.eval o).run P w=.ok (.value v) aH:=by obtain⟨dst,op,type,pos,after,guard⟩:=o;simp only at X;subst X;simp only[execOp,resolve,invoke,builtin,Sem.run_bind,Sem.run_pure,Result.andThen_ok,List.map_toArray,List.map_cons,List.map_nil,h]
theorem QO(hT:cR P ah)(nm:Nat){ty:TypeId}{x y:Operand}{n m c el z1 z2:Nat}{z3:Value}{ps qs:List Pl}{dy:F}{i:TI}(X:o.op=.call {callee:=.builtin .append,args:=#[x,y],argTypes:=#[ty,ty]})(ht:ah ty=some ⟨.slice el,z1,z2,z3⟩)(dR:ah el=some i)(gI:Nat.beq i.zero.cells.size 1=true)(bT:Nat.beq i.sz 1=true)
 (hg:gd l0 o (Y s)=some true)(G:o.dst=some t)(M:Nat.blt t Γ.n=true)(dv:Y Γ.kb nm=none)(T:∀(a:Act)(e:ay),bw Γ ⟨s,b,g⟩ e a->AB e nm n c ps (a.eval x))(jp:c<=maxLen)(hy:ev (Y s) y=some dy)(kF:mj dy=some (m,qs))(hm:0<m)(dT:qs.length=m)
 (fM:n+m<=maxLen)(fU:(n+m)*i.bytes<=140737488355328)(fV:kA (cj nm) s (λ U=>kQ (Nat.beq nm) (cj nm) b (λ bj=>some (U,bj)))=some (U,bj))
 (h:∀aO bU,aO.length=bU->bU<=maxLen->n+m<=bU->aO.take (n+m)=(ps++qs).map F.p->eN aO->bp P Γ l0 Q l ⟨(t,.arr nm 0 (n+m) bU)::U,(nm,aO)::bj,g⟩):bp P Γ l0 Q (o::l) ⟨s,b,g⟩:=by
 rw[sD,sC] at fV;cases fV;refine⟨λ a e L=>?_⟩;unfold wpList;rw[if_pos (kS L hg)];have iR:=L.h1 o.op.operands;have eR:=u7 (iR.1 y (by rw[X];simp[Op.operands,Call.operands]) _ hy) kF;obtain⟨v,V,aO,bU,cG,u,D,K,h4,bG,h5,h6⟩:=QQ hT L (ty:=o.type) ht dR (Nat.eq_of_beq_eq_true gI) (Nat.eq_of_beq_eq_true bT) dv (T a e L) jp eR hm dT fM fU;refine .inl ?_;unfold Oper.wp;rw[O1 X cG];have:=(h5.put (dst:=o.dst) (oS G M) h6);rw[G] at this;show wpList P l0.toArray (iZ Γ Q) l (a.put o.dst v) V.w;rw[G];exact(h aO bU u D K h4 bG).run _ V this
theorem J8(hT:cR P ah)(nm:Nat){ty:TypeId}{x y:Operand}{m el z1 z2:Nat}{z3:Value}{qs:List Pl}{dy:F}{i:TI}(X:o.op=.call {callee:=.builtin .append,args:=#[x,y],argTypes:=#[ty,ty]})(ht:ah ty=some ⟨.slice el,z1,z2,z3⟩)(dR:ah el=some i)(gI:Nat.beq i.zero.cells.size 1=true)(bT:Nat.beq i.sz 1=true)
 (hg:gd l0 o (Y s)=some true)(G:o.dst=some t)(M:Nat.blt t Γ.n=true)(T:ev (Y s) x=some (.p (.sl true 0 [])))(dv:Y Γ.kb nm=none)(hy:ev (Y s) y=some dy)(kF:mj dy=some (m,qs))(fV:kA (cj nm) s (λ U=>kQ (Nat.beq nm) (cj nm) b (λ bj=>some (U,bj)))=some (U,bj))
 (hm:0<m)(dT:qs.length=m)(fM:m<=maxLen)(fU:m*i.bytes<=140737488355328)
 (h:∀aO bU,aO.length=bU->bU<=maxLen->m<=bU->aO.take m=qs.map F.p->eN aO->bp P Γ l0 Q l ⟨(t,.arr nm 0 m bU)::U,(nm,aO)::bj,g⟩):bp P Γ l0 Q (o::l) ⟨s,b,g⟩:=by
 refine QO hT nm (n:=0) (c:=0) (ps:=[]) X ht dR gI bT hg G M dv (λ a e L=>?_) (Nat.zero_le _) hy kF hm dT (by omega) (by simpa using fU) fV (λ aO bU u D K h4 bG=>?_)
 ·have bV:=(L.h1 o.op.operands).1 x (by rw[X];simp[Op.operands,Call.operands]) _ T;generalize a.eval x=vx at bV;cases bV with
  |p u=>
   obtain⟨ar,bP,rfl,_,_,_,h5,_⟩:=pu u;have:=h5 rfl;subst this;cases ar with
   |none=>exact .none rfl rfl rfl
   |some ad=>exact .empty rfl rfl rfl
 ·simp only[Nat.zero_add,List.nil_append] at K h4⊢;exact h aO bU u D K h4 bG
theorem bw.vH{I:St}{e:ay}{a:Act}(L:bw Γ I e a){k:Nat}(m:Nat)(ou:Γ.w0.heap.size<=k\/Γ.own k)(de:e.cl k=some 0)(gp:e.gr k=none)(dh:∀c,e.bx c≠some k):
 bw Γ I {e with cl:=λ j=>if j=k then some m else e.cl j} a/\Ends e {e with cl:=λ j=>if j=k then some m else e.cl j}:=by
 have A:Ends e {e with cl:=λ j=>if j=k then some m else e.cl j}:=by
  refine⟨λ bj o v Bl hv=>⟨λ n hn=>?_,hv⟩,λ _ _ h=>h,λ _ ak h=>⟨ak,h,rfl,rfl,Nat.le_refl _⟩,λ j g ak cur h5 h6 h7=>⟨h5,cur,h7,rfl⟩⟩;have cP:bj≠k:=λ V=>by subst V;exact absurd (Bl 0 de) (by omega)
  have jt:(if bj=k then some m else e.cl bj)=some n:=hn;rw[if_neg cP] at jt;exact Bl n jt
 refine⟨⟨L.size,L.df,λ t d ht=>(L.bm t d ht).next A,λ bj ds G=>(L.boxes bj ds G).ends A rfl,L.dX,L.gs,⟨L.env.kept,λ j hj X=>?_,λ bj j hj=>?_,L.env.inj,λ j g hg=>?_,L.env.kb⟩⟩,A⟩
 ·show(if j=k then some m else e.cl j)=_;rw[if_neg (λ V=>by subst V;rcases ou with D|D<;>first|omega|exact X D)];exact L.env.cl j hj X
 ·obtain⟨h5,h6,h7,h8⟩:=L.env.bx bj j hj;refine⟨h5,h6,?_,h8⟩;show(if j=k then some m else e.cl j)=_;rw[if_neg (λ V=>dh bj (by rw[<-V];exact hj))];exact h7
 ·obtain⟨ak,cur,h5,h6,h7,h8,h9⟩:=L.env.gr j g hg;refine⟨ak,cur,h5,h6,h7,?_,h9⟩;show(if j=k then some m else e.cl j)=_;rw[if_neg (λ V=>by subst V;rw[gp] at hg;cases hg)];exact h8
def Pl.lf:Pl->Bool
 |.raw v=>lc v
 |.sl ..=>true
theorem Io{e:ay}{v:Value}{x:Pl}(h:cV e v x)(M:x.lf=true):lc v=true:=by
 cases h with
 |raw v=>exact M
 |sl=>rfl
theorem Du(t nm:Nat){n c:Nat}{cs:List F}(ps:List Pl)(ht:Y s t=some (.arr nm 0 n c))(R:Y b nm=some cs)(dv:Y Γ.kb nm=none)(fV:kA (cj nm) s (λ U=>kQ (Nat.beq nm) (cj nm) b (λ bj=>some (U,bj)))=some (U,bj))
 (cr:cs.length=c)(rZ:n<=c)(cM:ps.length=n)(mP:cs.take n=ps.map F.p)(jp:c<=maxLen)(wo:∀x∈ps,x.lf=true):bF Γ ⟨s,b,g⟩ ⟨(t,.p (.sl false n ps))::U,bj,g⟩:=by
 rw[sD,sC] at fV;cases fV;intro a e L;have sQ:=L.forget nm dv;have u:=L.bm t _ ht;obtain⟨k,vs,el,D,K,h4⟩:=L.boxes nm cs R;have iy:=L.env.bx nm k D;have dh:∀x,(e.cut (cj nm) λ _=>true).bx x≠some k:=λ x T=>by
  have fJ:(if cj nm x=true then e.bx x else none)=some k:=T;split at fJ
  ·rename_i cP;exact IL cP (L.env.inj _ _ _ fJ D)
  ·cases fJ
 have sT:(e.cut (cj nm) λ _=>true).gr k=none:=by show(match e.gr k with|some g=>if true=true then some g else none|none=>none)=none;rw[iy.2.2.2]
 obtain⟨h5,A⟩:=sQ.vH n iy.2.1 iy.2.2.1 sT dh;refine⟨{e.cut (cj nm) (λ _=>true) with cl:=λ j=>if j=k then some n else(e.cut (cj nm) λ _=>true).cl j},rfl,h5.size,h5.df,λ aa d hu=>?_,h5.boxes,h5.dX,h5.gs,h5.env⟩;simp only[cL] at hu;split at hu
 ·rename_i kG;subst kG;cases hu;have cg:vs.length=c:=by rw[h4.1,cr]
  have bG:=I1 h4 (by rw[cM];exact mP);generalize fK a t=v at u;cases u with
  |arr J=>
   rw[D] at J;cases J;refine .p (Ah rZ jp (λ h=>by cases h) (λ h=>by cases h) (.inr ⟨k,0,rfl,λ j=>vs.getD j undef,λ j x T=>?_⟩));have hj:=(List.getElem?_eq_some_iff.1 T).1;have fj:j<vs.length:=by omega
   have oy:vs.getD j undef=vs[j]:=by simp[fj]
   have hu:vs[j]?=some vs[j]:=List.getElem?_eq_getElem fj;have hr:=bG j _ x hu T;show ay.mv _ k (0+j)/\World.cell? _ ⟨k,0+j,none⟩=some (vs.getD j undef)/\lc (vs.getD j undef)=true/\cV _ (vs.getD j undef) x;rw[oy,Nat.zero_add];refine⟨λ q hq=>?_,?_,Io hr (wo x (List.mem_of_getElem? T)),(hr.cut).next A⟩
   ·have ju:(if k=k then some n else e.cl k)=some q:=hq;rw[if_pos rfl] at ju;cases ju;omega
   ·show e.w.cell? _=_;rw[cell_of_row e.w k j vs.toArray el (0,0) K,List.getElem?_toArray];exact hu
 ·exact h5.bm aa d hu
abbrev dU(m:Nat):F:=.p (.raw (.int .u64 m))
variable{S:Nat->Option F}{B:Nat->Option (List F)}
theorem P4{n:Nat}(h:n<18446744073709551616):IntKind.u64.wrap (n:Int)=n:=by simp only[IntKind.wrap,IntKind.signed,IntKind.bits];simp;omega
def h3(m i:Nat):Nat:=(BitVec.ofNat 64 m&&&~~~BitVec.ofNat 64 (2^i)).toNat
theorem Rr(m i j:Nat)(hm:m<18446744073709551616):(h3 m i).testBit j=(m.testBit j&&!decide (i=j)):=by
 have u:(h3 m i).testBit j=(BitVec.ofNat 64 m&&&~~~BitVec.ofNat 64 (2^i)).getLsbD j:=rfl;rw[u,BitVec.getLsbD_and,BitVec.getLsbD_not,BitVec.getLsbD_ofNat,BitVec.getLsbD_ofNat,Nat.testBit_two_pow]
 by_cases hj:j<64
 ·simp[hj]
 ·have:m.testBit j=false:=Nat.testBit_lt_two_pow (Nat.lt_of_lt_of_le hm (by have:=Nat.pow_le_pow_right (n:=2) (by omega) (show 64<=j by omega);omega));simp[hj,this]
end
end Go.Proofs.YtcnefjfboagbmaaGreat
end
section
namespace Go.Proofs.YtcnefjfboagbmaaGreat
open Go.RowKit
section
variable{P:Program}{ah:Nat->Option TI}{S:Nat->Option F}{B:Nat->Option (List F)}{o:Oper}
theorem gh(hT:cR P ah){t el:TypeId}{x y:Operand}{nm of n:Nat}{k:IntKind}{i:Int}{z1 z2:Nat}{z3:Value}{j:TI}(X:o.op=.indexAddr t x y)(ht:ah t=some ⟨.array n el,z1,z2,z3⟩)(he:ah el=some j)
 (T:ev S x=some (.ptr nm of))(hy:ev S y=some (.p (.raw (.int k i))))(h0:0<=i)(bh:i<n):dm P o S B (.ptr nm (of+i.toNat*j.sz)) none:=by
 refine hZ λ a e hs=>?_
 have u:=hs.1 x (by rw[X];simp[Op.operands]) _ T;have D:=cE (hs.1 y (by rw[X];simp[Op.operands]) _ hy);generalize hv:a.eval x=vx at u;cases u with
 |ptr R=>
  rename_i kk;obtain⟨d0,dI,J⟩:=hT.desc t _ ht;cases d0<;>simp only[jg,reduceCtorEq,TK.array.injEq] at J
  rw[J.1,J.2] at dI;refine⟨.pointer (some ⟨kk,of+i.toNat*j.sz,none⟩),?_,.ptr R⟩;obtain⟨dst,op,type,pos,after,guard⟩:=o;simp only at X;subst X;simp[execOp,Instr.indexAt,Instr.sureAddr,D,hv,asIntOf,run_underlying dI,h0,bh,run_sizeOf hT he,qq]
theorem AV{aq dP:Type}:∀(n:Nat)(l:List dP)(k:List dP->Option aq),n<=l.length->j2 n l k=k (l.drop n)
 |0,l,k,_=>rfl
 |n+1,[],k,h=>by simp at h
 |n+1,x::l,k,h=>by rw[j2,AV n l k (by simpa using h)];rfl
theorem kI(hT:cR P ah){ty:TypeId}{x:Operand}{i:TI}{b of:Nat}{cs:List F}{d:F}(X:o.op=.load ty x)(ht:ah ty=some i)(nH:i.k.agg=false)(T:ev S x=some (.ptr b of))(R:B b=some cs)(G:cs[of]?=some d):dm P o S B d none:=by refine rn hT ?_;obtain⟨u,D⟩:=List.getElem?_eq_some_iff.1 G;rw[X];simp only[ax,ht,T,R];rw[AV of cs _ (by omega),List.drop_eq_getElem_cons u,D];simp[wT,nH]
end
end Go.Proofs.YtcnefjfboagbmaaGreat
end
section
namespace Go.Proofs.YtcnefjfboagbmaaGreat
open Go.RowKit
section
variable{P:Program}{ah:Nat->Option TI}{Γ:bE}{S:Nat->Option F}{B:Nat->Option (List F)}{o:Oper}{l0 l:List Oper}{Q:Exit->St->Prop}
variable{s:List (Nat×F)}{b:List (Nat×List F)}{g:List (Nat×Gr)}{t:Nat}
theorem VU(aT:Value)(n:Nat):madeCells #[aT] n=(List.replicate n aT).toArray:=by
 apply Array.ext
 ·simp[madeCells]
 ·intro j u D;simp[madeCells,Nat.mod_one]
theorem Nv(hT:cR P ah)(nm:Nat){ty el:TypeId}{z1 z2:Nat}{z3:Value}{i:TI}{x y:Operand}{k jb:IntKind}{n m:Int}{c:Nat}(X:o.op=.makeSlice ty x y)(ht:ah ty=some ⟨.slice el,z1,z2,z3⟩)(dR:ah el=some i)(eM:Nat.beq i.sz 1=true)(MN:i.zero.cells=#[i.zero])
 (T:ev S x=some (.p (.raw (.int k n))))(hy:ev S y=some (.p (.raw (.int jb m))))(hn:n=c)(hm:m=c)(R:c*i.bytes<=140737488355328)(fM:c<=maxLen):dm P o S B (.arr nm 0 c c) (some (nm,List.replicate c (oo i.zero))):=by
 subst hn;subst hm;intro a e hs fy;have u:=cE (hs.1 x (by rw[X];simp[Op.operands]) _ T);have D:=cE (hs.1 y (by rw[X];simp[Op.operands]) _ hy);obtain⟨d0,dI,J⟩:=hT.desc ty _ ht;cases d0<;>simp only[jg,reduceCtorEq,TK.slice.injEq] at J
 rw[J] at dI;obtain⟨fN,lY,bT,fU,hz⟩:=hT.info _ i dR;have UD:=Nat.eq_of_beq_eq_true eM;have Hh:(fN.bytes:Int)*(c:Int)<=281474976710656:=by
  have:((c*i.bytes:Nat):Int)<=140737488355328:=by omega
  rw[Int.natCast_mul,Int.mul_comm] at this;rw[fU];omega
 have cG:=run_make (P:=P) e.w ty el fN i.zero dI lY hz k jb c c (Int.natCast_nonneg c) (by omega) Hh (by unfold maxLen at fM;omega);rw[Int.toNat_natCast,bT,UD,Nat.mul_one,MN,VU] at cG;unfold Oper.wp;have e1:(execOp a.eval o).run P e.w=.ok (.value (.slice (some ⟨e.w.heap.size,0,none⟩) c c)) (e.w.alloc (.cells (List.replicate c i.zero).toArray el)):=by obtain⟨dst,op,type,pos,after,guard⟩:=o;simp only at X;subst X;simp[execOp,u,D,cG]
 rw[e1];have hg:=ay.sr e (.cells (List.replicate c i.zero).toArray el) (some 0);have iw:(e.alloc (.cells (List.replicate c i.zero).toArray el) (some 0)).bx nm=none:=by rw[hg.bx];exact fy _ rfl
 refine⟨_,(e.alloc (.cells (List.replicate c i.zero).toArray el) (some 0)).ip nm e.w.heap.size,rfl,rfl,_,e.w.heap.size,hg,Nat.le_refl _,by simp[ay.alloc],by simp[ay.alloc],rfl,⟨e.w.heap.size,List.replicate c i.zero,el,by simp[ay.ip],heap_alloc_new e.w _,?_⟩,.arr (by simp[ay.ip])⟩;refine⟨by simp,λ j v d hv G=>?_⟩;rw[List.getElem?_replicate] at hv G;split at hv
 ·rename_i hj;rw[if_pos hj] at G;cases hv;cases G;exact De _ _
 ·cases hv
theorem ja(hT:cR P ah){ty el:TypeId}{x y:Operand}{nm n c:Nat}{k:IntKind}{i:Int}{z1 z2:Nat}{z3:Value}{j:TI}{p:Nat}(X:o.op=.indexAddr ty x y)(ht:ah ty=some ⟨.slice el,z1,z2,z3⟩)(he:ah el=some j)
 (T:ev S x=some (.arr nm 0 n c))(hy:ev S y=some (.p (.raw (.int k i))))(h0:0<=i)(bh:i<n)(hp:p=i.toNat*j.sz):dm P o S B (.ptr nm p) none:=by
 subst hp;refine hZ λ a e hs=>?_
 have u:=hs.1 x (by rw[X];simp[Op.operands]) _ T;have D:=cE (hs.1 y (by rw[X];simp[Op.operands]) _ hy);generalize hv:a.eval x=vx at u;cases u with
 |arr R=>
  rename_i kk;obtain⟨d0,dI,J⟩:=hT.desc ty _ ht;cases d0<;>simp only[jg,reduceCtorEq,TK.slice.injEq] at J
  rw[J] at dI;refine⟨.pointer (some ⟨kk,i.toNat*j.sz,none⟩),?_,.ptr R⟩;obtain⟨dst,op,type,pos,after,guard⟩:=o;simp only at X;subst X;simp[execOp,Instr.indexAt,D,hv,asIntOf,run_underlying dI,h0,bh,run_sizeOf hT he,qq]
theorem YR{cs:List F}{of:Nat}{d:F}(h:of<cs.length):stored cs of [d]=cs.set of d:=by unfold stored;rw[List.set_eq_take_append_cons_drop,if_pos h];simp
theorem pE(hT:cR P ah){ty:TypeId}{x y:Operand}{nm of:Nat}{cs:List F}{dy:F}{i:TI}(X:o.op=.store ty x y)(G:o.dst=none)(ht:ah ty=some i)(eM:Nat.beq i.sz 1=true)(T:ev (Y s) x=some (.ptr nm of))(R:Y b nm=some cs)(hy:ev (Y s) y=some dy)
 (M:dy.leaf=true)(hg:gd l0 o (Y s)=some true)(ig:of<cs.length)(h:bp P Γ l0 Q l ⟨s,(nm,cs.set of dy)::b,g⟩):bp P Γ l0 Q (o::l) ⟨s,b,g⟩:=by
 have L:dy.cells=[dy]:=by cases dy<;>first|rfl|cases M
 have DV:sb dy=true:=by cases dy<;>first|exact M|cases M
 have td:=JF (P:=P) (Γ:=Γ) (I:=⟨s,b,g⟩) hT X G ht T R hy DV (by rw[L,Nat.eq_of_beq_eq_true eM];rfl) (by rw[L];exact ig);rw[L,YR ig] at td;exact tR (I:=⟨s,b,g⟩) hg td h
end
end Go.Proofs.YtcnefjfboagbmaaGreat
end
