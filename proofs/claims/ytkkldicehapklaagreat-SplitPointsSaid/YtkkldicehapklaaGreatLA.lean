/- Worlds that have grown, plain data behind values, what is known where a function stands. -/
import Derived.WalkKit
import Derived.WalkSpells
import Derived.WalkLawsBesides
import Derived.BigQuiet
import Derived.Lib.Hide
import Derived.ProofKit
import Derived.OpenShut
import Derived.ShutString
import Derived.ChangeOld
import Derived.Below
import Derived.Deep.Slices
import Derived.Deep.Fields
import Derived.ChangeSame
import Derived.Maps.AppendAt
import Derived.LoopN
import Derived.Laws.MakeOwn
import Derived.Scope
section
namespace Go.Proofs.YtkkldicehapklaaGreat
open Go.RowKit
def uO(w:World):Type:={aA:World//Below w.heap.size w aA}
instance(w:World):Nonempty (uO w):=⟨⟨w,Below.refl _ _⟩⟩
def uO.on{w:World}(x:uO w):World:=x.1
theorem uO.below{w:World}(x:uO w):Below w.heap.size w x.on:=x.2
@[go_sem] theorem uO.cell{w:World}(x:uO w)(p:Addr)(h:p.block<w.heap.size):x.on.cell? p=w.cell? p:=x.below.cell h
def uO.next{w:World}(x:uO w){aA:World}(h:Below x.on.heap.size x.on aA):uO w:=⟨aA,x.below.trans (h.mono x.below.size)⟩
abbrev Hn:=Value->World->Prop
def Hn.mc(k:Hn):Prop:=∀v w aA,k v w->Below w.heap.size w aA->k v aA
def gH(a:Act)(t:Tmp):Value:=a.tmps.getD t undef
def r9(ops:Array Oper)(n:Nat):Bool:=
 Region.noSelect ops&&(List.range ops.size).all λ i=>match ops[i]? with
  |none=>true
  |some oi=>(match oi.dst with|some t=>decide (t<n)|none=>true)&&(oi.after.all λ e=>!Region.binds .any e||decide (e.on<i))&&
   (List.range ops.size).all λ j=>match ops[j]? with
    |none=>true
    |some oj=>i==j||((match oi.dst,oj.dst with|some t,some aH=>t !=aH|_,_=>true)&&
     (match oj.dst with
      |some t=>!(oi.looksAt ops).contains t||(decide (j<i)&&oi.after.any (λ e=>Region.binds .any e&&e.on==j))||(decide (i<j)&&oj.after.any (λ e=>Region.binds .any e&&e.on==i))
      |none=>true))
structure qj(ops:Array Oper)(n:Nat):Prop where
 amK:Region.noSelect ops=true
 lt:∀(i:Nat)(o:Oper)(t:Tmp),ops[i]?=some o->o.dst=some t->t<n
 back:∀(i:Nat)(o:Oper),ops[i]?=some o->∀e∈o.after,Region.binds .any e=true->e.on<i
 ne:∀(i j:Nat)(oi oj:Oper)(t:Tmp),ops[i]?=some oi->ops[j]?=some oj->i≠j->oi.dst=some t->oj.dst≠some t
 dep:∀(i j:Nat)(oi oj:Oper)(t:Tmp),ops[i]?=some oi->ops[j]?=some oj->i≠j->oj.dst=some t->t∈oi.looksAt ops->
  (j<i/\∃e∈oi.after,Region.binds .any e=true/\e.on=j)\/(i<j/\∃e∈oj.after,Region.binds .any e=true/\e.on=i)
theorem Kh{ops:Array Oper}{n:Nat}(h:r9 ops n=true):qj ops n:=by
 unfold r9 at h;simp only[Bool.and_eq_true,List.all_eq_true,List.mem_range] at h;obtain⟨T,h⟩:=h;have aY:∀i o,ops[i]?=some o->i<ops.size:=λ i o ho=>(Array.getElem?_eq_some_iff.1 ho).1
 refine⟨T,λ i o t ho ht=>?_,λ i o ho e he hb=>?_,λ i j oi oj t hi hj mR ht hu=>?_,λ i j oi oj t hi hj mR ht hm=>?_⟩
 ·have:=h i (aY i o ho);simp only[ho,ht,Bool.and_eq_true] at this
  simpa using this.1.1
 ·have:=h i (aY i o ho);simp only[ho,Bool.and_eq_true] at this;have:=Array.all_eq_true_iff_forall_mem.1 this.1.2 e he
  simpa[hb] using this
 ·have:=h i (aY i oi hi);simp only[hi,Bool.and_eq_true,List.all_eq_true,List.mem_range] at this;have:=this.2 j (aY j oj hj);simp only[hj,ht,hu] at this;simp[mR] at this
 ·have:=h i (aY i oi hi);simp only[hi,Bool.and_eq_true,List.all_eq_true,List.mem_range] at this;have:=this.2 j (aY j oj hj);simp only[hj,ht] at this;have F:(oi.looksAt ops).contains t=true:=by simpa using hm
  simp only[F,Bool.or_eq_true,Bool.and_eq_true,beq_iff_eq,mR,false_or,Bool.not_true,Bool.false_eq_true,decide_eq_true_eq] at this;rcases this.2 with⟨h1,u⟩|⟨h1,u⟩
  ·obtain⟨e,he,hb⟩:=Array.any_eq_true'.1 u;simp only[Bool.and_eq_true,beq_iff_eq] at hb;exact .inl ⟨h1,e,he,hb⟩
  ·obtain⟨e,he,hb⟩:=Array.any_eq_true'.1 u;simp only[Bool.and_eq_true,beq_iff_eq] at hb;exact .inr ⟨h1,e,he,hb⟩
theorem Hc{a:Act}{t:Tmp}{v:Value}(h:t<a.tmps.size):gH (a.put (some t) v) t=v:=by simp[gH,Act.put,h]
theorem BZ{a:Act}{d:Option Tmp}{t:Tmp}{v:Value}(h:d≠some t):gH (a.put d v) t=gH a t:=by
 cases d with
 |none=>rfl
 |some aH=>
  have aW:aH≠t:=λ e=>h (by rw[e])
  simp[gH,Act.put,Array.getElem?_setIfInBounds_ne aW]
theorem Kv(a:Act)(d:Option Tmp)(v:Value):(a.put d v).tmps.size=a.tmps.size:=by cases d<;>simp[Act.put]
theorem HZ(a:Act)(d:Option Tmp)(v:Value):(a.put d v).defers=a.defers:=by cases d<;>rfl
theorem akI{P:Program}{o:Oper}{a:Act}{w:World}{aB:Act->World->Prop}{Q:Exit->Act->World->Prop}(h:o.wp P a w aB (λ _ _ _=>False)):o.wp P a w aB Q:=by
 unfold Oper.wp at*;generalize(execOp a.eval o).run P w=r at*;cases r with
 |ok n aA=>
  cases n<;>simp only[Oper.upon] at h⊢<;>first
   |exact h
   |exact Calls.mono h (λ e nU he=>by
    cases e with
    |returned v=>exact he
    |panicked c=>exact he.elim
    |outgrown=>obtain⟨_,_,hf⟩:=he;exact hf.elim)
 |halt x aA=>cases x<;>simp only[Oper.upon] at h⊢
structure ak6(ops:Array Oper)(aw:Nat->Hn)(a0:Act)(aK:Array Bool)(a:Act)(w:World):Prop where
 l5:aK.size=ops.size
 size:a.tmps.size=a0.tmps.size
 defers:a.defers=a0.defers
 closed:∀(i:Nat)(o:Oper),ops[i]?=some o->aK.getD i false=true->∀e∈o.after,Region.binds .any e=true->aK.getD e.on false=true
 xh:∀(i:Nat)(o:Oper)(t:Tmp),ops[i]?=some o->aK.getD i false=true->o.dst=some t->aw i (gH a t) w
 kept:∀t,(∀(i:Nat)(o:Oper),ops[i]?=some o->aK.getD i false=true->o.dst≠some t)->gH a t=gH a0 t
theorem nq{l:Array Bool}{i:Nat}(h:l.getD i true=false):l.getD i false=false/\i<l.size:=by
 rcases Nat.lt_or_ge i l.size with bD|bD
 ·simp[bD] at h⊢;exact h
 ·simp[Array.getElem?_eq_none bD] at h
theorem acN{l:Array Bool}{i:Nat}(h:l.getD i false=false)(hi:i<l.size):l.getD i true=false:=by simp[hi] at h⊢;exact h
theorem acx{ops:Array Oper}{n:Nat}(aV:qj ops n){aK:Array Bool}(T:aK.size=ops.size)(h:Region.ready .any ops aK=[]):∀i,i<ops.size->aK.getD i false=true:=by
 intro i;induction i using Nat.strongRecOn with
 |ind i ih=>
  intro hi;rcases Z:aK.getD i false with _|_
  ·have hm:i∈Region.ready .any ops aK:=mem_ready.2 ⟨acN Z (by omega),ops[i],by simp[hi],λ e he hb=>by
    have:=aV.back i ops[i] (by simp[hi]) e he hb;exact ih _ this (by omega)⟩
   rw[h] at hm;cases hm
  ·rfl
def m6(aK:Array Bool):Nat:=(aK.toList.filter (!·)).length
theorem Y3:∀(l:List Bool)(i:Nat),i<l.length->l.getD i true=false->((l.set i true).filter (!·)).length+1=(l.filter (!·)).length
 |[],i,h,_=>by simp at h
 |b::l,0,_,hb=>by simp at hb;subst hb;simp
 |b::l,i+1,h,hb=>by
  have:=Y3 l i (by simpa using h) (by simpa using hb);cases b<;>simp<;>omega
theorem QN{aK:Array Bool}{i:Nat}(h:aK.getD i true=false):m6 (aK.setIfInBounds i true)+1=m6 aK:=by
 obtain⟨_,hi⟩:=nq h;have:=Y3 aK.toList i (by simpa using hi) (by simpa using h)
 simpa[m6,Array.toList_setIfInBounds] using this
theorem Z5{aK:Array Bool}(h:m6 aK=0){i:Nat}:aK.getD i true=true:=by
 rcases Z:aK.getD i true with _|_
 ·have:=QN Z;omega
 ·rfl
theorem KM(n:Nat):m6 (Array.replicate n false)=n:=by simp[m6]
def Cl:Value->Option Bool
 |.bool b=>some b
 |_=>none
def MU(ops:Array Oper)(o:Oper):List Tmp:=match o.guard with|some (g,_)=>((ops[g]?).bind (·.dst)).toList|none=>[]
theorem Tu{ops:Array Oper}{o:Oper}{t:Tmp}(h:t∈MU ops o):t∈o.looksAt ops:=List.mem_append_right _ h
theorem KQ(ops:Array Oper)(l:Array Value)(g:Nat):yielded ops l g=((ops[g]?).bind (·.dst)).bind λ t=>Cl (l.getD t undef):=by
 unfold yielded;cases ht:(ops[g]?).bind (·.dst) with
 |none=>rfl
 |some t=>
  simp only[Option.bind_some];rcases h:l[t]? with _|v
  ·simp[h,undef,Cl]
  ·simp only[Array.getD_eq_getD_getElem?,h,Option.getD_some];cases v<;>rfl
section
variable{P:Program}{ops:Array Oper}{w0:World}{a0:Act}{Q:Exit->Act->World->Prop}{a:Act}{nd:List (Tmp×Hn)}{o:Oper}{rest:List Oper}
def jM(P:Program)(f:FuncId):Prop:=∀args w,(callFunc f args).run P w=.ok (.enter f args) w
end
theorem Zb{P:Program}{ops:Array Oper}{Q:Exit->Act->World->Prop}{i:Nat}{o:Oper}{rest:List Oper}{a:Act}{w:World}(hi:ops[i]?=some o)(h:wpList P ops Q (o::rest) a w):wpOp P ops Q i (wpList P ops Q rest) a w:=by unfold wpOp;simp only[hi];exact h
theorem KK:∀(l:List Bool)(n:Nat),n<=l.length->(∀i,i<n->l.getD i true=true)->(∀i,n<=i->i<l.length->l.getD i true=false)->(l.filter (!·)).length=l.length-n
 |[],n,hn,_,_=>by simp at hn;simp[hn]
 |b::l,0,_,_,u=>by
  have hb:b=false:=by simpa using u 0 (Nat.le_refl _) (by simp)
  have ih:=KK l 0 (by omega) (λ i hi=>by omega) (λ i _ hi=>by simpa using u (i+1) (by omega) (by simpa using hi));subst hb;simp at ih⊢;exact ih
 |b::l,n+1,hn,h1,u=>by
  have hb:b=true:=by simpa using h1 0 (by omega)
  have ih:=KK l n (by simpa using hn) (λ i hi=>by simpa using h1 (i+1) (by omega)) (λ i hi Z=>by simpa using u (i+1) (by omega) (by simpa using Z));subst hb;simp at ih⊢;exact ih
end Go.Proofs.YtkkldicehapklaaGreat
end
section
namespace Go.Proofs.YtkkldicehapklaaGreat
open Go.ChangeShapes Go.WideShapes Go.ChangeAt Go.RowKit Go.Deep
section
variable{H:Type}{enc:TypeId×Value->H}{P:Program}{w:World}{base:Nat}{spare:Nat->Bool}{held:Bool}
def SX(P:Program)(t i:Nat):Option (TypeId×Nat×Nat):=
 match P.underlying t with
 |some (.struct fs)=>(fs[i]?).map λ f=>(f.type,f.offset,P.cellsOf f.type)
 |_=>none
def Read(enc:TypeId×Value->H)(P:Program)(w:World)(base:Nat)(spare:Nat->Bool)(held:Bool)(t:TypeId)(cs:List Value):Prop:=∃n y,DataW.trod enc P w base spare held n t cs=some y
theorem DJ{t i ft aN sz:Nat}{cs:List Value}(hf:SX P t i=some (ft,aN,sz))(h:Read enc P w base spare held t cs):Read enc P w base spare held ft ((cs.drop aN).take sz):=by
 obtain⟨n,y,h⟩:=h;unfold SX at hf;split at hf
 ·rename_i fs hu;obtain⟨xs,m,_,_,_,cx,hg⟩:=DataW.trod_struct hu h;rcases t6:fs[i]? with _|f
  ·rw[t6] at hf;cases hf
  ·rw[t6] at hf;simp only[Option.map_some,Option.some.injEq,Prod.mk.injEq] at hf;obtain⟨rfl,rfl,rfl⟩:=hf;have h1:=hg i f t6;have hi:i<fs.size:=(Array.getElem?_eq_some_iff.1 t6).1;have u:xs[i]?=some (xs[i]'(by omega)):=List.getElem?_eq_getElem (by omega);exact⟨m,_,h1.trans u⟩
 ·cases hf
theorem Ke{t:TypeId}{cs:List Value}(ht:P.underlying t=some (.int .i64))(h:Read enc P w base spare held t cs):∃n:Int,cs=[.int .i64 n]/\-9223372036854775808<=n/\n<=9223372036854775807:=by obtain⟨m,y,h⟩:=h;obtain⟨n,hn,_,hw⟩:=DataW.trod_int ht h;exact⟨n,hn,bounds_i64 hw⟩
theorem Xw{t:TypeId}{cs:List Value}(ht:P.underlying t=some (.int .u8))(h:Read enc P w base spare held t cs):∃n:Int,cs=[.int .u8 n]/\0<=n/\n<=255:=by obtain⟨m,y,h⟩:=h;obtain⟨n,hn,_,hw⟩:=DataW.trod_int ht h;exact⟨n,hn,bounds_u8 hw⟩
theorem aje{t e:TypeId}{sz:Nat}{cs:List Value}(ht:P.underlying t=some (.slice e))(F:P.cellsOf e=sz)(h:Read enc P w base spare held t cs):
 ∃(A:Option Addr)(len bG:Nat),cs=[.slice A len bG]/\len<=bG/\bG<=maxLen/\(len=0\/∃a,A=some a)/\
  ∀i,i<len->∃a aZ,A=some a/\aZ.length=sz/\(∀j,j<sz->w.cell? (a.add (i*sz+j))=aZ[j]?)/\Read enc P w base spare held e aZ:=by
 obtain⟨m,y,h⟩:=h;rcases open_slice ht h with⟨rfl,_⟩|⟨a,len,bG,qN,n,aC,Pl,rfl,hb,Z,hm,UF,hx,hi⟩
 ·exact⟨none,0,0,rfl,by omega,by unfold maxLen;omega,.inl rfl,λ i hi=>by omega⟩
 ·refine⟨some a,len,bG,rfl,Z,hm,.inr ⟨a,rfl⟩,λ i alY=>?_⟩;obtain⟨aZ,d4,Bp⟩:=hi i (by rw[UF];split<;>omega);rw[F] at d4;obtain⟨_,cx,iC⟩:=World.cells?_some d4;refine⟨a,aZ,rfl,cx,λ j hj=>?_,n,_,Bp⟩;rw[<-iC j hj,Go.Deep.add_add]
theorem ZZ{a:Addr}{n:Nat}{v:Value}(h:w.cell? (a.add n)=some v):a.spot=none\/n≠0:=by
 by_cases hn:n=0
 ·subst hn;simp only[Addr.add,if_true] at h;exact .inl (by have:=World.cell?_spot h;simpa using this)
 ·exact .inr hn
theorem aa9{p:Addr}{v:Value}(h:w.cell? p=some v):p.block<w.heap.size:=by
 rcases Nat.lt_or_ge p.block w.heap.size with aY|iF
 ·exact aY
 ·simp[World.cell?,Array.getElem?_eq_none iF] at h
theorem ajd{az:Type}{t e:TypeId}{sz:Nat}(cells:az->List Value)(ok:az->Prop)(hsz:0<sz)(cx:∀x,(cells x).length=sz)(ht:P.underlying t=some (.slice e))(F:P.cellsOf e=sz)
 (Bd:∀cs,cs.length=sz->Read enc P w base spare held e cs->∃x,cs=cells x/\ok x){cs:List Value}(h:Read enc P w base spare held t cs):
 ∃(A:Option Addr)(l:List az)(bG:Nat),cs=[.slice A l.length bG]/\l.length<=bG/\bG<=maxLen/\(∀x∈l,ok x)/\
  ∀i x,l[i]?=some x->∃b o,A=some ⟨b,o,none⟩/\b<w.heap.size/\∀j aH,(cells x)[j]?=some aH->w.cell? ⟨b,o+(i*sz+j),none⟩=some aH:=by
 obtain⟨A,len,bG,rfl,Z,hm,hA,dO⟩:=aje ht F h;have Nx:∀i:Fin len,∃x,ok x/\∃a,A=some a/\∀j aH,(cells x)[j]?=some aH->w.cell? (a.add (i.1*sz+j))=some aH:=λ i=>by
  obtain⟨a,aZ,e,aeM,iC,hr⟩:=dO i.1 i.2;obtain⟨x,rfl,aV⟩:=Bd aZ aeM hr;refine⟨x,aV,a,e,λ j aH hu=>?_⟩;have hj:j<(cells x).length:=(List.getElem?_eq_some_iff.1 hu).1;rw[iC j (by rw[cx] at hj;exact hj)];exact hu
 let f:Fin len->az:=λ i=>Classical.choose (Nx i)
 have hf:∀i,ok (f i)/\∃a,A=some a/\∀j aH,(cells (f i))[j]?=some aH->w.cell? (a.add (i.1*sz+j))=some aH:=λ i=>Classical.choose_spec (Nx i)
 refine⟨A,List.ofFn f,bG,by simp,by simpa using Z,hm,λ x hx=>?_,λ i x hi=>?_⟩
 ·obtain⟨i,rfl⟩:=List.mem_ofFn.1 hx;exact(hf i).1
 ·have dY:i<len:=by have:=(List.getElem?_eq_some_iff.1 hi).1;simpa using this
  have hx:f ⟨i,dY⟩=x:=by simpa[dY] using hi
  obtain⟨a,e,F⟩:=(hf ⟨i,dY⟩).2;rw[hx] at F;obtain⟨b,o,s⟩:=a;have aeh:=hf ⟨0,by omega⟩;have h0:∃aH,(cells (f ⟨0,by omega⟩))[0]?=some aH:=⟨_,List.getElem?_eq_getElem (by rw[cx];exact hsz)⟩;obtain⟨akw,Jb⟩:=h0;obtain⟨bF,ae,lx⟩:=aeh.2;have TU:=lx 0 akw Jb;rw[e] at ae;injection ae with ae
  subst ae;have T:s=none:=by
   rcases ZZ TU with bD|bD
   ·exact bD
   ·simp at bD
  subst T;have Ff:∀n,(⟨b,o,none⟩:Addr).add n=⟨b,o+n,none⟩:=λ n=>by
   unfold Addr.add;split
   ·rename_i hn;subst hn;simp
   ·rfl
  refine⟨b,o,e,by have:=aa9 TU;rw[Ff] at this;exact this,λ j aH hu=>?_⟩;have:=F j aH hu;rw[Ff] at this;exact this
end
end Go.Proofs.YtkkldicehapklaaGreat
end
section
namespace Go.Proofs.YtkkldicehapklaaGreat
open Go.RowKit
inductive Pl where
 |raw (v:Value)
 |sl (ex:Bool) (n:Nat) (ps:List Pl)
inductive I where
 |p (x:Pl)
 |agg (ds:List I)
 |ca (ds:List I)
 |ptr (b o:Nat)
 |el (ps:List Pl)
 |bP (g n:Nat) (ps:List Pl)
 |arr (b o n c:Nat)
 |fn (f:Fn) (first dX:List I)
 |any
structure Gr where
 el:TypeId
 sz:Nat
 len:Nat
structure aE where
 w:World
 cl:Nat->Option Nat
 bx:Nat->Option Nat
 gr:Nat->Option Nat
 gi:Nat->Option Gr
def aE.nY(e:aE)(b o:Nat):Prop:=∀k,e.cl b=some k->o<k
def lF(v:Value):Bool:=v.oneCell'
inductive c5(e:aE):Value->Pl->Prop where
 |raw (v:Value):c5 e v (.raw v)
 |sl {A:Option Addr} {n bG:Nat} {ex:Bool} {ps:List Pl} (f:Nat->Value) (h1:n<=bG) (u:bG<=maxLen) (J:A=none->bG=0) (h4:ex=true->bG=n)
  (h5:∀i x,ps[i]?=some x->∃b o,A=some ⟨b,o,none⟩/\e.nY b (o+i)/\e.w.cell? ⟨b,o+i,none⟩=some (f i)/\lF (f i)=true)
  (h6:∀i x,ps[i]?=some x->c5 e (f i) x):c5 e (.slice A n bG) (.sl ex n ps)
def tf(e:aE)(b o:Nat)(ps:List Pl):Prop:=
 ∃f:Nat->Value,∀i x,ps[i]?=some x->e.nY b (o+i)/\e.w.cell? ⟨b,o+i,none⟩=some (f i)/\lF (f i)=true/\c5 e (f i) x
structure ZD(e:aE)(aa:Gr)(g k bG:Nat):Prop where
 gr:e.gr k=some g
 row:∃cur,e.w.heap[k]?=some (.cells cur aa.el (0,0))/\cur.size=bG*aa.sz
def Hz(e:aE)(v:Value)(g n m:Nat):Prop:=
 ∃aa A bG,e.gi g=some aa/\v=.slice A n bG/\n<=aa.len/\m=n*aa.sz/\(bG=n\/∃k,A=some ⟨k,0,none⟩/\ZD e aa g k bG)
inductive bC(e:aE):Value->I->Prop where
 |p {v:Value} {x:Pl} (h:c5 e v x):bC e v (.p x)
 |agg {vs:List Value} {ds:List I} (Z:vs.length=ds.length) (h:∀(i:Nat) v d,vs[i]?=some v->ds[i]?=some d->bC e v d):bC e (.agg vs.toArray) (.agg ds)
 |ca {vs:List Value} {ds:List I} (Z:vs.length=ds.length) (h:∀(i:Nat) v d,vs[i]?=some v->ds[i]?=some d->bC e v d):bC e (.tuple vs.toArray) (.ca ds)
 |ptr {b o k:Nat} (h:e.bx b=some k):bC e (.pointer (some ⟨k,o,none⟩)) (.ptr b o)
 |el {b o:Nat} {ps:List Pl} (h:tf e b o ps):bC e (.pointer (some ⟨b,o,none⟩)) (.el ps)
 |bP {v:Value} {g n:Nat} {ps:List Pl} (h:c5 e v (.sl false n ps)) (ht:Hz e v g n ps.length):bC e v (.bP g n ps)
 |arr {b o n c k:Nat} (h:e.bx b=some k):bC e (.slice (some ⟨k,o,none⟩) n c) (.arr b o n c)
 |fn {f:Fn} {us vs:List Value} {first dX:List I} (Z:us.length=first.length) (eV:vs.length=dX.length) (h:∀(i:Nat) v d,us[i]?=some v->first[i]?=some d->bC e v d) (u:∀(i:Nat) v d,vs[i]?=some v->dX[i]?=some d->bC e v d):bC e (.func f us.toArray vs.toArray) (.fn f first dX)
 |any {v:Value}:bC e v .any
def DReps(e:aE)(vs:List Value)(ds:List I):Prop:=vs.length=ds.length/\∀(i:Nat) v d,vs[i]?=some v->ds[i]?=some d->bC e v d
structure Ends(e ae:aE):Prop where
 zy:∀b o v,e.nY b o->e.w.cell? ⟨b,o,none⟩=some v->ae.nY b o/\ae.w.cell? ⟨b,o,none⟩=some v
 bx:∀b k,e.bx b=some k->ae.bx b=some k
 gi:∀g aa,e.gi g=some aa->∃nc,ae.gi g=some nc/\nc.el=aa.el/\nc.sz=aa.sz/\aa.len<=nc.len
 row:∀k g aa cur,e.gr k=some g->e.gi g=some aa->e.w.heap[k]?=some (.cells cur aa.el (0,0))->ae.gr k=some g/\∃fj,ae.w.heap[k]?=some (.cells fj aa.el (0,0))/\fj.size=cur.size
theorem Ends.trans{a b c:aE}(h:Ends a b)(k:Ends b c):Ends a c:=by
 refine⟨λ x o v h1 u=>?_,λ x y hh=>k.bx _ _ (h.bx _ _ hh),λ g aa hg=>?_,λ x g aa cur h1 u J=>?_⟩
 ·obtain⟨J,h4⟩:=h.zy x o v h1 u;exact k.zy x o v J h4
 ·obtain⟨nc,e1,e2,e3,e4⟩:=h.gi g aa hg;obtain⟨G2,kZ,kA,lv,f4⟩:=k.gi g nc e1;exact⟨G2,kZ,kA.trans e2,lv.trans e3,Nat.le_trans e4 f4⟩
 ·obtain⟨h4,fj,h5,h6⟩:=h.row x g aa cur h1 u J;obtain⟨nc,e1,e2,e3,e4⟩:=h.gi g aa u;obtain⟨h7,abt,h8,h9⟩:=k.row x g nc fj h4 e1 (by rw[e2];exact h5);exact⟨h7,abt,by rw[<-e2];exact h8,h9.trans h6⟩
theorem c5.next{e ae:aE}(Y:Ends e ae){v:Value}{x:Pl}(h:c5 e v x):c5 ae v x:=by
 induction h with
 |raw v=>exact .raw v
 |sl f h1 u J h4 h5 h6 ih=>refine .sl f h1 u J h4 (λ i x hx=>?_) ih;obtain⟨b,o,hA,F,hv,Z⟩:=h5 i x hx;obtain⟨h7,h8⟩:=Y.zy _ _ _ F hv;exact⟨b,o,hA,h7,h8,Z⟩
theorem tf.next{e ae:aE}(Y:Ends e ae){b o:Nat}{ps:List Pl}(h:tf e b o ps):tf ae b o ps:=by obtain⟨f,hf⟩:=h;refine⟨f,λ i x hx=>?_⟩;obtain⟨h1,u,J,h4⟩:=hf i x hx;obtain⟨h5,h6⟩:=Y.zy _ _ _ h1 u;exact⟨h5,h6,J,h4.next Y⟩
theorem Hz.next{e ae:aE}(Y:Ends e ae){v:Value}{g n m:Nat}(h:Hz e v g n m):Hz ae v g n m:=by obtain⟨aa,A,bG,hg,hv,hn,hm,F⟩:=h;obtain⟨nc,e1,e2,e3,e4⟩:=Y.gi g aa hg;refine⟨nc,A,bG,e1,hv,Nat.le_trans hn e4,by rw[e3];exact hm,F.imp id ?_⟩;rintro⟨k,hA,h1,cur,u,J⟩;obtain⟨h4,fj,h5,h6⟩:=Y.row k g aa cur h1 hg u;exact⟨k,hA,h4,fj,by rw[e2];exact h5,by rw[h6,J,e3]⟩
theorem bC.next{e ae:aE}(Y:Ends e ae){v:Value}{d:I}(h:bC e v d):bC ae v d:=by
 induction h with
 |p h=>exact .p (h.next Y)
 |agg Z _ ih=>exact .agg Z ih
 |ca Z _ ih=>exact .ca Z ih
 |ptr h=>exact .ptr (Y.bx _ _ h)
 |el h=>exact .el (h.next Y)
 |bP h ht=>exact .bP (h.next Y) (ht.next Y)
 |arr h=>exact .arr (Y.bx _ _ h)
 |fn Z eV _ _ ih Ga=>exact .fn Z eV ih Ga
 |any=>exact .any
theorem DReps.next{e ae:aE}(Y:Ends e ae){vs:List Value}{ds:List I}(h:DReps e vs ds):DReps ae vs ds:=⟨h.1,λ i v d h1 u=>(h.2 i v d h1 u).next Y⟩
theorem DReps.nil(e:aE):DReps e [] []:=⟨rfl,λ i v d h=>by simp at h⟩
theorem DReps.cons{e:aE}{v:Value}{d:I}{vs:List Value}{ds:List I}(h:bC e v d)(T:DReps e vs ds):DReps e (v::vs) (d::ds):=by
 refine⟨by simp[T.1],λ i aH c h1 u=>?_⟩;cases i with
 |zero=>simp at h1 u;subst h1;subst u;exact h
 |succ i=>exact T.2 i aH c (by simpa using h1) (by simpa using u)
theorem DReps.y6{e:aE}{vs:List Value}{d:I}{ds:List I}(h:DReps e vs (d::ds)):∃v fu,vs=v::fu/\bC e v d/\DReps e fu ds:=by
 obtain⟨Z,hh⟩:=h;rcases vs with _|⟨v,fu⟩
 ·simp at Z
 ·exact⟨v,fu,rfl,hh 0 v d rfl rfl,by simpa using Z,λ i aH c h1 u=>hh (i+1) aH c (by simpa using h1) (by simpa using u)⟩
theorem DReps.get{e:aE}{vs:List Value}{ds:List I}(h:DReps e vs ds){i:Nat}{d:I}(K:ds[i]?=some d):∃v,vs[i]?=some v/\bC e v d:=by
 have hi:i<ds.length:=(List.getElem?_eq_some_iff.1 K).1;have qC:i<vs.length:=by rw[h.1];exact hi
 exact⟨vs[i],List.getElem?_eq_getElem qC,h.2 i _ d (List.getElem?_eq_getElem qC) K⟩
theorem DReps.take{e:aE}{vs:List Value}{ds:List I}(h:DReps e vs ds)(k:Nat):DReps e (vs.take k) (ds.take k):=by
 refine⟨by simp[h.1],λ i v d h1 u=>?_⟩;rw[List.getElem?_take] at h1 u;split at h1
 ·rename_i hi;rw[if_pos hi] at u;exact h.2 i v d h1 u
 ·cases h1
theorem DReps.drop{e:aE}{vs:List Value}{ds:List I}(h:DReps e vs ds)(k:Nat):DReps e (vs.drop k) (ds.drop k):=by refine⟨by simp[h.1],λ i v d h1 u=>?_⟩;rw[List.getElem?_drop] at h1 u;exact h.2 _ v d h1 u
theorem DReps.append{e:aE}{vs us:List Value}{ds cs:List I}(h:DReps e vs ds)(bD:DReps e us cs):DReps e (vs++us) (ds++cs):=by
 refine⟨by simp[h.1,bD.1],λ i v d h1 u=>?_⟩;rcases Nat.lt_or_ge i vs.length with hi|hi
 ·rw[List.getElem?_append_left hi] at h1;rw[List.getElem?_append_left (by rw[<-h.1];exact hi)] at u;exact h.2 i v d h1 u
 ·rw[List.getElem?_append_right hi] at h1;rw[List.getElem?_append_right (by rw[<-h.1];exact hi),<-h.1] at u;exact bD.2 _ v d h1 u
def I.leaf:I->Bool
 |.p (.raw v)=>lF v
 |.p (.sl ..)|.ptr ..|.el _|.bP ..|.arr ..|.fn ..=>true
 |_=>false
theorem OG{e:aE}{v:Value}{d:I}(h:bC e v d)(Z:d.leaf=true):lF v=true:=by
 cases h with
 |p h=>cases h with
  |raw v=>exact Z
  |sl=>rfl
 |agg=>cases Z
 |ca=>cases Z
 |ptr=>rfl
 |el=>rfl
 |bP h ht=>obtain⟨_,A,bG,_,rfl,_⟩:=ht;rfl
 |arr=>rfl
 |fn=>rfl
 |any=>cases Z
def I.cells:I->List I
 |.agg ds=>ds
 |d=>[d]
theorem aba{e:aE}{v:Value}{d:I}(h:bC e v d)(Z:d.leaf=true\/∃ds,d=.agg ds):DReps e v.cells.toList d.cells:=by
 rcases Z with Z|⟨ds,rfl⟩
 ·have hv:=OG h Z;have h1:v.cells=#[v]:=by cases v<;>first|rfl|cases hv
  have u:d.cells=[d]:=by cases d<;>first|rfl|cases Z
  rw[h1,u];exact DReps.cons h (DReps.nil e)
 ·cases h with
  |agg Z h=>exact⟨by simpa[Value.cells,I.cells] using Z,λ i v d h1 u=>h i v d (by simpa[Value.cells] using h1) (by simpa[I.cells] using u)⟩
end Go.Proofs.YtkkldicehapklaaGreat
end
section
namespace Go.Proofs.YtkkldicehapklaaGreat
open Go.RowKit
def kv{az:Type}:List (Nat×az)->Nat->Option az
 |[],_=>none
 |(k,v)::l,n=>bif Nat.beq k n then some v else kv l n
theorem dc{az:Type}(k:Nat)(v:az)(l:List (Nat×az))(n:Nat):kv ((k,v)::l) n=if k=n then some v else kv l n:=by
 by_cases h:k=n
 ·subst h;simp[kv]
 ·have:Nat.beq k n=false:=by rw[Bool.eq_false_iff];intro hb;exact h (Nat.eq_of_beq_eq_true hb)
  simp[kv,this,h]
structure St where
 s:List (Nat×I)
 b:List (Nat×List I)
 g:List (Nat×Gr)
structure bX where
 n:Nat
 w0:World
 kV:Nat->Option Nat
 own:Nat->Prop
 kb:List (Nat×Nat)
 dr:List Deferred
def ij(e:aE)(b:Nat)(cs:List I):Prop:=∃k vs el,e.bx b=some k/\e.w.heap[k]?=some (.cells (List.toArray vs) el (0,0))/\DReps e vs cs
structure oN(own:Nat->Prop)(w aA:World):Prop where
 os:aA.os=w.os
 tape:aA.tape=w.tape
 output:aA.output=w.output
 size:w.heap.size<=aA.heap.size
 block:∀k,k<w.heap.size->¬own k->aA.heap[k]?=w.heap[k]?
theorem oN.refl(own:Nat->Prop)(w:World):oN own w w:=⟨rfl,rfl,rfl,Nat.le_refl _,λ _ _ _=>rfl⟩
theorem oN.below{own:Nat->Prop}{w aA nU:World}(h:oN own w aA)(hb:Below aA.heap.size aA nU):oN own w nU:=
 ⟨hb.os.trans h.os,hb.tape.trans h.tape,hb.output.trans h.output,Nat.le_trans h.size hb.size,λ k hk ho=>(hb.block k (Nat.lt_of_lt_of_le hk h.size)).trans (h.block k hk ho)⟩
structure gV(Γ:bX)(e:aE):Prop where
 kept:oN Γ.own Γ.w0 e.w
 cl:∀k,k<Γ.w0.heap.size->¬Γ.own k->e.cl k=Γ.kV k
 bx:∀b k,e.bx b=some k->k<e.w.heap.size/\(Γ.w0.heap.size<=k\/Γ.own k)/\e.cl k=some 0/\e.gr k=none
 inj:∀b c k,e.bx b=some k->e.bx c=some k->b=c
 gr:∀k g,e.gr k=some g->∃aa cur,e.gi g=some aa/\k<e.w.heap.size/\(Γ.w0.heap.size<=k\/Γ.own k)/\e.cl k=some (aa.len*aa.sz)/\e.w.heap[k]?=some (.cells cur aa.el (0,0))
 kb:∀b k,kv Γ.kb b=some k->e.bx b=some k
structure bE(Γ:bX)(L:St)(e:aE)(a:Act):Prop where
 size:a.tmps.size=Γ.n
 df:a.defers=Γ.dr
 dj:∀t d,kv L.s t=some d->bC e (gH a t) d
 boxes:∀b cs,kv L.b b=some cs->ij e b cs
 ee:∀b,kv L.b b=none->e.bx b=none
 gs:∀g,e.gi g=kv L.g g
 env:gV Γ e
structure j7(e ae:aE):Prop where
 below:Below e.w.heap.size e.w ae.w
 cl:∀k,k<e.w.heap.size->ae.cl k=e.cl k
 bx:ae.bx=e.bx
 gr:ae.gr=e.gr
 gi:ae.gi=e.gi
theorem j7.refl(e:aE):j7 e e:=⟨Below.refl _ _,λ _ _=>rfl,rfl,rfl,rfl⟩
theorem HS{w:World}{b o:Nat}{v:Value}(h:w.cell? ⟨b,o,none⟩=some v):b<w.heap.size:=by
 rcases Nat.lt_or_ge b w.heap.size with aY|iF
 ·exact aY
 ·simp[World.cell?,Array.getElem?_eq_none iF] at h
theorem tY{w:World}{b:Nat}{o:Obj}(h:w.heap[b]?=some o):b<w.heap.size:=by
 rcases Nat.lt_or_ge b w.heap.size with aY|iF
 ·exact aY
 ·rw[Array.getElem?_eq_none iF] at h;cases h
theorem j7.nY{e ae:aE}(h:j7 e ae){b o:Nat}(hb:b<e.w.heap.size)(F:e.nY b o):ae.nY b o:=λ k hk=>F k (by rw[<-h.cl b hb];exact hk)
theorem j7.ends{e ae:aE}(h:j7 e ae):Ends e ae:=by
 refine⟨λ b o v F hv=>?_,λ b k hk=>by rw[h.bx];exact hk,λ g aa hg=>⟨aa,by rw[h.gi];exact hg,rfl,rfl,Nat.le_refl _⟩,λ k g aa cur h1 u J=>⟨by rw[h.gr];exact h1,cur,?_,rfl⟩⟩
 ·have hb:=HS hv;exact⟨h.nY hb F,by rw[h.below.cell (p:=⟨b,o,none⟩) hb];exact hv⟩
 ·rw[h.below.block k (tY J)];exact J
theorem j7.box{e ae:aE}(h:j7 e ae){b:Nat}{cs:List I}(hb:ij e b cs):ij ae b cs:=by obtain⟨k,vs,el,h1,u,J⟩:=hb;exact⟨k,vs,el,by rw[h.bx];exact h1,by rw[h.below.block k (tY u)];exact u,J.next h.ends⟩
theorem j7.ok{Γ:bX}{e ae:aE}(h:j7 e ae)(ho:gV Γ e):gV Γ ae:=by
 refine⟨ho.kept.below h.below,λ k hk hw=>(h.cl k (Nat.lt_of_lt_of_le hk ho.kept.size)).trans (ho.cl k hk hw),λ b k hb=>?_,λ b c k h1 u=>ho.inj b c k (by rw[<-h.bx];exact h1) (by rw[<-h.bx];exact u),λ k g hg=>?_,λ b k hk=>by rw[h.bx];exact ho.kb b k hk⟩
 ·rw[h.bx] at hb;obtain⟨h1,u,J,h4⟩:=ho.bx b k hb;exact⟨Nat.lt_of_lt_of_le h1 h.below.size,u,(h.cl k h1).trans J,by rw[h.gr];exact h4⟩
 ·rw[h.gr] at hg;obtain⟨aa,cur,h1,u,J,h4,h5⟩:=ho.gr k g hg;exact⟨aa,cur,by rw[h.gi];exact h1,Nat.lt_of_lt_of_le u h.below.size,J,(h.cl k u).trans h4,by rw[h.below.block k u];exact h5⟩
theorem bE.grow{Γ:bX}{L:St}{e ae:aE}{a:Act}(F:bE Γ L e a)(h:j7 e ae):bE Γ L ae a:=
 ⟨F.size,F.df,λ t d ht=>(F.dj t d ht).next h.ends,λ b cs hb=>h.box (F.boxes b cs hb),λ b hb=>by rw[h.bx];exact F.ee b hb,λ g=>by rw[h.gi];exact F.gs g,h.ok F.env⟩
def St.put(L:St):Option Nat->I->St
 |some t,d=>⟨(t,d)::L.s,L.b,L.g⟩
 |none,_=>L
def St.box(L:St):Option (Nat×List I)->St
 |some p=>⟨L.s,p::L.b,L.g⟩
 |none=>L
def xU(n:Nat):Option Nat->Bool
 |some t=>Nat.blt t n
 |none=>true
theorem bE.put{Γ:bX}{L:St}{e:aE}{a:Act}(F:bE Γ L e a){dst:Option Nat}(K:xU Γ.n dst=true){v:Value}{d:I}(hv:bC e v d):bE Γ (L.put dst d) e (a.put dst v):=by
 cases dst with
 |none=>exact F
 |some t=>
  have ht:t<Γ.n:=by simpa[xU,Nat.blt_eq] using K
  refine⟨by rw[Kv];exact F.size,by rw[HZ];exact F.df,λ aH c hu=>?_,F.boxes,F.ee,F.gs,F.env⟩;simp only[St.put,dc] at hu;split at hu
  ·rename_i l4;subst l4;cases hu;rw[Hc (by rw[F.size];exact ht)];exact hv
  ·rename_i l4;rw[BZ (λ e=>l4 (by cases e;rfl))];exact F.dj aH c hu
def aE.jr(e:aE)(b k:Nat):aE:={e with bx:=λ x=>if x=b then some k else e.bx x}
theorem vZ{e:aE}{b k:Nat}(h:e.bx b=none):Ends e (e.jr b k):=
 ⟨λ _ _ _ h1 u=>⟨h1,u⟩,λ c j hj=>by
  show(if c=b then some k else e.bx c)=some j;rw[if_neg (λ ae=>by rw[ae,h] at hj;cases hj)];exact hj,λ _ aa hg=>⟨aa,hg,rfl,rfl,Nat.le_refl _⟩,λ _ _ _ cur h1 _ J=>⟨h1,cur,J,rfl⟩⟩
theorem ij.ends{e ae:aE}{b:Nat}{cs:List I}(h:ij e b cs)(Y:Ends e ae)(hw:ae.w=e.w):ij ae b cs:=by obtain⟨k,vs,el,h1,u,J⟩:=h;exact⟨k,vs,el,Y.bx _ _ h1,by rw[hw];exact u,J.next Y⟩
theorem bE.ahm{Γ:bX}{L:St}{e:aE}{a:Act}(F:bE Γ L e a){b k:Nat}{cs:List I}(hb:kv L.b b=none)(hk:k<e.w.heap.size)(qx:Γ.w0.heap.size<=k)(dw:e.cl k=some 0)(ia:e.gr k=none)(dt:∀c,e.bx c≠some k)
 (iC:ij (e.jr b k) b cs):bE Γ (L.box (some (b,cs))) (e.jr b k) a:=by
 have hn:=F.ee b hb;have Y:=vZ (k:=k) hn;refine⟨F.size,F.df,λ t d ht=>(F.dj t d ht).next Y,λ c ds wD=>?_,λ c iE=>?_,F.gs,?_⟩
 ·simp only[St.box,dc] at wD;split at wD
  ·rename_i sF;subst sF;cases wD;exact iC
  ·exact(F.boxes c ds wD).ends Y rfl
 ·simp only[St.box,dc] at iE;split at iE
  ·cases iE
  ·rename_i sF;show(if c=b then some k else e.bx c)=none;rw[if_neg (λ ae=>sF ae.symm)];exact F.ee c iE
 ·refine⟨F.env.kept,F.env.cl,λ c j hj=>?_,λ c aT j h1 u=>?_,F.env.gr,λ c j hj=>Y.bx c j (F.env.kb c j hj)⟩
  ·have fb:(if c=b then some k else e.bx c)=some j:=hj;split at fb
   ·cases fb;exact⟨hk,.inl qx,dw,ia⟩
   ·exact F.env.bx c j fb
  ·have bB:(if c=b then some k else e.bx c)=some j:=h1;have cj:(if aT=b then some k else e.bx aT)=some j:=u
   by_cases e1:c=b<;>by_cases e2:aT=b
   ·rw[e1,e2]
   ·rw[if_pos e1] at bB;rw[if_neg e2] at cj;cases bB;exact absurd cj (dt aT)
   ·rw[if_neg e1] at bB;rw[if_pos e2] at cj;cases cj;exact absurd bB (dt c)
   ·rw[if_neg e1] at bB;rw[if_neg e2] at cj;exact F.env.inj c aT j bB cj
def pC(e ae:aE)(v:Value)(d:I):Option (Nat×List I)->Prop
 |none=>j7 e ae/\bC ae v d
 |some (b,cs)=>∃e1 k,j7 e e1/\e.w.heap.size<=k/\k<e1.w.heap.size/\e1.cl k=some 0/\ae=e1.jr b k/\ij ae b cs/\bC ae v d
theorem bE.quiet{Γ:bX}{L:St}{e ae:aE}{a:Act}(F:bE Γ L e a){dst:Option Nat}(K:xU Γ.n dst=true){v:Value}{d:I}{nb:Option (Nat×List I)}(c6:∀p,nb=some p->kv L.b p.1=none)(h:pC e ae v d nb):bE Γ ((L.box nb).put dst d) ae (a.put dst v):=by
 cases nb with
 |none=>exact(F.grow h.1).put K h.2
 |some p=>
  obtain⟨b,cs⟩:=p;obtain⟨e1,k,hg,h1,u,J,rfl,h5,h6⟩:=h;have c7:=F.grow hg;refine(c7.ahm (c6 _ rfl) u (Nat.le_trans F.env.kept.size h1) J ?_ ?_ h5).put K h6
  ·rw[hg.gr];rcases i7:e.gr k with _|g
   ·rfl
   ·obtain⟨_,_,_,aY,_⟩:=F.env.gr k g i7;omega
  ·intro c tT;rw[hg.bx] at tT;have:=(F.env.bx c k tT).1;omega
def qr:Value->I
 |.slice none 0 0=>.p (.sl true 0 [])
 |v=>.p (.raw v)
def mh:Value->I
 |.agg cs=>.agg (cs.toList.map qr)
 |v=>qr v
theorem ahy(e:aE):c5 e (.slice none 0 0) (.sl true 0 []):=.sl (λ _=>undef) (Nat.le_refl _) (by unfold maxLen;omega) (λ _=>rfl) (λ _=>rfl) (λ i x h=>by simp at h) (λ i x h=>by simp at h)
theorem HV(e:aE)(v:Value):bC e v (qr v):=by
 unfold qr;split
 ·exact .p (ahy e)
 ·exact .p (.raw v)
theorem zY(e:aE)(v:Value):bC e v (mh v):=by
 unfold mh;split
 ·rename_i cs;have:bC e (.agg cs.toList.toArray) (.agg (cs.toList.map qr)):=.agg (by simp) (λ i v d h1 u=>by
   rw[List.getElem?_map,h1] at u;cases u;exact HV e v)
  simpa using this
 ·exact HV e v
def mD{az dE:Type}:Nat->List dE->(List dE->Option az)->Option az
 |0,_,k=>k []
 |n+1,x::l,k=>mD n l (λ r=>k (x::r))
 |_+1,[],_=>none
def kW{az dE:Type}:Nat->List dE->(List dE->Option az)->Option az
 |0,l,k=>k l
 |n+1,_::l,k=>kW n l k
 |_+1,[],_=>none
def JF{az dE da:Type}(f:da->dE):List da->(List dE->Option az)->Option az
 |[],k=>k []
 |x::l,k=>JF f l (λ r=>k (f x::r))
def ng{az dE:Type}:List dE->List dE->(List dE->Option az)->Option az
 |[],m,k=>k m
 |x::l,m,k=>ng l m (λ r=>k (x::r))
theorem td{az dE:Type}:∀{n:Nat}{l:List dE}{k:List dE->Option az}{a:az},mD n l k=some a->n<=l.length/\k (l.take n)=some a
 |0,l,k,a,h=>⟨Nat.zero_le _,by simpa[mD] using h⟩
 |n+1,x::l,k,a,h=>by
  obtain⟨h1,u⟩:=td (n:=n) (l:=l) (k:=λ r=>k (x::r)) h;exact⟨by simpa using h1,by simpa using u⟩
 |n+1,[],k,a,h=>by cases h
theorem n4{az dE:Type}:∀{n:Nat}{l:List dE}{k:List dE->Option az}{a:az},kW n l k=some a->n<=l.length/\k (l.drop n)=some a
 |0,l,k,a,h=>⟨Nat.zero_le _,by simpa[kW] using h⟩
 |n+1,x::l,k,a,h=>by
  obtain⟨h1,u⟩:=n4 (n:=n) (l:=l) (k:=k) h;exact⟨by simpa using h1,by simpa using u⟩
 |n+1,[],k,a,h=>by cases h
theorem V7{az dE da:Type}(f:da->dE):∀(l:List da)(k:List dE->Option az),JF f l k=k (l.map f)
 |[],k=>rfl
 |x::l,k=>by rw[JF,V7 f l];rfl
theorem sr{az dE:Type}:∀(l m:List dE)(k:List dE->Option az),ng l m k=k (l++m)
 |[],m,k=>rfl
 |x::l,m,k=>by rw[ng,sr l m];rfl
def Jq{az:Type}(v:Value)(k:I->Option az):Option az:=match v with
 |.slice none 0 0=>k (.p (.sl true 0 []))
 |v=>k (.p (.raw v))
def Jr{az:Type}:List Value->(List I->Option az)->Option az
 |[],k=>k []
 |v::l,k=>Jq v λ d=>Jr l λ r=>k (d::r)
def sw{az:Type}(v:Value)(k:I->Option az):Option az:=match v with
 |.agg cs=>Jr cs.toList λ ds=>k (.agg ds)
 |v=>Jq v k
theorem VG{az:Type}(v:Value)(k:I->Option az):Jq v k=k (qr v):=by unfold Jq qr;split<;>rfl
theorem VH{az:Type}:∀(l:List Value)(k:List I->Option az),Jr l k=k (l.map qr)
 |[],k=>rfl
 |v::l,k=>by rw[Jr,VG,VH l];rfl
theorem zZ{az:Type}(v:Value)(k:I->Option az):sw v k=k (mh v):=by
 unfold sw mh;split
 ·rw[VH]
 ·rw[VG]
def ev(S:Nat->Option I):Operand->Option I
 |.tmp t=>S t
 |.const v=>sw v some
 |.func f=>some (.fn (.func f) [] [])
 |.global _=>none
def i3{az:Type}(S:Nat->Option I):List Operand->(List I->Option az)->Option az
 |[],k=>k []
 |x::l,k=>match ev S x with
  |some d=>i3 S l λ r=>k (d::r)
  |none=>none
def Lf(S:Nat->Option I)(B:Nat->Option (List I))(a:Act)(e:aE)(xs:Array Operand):Prop:=
 (∀x∈xs,∀d,ev S x=some d->bC e (a.eval x) d)/\∀b cs,B b=some cs->ij e b cs
theorem bE.jd{Γ:bX}{L:St}{e:aE}{a:Act}(F:bE Γ L e a)(xs:Array Operand):Lf (kv L.s) (kv L.b) a e xs:=by
 refine⟨λ x _ d hx=>?_,F.boxes⟩;cases x with
 |tmp t=>exact F.dj t d hx
 |const v=>simp only[ev,zZ,Option.some.injEq] at hx;subst hx;exact zY e v
 |global g=>cases hx
 |func f=>simp only[ev,Option.some.injEq] at hx;subst hx;exact .fn (us:=[]) (vs:=[]) rfl rfl (λ i v d h=>by simp at h) (λ i v d h=>by simp at h)
def dM(P:Program)(o:Oper)(S:Nat->Option I)(B:Nat->Option (List I))(d:I)(nb:Option (Nat×List I)):Prop:=
 ∀(a:Act)(e:aE),Lf S B a e o.op.operands->(∀p,nb=some p->e.bx p.1=none)->
  o.wp P a e.w (λ bF aA=>∃v ae,bF=a.put o.dst v/\ae.w=aA/\pC e ae v d nb) (λ _ _ _=>False)
theorem jZ{P:Program}{o:Oper}{S:Nat->Option I}{B:Nat->Option (List I)}{d:I}(h:∀(a:Act)(e:aE),Lf S B a e o.op.operands->∃v,(execOp a.eval o).run P e.w=.ok (.value v) e.w/\bC e v d):dM P o S B d none:=by intro a e T _;obtain⟨v,hr,hv⟩:=h a e T;unfold Oper.wp;rw[hr];exact⟨v,e,rfl,rfl,j7.refl e,hv⟩
end Go.Proofs.YtkkldicehapklaaGreat
end
section
namespace Go.Proofs.YtkkldicehapklaaGreat
open Go.RowKit
inductive TK where
 |int (k:IntKind)
 |bool
 |str
 |slice (e:TypeId)
 |struct (fs:List (TypeId×Nat×Nat))
 |array (n:Nat) (e:TypeId)
 |other
structure TI where
 k:TK
 sz:Nat
 bytes:Nat
 zero:Value
def km(P:Program):TypeDesc->TK
 |.int k=>.int k
 |.bool=>.bool
 |.string=>.str
 |.slice e=>.slice e
 |.struct fs=>.struct (fs.toList.map λ f=>(f.type,f.offset,P.cellsOf f.type))
 |.array n e=>.array n e
 |_=>.other
structure dh(P:Program)(aq:Nat->Option TI):Prop where
 desc:∀t i,aq t=some i->∃d,P.underlying t=some d/\km P d=i.k
 info:∀t i,aq t=some i->∃f,P.info? t=some f/\f.size=i.sz/\f.bytes=i.bytes/\f.zero=some i.zero
def TK.agg:TK->Bool
 |.struct _|.array _ _=>true
 |_=>false
def BB(i:TI)(ds:List I):Option I:=
 bif i.k.agg then mD i.sz ds λ r=>some (.agg r)
 else match ds with
  |d::_=>some d
  |[]=>none
def Cj:BinOp->Value->Value->Option Value
 |.add,.int .i64 a,.int .i64 b=>some (.int .i64 (IntKind.i64.wrap (a+b)))
 |.sub,.int .i64 a,.int .i64 b=>some (.int .i64 (IntKind.i64.wrap (a-b)))
 |.mul,.int .i64 a,.int .i64 b=>some (.int .i64 (IntKind.i64.wrap (a*b)))
 |.eql,.int .i64 a,.int .i64 b=>some (.bool (decide (a=b)))
 |.neq,.int .i64 a,.int .i64 b=>some (.bool (!decide (a=b)))
 |.lss,.int .i64 a,.int .i64 b=>some (.bool (decide (a<b)))
 |.leq,.int .i64 a,.int .i64 b=>some (.bool (decide (a<=b)))
 |.gtr,.int .i64 a,.int .i64 b=>some (.bool (decide (b<a)))
 |.geq,.int .i64 a,.int .i64 b=>some (.bool (decide (b<=a)))
 |.add,.int .u64 a,.int .u64 b=>some (.int .u64 (IntKind.u64.wrap (a+b)))
 |.sub,.int .u64 a,.int .u64 b=>some (.int .u64 (IntKind.u64.wrap (a-b)))
 |.mul,.int .u64 a,.int .u64 b=>some (.int .u64 (IntKind.u64.wrap (a*b)))
 |.eql,.int .u64 a,.int .u64 b=>some (.bool (decide (a=b)))
 |.neq,.int .u64 a,.int .u64 b=>some (.bool (!decide (a=b)))
 |.lss,.int .u64 a,.int .u64 b=>some (.bool (decide (a<b)))
 |.and,.int .u64 a,.int .u64 b=>some (.int .u64 (IntKind.u64.wrap ((BitVec.ofInt 64 a&&&BitVec.ofInt 64 b).toNat)))
 |.andNot,.int .u64 a,.int .u64 b=>some (.int .u64 (IntKind.u64.wrap ((BitVec.ofInt 64 a&&&~~~BitVec.ofInt 64 b).toNat)))
 |.and,.int .i64 a,.int .i64 b=>some (.int .i64 (IntKind.i64.wrap ((BitVec.ofInt 64 a&&&BitVec.ofInt 64 b).toNat)))
 |.eql,.int .u8 a,.int .u8 b=>some (.bool (decide (a=b)))
 |.eql,.bool a,.bool b=>some (.bool (a==b))
 |.neq,.bool a,.bool b=>some (.bool (!(a==b)))
 |_,_,_=>none
theorem run_equal_bool{P:Program}{t:TypeId}(hu:P.underlying t=some .bool)(a b:Bool)(w:World):(Op.equal t (.bool a) (.bool b)).run P w=.ok (a==b) w:=by
 show(Op.equalIn (9999+1) t _ _).run P w=_;rw[Op.equalIn];simp only[Sem.run_bind,run_underlying hu,Result.andThen_ok]
 rfl
theorem aaS{P:Program}{aq:Nat->Option TI}(_:dh P aq){op:BinOp}{t:TypeId}{aH v r:Value}(h:Cj op aH v=some r)(hb:∀b:Bool,aH=.bool b->P.underlying t=some .bool)(x y:Operand)(w:World):
 (do eqGuard op t x y aH v;binOp op t aH v:Sem Value).run P w=.ok r w:=by
 unfold Cj at h;split at h
 all_goals cases h
 all_goals first
  |(simp only[eqGuard,binOp,Op.intArith,Op.intCmp,Op.intBits,IntKind.bits];rfl)
  |(rename_i a b;have hu:P.underlying t=some .bool:=hb a rfl;simp only[eqGuard,binOp];simp[run_equal_bool hu];done)
  |skip
def W0(ft:TypeId×Nat×Nat)(isAgg:Bool)(ds:List I):Option I:=
 bif isAgg then kW ft.2.1 ds λ r=>mD ft.2.2 r λ q=>some (.agg q)
 else ds[ft.2.1]?
def OI(c:Call):Option (Operand×TypeId):=match c.callee with
 |.builtin .len=>match c.args.toList,c.argTypes.toList with
  |[x],[t]=>some (x,t)
  |_,_=>none
 |_=>none
theorem ags{c:Call}{x:Operand}{t:TypeId}(h:OI c=some (x,t)):c={callee:=.builtin .len,args:=#[x],argTypes:=#[t]}:=by
 obtain⟨callee,args,fa⟩:=c;unfold OI at h;simp only at h;split at h
 ·split at h
  ·rename_i h1 u;cases h;obtain⟨l1⟩:=args;obtain⟨l2⟩:=fa;simp only at h1 u;subst h1;subst u
   rfl
  ·cases h
 ·cases h
def ax(aq:Nat->Option TI)(S:Nat->Option I)(B:Nat->Option (List I)):Op->Option I
 |.move x|.assign x=>ev S x
 |.pick c x y=>match ev S c with
  |some (.p (.raw (.bool true)))=>ev S x
  |some (.p (.raw (.bool false)))=>ev S y
  |_=>none
 |.load t x=>match aq t,ev S x with
  |some i,some (.ptr b o)=>match B b with
   |some cs=>kW o cs (BB i)
   |none=>none
  |some i,some (.el ps)=>JF I.p ps (BB i)
  |_,_=>none
 |.binOp op t x y _=>match aq t,ev S x,ev S y with
  |some i,some (.p (.raw aH)),some (.p (.raw v))=>match Cj op aH v,aH,i.k with
   |some r,.bool _,.bool=>some (.p (.raw r))
   |some r,.int ..,_=>some (.p (.raw r))
   |_,_,_=>none
  |_,_,_=>none
 |.unOp aH _ x=>match aH,ev S x with
  |.not,some (.p (.raw (.bool b)))=>some (.p (.raw (.bool (!b))))
  |.neg,some (.p (.raw (.int .i64 n)))=>some (.p (.raw (.int .i64 (IntKind.i64.wrap (0-n)))))
  |_,_=>none
 |.convert s t x=>match aq s,aq t,ev S x with
  |some ⟨.int _,_,_,_⟩,some ⟨.int k,_,_,_⟩,some (.p (.raw (.int _ n)))=>some (.p (.raw (.int k (k.wrap n))))
  |_,_,_=>none
 |.extract x i=>match ev S x with
  |some (.ca ds)=>ds[i]?
  |_=>none
 |.fieldAddr t x f=>match aq t,ev S x with
  |some ⟨.struct fs,_,_,_⟩,some (.ptr b o)=>match fs[f]? with
   |some (_,aN,_+1)=>some (.ptr b (o+aN))
   |_=>none
  |some ⟨.struct fs,_,_,_⟩,some (.el ps)=>match fs[f]? with
   |some (_,aN,_+1)=>kW aN ps λ r=>some (.el r)
   |_=>none
  |_,_=>none
 |.field t x f=>match aq t,ev S x with
  |some ⟨.struct fs,_,_,_⟩,some (.agg ds)=>match fs[f]? with
   |some ft=>match aq ft.1 with
    |some j=>W0 ft j.k.agg ds
    |none=>none
   |none=>none
  |_,_=>none
 |.call c=>match OI c with
  |some (x,t)=>match aq t,ev S x with
   |some ⟨.slice _,_,_,_⟩,some (.p (.sl _ n _))=>some (.p (.raw (.int .i64 n)))
   |some ⟨.slice _,_,_,_⟩,some (.bP _ n _)=>some (.p (.raw (.int .i64 n)))
   |some ⟨.slice _,_,_,_⟩,some (.arr _ _ n _)=>some (.p (.raw (.int .i64 n)))
   |_,_=>none
  |none=>none
 |.makeFunc f first dX=>i3 S first.toList λ fs=>i3 S dX.toList λ cs=>some (.fn f fs cs)
 |.nilCheck x=>match ev S x with
  |some (.ptr b o)=>some (.ptr b o)
  |some (.el ps)=>some (.el ps)
  |_=>none
 |_=>none
end Go.Proofs.YtkkldicehapklaaGreat
end
section
namespace Go.Proofs.YtkkldicehapklaaGreat
open Go.RowKit
section
variable{P:Program}{aq:Nat->Option TI}{S:Nat->Option I}{B:Nat->Option (List I)}
theorem Kq{t:TypeId}{i:TI}(hT:dh P aq)(ht:aq t=some i)(w:World):(isAgg t).run P w=.ok i.k.agg w:=by obtain⟨d,K,hk⟩:=hT.desc t i ht;unfold isAgg;simp only[Sem.run_bind,run_underlying K,Result.andThen_ok];rw[<-hk];cases d<;>rfl
theorem run_sizeOf{t:TypeId}{i:TI}(hT:dh P aq)(ht:aq t=some i)(w:World):(sizeOf t).run P w=.ok i.sz w:=by obtain⟨f,hf,T,_⟩:=hT.info t i ht;simp[sizeOf,typeInfo,hf,T]
theorem DM{t:TypeId}{i:TI}(hT:dh P aq)(ht:aq t=some i)(w:World):(zeroValue t).run P w=.ok i.zero w:=by obtain⟨f,hf,_,_,hz⟩:=hT.info t i ht;simp[zeroValue,typeInfo,hf,hz]
theorem qZ(b o n:Nat):(⟨b,o,none⟩:Addr).add n=⟨b,o+n,none⟩:=Addr.add_lit b o n
theorem OS(hT:dh P aq){t:TypeId}{i:TI}(ht:aq t=some i){e:aE}{k o:Nat}{us:List Value}{ds:List I}(hu:∀j v,us[j]?=some v->e.w.cell? ⟨k,o+j,none⟩=some v)(hr:DReps e us ds){d:I}(K:BB i ds=some d):
 ∃v,(Instr.loadAt t (.pointer (some ⟨k,o,none⟩))).run P e.w=.ok v e.w/\bC e v d:=by
 unfold BB at K;simp only[Instr.loadAt,Instr.sureAddr,loadVar,Sem.run_bind,Sem.run_pure,Result.andThen_ok,Kq hT ht];cases rC:i.k.agg
 ·rw[rC] at K;simp only[cond_false] at K;split at K
  ·rename_i eo iR;cases K;obtain⟨v,amN,rfl,hv,_⟩:=hr.y6;have:=hu 0 v rfl;simp only[Nat.add_zero] at this;exact⟨v,by simp[run_load,this],hv⟩
  ·cases K
 ·rw[rC] at K;simp only[cond_true] at K;obtain⟨al3,K⟩:=td K;cases K
  ·skip
   have Z:(us.take i.sz).length=i.sz:=by rw[List.length_take,hr.1];omega
   have:=run_loadCells_list (P:=P) e.w ⟨k,o,none⟩ (us.take i.sz) (λ j v hj=>by
    rw[List.getElem?_take] at hj;split at hj
    ·rw[qZ];exact hu j v hj
    ·cases hj)
   rw[Z] at this;refine⟨.agg (us.take i.sz).toArray,by simp[this,run_sizeOf hT ht],?_⟩;have ht:=hr.take i.sz;exact .agg ht.1 ht.2
theorem SA{e:aE}{b o:Nat}{ps:List Pl}(h:tf e b o ps):∃us,(∀j v,us[j]?=some v->e.w.cell? ⟨b,o+j,none⟩=some v)/\DReps e us (ps.map .p)/\∀v∈us,lF v=true:=by
 obtain⟨f,hf⟩:=h;refine⟨(List.range ps.length).map f,λ j v hj=>?_,⟨by simp,λ j v d h1 u=>?_⟩,λ v hv=>?_⟩
 ·rw[List.getElem?_map] at hj;rcases Fz:(List.range ps.length)[j]? with _|q
  ·rw[Fz] at hj;cases hj
  ·rw[Fz] at hj;have aY:j<ps.length:=by have:=(List.getElem?_eq_some_iff.1 Fz).1;simpa using this
   have hq:q=j:=by rw[List.getElem?_range aY] at Fz;cases Fz;rfl
   subst hq;simp only[Option.map_some,Option.some.injEq] at hj;subst hj;exact(hf q _ (List.getElem?_eq_getElem aY)).2.1
 ·rw[List.getElem?_map] at h1 u;rcases G:ps[j]? with _|x
  ·rw[G] at u;cases u
  ·rw[G] at u;have aY:j<ps.length:=(List.getElem?_eq_some_iff.1 G).1;rw[List.getElem?_range aY] at h1;simp only[Option.map_some,Option.some.injEq] at h1 u;subst h1;subst u;exact .p (hf j x G).2.2.2
 ·obtain⟨j,hj,rfl⟩:=List.mem_map.1 hv;have aY:j<ps.length:=by simpa using hj
  exact(hf j _ (List.getElem?_eq_getElem aY)).2.2.1
theorem dg{e:aE}{v aH:Value}(h:bC e v (.p (.raw aH))):v=aH:=by
 cases h with
 |p h=>cases h;rfl
theorem tG{az:Type}{a:Act}{e:aE}:∀(xs:List Operand)(k:List I->Option az)(r:az),(∀x∈xs,∀d,ev S x=some d->bC e (a.eval x) d)->i3 S xs k=some r->∃ds,DReps e (xs.map a.eval) ds/\k ds=some r
 |[],k,r,_,h=>⟨[],DReps.nil e,h⟩
 |x::xs,k,r,T,h=>by
  simp only[i3] at h;split at h
  ·rename_i d K;obtain⟨ds,h1,u⟩:=tG xs _ r (λ y hy=>T y (by simp[hy])) h;exact⟨d::ds,DReps.cons (T x (by simp) d K) h1,u⟩
  ·cases h
theorem Ms{t:TypeId}{fs:List (TypeId×Nat×Nat)}{a b c:_}(hT:dh P aq)(ht:aq t=some ⟨.struct fs,a,b,c⟩){f:Nat}{ft:TypeId}{aN sz:Nat}(hf:fs[f]?=some (ft,aN,sz+1))(k o:Nat)(w:World):
 (Instr.fieldAt t (.pointer (some ⟨k,o,none⟩)) f).run P w=.ok (.pointer (some ⟨k,o+aN,none⟩)) w:=by
 obtain⟨d,K,hk⟩:=hT.desc t _ ht;cases d<;>simp only[km,TK.struct.injEq,reduceCtorEq] at hk
 rename_i tH;subst hk;rw[List.getElem?_map] at hf;rcases hq:tH.toList[f]? with _|q
 ·rw[hq] at hf;cases hf
 ·rw[hq] at hf;simp only[Option.map_some,Option.some.injEq,Prod.mk.injEq] at hf;obtain⟨rfl,rfl,J⟩:=hf;have eO:tH[f]?=some q:=by simpa using hq
  have hsz:(sizeOf q.type).run P w=.ok (sz+1) w:=by
   unfold Program.cellsOf at J;rcases hi:P.info? q.type with _|i
   ·rw[hi] at J;simp at J
   ·rw[hi] at J;simp only[Option.map_some,Option.getD_some] at J;simp[sizeOf,typeInfo,hi,J]
  simp[Instr.fieldAt,run_underlying K,eO,Instr.sureAddr,fieldPlace,hsz,qZ]
theorem uU(hT:dh P aq){o:Oper}{d:I}(h:ax aq S B o.op=some d):dM P o S B d none:=by
 obtain⟨dst,op,type,pos,after,guard⟩:=o;refine jZ λ a e T=>?_
 simp only at h T;have kP:∀x∈op.operands,∀d,ev S x=some d->bC e (a.eval x) d:=T.1;cases op<;>simp only[ax,reduceCtorEq] at h
 case move x=>exact⟨_,rfl,kP x (by simp[Op.operands]) d h⟩
 case assign x=>exact⟨_,rfl,kP x (by simp[Op.operands]) d h⟩
 case pick c x y=>
  split at h
  ·rename_i F;have c8:=dg (kP c (by simp[Op.operands]) _ F);exact⟨a.eval x,by simp[execOp,asBool,c8],kP x (by simp[Op.operands]) d h⟩
  ·rename_i F;have c8:=dg (kP c (by simp[Op.operands]) _ F);exact⟨a.eval y,by simp[execOp,asBool,c8],kP y (by simp[Op.operands]) d h⟩
  ·cases h
 case load t x=>
  split at h
  ·rename_i i b o ht hx;have h1:=kP x (by simp[Op.operands]) _ hx;split at h
   ·rename_i cs hB;obtain⟨k,vs,el,u,J,h4⟩:=T.2 b cs hB;generalize c8:a.eval x=vx at h1;cases h1 with
    |ptr h1=>
     rename_i iJ;rw[u] at h1;cases h1;have:=OS hT ht (k:=k) (o:=o) (us:=vs.drop o) (λ j v hj=>by
      rw[List.getElem?_drop] at hj;rw[cell_of_row e.w k (o+j) vs.toArray el (0,0) J]
      simpa using hj) (h4.drop o) (n4 h).2
     obtain⟨v,hr,hv⟩:=this;exact⟨v,by simp[execOp,c8,hr],hv⟩
   ·cases h
  ·rename_i i ps ht hx;have h1:=kP x (by simp[Op.operands]) _ hx;generalize c8:a.eval x=vx at h1;cases h1 with
   |el h1=>obtain⟨us,u,J,_⟩:=SA h1;rw[V7] at h;obtain⟨v,hr,hv⟩:=OS hT ht u J h;exact⟨v,by simp[execOp,c8,hr],hv⟩
  ·cases h
 case binOp op t x y akW=>
  split at h
  ·rename_i i aH v ht hx hy;have c8:=dg (kP x (by simp[Op.operands]) _ hx);have aec:=dg (kP y (by simp[Op.operands]) _ hy);have key:∀r,Cj op aH v=some r->(∀b:Bool,aH=.bool b->P.underlying t=some .bool)->(execOp a.eval {dst:=dst,op:=.binOp op t x y akW,type:=type,pos:=pos,after:=after,guard:=guard}).run P e.w=.ok (.value r) e.w:=by
    intro r hr hb;have:=aaS hT hr hb x y e.w;simp only[execOp,c8,aec];rw[Sem.run_bind,this]
    rfl
   split at h
   ·rename_i r b hi hr;cases h;refine⟨r,key r hr λ aP _=>?_,.p (.raw r)⟩;obtain⟨d,K,hk⟩:=hT.desc t _ ht;rw[hi] at hk;cases d<;>simp only[km,reduceCtorEq] at hk
    exact K
   ·rename_i r k n hr;cases h;exact⟨r,key r hr (λ aP hb=>by cases hb),.p (.raw r)⟩
   ·cases h
  ·cases h
 case unOp op t x=>
  split at h
  ·rename_i b hx;have h1:=kP x (by simp[Op.operands]) _ hx;have c8:=dg h1;cases h;exact⟨_,by simp[execOp,c8,Op.unary],.p (.raw _)⟩
  ·rename_i n hx;have h1:=kP x (by simp[Op.operands]) _ hx;have c8:=dg h1;cases h;exact⟨_,by simp only[execOp,c8,Op.unary,Op.intArith];rfl,.p (.raw _)⟩
  ·cases h
 case convert s t x=>
  split at h
  ·rename_i ks z1 z2 z3 kt z4 z5 z6 k0 n pQ ht hx;have h1:=kP x (by simp[Op.operands]) _ hx;have c8:=dg h1;cases h;obtain⟨d1,oh,eN⟩:=hT.desc s _ pQ;obtain⟨d2,tV,fR⟩:=hT.desc t _ ht;cases d1<;>simp only[km,reduceCtorEq] at eN
   cases d2<;>simp only[km,reduceCtorEq,TK.int.injEq] at fR
   subst fR;exact⟨_,by simp[execOp,c8,convert,run_underlying oh,run_underlying tV,Conv.intToInt],.p (.raw _)⟩
  ·cases h
 case extract x i=>
  split at h
  ·rename_i ds hx;have h1:=kP x (by simp[Op.operands]) _ hx;generalize c8:a.eval x=vx at h1;cases h1 with
   |ca Z hh=>
    rename_i vs;obtain⟨v,J,h4⟩:=DReps.get ⟨Z,hh⟩ h;have h5:vs.toArray[i]?=some v:=by simpa using J
    exact⟨v,by simp[execOp,c8,Instr.extract,J],h4⟩
  ·cases h
 case fieldAddr t x f=>
  split at h
  ·rename_i fs z1 z2 z3 b o ht hx;have h1:=kP x (by simp[Op.operands]) _ hx;generalize c8:a.eval x=vx at h1;split at h
   ·rename_i ft aN sz hf;cases h;cases h1 with
    |ptr h1=>exact⟨_,by simp[execOp,c8,Ms hT ht hf],.ptr h1⟩
   ·cases h
  ·rename_i fs z1 z2 z3 ps ht hx;have h1:=kP x (by simp[Op.operands]) _ hx;generalize c8:a.eval x=vx at h1;split at h
   ·rename_i ft aN sz hf;obtain⟨_,h⟩:=n4 h;cases h;cases h1 with
    |el h1=>rename_i b0 ahV;refine⟨.pointer (some ⟨b0,ahV+aN,none⟩),by simp[execOp,c8,Ms hT ht hf],.el ?_⟩;obtain⟨g,hg⟩:=h1;refine⟨λ j=>g (aN+j),λ j y hy=>?_⟩;rw[List.getElem?_drop] at hy;obtain⟨h5,h6,h7,h8⟩:=hg _ y hy;rw[Nat.add_assoc];exact⟨h5,h6,h7,h8⟩
   ·cases h
  ·cases h
 case field t x f=>
  split at h
  ·rename_i fs z1 z2 z3 ds ht hx;have h1:=kP x (by simp[Op.operands]) _ hx;generalize c8:a.eval x=vx at h1;split at h
   ·rename_i ft hf;split at h
    ·rename_i j hj;cases h1 with
     |agg Z hh=>
      rename_i vs;obtain⟨d0,K,hk⟩:=hT.desc t _ ht;cases d0<;>simp only[km,TK.struct.injEq,reduceCtorEq] at hk
      rename_i tH;subst hk;rw[List.getElem?_map] at hf;rcases hq:tH.toList[f]? with _|q
      ·rw[hq] at hf;cases hf
      ·rw[hq] at hf;simp only[Option.map_some,Option.some.injEq] at hf;subst hf;have eO:tH[f]?=some q:=by simpa using hq
       have hsz:=run_sizeOf hT hj e.w;have NA:P.cellsOf q.type=j.sz:=by obtain⟨i0,AW,pQ,_⟩:=hT.info _ _ hj;simp only at AW;simp[Program.cellsOf,AW,pQ]
       unfold W0 at h;simp only[NA] at h;cases rC:j.k.agg
       ·rw[rC] at h;simp only[cond_false] at h;obtain⟨v,J,h4⟩:=DReps.get ⟨Z,hh⟩ h;refine⟨v,?_,h4⟩;simp only at hj;simp[execOp,c8,Instr.field,run_underlying K,eO,asAgg,part,Kq hT hj,rC,J]
       ·rw[rC] at h;simp only[cond_true] at h;obtain⟨_,h⟩:=n4 h;obtain⟨_,h⟩:=td h;cases h
        ·have hr:=(DReps.drop ⟨Z,hh⟩ q.offset).take j.sz;refine⟨.agg ((vs.drop q.offset).take j.sz).toArray,?_,.agg hr.1 hr.2⟩;simp only at hj;simp[execOp,c8,Instr.field,run_underlying K,eO,asAgg,part,Kq hT hj,rC,run_sizeOf hT hj,List.extract_eq_take_drop]
    ·cases h
   ·cases h
  ·cases h
 case call c=>
  split at h
  ·rename_i x t bv;have bv:=ags bv;subst bv;have qE:x∈(Op.call {callee:=.builtin .len,args:=#[x],argTypes:=#[t]}).operands:=by simp[Op.operands,Call.operands]
   have key:∀(A:Option Addr)(n c:Nat)(el:TypeId),P.underlying t=some (.slice el)->a.eval x=.slice A n c->(execOp a.eval {dst:=dst,op:=.call {callee:=.builtin .len,args:=#[x],argTypes:=#[t]},type:=type,pos:=pos,after:=after,guard:=guard}).run P e.w=.ok (.value (.int .i64 n)) e.w:=by intro A n c el K hv;simp[execOp,resolve,invoke,builtin,Builtin.len_,hv,run_underlying K,goInt]
   split at h
   ·rename_i el z1 z2 z3 ex n ps ht hx;have h1:=kP x qE _ hx;obtain⟨d0,K,hk⟩:=hT.desc t _ ht;cases d0<;>simp only[km,reduceCtorEq,TK.slice.injEq] at hk
    generalize c8:a.eval x=vx at h1;cases h1 with
    |p h1=>cases h1 with
     |sl=>cases h;exact⟨_,key _ _ _ _ K c8,.p (.raw _)⟩
   ·rename_i el z1 z2 z3 g n ps ht hx;have h1:=kP x qE _ hx;obtain⟨d0,K,hk⟩:=hT.desc t _ ht;cases d0<;>simp only[km,reduceCtorEq,TK.slice.injEq] at hk
    generalize c8:a.eval x=vx at h1;cases h1 with
    |bP h1 _=>cases h1 with
     |sl=>cases h;exact⟨_,key _ _ _ _ K c8,.p (.raw _)⟩
   ·rename_i el z1 z2 z3 b o n c ht hx;have h1:=kP x qE _ hx;obtain⟨d0,K,hk⟩:=hT.desc t _ ht;cases d0<;>simp only[km,reduceCtorEq,TK.slice.injEq] at hk
    generalize c8:a.eval x=vx at h1;cases h1 with
    |arr h1=>cases h;exact⟨_,key _ _ _ _ K c8,.p (.raw _)⟩
   ·cases h
  ·cases h
 case makeFunc f first dX=>obtain⟨fs,r1,h⟩:=tG first.toList _ d (λ x hx=>kP x (by simp[Op.operands] at*;exact .inl hx)) h;obtain⟨cs,r2,h⟩:=tG dX.toList _ d (λ x hx=>kP x (by simp[Op.operands] at*;exact .inr hx)) h;cases h;refine⟨.func f (first.toList.map a.eval).toArray (dX.toList.map a.eval).toArray,?_,.fn r1.1 r2.1 r1.2 r2.2⟩;simp[execOp,Instr.makeFunc];exact⟨by apply Array.ext';simp,by apply Array.ext';simp⟩
 case nilCheck x=>
  split at h
  ·rename_i b o hx;have h1:=kP x (by simp[Op.operands]) _ hx;generalize c8:a.eval x=vx at h1;cases h;cases h1 with
   |ptr h1=>exact⟨_,by simp only[execOp,c8];rfl,.ptr h1⟩
  ·rename_i ps hx;have h1:=kP x (by simp[Op.operands]) _ hx;generalize c8:a.eval x=vx at h1;cases h;cases h1 with
   |el h1=>exact⟨_,by simp only[execOp,c8];rfl,.el h1⟩
  ·cases h
end
end Go.Proofs.YtkkldicehapklaaGreat
end
section
namespace Go.Proofs.YtkkldicehapklaaGreat
open Go.RowKit
def hl(w:World)(cl:Nat->Option Nat):aE:=⟨w,cl,λ _=>none,λ _=>none,λ _=>none⟩
def bH(P:Program)(f:FuncId)(ds:List I)(d:I):Prop:=
 ∀(w:World)(cl:Nat->Option Nat)(vs:List Value),DReps (hl w cl) vs ds->
  Calls P f vs.toArray w (λ r aA=>∃v bI,r=.returned v/\Below w.heap.size w aA/\(∀k,k<w.heap.size->bI k=cl k)/\bC (hl aA bI) v d)
def Gs:Pl->Pl
 |.sl _ n ps=>.sl false n ps
 |x=>x
def I.low:I->Option I
 |.p x=>some (.p (Gs x))
 |.agg ds=>(jY ds).map .agg
 |.ca ds=>(jY ds).map .ca
 |.el ps=>some (.el ps)
 |.bP _ n ps=>some (.p (.sl false n ps))
 |.any=>some .any
 |.fn f first dX=>match jY first,jY dX with
  |some a,some b=>some (.fn f a b)
  |_,_=>none
 |_=>none
where jY:List I->Option (List I)
 |[]=>some []
 |d::ds=>match d.low,jY ds with
  |some a,some b=>some (a::b)
  |_,_=>none
def I.uv{az:Type}:I->(I->Option az)->Option az
 |.p (.raw v),k=>k (.p (.raw v))
 |.p (.sl _ n ps),k=>k (.p (.sl false n ps))
 |.agg ds,k=>BD ds λ r=>k (.agg r)
 |.ca ds,k=>BD ds λ r=>k (.ca r)
 |.el ps,k=>k (.el ps)
 |.bP _ n ps,k=>k (.p (.sl false n ps))
 |.any,k=>k .any
 |.fn f first dX,k=>BD first λ a=>BD dX λ b=>k (.fn f a b)
 |_,_=>none
where BD {az:Type}:List I->(List I->Option az)->Option az
 |[],k=>k []
 |d::ds,k=>d.uv λ a=>BD ds λ b=>k (a::b)
mutual
theorem Jx{az:Type}:∀(d:I)(k:I->Option az),d.uv k=d.low.bind k
 |.p (.raw v),k=>rfl
 |.p (.sl _ n ps),k=>rfl
 |.agg ds,k=>by
  rw[I.uv,Gu ds];simp only[I.low];cases I.low.jY ds<;>rfl
 |.ca ds,k=>by
  rw[I.uv,Gu ds];simp only[I.low];cases I.low.jY ds<;>rfl
 |.el ps,k=>rfl
 |.bP _ n ps,k=>rfl
 |.any,k=>rfl
 |.fn f first dX,k=>by
  rw[I.uv,Gu first];simp only[I.low];cases I.low.jY first with
  |none=>rfl
  |some a=>simp only[Option.bind_some];rw[Gu dX];cases I.low.jY dX<;>rfl
 |.ptr _ _,k=>rfl
 |.arr _ _ _ _,k=>rfl
theorem Gu{az:Type}:∀(ds:List I)(k:List I->Option az),I.uv.BD ds k=(I.low.jY ds).bind k
 |[],k=>rfl
 |d::ds,k=>by
  rw[I.uv.BD,Jx d];simp only[I.low.jY];cases d.low with
  |none=>rfl
  |some a=>simp only[Option.bind_some];rw[Gu ds];cases I.low.jY ds<;>rfl
end
theorem c5.env{e ae:aE}(hw:ae.w=e.w)(F:ae.cl=e.cl){v:Value}{x:Pl}(h:c5 e v x):c5 ae v x:=by
 induction h with
 |raw v=>exact .raw v
 |sl f h1 u J h4 h5 h6 ih=>refine .sl f h1 u J h4 (λ i x hx=>?_) ih;obtain⟨b,o,h7,h8,h9,EQ⟩:=h5 i x hx;exact⟨b,o,h7,λ k hk=>h8 k (by rw[<-F];exact hk),by rw[hw];exact h9,EQ⟩
theorem c5.low{e:aE}{v:Value}{x:Pl}(h:c5 e v x):c5 e v (Gs x):=by
 cases h with
 |raw=>exact .raw v
 |sl f h1 u J h4 h5 h6=>exact .sl f h1 u J (λ h=>by cases h) h5 h6
theorem Dk:∀{ds iR:List I}(_:I.low.jY ds=some iR){i:Nat}{eo:I},iR[i]?=some eo->∃d,ds[i]?=some d/\d.low=some eo
 |[],iR,h,i,eo,hi=>by simp only[I.low.jY,Option.some.injEq] at h;subst h;simp at hi
 |d::ds,iR,h,i,eo,hi=>by
  simp only[I.low.jY] at h;split at h
  ·rename_i a b ha hb;cases h;cases i with
   |zero=>simp only[List.getElem?_cons_zero,Option.some.injEq] at hi;subst hi;exact⟨d,rfl,ha⟩
   |succ i=>exact Dk hb (by simpa using hi)
  ·cases h
theorem Dl:∀{ds iR:List I}(_:I.low.jY ds=some iR),iR.length=ds.length
 |[],iR,h=>by simp only[I.low.jY,Option.some.injEq] at h;subst h;rfl
 |d::ds,iR,h=>by
  simp only[I.low.jY] at h;split at h
  ·rename_i a b ha hb;cases h;simp[Dl hb]
  ·cases h
theorem Jy{e:aE}{v:Value}{d:I}(h:bC e v d):∀eo,d.low=some eo->bC (hl e.w e.cl) v eo:=by
 induction h with
 |p h=>intro eo K;simp only[I.low,Option.some.injEq] at K;subst K;exact .p (c5.env (e:=e) (ae:=hl e.w e.cl) rfl rfl h.low)
 |agg Z h ih=>intro eo K;simp only[I.low,Option.map_eq_some_iff] at K;obtain⟨iR,h1,rfl⟩:=K;exact .agg (by rw[Z,Dl h1]) (λ i v d hv K=>by obtain⟨d0,u,J⟩:=Dk h1 K;exact ih i v d0 hv u d J)
 |ca Z h ih=>intro eo K;simp only[I.low,Option.map_eq_some_iff] at K;obtain⟨iR,h1,rfl⟩:=K;exact .ca (by rw[Z,Dl h1]) (λ i v d hv K=>by obtain⟨d0,u,J⟩:=Dk h1 K;exact ih i v d0 hv u d J)
 |ptr h=>intro eo K;simp[I.low] at K
 |el h=>intro eo K;simp only[I.low,Option.some.injEq] at K;subst K;obtain⟨f,hf⟩:=h;exact .el ⟨f,λ i x hx=>by obtain⟨h1,u,J,h4⟩:=hf i x hx;exact⟨h1,u,J,c5.env (e:=e) (ae:=hl e.w e.cl) rfl rfl h4⟩⟩
 |bP h ht=>intro eo K;simp only[I.low,Option.some.injEq] at K;subst K;exact .p (c5.env (e:=e) (ae:=hl e.w e.cl) rfl rfl h)
 |arr h=>intro eo K;simp[I.low] at K
 |fn Z eV h u ih Ga=>
  intro eo K;simp only[I.low] at K;split at K
  ·rename_i a b ha hb;cases K;exact .fn (by rw[Z,Dl ha]) (by rw[eV,Dl hb]) (λ i v d hv K=>by obtain⟨d0,J,h4⟩:=Dk ha K;exact ih i v d0 hv J d h4) (λ i v d hv K=>by obtain⟨d0,J,h4⟩:=Dk hb K;exact Ga i v d0 hv J d h4)
  ·cases K
 |any=>intro eo K;simp only[I.low,Option.some.injEq] at K;subst K;exact .any
theorem Jz{e:aE}{vs:List Value}{ds iR:List I}(h:DReps e vs ds)(Z:I.low.jY ds=some iR):DReps (hl e.w e.cl) vs iR:=
 ⟨by rw[h.1,Dl Z],λ i v d hv K=>by obtain⟨d0,h1,u⟩:=Dk Z K;exact Jy (h.2 i v d0 hv h1) d u⟩
theorem acf(e:aE)(w:World)(cl:Nat->Option Nat):Ends (hl w cl) {e with w:=w,cl:=cl}:=
 ⟨λ _ _ _ h1 u=>⟨h1,u⟩,λ _ _ h=>(by cases h),λ _ _ h=>(by cases h),λ _ _ _ _ h=>(by cases h)⟩
section
variable{P:Program}{aq:Nat->Option TI}{S:Nat->Option I}{B:Nat->Option (List I)}
theorem Xf{P:Program}{f:FuncId}{ds d:_}(F:bH P f ds d){e:aE}{vs:List Value}(hv:DReps (hl e.w e.cl) vs ds){o:Oper}{a:Act}:
 Calls P f vs.toArray e.w λ
  |.returned v,nU=>∃gU ae,a.put o.dst v=a.put o.dst gU/\ae.w=nU/\pC e ae gU d none
  |.panicked _,_=>False
  |.outgrown,_=>LetsOut (λ _ _ _=>False):=by
 refine(F e.w e.cl vs hv).mono λ r aA hh=>?_
 obtain⟨v,bI,rfl,hb,dw,hr⟩:=hh;exact⟨v,{e with w:=aA,cl:=bI},rfl,rfl,⟨hb,dw,rfl,rfl,rfl⟩,hr.next (acf e aA bI)⟩
theorem RM{o:Oper}{f:FuncId}{xs:List Operand}{fa:Array TypeId}{ds:List I}{d:I}(F:bH P f ds d)(ho:o.op=.call {callee:=.value (.func f),args:=xs.toArray,argTypes:=fa})(hf:jM P f)(he:i3 S xs I.low.jY=some ds):dM P o S B d none:=by
 intro a e T _;obtain⟨jv,hr,Z⟩:=tG xs _ ds (λ x hx=>T.1 x (by rw[ho];simp[Op.operands,Call.operands,hx])) he;unfold Oper.wp;have e1:(execOp a.eval o).run P e.w=.ok (.enter f (xs.map a.eval).toArray) e.w:=by obtain⟨dst,op,type,pos,after,guard⟩:=o;simp only at ho;subst ho;rw[execOp_call_go,hf];simp
 rw[e1];exact Xf F (Jz hr Z)
theorem RN{o:Oper}{f:FuncId}{g:Operand}{xs:List Operand}{fa:Array TypeId}{ds first dX:List I}{d:I}(F:bH P f ds d)(ho:o.op=.call {callee:=.value g,args:=xs.toArray,argTypes:=fa})(hf:jM P f)(hg:ev S g=some (.fn (.func f) first dX))(he:i3 S xs (λ jv=>I.low.jY (first++jv++dX))=some ds):dM P o S B d none:=by
 intro a e T _;obtain⟨jv,hr,Z⟩:=tG xs _ ds (λ x hx=>T.1 x (by rw[ho];simp[Op.operands,Call.operands,hx])) he;have yl:=T.1 g (by rw[ho];simp[Op.operands,Call.operands]) _ hg;generalize c8:a.eval g=gv at yl;cases yl with
 |fn fS eV h1 u=>
  rename_i us vs;have dH:DReps e (us++xs.map a.eval++vs) (first++jv++dX):=(DReps.append ⟨fS,h1⟩ hr).append ⟨eV,u⟩;unfold Oper.wp;have e1:(execOp a.eval o).run P e.w=.ok (.enter f (us++xs.map a.eval++vs).toArray) e.w:=by obtain⟨dst,op,type,pos,after,guard⟩:=o;simp only at ho;subst ho;simp only[execOp,resolve,c8,Deferred.ofValue,Sem.run_bind,Sem.run_pure,Result.andThen_ok,invoke];rw[hf];simp
  rw[e1];exact Xf F (Jz dH Z)
def aE.alloc(e:aE)(o:Obj)(c:Option Nat):aE:={e with w:=e.w.alloc o,cl:=λ k=>if k=e.w.heap.size then c else e.cl k}
theorem aE.v8(e:aE)(o:Obj)(c:Option Nat):j7 e (e.alloc o c):=
 ⟨(Below.refl _ _).alloc (Nat.le_refl _) _,λ k hk=>by show(if k=e.w.heap.size then c else e.cl k)=_;rw[if_neg (by omega)],rfl,rfl,rfl⟩
theorem Xp{e:aE}{us:List Value}{ds:List I}{t:TypeId}{b:Nat}(hr:DReps e us ds)(hb:e.bx b=none):
 pC e ((e.alloc (.cells us.toArray t) (some 0)).jr b e.w.heap.size) (.pointer (some ⟨e.w.heap.size,0,none⟩)) (.ptr b 0) (some (b,ds)):=by
 have hg:=aE.v8 e (.cells us.toArray t) (some 0);have fO:(e.alloc (.cells us.toArray t) (some 0)).bx b=none:=by rw[hg.bx];exact hb
 refine⟨_,e.w.heap.size,hg,Nat.le_refl _,by simp[aE.alloc],by simp[aE.alloc],rfl,⟨e.w.heap.size,us,t,?_,?_,?_⟩,.ptr ?_⟩
 ·simp[aE.jr]
 ·exact heap_alloc_new e.w _
 ·exact(hr.next hg.ends).next (vZ fO)
 ·simp[aE.jr]
def lj:I->Bool
 |.agg _=>true
 |d=>d.leaf
theorem xp{e:aE}{v:Value}{d:I}(h:bC e v d)(hk:lj d=true):DReps e v.cells.toList d.cells:=by refine aba h ?_;cases d<;>first|exact .inl hk|exact .inr ⟨_,rfl⟩
def nj{az:Type}(d:I)(k:List I->Option az):Option az:=match d with
 |.agg ds=>k ds
 |d=>k [d]
theorem xS{az:Type}(d:I)(k:List I->Option az):nj d k=k d.cells:=by cases d<;>rfl
theorem HM{o:Oper}{t:TypeId}{x:Operand}(b:Nat){dx:I}{cs:List I}(ho:o.op=.box t x)(hx:ev S x=some dx)(hk:lj dx=true)(bV:nj dx some=some cs):dM P o S B (.ptr b 0) (some (b,cs)):=by
 rw[xS] at bV;cases bV;intro a e T c6;have h1:=T.1 x (by rw[ho];simp[Op.operands]) _ hx;have hr:=xp h1 hk;unfold Oper.wp;have e1:(execOp a.eval o).run P e.w=.ok (.value (.pointer (some ⟨e.w.heap.size,0,none⟩))) (e.w.alloc (.cells (a.eval x).cells t)):=by obtain⟨dst,op,type,pos,after,guard⟩:=o;simp only at ho;subst ho;simp[execOp,Instr.box,newVar,newRow]
 rw[e1];refine⟨_,(e.alloc (.cells (a.eval x).cells.toList.toArray t) (some 0)).jr b e.w.heap.size,rfl,by simp[aE.jr,aE.alloc],Xp hr (c6 _ rfl)⟩
theorem xM(hT:dh P aq){o:Oper}{t:TypeId}(b:Nat){i:TI}{cs:List I}(ho:o.op=.alloc t)(ht:aq t=some i)(hk:lj (mh i.zero)=true)(bV:sw i.zero (λ d=>nj d some)=some cs):dM P o S B (.ptr b 0) (some (b,cs)):=by
 rw[zZ,xS] at bV;cases bV;intro a e T c6;have hr:=xp (zY e i.zero) hk;unfold Oper.wp;have e1:(execOp a.eval o).run P e.w=.ok (.value (.pointer (some ⟨e.w.heap.size,0,none⟩))) (e.w.alloc (.cells i.zero.cells t)):=by obtain⟨dst,op,type,pos,after,guard⟩:=o;simp only at ho;subst ho;simp[execOp,Instr.alloc,DM hT ht,newVar,newRow]
 rw[e1];refine⟨_,(e.alloc (.cells i.zero.cells.toList.toArray t) (some 0)).jr b e.w.heap.size,rfl,by simp[aE.jr,aE.alloc],Xp hr (c6 _ rfl)⟩
theorem qa{e:aE}{v:Value}{ex:Bool}{n:Nat}{ps:List Pl}(h:c5 e v (.sl ex n ps)):∃A bG,v=.slice A n bG/\n<=bG/\bG<=maxLen/\(A=none->bG=0)/\(ex=true->bG=n)/\(ps=[]\/∃b o,A=some ⟨b,o,none⟩/\tf e b o ps):=by
 cases h with
 |sl f h1 u J h4 h5 h6=>
  refine⟨_,_,rfl,h1,u,J,h4,?_⟩;rcases ps with _|⟨x,ps⟩
  ·exact .inl rfl
  ·obtain⟨b,o,hA,_⟩:=h5 0 x rfl;refine .inr ⟨b,o,hA,f,λ i y hy=>?_⟩;obtain⟨aP,o',pJ,h7,h8,h9⟩:=h5 i y hy;rw[hA] at pJ;cases pJ;exact⟨h7,h8,h9,h6 i y hy⟩
theorem DT{e:aE}{A:Option Addr}{ex:Bool}{n bG:Nat}{ps:List Pl}(h1:n<=bG)(u:bG<=maxLen)(J:A=none->bG=0)(h4:ex=true->bG=n)(h5:ps=[]\/∃b o,A=some ⟨b,o,none⟩/\tf e b o ps):c5 e (.slice A n bG) (.sl ex n ps):=by
 rcases h5 with rfl|⟨b,o,hA,f,hf⟩
 ·exact .sl (λ _=>undef) h1 u J h4 (λ i x h=>by simp at h) (λ i x h=>by simp at h)
 ·exact .sl f h1 u J h4 (λ i x hx=>by obtain⟨h6,h7,h8,_⟩:=hf i x hx;exact⟨b,o,hA,h6,h7,h8⟩) (λ i x hx=>(hf i x hx).2.2.2)
theorem tf.part{e:aE}{b o:Nat}{ps qs:List Pl}(h:tf e b o ps)(m:Nat)(hq:∀(j:Nat) q,qs[j]?=some q->ps[m+j]?=some q):tf e b (o+m) qs:=by obtain⟨f,hf⟩:=h;refine⟨λ j=>f (m+j),λ j q hj=>?_⟩;obtain⟨h1,u,J,h4⟩:=hf _ q (hq j q hj);rw[Nat.add_assoc];exact⟨h1,u,J,h4⟩
def nS:I->Option (Nat×List Pl)
 |.p (.sl _ n ps)=>some (n,ps)
 |.bP _ n ps=>some (n,ps)
 |_=>none
theorem yV{e:aE}{v:Value}{d:I}{n:Nat}{ps:List Pl}(h:bC e v d)(K:nS d=some (n,ps)):c5 e v (.sl false n ps):=by
 cases h with
 |p h=>cases h with
  |raw=>cases K
  |sl f h1 u J h4 h5 h6=>cases K;exact .sl f h1 u J (λ h=>by cases h) h5 h6
 |bP h _=>cases K;exact h
 |_=>cases K
theorem Vm(hT:dh P aq){o:Oper}{t el:TypeId}{x y:Operand}{dx:I}{n:Nat}{ps:List Pl}{k:IntKind}{i:Int}{z1 z2:Nat}{z3:Value}{j:TI}(qs:List Pl)(ho:o.op=.indexAddr t x y)(ht:aq t=some ⟨.slice el,z1,z2,z3⟩)(he:aq el=some j)
 (hx:ev S x=some dx)(K:nS dx=some (n,ps))(hy:ev S y=some (.p (.raw (.int k i))))(h0:0<=i)(aY:i<n)(uk:qs≠[])(hq:∀(m:Nat) q,qs[m]?=some q->ps[i.toNat*j.sz+m]?=some q):dM P o S B (.el qs) none:=by
 refine jZ λ a e T=>?_
 have h1:=yV (T.1 x (by rw[ho];simp[Op.operands]) _ hx) K;have u:=dg (T.1 y (by rw[ho];simp[Op.operands]) _ hy);obtain⟨A,bG,hv,_,_,_,_,hA⟩:=qa h1;rcases hA with rfl|⟨b,of,rfl,dO⟩
 ·rcases qs with _|⟨q,qs⟩
  ·exact absurd rfl uk
  ·have:=hq 0 q rfl;simp at this
 obtain⟨d0,ep,hk⟩:=hT.desc t _ ht;cases d0<;>simp only[km,reduceCtorEq,TK.slice.injEq] at hk
 subst hk;refine⟨.pointer (some ⟨b,of+i.toNat*j.sz,none⟩),?_,.el (dO.part _ hq)⟩;obtain⟨dst,op,type,pos,after,guard⟩:=o;simp only at ho;subst ho;simp[execOp,Instr.indexAt,u,hv,asIntOf,run_underlying ep,h0,aY,run_sizeOf hT he,qZ]
end
end Go.Proofs.YtkkldicehapklaaGreat
end
section
namespace Go.Proofs.YtkkldicehapklaaGreat
open Go.RowKit
section
variable{P:Program}{aq:Nat->Option TI}{Γ:bX}{L bQ:St}
def Cb(P:Program)(Γ:bX)(o:Oper)(L bQ:St):Prop:=
 ∀(a:Act)(e:aE),bE Γ L e a->o.wp P a e.w (λ bF aA=>∃ae,ae.w=aA/\bE Γ bQ ae bF) (λ _ _ _=>False)
theorem y8{P:Program}{o:Oper}{a:Act}{w:World}{aB qY:Act->World->Prop}{Q:Exit->Act->World->Prop}(h:o.wp P a w aB (λ _ _ _=>False))(hk:∀bF aA,aB bF aA->qY bF aA):o.wp P a w qY Q:=
 akI (Oper.wp_mono hk h)
theorem dM.step{o:Oper}{d:I}{nb:Option (Nat×List I)}(h:dM P o (kv L.s) (kv L.b) d nb)(K:xU Γ.n o.dst=true)(c6:∀p,nb=some p->kv L.b p.1=none):Cb P Γ o L ((L.box nb).put o.dst d):=by
 intro a e F;refine y8 (h a e (F.jd _) λ p G=>F.ee _ (c6 p G)) λ bF aA hh=>?_
 obtain⟨v,ae,rfl,hw,hq⟩:=hh;exact⟨ae,hw,F.quiet K c6 hq⟩
def jP(Γ:bX)(Q:Exit->St->Prop):Exit->Act->World->Prop:=λ x a w=>∃L e,e.w=w/\bE Γ L e a/\Q x L
structure bw(P:Program)(Γ:bX)(l0:List Oper)(Q:Exit->St->Prop)(l:List Oper)(L:St):Prop where
 run:∀(a:Act)(e:aE),bE Γ L e a->wpList P l0.toArray (jP Γ Q) l a e.w
variable{l0 l:List Oper}{Q:Exit->St->Prop}{o:Oper}
theorem oR(h:Q .normal L):bw P Γ l0 Q [] L:=⟨λ _ e F=>⟨L,e,rfl,F,h⟩⟩
def gd(l0:List Oper)(o:Oper)(S:Nat->Option I):Option Bool:=match o.guard with
 |none=>some true
 |some (j,want)=>match(l0[j]?).bind (·.dst) with
  |some t=>match S t with
   |some (.p (.raw (.bool b)))=>some (b==want)
   |some (.p (.raw (.tuple _)))=>some false
   |_=>none
  |none=>none
theorem mm{e:aE}{a:Act}(F:bE Γ L e a){c:Bool}(h:gd l0 o (kv L.s)=some c):Region.wanted o (yielded l0.toArray a.tmps)=c:=by
 unfold gd at h;unfold Region.wanted;split at h
 ·rename_i hg;rw[hg];cases h;rfl
 ·rename_i j want hg;rw[hg];split at h
  ·rename_i t ht;split at h
   ·rename_i b hb;cases h;have hv:=dg (F.dj t _ hb);have:yielded l0.toArray a.tmps j=some b:=by
     rw[KQ];have h1:(l0.toArray[j]?).bind (·.dst)=some t:=by simpa using ht
     rw[h1];unfold gH at hv;simp only[Option.bind_some,hv,Cl]
    simp only[this];cases b<;>cases want<;>rfl
   ·rename_i b hb;cases h;have hv:=dg (F.dj t _ hb);have:yielded l0.toArray a.tmps j=none:=by
     rw[KQ];have h1:(l0.toArray[j]?).bind (·.dst)=some t:=by simpa using ht
     rw[h1];unfold gH at hv;simp only[Option.bind_some,hv,Cl]
    simp only[this];cases want<;>rfl
   ·cases h
  ·cases h
theorem xN(hg:gd l0 o (kv L.s)=some true)(T:Cb P Γ o L bQ)(h:bw P Γ l0 Q l bQ):bw P Γ l0 Q (o::l) L:=by refine⟨λ a e F=>?_⟩;unfold wpList;rw[if_pos (mm F hg)];refine .inl (y8 (T a e F) λ bF aA hh=>?_);obtain⟨ae,rfl,d4⟩:=hh;exact h.run bF ae d4
theorem aad(hg:gd l0 o (kv L.s)=some false)(K:xU Γ.n o.dst=true)(h:bw P Γ l0 Q l (L.put o.dst (.p (.raw undef)))):bw P Γ l0 Q (o::l) L:=by refine⟨λ a e F=>?_⟩;unfold wpList;rw[if_neg (by rw[mm F hg];simp)];exact h.run _ e (F.put K (.p (.raw undef)))
theorem Rn{d:I}{nb:Option (Nat×List I)}(hq:dM P o (kv L.s) (kv L.b) d nb)(hg:gd l0 o (kv L.s)=some true)(K:xU Γ.n o.dst=true)(c6:∀p,nb=some p->kv L.b p.1=none)(h:bw P Γ l0 Q l ((L.box nb).put o.dst d)):bw P Γ l0 Q (o::l) L:=
 xN hg (hq.step K c6) h
structure ak9(L bu:St):Prop where
 s:∀t d,kv bu.s t=some d->kv L.s t=some d
 b:bu.b=L.b
 g:bu.g=L.g
def St.Ku(L:St)(b:Nat)(cs:List I):St:=⟨L.s,(b,cs)::L.b,L.g⟩
theorem HL{w:World}{k:Nat}{vs us:List Value}{el:TypeId}(h:w.heap[k]?=some (.cells vs.toArray el (0,0))):(w.setRow k us.toArray).heap[k]?=some (.cells us.toArray el (0,0)):=setRow_heap w k _ _ el _ h
theorem bE.setRow{e:aE}{a:Act}(F:bE Γ L e a){b k:Nat}{vs us:List Value}{el:TypeId}{cs:List I}(hb:e.bx b=some k)(hk:e.w.heap[k]?=some (.cells vs.toArray el (0,0)))(hr:DReps e us cs):
 bE Γ (L.Ku b cs) {e with w:=e.w.setRow k us.toArray} a:=by
 obtain⟨h1,u,J,h4⟩:=F.env.bx b k hb;have iq:∀j,j≠k->(e.w.setRow k us.toArray).heap[j]?=e.w.heap[j]?:=λ j hj=>setRow_other e.w k j _ hj
 have Y:Ends e {e with w:=e.w.setRow k us.toArray}:=by
  refine⟨λ aP o v dw hv=>?_,λ _ _ h=>h,λ _ aa h=>⟨aa,h,rfl,rfl,Nat.le_refl _⟩,λ j g aa cur h5 h6 h7=>⟨h5,cur,?_,rfl⟩⟩
  ·have aW:aP≠k:=λ ae=>by subst ae;exact absurd (dw 0 J) (by omega)
   exact⟨dw,by show(e.w.setRow k us.toArray).cell? _=_;rw[World.cell?_of_block (w:=e.w) (iq aP aW)];exact hv⟩
  ·show(e.w.setRow k us.toArray).heap[j]?=_;rw[iq j (λ ae=>by subst ae;rw[h4] at h5;cases h5)];exact h7
 refine⟨F.size,F.df,λ t d ht=>(F.dj t d ht).next Y,λ aP ds K=>?_,λ aP fO=>?_,F.gs,?_⟩
 ·simp only[St.Ku,dc] at K;split at K
  ·rename_i oZ;subst oZ;cases K;exact⟨k,us,el,hb,HL hk,hr.next Y⟩
  ·rename_i oZ;obtain⟨iJ,fu,EH,h5,h6,h7⟩:=F.boxes aP ds K;refine⟨iJ,fu,EH,h5,?_,h7.next Y⟩;show(e.w.setRow k us.toArray).heap[iJ]?=_;rw[iq iJ (λ ae=>oZ (by subst ae;exact F.env.inj _ _ _ hb h5))];exact h6
 ·simp only[St.Ku,dc] at fO;split at fO
  ·cases fO
  ·exact F.ee aP fO
 ·refine⟨⟨F.env.kept.os,F.env.kept.tape,F.env.kept.output,by show _<=(e.w.setRow k us.toArray).heap.size;rw[setRow_size];exact F.env.kept.size,λ j hj ho=>?_⟩,F.env.cl,λ aP j hj=>?_,F.env.inj,λ j g hg=>?_,F.env.kb⟩
  ·show(e.w.setRow k us.toArray).heap[j]?=_;rw[iq j (λ ae=>by subst ae;rcases u with u|u<;>first|omega|exact ho u)];exact F.env.kept.block j hj ho
  ·obtain⟨h5,h6,h7,h8⟩:=F.env.bx aP j hj;exact⟨by show j<(e.w.setRow k us.toArray).heap.size;rw[setRow_size];exact h5,h6,h7,h8⟩
  ·obtain⟨aa,cur,h5,h6,h7,h8,h9⟩:=F.env.gr j g hg;refine⟨aa,cur,h5,by show j<(e.w.setRow k us.toArray).heap.size;rw[setRow_size];exact h6,h7,h8,?_⟩;show(e.w.setRow k us.toArray).heap[j]?=_;rw[iq j (λ ae=>by subst ae;rw[h4] at hg;cases hg)];exact h9
def stored(cs:List I)(o:Nat)(ds:List I):List I:=cs.take o++ds++cs.drop (o+ds.length)
def vB:I->Bool
 |.agg ds=>ds.all I.leaf
 |d=>d.leaf
theorem VI{e:aE}{v:Value}{d:I}(h:bC e v d)(Z:vB d=true):∀aH∈v.cells.toList,lF aH=true:=by
 have hk:lj d=true:=by cases d<;>first|exact Z|rfl
 have hr:=xp h hk;have dH:∀c∈d.cells,c.leaf=true:=by
  cases d with
  |agg ds=>exact λ c F=>List.all_eq_true.1 Z c F
  |_=>intro c F;simp only[I.cells,List.mem_singleton] at F;subst F;exact Z
 intro aH hu;obtain⟨i,hi,rfl⟩:=List.mem_iff_getElem.1 hu;have qC:i<d.cells.length:=by rw[<-hr.1];exact hi
 exact OG (hr.2 i _ _ (List.getElem?_eq_getElem hi) (List.getElem?_eq_getElem qC)) (dH _ (List.getElem_mem qC))
def uI{az:Type}(cs:List I)(o:Nat)(d:I)(k:List I->Option az):Option az:=
 nj d λ ds=>mD o cs λ a=>kW o cs λ b=>kW ds.length b λ c=>ng ds c λ r=>ng a r k
theorem YE{az:Type}{cs:List I}{o:Nat}{d:I}{k:List I->Option az}{r:az}(h:uI cs o d k=some r):o+d.cells.length<=cs.length/\k (stored cs o d.cells)=some r:=by unfold uI at h;rw[xS] at h;obtain⟨h1,h⟩:=td h;obtain⟨u,h⟩:=n4 h;obtain⟨J,h⟩:=n4 h;rw[sr,sr] at h;refine⟨by simp at J;omega,?_⟩;unfold stored;rw[List.append_assoc];rw[List.drop_drop] at h;exact h
theorem QF(hT:dh P aq){t:TypeId}{x y:Operand}{b of:Nat}{cs:List I}{dy:I}{i:TI}(ho:o.op=.store t x y)(K:o.dst=none)(ht:aq t=some i)(hx:ev (kv L.s) x=some (.ptr b of))(hb:kv L.b b=some cs)(hy:ev (kv L.s) y=some dy)
 (Z:vB dy=true)(hsz:dy.cells.length=i.sz)(t7:of+dy.cells.length<=cs.length):Cb P Γ o L (L.Ku b (stored cs of dy.cells)):=by
 intro a e F;have T:=F.jd (L:=L) o.op.operands;have h1:=T.1 x (by rw[ho];simp[Op.operands]) _ hx;have u:=T.1 y (by rw[ho];simp[Op.operands]) _ hy;have hk:lj dy=true:=by cases dy<;>first|exact Z|rfl
 have hr:=xp u hk;obtain⟨k,vs,el,J,h4,h5⟩:=F.boxes b cs hb;generalize c8:a.eval x=vx at h1;cases h1 with
 |ptr h1=>
  rw[J] at h1;cases h1;have cx:(a.eval y).cells.size=i.sz:=by have:=hr.1;simp at this;omega
  have bY:=run_storeCells_at P k of el (a.eval y).cells.toList 0 vs.toArray e.w h4 (by have:=hr.1;have:=h5.1;simp at*;omega) (VI u Z);unfold Oper.wp;have e1:(execOp a.eval o).run P e.w=.ok .skip (e.w.setRow k (vs.take of++(a.eval y).cells.toList++vs.drop (of+(a.eval y).cells.toList.length)).toArray):=by obtain⟨dst,op,type,pos,after,guard⟩:=o;simp only at ho;subst ho;simp only[Nat.add_zero] at bY;simp[execOp,Instr.storeAt,Instr.sureAddr,c8,storeVar,run_sizeOf hT ht,cx,bY]
  rw[e1];refine⟨{e with w:=e.w.setRow k (vs.take of++(a.eval y).cells.toList++vs.drop (of+(a.eval y).cells.toList.length)).toArray},rfl,?_⟩;have:=F.setRow J h4 (us:=vs.take of++(a.eval y).cells.toList++vs.drop (of+(a.eval y).cells.toList.length)) (cs:=stored cs of dy.cells) (by
   unfold stored;rw[hr.1];exact((h5.take of).append hr).append (h5.drop _))
  rw[K];exact this
end
end Go.Proofs.YtkkldicehapklaaGreat
end
section
namespace Go.Proofs.YtkkldicehapklaaGreat
open Go.RowKit
section
variable{P:Program}{aq:Nat->Option TI}{Γ:bX}{L bQ:St}{o:Oper}
def St.G9(L:St)(g:Nat)(aa:Gr):St:=⟨L.s,L.b,(g,aa)::L.g⟩
def aE.more(e:aE)(w:World)(g:Nat)(aa:Gr)(k:Option Nat):aE:=
 {w:=w,cl:=λ j=>if some j=k\/e.gr j=some g then some (aa.len*aa.sz) else e.cl j,bx:=e.bx,gr:=λ j=>if some j=k then some g else e.gr j,gi:=λ h=>if h=g then some aa else e.gi h}
structure qh(e:aE)(w:World)(g:Nat)(aa:Gr)(k:Option Nat):Prop where
 os:w.os=e.w.os
 tape:w.tape=e.w.tape
 output:w.output=e.w.output
 size:e.w.heap.size<=w.heap.size
 dL:∀j,j<e.w.heap.size->e.gr j≠some g->w.heap[j]?=e.w.heap[j]?
 row:∀j cur,e.gr j=some g->e.w.heap[j]?=some (.cells cur aa.el (0,0))->∃fj,w.heap[j]?=some (.cells fj aa.el (0,0))/\fj.size=cur.size/\∀i,e.nY j i->fj[i]?=cur[i]?
 new:∀j,k=some j->e.w.heap.size<=j/\j<w.heap.size/\∃cur,w.heap[j]?=some (.cells cur aa.el (0,0))
theorem qh.ends{e:aE}{w:World}{g:Nat}{aa G0:Gr}{k:Option Nat}(h:qh e w g aa k)(aV:gV Γ e)(hg:e.gi g=some G0)(dO:aa.el=G0.el)(hsz:aa.sz=G0.sz)(cx:G0.len<=aa.len):Ends e (e.more w g aa k):=by
 refine⟨λ b i v F hv=>?_,λ _ _ h=>h,λ bg nc wI=>?_,λ j bg nc cur h1 u J=>?_⟩
 ·have hb:=HS hv;have aW:¬some b=k:=λ ae=>by have:=(h.new b ae.symm).1;omega
  by_cases ia:e.gr b=some g
  ·obtain⟨G1,cur,h1,u,J,h4,h5⟩:=aV.gr b g ia;rw[hg] at h1;cases h1;obtain⟨fj,h6,h7,h8⟩:=h.row b cur ia (by rw[dO];exact h5);have hi:=F _ h4;refine⟨λ n hn=>?_,?_⟩
   ·have lc:(if some b=k\/e.gr b=some g then some (aa.len*aa.sz) else e.cl b)=some n:=hn;rw[if_pos (.inr ia)] at lc;cases lc;have:=Nat.mul_le_mul_right G0.sz cx;rw[hsz];omega
   ·show w.cell? _=_;rw[cell_of_row w b i fj aa.el (0,0) h6,h8 i F];rw[cell_of_row e.w b i cur G0.el (0,0) h5] at hv;exact hv
  ·refine⟨λ n hn=>?_,?_⟩
   ·have lc:(if some b=k\/e.gr b=some g then some (aa.len*aa.sz) else e.cl b)=some n:=hn;rw[if_neg (λ bD=>bD.elim aW ia)] at lc;exact F n lc
   ·show w.cell? _=_;rw[World.cell?_of_block (w:=e.w) (h.dL b hb ia)];exact hv
 ·by_cases e1:bg=g
  ·subst e1;rw[hg] at wI;cases wI;exact⟨aa,by simp[aE.more],dO,hsz,cx⟩
  ·exact⟨nc,by simp[aE.more,e1];exact wI,rfl,rfl,Nat.le_refl _⟩
 ·have hj:=tY J;have aW:¬some j=k:=λ ae=>by have:=(h.new j ae.symm).1;omega
  refine⟨by show(if some j=k then some g else e.gr j)=_;rw[if_neg aW];exact h1,?_⟩
  by_cases ia:bg=g
  ·subst ia;rw[hg] at u;cases u;obtain⟨fj,h6,h7,_⟩:=h.row j cur h1 (by rw[dO];exact J);exact⟨fj,by rw[<-dO];exact h6,h7⟩
  ·exact⟨cur,by show w.heap[j]?=_;rw[h.dL j hj (by rw[h1];simpa using ia)];exact J,rfl⟩
theorem qh.box{e:aE}{w:World}{g:Nat}{aa G0:Gr}{k:Option Nat}(h:qh e w g aa k)(aV:gV Γ e)(hg:e.gi g=some G0)(dO:aa.el=G0.el)(hsz:aa.sz=G0.sz)(cx:G0.len<=aa.len){b:Nat}{cs:List I}(hb:ij e b cs):ij (e.more w g aa k) b cs:=by obtain⟨j,vs,el,h1,u,J⟩:=hb;obtain⟨h4,_,_,h5⟩:=aV.bx b j h1;exact⟨j,vs,el,h1,by show w.heap[j]?=_;rw[h.dL j h4 (by rw[h5];simp)];exact u,J.next (h.ends aV hg dO hsz cx)⟩
theorem qh.ok{e:aE}{w:World}{g:Nat}{aa G0:Gr}{k:Option Nat}(h:qh e w g aa k)(aV:gV Γ e)(eZ:e.gi g=some G0)(dO:aa.el=G0.el):gV Γ (e.more w g aa k):=by
 have rJ:∀j,j<e.w.heap.size->¬some j=k:=λ j hj ae=>by have:=(h.new j ae.symm).1;omega
 refine⟨⟨h.os.trans aV.kept.os,h.tape.trans aV.kept.tape,h.output.trans aV.kept.output,Nat.le_trans aV.kept.size h.size,λ j hj ho=>?_⟩,λ j hj ho=>?_,λ b j hb=>?_,aV.inj,λ j bg wI=>?_,aV.kb⟩
 ·have rE:=Nat.lt_of_lt_of_le hj aV.kept.size;have pO:e.gr j≠some g:=λ wI=>by
   obtain⟨_,_,_,_,J,_⟩:=aV.gr j g wI;rcases J with J|J<;>first|omega|exact ho J
  show w.heap[j]?=_;rw[h.dL j rE pO];exact aV.kept.block j hj ho
 ·have rE:=Nat.lt_of_lt_of_le hj aV.kept.size;have pO:e.gr j≠some g:=λ wI=>by
   obtain⟨_,_,_,_,J,_⟩:=aV.gr j g wI;rcases J with J|J<;>first|omega|exact ho J
  show(if some j=k\/e.gr j=some g then _ else e.cl j)=_;rw[if_neg (λ bD=>bD.elim (rJ j rE) pO)];exact aV.cl j hj ho
 ·obtain⟨h1,u,J,h4⟩:=aV.bx b j hb;refine⟨Nat.lt_of_lt_of_le h1 h.size,u,?_,?_⟩
  ·show(if some j=k\/e.gr j=some g then _ else e.cl j)=_;rw[if_neg (λ bD=>bD.elim (rJ j h1) (by rw[h4];simp))];exact J
  ·show(if some j=k then some g else e.gr j)=_;rw[if_neg (rJ j h1)];exact h4
 ·have iU:(if some j=k then some g else e.gr j)=some bg:=wI
  by_cases kF:some j=k
  ·rw[if_pos kF] at iU;cases iU;obtain⟨h1,u,cur,J⟩:=h.new j kF.symm;refine⟨aa,cur,by simp[aE.more],u,.inl (Nat.le_trans aV.kept.size h1),by simp[aE.more,kF],J⟩
  ·rw[if_neg kF] at iU;obtain⟨G1,cur,h1,u,J,h4,h5⟩:=aV.gr j bg iU
   by_cases e1:bg=g
   ·subst e1;rw[eZ] at h1;cases h1;obtain⟨fj,h6,_,_⟩:=h.row j cur iU (by rw[dO];exact h5);exact⟨aa,fj,by simp[aE.more],Nat.lt_of_lt_of_le u h.size,J,by simp[aE.more,iU],h6⟩
   ·refine⟨G1,cur,by simp[aE.more,e1];exact h1,Nat.lt_of_lt_of_le u h.size,J,?_,?_⟩
    ·show(if some j=k\/e.gr j=some g then _ else e.cl j)=_;rw[if_neg (λ bD=>bD.elim kF (by rw[iU];simpa using e1))];exact h4
    ·show w.heap[j]?=_;rw[h.dL j u (by rw[iU];simpa using e1)];exact h5
theorem bE.more{e:aE}{a:Act}(F:bE Γ L e a){w:World}{g:Nat}{aa G0:Gr}{k:Option Nat}(h:qh e w g aa k)(hg:kv L.g g=some G0)(dO:aa.el=G0.el)(hsz:aa.sz=G0.sz)(cx:G0.len<=aa.len):bE Γ (L.G9 g aa) (e.more w g aa k) a:=by
 have eZ:e.gi g=some G0:=by rw[F.gs];exact hg
 have Y:=h.ends F.env eZ dO hsz cx;refine⟨F.size,F.df,λ t d ht=>(F.dj t d ht).next Y,λ b cs hb=>h.box F.env eZ dO hsz cx (F.boxes b cs hb),F.ee,λ bg=>?_,h.ok F.env eZ dO⟩;show(if bg=g then some aa else e.gi bg)=kv ((g,aa)::L.g) bg;rw[dc]
 by_cases e1:bg=g
 ·subst e1;simp
 ·rw[if_neg e1,if_neg (λ ae=>e1 ae.symm)];exact F.gs bg
theorem Eu{e:aE}{b of:Nat}{ps:List Pl}(h:tf e b of ps):∃us:List Value,us.length=ps.length/\(∀(j:Nat) v,us[j]?=some v->e.w.cell? ((⟨b,of,none⟩:Addr).add j)=some v)/\(∀v∈us,v.oneCell'=true)/\∀(j:Nat) v x,us[j]?=some v->ps[j]?=some x->c5 e v x:=by
 obtain⟨us,h1,u,J⟩:=SA h;refine⟨us,by have:=u.1;simpa using this,λ j v hj=>by rw[qZ];exact h1 j v hj,J,λ j v x hv hx=>?_⟩;have:=u.2 j v (.p x) hv (by rw[List.getElem?_map,hx];rfl);cases this with
 |p h=>exact h
theorem P6{e:aE}{k bG n:Nat}{g:Nat}{aa:Gr}{ps:List Pl}{us:List Value}{cur:Array Value}(hk:e.w.heap[k]?=some (.cells cur aa.el (0,0)))(dw:e.cl k=some (aa.len*aa.sz))(ia:e.gr k=some g)(eZ:e.gi g=some aa)(hn:n=aa.len)(cG:ps.length=n*aa.sz)(Fi:n<=bG)(hm:bG<=maxLen)(bV:cur.size=bG*aa.sz)
 (Z:us.length=ps.length)(tU:∀(j:Nat) v,us[j]?=some v->cur[j]?=some v)(FP:∀v∈us,v.oneCell'=true)(hr:∀(j:Nat) v x,us[j]?=some v->ps[j]?=some x->c5 e v x):bC e (.slice (some ⟨k,0,none⟩) n bG) (.bP g n ps):=by
 refine .bP (DT Fi hm (λ h=>by cases h) (λ h=>by cases h) (.inr ⟨k,0,rfl,λ j=>us.getD j undef,λ j x hx=>?_⟩)) ⟨aa,_,bG,eZ,rfl,by omega,cG,.inr ⟨k,rfl,ia,cur,hk,bV⟩⟩;have hj:j<us.length:=by rw[Z];exact(List.getElem?_eq_some_iff.1 hx).1
 have hu:us[j]?=some us[j]:=List.getElem?_eq_getElem hj;have mP:us.getD j undef=us[j]:=by simp[hj]
 show e.nY k (0+j)/\e.w.cell? ⟨k,0+j,none⟩=some (us.getD j undef)/\lF (us.getD j undef)=true/\c5 e (us.getD j undef) x;rw[mP];refine⟨λ m mu=>?_,?_,FP _ (List.getElem_mem hj),hr j _ x hu hx⟩
 ·rw[dw] at mu;cases mu;rw[<-hn,<-cG];omega
 ·rw[Nat.zero_add,cell_of_row e.w k j cur aa.el (0,0) hk];exact tU j _ hu
def St.app(L:St)(g:Nat)(aa:Gr)(dst:Option Nat)(ps:List Pl):St:=(L.G9 g aa).put dst (.bP g aa.len ps)
theorem Lv(hT:dh P aq){e:aE}(aV:gV Γ e){t ty:TypeId}{g n m el z1 z2:Nat}{z3:Value}{ps qs:List Pl}{i:TI}{vx vy:Value}(ht:aq t=some ⟨.slice el,z1,z2,z3⟩)(dO:aq el=some i)(iH:i.zero.cells.size=i.sz)(pR:0<i.sz)
 (di:bC e vx (.bP g n ps))(eZ:e.gi g=some ⟨el,i.sz,n⟩)(fp:c5 e vy (.sl false m qs))(cq:qs.length=m*i.sz)
 (gI:n+m<=maxLen)(fQ:(n+m)*i.bytes<=140737488355328):∃v aA k,(Builtin.append_ #[t,t] ty #[vx,vy]).run P e.w=.ok v aA/\qh e aA g ⟨el,i.sz,n+m⟩ k/\bC (e.more aA g ⟨el,i.sz,n+m⟩ k) v (.bP g (n+m) (ps++qs)):=by
 obtain⟨d0,ep,hk⟩:=hT.desc t _ ht;cases d0<;>simp only[km,reduceCtorEq,TK.slice.injEq] at hk
 rw[hk] at ep;obtain⟨gO,nC,hsz,ve,hz⟩:=hT.info _ i dO;cases di with
 |bP gM afI=>
 obtain⟨A,bG,rfl,qG,mp,hA0,_,hA⟩:=qa gM;obtain⟨G0,A0,alh,TH,afB,al4,uj,Oj⟩:=afI;cases afB;rw[eZ] at TH;cases TH;simp only at uj;obtain⟨bK,l8,rfl,Ve,Vf,TP,_,hY⟩:=qa fp
 by_cases ud:m=0
 ·subst ud;have uk:qs=[]:=List.eq_nil_of_length_eq_zero (by simpa using cq);subst uk;have aee:(Builtin.firstCells gO.size 0 (.slice bK 0 l8)).run P e.w=.ok #[] e.w:=by
   cases bK<;>simp[Builtin.firstCells,loadCells,loadCellsFrom]
  have cS:(Builtin.append_ #[t,t] ty #[.slice A n bG,.slice bK 0 l8]).run P e.w=.ok (.slice A n bG) e.w:=by cases A<;>simp[Builtin.append_,run_underlying ep,sizeOf,typeInfo,nC,Builtin.lenOf,qG,aee,storeCells]
  have qF:qh e e.w g ⟨el,i.sz,n+0⟩ none:=⟨rfl,rfl,rfl,Nat.le_refl _,λ _ _ _=>rfl,λ j cur _ h=>⟨cur,h,rfl,λ _ _=>rfl⟩,λ j h=>by cases h⟩;refine⟨_,_,none,cS,qF,?_⟩;have:=(bC.bP gM ⟨_,_,_,eZ,rfl,Nat.le_refl _,uj,Oj⟩).next (qF.ends aV eZ rfl rfl (by simp))
  simpa using this
 have FX:qs≠[]:=λ ae=>by
  rw[ae] at cq;rcases Nat.mul_eq_zero.1 cq.symm with bD|bD
  ·exact ud bD
  ·omega
 rcases hY with hY|⟨yb,yo,rfl,E5⟩
 ·exact absurd hY FX
 obtain⟨us,ur,rQ,sR,w4⟩:=Eu E5;have qJ:us.length=m*gO.size:=by rw[ur,cq,hsz]
 by_cases qI:n+m<=bG
 ·
  rcases Oj with Oj|⟨k,adb,i7,cur,tU,bV⟩
  ·omega
  ·cases adb;simp only at tU bV;obtain⟨G1,alp,h1,u,J,h4,h5⟩:=aV.gr k g i7;rw[eZ] at h1;cases h1;have t7:n*gO.size+us.length<=cur.size:=by rw[qJ,bV,hsz,<-Nat.add_mul];exact Nat.mul_le_mul_right _ qI
   have cS:=run_append_room (P:=P) e.w t ty el gO ep nC k n bG cur tU ⟨yb,yo,none⟩ m l8 us qJ rQ sR qI t7;have lh:(cur.toList.take (n*gO.size)++us++cur.toList.drop (n*gO.size+us.length)).toArray.size=cur.size:=by simp only[List.size_toArray,List.length_append,List.length_take,List.length_drop,Array.length_toList];omega
   have qF:qh e (e.w.setRow k (cur.toList.take (n*gO.size)++us++cur.toList.drop (n*gO.size+us.length)).toArray) g ⟨el,i.sz,n+m⟩ none:=by
    refine⟨rfl,rfl,rfl,by simp,λ j hj wQ=>setRow_other _ _ _ _ (λ ae=>wQ (by rw[ae];exact i7)),λ j c0 wQ hj=>?_,λ j h=>by cases h⟩
    by_cases kF:j=k
    ·subst kF;simp only at hj;rw[tU] at hj;cases hj;refine⟨_,setRow_heap _ _ cur _ _ _ tU,lh,λ q hq=>?_⟩;have FW:=hq _ h4;simp only at FW;rw[hsz];rw[List.getElem?_toArray,List.append_assoc,List.getElem?_append_left (by simp;rw[bV];have:=Nat.mul_le_mul_right i.sz qG;omega),List.getElem?_take,if_pos FW];simp
    ·exact⟨c0,by rw[setRow_other _ _ _ _ kF];exact hj,rfl,λ _ _=>rfl⟩
   refine⟨_,_,none,cS,qF,?_⟩;have Y:=qF.ends aV eZ rfl rfl (by simp);rcases hA with hA|⟨aP,o',fO,MY⟩
   ·have mT:n=0:=by
     rw[hA] at uj;simp only[List.length_nil] at uj;rcases Nat.mul_eq_zero.1 uj.symm with bD|bD
     ·exact bD
     ·exact absurd bD (Nat.pos_iff_ne_zero.1 pR)
    subst hA;refine P6 (aa:=⟨el,i.sz,n+m⟩) (us:=us) (cur:=(cur.toList.take (n*gO.size)++us++cur.toList.drop (n*gO.size+us.length)).toArray) (setRow_heap _ _ cur _ _ _ tU) (by simp[aE.more,i7]) (by simp[aE.more,i7]) (by simp[aE.more]) rfl (by simp[cq,mT]) qI mp (by rw[lh];exact bV) (by simpa using ur) (λ j v hj=>?_) sR (λ j v y h1 u=>(w4 j v y h1 (by simpa using u)).next Y);have nD:=(List.getElem?_eq_some_iff.1 hj).1;rw[List.getElem?_toArray,mT,List.append_assoc,List.getElem?_append_right (by simp)];simp only[Nat.zero_mul,List.take_zero,List.length_nil,Nat.sub_zero];rw[List.getElem?_append_left nD];exact hj
   ·cases fO;obtain⟨os,jF,Ba,A9,lY⟩:=Eu MY;have I1:os.length=n*i.sz:=by rw[jF,uj]
    have mW:∀(j:Nat) v,os[j]?=some v->cur[j]?=some v:=λ j v hj=>by
     have:=Ba j v hj;rw[qZ,Nat.zero_add,cell_of_row e.w k j cur el (0,0) tU] at this;exact this
    refine P6 (aa:=⟨el,i.sz,n+m⟩) (us:=os++us) (cur:=(cur.toList.take (n*gO.size)++us++cur.toList.drop (n*gO.size+us.length)).toArray) (setRow_heap _ _ cur _ _ _ tU) (by simp[aE.more,i7]) (by simp[aE.more,i7]) (by simp[aE.more]) rfl (by simp[cq,uj,Nat.add_mul]) qI mp (by rw[lh];exact bV) (by simp[ur,jF]) (λ j v hj=>?_) (λ v hv=>by rcases List.mem_append.1 hv with bD|bD;exact A9 v bD;exact sR v bD) (λ j v y h1 u=>?_)
    ·rw[List.getElem?_toArray,List.append_assoc];have dw:(cur.toList.take (n*gO.size)).length=n*i.sz:=by
      rw[List.length_take,hsz,Array.length_toList,bV];have:=Nat.mul_le_mul_right i.sz qG;omega
     rcases Nat.lt_or_ge j os.length with fb|fb
     ·rw[List.getElem?_append_left fb] at hj;rw[List.getElem?_append_left (by rw[dw,<-I1];exact fb),List.getElem?_take,if_pos (by rw[hsz,<-I1];exact fb)]
      simpa using mW j v hj
     ·rw[List.getElem?_append_right fb] at hj;rw[List.getElem?_append_right (by rw[dw,<-I1];exact fb),dw,<-I1,List.getElem?_append_left (List.getElem?_eq_some_iff.1 hj).1];exact hj
    ·rcases Nat.lt_or_ge j os.length with fb|fb
     ·rw[List.getElem?_append_left fb] at h1;rw[List.getElem?_append_left (by rw[<-jF];exact fb)] at u;exact(lY j v y h1 u).next Y
     ·rw[List.getElem?_append_right fb] at h1;rw[List.getElem?_append_right (by rw[<-jF];exact fb),<-jF] at u;exact(w4 _ v y h1 u).next Y
 ·
  have vf:∀(os:List Value)(dL:Nat),os.length=ps.length->(∀v∈os,v.oneCell'=true)->(∀(j:Nat) v x,os[j]?=some v->ps[j]?=some x->c5 e v x)->dL<n+m->
   (Builtin.append_ #[t,t] ty #[.slice A n bG,.slice (some ⟨yb,yo,none⟩) m l8]).run P e.w=.ok (.slice (some ⟨e.w.heap.size,0,none⟩) (n+m) (grownCap e.w (n+m) dL el)) (e.w.drew.alloc (.cells (os.toArray++us.toArray++Builtin.zeroCells i.zero.cells (grownCap e.w (n+m) dL el-(n+m))) el))->
   ∃v aA k,(Builtin.append_ #[t,t] ty #[.slice A n bG,.slice (some ⟨yb,yo,none⟩) m l8]).run P e.w=.ok v aA/\qh e aA g ⟨el,i.sz,n+m⟩ k/\bC (e.more aA g ⟨el,i.sz,n+m⟩ k) v (.bP g (n+m) (ps++qs)):=by
   intro os dL jF A9 lY hold cS;have iF:=grownCap_ge e.w (n+m) dL el;have qB:=grownCap_le_maxLen e.w (n+m) dL el gI;have qF:qh e (e.w.drew.alloc (.cells (os.toArray++us.toArray++Builtin.zeroCells i.zero.cells (grownCap e.w (n+m) dL el-(n+m))) el)) g ⟨el,i.sz,n+m⟩ (some e.w.heap.size):=
    ⟨rfl,rfl,rfl,by simp,λ j hj _=>Below.heap_alloc e.w.drew _ j hj,λ j c0 wQ hj=>⟨c0,by rw[Below.heap_alloc e.w.drew _ j (tY hj)];exact hj,rfl,λ _ _=>rfl⟩,λ j hj=>by cases hj;exact⟨Nat.le_refl _,by simp,_,heap_alloc_new e.w.drew _⟩⟩
   have Y:=qF.ends aV eZ rfl rfl (by simp);refine⟨_,_,_,cS,qF,P6 (aa:=⟨el,i.sz,n+m⟩) (us:=os++us) (heap_alloc_new e.w.drew _) (by simp[aE.more]) (by simp[aE.more]) (by simp[aE.more]) rfl (by simp[cq,uj,Nat.add_mul]) iF qB ?_ (by simp[ur,jF]) (λ j v hj=>?_) (λ v hv=>by rcases List.mem_append.1 hv with bD|bD;exact A9 v bD;exact sR v bD) (λ j v y h1 u=>?_)⟩
   ·simp only[Array.size_append,List.size_toArray,size_zeroCells,iH,jF,ur,uj,cq,<-Nat.add_mul]
    congr 1
    omega
   ·have nD:=(List.getElem?_eq_some_iff.1 hj).1;rw[show os.toArray++us.toArray=(os++us).toArray by simp,Array.getElem?_append_left (by simpa using nD),List.getElem?_toArray];exact hj
   ·rcases Nat.lt_or_ge j os.length with fb|fb
    ·rw[List.getElem?_append_left fb] at h1;rw[List.getElem?_append_left (by rw[<-jF];exact fb)] at u;exact(lY j v y h1 u).next Y
    ·rw[List.getElem?_append_right fb] at h1;rw[List.getElem?_append_right (by rw[<-jF];exact fb),<-jF] at u;exact(w4 _ v y h1 u).next Y
  rcases A with _|ad
  ·have lx:=hA0 rfl;have mT:n=0:=by omega
   subst mT;subst lx;have cG:ps=[]:=List.eq_nil_of_length_eq_zero (by simpa using uj);have cS:=run_append_nil (P:=P) e.w t ty el gO i.zero ep nC hz ⟨yb,yo,none⟩ m l8 us qJ rQ (by omega) (by simp only[maxLen] at gI;omega) (by rw[ve];simp only[Nat.zero_add] at fQ;omega);refine vf [] 0 (by simp[cG]) (λ v hv=>(by cases hv)) (λ j v x hj=>(by simp at hj)) (by omega) ?_
   simpa using cS
  ·have hold:∃os:List Value,os.length=ps.length/\(∀(j:Nat) v,os[j]?=some v->e.w.cell? (ad.add j)=some v)/\(∀v∈os,v.oneCell'=true)/\∀(j:Nat) v x,os[j]?=some v->ps[j]?=some x->c5 e v x:=by
    rcases hA with rfl|⟨aP,o',fO,MY⟩
    ·exact⟨[],rfl,(λ j v h=>by simp at h),(λ v h=>by cases h),(λ j v x h=>by simp at h)⟩
    ·cases fO;exact Eu MY
   obtain⟨os,jF,Ba,A9,lY⟩:=hold;have cS:=run_append_grow (P:=P) e.w t ty el gO i.zero ep nC hz ad n bG os (by rw[jF,uj,hsz]) Ba ⟨yb,yo,none⟩ m l8 us qJ rQ (by omega) (by simp only[maxLen] at gI;omega) (growslice_fits (by omega) (by rw[ve];exact fQ));exact vf os bG jF A9 lY (by omega) cS
theorem aag(hT:dh P aq){t:TypeId}{x y:Operand}{g n m el z1 z2:Nat}{z3:Value}{ps qs:List Pl}{dy:I}{i:TI}(ho:o.op=.call {callee:=.builtin .append,args:=#[x,y],argTypes:=#[t,t]})(ht:aq t=some ⟨.slice el,z1,z2,z3⟩)(dO:aq el=some i)(iH:i.zero.cells.size=i.sz)(pR:0<i.sz)
 (K:xU Γ.n o.dst=true)(hx:ev (kv L.s) x=some (.bP g n ps))(hg:kv L.g g=some ⟨el,i.sz,n⟩)(hy:ev (kv L.s) y=some dy)(lV:nS dy=some (m,qs))(cq:qs.length=m*i.sz)
 (gI:n+m<=maxLen)(fQ:(n+m)*i.bytes<=140737488355328):Cb P Γ o L (L.app g ⟨el,i.sz,n+m⟩ o.dst (ps++qs)):=by
 intro a e F;have T:=F.jd (L:=L) o.op.operands;have di:=T.1 x (by rw[ho];simp[Op.operands,Call.operands]) _ hx;have fp:=yV (T.1 y (by rw[ho];simp[Op.operands,Call.operands]) _ hy) lV;have eZ:e.gi g=some ⟨el,i.sz,n⟩:=by rw[F.gs];exact hg
 obtain⟨v,aA,k,cS,qF,pP⟩:=Lv hT F.env (ty:=o.type) ht dO iH pR di eZ fp cq gI fQ;unfold Oper.wp;have e1:(execOp a.eval o).run P e.w=.ok (.value v) aA:=by obtain⟨dst,op,type,pos,after,guard⟩:=o;simp only at ho;subst ho;simp only[execOp,resolve,invoke,builtin,Sem.run_bind,Sem.run_pure,Result.andThen_ok,List.map_toArray,List.map_cons,List.map_nil,cS]
 rw[e1];exact⟨e.more aA g ⟨el,i.sz,n+m⟩ k,rfl,(F.more qF hg rfl rfl (by simp)).put K pP⟩
end
end Go.Proofs.YtkkldicehapklaaGreat
end
section
namespace Go.Proofs.YtkkldicehapklaaGreat
open Go.RowKit
section
variable{P:Program}{aq:Nat->Option TI}{Γ:bX}{L bQ bu:St}{o:Oper}
def eI(Γ:bX)(L bQ:St):Prop:=∀(a:Act)(e:aE),bE Γ L e a->∃ae,ae.w=e.w/\bE Γ bQ ae a
theorem eI.trans{Zm:St}(h:eI Γ L bu)(k:eI Γ bu Zm):eI Γ L Zm:=λ a e F=>by
 obtain⟨e1,h1,u⟩:=h a e F;obtain⟨e2,J,h4⟩:=k a e1 u;exact⟨e2,J.trans h1,h4⟩
theorem xF(t g el sz:Nat){n:Nat}{ps:List Pl}(ht:kv L.s t=some (.p (.sl true n ps)))(hg:kv L.g g=none)(Z:ps.length=n*sz):eI Γ L ⟨(t,.bP g n ps)::L.s,L.b,(g,⟨el,sz,n⟩)::L.g⟩:=by
 intro a e F;have eZ:e.gi g=none:=by rw[F.gs];exact hg
 have pO:∀k,e.gr k≠some g:=λ k hk=>by obtain⟨aa,_,h,_⟩:=F.env.gr k g hk;rw[eZ] at h;cases h
 have Y:Ends e {e with gi:=λ h=>if h=g then some ⟨el,sz,n⟩ else e.gi h}:=
  ⟨λ _ _ _ h1 u=>⟨h1,u⟩,λ _ _ h=>h,λ bg aa h=>⟨aa,by show(if bg=g then _ else e.gi bg)=_;rw[if_neg (λ ae=>by rw[ae,eZ] at h;cases h)];exact h,rfl,rfl,Nat.le_refl _⟩,λ _ _ _ cur h1 _ J=>⟨h1,cur,J,rfl⟩⟩
 refine⟨{e with gi:=λ h=>if h=g then some ⟨el,sz,n⟩ else e.gi h},rfl,F.size,F.df,λ aH d hu=>?_,λ b cs hb=>(F.boxes b cs hb).ends Y rfl,F.ee,λ h=>?_,F.env.kept,F.env.cl,F.env.bx,F.env.inj,λ k bg hk=>?_,F.env.kb⟩
 ·simp only[dc] at hu;split at hu
  ·rename_i l4;subst l4;cases hu;have h1:=F.dj _ _ ht;generalize gH a t=v at h1;cases h1 with
   |p h1=>have u:=(h1.next Y).low;obtain⟨A,bG,rfl,J,h4,h5,h6,h7⟩:=qa h1;exact .bP u ⟨⟨el,sz,n⟩,A,bG,by simp,rfl,Nat.le_refl _,Z,.inl (h6 rfl)⟩
  ·exact(F.dj aH d hu).next Y
 ·show(if h=g then _ else e.gi h)=_;simp only[dc]
  by_cases e1:h=g
  ·subst e1;simp
  ·rw[if_neg e1,if_neg (λ ae=>e1 ae.symm)];exact F.gs h
 ·obtain⟨aa,cur,h1,u⟩:=F.env.gr k bg hk;exact⟨aa,cur,by show(if bg=g then _ else e.gi bg)=_;rw[if_neg (λ ae=>pO k (by rw[<-ae];exact hk))];exact h1,u⟩
def I.ok(B aa:Nat->Bool):I->Bool
 |.agg ds=>fy ds
 |.ca ds=>fy ds
 |.ptr b _=>B b
 |.arr b _ _ _=>B b
 |.bP g _ _=>aa g
 |.fn _ x y=>fy x&&fy y
 |_=>true
where fy:List I->Bool
 |[]=>true
 |d::ds=>d.ok B aa&&fy ds
theorem rZ{B aa:Nat->Bool}:∀{ds:List I}(_:I.ok.fy B aa ds=true){i:Nat}{d:I},ds[i]?=some d->d.ok B aa=true
 |[],_,i,d,hi=>by simp at hi
 |d0::ds,h,i,d,hi=>by
  simp only[I.ok.fy,Bool.and_eq_true] at h;cases i with
  |zero=>simp only[List.getElem?_cons_zero,Option.some.injEq] at hi;subst hi;exact h.1
  |succ i=>exact rZ h.2 (by simpa using hi)
def aE.cut(e:aE)(B aa:Nat->Bool):aE:=
 {e with bx:=λ b=>if B b=true then e.bx b else none,gr:=λ k=>match e.gr k with|some g=>if aa g=true then some g else none|none=>none,gi:=λ g=>if aa g=true then e.gi g else none}
theorem c5.cut{e:aE}{B aa:Nat->Bool}{v:Value}{x:Pl}(h:c5 e v x):c5 (e.cut B aa) v x:=c5.env (e:=e) (ae:=e.cut B aa) rfl rfl h
theorem bC.cut{e:aE}{B aa:Nat->Bool}{v:Value}{d:I}(h:bC e v d):d.ok B aa=true->bC (e.cut B aa) v d:=by
 induction h with
 |p h=>intro _;exact .p h.cut
 |agg Z _ ih=>intro hk;exact .agg Z (λ i v d h1 u=>ih i v d h1 u (rZ hk u))
 |ca Z _ ih=>intro hk;exact .ca Z (λ i v d h1 u=>ih i v d h1 u (rZ hk u))
 |ptr h=>intro hk;simp only[I.ok] at hk;exact .ptr (by simp only[aE.cut,if_pos hk];exact h)
 |el h=>intro _;obtain⟨f,hf⟩:=h;exact .el ⟨f,λ i x hx=>by obtain⟨h1,u,J,h4⟩:=hf i x hx;exact⟨h1,u,J,h4.cut⟩⟩
 |bP h ht=>intro hk;simp only[I.ok] at hk;refine .bP h.cut ?_;obtain⟨G0,A,bG,h1,u,J,h4,h5⟩:=ht;refine⟨G0,A,bG,by simp only[aE.cut,if_pos hk];exact h1,u,J,h4,h5.imp id ?_⟩;rintro⟨k,h6,h7,h8⟩;refine⟨k,h6,?_,h8⟩;show(match e.gr k with|some g=>if aa g=true then some g else none|none=>none)=_;rw[h7];simp[hk]
 |arr h=>intro hk;simp only[I.ok] at hk;exact .arr (by simp only[aE.cut,if_pos hk];exact h)
 |fn Z eV _ _ ih Ga=>intro hk;simp only[I.ok,Bool.and_eq_true] at hk;exact .fn Z eV (λ i v d h1 u=>ih i v d h1 u (rZ hk.1 u)) (λ i v d h1 u=>Ga i v d h1 u (rZ hk.2 u))
 |any=>intro _;exact .any
def aL{az:Type}(l:List (Nat×az))(n:Nat):Bool:=(kv l n).isSome
def zp(L bu:St):List (Nat×I)->Prop
 |[]=>True
 |p::l=>(kv L.s p.1=some p.2/\p.2.ok (aL bu.b) (aL bu.g)=true)/\zp L bu l
def zm(L bu:St):List (Nat×List I)->Prop
 |[]=>True
 |p::l=>(kv L.b p.1=some p.2/\I.ok.fy (aL bu.b) (aL bu.g) p.2=true)/\zm L bu l
def zn(L:St):List (Nat×Gr)->Prop
 |[]=>True
 |p::l=>kv L.g p.1=some p.2/\zn L l
theorem zp.get{L bu:St}:∀{l:List (Nat×I)}(_:zp L bu l){t:Nat}{d:I},kv l t=some d->kv L.s t=some d/\d.ok (aL bu.b) (aL bu.g)=true
 |[],_,t,d,h=>by cases h
 |(k,v)::l,T,t,d,h=>by
  rw[dc] at h;split at h
  ·rename_i hk;subst hk;cases h;exact T.1
  ·exact T.2.get h
theorem zm.get{L bu:St}:∀{l:List (Nat×List I)}(_:zm L bu l){t:Nat}{d:List I},kv l t=some d->kv L.b t=some d/\I.ok.fy (aL bu.b) (aL bu.g) d=true
 |[],_,t,d,h=>by cases h
 |(k,v)::l,T,t,d,h=>by
  rw[dc] at h;split at h
  ·rename_i hk;subst hk;cases h;exact T.1
  ·exact T.2.get h
theorem zn.get{L:St}:∀{l:List (Nat×Gr)}(_:zn L l){t:Nat}{d:Gr},kv l t=some d->kv L.g t=some d
 |[],_,t,d,h=>by cases h
 |(k,v)::l,T,t,d,h=>by
  rw[dc] at h;split at h
  ·rename_i hk;subst hk;cases h;exact T.1
  ·exact T.2.get h
def zo(bu:St):List (Nat×Nat)->Prop
 |[]=>True
 |p::l=>aL bu.b p.1=true/\zo bu l
theorem zo.get{bu:St}:∀{l:List (Nat×Nat)}(_:zo bu l){b k:Nat},kv l b=some k->aL bu.b b=true
 |[],_,b,k,h=>by cases h
 |(x,y)::l,T,b,k,h=>by
  rw[dc] at h;split at h
  ·rename_i hk;subst hk;exact T.1
  ·exact T.2.get h
theorem kX(T:zp L bu bu.s)(hb:zm L bu bu.b)(hg:zn L bu.g)(dI:zo bu Γ.kb):eI Γ L bu:=by
 intro a e F;have eZ:∀g,aL bu.g g=true->∃aa,e.gi g=some aa/\kv bu.g g=some aa:=λ g h=>by
  unfold aL at h;obtain⟨aa,hG⟩:=Option.isSome_iff_exists.1 h;exact⟨aa,by rw[F.gs];exact hg.get hG,hG⟩
 refine⟨e.cut (aL bu.b) (aL bu.g),rfl,F.size,F.df,λ t d ht=>(F.dj t d (T.get ht).1).cut (T.get ht).2,λ b cs bV=>?_,λ b iT=>?_,λ g=>?_,F.env.kept,F.env.cl,λ b k hk=>?_,λ b c k h1 u=>?_,λ k g hk=>?_,λ b k hk=>?_⟩
 ·obtain⟨k,vs,el,h1,u,J⟩:=F.boxes b cs (hb.get bV).1;refine⟨k,vs,el,?_,u,J.1,λ i v d hv K=>(J.2 i v d hv K).cut (rZ (hb.get bV).2 K)⟩;show(if aL bu.b b=true then e.bx b else none)=_;rw[if_pos (by simp[aL,bV])];exact h1
 ·show(if aL bu.b b=true then e.bx b else none)=_;rw[if_neg (by simp[aL,iT])]
 ·show(if aL bu.g g=true then e.gi g else none)=_;cases Z:kv bu.g g with
  |none=>rw[if_neg (by simp[aL,Z])]
  |some aa=>rw[if_pos (by simp[aL,Z]),F.gs];exact hg.get Z
 ·have cg:(if aL bu.b b=true then e.bx b else none)=some k:=hk;split at cg
  ·obtain⟨h1,u,J,h4⟩:=F.env.bx b k cg;refine⟨h1,u,J,?_⟩;show(match e.gr k with|some g=>if aL bu.g g=true then some g else none|none=>none)=none;rw[h4]
  ·cases cg
 ·have bB:(if aL bu.b b=true then e.bx b else none)=some k:=h1;have cj:(if aL bu.b c=true then e.bx c else none)=some k:=u;split at bB
  ·split at cj
   ·exact F.env.inj b c k bB cj
   ·cases cj
  ·cases bB
 ·have cg:(match e.gr k with|some g=>if aL bu.g g=true then some g else none|none=>none)=some g:=hk;rcases i7:e.gr k with _|g0
  ·rw[i7] at cg;cases cg
  ·rw[i7] at cg;simp only at cg;split at cg
   ·rename_i dk;cases cg;obtain⟨aa,cur,h1,u⟩:=F.env.gr k g i7;exact⟨aa,cur,by show(if aL bu.g g=true then e.gi g else none)=_;rw[if_pos dk];exact h1,u⟩
   ·cases cg
 ·show(if aL bu.b b=true then e.bx b else none)=_;rw[if_pos (dI.get hk)];exact F.env.kb b k hk
theorem qo{l0 l:List Oper}{Q:Exit->St->Prop}(h:eI Γ L bQ)(k:bw P Γ l0 Q l bQ):bw P Γ l0 Q l L:=⟨λ a e F=>by
 obtain⟨ae,h1,u⟩:=h a e F;rw[<-h1];exact k.run a ae u⟩
structure a8(P:Program)(Γ:bX)(c:Code)(Q:Exit->St->Prop)(L:St):Prop where
 run:∀(a:Act)(e:aE),bE Γ L e a->c.wp P (jP Γ Q) a e.w
variable{Q:Exit->St->Prop}{c x y:Code}
theorem iP(h:eI Γ L bQ)(k:a8 P Γ c Q bQ):a8 P Γ c Q L:=⟨λ a e F=>by
 obtain⟨ae,h1,u⟩:=h a e F;rw[<-h1];exact k.run a ae u⟩
theorem zu{jB:Exit->St->Prop}(h:a8 P Γ c Q L)(hq:∀ex bQ,Q ex bQ->jB ex bQ):a8 P Γ c jB L:=⟨λ a e F=>Code.wp_mono (λ ex bF aA hh=>by obtain⟨bQ,ae,h1,u,J⟩:=hh;exact⟨bQ,ae,h1,u,hq _ _ J⟩) (h.run a e F)⟩
def uK(aB:St->Prop)(Q:Exit->St->Prop):Exit->St->Prop
 |.normal,L=>aB L
 |ex,L=>Q ex L
theorem Ch(h:a8 P Γ x (uK (a8 P Γ y Q) Q) L):a8 P Γ (.seq x y) Q L:=⟨λ a e F=>by
 refine wp_seq (Code.wp_mono (λ ex bF aA hh=>?_) (h.run a e F));obtain⟨bQ,ae,rfl,u,J⟩:=hh;cases ex with
 |normal=>exact J.run bF ae u
 |_=>exact⟨bQ,ae,rfl,u,J⟩⟩
theorem RC(h:Q .normal L):a8 P Γ .skip Q L:=⟨λ _ e F=>wp_skip ⟨L,e,rfl,F,h⟩⟩
theorem aaC(h:Q .ret L):a8 P Γ .ret Q L:=⟨λ _ e F=>wp_ret ⟨L,e,rfl,F,h⟩⟩
theorem aav{id:Nat}(h:Q (.exit id) L):a8 P Γ (.exit id) Q L:=⟨λ _ e F=>wp_exit ⟨L,e,rfl,F,h⟩⟩
def re(id:Nat)(Q:Exit->St->Prop):Exit->St->Prop
 |.exit pf,L=>if pf=id then Q .normal L else Q (.exit pf) L
 |ex,L=>Q ex L
theorem aas{id:Nat}(h:a8 P Γ c (re id Q) L):a8 P Γ (.block id c) Q L:=⟨λ a e F=>by
 refine wp_block (Code.wp_mono (λ ex bF aA hh=>?_) (h.run a e F));obtain⟨bQ,ae,rfl,u,J⟩:=hh;cases ex with
 |exit pf=>
  simp only[re] at J;simp only[Exit.inBlock];split
  ·rename_i AY;rw[if_pos AY] at J;exact⟨bQ,ae,rfl,u,J⟩
  ·rename_i AY;rw[if_neg AY] at J;exact⟨bQ,ae,rfl,u,J⟩
 |_=>exact⟨bQ,ae,rfl,u,J⟩⟩
theorem SG{e:aE}{a:Act}(F:bE Γ L e a){z:Operand}{v:Value}(h:ev (kv L.s) z=some (.p (.raw v))):a.eval z=v:=dg ((F.jd #[z]).1 z (by simp) _ h)
theorem aau{z:Operand}{t:Bool}(hz:ev (kv L.s) z=some (.p (.raw (.bool t))))(ht:t=true->a8 P Γ x Q L)(hf:t=false->a8 P Γ y Q L):a8 P Γ (.cond z x y) Q L:=⟨λ a e F=>wp_cond_split (SG F hz) (λ h=>(ht h).run a e F) (λ h=>(hf h).run a e F)⟩
theorem HI{id:Nat}{l:List Oper}(h:bw P Γ l Q l L):a8 P Γ (.region id l.toArray false) Q L:=⟨λ a e F=>wp_region_lit (h.run a e F)⟩
theorem aay{fg:Type}(jN:fg->St)(m8:fg->Nat)(i0:fg)(h0:eI Γ L (jN i0))(G8:∀i,a8 P Γ c (uK (λ bQ=>∃j,m8 j<m8 i/\eI Γ bQ (jN j)) Q) (jN i)):a8 P Γ (.loop c) Q L:=by
 refine⟨λ a e F=>?_⟩;obtain⟨e0,h1,u⟩:=h0 a e F;rw[<-h1];have key:∀n i,m8 i<n->∀a e,bE Γ (jN i) e a->Code.rounds P c (jP Γ Q) n a e.w:=by
  intro n;induction n with
  |zero=>intro i hi;omega
  |succ n ih=>
   intro i hi a e F;rw[rounds_succ];refine Code.wp_mono (λ ex bF aA hh=>?_) ((G8 i).run a e F);obtain⟨bQ,ae,rfl,u,J⟩:=hh;cases ex with
   |normal=>obtain⟨j,hj,hg⟩:=J;obtain⟨e2,h4,h5⟩:=hg bF ae u;show Code.rounds P c (jP Γ Q) n bF ae.w;rw[<-h4];exact ih j (by omega) bF e2 h5
   |_=>exact⟨bQ,ae,rfl,u,J⟩
 exact wp_loop_rounds (m8 i0+1) (key _ i0 (by omega) a e0 u)
def PW(aq:Nat->Option TI)(L:St):ResultVar->Option I
 |.tmp t=>kv L.s t
 |.cell t ty=>match aq ty,kv L.s t with
  |some i,some (.ptr b o)=>match kv L.b b with
   |some cs=>kW o cs (BB i)
   |none=>none
  |_,_=>none
def G5{az:Type}(aq:Nat->Option TI)(L:St):List ResultVar->(List I->Option az)->Option az
 |[],k=>k []
 |r::l,k=>match PW aq L r with
  |some d=>G5 aq L l λ ds=>k (d::ds)
  |none=>none
def DK(aq:Nat->Option TI)(L:St)(l:List ResultVar):Option I:=G5 aq L l λ
 |[d]=>d.uv some
 |ds=>(I.ca ds).uv some
def wn(ds:List I):List (Nat×I):=go 0 ds
where go:Nat->List I->List (Nat×I)
 |_,[]=>[]
 |n,d::ds=>(n,d)::go (n+1) ds
theorem EI:∀(ds:List I)(n t:Nat)(d:I),kv (wn.go n ds) t=some d->n<=t/\ds[t-n]?=some d
 |[],n,t,d,h=>by cases h
 |c::ds,n,t,d,h=>by
  simp only[wn.go,dc] at h;split at h
  ·rename_i hn;subst hn;cases h;simp
  ·rename_i hn;obtain⟨h1,u⟩:=EI ds (n+1) t d h;refine⟨by omega,?_⟩;rw[show t-n=(t-(n+1))+1 by omega]
   simpa using u
theorem V8{P:Program}{w:World}{az dE:Type}(f:az->Sem dE)(g:az->dE):∀(l:List az),(∀x∈l,(f x).run P w=.ok (g x) w)->(l.mapM f).run P w=.ok (l.map g) w
 |[],_=>by simp
 |x::l,h=>by
  rw[List.mapM_cons];simp only[Sem.run_bind,h x (by simp),Result.andThen_ok,V8 f g l (λ y hy=>h y (by simp[hy])),Sem.run_pure,List.map_cons]
def G6(tmps:Array Value):ResultVar->Sem Value
 |.tmp t=>pure (tmps.getD t undef)
 |.cell a t=>do loadVar t (<-asAddr (tmps.getD a undef))
theorem DL(fn:Func)(tmps:Array Value):results fn tmps=(do let vs <-fn.results.mapM (G6 tmps);pure (if h:vs.size=1 then vs[0] else .tuple vs)):=rfl
theorem ajy(hT:dh P aq){e:aE}{a:Act}(F:bE Γ L e a){r:ResultVar}{d:I}(h:PW aq L r=some d):
 ∃v,(G6 a.tmps r).run P e.w=.ok v e.w/\bC e v d:=by
 cases r with
 |tmp t=>exact⟨gH a t,rfl,F.dj t d h⟩
 |cell t ty=>
  simp only[PW] at h;split at h
  ·rename_i i b o hi G;split at h
   ·rename_i cs bV;obtain⟨k,vs,el,u,J,h4⟩:=F.boxes b cs bV;have h1:=F.dj t _ G;generalize c8:gH a t=vx at h1;cases h1 with
    |ptr h1=>
     rw[u] at h1;cases h1;obtain⟨v,hr,hv⟩:=OS hT hi (k:=k) (o:=o) (us:=vs.drop o) (λ j v hj=>by
      rw[List.getElem?_drop] at hj;rw[cell_of_row e.w k (o+j) vs.toArray el (0,0) J]
      simpa using hj) (h4.drop o) (n4 h).2
     refine⟨v,?_,hv⟩;unfold gH at c8;simp only[G6,c8]
     simpa[asAddr,Instr.loadAt,Instr.sureAddr] using hr
   ·cases h
  ·cases h
theorem PX{az:Type}(hT:dh P aq){e:aE}{a:Act}(F:bE Γ L e a):∀(l:List ResultVar)(k:List I->Option az)(r:az),G5 aq L l k=some r->∃ds vs,(l.mapM (G6 a.tmps)).run P e.w=.ok vs e.w/\DReps e vs ds/\k ds=some r
 |[],k,r,h=>⟨[],[],by simp,DReps.nil e,h⟩
 |q::l,k,r,h=>by
  simp only[G5] at h;split at h
  ·rename_i d h1;obtain⟨v,hv,K⟩:=ajy hT F h1;obtain⟨ds,vs,qK,ol,hk⟩:=PX hT F l _ r h;refine⟨d::ds,v::vs,?_,DReps.cons K ol,hk⟩;rw[List.mapM_cons];simp only[Sem.run_bind,hv,qK,Result.andThen_ok,Sem.run_pure]
  ·cases h
theorem ajz(hT:dh P aq){fn:Func}{e:aE}{a:Act}(F:bE Γ L e a){d:I}(h:DK aq L fn.results.toList=some d):∃v,(results fn a.tmps).run P e.w=.ok v e.w/\bC (hl e.w e.cl) v d:=by
 unfold DK at h;obtain⟨ds,vs,qK,ol,h⟩:=PX hT F _ _ d h;split at h
 ·rename_i d0;obtain⟨v,fu,rfl,hv,hn⟩:=ol.y6;have:fu=[]:=List.eq_nil_of_length_eq_zero hn.1;subst this;simp only[Jx,Option.bind_fun_some] at h;refine⟨v,?_,Jy hv d h⟩;rw[DL,Array.mapM_eq_mapM_toList];simp only[bind_map_left,Sem.run_bind,qK,Result.andThen_ok,Sem.run_pure];simp
 ·rename_i aW;simp only[Jx,Option.bind_fun_some] at h;refine⟨.tuple vs.toArray,?_,Jy (.ca ol.1 ol.2) d h⟩;rw[DL,Array.mapM_eq_mapM_toList];simp only[bind_map_left,Sem.run_bind,qK,Result.andThen_ok,Sem.run_pure];rw[dif_neg];intro T;have Z:ds.length=1:=by rw[<-ol.1];simpa using T
  obtain⟨d1,rfl⟩:=List.length_eq_one_iff.1 Z;exact aW d1 rfl
theorem aiO(hT:dh P aq){f:FuncId}{fn:Func}{c:Code}{ds:List I}{d:I}(hf:P.funcs[f]?=some fn)(hb:fn.body=some c)(hn:ds.length<=fn.ntmps)
 (h:∀w cl,a8 P ⟨fn.ntmps,w,cl,λ _=>False,[],[]⟩ c (λ ex L=>(ex=.normal\/ex=.ret)/\DK aq L fn.results.toList=some d) ⟨wn ds,[],[]⟩):bH P f ds d:=by
 intro w cl vs hv;refine calls_of_wp hf hb ?_;have Z:vs.length=ds.length:=hv.1;have F:bE ⟨fn.ntmps,w,cl,λ _=>False,[],[]⟩ ⟨wn ds,[],[]⟩ (hl w cl) {tmps:=vs.toArray++Array.replicate (fn.ntmps-vs.toArray.size) undef,defers:=[]}:=by
  refine⟨by simp;omega,rfl,λ t d0 ht=>?_,λ b cs hb=>(by cases hb),λ b _=>rfl,λ g=>rfl,⟨oN.refl _ _,λ _ _ _=>rfl,λ b k hk=>(by cases hk),λ b c k hk=>(by cases hk),λ k g hk=>(by cases hk),λ b k hk=>(by cases hk)⟩⟩;obtain⟨_,u⟩:=EI ds 0 t d0 ht;simp only[Nat.sub_zero] at u;obtain⟨v,J,h4⟩:=hv.get u;have iG:t<vs.length:=(List.getElem?_eq_some_iff.1 J).1;have:gH {tmps:=vs.toArray++Array.replicate (fn.ntmps-vs.toArray.size) undef,defers:=[]} t=v:=by
   unfold gH;simp only[Array.getD_eq_getD_getElem?];rw[Array.getElem?_append_left (by simpa using iG),List.getElem?_toArray,J]
   rfl
  rw[this];exact h4
 refine Code.wp_mono (λ ex bF aA hh=>?_) ((h w cl).run _ (hl w cl) F);obtain⟨bQ,ae,rfl,u,J,h4⟩:=hh;obtain⟨v,hr,hv⟩:=ajz hT u h4;have Nt:Below w.heap.size w ae.w:=⟨u.env.kept.os,u.env.kept.tape,u.env.kept.output,u.env.kept.size,λ k hk=>u.env.kept.block k hk (λ h=>h)⟩;have k9:bF.defers=[]/\∃v,(results fn bF.tmps).run P ae.w=.ok v ae.w/\∃gU bI,Ending.returned v=.returned gU/\Below w.heap.size w ae.w/\(∀k,k<w.heap.size->bI k=cl k)/\bC (hl ae.w bI) gU d:=
  ⟨u.df,v,hr,v,ae.cl,rfl,Nt,λ k hk=>u.env.cl k hk (λ h=>h),hv⟩
 rcases J with rfl|rfl
 ·exact k9
 ·exact k9
end
end Go.Proofs.YtkkldicehapklaaGreat
end
section
namespace Go.Proofs.YtkkldicehapklaaGreat
open Go.RowKit
section
variable{P:Program}{Γ:bX}
structure Lg(Γ:bX)(e ae:aE)(b:Nat)(cs:List I):Prop where
 ends:Ends e ae
 ok:gV Γ ae
 bx:ae.bx=e.bx
 gi:ae.gi=e.gi
 at_:ij ae b cs
 other:∀c ds,c≠b->ij e c ds->ij ae c ds
def Ld(P:Program)(o:Oper)(S:Nat->Option I)(nm:Nat)(cs aZ:List I):Prop:=
 ∀(Γ:bX)(a:Act)(e:aE),gV Γ e->(∀x∈o.op.operands,∀d,ev S x=some d->bC e (a.eval x) d)->(e.bx nm≠none->ij e nm cs)->
  e.bx nm≠none/\o.wp P a e.w (λ bF aA=>bF=a.put o.dst undef/\∃ae,ae.w=aA/\Lg Γ e ae nm aZ) (λ _ _ _=>False)
structure K0(Γ:bX)(e ae:aE)(g:Nat)(aa:Gr)(v:Value)(d:I):Prop where
 ends:Ends e ae
 ok:gV Γ ae
 bx:ae.bx=e.bx
 gi:∀h,ae.gi h=if h=g then some aa else e.gi h
 other:∀c ds,ij e c ds->ij ae c ds
 rep:bC ae v d
def GStep(P:Program)(o:Oper)(S:Nat->Option I)(g:Nat)(G0:Option Gr)(aa:Gr)(d:I):Prop:=
 ∀(Γ:bX)(a:Act)(e:aE),gV Γ e->(∀x∈o.op.operands,∀d,ev S x=some d->bC e (a.eval x) d)->e.gi g=G0->
  o.wp P a e.w (λ bF aA=>∃v ae,bF=a.put o.dst v/\ae.w=aA/\K0 Γ e ae g aa v d) (λ _ _ _=>False)
def Dj(o:Oper)(aR:List (Nat×Nat))(g:Nat):Bool:=match kv aR g with
 |none=>true
 |some t=>o.op.operands.toList.any λ|.tmp aH=>Nat.beq aH t|_=>false
def Cx(l0:List Oper)(o:Oper):Bool:=match o.dst with
 |none=>false
 |some t=>l0.all λ p=>match p.dst with
  |some _=>true
  |none=>p.after.any λ e=>Region.binds .any e&&(match(l0[e.on]?).bind (·.dst) with|some aH=>Nat.beq aH t|none=>false)
def uW(o:Oper):Bool:=match o.op with
 |.call _=>true
 |_=>false
def Gl(l0:List Oper)(o:Oper)(ix:Nat):Bool:=(List.range ix).all λ k=>match l0[k]? with
 |some p=>p.dst.isSome||o.after.any λ e=>Region.binds .any e&&e.on==k
 |none=>true
theorem VD{l0:List Oper}{o p:Oper}{ix k:Nat}(h:Gl l0 o ix=true)(hk:k<ix)(G:l0[k]?=some p)(K:p.dst=none):∃e∈o.after,Region.binds .any e=true/\e.on=k:=by have h1:=List.all_eq_true.1 h k (List.mem_range.2 hk);simp only[G,K,Option.isSome_none,Bool.false_or] at h1;obtain⟨e,he,hb⟩:=Array.any_eq_true'.1 h1;simp only[Bool.and_eq_true,beq_iff_eq] at hb;exact⟨e,he,hb⟩
def co(P:Program)(n:Nat)(l0:List Oper)(B B0:List (Nat×List I))(aB:St->Prop):Nat->List Nat->List (Nat×Nat)->List Oper->St->Prop
 |_,_,_,[],L=>aB L
 |ix,aC,aR,o::rest,L=>(∃d nb,gd l0 o (kv L.s)=some true/\(dM P o (kv L.s) (kv B) d nb\/(Cx l0 o=true/\dM P o (kv L.s) (kv B0) d nb))/\(∀p,nb=some p->kv L.b p.1=none/\kv B p.1=none)/\co P n l0 B B0 aB (ix+1) aC aR rest ((L.box nb).put o.dst d))\/(gd l0 o (kv L.s)=some false/\co P n l0 B B0 aB (ix+1) aC aR rest (L.put o.dst (.p (.raw undef))))\/
  (∃nm cs aZ,gd l0 o (kv L.s)=some true/\o.dst=none/\kv B nm=none/\(aC.contains nm=false\/Gl l0 o ix=true)/\kv L.b nm=some cs/\Ld P o (kv L.s) nm cs aZ/\co P n l0 B B0 aB (ix+1) (nm::aC) aR rest (L.box (some (nm,aZ))))\/
  (∃g aa d t,gd l0 o (kv L.s)=some true/\o.dst=some t/\uW o=true/\Dj o aR g=true/\GStep P o (kv L.s) g (kv L.g g) aa d/\co P n l0 B B0 aB (ix+1) aC ((g,t)::aR) rest ((L.G9 g aa).put o.dst d))
def dV(l:List Oper)(aw:Nat->I)(S:Nat->Option I):Nat->Nat->Option I
 |0=>S
 |i+1=>λ t=>if(l[i]?).bind (·.dst)=some t then some (aw i) else dV l aw S i t
def vY(nb:Option (Nat×List I))(B:Nat->Option (List I)):Nat->Option (List I):=λ b=>match nb with
 |some p=>if p.1=b then some p.2 else B b
 |none=>B b
def dD(N:Nat->Option (Nat×List I))(B:Nat->Option (List I)):Nat->Nat->Option (List I)
 |0=>B
 |i+1=>vY (N i) (dD N B i)
def B6(m:Option (Nat×Gr))(aa:Nat->Option Gr):Nat->Option Gr:=λ h=>match m with
 |some p=>if p.1=h then some p.2 else aa h
 |none=>aa h
def en(am:Nat->Option (Nat×Gr))(aa:Nat->Option Gr):Nat->Nat->Option Gr
 |0=>aa
 |i+1=>B6 (am i) (en am aa i)
def we(m:Option (Nat×Gr))(t:Option Nat)(aR:List (Nat×Nat)):List (Nat×Nat):=match m with
 |some p=>match t with
  |some aH=>(p.1,aH)::aR
  |none=>aR
 |none=>aR
def gz(l:List Oper)(am:Nat->Option (Nat×Gr))(aR:List (Nat×Nat)):Nat->List (Nat×Nat)
 |0=>aR
 |i+1=>we (am i) ((l[i]?).bind (·.dst)) (gz l am aR i)
theorem Qz(m:Option (Nat×Gr))(am:Nat->Option (Nat×Gr))(aa:Nat->Option Gr):∀i,en (λ j=>if j=0 then m else am (j-1)) aa (i+1)=en am (B6 m aa) i
 |0=>by simp[en]
 |i+1=>by
  rw[en,Qz m am aa i,en];simp
theorem Yx(o:Oper)(l:List Oper)(m:Option (Nat×Gr))(am:Nat->Option (Nat×Gr))(aR:List (Nat×Nat)):∀i,gz (o::l) (λ j=>if j=0 then m else am (j-1)) aR (i+1)=gz l am (we m o.dst aR) i
 |0=>by simp[gz]
 |i+1=>by
  rw[gz,Yx o l m am aR i,gz];simp
def GA(p:Option (Nat×List I))(aC:List Nat):List Nat:=match p with
 |some q=>q.1::aC
 |none=>aC
def gp(bT:Nat->Bool)(N:Nat->Option (Nat×List I))(aC:List Nat):Nat->List Nat
 |0=>aC
 |i+1=>bif bT i then GA (N i) (gp bT N aC i) else gp bT N aC i
def uP(P:Program)(l0:List Oper)(ix:Nat)(B B0:Nat->Option (List I))(S:Nat->Option I)(Bi:Nat->Option (List I))(Gi:Nat->Option Gr)(aC:List Nat)(aR:List (Nat×Nat))(o:Oper)(d:I)(nb:Option (Nat×List I))(aH:Bool)(m:Option (Nat×Gr)):Prop:=
 (gd l0 o S=some true/\(dM P o S B d nb\/(Cx l0 o=true/\dM P o S B0 d nb))/\(∀p,nb=some p->Bi p.1=none/\B p.1=none)/\aH=false/\m=none)\/(gd l0 o S=some false/\d=.p (.raw undef)/\nb=none/\aH=false/\m=none)\/
 (∃nm cs aZ,gd l0 o S=some true/\o.dst=none/\B nm=none/\(aC.contains nm=false\/Gl l0 o ix=true)/\Bi nm=some cs/\Ld P o S nm cs aZ/\d=.any/\nb=some (nm,aZ)/\aH=true/\m=none)\/
 (∃g aa t,gd l0 o S=some true/\o.dst=some t/\uW o=true/\Dj o aR g=true/\GStep P o S g (Gi g) aa d/\nb=none/\aH=false/\m=some (g,aa))
theorem Yr(aH:Bool)(nb:Option (Nat×List I))(bT:Nat->Bool)(N:Nat->Option (Nat×List I))(aC:List Nat):∀i,gp (λ j=>if j=0 then aH else bT (j-1)) (λ j=>if j=0 then nb else N (j-1)) aC (i+1)=gp bT N (bif aH then GA nb aC else aC) i
 |0=>by simp[gp]
 |i+1=>by
  rw[gp,Yr aH nb bT N aC i,gp];simp
theorem QD(o:Oper)(l:List Oper)(d:I)(aw:Nat->I)(S:Nat->Option I):∀i,dV (o::l) (λ j=>if j=0 then d else aw (j-1)) S (i+1)=dV l aw (λ t=>if o.dst=some t then some d else S t) i
 |0=>by funext t;simp[dV]
 |i+1=>by
  rw[dV,QD o l d aw S i,dV];simp
theorem Qv(nb:Option (Nat×List I))(N:Nat->Option (Nat×List I))(B:Nat->Option (List I)):∀i,dD (λ j=>if j=0 then nb else N (j-1)) B (i+1)=dD N (vY nb B) i
 |0=>by funext t;simp[dD]
 |i+1=>by
  rw[dD,Qv nb N B i,dD];simp
theorem agI(L:St)(dst:Option Nat)(d:I):kv (L.put dst d).s=λ t=>if dst=some t then some d else kv L.s t:=by
 funext t
 cases dst with
 |none=>simp[St.put]
 |some aH=>simp[St.put,dc]
theorem agG(L:St)(nb:Option (Nat×List I)):kv (L.box nb).b=vY nb (kv L.b):=by
 funext b
 cases nb with
 |none=>rfl
 |some p=>obtain⟨x,y⟩:=p;simp[St.box,dc,vY]
theorem aaZ(L:St)(nb:Option (Nat×List I)):(L.box nb).s=L.s:=by cases nb<;>rfl
theorem aiR(L:St)(dst:Option Nat)(d:I):(L.put dst d).b=L.b:=by cases dst<;>rfl
theorem aiS(L:St)(dst:Option Nat)(d:I):(L.put dst d).g=L.g:=by cases dst<;>rfl
theorem aaY(L:St)(nb:Option (Nat×List I)):(L.box nb).g=L.g:=by cases nb<;>rfl
def St.grow(L:St):Option (Nat×Gr)->St
 |some p=>L.G9 p.1 p.2
 |none=>L
theorem agH(L:St)(m:Option (Nat×Gr)):kv (L.grow m).g=B6 m (kv L.g):=by
 funext h
 cases m with
 |none=>rfl
 |some p=>obtain⟨x,y⟩:=p;simp[St.grow,St.G9,dc,B6]
theorem acW(L:St)(m:Option (Nat×Gr)):(L.grow m).s=L.s:=by cases m<;>rfl
theorem acV(L:St)(m:Option (Nat×Gr)):(L.grow m).b=L.b:=by cases m<;>rfl
theorem co.extract{n:Nat}{l0:List Oper}{B B0:List (Nat×List I)}{aB:St->Prop}:∀(l:List Oper)(ix:Nat)(aC:List Nat)(aR:List (Nat×Nat))(L:St),co P n l0 B B0 aB ix aC aR l L->
 ∃(aw:Nat->I)(N:Nat->Option (Nat×List I))(bT:Nat->Bool)(am:Nat->Option (Nat×Gr))(j5:St),aB j5/\kv j5.g=en am (kv L.g) l.length/\kv j5.s=dV l aw (kv L.s) l.length/\kv j5.b=dD N (kv L.b) l.length/\
  ∀i o,l[i]?=some o->uP P l0 (ix+i) (kv B) (kv B0) (dV l aw (kv L.s) i) (dD N (kv L.b) i) (en am (kv L.g) i) (gp bT N aC i) (gz l am aR i) o (aw i) (N i) (bT i) (am i)
 |[],ix,aC,aR,L,h=>⟨λ _=>.any,λ _=>none,λ _=>false,λ _=>none,L,h,rfl,rfl,rfl,λ i o hi=>by simp at hi⟩
 |o::l,ix,aC,aR,L,h=>by
  have key:∀(d:I)(nb:Option (Nat×List I))(aH:Bool)(m:Option (Nat×Gr)),uP P l0 ix (kv B) (kv B0) (kv L.s) (kv L.b) (kv L.g) aC aR o d nb aH m->co P n l0 B B0 aB (ix+1) (bif aH then GA nb aC else aC) (we m o.dst aR) l (((L.box nb).grow m).put o.dst d)->∃(aw:Nat->I)(N:Nat->Option (Nat×List I))(bT:Nat->Bool)(am:Nat->Option (Nat×Gr))(j5:St),aB j5/\kv j5.g=en am (kv L.g) (o::l).length/\kv j5.s=dV (o::l) aw (kv L.s) (o::l).length/\kv j5.b=dD N (kv L.b) (o::l).length/\
   ∀i o',(o::l)[i]?=some o'->uP P l0 (ix+i) (kv B) (kv B0) (dV (o::l) aw (kv L.s) i) (dD N (kv L.b) i) (en am (kv L.g) i) (gp bT N aC i) (gz (o::l) am aR i) o' (aw i) (N i) (bT i) (am i):=by
   intro d nb aH m Z hr;obtain⟨aw,N,bT,am,j5,h1,u,J,h4,h5⟩:=co.extract l _ _ _ _ hr;have es:kv (((L.box nb).grow m).put o.dst d).s=λ t=>if o.dst=some t then some d else kv L.s t:=by rw[agI,acW,aaZ]
   have eb:kv (((L.box nb).grow m).put o.dst d).b=vY nb (kv L.b):=by rw[aiR,acV,agG]
   have eg:kv (((L.box nb).grow m).put o.dst d).g=B6 m (kv L.g):=by rw[aiS,agH,aaY]
   refine⟨λ j=>if j=0 then d else aw (j-1),λ j=>if j=0 then nb else N (j-1),λ j=>if j=0 then aH else bT (j-1),λ j=>if j=0 then m else am (j-1),j5,h1,?_,?_,?_,λ i o' hi=>?_⟩
   ·rw[List.length_cons,Qz,<-eg];exact u
   ·rw[List.length_cons,QD,<-es];exact J
   ·rw[List.length_cons,Qv,<-eb];exact h4
   ·cases i with
    |zero=>simp only[List.getElem?_cons_zero,Option.some.injEq] at hi;subst hi;exact Z
    |succ i=>
     have:=h5 i o' (by simpa using hi);rw[show ix+1+i=ix+(i+1) by omega] at this;rw[QD,Qv,Qz,Yr,Yx,<-es,<-eb,<-eg]
     simpa using this
  rcases h with⟨d,nb,hg,hq,hf,hr⟩|⟨hg,hr⟩|⟨nm,cs,aZ,hg,K,hb,hD,F,T,hr⟩|⟨g,aa,d,t,hg,K,dw,hL,T,hr⟩
  ·exact key d nb false none (.inl ⟨hg,hq,hf,rfl,rfl⟩) hr
  ·exact key (.p (.raw undef)) none false none (.inr (.inl ⟨hg,rfl,rfl,rfl,rfl⟩)) (by simpa[St.box,St.grow,we] using hr)
  ·exact key .any (some (nm,aZ)) true none (.inr (.inr (.inl ⟨nm,cs,aZ,hg,K,hb,hD,F,T,rfl,rfl,rfl,rfl⟩))) (by rw[K];exact hr)
  ·exact key d none false (some (g,aa)) (.inr (.inr (.inr ⟨g,aa,t,hg,K,dw,hL,T,rfl,rfl,rfl⟩))) (by rw[K] at hr⊢;exact hr)
theorem KB{ops:Array Oper}{n:Nat}(aV:qj ops n){aw:Nat->I}{S:Nat->Option I}{j:Nat}{oj:Oper}{t:Tmp}(hj:ops[j]?=some oj)(ht:oj.dst=some t):∀i,j<i->dV ops.toList aw S i t=some (aw j)
 |0,h=>by omega
 |i+1,h=>by
  by_cases i8:j=i
  ·subst i8;simp[dV,hj,ht]
  ·simp only[dV];rw[if_neg,KB aV hj ht i (by omega)];intro he;rcases ho:ops[i]? with _|oi
   ·simp[ho] at he
   ·exact aV.ne j i oj oi t hj ho i8 ht (by simpa[ho] using he)
theorem KC{ops:Array Oper}{aw:Nat->I}{S:Nat->Option I}{t:Tmp}:∀i,(∀j oj,j<i->ops[j]?=some oj->oj.dst≠some t)->dV ops.toList aw S i t=S t
 |0,_=>rfl
 |i+1,h=>by
  simp only[dV];rw[if_neg,KC i λ j oj hj=>h j oj (by omega)];intro he;rcases ho:ops[i]? with _|oi
  ·simp[ho] at he
  ·exact h i oi (by omega) ho (by simpa[ho] using he)
theorem sc{N:Nat->Option (Nat×List I)}{B:Nat->Option (List I)}{b:Nat}:∀i,dD N B i b=none->B b=none/\∀j p,j<i->N j=some p->p.1≠b
 |0,h=>⟨h,λ j p hj=>by omega⟩
 |i+1,h=>by
  simp only[dD,vY] at h;have step:dD N B i b=none/\∀p,N i=some p->p.1≠b:=by
   split at h
   ·rename_i p G;split at h
    ·cases h
    ·rename_i aW;exact⟨h,λ q hq=>by rw[G] at hq;cases hq;exact aW⟩
   ·rename_i G;exact⟨h,λ q hq=>by rw[G] at hq;cases hq⟩
  obtain⟨h1,u⟩:=sc i step.1;refine⟨h1,λ j p hj G=>?_⟩
  by_cases e:j=i
  ·subst e;exact step.2 p G
  ·exact u j p (by omega) G
theorem Kz{N:Nat->Option (Nat×List I)}{B:Nat->Option (List I)}{b:Nat}{cs:List I}:∀i,dD N B i b=some cs->(B b=some cs/\∀j p,j<i->N j=some p->p.1≠b)\/∃j,j<i/\N j=some (b,cs)/\∀k p,j<k->k<i->N k=some p->p.1≠b
 |0,h=>.inl ⟨h,λ j p hj=>by omega⟩
 |i+1,h=>by
  simp only[dD,vY] at h;have ext:(∀p,N i=some p->p.1≠b)->dD N B i b=some cs->(B b=some cs/\∀j p,j<i+1->N j=some p->p.1≠b)\/∃j,j<i+1/\N j=some (b,cs)/\∀k p,j<k->k<i+1->N k=some p->p.1≠b:=by
   intro hn h;rcases Kz i h with⟨h1,u⟩|⟨j,hj,hq,u⟩
   ·refine .inl ⟨h1,λ j p hj G=>?_⟩
    by_cases e:j=i
    ·subst e;exact hn p G
    ·exact u j p (by omega) G
   ·refine .inr ⟨j,by omega,hq,λ k p hk mS G=>?_⟩
    by_cases e:k=i
    ·subst e;exact hn p G
    ·exact u k p hk (by omega) G
  split at h
  ·rename_i p G;split at h
   ·rename_i he;cases h;refine .inr ⟨i,by omega,by rw[G,<-he],λ k p hk mS=>by omega⟩
   ·rename_i aW;exact ext (λ q hq=>by rw[G] at hq;cases hq;exact aW) h
  ·rename_i G;exact ext (λ q hq=>by rw[G] at hq;cases hq) h
theorem Qy{bT:Nat->Bool}{N:Nat->Option (Nat×List I)}{aC:List Nat}:∀{i j:Nat}{p:Nat×List I},j<i->bT j=true->N j=some p->p.1∈gp bT N aC i
 |0,j,p,h,_,_=>by omega
 |i+1,j,p,h,hu,G=>by
  by_cases e:j=i
  ·subst e;simp[gp,hu,G,GA]
  ·have:=Qy (aC:=aC) (i:=i) (j:=j) (p:=p) (by omega) hu G;rw[gp];cases bT i
   ·exact this
   ·cases N i with
    |none=>exact this
    |some q=>exact List.mem_cons_of_mem _ this
theorem Hd{am:Nat->Option (Nat×Gr)}{aa:Nat->Option Gr}{h:Nat}:∀i,(en am aa i h=aa h/\∀j p,j<i->am j=some p->p.1≠h)\/∃j Gj,j<i/\am j=some (h,Gj)/\en am aa i h=some Gj/\∀k p,j<k->k<i->am k=some p->p.1≠h
 |0=>.inl ⟨rfl,λ j p hj=>by omega⟩
 |i+1=>by
  have ext:(∀p,am i=some p->p.1≠h)->en am aa (i+1) h=en am aa i h:=by
   intro hn;simp only[en,B6];cases hm:am i with
   |none=>rfl
   |some p=>simp only;rw[if_neg (hn p hm)]
  by_cases hn:∀p,am i=some p->p.1≠h
  ·rw[ext hn];rcases Hd (am:=am) (aa:=aa) (h:=h) i with⟨h1,u⟩|⟨j,Gj,hj,hm,T,u⟩
   ·refine .inl ⟨h1,λ j p hj G=>?_⟩
    by_cases e:j=i
    ·subst e;exact hn p G
    ·exact u j p (by omega) G
   ·refine .inr ⟨j,Gj,by omega,hm,T,λ k p hk mS G=>?_⟩
    by_cases e:k=i
    ·subst e;exact hn p G
    ·exact u k p hk (by omega) G
  ·obtain⟨p,G,he⟩:∃p,am i=some p/\p.1=h:=by
    refine Classical.byContradiction λ F=>hn λ p G he=>F ⟨p,G,he⟩
   refine .inr ⟨i,p.2,by omega,by rw[G,<-he],by simp[en,B6,G,he],λ k p hk mS=>by omega⟩
theorem Yw{l:List Oper}{am:Nat->Option (Nat×Gr)}{h:Nat}:∀{i j:Nat}{p:Nat×Gr}{t:Nat},j<i->am j=some p->p.1=h->(l[j]?).bind (·.dst)=some t->(∀k q,j<k->k<i->am k=some q->q.1≠h)->kv (gz l am [] i) h=some t
 |0,j,p,t,hj,_,_,_,_=>by omega
 |i+1,j,p,t,hj,G,hh,ht,hn=>by
  by_cases e:j=i
  ·subst e;simp[gz,we,G,ht,dc,hh]
  ·have ih:=Yw (l:=l) (am:=am) (h:=h) (i:=i) (j:=j) (p:=p) (t:=t) (by omega) G hh ht (λ k q hk mS hq=>hn k q hk (by omega) hq);simp only[gz];cases hm:am i with
   |none=>simpa[we] using ih
   |some q=>
    have aW:=hn i q (by omega) (by omega) hm;cases K:(l[i]?).bind (·.dst) with
    |none=>simpa[we] using ih
    |some aH=>simp only[we,dc];rw[if_neg aW];exact ih
structure lp(Γ:bX)(L:St)(ops:Array Oper)(aw:Nat->I)(N:Nat->Option (Nat×List I))(bT:Nat->Bool)(am:Nat->Option (Nat×Gr))(a0:Act)(aK:Array Bool)(e:aE)(a:Act):Prop where
 l5:aK.size=ops.size
 size:a.tmps.size=Γ.n
 df:a.defers=Γ.dr
 closed:∀(i:Nat)(o:Oper),ops[i]?=some o->aK.getD i false=true->∀x∈o.after,Region.binds .any x=true->aK.getD x.on false=true
 xh:∀(i:Nat)(o:Oper)(t:Tmp),ops[i]?=some o->aK.getD i false=true->o.dst=some t->bC e (gH a t) (aw i)
 kept:∀t,(∀(i:Nat)(o:Oper),ops[i]?=some o->aK.getD i false=true->o.dst≠some t)->gH a t=gH a0 t
 dj:∀t d,kv L.s t=some d->bC e (gH a0 t) d
 boxes:∀b cs,kv L.b b=some cs->(∀i p,aK.getD i false=true->N i=some p->p.1≠b)->ij e b cs
 news:∀i p,aK.getD i false=true->N i=some p->(∀k q,i<k->aK.getD k false=true->N k=some q->q.1≠p.1)->ij e p.1 p.2
 ee:∀b,kv L.b b=none->(∀i p,aK.getD i false=true->bT i=false->N i=some p->p.1≠b)->e.bx b=none
 gs:∀g,(∀i p,aK.getD i false=true->am i=some p->p.1≠g)->e.gi g=kv L.g g
 gw:∀i p,aK.getD i false=true->am i=some p->(∀k q,i<k->aK.getD k false=true->am k=some q->q.1≠p.1)->e.gi p.1=some p.2
 env:gV Γ e
theorem pC.ends{e ae:aE}{v:Value}{d:I}{nb:Option (Nat×List I)}(h:pC e ae v d nb)(hf:∀p,nb=some p->e.bx p.1=none):Ends e ae:=by
 cases nb with
 |none=>exact h.1.ends
 |some p=>obtain⟨e1,k,hg,h1,u,J,rfl,h5,h6⟩:=h;exact hg.ends.trans (vZ (by rw[hg.bx];exact hf _ rfl))
theorem pC.rep{e ae:aE}{v:Value}{d:I}{nb:Option (Nat×List I)}(h:pC e ae v d nb):bC ae v d:=by
 cases nb with
 |none=>exact h.2
 |some p=>obtain⟨e1,k,hg,h1,u,J,rfl,h5,h6⟩:=h;exact h6
theorem pC.box{e ae:aE}{v:Value}{d:I}{nb:Option (Nat×List I)}(h:pC e ae v d nb)(hf:∀p,nb=some p->e.bx p.1=none){b:Nat}{cs:List I}(hb:ij e b cs):ij ae b cs:=by
 cases nb with
 |none=>exact h.1.box hb
 |some p=>obtain⟨e1,k,hg,h1,u,J,rfl,h5,h6⟩:=h;exact(hg.box hb).ends (vZ (by rw[hg.bx];exact hf _ rfl)) rfl
theorem pC.qq{e ae:aE}{v:Value}{d:I}{nb:Option (Nat×List I)}(h:pC e ae v d nb)(aV:gV Γ e)(hf:∀p,nb=some p->e.bx p.1=none):gV Γ ae/\(∀g,ae.gi g=e.gi g)/\(∀b,(∀p,nb=some p->p.1≠b)->ae.bx b=e.bx b):=by
 cases nb with
 |none=>exact⟨h.1.ok aV,λ g=>by rw[h.1.gi],λ b _=>by rw[h.1.bx]⟩
 |some p=>
  obtain⟨e1,k,hg,h1,u,J,rfl,h5,h6⟩:=h;have sN:=hg.ok aV;have ia:e1.gr k=none:=by
   rw[hg.gr];rcases i7:e.gr k with _|g
   ·rfl
   ·obtain⟨_,_,_,aY,_⟩:=aV.gr k g i7;omega
  have dt:∀c,e1.bx c≠some k:=λ c tT=>by
   rw[hg.bx] at tT;have:=(aV.bx c k tT).1;omega
  refine⟨⟨sN.kept,sN.cl,λ c j hj=>?_,λ c aT j h4 CD=>?_,sN.gr,λ c j hj=>(vZ (by rw[hg.bx];exact hf p rfl)).bx c j (sN.kb c j hj)⟩,λ g=>by show e1.gi g=_;rw[hg.gi],λ b hb=>?_⟩
  ·have fb:(if c=p.1 then some k else e1.bx c)=some j:=hj;split at fb
   ·cases fb;exact⟨u,.inl (Nat.le_trans aV.kept.size h1),J,ia⟩
   ·exact sN.bx c j fb
  ·have bB:(if c=p.1 then some k else e1.bx c)=some j:=h4;have cj:(if aT=p.1 then some k else e1.bx aT)=some j:=CD
   by_cases H4:c=p.1<;>by_cases e2:aT=p.1
   ·rw[H4,e2]
   ·rw[if_pos H4] at bB;rw[if_neg e2] at cj;cases bB;exact absurd cj (dt aT)
   ·rw[if_neg H4] at bB;rw[if_pos e2] at cj;cases cj;exact absurd bB (dt c)
   ·rw[if_neg H4] at bB;rw[if_neg e2] at cj;exact sN.inj c aT j bB cj
  ·show(if b=p.1 then some k else e1.bx b)=_;rw[if_neg (λ ae=>hb p rfl ae.symm),hg.bx]
theorem lp.next{L:St}{ops:Array Oper}(aV:qj ops Γ.n){aw:Nat->I}{N:Nat->Option (Nat×List I)}{bT:Nat->Bool}{am:Nat->Option (Nat×Gr)}{a0:Act}{aK:Array Bool}{e ae:aE}{a:Act}(h:lp Γ L ops aw N bT am a0 aK e a)
 {i:Nat}{o:Oper}(hi:ops[i]?=some o)(hr:i∈Region.ready .any ops aK){v:Value}(hq:pC e ae v (aw i) (N i))(hf:∀p,N i=some p->e.bx p.1=none)(hu:bT i=false)(hM:am i=none):
 lp Γ L ops aw N bT am a0 (aK.setIfInBounds i true) ae (a.put o.dst v):=by
 obtain⟨kg,o',cY,dH⟩:=mem_ready.1 hr;rw[hi] at cY;cases cY;obtain⟨kK,dY⟩:=nq kg;have Y:=hq.ends hf;obtain⟨c1,c2,c3⟩:=hq.qq h.env hf;have split:∀j,(aK.setIfInBounds i true).getD j false=true->j=i\/aK.getD j false=true:=λ j hj=>by
  by_cases e:i=j
  ·exact .inl e.symm
  ·rw[getD_set_ne false e] at hj;exact .inr hj
 have uq:(aK.setIfInBounds i true).getD i false=true:=by simp[dY]
 refine⟨by simpa using h.l5,by rw[Kv];exact h.size,by rw[HZ];exact h.df,λ j oj hj Z x hx fO=>?_,λ j oj t hj Z ht=>?_,λ t ht=>?_,λ t d ht=>(h.dj t d ht).next Y,λ b cs hb hn=>hq.box hf (h.boxes b cs hb λ j p Z G=>hn j p (getD_set_true Z) G),λ j p Z G hn=>?_,λ b hb hn=>?_,λ g hn=>by rw[c2];exact h.gs g λ j p Z G=>hn j p (getD_set_true Z) G,λ j p Z G hn=>?_,c1⟩
 ·rcases split j Z with rfl|fl
  ·rw[hi] at hj;cases hj;exact getD_set_true (dH x hx fO)
  ·exact getD_set_true (h.closed j oj hj fl x hx fO)
 ·rcases split j Z with rfl|fl
  ·rw[hi] at hj;cases hj;rw[ht,Hc (by rw[h.size];exact aV.lt _ _ _ hi ht)];exact hq.rep
  ·have aW:j≠i:=λ e=>by subst e;rw[kK] at fl;cases fl
   rw[BZ (λ e=>aV.ne j i oj o t hj hi aW ht e)];exact(h.xh j oj t hj fl ht).next Y
 ·rw[BZ (ht i o hi uq)];exact h.kept t λ j oj hj Z=>ht j oj hj (getD_set_true Z)
 ·rcases split j Z with rfl|fl
  ·rw[G] at hq;obtain⟨e1,k,hg,h1,u,J,rfl,h5,h6⟩:=hq;exact h5
  ·exact hq.box hf (h.news j p fl G λ k q hk eV cL=>hn k q hk (getD_set_true eV) cL)
 ·rw[c3 b (λ p G=>hn i p uq hu G)];exact h.ee b hb λ j p Z Bq G=>hn j p (getD_set_true Z) Bq G
 ·rw[c2];rcases split j Z with rfl|fl
  ·rw[hM] at G;cases G
  ·exact h.gw j p fl G λ k q hk eV cL=>hn k q hk (getD_set_true eV) cL
theorem lp.ahq{L:St}{ops:Array Oper}{aw:Nat->I}{N:Nat->Option (Nat×List I)}{bT:Nat->Bool}{am:Nat->Option (Nat×Gr)}{a0:Act}{aK:Array Bool}{e ae:aE}{a:Act}(h:lp Γ L ops aw N bT am a0 aK e a)
 {i:Nat}{o:Oper}(hi:ops[i]?=some o)(K:o.dst=none)(hr:i∈Region.ready .any ops aK){nm:Nat}{aZ:List I}(hN:N i=some (nm,aZ))(hM:am i=none)(FP:∀j p,aK.getD j false=true->i<j->N j=some p->p.1≠nm)(hu:Lg Γ e ae nm aZ):
 lp Γ L ops aw N bT am a0 (aK.setIfInBounds i true) ae a:=by
 obtain⟨kg,o',cY,dH⟩:=mem_ready.1 hr;rw[hi] at cY;cases cY;obtain⟨kK,dY⟩:=nq kg;have split:∀j,(aK.setIfInBounds i true).getD j false=true->j=i\/aK.getD j false=true:=λ j hj=>by
  by_cases e:i=j
  ·exact .inl e.symm
  ·rw[getD_set_ne false e] at hj;exact .inr hj
 have uq:(aK.setIfInBounds i true).getD i false=true:=by simp[dY]
 refine⟨by simpa using h.l5,h.size,h.df,λ j oj hj Z x hx fO=>?_,λ j oj t hj Z ht=>?_,λ t ht=>?_,λ t d ht=>(h.dj t d ht).next hu.ends,λ b cs hb hn=>?_,λ j p Z G hn=>?_,λ b hb hn=>?_,λ g hn=>by rw[hu.gi];exact h.gs g λ j p Z G=>hn j p (getD_set_true Z) G,λ j p Z G hn=>?_,hu.ok⟩
 ·rcases split j Z with rfl|fl
  ·rw[hi] at hj;cases hj;exact getD_set_true (dH x hx fO)
  ·exact getD_set_true (h.closed j oj hj fl x hx fO)
 ·rcases split j Z with rfl|fl
  ·rw[hi] at hj;cases hj;rw[K] at ht;cases ht
  ·exact(h.xh j oj t hj fl ht).next hu.ends
 ·exact h.kept t λ j oj hj Z=>ht j oj hj (getD_set_true Z)
 ·exact hu.other b cs (λ ae=>hn i _ uq hN ae.symm) (h.boxes b cs hb λ j p Z G=>hn j p (getD_set_true Z) G)
 ·rcases split j Z with rfl|fl
  ·rw[hN] at G;cases G;exact hu.at_
  ·have i8:j≠i:=λ e=>by subst e;rw[kK] at fl;cases fl
   have aW:p.1≠nm:=by
    rcases Nat.lt_or_ge j i with h1|h1
    ·exact λ ae=>hn i _ h1 uq hN ae.symm
    ·exact FP j p fl (by omega) G
   exact hu.other p.1 p.2 aW (h.news j p fl G λ k q hk eV cL=>hn k q hk (getD_set_true eV) cL)
 ·rw[hu.bx];exact h.ee b hb λ j p Z Bq G=>hn j p (getD_set_true Z) Bq G
 ·rw[hu.gi];rcases split j Z with rfl|fl
  ·rw[hM] at G;cases G
  ·exact h.gw j p fl G λ k q hk eV cL=>hn k q hk (getD_set_true eV) cL
theorem lp.ahp{L:St}{ops:Array Oper}(aV:qj ops Γ.n){aw:Nat->I}{N:Nat->Option (Nat×List I)}{bT:Nat->Bool}{am:Nat->Option (Nat×Gr)}{a0:Act}{aK:Array Bool}{e ae:aE}{a:Act}(h:lp Γ L ops aw N bT am a0 aK e a)
 {i:Nat}{o:Oper}(hi:ops[i]?=some o)(hr:i∈Region.ready .any ops aK){g:Nat}{aa:Gr}(hN:N i=none)(hM:am i=some (g,aa))(FP:∀j p,aK.getD j false=true->i<j->am j=some p->p.1≠g){v:Value}(hu:K0 Γ e ae g aa v (aw i)):
 lp Γ L ops aw N bT am a0 (aK.setIfInBounds i true) ae (a.put o.dst v):=by
 obtain⟨kg,o',cY,dH⟩:=mem_ready.1 hr;rw[hi] at cY;cases cY;obtain⟨kK,dY⟩:=nq kg;have split:∀j,(aK.setIfInBounds i true).getD j false=true->j=i\/aK.getD j false=true:=λ j hj=>by
  by_cases e:i=j
  ·exact .inl e.symm
  ·rw[getD_set_ne false e] at hj;exact .inr hj
 have uq:(aK.setIfInBounds i true).getD i false=true:=by simp[dY]
 refine⟨by simpa using h.l5,by rw[Kv];exact h.size,by rw[HZ];exact h.df,λ j oj hj Z x hx fO=>?_,λ j oj t hj Z ht=>?_,λ t ht=>?_,λ t d ht=>(h.dj t d ht).next hu.ends,λ b cs hb hn=>hu.other b cs (h.boxes b cs hb λ j p Z G=>hn j p (getD_set_true Z) G),λ j p Z G hn=>?_,λ b hb hn=>?_,λ bD hn=>?_,λ j p Z G hn=>?_,hu.ok⟩
 ·rcases split j Z with rfl|fl
  ·rw[hi] at hj;cases hj;exact getD_set_true (dH x hx fO)
  ·exact getD_set_true (h.closed j oj hj fl x hx fO)
 ·rcases split j Z with rfl|fl
  ·rw[hi] at hj;cases hj;rw[ht,Hc (by rw[h.size];exact aV.lt _ _ _ hi ht)];exact hu.rep
  ·have aW:j≠i:=λ e=>by subst e;rw[kK] at fl;cases fl
   rw[BZ (λ e=>aV.ne j i oj o t hj hi aW ht e)];exact(h.xh j oj t hj fl ht).next hu.ends
 ·rw[BZ (ht i o hi uq)];exact h.kept t λ j oj hj Z=>ht j oj hj (getD_set_true Z)
 ·rcases split j Z with rfl|fl
  ·rw[hN] at G;cases G
  ·exact hu.other p.1 p.2 (h.news j p fl G λ k q hk eV cL=>hn k q hk (getD_set_true eV) cL)
 ·rw[hu.bx];exact h.ee b hb λ j p Z Bq G=>hn j p (getD_set_true Z) Bq G
 ·rw[hu.gi,if_neg (λ ae=>hn i _ uq hM ae.symm)];exact h.gs bD λ j p Z G=>hn j p (getD_set_true Z) G
 ·rcases split j Z with rfl|fl
  ·rw[hM] at G;cases G;rw[hu.gi];simp
  ·have i8:j≠i:=λ e=>by subst e;rw[kK] at fl;cases fl
   have aW:p.1≠g:=by
    rcases Nat.lt_or_ge j i with h1|h1
    ·exact λ ae=>hn i _ h1 uq hM ae.symm
    ·exact FP j p fl (by omega) G
   rw[hu.gi,if_neg aW];exact h.gw j p fl G λ k q hk eV cL=>hn k q hk (getD_set_true eV) cL
theorem lp.jd{L:St}{ops:Array Oper}(aV:qj ops Γ.n){aw:Nat->I}{N:Nat->Option (Nat×List I)}{bT:Nat->Bool}{am:Nat->Option (Nat×Gr)}{a0:Act}{aK:Array Bool}{e:aE}{a:Act}(h:lp Γ L ops aw N bT am a0 aK e a)
 {i:Nat}{o:Oper}(hi:ops[i]?=some o)(hr:i∈Region.ready .any ops aK):∀t∈o.looksAt ops,∀d,dV ops.toList aw (kv L.s) i t=some d->bC e (gH a t) d:=by
 obtain⟨kg,o',cY,dH⟩:=mem_ready.1 hr;rw[hi] at cY;cases cY;obtain⟨kK,dY⟩:=nq kg;intro t ht d K
 by_cases om:∃(j:Nat)(oj:Oper),j<i/\ops[j]?=some oj/\oj.dst=some t
 ·obtain⟨j,oj,i8,hj,nB⟩:=om;rw[KB aV hj nB i i8] at K;cases K;rcases aV.dep i j o oj t hi hj (by omega) nB ht with⟨_,x,hx,hb,mU⟩|⟨bD,_⟩
  ·exact h.xh j oj t hj (mU▸dH x hx hb) nB
  ·omega
 ·rw[KC _ λ j oj i8 hj nB=>om ⟨j,oj,i8,hj,nB⟩] at K;rw[h.kept t λ j oj hj Z nB=>?_]
  ·exact h.dj t d K
  ·have i8:j≠i:=λ e=>by subst e;rw[kK] at Z;cases Z
   rcases aV.dep i j o oj t hi hj (Ne.symm i8) nB ht with⟨bD,_⟩|⟨_,x,hx,hb,mU⟩
   ·exact om ⟨j,oj,bD,hj,nB⟩
   ·have:=h.closed j oj hj Z x hx hb;rw[mU,kK] at this;cases this
def j3(ops:Array Oper):Nat->Nat->Nat->Bool
 |0,_,_=>false
 |f+1,t,i=>match ops[t]? with
  |some o=>o.after.any λ e=>Region.binds .any e&&(e.on==i||j3 ops f e.on i)
  |none=>false
def vU(ops:Array Oper)(n:Nat):Bool:=
 (List.range ops.size).all λ t=>decide (t<n)||(List.range t).all λ i=>match ops[t]? with
  |some o=>(o.after.any λ e=>Region.binds .any e&&e.on==i)||(decide (i<n)&&j3 ops ops.size t i)
  |none=>true
theorem QI{ops:Array Oper}{n:Nat}(h:vU ops n=true){t i:Nat}{o:Oper}(ht:ops[t]?=some o)(hn:n<=t)(hi:i<t):(∃e∈o.after,Region.binds .any e=true/\e.on=i)\/(i<n/\j3 ops ops.size t i=true):=by
 have iG:t<ops.size:=(Array.getElem?_eq_some_iff.1 ht).1;have h1:=List.all_eq_true.1 h t (List.mem_range.2 iG);simp only[Bool.or_eq_true,decide_eq_true_eq] at h1;have u:=h1.resolve_left (by omega);have J:=List.all_eq_true.1 u i (List.mem_range.2 hi);rw[ht] at J;simp only[Bool.or_eq_true,Bool.and_eq_true,decide_eq_true_eq] at J;rcases J with J|J
 ·obtain⟨e,he,hb⟩:=Array.any_eq_true'.1 J;simp only[Bool.and_eq_true,beq_iff_eq] at hb;exact .inl ⟨e,he,hb⟩
 ·exact .inr J
theorem BS{ops:Array Oper}{aK:Array Bool}(F:∀(i:Nat)(o:Oper),ops[i]?=some o->aK.getD i false=true->∀x∈o.after,Region.binds .any x=true->aK.getD x.on false=true):∀(f t i:Nat)(o:Oper),ops[t]?=some o->(∀x∈o.after,Region.binds .any x=true->aK.getD x.on false=true)->j3 ops f t i=true->aK.getD i false=true
 |0,_,_,_,_,_,h=>by cases h
 |f+1,t,i,o,ho,iS,h=>by
  simp only[j3,ho] at h;obtain⟨e,he,hb⟩:=Array.any_eq_true'.1 h;simp only[Bool.and_eq_true,Bool.or_eq_true,beq_iff_eq] at hb;have h1:=iS e he hb.1;rcases hb.2 with u|u
  ·rw[<-u];exact h1
  ·cases rL:ops[e.on]? with
   |none=>cases f<;>simp[j3,rL] at u
   |some o2=>exact BS F f e.on i o2 rL (F e.on o2 rL h1) u
theorem KP{P:Program}{ops:Array Oper}{m n:Nat}(aV:qj ops m)(hB:vU ops n=true){Q:Exit->Act->World->Prop}:∀(fuel k:Nat)(aK:Array Bool)(a:Act)(w:World),fuel+k=ops.size->n<=k->aK.size=ops.size->
 (∀i,i<k->aK.getD i false=true)->(∀i,k<=i->i<ops.size->aK.getD i true=false)->wpList P ops Q (ops.toList.drop k) a w->wpAny P .any ops Q fuel aK a w
 |0,k,aK,a,w,hf,hn,T,aY,iF,h=>by
  have hr:Region.ready .any ops aK=[]:=by
   rcases hr:Region.ready .any ops aK with _|⟨i,_⟩
   ·rfl
   ·have hm:i∈Region.ready .any ops aK:=by rw[hr];simp
    obtain⟨kg,o,ho,_⟩:=mem_ready.1 hm;have hi:i<ops.size:=(Array.getElem?_eq_some_iff.1 ho).1;have:=aY i (by omega);rw[(nq kg).1] at this;cases this
  refine⟨hr,?_⟩;rw[List.drop_eq_nil_of_le (by simp;omega)] at h;exact h
 |fuel+1,k,aK,a,w,hf,hn,T,aY,iF,h=>by
  have fZ:k<ops.size:=by omega
  have rG:ops[k]?=some ops[k]:=by simp[fZ]
  have vh:k∈Region.ready .any ops aK:=mem_ready.2 ⟨iF k (Nat.le_refl _) fZ,ops[k],rG,λ e he hb=>aY _ (aV.back k ops[k] rG e he hb)⟩;refine⟨(λ h0=>by rw[h0] at vh;cases vh),λ i hi=>?_⟩;obtain⟨kg,o,ho,dH⟩:=mem_ready.1 hi;have dY:i<ops.size:=(Array.getElem?_eq_some_iff.1 ho).1;have NT:i=k:=by
   rcases Nat.lt_trichotomy i k with h1|h1|h1
   ·have:=aY i h1;rw[(nq kg).1] at this;cases this
   ·exact h1
   ·rcases QI hB ho (by omega) h1 with⟨e,he,hb,mU⟩|⟨u,_⟩
    ·have u:=dH e he hb;rw[mU] at u;have J:=iF k (Nat.le_refl _) fZ;rw[(nq J).1] at u;cases u
    ·omega
  subst NT;rw[rG] at ho;cases ho;rw[List.drop_eq_getElem_cons (by simpa using fZ)] at h;have bD:wpList P ops Q (ops[i]::ops.toList.drop (i+1)) a w:=by simpa using h
  refine wpOp_mono (λ bF aA hh=>?_) (Zb rG bD);refine KP aV hB fuel (i+1) _ bF aA (by omega) (by omega) (by simpa using T) (λ j hj=>?_) (λ j hj rE=>?_) hh
  ·by_cases e:i=j
   ·subst e;simp[T,fZ]
   ·rw[getD_set_ne false e];exact aY j (by omega)
  ·rw[getD_set_ne true (by omega)];exact iF j (by omega) rE
def Eo(ops:Array Oper)(n:Nat):Bool:=
 (List.range ops.size).all λ t=>decide (t<n)||(List.range n).all λ i=>match ops[t]? with
  |some o=>(o.after.any λ e=>Region.binds .any e&&e.on==i)||j3 ops ops.size t i
  |none=>true
theorem aaQ{ops:Array Oper}{n:Nat}(h:Eo ops n=true){t i:Nat}{o:Oper}(ht:ops[t]?=some o)(hn:n<=t)(hi:i<n):(∃e∈o.after,Region.binds .any e=true/\e.on=i)\/j3 ops ops.size t i=true:=by
 have iG:t<ops.size:=(Array.getElem?_eq_some_iff.1 ht).1;have h1:=List.all_eq_true.1 h t (List.mem_range.2 iG);simp only[Bool.or_eq_true,decide_eq_true_eq] at h1;have u:=h1.resolve_left (by omega);have J:=List.all_eq_true.1 u i (List.mem_range.2 hi);rw[ht] at J;simp only[Bool.or_eq_true] at J;rcases J with J|J
 ·obtain⟨e,he,hb⟩:=Array.any_eq_true'.1 J;simp only[Bool.and_eq_true,beq_iff_eq] at hb;exact .inl ⟨e,he,hb⟩
 ·exact .inr J
theorem LJ{ops:Array Oper}{n:Nat}(h:vU ops n=true):Eo ops n=true:=by
 refine List.all_eq_true.2 λ t ht=>?_
 by_cases hn:t<n
 ·simp[hn]
 ·simp only[Bool.or_eq_true,decide_eq_true_eq];refine .inr (List.all_eq_true.2 λ i hi=>?_);cases ho:ops[t]? with
  |none=>rfl
  |some o=>
   have dk:i<n:=List.mem_range.1 hi;simp only[Bool.or_eq_true];rcases QI h ho (by omega) (show i<t by omega) with⟨e,he,h1,u⟩|⟨_,h1⟩
   ·refine .inl (Array.any_eq_true'.2 ⟨e,he,?_⟩);simp[h1,u]
   ·exact .inr h1
theorem lp.qq{L:St}{ops:Array Oper}{H:Nat}(aV:qj ops Γ.n){aw:Nat->I}{N:Nat->Option (Nat×List I)}{bT:Nat->Bool}{am:Nat->Option (Nat×Gr)}{a0:Act}{j5:St}(ow:kv j5.s=dV ops.toList aw (kv L.s) H)(TR:kv j5.b=dD N (kv L.b) H)(iF:kv j5.g=en am (kv L.g) H)
 {aK:Array Bool}{a:Act}{e:aE}(bS:lp Γ L ops aw N bT am a0 aK e a)(dH:∀i,i<H->aK.getD i false=true)(iG:∀t,H<=t->t<ops.size->aK.getD t true=false):bE Γ j5 e a:=by
 have sM:∀j,aK.getD j false=true->j<H:=λ j hj=>by
  rcases Nat.lt_or_ge j H with bD|bD
  ·exact bD
  ·rcases Nat.lt_or_ge j ops.size with u|u
   ·have:=iG j bD u;rw[(nq this).1] at hj;cases hj
   ·have J:aK[j]?=none:=Array.getElem?_eq_none (by rw[bS.l5];exact u);simp[J] at hj
 refine⟨bS.size,bS.df,λ t d ht=>?_,λ b cs hb=>?_,λ b hb=>?_,λ g=>?_,bS.env⟩
 ·rw[ow] at ht
  by_cases om:∃(j:Nat)(oj:Oper),j<H/\ops[j]?=some oj/\oj.dst=some t
  ·obtain⟨j,oj,o8,hj,K⟩:=om;rw[KB aV hj K _ o8] at ht;cases ht;exact bS.xh j oj t hj (dH j o8) K
  ·rw[KC _ λ j oj o8 hj K=>om ⟨j,oj,o8,hj,K⟩] at ht;rw[bS.kept t λ j oj hj Z K=>om ⟨j,oj,sM j Z,hj,K⟩];exact bS.dj t d ht
 ·rw[TR] at hb;rcases Kz H hb with⟨h1,u⟩|⟨j,hj,G,u⟩
  ·exact bS.boxes b cs h1 λ j p Z G=>u j p (sM j Z) G
  ·exact bS.news j _ (dH j hj) G λ k q hk Z hq=>u k q hk (sM k Z) hq
 ·rw[TR] at hb;obtain⟨h1,u⟩:=sc H hb;exact bS.ee b h1 λ j p Z _ G=>u j p (sM j Z) G
 ·rw[iF];rcases Hd (am:=am) (aa:=kv L.g) (h:=g) H with⟨h1,u⟩|⟨j,Gj,hj,hm,T,u⟩
  ·rw[h1];exact bS.gs g λ j p Z G=>u j p (sM j Z) G
  ·rw[T];exact bS.gw j _ (dH j hj) hm λ k q hk Z hq=>u k q hk (sM k Z) hq
theorem lp.wanted{L:St}{ops:Array Oper}(aV:qj ops Γ.n){aw:Nat->I}{N:Nat->Option (Nat×List I)}{bT:Nat->Bool}{am:Nat->Option (Nat×Gr)}{a0:Act}{aK:Array Bool}{e:aE}{a:Act}(bS:lp Γ L ops aw N bT am a0 aK e a)
 {i:Nat}{o:Oper}(hi:ops[i]?=some o)(hr:i∈Region.ready .any ops aK){c:Bool}(F:gd ops.toList o (dV ops.toList aw (kv L.s) i)=some c):Region.wanted o (yielded ops a.tmps)=c:=by
 have jG:=bS.jd aV hi hr;unfold gd at F;unfold Region.wanted;split at F
 ·rename_i hg;rw[hg];cases F;rfl
 ·rename_i j want hg;rw[hg];split at F
  ·rename_i t ht;split at F
   ·rename_i b hb;cases F;have h1:(ops[j]?).bind (·.dst)=some t:=by simpa using ht
    have hv:=dg (jG t (Tu (by simp[MU,hg,h1])) _ hb);have:yielded ops a.tmps j=some b:=by rw[KQ,h1];unfold gH at hv;simp only[Option.bind_some,hv,Cl]
    simp only[this];cases b<;>cases want<;>rfl
   ·rename_i b hb;cases F;have h1:(ops[j]?).bind (·.dst)=some t:=by simpa using ht
    have hv:=dg (jG t (Tu (by simp[MU,hg,h1])) _ hb);have:yielded ops a.tmps j=none:=by rw[KQ,h1];unfold gH at hv;simp only[Option.bind_some,hv,Cl]
    simp only[this];cases want<;>rfl
   ·cases F
  ·cases F
theorem D2{L:St}{ops:Array Oper}{H:Nat}(dn sp ok:Nat->Bool)(aV:qj ops Γ.n)(hT:Eo ops H=true)(hH:H<=ops.size){aw:Nat->I}{N:Nat->Option (Nat×List I)}{bT:Nat->Bool}{am:Nat->Option (Nat×Gr)}{B:List (Nat×List I)}{a0:Act}{Q:Exit->Act->World->Prop}(mT:∀i,H<=i->N i=none)(ud:∀i,H<=i->am i=none)(pK:∀i,dn i=true\/sp i=true->N i=none)(wx:∀i,dn i=true\/sp i=true->am i=none)(UY:∀i o,ops[i]?=some o->ok i=true\/sp i=true\/∃s,sp s=true/\j3 ops ops.size i s=true)(Od:(∀i,ok i=true->bT i=false/\am i=none)\/∀i,ok i=true)(oX:∀b cs,kv B b=some cs->kv L.b b=some cs)
 (vl:∀i o,i<H->ops[i]?=some o->dn i=false->sp i=false->ok i=true->uP P ops.toList i (kv B) (kv L.b) (dV ops.toList aw (kv L.s) i) (dD N (kv L.b) i) (en am (kv L.g) i) (gp bT N [] i) (gz ops.toList am [] i) o (aw i) (N i) (bT i) (am i))
 (k9:∀(aK:Array Bool)(a:Act)(e:aE),lp Γ L ops aw N bT am a0 aK e a->(∀i,i<H->aK.getD i false=true)->(∀t,H<=t->t<ops.size->aK.getD t true=false)->(∀s,sp s=true->aK.getD s false=false)->wpAny P .any ops Q (ops.size-H) aK a e.w)
 (rN:∀(fuel:Nat)(aK:Array Bool)(a:Act)(e:aE)(i:Nat),sp i=true->fuel+1=m6 aK->i∈Region.ready .any ops aK->lp Γ L ops aw N bT am a0 aK e a->(∀t,H<=t->t<ops.size->aK.getD t true=false)->(∀i,dn i=true->aK.getD i false=true)->wpOp P ops Q i (wpAny P .any ops Q fuel (aK.setIfInBounds i true)) a e.w):
 ∀(fuel:Nat)(aK:Array Bool)(a:Act)(e:aE),fuel=m6 aK->lp Γ L ops aw N bT am a0 aK e a->(∀t,H<=t->t<ops.size->aK.getD t true=false)->(∀i,dn i=true->aK.getD i false=true)->(∀i,sp i=true->aK.getD i false=false)->wpAny P .any ops Q fuel aK a e.w:=by
 have fin:∀(fuel:Nat)(aK:Array Bool)(a:Act)(e:aE),fuel=m6 aK->lp Γ L ops aw N bT am a0 aK e a->(∀t,H<=t->t<ops.size->aK.getD t true=false)->(∀s,sp s=true->aK.getD s false=false)->(∀i,i<H->aK.getD i false=true)->wpAny P .any ops Q fuel aK a e.w:=by
  intro fuel aK a e t8 bS iG pQ dH;have Fm:m6 aK=ops.size-H:=by
   have:=KK aK.toList H (by simpa[bS.l5] using hH) (λ i hi=>by
    have h1:=dH i hi;have dY:i<aK.size:=by rw[bS.l5];omega
    simp[dY] at h1⊢;exact h1) (λ i hi Z=>by
    have dY:i<aK.size:=by simpa using Z
    have h1:=iG i hi (by rw[<-bS.l5];exact dY);simp[dY] at h1⊢;exact h1)
   simpa[m6,bS.l5] using this
  obtain rfl:fuel=ops.size-H:=by omega
  exact k9 aK a e bS dH iG pQ
 intro fuel;induction fuel with
 |zero=>
  intro aK a e t8 bS iG A2 pQ;refine fin 0 aK a e t8 bS iG pQ λ i hi=>?_
  have h1:=Z5 t8.symm (i:=i);have dY:i<aK.size:=by rw[bS.l5];omega
  simp[dY] at h1⊢;exact h1
 |succ fuel ih=>
  intro aK a e t8 bS iG A2 pQ
  by_cases dH:∀i,i<H->aK.getD i false=true
  ·exact fin _ aK a e t8 bS iG pQ dH
  ·have om:∃i,i<H/\aK.getD i false=false:=by
    refine Classical.byContradiction λ aW=>dH λ i hi=>?_
    rcases Z:aK.getD i false with _|_
    ·exact absurd ⟨i,hi,Z⟩ aW
    ·rfl
   obtain⟨m,aeR,N6⟩:=om;refine⟨λ hr=>?_,λ i hi=>?_⟩
   ·have:=acx aV bS.l5 hr m (by omega);rw[N6] at this;cases this
   ·by_cases C5:sp i=true
    ·exact rN fuel aK a e i C5 t8.symm.symm hi bS iG A2
    have C5:sp i=false:=by simpa using C5
    obtain⟨kg,o,ho,iS⟩:=mem_ready.1 hi;obtain⟨kK,dY⟩:=nq kg;have al0:i<ops.size:=(Array.getElem?_eq_some_iff.1 ho).1;have aes:i<H:=by
     rcases Nat.lt_or_ge i H with bD|bD
     ·exact bD
     ·rcases aaQ hT ho bD aeR with⟨x,hx,hb,mU⟩|ul
      ·have:=iS x hx hb;rw[mU,N6] at this;cases this
      ·have:=BS bS.closed _ _ _ o ho iS ul;rw[N6] at this;cases this
    have IY:ok i=true:=by
     rcases UY i o ho with h|h|⟨s,h1,u⟩
     ·exact h
     ·rw[C5] at h;cases h
     ·have:=BS bS.closed _ _ _ o ho iS u;rw[pQ s h1] at this;cases this
    have IZ:∀j,aK.getD j false=true->j<ops.size->sp j=false/\ok j=true:=λ j Z rE=>by
     have U0:sp j=false:=by
      rcases h:sp j with _|_
      ·rfl
      ·rw[pQ j h] at Z;cases Z
     refine⟨U0,?_⟩;rcases UY j ops[j] (by simp[rE]) with h|h|⟨s,h1,u⟩
     ·exact h
     ·rw[U0] at h;cases h
     ·have:=BS bS.closed _ _ _ ops[j] (by simp[rE]) (λ x hx hb=>bS.closed j ops[j] (by simp[rE]) Z x hx hb) u;rw[pQ s h1] at this;cases this
    have jG:=bS.jd aV ho hi;have CT:fuel=m6 (aK.setIfInBounds i true):=by have:=QN kg;omega
    have II:∀k,dn k=true->(aK.setIfInBounds i true).getD k false=true:=λ k hk=>getD_set_true (A2 k hk)
    have I8:∀k,sp k=true->(aK.setIfInBounds i true).getD k false=false:=λ k hk=>by
     rw[getD_set_ne false (λ e=>by subst e;rw[C5] at hk;cases hk)];exact pQ k hk
    have Ja:∀t,H<=t->t<ops.size->(aK.setIfInBounds i true).getD t true=false:=λ t h1 u=>by rw[getD_set_ne true (by omega)];exact iG t h1 u
    have mP:∀c,gd ops.toList o (dV ops.toList aw (kv L.s) i)=some c->Region.wanted o (yielded ops a.tmps)=c:=λ c F=>bS.wanted aV ho hi F
    unfold wpOp;simp only[ho];have afC:∀b cs,kv B b=some cs->ij e b cs:=λ b cs hb=>bS.boxes b cs (oX b cs hb) λ j p Z G ae=>by
     have Fy:j<ops.size:=by
      rcases Nat.lt_or_ge j ops.size with bD|bD
      ·exact bD
      ·have J:aK[j]?=none:=Array.getElem?_eq_none (by rw[bS.l5];exact bD);simp[J] at Z
     have o8:j<H:=by
      rcases Nat.lt_or_ge j H with bD|bD
      ·exact bD
      ·rw[mT j bD] at G;cases G
     rcases vl j _ o8 (show ops[j]?=some ops[j] by simp[Fy]) (Bool.eq_false_iff.2 λ h=>by rw[pK j (.inl h)] at G;cases G) (Bool.eq_false_iff.2 λ h=>by rw[pK j (.inr h)] at G;cases G) (IZ j Z Fy).2 with⟨_,_,hf,_⟩|⟨_,_,gL,_⟩|⟨nm,_,_,_,_,iT,_,_,_,_,c6,_⟩|⟨_,_,_,_,_,_,_,_,gL,_⟩
     ·have h5:=(hf p G).2;rw[ae,hb] at h5;cases h5
     ·rw[gL] at G;cases G
     ·rw[c6] at G;cases G;simp only at ae;rw[ae,hb] at iT;cases iT
     ·rw[gL] at G;cases G
    have afD:Cx ops.toList o=true->∀b cs,kv L.b b=some cs->ij e b cs:=λ CP b cs hb=>bS.boxes b cs hb λ j p Z G ae=>by
     have Fy:j<ops.size:=by
      rcases Nat.lt_or_ge j ops.size with bD|bD
      ·exact bD
      ·have J:aK[j]?=none:=Array.getElem?_eq_none (by rw[bS.l5];exact bD);simp[J] at Z
     have o8:j<H:=by
      rcases Nat.lt_or_ge j H with bD|bD
      ·exact bD
      ·rw[mT j bD] at G;cases G
     have jk:ops[j]?=some ops[j]:=by simp[Fy]
     rcases vl j _ o8 jk (Bool.eq_false_iff.2 λ h=>by rw[pK j (.inl h)] at G;cases G) (Bool.eq_false_iff.2 λ h=>by rw[pK j (.inr h)] at G;cases G) (IZ j Z Fy).2 with⟨_,_,hf,_⟩|⟨_,_,gL,_⟩|⟨nm,_,_,_,sG,_⟩|⟨_,_,_,_,_,_,_,_,gL,_⟩
     ·have h5:=(sc j (hf p G).1).1;rw[ae,hb] at h5;cases h5
     ·rw[gL] at G;cases G
     ·unfold Cx at CP;split at CP
      ·cases CP
      ·rename_i t ht;have h1:=List.all_eq_true.1 CP ops[j] (by simp);rw[sG] at h1;simp only at h1;obtain⟨x,hx,fO⟩:=Array.any_eq_true'.1 h1;simp only[Bool.and_eq_true] at fO;have Vc:=bS.closed j _ jk Z x hx fO.1;have u:=fO.2;split at u
       ·rename_i aH hu;have afA:=Nat.eq_of_beq_eq_true u;subst afA;cases N9:ops.toList[x.on]? with
        |none=>rw[N9] at hu;cases hu
        |some aiq=>
         rw[N9] at hu;have pc:x.on=i:=by
          by_cases he:x.on=i
          ·exact he
          ·exact absurd ht (aV.ne x.on i aiq o aH (by simpa using N9) ho he hu)
         rw[pc,kK] at Vc;cases Vc
       ·cases u
     ·rw[gL] at G;cases G
    have C3:∀x∈o.op.operands,∀d,ev (dV ops.toList aw (kv L.s) i) x=some d->bC e (a.eval x) d:=λ x hx d K=>by
     cases x with
     |tmp t=>exact jG t (List.mem_append_left _ (List.mem_filterMap.2 ⟨.tmp t,by simpa using hx,rfl⟩)) d K
     |const v=>simp only[ev,zZ,Option.some.injEq] at K;subst K;exact zY e v
     |global g=>cases K
     |func f=>simp only[ev,Option.some.injEq] at K;subst K;exact .fn (us:=[]) (vs:=[]) rfl rfl (λ i v d h=>by simp at h) (λ i v d h=>by simp at h)
    rcases vl i o aes ho (Bool.eq_false_iff.2 λ h=>by rw[A2 i h] at kK;cases kK) C5 IY with⟨hg,cq,oo,Jc,ru⟩|⟨hg,K,hn,Jc,ru⟩|⟨nm,cs,aZ,hg,nB,iT,hD,adg,wX,_,c6,hU,ru⟩|⟨g,aa,t,hg,nB,_,Uy,AV,adr,Jc,ru⟩
    ·rw[if_pos (mP _ hg)];have dt:∀p,N i=some p->e.bx p.1=none:=λ p G=>by
      obtain⟨h1,u⟩:=sc i (oo p G).1;refine bS.ee p.1 h1 λ j q Z hu eO=>?_
      rcases Nat.lt_trichotomy j i with J|J|J
      ·exact u j q J eO
      ·subst J;rw[kK] at Z;cases Z
      ·have o8:j<H:=by
        rcases Nat.lt_or_ge j H with bD|bD
        ·exact bD
        ·rw[mT j bD] at eO;cases eO
       have jk:ops[j]?=some ops[j]:=by simp[show j<ops.size by omega]
       rcases vl j _ o8 jk (Bool.eq_false_iff.2 λ h=>by rw[pK j (.inl h)] at eO;cases eO) (Bool.eq_false_iff.2 λ h=>by rw[pK j (.inr h)] at eO;cases eO) (IZ j Z (by omega)).2 with⟨_,_,Fs,_⟩|⟨_,_,ug,_⟩|⟨_,_,_,_,_,_,_,_,_,_,_,hU,_⟩|⟨_,_,_,_,_,_,_,_,ug,_⟩
       ·exact λ ae=>(sc j (Fs q eO).1).2 i p J G ae.symm
       ·rw[ug] at eO;cases eO
       ·rw[hu] at hU;cases hU
       ·rw[ug] at eO;cases eO
     have cS:o.wp P a e.w (λ bF aA=>∃v ae,bF=a.put o.dst v/\ae.w=aA/\pC e ae v (aw i) (N i)) (λ _ _ _=>False):=by
      rcases cq with cq|⟨CP,cq⟩
      ·exact cq a e ⟨C3,afC⟩ dt
      ·exact cq a e ⟨C3,afD CP⟩ dt
     refine .inl (y8 cS λ bF aA hh=>?_);obtain⟨v,ae,rfl,rfl,eO⟩:=hh;exact ih _ _ ae CT (bS.next aV ho hi eO dt Jc ru) Ja II I8
    ·rw[if_neg (by rw[mP _ hg];simp)];exact ih _ _ e CT (bS.next aV ho hi (v:=undef) (by rw[hn,K];exact⟨j7.refl e,.p (.raw undef)⟩) (λ p G=>by rw[hn] at G;cases G) Jc ru) Ja II I8
    ·rw[if_pos (mP _ hg)];have vt:∀j p,aK.getD j false=true->i<j->N j=some p->p.1≠nm:=λ j p nD mR G ae=>by
      have o8:j<H:=by
       rcases Nat.lt_or_ge j H with bD|bD
       ·exact bD
       ·rw[mT j bD] at G;cases G
      have jk:ops[j]?=some ops[j]:=by simp[show j<ops.size by omega]
      rcases vl j _ o8 jk (Bool.eq_false_iff.2 λ h=>by rw[pK j (.inl h)] at G;cases G) (Bool.eq_false_iff.2 λ h=>by rw[pK j (.inr h)] at G;cases G) (IZ j nD (by omega)).2 with⟨_,_,Fs,_⟩|⟨_,_,ug,_⟩|⟨ahB,_,_,_,_,_,CE,_,_,_,FL,_⟩|⟨_,_,_,_,_,_,_,_,ug,_⟩
      ·exact(sc j (Fs p G).1).2 i _ mR c6 ae.symm
      ·rw[ug] at G;cases G
      ·rw[FL] at G;cases G;simp only at ae;have:=Qy (aC:=[]) mR hU c6;simp only at this;rw[<-ae] at this;rcases CE with CE|CE
       ·simp at CE;exact absurd this CE
       ·obtain⟨x,hx,hb,mU⟩:=VD CE mR (by simpa using ho) nB;have:=bS.closed j _ jk nD x hx hb;rw[mU,kK] at this;cases this
      ·rw[ug] at G;cases G
     have adY:e.bx nm≠none->ij e nm cs:=λ aW=>by
      have cv:∀j p,aK.getD j false=true->¬j<i->N j=some p->p.1≠nm:=λ j p Z i8 G=>by
       rcases Nat.lt_trichotomy j i with J|J|J
       ·exact absurd J i8
       ·subst J;rw[kK] at Z;cases Z
       ·exact vt j p Z J G
      rcases Kz i adg with⟨h1,u⟩|⟨j,i8,hj,u⟩
      ·exact bS.boxes nm cs h1 λ j p Z G=>by
        by_cases i8:j<i
        ·exact u j p i8 G
        ·exact cv j p Z i8 G
      ·have o8:j<H:=by omega
       have jk:ops[j]?=some ops[j]:=by simp[show j<ops.size by omega]
       rcases vl j _ o8 jk (Bool.eq_false_iff.2 λ h=>by rw[pK j (.inl h)] at hj;cases hj) (Bool.eq_false_iff.2 λ h=>by rw[pK j (.inr h)] at hj;cases hj) (Od.elim (λ h=>by rw[(h i IY).1] at hU;cases hU) λ h=>h j) with⟨_,_,Fs,_⟩|⟨_,_,ug,_⟩|⟨ahB,_,_,_,ad6,_,_,_,_,_,FL,adD,_⟩|⟨_,_,_,_,_,_,_,_,ug,_⟩
       ·obtain⟨h5,h6⟩:=sc j (Fs _ hj).1;simp only at h5 h6;have nD:aK.getD j false=true:=by
         rcases nD:aK.getD j false with _|_
         ·exfalso;refine aW (bS.ee nm h5 λ k q hk hu hq ae=>?_);have mS:k<i:=by
           rcases Nat.lt_or_ge k i with h7|h7
           ·exact h7
           ·exact absurd ae (cv k q hk (by omega) hq)
          rcases Nat.lt_trichotomy k j with h7|h7|h7
          ·exact h6 k q h7 hq ae
          ·subst h7;rw[nD] at hk;cases hk
          ·exact u k q h7 mS hq ae
         ·rfl
        exact bS.news j _ nD hj λ k q hk Z hq=>by
         by_cases mS:k<i
         ·exact u k q hk mS hq
         ·exact cv k q Z mS hq
       ·rw[ug] at hj;cases hj
       ·rw[FL] at hj;cases hj;have:=Qy (aC:=[]) i8 adD FL;rcases hD with hD|hD
        ·simp at hD;exact absurd this hD
        ·obtain⟨x,hx,hb,mU⟩:=VD hD i8 (by simp) ad6;have nD:=iS x hx hb;rw[mU] at nD;exact bS.news j _ nD FL λ k q hk Z hq=>by
          by_cases mS:k<i
          ·exact u k q hk mS hq
          ·exact cv k q Z mS hq
       ·rw[ug] at hj;cases hj
     obtain⟨_,afH⟩:=wX Γ a e bS.env C3 adY;refine .inl (y8 afH λ bF aA hh=>?_);obtain⟨rfl,ae,rfl,hu⟩:=hh;have:=ih _ _ ae CT (bS.ahq ho nB hi c6 ru (λ j p Z mR G=>vt j p Z mR G) hu) Ja II I8;rw[nB];exact this
    ·rw[if_pos (mP _ hg)];have aY:∀j p,am j=some p->j<H:=λ j p G=>by
      rcases Nat.lt_or_ge j H with bD|bD
      ·exact bD
      ·rw[ud j bD] at G;cases G
     have ys:∀k p,am k=some p->p.1=g->∀j q,j<k->am j=some q->q.1=g->(∀Oy a6,j<Oy->Oy<k->am Oy=some a6->a6.1≠g)->∃oj tj,ops[j]?=some oj/\oj.dst=some tj/\∃ok,ops[k]?=some ok/\tj∈ok.looksAt ops:=by
      intro k p hk IG j q kF hj wQ adV;have aeA:=aY k p hk;have o8:=aY j q hj;have jk:ops[j]?=some ops[j]:=by simp[show j<ops.size by omega]
      have UQ:ops[k]?=some ops[k]:=by simp[show k<ops.size by omega]
      rcases vl j _ o8 jk (Bool.eq_false_iff.2 λ h=>by rw[wx j (.inl h)] at hj;cases hj) (Bool.eq_false_iff.2 λ h=>by rw[wx j (.inr h)] at hj;cases hj) (Od.elim (λ h=>by rw[(h i IY).2] at ru;cases ru) λ h=>h j) with⟨_,_,_,_,FJ⟩|⟨_,_,_,_,FJ⟩|⟨_,_,_,_,_,_,_,_,_,_,_,_,FJ⟩|⟨g1,G1,t1,_,oh,_,_,_,_,_,wR⟩
      ·rw[FJ] at hj;cases hj
      ·rw[FJ] at hj;cases hj
      ·rw[FJ] at hj;cases hj
      rcases vl k _ aeA UQ (Bool.eq_false_iff.2 λ h=>by rw[wx k (.inl h)] at hk;cases hk) (Bool.eq_false_iff.2 λ h=>by rw[wx k (.inr h)] at hk;cases hk) (Od.elim (λ h=>by rw[(h i IY).2] at ru;cases ru) λ h=>h k) with⟨_,_,_,_,A6⟩|⟨_,_,_,_,A6⟩|⟨_,_,_,_,_,_,_,_,_,_,_,_,A6⟩|⟨g2,G2,t2,_,_,_,eV,_,_,_,A4⟩
      ·rw[A6] at hk;cases hk
      ·rw[A6] at hk;cases hk
      ·rw[A6] at hk;cases hk
      rw[A4] at hk;cases hk;simp only at IG;subst IG;have fT:kv (gz ops.toList am [] k) g2=some t1:=Yw (l:=ops.toList) kF hj wQ (by simpa[jk] using oh) adV;unfold Dj at eV;rw[fT] at eV;simp only[List.any_eq_true] at eV;obtain⟨x,hx,Jh⟩:=eV;refine⟨_,t1,jk,oh,_,UQ,?_⟩;cases x with
      |tmp aH=>have:aH=t1:=Nat.eq_of_beq_eq_true Jh;subst this;exact List.mem_append_left _ (List.mem_filterMap.2 ⟨.tmp aH,hx,rfl⟩)
      |const v=>cases Jh
      |global v=>cases Jh
      |func v=>cases Jh
     have wz:∀(d k:Nat) p,am k=some p->p.1=g->aK.getD k false=true->∀j q,j+d=k->am j=some q->q.1=g->aK.getD j false=true:=by
      intro d;induction d using Nat.strongRecOn with
      |ind d afZ=>
       intro k p hk IG fZ j q al1 hj wQ;rcases Nat.eq_zero_or_pos d with h0|h0
       ·have:j=k:=by omega
        rw[this];exact fZ
       ·rcases Hd (am:=am) (aa:=kv L.g) (h:=g) k with⟨_,u⟩|⟨j1,G1,aew,wR,_,u⟩
        ·exact absurd wQ (u j q (by omega) hj)
        ·have al2:j<=j1:=by
          rcases Nat.lt_or_ge j1 j with J|J
          ·exact absurd wQ (u j q J (by omega) hj)
          ·exact J
         obtain⟨oj,tj,jk,sG,ok,Bc,N4⟩:=ys k p hk IG j1 _ aew wR rfl u;have aex:aK.getD j1 false=true:=by
          rcases aV.dep k j1 ok oj tj Bc jk (by omega) sG N4 with⟨_,x,hx,hb,mU⟩|⟨h4,_⟩
          ·have:=bS.closed k ok Bc fZ x hx hb;rw[mU] at this;exact this
          ·omega
         exact afZ (j1-j) (by omega) j1 _ wR rfl aex j q (by omega) hj wQ
     have vt:∀j p,aK.getD j false=true->i<j->am j=some p->p.1≠g:=λ j p Z mR G ae=>by
      have:=wz (j-i) j p G ae Z i _ (by omega) ru rfl;rw[kK] at this;cases this
     have tU:e.gi g=en am (kv L.g) i g:=by
      rcases Hd (am:=am) (aa:=kv L.g) (h:=g) i with⟨h1,u⟩|⟨j,Gj,hj,hm,T,u⟩
      ·rw[h1];refine bS.gs g λ j p Z G=>?_
       rcases Nat.lt_trichotomy j i with J|J|J
       ·exact u j p J G
       ·subst J;rw[kK] at Z;cases Z
       ·exact vt j p Z J G
      ·rw[T];obtain⟨oj,tj,jk,sG,ok,Bc,N4⟩:=ys i _ ru rfl j _ hj hm rfl u;rw[ho] at Bc;cases Bc;have nD:aK.getD j false=true:=by
        rcases aV.dep i j o oj tj ho jk (by omega) sG N4 with⟨_,x,hx,hb,mU⟩|⟨h4,_⟩
        ·have:=iS x hx hb;rw[mU] at this;exact this
        ·omega
       refine bS.gw j _ nD hm λ k q hk Z hq=>?_
       rcases Nat.lt_trichotomy k i with J|J|J
       ·exact u k q hk J hq
       ·subst J;rw[kK] at Z;cases Z
       ·exact vt k q Z J hq
     refine .inl (y8 (AV Γ a e bS.env C3 tU) λ bF aA hh=>?_);obtain⟨v,ae,rfl,rfl,hu⟩:=hh;exact ih _ _ ae CT (bS.ahp aV ho hi adr ru vt hu) Ja II I8
theorem He{l jm:List Oper}{aw:Nat->I}{S:Nat->Option I}:∀i,(∀j,j<i->l[j]?=jm[j]?)->dV l aw S i=dV jm aw S i
 |0,_=>rfl
 |i+1,h=>by rw[dV,dV,He i λ j hj=>h j (by omega),h i (by omega)]
theorem DV{N kS:Nat->Option (Nat×List I)}{B:Nat->Option (List I)}:∀i,(∀j,j<i->N j=kS j)->dD N B i=dD kS B i
 |0,_=>rfl
 |i+1,h=>by rw[dD,dD,DV i λ j hj=>h j (by omega),h i (by omega)]
theorem Qw{bT tu:Nat->Bool}{N kS:Nat->Option (Nat×List I)}{aC:List Nat}:∀i,(∀j,j<i->N j=kS j/\bT j=tu j)->gp bT N aC i=gp tu kS aC i
 |0,_=>rfl
 |i+1,h=>by rw[gp,gp,Qw i λ j hj=>h j (by omega),(h i (by omega)).1,(h i (by omega)).2]
theorem KA{am me:Nat->Option (Nat×Gr)}{aa:Nat->Option Gr}:∀i,(∀j,j<i->am j=me j)->en am aa i=en me aa i
 |0,_=>rfl
 |i+1,h=>by rw[en,en,KA i λ j hj=>h j (by omega),h i (by omega)]
theorem QA{l jm:List Oper}{am me:Nat->Option (Nat×Gr)}{aR:List (Nat×Nat)}:∀i,(∀j,j<i->am j=me j/\l[j]?=jm[j]?)->gz l am aR i=gz jm me aR i
 |0,_=>rfl
 |i+1,h=>by rw[gz,gz,QA i λ j hj=>h j (by omega),(h i (by omega)).1,(h i (by omega)).2]
def xL(B:List (Nat×List I)):List (Nat×List I)->Prop
 |[]=>True
 |p::l=>kv B p.1=some p.2/\xL B l
theorem xL.get{B:List (Nat×List I)}:∀{l:List (Nat×List I)}(_:xL B l){b:Nat}{cs:List I},kv l b=some cs->kv B b=some cs
 |[],_,_,_,h=>by cases h
 |(k,v)::l,T,b,cs,h=>by
  rw[dc] at h;split at h
  ·rename_i hk;subst hk;cases h;exact T.1
  ·exact T.2.get h
theorem Rz{id:Nat}{Q:Exit->St->Prop}{L:St}(B:List (Nat×List I))(oX:xL L.b B)(l1 l2:List Oper){l:List Oper}(Z:l=l1++l2)(hm:P.follows .mixedOrders=true)(hB:r9 l.toArray Γ.n=true)(hT:vU l.toArray l1.length=true)
 (h:co P Γ.n l B L.b (bw P Γ l Q l2) 0 [] [] l1 L):a8 P Γ (.region id l.toArray true) Q L:=by
 refine⟨λ a e F=>?_⟩;have aV:=Kh hB;obtain⟨aw,N,bT,am,j5,h1,u,J,h4,h5⟩:=co.extract l1 0 [] [] L h;have qA:∀j,j<l1.length->l1[j]?=l[j]?:=λ j hj=>by rw[Z,List.getElem?_append_left hj]
 have cx:l1.length<=l.toArray.size:=by rw[Z];simp
 have NF:l.toArray.toList.drop l1.length=l2:=by rw[Z];simp
 have hN:∀i,i<=l1.length->dD N (kv L.b) i=dD (λ i=>if i<l1.length then N i else none) (kv L.b) i:=λ i hi=>DV i λ j hj=>by rw[if_pos (by omega)]
 have hD:∀i,i<=l1.length->gp bT N [] i=gp bT (λ i=>if i<l1.length then N i else none) [] i:=λ i hi=>Qw i λ j hj=>⟨by rw[if_pos (by omega)],rfl⟩
 have hG:∀i,i<=l1.length->en am (kv L.g) i=en (λ i=>if i<l1.length then am i else none) (kv L.g) i:=λ i hi=>KA i λ j hj=>by rw[if_pos (by omega)]
 have hL:∀i,i<=l1.length->gz l1 am [] i=gz l.toArray.toList (λ i=>if i<l1.length then am i else none) [] i:=λ i hi=>QA i λ j hj=>⟨by rw[if_pos (by omega)],by simpa using qA j (by omega)⟩
 have:=D2 (P:=P) (Γ:=Γ) (L:=L) (ops:=l.toArray) (H:=l1.length) (λ _=>false) (λ _=>false) (λ _=>true) aV (LJ hT) cx (aw:=aw) (N:=λ i=>if i<l1.length then N i else none) (bT:=bT) (am:=λ i=>if i<l1.length then am i else none) (B:=B) (a0:=a) (Q:=jP Γ Q) (λ i hi=>if_neg (by omega)) (λ i hi=>if_neg (by omega)) (λ i hi=>by simp at hi) (λ i hi=>by simp at hi) (λ _ _ _=>.inl rfl) (.inr λ _=>rfl) (λ b cs=>oX.get)
  (λ i o hi ho _ _ _=>by
   have h6:=h5 i o (by rw[qA i hi];simpa using ho);rw[Nat.zero_add,hN i (by omega),hD i (by omega),hG i (by omega),hL i (by omega)] at h6;have e5:dV l1 aw (kv L.s) i=dV l.toArray.toList aw (kv L.s) i:=He i λ j hj=>by simpa using qA j (by omega)
   rw[e5] at h6
   simpa[hi] using h6)
  (λ aK b ae hv q2 q3 _=>KP aV hT _ _ aK b ae.w (by omega) (Nat.le_refl _) hv.l5 q2 q3 (by rw[NF];exact h1.run b ae (hv.qq aV (j5:=j5) (by rw[J];exact He _ λ j hj=>by simpa using qA j hj) (by rw[h4];exact hN _ (Nat.le_refl _)) (by rw[u];exact hG _ (Nat.le_refl _)) q2 q3))) (λ _ _ _ _ _ h=>by cases h)
  l.toArray.size (Array.replicate l.toArray.size false) a {e with w:=e.w.drew} (KM _).symm
  ?_ (λ t _ ht=>by have Bp:t<l.length:=by simpa using ht
                   simp[Bp]) (λ i hi=>by cases hi) (λ i hi=>by cases hi)
 ·exact wp_region_any hm this
 ·have hg:j7 e {e with w:=e.w.drew}:=⟨(Below.refl _ _).drew,λ _ _=>rfl,rfl,rfl,rfl⟩;have d4:=F.grow hg;refine⟨by simp,F.size,F.df,λ i o _ Z=>?_,λ i o t _ Z=>?_,λ t _=>rfl,d4.dj,λ b cs hb _=>d4.boxes b cs hb,λ i p Z=>?_,λ b hb _=>d4.ee b hb,λ g _=>d4.gs g,λ i p Z=>?_,d4.env⟩
  all_goals(simp[Array.getElem?_replicate] at Z;split at Z<;>simp at Z)
end
end Go.Proofs.YtkkldicehapklaaGreat
end
section
namespace Go.Proofs.YtkkldicehapklaaGreat
open Go.RowKit
section
variable{P:Program}{aq:Nat->Option TI}{Γ:bX}{L bQ:St}{Q:Exit->St->Prop}{aB:St->Prop}
theorem yT(h:aB L):uK aB Q .normal L:=h
theorem aiU{id:Nat}(h:Q .normal L):re id Q (.exit id) L:=by simp only[re,if_true];exact h
theorem aiV{id pf:Nat}(aW:(pf==id)=false)(h:Q (.exit pf) L):re id Q (.exit pf) L:=by
 have:pf≠id:=by simpa using aW
 simp only[re,if_neg this];exact h
def CK(t:Bool)(X bK:Prop):Prop:=(t=true->X)/\(t=false->bK)
theorem aat{x y:Code}{z:Operand}{t:Bool}(hz:ev (kv L.s) z=some (.p (.raw (.bool t))))(h:CK t (a8 P Γ x Q L) (a8 P Γ y Q L)):a8 P Γ (.cond z x y) Q L:=aau hz h.1 h.2
section
variable{X bK:Prop}
theorem LQ(h:X):CK true X bK:=⟨λ _=>h,λ bD=>by cases bD⟩
theorem LP(h:bK):CK false X bK:=⟨λ bD=>(by cases bD),λ _=>h⟩
theorem gY{t:Bool}(ht:t=true->X)(hf:t=false->bK):CK t X bK:=⟨ht,hf⟩
end
def Fin(aq:Nat->Option TI)(rs:List ResultVar)(d:I):Exit->St->Prop:=λ ex L=>(ex=.normal\/ex=.ret)/\DK aq L rs=some d
theorem Av{rs:List ResultVar}{d eo:I}(h:DK aq L rs=some eo)(K:eo=d):Fin aq rs d .ret L:=⟨.inr rfl,by rw[h,K]⟩
theorem acF{rs:List ResultVar}{d eo:I}(h:DK aq L rs=some eo)(K:eo=d):Fin aq rs d .normal L:=⟨.inl rfl,by rw[h,K]⟩
def tF{az:Type}:Nat->List I->(List (Nat×I)->Option az)->Option az
 |_,[],k=>k []
 |n,d::ds,k=>tF (n+1) ds λ r=>k ((n,d)::r)
theorem Cz{az:Type}:∀(n:Nat)(ds:List I)(k:List (Nat×I)->Option az),tF n ds k=k (wn.go n ds)
 |_,[],_=>rfl
 |n,d::ds,k=>by rw[tF,Cz (n+1) ds];rfl
theorem aiN(hT:dh P aq){f:FuncId}{fn:Func}{c:Code}{ds:List I}{d:I}{rs:List ResultVar}{n:Nat}{s:List (Nat×I)}(hf:P.funcs[f]?=some fn)(hb:fn.body=some c)(gL:fn.ntmps=n)(mx:fn.results.toList=rs)(hn:Nat.ble ds.length n=true)(T:tF 0 ds some=some s)
 (h:∀w cl,a8 P ⟨n,w,cl,λ _=>False,[],[]⟩ c (Fin aq rs d) ⟨s,[],[]⟩):bH P f ds d:=by
 subst gL;subst mx;rw[Cz] at T;cases T;exact aiO hT hf hb (Nat.le_of_ble_eq_true hn) h
section
variable{o:Oper}{l0 l:List Oper}{s:List (Nat×I)}{b:List (Nat×List I)}{g:List (Nat×Gr)}{t:Nat}{d:I}
theorem rl{n:Nat}(K:o.dst=some t)(Z:Nat.blt t n=true):xU n o.dst=true:=by rw[K];exact Z
theorem cy(hq:dM P o (kv s) (kv b) d none)(hg:gd l0 o (kv s)=some true)(K:o.dst=some t)(Z:Nat.blt t Γ.n=true)(h:bw P Γ l0 Q l ⟨(t,d)::s,b,g⟩):bw P Γ l0 Q (o::l) ⟨s,b,g⟩:=
 Rn (L:=⟨s,b,g⟩) hq hg (rl K Z) (λ p G=>by cases G) (by rw[K];exact h)
theorem Ce{nm:Nat}{cs:List I}(hq:dM P o (kv s) (kv b) d (some (nm,cs)))(hg:gd l0 o (kv s)=some true)(K:o.dst=some t)(Z:Nat.blt t Γ.n=true)(hf:kv b nm=none)(h:bw P Γ l0 Q l ⟨(t,d)::s,(nm,cs)::b,g⟩):bw P Γ l0 Q (o::l) ⟨s,b,g⟩:=
 Rn (L:=⟨s,b,g⟩) hq hg (rl K Z) (λ p G=>by cases G;exact hf) (by rw[K];exact h)
def xl{az:Type}:Nat->List (Nat×List I)->(Nat->Option az)->Option az
 |n,[],k=>k n
 |n,_::l,k=>xl (n+1) l k
theorem ZG{nm:Nat}{ty:TypeId}{x:Operand}{dx:I}{cs:List I}(ho:o.op=.box ty x)(_:xl 0 b some=some nm)(hx:ev (kv s) x=some dx)(hk:lj dx=true)(bV:nj dx some=some cs)(hg:gd l0 o (kv s)=some true)(K:o.dst=some t)(Z:Nat.blt t Γ.n=true)(hf:kv b nm=none)(h:bw P Γ l0 Q l ⟨(t,.ptr nm 0)::s,(nm,cs)::b,g⟩):bw P Γ l0 Q (o::l) ⟨s,b,g⟩:=
 Ce (HM nm ho hx hk bV) hg K Z hf h
theorem ZL(hT:dh P aq){nm:Nat}{ty:TypeId}{i:TI}{cs:List I}(ho:o.op=.alloc ty)(_:xl 0 b some=some nm)(ht:aq ty=some i)(hk:lj (mh i.zero)=true)(bV:sw i.zero (λ d=>nj d some)=some cs)(hg:gd l0 o (kv s)=some true)(K:o.dst=some t)(Z:Nat.blt t Γ.n=true)(hf:kv b nm=none)(h:bw P Γ l0 Q l ⟨(t,.ptr nm 0)::s,(nm,cs)::b,g⟩):bw P Γ l0 Q (o::l) ⟨s,b,g⟩:=
 Ce (xM hT nm ho ht hk bV) hg K Z hf h
theorem zq(hT:dh P aq)(hq:ax aq (kv s) (kv b) o.op=some d)(hg:gd l0 o (kv s)=some true)(K:o.dst=some t)(Z:Nat.blt t Γ.n=true)(h:bw P Γ l0 Q l ⟨(t,d)::s,b,g⟩):bw P Γ l0 Q (o::l) ⟨s,b,g⟩:=cy (uU hT hq) hg K Z h
theorem ZM(hg:gd l0 o (kv s)=some false)(K:o.dst=some t)(Z:Nat.blt t Γ.n=true)(h:bw P Γ l0 Q l ⟨(t,.p (.raw undef))::s,b,g⟩):bw P Γ l0 Q (o::l) ⟨s,b,g⟩:=
 aad (L:=⟨s,b,g⟩) hg (rl K Z) (by rw[K];exact h)
theorem ZN(hT:dh P aq){ty:TypeId}{x y:Operand}{nm of:Nat}{cs aZ:List I}{dy:I}{i:TI}(ho:o.op=.store ty x y)(K:o.dst=none)(ht:aq ty=some i)(hx:ev (kv s) x=some (.ptr nm of))(hb:kv b nm=some cs)(hy:ev (kv s) y=some dy)
 (Z:vB dy=true)(hsz:Nat.beq dy.cells.length i.sz=true)(bY:uI cs of dy some=some aZ)(hg:gd l0 o (kv s)=some true)(h:bw P Γ l0 Q l ⟨s,(nm,aZ)::b,g⟩):bw P Γ l0 Q (o::l) ⟨s,b,g⟩:=by
 obtain⟨h1,u⟩:=YE bY;cases u;exact xN (L:=⟨s,b,g⟩) hg (QF hT ho K ht hx hb hy Z (Nat.eq_of_beq_eq_true hsz) h1) h
theorem mg(hT:dh P aq){ty:TypeId}{x y:Operand}{gn n m el z1 z2:Nat}{z3:Value}{ps qs:List Pl}{dy:I}{i:TI}(ho:o.op=.call {callee:=.builtin .append,args:=#[x,y],argTypes:=#[ty,ty]})(ht:aq ty=some ⟨.slice el,z1,z2,z3⟩)(dO:aq el=some i)(iH:Nat.beq i.zero.cells.size i.sz=true)(pR:Nat.blt 0 i.sz=true)
 (hg:gd l0 o (kv s)=some true)(K:o.dst=some t)(Z:Nat.blt t Γ.n=true)(hx:ev (kv s) x=some (.bP gn n ps))(ia:kv g gn=some ⟨el,i.sz,n⟩)(hy:ev (kv s) y=some dy)(lV:nS dy=some (m,qs))(cq:qs.length=m*i.sz)
 (gI:n+m<=maxLen)(fQ:(n+m)*i.bytes<=140737488355328)(h:bw P Γ l0 Q l ⟨(t,.bP gn (n+m) (ps++qs))::s,b,(gn,⟨el,i.sz,n+m⟩)::g⟩):bw P Γ l0 Q (o::l) ⟨s,b,g⟩:=
 xN (L:=⟨s,b,g⟩) hg (aag hT ho ht dO (Nat.eq_of_beq_eq_true iH) (by simpa[Nat.blt_eq] using pR) (rl K Z) hx ia hy lV cq gI fQ) (by rw[K];exact h)
variable{n:Nat}{B B0:List (Nat×List I)}
variable{aC:List Nat}{aR:List (Nat×Nat)}{ix:Nat}
theorem fL(hq:dM P o (kv s) (kv B) d none)(hg:gd l0 o (kv s)=some true)(K:o.dst=some t)(h:co P n l0 B B0 aB (ix+1) aC aR l ⟨(t,d)::s,b,g⟩):co P n l0 B B0 aB ix aC aR (o::l) ⟨s,b,g⟩:=
 .inl ⟨d,none,hg,.inl hq,λ p G=>(by cases G),by rw[K];exact h⟩
theorem s0{nm:Nat}{cs:List I}(hq:dM P o (kv s) (kv B) d (some (nm,cs)))(hg:gd l0 o (kv s)=some true)(K:o.dst=some t)(hf:kv b nm=none)(ly:kv B nm=none)(h:co P n l0 B B0 aB (ix+1) aC aR l ⟨(t,d)::s,(nm,cs)::b,g⟩):co P n l0 B B0 aB ix aC aR (o::l) ⟨s,b,g⟩:=
 .inl ⟨d,some (nm,cs),hg,.inl hq,λ p G=>(by cases G;exact⟨hf,ly⟩),by rw[K];exact h⟩
theorem ai2{nm:Nat}{ty:TypeId}{x:Operand}{dx:I}{cs:List I}(ho:o.op=.box ty x)(_:xl 0 b some=some nm)(hx:ev (kv s) x=some dx)(hk:lj dx=true)(bV:nj dx some=some cs)(hg:gd l0 o (kv s)=some true)(K:o.dst=some t)(hf:kv b nm=none)(ly:kv B nm=none)(h:co P n l0 B B0 aB (ix+1) aC aR l ⟨(t,.ptr nm 0)::s,(nm,cs)::b,g⟩):co P n l0 B B0 aB ix aC aR (o::l) ⟨s,b,g⟩:=
 s0 (HM nm ho hx hk bV) hg K hf ly h
theorem ai4(hT:dh P aq){nm:Nat}{ty:TypeId}{i:TI}{cs:List I}(ho:o.op=.alloc ty)(_:xl 0 b some=some nm)(ht:aq ty=some i)(hk:lj (mh i.zero)=true)(bV:sw i.zero (λ d=>nj d some)=some cs)(hg:gd l0 o (kv s)=some true)(K:o.dst=some t)(hf:kv b nm=none)(ly:kv B nm=none)(h:co P n l0 B B0 aB (ix+1) aC aR l ⟨(t,.ptr nm 0)::s,(nm,cs)::b,g⟩):co P n l0 B B0 aB ix aC aR (o::l) ⟨s,b,g⟩:=
 s0 (xM hT nm ho ht hk bV) hg K hf ly h
theorem GZ(hT:dh P aq)(hq:ax aq (kv s) (kv B) o.op=some d)(hg:gd l0 o (kv s)=some true)(K:o.dst=some t)(h:co P n l0 B B0 aB (ix+1) aC aR l ⟨(t,d)::s,b,g⟩):co P n l0 B B0 aB ix aC aR (o::l) ⟨s,b,g⟩:=fL (uU hT hq) hg K h
theorem Xr(hT:dh P aq)(hq:ax aq (kv s) (kv B0) o.op=some d)(hg:gd l0 o (kv s)=some true)(K:o.dst=some t)(he:Cx l0 o=true)(h:co P n l0 B B0 aB (ix+1) aC aR l ⟨(t,d)::s,b,g⟩):co P n l0 B B0 aB ix aC aR (o::l) ⟨s,b,g⟩:=
 .inl ⟨d,none,hg,.inr ⟨he,uU hT hq⟩,λ p G=>(by cases G),by rw[K];exact h⟩
theorem ai5(hg:gd l0 o (kv s)=some false)(K:o.dst=some t)(h:co P n l0 B B0 aB (ix+1) aC aR l ⟨(t,.p (.raw undef))::s,b,g⟩):co P n l0 B B0 aB ix aC aR (o::l) ⟨s,b,g⟩:=
 .inr (.inl ⟨hg,by rw[K];exact h⟩)
theorem ajR{e:aE}(aV:gV Γ e){nm k:Nat}{vs us:List Value}{el:TypeId}{cs:List I}(hb:e.bx nm=some k)(hk:e.w.heap[k]?=some (.cells vs.toArray el (0,0)))(hr:DReps e us cs):Lg Γ e {e with w:=e.w.setRow k us.toArray} nm cs:=by
 obtain⟨h1,u,J,h4⟩:=aV.bx nm k hb;have iq:∀j,j≠k->(e.w.setRow k us.toArray).heap[j]?=e.w.heap[j]?:=λ j hj=>setRow_other e.w k j _ hj
 have Y:Ends e {e with w:=e.w.setRow k us.toArray}:=by
  refine⟨λ aP o v dw hv=>?_,λ _ _ h=>h,λ _ aa h=>⟨aa,h,rfl,rfl,Nat.le_refl _⟩,λ j g aa cur h5 h6 h7=>⟨h5,cur,?_,rfl⟩⟩
  ·have aW:aP≠k:=λ ae=>by subst ae;exact absurd (dw 0 J) (by omega)
   exact⟨dw,by show(e.w.setRow k us.toArray).cell? _=_;rw[World.cell?_of_block (w:=e.w) (iq aP aW)];exact hv⟩
  ·show(e.w.setRow k us.toArray).heap[j]?=_;rw[iq j (λ ae=>by subst ae;rw[h4] at h5;cases h5)];exact h7
 refine⟨Y,?_,rfl,rfl,⟨k,us,el,hb,HL hk,hr.next Y⟩,λ c ds aW iD=>?_⟩
 ·refine⟨⟨aV.kept.os,aV.kept.tape,aV.kept.output,by show _<=(e.w.setRow k us.toArray).heap.size;rw[setRow_size];exact aV.kept.size,λ j hj ho=>?_⟩,aV.cl,λ aP j hj=>?_,aV.inj,λ j g hg=>?_,aV.kb⟩
  ·show(e.w.setRow k us.toArray).heap[j]?=_;rw[iq j (λ ae=>by subst ae;rcases u with u|u<;>first|omega|exact ho u)];exact aV.kept.block j hj ho
  ·obtain⟨h5,h6,h7,h8⟩:=aV.bx aP j hj;exact⟨by show j<(e.w.setRow k us.toArray).heap.size;rw[setRow_size];exact h5,h6,h7,h8⟩
  ·obtain⟨aa,cur,h5,h6,h7,h8,h9⟩:=aV.gr j g hg;refine⟨aa,cur,h5,by show j<(e.w.setRow k us.toArray).heap.size;rw[setRow_size];exact h6,h7,h8,?_⟩;show(e.w.setRow k us.toArray).heap[j]?=_;rw[iq j (λ ae=>by subst ae;rw[h4] at hg;cases hg)];exact h9
 ·obtain⟨iJ,fu,EH,h5,h6,h7⟩:=iD;refine⟨iJ,fu,EH,h5,?_,h7.next Y⟩;show(e.w.setRow k us.toArray).heap[iJ]?=_;rw[iq iJ (λ ae=>aW (by subst ae;exact aV.inj _ _ _ h5 hb))];exact h6
theorem akd(hT:dh P aq){S:Nat->Option I}{ty:TypeId}{x y:Operand}{nm of:Nat}{cs aZ:List I}{dy:I}{i:TI}(ho:o.op=.store ty x y)(K:o.dst=none)(ht:aq ty=some i)(hx:ev S x=some (.ptr nm of))(hy:ev S y=some dy)
 (Z:vB dy=true)(hsz:Nat.beq dy.cells.length i.sz=true)(bY:uI cs of dy some=some aZ):Ld P o S nm cs aZ:=by
 intro Γ a e aV T iD;obtain⟨t7,bY⟩:=YE bY;cases bY;have h1:=T x (by rw[ho];simp[Op.operands]) _ hx;have u:=T y (by rw[ho];simp[Op.operands]) _ hy;have hk:lj dy=true:=by cases dy<;>first|exact Z|rfl
 have hr:=xp u hk;generalize c8:a.eval x=vx at h1;cases h1 with
 |ptr h1=>
  refine⟨by rw[h1];simp,?_⟩;obtain⟨k,vs,el,J,h4,h5⟩:=iD (by rw[h1];simp);rename_i k0;obtain rfl:k=k0:=by rw[J] at h1;cases h1;rfl
  have ams:=Nat.eq_of_beq_eq_true hsz;have cx:(a.eval y).cells.size=i.sz:=by have:=hr.1;simp at this;omega
  have U3:=run_storeCells_at P k of el (a.eval y).cells.toList 0 vs.toArray e.w h4 (by have:=hr.1;have:=h5.1;simp at*;omega) (VI u Z);unfold Oper.wp;have e1:(execOp a.eval o).run P e.w=.ok .skip (e.w.setRow k (vs.take of++(a.eval y).cells.toList++vs.drop (of+(a.eval y).cells.toList.length)).toArray):=by obtain⟨dst,op,type,pos,after,guard⟩:=o;simp only at ho;subst ho;simp only[Nat.add_zero] at U3;simp[execOp,Instr.storeAt,Instr.sureAddr,c8,storeVar,run_sizeOf hT ht,cx,U3]
  rw[e1];refine⟨rfl,_,rfl,ajR aV J h4 ?_⟩;unfold stored;rw[hr.1];exact((h5.take of).append hr).append (h5.drop _)
theorem Kd(hT:dh P aq){ty:TypeId}{x y:Operand}{nm of:Nat}{cs aZ:List I}{dy:I}{i:TI}(ho:o.op=.store ty x y)(K:o.dst=none)(ht:aq ty=some i)(hx:ev (kv s) x=some (.ptr nm of))(hb:kv b nm=some cs)(hy:ev (kv s) y=some dy)
 (Z:vB dy=true)(hsz:Nat.beq dy.cells.length i.sz=true)(bY:uI cs of dy some=some aZ)(hg:gd l0 o (kv s)=some true)(hB:kv B nm=none)(hD:aC.contains nm=false\/Gl l0 o ix=true)(h:co P n l0 B B0 aB (ix+1) (nm::aC) aR l ⟨s,(nm,aZ)::b,g⟩):co P n l0 B B0 aB ix aC aR (o::l) ⟨s,b,g⟩:=
 .inr (.inr (.inl ⟨nm,cs,aZ,hg,K,hB,hD,hb,akd hT ho K ht hx hy Z hsz bY,h⟩))
theorem qh.post{e:aE}{w:World}{gn:Nat}{aa G0:Gr}{k:Option Nat}{v:Value}{d:I}(h:qh e w gn aa k)(aV:gV Γ e)(hg:e.gi gn=some G0)(dO:aa.el=G0.el)(hsz:aa.sz=G0.sz)(cx:G0.len<=aa.len)(hr:bC (e.more w gn aa k) v d):K0 Γ e (e.more w gn aa k) gn aa v d:=
 ⟨h.ends aV hg dO hsz cx,h.ok aV hg dO,rfl,λ _=>rfl,λ _ _ hb=>h.box aV hg dO hsz cx hb,hr⟩
theorem acX(hT:dh P aq){S:Nat->Option I}{ty:TypeId}{x y:Operand}{gn n m el z1 z2:Nat}{z3:Value}{ps qs:List Pl}{dy:I}{i:TI}(ho:o.op=.call {callee:=.builtin .append,args:=#[x,y],argTypes:=#[ty,ty]})(ht:aq ty=some ⟨.slice el,z1,z2,z3⟩)(dO:aq el=some i)(iH:Nat.beq i.zero.cells.size i.sz=true)(pR:Nat.blt 0 i.sz=true)
 (hx:ev S x=some (.bP gn n ps))(hy:ev S y=some dy)(lV:nS dy=some (m,qs))(cq:qs.length=m*i.sz)(gI:n+m<=maxLen)(fQ:(n+m)*i.bytes<=140737488355328):GStep P o S gn (some ⟨el,i.sz,n⟩) ⟨el,i.sz,n+m⟩ (.bP gn (n+m) (ps++qs)):=by
 intro Γ a e aV T eZ;have di:=T x (by rw[ho];simp[Op.operands,Call.operands]) _ hx;have fp:=yV (T y (by rw[ho];simp[Op.operands,Call.operands]) _ hy) lV;obtain⟨v,aA,k,cS,qF,pP⟩:=Lv hT aV (ty:=o.type) ht dO (Nat.eq_of_beq_eq_true iH) (by simpa[Nat.blt_eq] using pR) di eZ fp cq gI fQ;unfold Oper.wp;have e1:(execOp a.eval o).run P e.w=.ok (.value v) aA:=by obtain⟨dst,op,type,pos,after,guard⟩:=o;simp only at ho;subst ho;simp only[execOp,resolve,invoke,builtin,Sem.run_bind,Sem.run_pure,Result.andThen_ok,List.map_toArray,List.map_cons,List.map_nil,cS]
 rw[e1];exact⟨v,_,rfl,rfl,qF.post aV eZ rfl rfl (by simp) pP⟩
theorem gV.group{e:aE}(aV:gV Γ e){gn:Nat}(eZ:e.gi gn=none)(aa:Gr):gV Γ {e with gi:=λ h=>if h=gn then some aa else e.gi h}/\Ends e {e with gi:=λ h=>if h=gn then some aa else e.gi h}:=by
 have pO:∀k,e.gr k≠some gn:=λ k hk=>by obtain⟨aa,_,h,_⟩:=aV.gr k gn hk;rw[eZ] at h;cases h
 refine⟨⟨aV.kept,aV.cl,aV.bx,aV.inj,λ k bg hk=>?_,aV.kb⟩,⟨λ _ _ _ h1 u=>⟨h1,u⟩,λ _ _ h=>h,λ bg nc h=>⟨nc,?_,rfl,rfl,Nat.le_refl _⟩,λ _ _ _ cur h1 _ J=>⟨h1,cur,J,rfl⟩⟩⟩
 ·obtain⟨nc,cur,h1,u⟩:=aV.gr k bg hk;exact⟨nc,cur,by show(if bg=gn then _ else e.gi bg)=_;rw[if_neg (λ ae=>pO k (by rw[<-ae];exact hk))];exact h1,u⟩
 ·show(if bg=gn then _ else e.gi bg)=_;rw[if_neg (λ ae=>by rw[ae,eZ] at h;cases h)];exact h
theorem acZ(hT:dh P aq){S:Nat->Option I}{ty:TypeId}{x y:Operand}(gn:Nat){n m el z1 z2:Nat}{z3:Value}{ps qs:List Pl}{dy:I}{i:TI}(ho:o.op=.call {callee:=.builtin .append,args:=#[x,y],argTypes:=#[ty,ty]})(ht:aq ty=some ⟨.slice el,z1,z2,z3⟩)(dO:aq el=some i)(iH:Nat.beq i.zero.cells.size i.sz=true)(pR:Nat.blt 0 i.sz=true)
 (hx:ev S x=some (.p (.sl true n ps)))(cG:ps.length=n*i.sz)(hy:ev S y=some dy)(lV:nS dy=some (m,qs))(cq:qs.length=m*i.sz)(gI:n+m<=maxLen)(fQ:(n+m)*i.bytes<=140737488355328):GStep P o S gn none ⟨el,i.sz,n+m⟩ (.bP gn (n+m) (ps++qs)):=by
 intro Γ a e aV T eZ;have di:=T x (by rw[ho];simp[Op.operands,Call.operands]) _ hx;have fp:=yV (T y (by rw[ho];simp[Op.operands,Call.operands]) _ hy) lV;obtain⟨sN,Io⟩:=aV.group eZ ⟨el,i.sz,n⟩;have gM:bC {e with gi:=λ h=>if h=gn then some ⟨el,i.sz,n⟩ else e.gi h} (a.eval x) (.bP gn n ps):=by
  generalize a.eval x=vx at di;cases di with
  |p h=>have u:=(h.next Io).low;obtain⟨A,bG,hv,_,_,_,h6,_⟩:=qa h;exact .bP u ⟨⟨el,i.sz,n⟩,A,bG,by simp,hv,Nat.le_refl _,cG,.inl (h6 rfl)⟩
 obtain⟨v,aA,k,cS,qF,pP⟩:=Lv hT sN (ty:=o.type) ht dO (Nat.eq_of_beq_eq_true iH) (by simpa[Nat.blt_eq] using pR) gM (by simp) (fp.next Io) cq gI fQ;have ui:=qF.post sN (G0:=⟨el,i.sz,n⟩) (by simp) rfl rfl (by simp) pP;unfold Oper.wp;have e1:(execOp a.eval o).run P e.w=.ok (.value v) aA:=by obtain⟨dst,op,type,pos,after,guard⟩:=o;simp only at ho;subst ho;simp only[execOp,resolve,invoke,builtin,Sem.run_bind,Sem.run_pure,Result.andThen_ok,List.map_toArray,List.map_cons,List.map_nil,cS]
 rw[e1];refine⟨v,_,rfl,rfl,⟨Io.trans ui.ends,ui.ok,ui.bx,λ h=>?_,λ c ds hb=>ui.other c ds (hb.ends Io rfl),ui.rep⟩⟩;rw[ui.gi]
 by_cases ae:h=gn
 ·simp[ae]
 ·simp[ae]
theorem DG(hT:dh P aq){ty:TypeId}{x y:Operand}{gn cO m el z1 z2:Nat}{z3:Value}{ps qs:List Pl}{dy:I}{i:TI}(ho:o.op=.call {callee:=.builtin .append,args:=#[x,y],argTypes:=#[ty,ty]})(ht:aq ty=some ⟨.slice el,z1,z2,z3⟩)(dO:aq el=some i)(iH:Nat.beq i.zero.cells.size i.sz=true)(pR:Nat.blt 0 i.sz=true)
 (hg:gd l0 o (kv s)=some true)(K:o.dst=some t)(hx:ev (kv s) x=some (.bP gn cO ps))(ia:kv g gn=some ⟨el,i.sz,cO⟩)(hL:Dj o aR gn=true)(hy:ev (kv s) y=some dy)(lV:nS dy=some (m,qs))(cq:qs.length=m*i.sz)
 (gI:cO+m<=maxLen)(fQ:(cO+m)*i.bytes<=140737488355328)(h:co P n l0 B B0 aB (ix+1) aC ((gn,t)::aR) l ⟨(t,.bP gn (cO+m) (ps++qs))::s,b,(gn,⟨el,i.sz,cO+m⟩)::g⟩):co P n l0 B B0 aB ix aC aR (o::l) ⟨s,b,g⟩:=
 .inr (.inr (.inr ⟨gn,_,_,t,hg,K,by simp[uW,ho],hL,by rw[ia];exact acX hT ho ht dO iH pR hx hy lV cq gI fQ,by rw[K];exact h⟩))
theorem PO(hT:dh P aq){ty:TypeId}{x y:Operand}(gn:Nat){cO m el z1 z2:Nat}{z3:Value}{ps qs:List Pl}{dy:I}{i:TI}(ho:o.op=.call {callee:=.builtin .append,args:=#[x,y],argTypes:=#[ty,ty]})(ht:aq ty=some ⟨.slice el,z1,z2,z3⟩)(dO:aq el=some i)(iH:Nat.beq i.zero.cells.size i.sz=true)(pR:Nat.blt 0 i.sz=true)
 (hg:gd l0 o (kv s)=some true)(K:o.dst=some t)(hx:ev (kv s) x=some (.p (.sl true cO ps)))(cG:ps.length=cO*i.sz)(ia:kv g gn=none)(hL:Dj o aR gn=true)(hy:ev (kv s) y=some dy)(lV:nS dy=some (m,qs))(cq:qs.length=m*i.sz)
 (gI:cO+m<=maxLen)(fQ:(cO+m)*i.bytes<=140737488355328)(h:co P n l0 B B0 aB (ix+1) aC ((gn,t)::aR) l ⟨(t,.bP gn (cO+m) (ps++qs))::s,b,(gn,⟨el,i.sz,cO+m⟩)::g⟩):co P n l0 B B0 aB ix aC aR (o::l) ⟨s,b,g⟩:=
 .inr (.inr (.inr ⟨gn,_,_,t,hg,K,by simp[uW,ho],hL,by rw[ia];exact acZ hT gn ho ht dO iH pR hx cG hy lV cq gI fQ,by rw[K];exact h⟩))
def px{az:Type}:List Nat->List (Nat×List I)->(List (Nat×List I)->Option az)->Option az
 |_,[],k=>k []
 |ws,(m,cs)::l,k=>bif ws.contains m then px ws l k else px (m::ws) l λ r=>k ((m,cs)::r)
theorem B7{az:Type}:∀(m:List (Nat×List I))(ws:List Nat)(k:List (Nat×List I)->Option az)(r:az),px ws m k=some r->∃B,k B=some r/\(B.map (·.1)).Nodup/\(∀b∈B.map (·.1),b∉ws)/\xL m B:=by
 intro m;induction m with
 |nil=>intro ws k r h;exact⟨[],h,by simp,λ b hb=>by simp at hb,trivial⟩
 |cons p m ih=>
  intro ws k r h;obtain⟨q,ds⟩:=p;have Y9:∀(B:List (Nat×List I)),q∉B.map (·.1)->xL m B->xL ((q,ds)::m) B:=by
   intro B;induction B with
   |nil=>intro _ _;trivial
   |cons x B afY=>intro hq T;simp only[List.map_cons,List.mem_cons,not_or] at hq;exact⟨by rw[dc,if_neg hq.1];exact T.1,afY hq.2 T.2⟩
  simp only[px] at h;cases F:ws.contains q
  ·rw[F] at h;simp only[cond_false] at h;obtain⟨B,h5,h6,h7,h8⟩:=ih _ _ _ h;have hq:q∉B.map (·.1):=λ hq=>h7 q hq (by simp)
   refine⟨(q,ds)::B,h5,?_,λ b hb=>?_,⟨by rw[dc];simp,Y9 B hq h8⟩⟩
   ·simp only[List.map_cons,List.nodup_cons];exact⟨hq,h6⟩
   ·simp only[List.map_cons,List.mem_cons] at hb;rcases hb with rfl|hb
    ·simpa using F
    ·exact λ h8=>h7 b hb (List.mem_cons_of_mem _ h8)
  ·rw[F] at h;simp only[cond_true] at h;obtain⟨B,h5,h6,h7,h8⟩:=ih _ _ _ h;have hm:q∈ws:=by simpa using F
   exact⟨B,h5,h6,h7,Y9 B (λ hq=>h7 q hq hm) h8⟩
theorem RB{L:St}(k:Nat)(ws:List Nat){id:Nat}{l l1 l2:List Oper}{B:List (Nat×List I)}(T:mD k l (λ a=>kW k l λ b=>some (a,b))=some (l1,l2))(hv:px ws L.b some=some B)(hm:P.follows .mixedOrders=true)(hB:r9 l.toArray Γ.n=true)(hT:vU l.toArray k=true)(h:co P Γ.n l B L.b (bw P Γ l Q l2) 0 [] [] l1 L):a8 P Γ (.region id l.toArray true) Q L:=by obtain⟨h1,T⟩:=td T;obtain⟨u,T⟩:=n4 T;cases T;obtain⟨qc,J,_,_,h4⟩:=B7 _ _ _ _ hv;cases J;refine Rz B h4 (l.take k) (l.drop k) (List.take_append_drop k l).symm hm hB ?_ h;rw[List.length_take,Nat.min_eq_left h1];exact hT
theorem RA{L:St}(ws:List Nat){id:Nat}{l:List Oper}{B:List (Nat×List I)}(hv:px ws L.b some=some B)(hm:P.follows .mixedOrders=true)(hB:r9 l.toArray Γ.n=true)(h:co P Γ.n l B L.b (Q .normal) 0 [] [] l L):a8 P Γ (.region id l.toArray true) Q L:=by
 obtain⟨qc,J,_,_,h4⟩:=B7 _ _ _ _ hv;cases J;refine Rz B h4 l [] (by simp) hm hB ?_ ?_
 ·unfold vU;simp only[List.all_eq_true,List.mem_range,Bool.or_eq_true,decide_eq_true_eq];intro t ht;left
  simpa using ht
 ·have mono:∀(B0:List (Nat×List I))(jm:List Oper)(ix:Nat)(aC:List Nat)(aR:List (Nat×Nat))(L:St)(aB qY:St->Prop),(∀L,aB L->qY L)->co P Γ.n l B B0 aB ix aC aR jm L->co P Γ.n l B B0 qY ix aC aR jm L:=by
   intro B0 jm;induction jm with
   |nil=>intro ix aC aR L aB qY hk h;exact hk L h
   |cons o jm ih=>
    intro ix aC aR L aB qY hk h;rcases h with⟨d,nb,h1,u,J,h4⟩|⟨h1,u⟩|⟨nm,cs,aZ,h1,u,J,h4,h5,h6,h7⟩|⟨g,aa,d,t,h1,u,h0,J,h4,h5⟩
    ·exact .inl ⟨d,nb,h1,u,J,ih _ _ _ _ _ _ hk h4⟩
    ·exact .inr (.inl ⟨h1,ih _ _ _ _ _ _ hk u⟩)
    ·exact .inr (.inr (.inl ⟨nm,cs,aZ,h1,u,J,h4,h5,h6,ih _ _ _ _ _ _ hk h7⟩))
    ·exact .inr (.inr (.inr ⟨g,aa,d,t,h1,u,h0,J,h4,ih _ _ _ _ _ _ hk h5⟩))
  exact mono L.b l 0 [] [] L _ _ (λ bQ bD=>oR bD) h
end
variable{S:Nat->Option I}{B:Nat->Option (List I)}{o:Oper}
def J2(cs:List I)(aN:Nat)(ds:List I):List I:=cs.take aN++ds++cs.drop (aN+ds.length)
def Pk{az:Type}(cs:List I)(aN:Nat)(ds:List I)(k:List I->Option az):Option az:=
 mD aN cs λ a=>kW aN cs λ b=>kW ds.length b λ c=>ng ds c λ r=>ng a r k
theorem aih{az:Type}{cs:List I}{aN:Nat}{ds:List I}{k:List I->Option az}{r:az}(h:Pk cs aN ds k=some r):aN+ds.length<=cs.length/\k (J2 cs aN ds)=some r:=by unfold Pk at h;obtain⟨h1,h⟩:=td h;obtain⟨u,h⟩:=n4 h;obtain⟨J,h⟩:=n4 h;rw[sr,sr] at h;refine⟨by simp at J;omega,?_⟩;unfold J2;rw[List.append_assoc];rw[List.drop_drop] at h;exact h
def Au(DE:Nat->Option (Nat×Nat)):List I->List (Nat×I)->Option (List I)
 |cs,[]=>some cs
 |cs,(i,d)::rest=>match DE i with
  |some (aN,sz)=>bif lj d&&Nat.beq d.cells.length sz then nj d λ ds=>Pk cs aN ds λ r=>Au DE r rest else none
  |none=>none
theorem acK(us:List Value):∀(k aN:Nat)(cs:Array Value),aN+k+us.length<=cs.size->((us.zipIdx k).foldl (λ cs(c,j)=>cs.setIfInBounds (aN+j) c) cs).toList=cs.toList.take (aN+k)++us++cs.toList.drop (aN+k+us.length):=by
 induction us with
 |nil=>intro k aN cs h;simp
 |cons aH us ih=>
  intro k aN cs h;rw[List.zipIdx_cons,List.foldl_cons];simp only[List.length_cons] at h;rw[ih (k+1) aN _ (by simp;omega)];have hk:aN+k<cs.toList.length:=by simp;omega
  apply List.ext_getElem?;intro j;simp only[Array.toList_setIfInBounds,List.length_cons];rcases Nat.lt_trichotomy j (aN+k) with h1|h1|h1
  ·rw[List.append_assoc,List.append_assoc,List.getElem?_append_left (by simp;omega),List.getElem?_append_left (by simp;omega),List.getElem?_take,List.getElem?_take,if_pos (by omega),if_pos h1,List.getElem?_set_ne (by omega)]
  ·subst h1;rw[List.append_assoc,List.append_assoc,List.getElem?_append_left (by simp;omega),List.getElem?_append_right (by simp;omega),List.getElem?_take,if_pos (by omega)];simp only[List.length_take,Array.length_toList];rw[show aN+k-min (aN+k) cs.size=0 by simp at hk;omega];rw[List.getElem?_set_self hk]
   rfl
  ·rw[List.append_assoc,List.append_assoc];rcases Nat.lt_or_ge j (aN+k+1+us.length) with u|u
   ·rw[List.getElem?_append_right (by simp;omega),List.getElem?_append_left (by simp;omega),List.getElem?_append_right (by simp;omega)];simp only[List.length_take,List.length_set,Array.length_toList];simp only[Array.length_toList] at hk;rw[show min (aN+(k+1)) cs.size=aN+k+1 by omega,show min (aN+k) cs.size=aN+k by omega,show j-(aN+k)=(j-(aN+k+1))+1 by omega];simp only[List.cons_append,List.getElem?_cons_succ];rw[List.getElem?_append_left (by omega)]
   ·rw[List.getElem?_append_right (by simp;omega),List.getElem?_append_right (by simp;omega),List.getElem?_append_right (by simp;omega),List.getElem?_append_right (by simp;omega)];simp only[List.length_take,List.length_set,Array.length_toList,List.length_cons,List.getElem?_drop];simp only[Array.length_toList] at hk;rw[List.getElem?_set_ne (by omega)]
    congr 1
    omega
def K9(e:aE):List (Nat×Value)->List (Nat×I)->Prop
 |[],_=>True
 |(_,v)::l,(_,d)::m=>bC e v d/\K9 e l m
 |_::_,[]=>False
theorem H9{e:aE}(DE:Nat->Option (Nat×Nat)):∀(parts:List (Nat×Value))(BO:List (Nat×I))(cells:Array Value)(cs res:List I),DReps e cells.toList cs->parts.map (·.1)=BO.map (·.1)->K9 e parts BO->Au DE cs BO=some res->∃tB,Instr.fill DE cells parts=some tB/\DReps e tB.toList res
 |[],BO,cells,cs,res,hr,hm,_,h=>by
  have:BO=[]:=by simpa using hm.symm
  subst this;simp only[Au,Option.some.injEq] at h;subst h;exact⟨cells,rfl,hr⟩
 |(i,v)::parts,[],cells,cs,res,hr,hm,_,h=>by simp at hm
 |(i,v)::parts,(j,d)::BO,cells,cs,res,hr,hm,K,h=>by
  simp only[List.map_cons,List.cons.injEq] at hm;obtain⟨rfl,hm⟩:=hm;simp only[Au] at h;split at h
  ·rename_i aN sz G;cases hb:(lj d&&Nat.beq d.cells.length sz)
   ·rw[hb] at h;cases h
   ·rw[hb] at h;simp only[cond_true,xS] at h;obtain⟨jh,h⟩:=aih h;simp only[Bool.and_eq_true] at hb;obtain⟨h1,u⟩:=hb;have cj:=Nat.eq_of_beq_eq_true u;have hv:=xp K.1 h1;have Je:v.cells.size=sz:=by have:=hv.1;simp at this;omega
    have dw:cells.size=cs.length:=by have:=hr.1;simpa using this
    have T4:=acK v.cells.toList 0 aN cells (by simp;omega);have hz:(v.cells.zipIdx.foldl (λ cs(c,j)=>cs.setIfInBounds (aN+j) c) cells).toList=cells.toList.take aN++v.cells.toList++cells.toList.drop (aN+v.cells.toList.length):=by simp only[Nat.add_zero] at T4;rw[<-T4,<-Array.foldl_toList,Array.toList_zipIdx]
    have lh:DReps e (v.cells.zipIdx.foldl (λ cs(c,j)=>cs.setIfInBounds (aN+j) c) cells).toList (J2 cs aN d.cells):=by rw[hz,J2,hv.1];exact((hr.take aN).append hv).append (hr.drop _)
    obtain⟨tB,h5,h6⟩:=H9 DE parts BO _ _ res lh hm K.2 h;refine⟨tB,?_,h6⟩;unfold Instr.fill;rw[G];simp only[Je];rw[if_neg (by simp;omega)];exact h5
  ·cases h
def wo{az:Type}(S:Nat->Option I):List (Nat×Operand)->(List (Nat×I)->Option az)->Option az
 |[],k=>k []
 |(i,x)::l,k=>match ev S x with
  |some d=>wo S l λ ds=>k ((i,d)::ds)
  |none=>none
theorem Mn{az:Type}{e:aE}{a:Act}:∀(l:List (Nat×Operand))(k:List (Nat×I)->Option az)(r:az),(∀x∈l.map (·.2),∀d,ev S x=some d->bC e (a.eval x) d)->wo S l k=some r->∃ds,(l.map λ p=>(p.1,a.eval p.2)).map (·.1)=ds.map (·.1)/\K9 e (l.map λ p=>(p.1,a.eval p.2)) ds/\k ds=some r
 |[],k,r,_,h=>⟨[],rfl,trivial,h⟩
 |(i,x)::l,k,r,T,h=>by
  simp only[wo] at h;split at h
  ·rename_i d h1;obtain⟨ds,J,h4,h5⟩:=Mn l _ r (λ y hy=>T y (by simp at hy⊢;exact .inr hy)) h;exact⟨(i,d)::ds,by simp only[List.map_cons] at J⊢;rw[J],⟨T x (by simp) d h1,h4⟩,h5⟩
  ·cases h
def HO(aq:Nat->Option TI)(t:TypeId)(ds:List (Nat×I)):Option I:=match aq t with
 |some ⟨.struct fs,_,_,z⟩=>bif fs.all (λ f=>Nat.blt 0 f.2.2) then(match sw z (λ c=>nj c λ cs=>Au (λ i=>(fs[i]?).map λ f=>(f.2.1,f.2.2)) cs ds) with
  |some cs=>some (.agg cs)
  |none=>none) else none
 |some ⟨.array _ el,_,_,z⟩=>match aq el with
  |some j=>match sw z (λ c=>nj c λ cs=>Au (λ i=>some (i*j.sz,j.sz)) cs ds) with
   |some cs=>some (.agg cs)
   |none=>none
  |none=>none
 |_=>none
theorem aao{P:Program}{w:World}{az dE:Type}(f:az->Sem dE)(g:az->dE)(l:Array az)(h:∀x∈l.toList,(f x).run P w=.ok (g x) w):(l.mapM f).run P w=.ok (l.map g) w:=by
 rw[Array.mapM_eq_mapM_toList];have:=V8 f g l.toList h;simp only[map_eq_pure_bind,Sem.run_bind,this,Result.andThen_ok,Sem.run_pure]
 congr 1
 apply Array.ext';simp
theorem HQ(hT:dh P aq){t:TypeId}{parts:Array (Nat×Operand)}{d:I}(ho:o.op=.build t parts)(G:wo S parts.toList (HO aq t)=some d)(hz:(match aq t with|some i=>lj (mh i.zero)|none=>false)=true):dM P o S B d none:=by
 refine jZ λ a e T=>?_
 obtain⟨ds,h1,u,K⟩:=Mn (e:=e) (a:=a) parts.toList _ d (λ x hx=>T.1 x (by rw[ho];simp only[Op.operands];simpa using hx)) G;have FS:(parts.map λ(i,x)=>(i,a.eval x)).toList=parts.toList.map λ p=>(p.1,a.eval p.2):=by simp
 unfold HO at K;split at K
 ·rename_i fs z1 z2 z ht;rw[ht] at hz;cases dH:fs.all (λ f=>Nat.blt 0 f.2.2)
  ·rw[dH] at K;cases K
  rw[dH] at K;simp only[cond_true] at K;split at K
  ·rename_i cs yj;rw[zZ,xS] at yj;cases K;obtain⟨d0,ep,hk⟩:=hT.desc t _ ht;cases d0<;>simp only[km,TK.struct.injEq,reduceCtorEq] at hk
   rename_i tH;have oy:=xp (zY e z) hz;obtain⟨tB,J,h4⟩:=H9 (e:=e) _ _ ds z.cells (mh z).cells cs oy h1 u yj;refine⟨.agg tB,?_,by have:=bC.agg (e:=e) h4.1 h4.2;simpa using this⟩;have aff:(tH.mapM λ f=>do pure (f.offset,<-sizeOf f.type):Sem (Array (Nat×Nat))).run P e.w=.ok (tH.map λ f=>(f.offset,P.cellsOf f.type)) e.w:=by
    refine aao _ _ tH λ f hf=>?_
    have CR:(f.type,f.offset,P.cellsOf f.type)∈fs:=by rw[<-hk];exact List.mem_map.2 ⟨f,hf,rfl⟩
    have Bf:=List.all_eq_true.1 dH _ CR;have afi:0<P.cellsOf f.type:=by simpa[Nat.blt_eq] using Bf
    rcases hi:P.info? f.type with _|i
    ·simp[Program.cellsOf,hi] at afi
    ·simp[sizeOf,typeInfo,hi,Program.cellsOf]
   have cV:(λ i=>(tH.map λ f=>(f.offset,P.cellsOf f.type))[i]?)=λ(i:Nat)=>(fs[i]?).map λ(f:TypeId×Nat×Nat)=>(f.2.1,f.2.2):=by
    funext i
    rw[<-hk];simp;cases tH[i]?<;>rfl
   obtain⟨dst,op,type,pos,after,guard⟩:=o;simp only at ho;subst ho;have F7:(zeroValue t).run P e.w=.ok z e.w:=DM hT ht e.w;rw[<-cV] at J;simp only[execOp,Instr.build,Sem.run_bind,F7,Result.andThen_ok,run_underlying ep];rw[aff];simp only[Result.andThen_ok,FS,J,Sem.run_pure]
  ·cases K
 ·rename_i n el z1 z2 z ht;rw[ht] at hz;split at K
  ·rename_i j hj;split at K
   ·rename_i cs yj;rw[zZ,xS] at yj;cases K;obtain⟨d0,ep,hk⟩:=hT.desc t _ ht;cases d0<;>simp only[km,TK.array.injEq,reduceCtorEq] at hk
    have oy:=xp (zY e z) hz;obtain⟨tB,J,h4⟩:=H9 (e:=e) _ _ ds z.cells (mh z).cells cs oy h1 u yj;refine⟨.agg tB,?_,by have:=bC.agg (e:=e) h4.1 h4.2;simpa using this⟩;obtain⟨dst,op,type,pos,after,guard⟩:=o;simp only at ho;subst ho;have F7:(zeroValue t).run P e.w=.ok z e.w:=DM hT ht e.w;rw[hk.2] at ep;simp only[execOp,Instr.build,Sem.run_bind,F7,Result.andThen_ok,run_underlying ep,run_sizeOf hT hj,FS,J,Sem.run_pure]
   ·cases K
  ·cases K
 ·cases K
end
end Go.Proofs.YtkkldicehapklaaGreat
end
section
namespace Go.Proofs.YtkkldicehapklaaGreat
open Go.RowKit
section
variable{P:Program}{aq:Nat->Option TI}{Γ:bX}{S:Nat->Option I}{B:Nat->Option (List I)}{o:Oper}
def za(zc:List I):Nat->List I
 |0=>[]
 |n+1=>zc++za zc n
theorem Zl(zc:List I):∀n,(za zc n).length=n*zc.length
 |0=>by simp[za]
 |n+1=>by simp[za,Zl zc n,Nat.add_mul];omega
theorem Zk(zc:List I):∀(n j:Nat),j<n*zc.length->(za zc n)[j]?=zc[j%zc.length]?
 |0,j,h=>by omega
 |n+1,j,h=>by
  rw[za];rcases Nat.lt_or_ge j zc.length with hj|hj
  ·rw[List.getElem?_append_left hj,Nat.mod_eq_of_lt hj]
  ·rw[List.getElem?_append_right hj,Zk zc n _ (by rw[Nat.add_mul] at h;omega),Nat.mod_eq_sub_mod hj]
def KR{az:Type}(zc:List I):Nat->(List I->Option az)->Option az
 |0,k=>k []
 |n+1,k=>KR zc n λ r=>ng zc r k
theorem Zj{az:Type}(zc:List I):∀(n:Nat)(k:List I->Option az),KR zc n k=k (za zc n)
 |0,k=>rfl
 |n+1,k=>by rw[KR,Zj zc n,sr];rfl
def y4{az:Type}:List I->(List Pl->Option az)->Option az
 |[],k=>k []
 |.p (.raw v)::l,k=>y4 l λ r=>k (.raw v::r)
 |.p (.sl _ n ps)::l,k=>y4 l λ r=>k (.sl false n ps::r)
 |.bP _ n ps::l,k=>y4 l λ r=>k (.sl false n ps::r)
 |_,_=>none
def sj:List I->Option (List Pl)
 |[]=>some []
 |.p x::l=>(sj l).map (Gs x::·)
 |.bP _ n ps::l=>(sj l).map (Pl.sl false n ps::·)
 |_=>none
theorem KI{az:Type}:∀(ds:List I)(k:List Pl->Option az),y4 ds k=(sj ds).bind k
 |[],k=>rfl
 |.p (.raw v)::l,k=>by simp only[y4,sj,KI l];cases sj l<;>rfl
 |.p (.sl _ n ps)::l,k=>by simp only[y4,sj,KI l];cases sj l<;>rfl
 |.bP _ n ps::l,k=>by simp only[y4,sj,KI l];cases sj l<;>rfl
 |.agg _::l,k=>rfl
 |.ca _::l,k=>rfl
 |.ptr _ _::l,k=>rfl
 |.el _::l,k=>rfl
 |.arr _ _ _ _::l,k=>rfl
 |.fn _ _ _::l,k=>rfl
 |.any::l,k=>rfl
theorem QM:∀{ds:List I}{ps:List Pl}(_:sj ds=some ps),ds.length=ps.length/\∀(i:Nat) x,ps[i]?=some x->∃d,ds[i]?=some d/\∀e v,bC e v d->c5 e v x
 |[],ps,h=>by simp only[sj,Option.some.injEq] at h;subst h;exact⟨rfl,λ i x h=>by simp at h⟩
 |.p y::l,ps,h=>by
  simp only[sj,Option.map_eq_some_iff] at h;obtain⟨qs,h1,rfl⟩:=h;obtain⟨u,J⟩:=QM h1;refine⟨by simp[u],λ i x hx=>?_⟩;cases i with
  |zero=>simp only[List.getElem?_cons_zero,Option.some.injEq] at hx;subst hx;exact⟨_,rfl,λ e v hv=>by cases hv with|p h=>exact h.low⟩
  |succ i=>simpa using J i x (by simpa using hx)
 |.bP g n amH::l,ps,h=>by
  simp only[sj,Option.map_eq_some_iff] at h;obtain⟨qs,h1,rfl⟩:=h;obtain⟨u,J⟩:=QM h1;refine⟨by simp[u],λ i x hx=>?_⟩;cases i with
  |zero=>simp only[List.getElem?_cons_zero,Option.some.injEq] at hx;subst hx;exact⟨_,rfl,λ e v hv=>by cases hv with|bP h _=>exact h⟩
  |succ i=>simpa using J i x (by simpa using hx)
 |.agg _::l,ps,h=>by cases h
 |.ca _::l,ps,h=>by cases h
 |.ptr _ _::l,ps,h=>by cases h
 |.el _::l,ps,h=>by cases h
 |.arr _ _ _ _::l,ps,h=>by cases h
 |.fn _ _ _::l,ps,h=>by cases h
 |.any::l,ps,h=>by cases h
def HP(aq:Nat->Option TI)(t:TypeId)(len:Nat)(ds:List (Nat×I)):Option (List Pl):=match aq t with
 |some ⟨.slice el,_,_,_⟩=>match aq el with
  |some j=>bif lj (mh j.zero)&&Nat.beq (mh j.zero).cells.length j.sz&&Nat.ble (len*j.sz) 1000000&&Nat.blt 0 j.sz then(match sw j.zero (λ c=>nj c λ zc=>KR zc len λ z=>Au (λ i=>some (i*j.sz,j.sz)) z ds) with
   |some cs=>bif cs.all I.leaf then y4 cs some else none
   |none=>none) else none
  |none=>none
 |_=>none
theorem ahn{e:aE}{us:List Value}{ps:List Pl}{n:Nat}{t:TypeId}(hn:n<=maxLen)(cx:us.length=ps.length)(aeK:∀v∈us,lF v=true)(hr:∀(i:Nat) v x,us[i]?=some v->ps[i]?=some x->c5 e v x):
 bC (e.alloc (.cells us.toArray t) none) (.slice (some ⟨e.w.heap.size,0,none⟩) n n) (.p (.sl true n ps)):=by
 have hg:=aE.v8 e (.cells us.toArray t) none;refine .p (DT (Nat.le_refl _) hn (λ h=>by cases h) (λ _=>rfl) (.inr ⟨_,0,rfl,λ i=>us.getD i undef,λ i x hx=>?_⟩));have hi:i<us.length:=by rw[cx];exact(List.getElem?_eq_some_iff.1 hx).1
 have hu:us[i]?=some us[i]:=List.getElem?_eq_getElem hi;have mP:us.getD i undef=us[i]:=by simp[hi]
 show _/\_=some (us.getD i undef)/\lF (us.getD i undef)=true/\c5 _ (us.getD i undef) x;rw[mP];refine⟨λ k hk=>?_,?_,aeK _ (List.getElem_mem hi),(hr i _ x hu hx).next hg.ends⟩
 ·simp[aE.alloc] at hk
 ·show(e.w.alloc _).cell? _=_;rw[cell_of_row _ _ (0+i) us.toArray t (0,0) (heap_alloc_new e.w _)];simp
theorem RK(hT:dh P aq){t:TypeId}{len:Nat}{parts:Array (Nat×Operand)}{ps:List Pl}(ho:o.op=.buildSlice t len parts)(G:wo S parts.toList (HP aq t len)=some ps):dM P o S B (.p (.sl true len ps)) none:=by
 intro a e T _;obtain⟨ds,h1,u,K⟩:=Mn (e:=e) (a:=a) parts.toList _ ps (λ x hx=>T.1 x (by rw[ho];simp only[Op.operands];simpa using hx)) G;have FS:(parts.map λ(i,x)=>(i,a.eval x)).toList=parts.toList.map λ p=>(p.1,a.eval p.2):=by simp
 unfold HP at K;split at K
 ·rename_i el z1 z2 z3 ht;split at K
  ·rename_i j hj;cases hb:(lj (mh j.zero)&&Nat.beq (mh j.zero).cells.length j.sz&&Nat.ble (len*j.sz) 1000000&&Nat.blt 0 j.sz)
   ·rw[hb] at K;cases K
   rw[hb] at K;simp only[cond_true] at K;simp only[Bool.and_eq_true] at hb;obtain⟨⟨⟨oY,Np⟩,adQ⟩,Nr⟩:=hb;have Nq:=Nat.eq_of_beq_eq_true Np;have alL:=Nat.le_of_ble_eq_true adQ;have TQ:0<j.sz:=by simpa[Nat.blt_eq] using Nr
   split at K
   ·rename_i cs yj;rw[zZ,xS,Zj] at yj;cases vk:cs.all I.leaf
    ·rw[vk] at K;cases K
    rw[vk] at K;simp only[cond_true,KI,Option.bind_fun_some] at K;obtain⟨d0,ep,hk⟩:=hT.desc t _ ht;cases d0<;>simp only[km,TK.slice.injEq,reduceCtorEq] at hk
    rw[hk] at ep;have oy:=xp (zY e j.zero) oY;have iH:j.zero.cells.size=j.sz:=by have:=oy.1;simp at this;omega
    have afQ:DReps e ((Array.range (len*j.sz)).map (λ i=>j.zero.cells[i%j.zero.cells.size]!)).toList (za (mh j.zero).cells len):=by
     refine⟨by simp[Zl,Nq],λ i v d hv nv=>?_⟩;have dY:i<len*j.sz:=by have:=(List.getElem?_eq_some_iff.1 hv).1;simpa using this
     rw[Zk _ _ _ (by rw[Nq];exact dY),Nq] at nv;simp[dY] at hv;rw[iH] at hv;have hm:i%j.sz<j.sz:=Nat.mod_lt _ TQ;have:j.zero.cells.toList[i%j.sz]?=some v:=by rw[<-hv];simp[iH,hm]
     exact oy.2 _ v d this nv
    obtain⟨tB,J,h4⟩:=H9 (e:=e) _ _ ds _ _ cs afQ h1 u yj;obtain⟨h5,h6⟩:=QM K;unfold Oper.wp;have e1:(execOp a.eval o).run P e.w=.ok (.value (.slice (some ⟨e.w.heap.size,0,none⟩) len len)) (e.w.alloc (.cells tB.toList.toArray el)):=by
     obtain⟨dst,op,type,pos,after,guard⟩:=o;simp only at ho;subst ho;have F7:(zeroValue el).run P e.w=.ok j.zero e.w:=DM hT hj e.w;have c6:¬(len*j.sz>2^24):=by omega
     simp only[execOp,Instr.buildSlice,Sem.run_bind,run_underlying ep,Result.andThen_ok,run_sizeOf hT hj];rw[if_neg c6]
     by_cases h0:len*j.sz=0
     ·have afm:(Array.range (len*j.sz)).map (λ i=>j.zero.cells[i%j.zero.cells.size]!)=(Array.range (len*j.sz)).map (λ i=>(#[]:Array Value)[i%(#[]:Array Value).size]!):=by simp[h0]
      rw[afm] at J;simp only[h0,if_true,Sem.run_bind,Sem.run_pure,Result.andThen_ok,FS] at J⊢;rw[J];simp[newRow]
     ·simp only[h0,if_false,Sem.run_bind,F7,Sem.run_pure,Result.andThen_ok,FS,J];simp[newRow]
    rw[e1];refine⟨_,e.alloc (.cells tB.toList.toArray el) none,rfl,rfl,aE.v8 _ _ _,ahn (by have:len*1<=len*j.sz:=Nat.mul_le_mul_left _ TQ;unfold maxLen;omega) (by rw[h4.1,h5]) (λ v hv=>?_) (λ i v x hv hx=>?_)⟩
    ·obtain⟨i,hi,rfl⟩:=List.mem_iff_getElem.1 hv;have qC:i<cs.length:=by rw[<-h4.1];exact hi
     exact OG (h4.2 i _ _ (List.getElem?_eq_getElem hi) (List.getElem?_eq_getElem qC)) (List.all_eq_true.1 vk _ (List.getElem_mem qC))
    ·obtain⟨d,h7,h8⟩:=h6 i x hx;exact h8 e v (h4.2 i v d hv h7)
   ·cases K
  ·cases K
 ·cases K
def Ck(S:Nat->Option I)(x:Option Operand)(abD:Int):Option Int:=match x with
 |none=>some abD
 |some y=>match ev S y with
  |some (.p (.raw (.int _ i)))=>some i
  |_=>none
theorem Kw(hT:dh P aq){t el:TypeId}{x:Operand}{lo hi:Option Operand}{dx:I}{n:Nat}{ps:List Pl}{l h:Int}{z1 z2:Nat}{z3:Value}{j:TI}(m:Nat)(qs:List Pl)(ho:o.op=.slice t x lo hi none)(ht:aq t=some ⟨.slice el,z1,z2,z3⟩)(he:aq el=some j)
 (hx:ev S x=some dx)(ad9:nS dx=some (n,ps))(pM:Ck S lo 0=some l)(Fv:Ck S hi n=some h)(h0:0<=l)(h1:l<=h)(u:h<=n)(hm:h-l=m)(FW:qs.length=m*j.sz)(hq:∀(i:Nat) q,qs[i]?=some q->ps[l.toNat*j.sz+i]?=some q):dM P o S B (.p (.sl false m qs)) none:=by
 refine jZ λ a e T=>?_
 have di:=yV (T.1 x (by rw[ho];simp[Op.operands]) _ hx) ad9;obtain⟨A,bG,hv,c7,fI,n9,_,hA⟩:=qa di;obtain⟨d0,ep,hk⟩:=hT.desc t _ ht;cases d0<;>simp only[km,reduceCtorEq,TK.slice.injEq] at hk
 rw[hk] at ep;have IM:∀y,lo=some y->∃k,a.eval y=.int k l:=λ y hy=>by
  subst hy;simp only[Ck] at pM;split at pM
  ·rename_i k i c8;cases pM;exact⟨k,dg (T.1 y (by rw[ho];simp[Op.operands]) _ c8)⟩
  ·cases pM
 have aer:∀y,hi=some y->∃k,a.eval y=.int k h:=λ y hy=>by
  subst hy;simp only[Ck] at Fv;split at Fv
  ·rename_i k i c8;cases Fv;exact⟨k,dg (T.1 y (by rw[ho];simp[Op.operands]) _ c8)⟩
  ·cases Fv
 have adX:(Instr.sliceBounds true n bG (lo.map a.eval) (hi.map a.eval) none).run P e.w=.ok (l.toNat,h.toNat,bG) e.w:=by
  have aeq:hi=none->h=n:=λ ae=>by subst ae;simp only[Ck,Option.some.injEq] at Fv;omega
  have Ux:lo=none->l=0:=λ ae=>by subst ae;simp only[Ck,Option.some.injEq] at pM;omega
  have ID:h<=(bG:Int):=by omega
  have Un:0<=h:=by omega
  have Uw:l<=(h.toNat:Int):=by omega
  cases hi with
  |none=>
   have hn:=aeq rfl;subst hn;cases lo with
   |none=>have:=Ux rfl;subst this;simp[Instr.sliceBounds]
   |some y=>obtain⟨k,hy⟩:=IM y rfl;simp only[Int.toNat_natCast] at Uw;simp[Instr.sliceBounds,Instr.sliceBound,hy,asIntOf,h0,Uw]
  |some nV=>
   obtain⟨iJ,Vd⟩:=aer nV rfl;cases lo with
   |none=>have:=Ux rfl;subst this;simp[Instr.sliceBounds,Instr.sliceBound,Vd,asIntOf,Un,ID]
   |some y=>
    obtain⟨k,hy⟩:=IM y rfl;have aeS:max h 0=h:=by omega
    simp[Instr.sliceBounds,Instr.sliceBound,hy,Vd,asIntOf,Un,ID,h0,aeS,h1]
 have dP:h.toNat-l.toNat=m:=by omega
 refine⟨.slice (if bG=l.toNat then A else A.map (·.add (l.toNat*j.sz))) m (bG-l.toNat),?_,.p (DT (by omega) (by omega) (λ bD=>?_) (λ bD=>by cases bD) ?_)⟩
 ·obtain⟨dst,op,type,pos,after,guard⟩:=o;simp only at ho;subst ho;simp only[execOp,Instr.sliceAt,hv,Sem.run_bind,run_underlying ep,Result.andThen_ok,Instr.slice,Option.map_none,adX,run_sizeOf hT he,dP,Sem.run_pure]
 ·split at bD
  ·omega
  ·cases A with
   |none=>have:=n9 rfl;omega
   |some a=>simp at bD
 ·rcases qs with _|⟨q,qs⟩
  ·exact .inl rfl
  ·refine .inr ?_;have cG:ps≠[]:=λ ae=>by have:=hq 0 q rfl;rw[ae] at this;simp at this
   rcases hA with hA|⟨b,of,rfl,dO⟩
   ·exact absurd hA cG
   ·have ud:m≠0:=λ ae=>by rw[ae] at FW;simp at FW
    have aW:¬bG=l.toNat:=by omega
    refine⟨b,of+l.toNat*j.sz,by rw[if_neg aW];simp[qZ],dO.part _ hq⟩
end
end Go.Proofs.YtkkldicehapklaaGreat
end
section
namespace Go.Proofs.YtkkldicehapklaaGreat
open Go.RowKit
abbrev M(n:Int):I:=.p (.raw (.int .i64 n))
abbrev dB(b:Bool):I:=.p (.raw (.bool b))
abbrev pI(n:Int):Pl:=.raw (.int .i64 n)
abbrev pB(b:Bool):Pl:=.raw (.bool b)
def bW(l:List Int):List Pl:=l.map pI
abbrev ci(l:List Int):I:=.p (.sl false l.length (bW l))
section
variable{P:Program}{aq:Nat->Option TI}{Γ:bX}{L:St}{Q:Exit->St->Prop}{c:Code}{S:Nat->Option I}{B:Nat->Option (List I)}{o:Oper}
theorem d7{fg:Type}(ok:fg->Prop)(jN:fg->St)(m8:fg->Nat)(i0:fg)(hk:ok i0)(h0:eI Γ L (jN i0))(G8:∀i,ok i->a8 P Γ c (uK (λ bQ=>∃j,ok j/\m8 j<m8 i/\eI Γ bQ (jN j)) Q) (jN i)):a8 P Γ (.loop c) Q L:=
 aay (fg:={i:fg//ok i}) (λ i=>jN i.1) (λ i=>m8 i.1) ⟨i0,hk⟩ h0 λ i=>zu (G8 i.1 i.2) λ ex bQ h=>by
  cases ex with
  |normal=>obtain⟨j,h1,u,J⟩:=h;exact⟨⟨j,h1⟩,u,J⟩
  |_=>exact h
theorem ln{n:Int}(h1:-9223372036854775808<=n)(u:n<=9223372036854775807):IntKind.i64.wrap n=n:=IntWalk.i64_in n (by omega)
theorem Rh(hT:dh P aq){t aH:TypeId}{i:TI}{x y:Operand}{a b:Int}(ho:o.op=.binOp .add t x y aH)(ht:aq t=some i)(hx:ev S x=some (M a))(hy:ev S y=some (M b))(h1:-9223372036854775808<=a+b)(u:a+b<=9223372036854775807):dM P o S B (M (a+b)) none:=
 uU hT (by rw[ho];simp only[ax,ht,hx,hy,Cj,ln h1 u])
theorem YG(hT:dh P aq){t aH:TypeId}{i:TI}{x y:Operand}{a b:Int}(ho:o.op=.binOp .sub t x y aH)(ht:aq t=some i)(hx:ev S x=some (M a))(hy:ev S y=some (M b))(h1:-9223372036854775808<=a-b)(u:a-b<=9223372036854775807):dM P o S B (M (a-b)) none:=
 uU hT (by rw[ho];simp only[ax,ht,hx,hy,Cj,ln h1 u])
theorem PL{t aH:TypeId}{x y:Operand}{a b:Int}(ho:o.op=.binOp .quo t x y aH)(hx:ev S x=some (M a))(hy:ev S y=some (M b))(h0:0<=a)(h1:0<b)(u:a<=9223372036854775807):dM P o S B (M (a/b)) none:=by
 refine jZ λ ac e T=>?_
 have di:=dg (T.1 x (by rw[ho];simp[Op.operands]) _ hx);have fp:=dg (T.1 y (by rw[ho];simp[Op.operands]) _ hy);refine⟨_,?_,.p (.raw _)⟩;obtain⟨dst,op,type,pos,after,guard⟩:=o;simp only at ho;subst ho;have hb:¬b=0:=by omega
 have K:a.tdiv b=a/b:=Int.tdiv_eq_ediv_of_nonneg h0;have J:0<=a/b:=Int.ediv_nonneg h0 (by omega);have h4:a/b<=a:=Int.ediv_le_self b h0;simp[execOp,di,fp,eqGuard,binOp,Op.intDiv,hb,K,ln (n:=a/b) (by omega) (by omega)]
theorem XB{t aH:TypeId}{x y:Operand}{a b:Int}(ho:o.op=.binOp .rem t x y aH)(hx:ev S x=some (M a))(hy:ev S y=some (M b))(h0:0<=a)(h1:0<b):dM P o S B (M (a%b)) none:=by
 refine jZ λ ac e T=>?_
 have di:=dg (T.1 x (by rw[ho];simp[Op.operands]) _ hx);have fp:=dg (T.1 y (by rw[ho];simp[Op.operands]) _ hy);refine⟨_,?_,.p (.raw _)⟩;obtain⟨dst,op,type,pos,after,guard⟩:=o;simp only at ho;subst ho;have hb:¬b=0:=by omega
 have K:a.tmod b=a%b:=Int.tmod_eq_emod_of_nonneg h0;simp[execOp,di,fp,eqGuard,binOp,Op.intDiv,hb,K]
theorem DA(l:List Int):(bW l).length=l.length:=by simp[bW]
theorem WS{l:List Int}{i:Nat}{x:Int}(h:l[i]?=some x):(bW l)[i]?=some (pI x):=by simp[bW,h]
theorem jy{l:List Int}{i:Int}{x:Int}(h:l[i.toNat]?=some x):∀(m:Nat) q,[pI x][m]?=some q->(bW l)[i.toNat*1+m]?=some q:=by
 intro m q hq;cases m with
 |zero=>simp at hq;subst hq;simpa using WS h
 |succ m=>simp at hq
theorem sy{az:Type}{l:List az}{i:Int}(h0:0<=i)(h:i<l.length):∃x,l[i.toNat]?=some x:=⟨l[i.toNat]'(by omega),List.getElem?_eq_getElem (by omega)⟩
end
end Go.Proofs.YtkkldicehapklaaGreat
end
section
namespace Go.Proofs.YtkkldicehapklaaGreat
open Go.RowKit
section
variable{P:Program}{aq:Nat->Option TI}{Γ:bX}{Q:Exit->St->Prop}{o:Oper}{l0 l:List Oper}{s:List (Nat×I)}{b:List (Nat×List I)}{g:List (Nat×Gr)}{t:Nat}
theorem ajK{P:Program}{t e:TypeId}(hu:P.underlying t=some (.slice e))(A:Option Addr)(n c:Nat)(w:World):(Op.equal t (.slice A n c) (.slice none 0 0)).run P w=.ok A.isNone w:=by show(Op.equalIn (9999+1) t _ _).run P w=_;rw[Op.equalIn];simp only[Sem.run_bind,run_underlying hu,Result.andThen_ok];cases A<;>rfl
theorem Re(hT:dh P aq){ty aH el:TypeId}{z1 z2:Nat}{z3:Value}{x:Operand}{dx:I}{n:Nat}{ps:List Pl}(ho:o.op=.binOp .eql ty x (.const (.slice none 0 0)) aH)(ht:aq ty=some ⟨.slice el,z1,z2,z3⟩)(hx:ev (kv s) x=some dx)(K:nS dx=some (n,ps))(hg:gd l0 o (kv s)=some true)(nB:o.dst=some t)(Z:Nat.blt t Γ.n=true)
 (h:∀c:Bool,(c=true->n=0)->bw P Γ l0 Q l ⟨(t,dB c)::s,b,g⟩):bw P Γ l0 Q (o::l) ⟨s,b,g⟩:=by
 refine⟨λ a e F=>?_⟩;have T:=F.jd (L:=⟨s,b,g⟩) o.op.operands;have h1:=yV (T.1 x (by rw[ho];simp[Op.operands]) _ hx) K;obtain⟨A,bG,hv,u,_,J,_,_⟩:=qa h1;obtain⟨d0,ep,hk⟩:=hT.desc ty _ ht;cases d0<;>simp only[km,reduceCtorEq,TK.slice.injEq] at hk
 have hn:A.isNone=true->n=0:=λ bD=>by
  have:=J (by simpa using bD);omega
 have cS:(execOp a.eval o).run P e.w=.ok (.value (.bool A.isNone)) e.w:=by obtain⟨dst,op,type,pos,after,guard⟩:=o;simp only at ho;subst ho;have iE:a.eval (.const (.slice none 0 0))=.slice none 0 0:=rfl;simp only[execOp,hv,iE,eqGuard,binOp];simp[ajK ep]
 have d4:=(F.put (dst:=o.dst) (by rw[nB];exact Z) (v:=.bool A.isNone) (d:=dB A.isNone) (.p (.raw _)));unfold wpList;rw[if_pos (mm F hg)];refine .inl ?_;unfold Oper.wp;rw[cS];have:=(h A.isNone hn).run (a.put o.dst (.bool A.isNone)) e (by rw[nB] at d4⊢;exact d4);exact this
theorem Ou{S:Nat->Option I}{B:Nat->Option (List I)}(hT:dh P aq){ty el:TypeId}{n z1 z2:Nat}{z3:Value}{j:TI}{x y:Operand}{ds:List I}{k:IntKind}{i:Int}(d:I)(ho:o.op=.index ty x y)(ht:aq ty=some ⟨.array n el,z1,z2,z3⟩)(he:aq el=some j)(rC:j.k.agg=false)(hx:ev S x=some (.agg ds))(hy:ev S y=some (.p (.raw (.int k i))))(h0:0<=i)(aY:i<n)(K:ds[i.toNat*j.sz]?=some d):dM P o S B d none:=by
 refine jZ λ a e T=>?_
 have h1:=T.1 x (by rw[ho];simp[Op.operands]) _ hx;have u:=dg (T.1 y (by rw[ho];simp[Op.operands]) _ hy);generalize c8:a.eval x=vx at h1;cases h1 with
 |agg Z hh=>
  rename_i vs;obtain⟨d0,ep,hk⟩:=hT.desc ty _ ht;cases d0<;>simp only[km,reduceCtorEq,TK.array.injEq] at hk
  rw[hk.1,hk.2] at ep;obtain⟨v,J,h4⟩:=DReps.get ⟨Z,hh⟩ K;refine⟨v,?_,h4⟩;obtain⟨dst,op,type,pos,after,guard⟩:=o;simp only at ho;subst ho;simp[execOp,c8,u,Instr.index,asIntOf,run_underlying ep,h0,aY,run_sizeOf hT he,part,Kq hT he,rC,J]
end
end Go.Proofs.YtkkldicehapklaaGreat
end
section
namespace Go.Proofs.YtkkldicehapklaaGreat
open Go.RowKit
abbrev dK(k:IntKind)(n:Int):I:=.p (.raw (.int k n))
section
variable{P:Program}{aq:Nat->Option TI}{S:Nat->Option I}{B:Nat->Option (List I)}{o:Oper}
theorem ajv{k:IntKind}{t aH:TypeId}{x y:Operand}{a b:Int}(ho:o.op=.binOp .rem t x y aH)(hx:ev S x=some (dK k a))(hy:ev S y=some (dK k b))(h0:0<=a)(h1:0<b):dM P o S B (dK k (a%b)) none:=by
 refine jZ λ ac e T=>?_
 have di:=dg (T.1 x (by rw[ho];simp[Op.operands]) _ hx);have fp:=dg (T.1 y (by rw[ho];simp[Op.operands]) _ hy);refine⟨_,?_,.p (.raw _)⟩;obtain⟨dst,op,type,pos,after,guard⟩:=o;simp only at ho;subst ho;have hb:¬b=0:=by omega
 have K:a.tmod b=a%b:=Int.tmod_eq_emod_of_nonneg h0;simp[execOp,di,fp,eqGuard,binOp,Op.intDiv,hb,K]
theorem L2(hT:dh P aq){k:IntKind}{s t:TypeId}{x:Operand}{n:Int}{ks:IntKind}{z1 z2 z4 z5:Nat}{z3 z6:Value}(ho:o.op=.convert s t x)(T:aq s=some ⟨.int ks,z1,z2,z3⟩)(ht:aq t=some ⟨.int .i64,z4,z5,z6⟩)(hx:ev S x=some (dK k n))(h1:-9223372036854775808<=n)(u:n<=9223372036854775807):dM P o S B (M n) none:=
 uU hT (by rw[ho];simp only[ax,T,ht,hx,ln h1 u])
end
end Go.Proofs.YtkkldicehapklaaGreat
end
section
namespace Go.Proofs.YtkkldicehapklaaGreat
open Go.RowKit
def ut(B:Nat->Bool)(d:I):I:=bif d.ok B (λ _=>true) then d else .any
def tE(B:Nat->Bool):List (Nat×I)->List (Nat×I)
 |[]=>[]
 |(t,d)::l=>(t,ut B d)::tE B l
def lT{az:Type}(B:Nat->Bool):List (Nat×I)->(List (Nat×I)->Option az)->Option az
 |[],k=>k []
 |(t,d)::l,k=>match d.ok B (λ _=>true) with
  |true=>lT B l λ r=>k ((t,d)::r)
  |false=>lT B l λ r=>k ((t,.any)::r)
theorem wh{az:Type}(B:Nat->Bool):∀(l:List (Nat×I))(k:List (Nat×I)->Option az),lT B l k=k (tE B l)
 |[],k=>rfl
 |(t,d)::l,k=>by
  rw[lT,tE];unfold ut;cases d.ok B (λ _=>true)<;>simp only[wh B l]<;>rfl
def xT(B:Nat->Bool):List I->List I
 |[]=>[]
 |d::l=>ut B d::xT B l
def Cs{az:Type}(B:Nat->Bool):List I->(List I->Option az)->Option az
 |[],k=>k []
 |d::l,k=>match d.ok B (λ _=>true) with
  |true=>Cs B l λ r=>k (d::r)
  |false=>Cs B l λ r=>k (.any::r)
theorem L4{az:Type}(B:Nat->Bool):∀(l:List I)(k:List I->Option az),Cs B l k=k (xT B l)
 |[],k=>rfl
 |d::l,k=>by
  rw[Cs,xT];unfold ut;cases d.ok B (λ _=>true)<;>simp only[L4 B l]<;>rfl
def iY(H B:Nat->Bool):List (Nat×List I)->List (Nat×List I)
 |[]=>[]
 |(b,cs)::l=>bif H b then iY H B l else(b,xT B cs)::iY H B l
def mj{az:Type}(H B:Nat->Bool):List (Nat×List I)->(List (Nat×List I)->Option az)->Option az
 |[],k=>k []
 |(b,cs)::l,k=>match H b with
  |true=>mj H B l k
  |false=>Cs B cs λ q=>mj H B l λ r=>k ((b,q)::r)
theorem wg{az:Type}(H B:Nat->Bool):∀(l:List (Nat×List I))(k:List (Nat×List I)->Option az),mj H B l k=k (iY H B l)
 |[],k=>rfl
 |(b,cs)::l,k=>by
  rw[mj,iY];cases H b<;>simp only[L4,wg H B l]<;>rfl
theorem L6{B:Nat->Bool}:∀{l:List (Nat×I)}{t:Nat}{d:I},kv (tE B l) t=some d->∃d0,kv l t=some d0/\d=ut B d0
 |[],t,d,h=>by cases h
 |(aH,c)::l,t,d,h=>by
  simp only[tE,dc] at h⊢;split at h
  ·rename_i hu;cases h;exact⟨c,by rw[if_pos hu],rfl⟩
  ·rename_i hu;obtain⟨d0,h1,u⟩:=L6 h;exact⟨d0,by rw[if_neg hu];exact h1,u⟩
theorem Cr{H B:Nat->Bool}:∀{l:List (Nat×List I)}{b:Nat}{cs:List I},kv (iY H B l) b=some cs->H b=false/\∃nk,kv l b=some nk/\cs=xT B nk
 |[],b,cs,h=>by cases h
 |(aH,c)::l,b,cs,h=>by
  simp only[iY] at h;cases hH:H aH with
  |true=>rw[hH] at h;obtain⟨h1,nk,u,J⟩:=Cr (l:=l) h;exact⟨h1,nk,by rw[dc,if_neg (λ e=>by rw[e,h1] at hH;cases hH)];exact u,J⟩
  |false=>
   rw[hH] at h;simp only[cond_false,dc] at h;split at h
   ·rename_i hu;subst hu;cases h;exact⟨hH,c,by rw[dc,if_pos rfl],rfl⟩
   ·rename_i hu;obtain⟨h1,nk,u,J⟩:=Cr h;exact⟨h1,nk,by rw[dc,if_neg hu];exact u,J⟩
theorem HX{H B:Nat->Bool}:∀{l:List (Nat×List I)}{b:Nat},kv (iY H B l) b=none->H b=true\/kv l b=none
 |[],b,h=>.inr rfl
 |(aH,c)::l,b,h=>by
  simp only[iY] at h;cases hH:H aH with
  |true=>
   rw[hH] at h
   by_cases e:aH=b
   ·exact .inl (by rw[<-e];exact hH)
   ·rw[dc,if_neg e];exact HX (l:=l) h
  |false=>
   rw[hH] at h;simp only[cond_false,dc] at h;split at h
   ·cases h
   ·rename_i hu;rw[dc,if_neg hu];exact HX h
theorem OB{e:aE}{B:Nat->Bool}{v:Value}{d:I}(h:bC e v d):bC (e.cut B λ _=>true) v (ut B d):=by
 unfold ut;cases hk:d.ok B (λ _=>true) with
 |true=>exact h.cut hk
 |false=>exact .any
theorem L5{e:aE}{B:Nat->Bool}:∀{cs:List I}{vs:List Value},DReps e vs cs->DReps (e.cut B λ _=>true) vs (xT B cs)
 |[],vs,h=>by
  have:vs=[]:=List.eq_nil_of_length_eq_zero h.1;subst this;exact DReps.nil _
 |d::cs,vs,h=>by
  obtain⟨v,fu,rfl,h1,u⟩:=h.y6;exact DReps.cons (OB h1) (L5 u)
section
variable{P:Program}{aq:Nat->Option TI}{Γ:bX}{L bQ bu:St}{o:Oper}
structure iW(bs:List (Nat×List I))(e:aE):Prop where
 boxes:∀b cs,kv bs b=some cs->ij e b cs
 ee:∀b,kv bs b=none->e.bx b=none
 gi:∀g,e.gi g=none
 gr:∀k,e.gr k=none
 bx:∀b k,e.bx b=some k->k<e.w.heap.size/\e.cl k=some 0
 inj:∀b c k,e.bx b=some k->e.bx c=some k->b=c
structure Left(bc:List Nat)(e ae:aE):Prop where
 kept:oN (λ k=>∃b,e.bx b=some k) e.w ae.w
 cl:∀k,k<e.w.heap.size->¬(∃b,e.bx b=some k)->ae.cl k=e.cl k
 bx:∀b k,ae.bx b=some k->e.w.heap.size<=k\/∃c,e.bx c=some k
 bc:∀b,b∈bc->ae.bx b=e.bx b
def gt(P:Program)(f:FuncId)(bc:List Nat)(ds:List I)(bs:List (Nat×List I))(ap:I->List (Nat×List I)->Prop):Prop:=
 ∀(e:aE)(vs:List Value),iW bs e->DReps e vs ds->
  Calls P f vs.toArray e.w (λ r aA=>∃v d ay ae,r=.returned v/\ae.w=aA/\ap d ay/\iW ay ae/\bC ae v d/\Left bc e ae)
def iI(l:List Nat)(n:Nat):Bool:=match l with
 |[]=>false
 |x::l=>bif Nat.beq x n then true else iI l n
theorem Ot:∀{l:List Nat}{n:Nat},iI l n=true->n∈l
 |[],n,h=>by cases h
 |x::l,n,h=>by
  simp only[iI] at h;cases hx:Nat.beq x n with
  |true=>rw[Nat.eq_of_beq_eq_true hx];exact List.mem_cons_self
  |false=>rw[hx] at h;exact List.mem_cons_of_mem _ (Ot h)
theorem Wc:∀{l:List Nat}{n:Nat},n∈l->iI l n=true
 |[],n,h=>by cases h
 |x::l,n,h=>by
  simp only[iI];cases hx:Nat.beq x n with
  |true=>rfl
  |false=>
   rcases List.mem_cons.1 h with h|h
   ·subst h;rw[Nat.beq_refl] at hx;cases hx
   ·exact Wc h
def jQ(L:St)(H:Nat->Bool):List (Nat×List I)->Prop
 |[]=>True
 |p::l=>(kv L.b p.1=some p.2/\I.ok.fy H (λ _=>false) p.2=true)/\jQ L H l
theorem jQ.get{H:Nat->Bool}:∀{l:List (Nat×List I)}(_:jQ L H l){t:Nat}{d:List I},kv l t=some d->kv L.b t=some d/\I.ok.fy H (λ _=>false) d=true
 |[],_,t,d,h=>by cases h
 |(k,v)::l,T,t,d,h=>by
  rw[dc] at h;split at h
  ·rename_i hk;subst hk;cases h;exact T.1
  ·exact T.2.get h
theorem rg{e:aE}{a:Act}(F:bE Γ L e a){bs:List (Nat×List I)}(T:jQ L (aL bs) bs):iW bs (e.cut (aL bs) λ _=>false):=by
 refine⟨λ b cs hb=>?_,λ b hb=>?_,λ g=>?_,λ k=>?_,λ b k hk=>?_,λ b c k h1 u=>?_⟩
 ·obtain⟨h1,u⟩:=T.get hb;obtain⟨k,vs,el,J,h4,h5⟩:=F.boxes b cs h1;refine⟨k,vs,el,?_,h4,h5.1,λ i v d hv K=>(h5.2 i v d hv K).cut (rZ u K)⟩;show(if aL bs b=true then e.bx b else none)=_;rw[if_pos (by simp[aL,hb])];exact J
 ·show(if aL bs b=true then e.bx b else none)=_;rw[if_neg (by simp[aL,hb])]
 ·show(if false=true then e.gi g else none)=_;simp
 ·show(match e.gr k with|some g=>if false=true then some g else none|none=>none)=none;cases e.gr k<;>simp
 ·have cg:(if aL bs b=true then e.bx b else none)=some k:=hk;split at cg
  ·obtain⟨h1,_,J,_⟩:=F.env.bx b k cg;exact⟨h1,J⟩
  ·cases cg
 ·have bB:(if aL bs b=true then e.bx b else none)=some k:=h1;have cj:(if aL bs c=true then e.bx c else none)=some k:=u;split at bB
  ·split at cj
   ·exact F.env.inj b c k bB cj
   ·cases cj
  ·cases bB
def aE.after(e ae:aE)(bs ay:List (Nat×List I)):aE:=
 {w:=ae.w,cl:=ae.cl,bx:=λ b=>if aL ay b=true then ae.bx b else if aL bs b=true then none else e.bx b,gr:=e.gr,gi:=e.gi}
theorem bE.after{e ae:aE}{a:Act}(F:bE Γ L e a){bc:List Nat}{bs ay:List (Nat×List I)}(hI:iW ay ae)(hL:Left bc (e.cut (aL bs) λ _=>false) ae)(dt:∀b,aL ay b=true->aL bs b=true\/kv L.b b=none)(dI:∀b k,kv Γ.kb b=some k->aL bs b=true->b∈bc):
 bE Γ ⟨tE (λ b=>!aL bs b||iI bc b) L.s,ay++iY (aL bs) (λ b=>!aL bs b||iI bc b) L.b,L.g⟩ (e.after ae bs ay) a/\Ends ae (e.after ae bs ay):=by
 have jW:∀k,(∃b,(e.cut (aL bs) λ _=>false).bx b=some k)->∃b,aL bs b=true/\e.bx b=some k:=by
  rintro k ⟨b,hb⟩;have fO:(if aL bs b=true then e.bx b else none)=some k:=hb;split at fO
  ·rename_i dk;exact⟨b,dk,fO⟩
  ·cases fO
 have ae3:∀b o,e.nY b o->¬∃c,(e.cut (aL bs) λ _=>false).bx c=some b:=by intro b o dw hh;obtain⟨c,_,h1⟩:=jW b hh;have:=dw 0 (F.env.bx c b h1).2.2.1;omega
 have IW:∀k g,e.gr k=some g->¬∃c,(e.cut (aL bs) λ _=>false).bx c=some k:=by intro k g hg hh;obtain⟨c,_,h1⟩:=jW k hh;rw[(F.env.bx c k h1).2.2.2] at hg;cases hg
 have iq:∀b k,aL bs b=false->e.bx b=some k->¬∃c,(e.cut (aL bs) λ _=>false).bx c=some k:=by intro b k hb hk hh;obtain⟨c,h1,u⟩:=jW k hh;rw[F.env.inj c b k u hk,hb] at h1;cases h1
 have c6:∀b,aL bs b=false->∀k,e.bx b=some k->aL ay b=false:=by
  intro b hb k hk;cases dk:aL ay b with
  |false=>rfl
  |true=>
   rcases dt b dk with h|h
   ·rw[hb] at h;cases h
   ·rw[F.ee b h] at hk;cases hk
 have u9:Ends ae (e.after ae bs ay):=by
  refine⟨λ _ _ _ h1 u=>⟨h1,u⟩,λ b k hk=>?_,λ g aa hg=>?_,λ k g aa cur hg=>?_⟩
  ·show(if aL ay b=true then ae.bx b else _)=_;rw[if_pos]
   ·exact hk
   ·cases hb:kv ay b with
    |none=>rw[hI.ee b hb] at hk;cases hk
    |some cs=>simp[aL,hb]
  ·rw[hI.gi g] at hg;cases hg
  ·rw[hI.gr k] at hg;cases hg
 have Y:Ends (e.cut (λ b=>!aL bs b||iI bc b) λ _=>true) (e.after ae bs ay):=by
  refine⟨λ b o v dw hv=>?_,λ b k hk=>?_,λ g aa hg=>⟨aa,(show(if true=true then e.gi g else none)=some aa from hg)▸(if_pos rfl).symm,rfl,rfl,Nat.le_refl _⟩,λ k g aa cur h1 u J=>?_⟩
  ·have hn:=ae3 b o dw;have hb:=HS hv;refine⟨λ n lc=>dw n ?_,?_⟩
   ·have:ae.cl b=e.cl b:=hL.cl b hb hn;show e.cl b=_;rw[<-this];exact lc
   ·show ae.w.cell? _=_;rw[World.cell?_of_block (w:=e.w) (hL.kept.block b hb hn)];exact hv
  ·have cg:(if(!aL bs b||iI bc b)=true then e.bx b else none)=some k:=hk;split at cg
   ·rename_i hB;cases dk:aL bs b with
    |false=>show(if aL ay b=true then ae.bx b else if aL bs b=true then none else e.bx b)=_;rw[c6 b dk k cg,dk];simpa using cg
    |true=>
     rw[dk] at hB;have hm:=Ot (show iI bc b=true by simpa using hB);have h1:ae.bx b=some k:=by rw[hL.bc b hm];show(if aL bs b=true then e.bx b else none)=_;rw[if_pos dk];exact cg
     exact u9.bx b k h1
   ·cases cg
  ·have bB:(match e.gr k with|some g=>if true=true then some g else none|none=>none)=some g:=h1;have hg:e.gr k=some g:=by
    cases i7:e.gr k with
    |none=>rw[i7] at bB;cases bB
    |some g0=>rw[i7] at bB;simpa using bB
   refine⟨hg,cur,?_,rfl⟩;show ae.w.heap[k]?=_;rw[hL.kept.block k (tY J) (IW k g hg)];exact J
 refine⟨⟨F.size,F.df,λ t d ht=>?_,λ b cs hb=>?_,λ b hb=>?_,F.gs,⟨?_,λ k hk ho=>?_,λ b k hk=>?_,λ b c k h1 u=>?_,λ k g hg=>?_,λ b k hk=>?_⟩⟩,u9⟩
 ·obtain⟨d0,h1,rfl⟩:=L6 ht;exact(OB (F.dj t d0 h1)).next Y
 ·have vq:(∃aZ,kv ay b=some aZ/\aZ=cs)\/(kv ay b=none/\kv (iY (aL bs) (λ b=>!aL bs b||iI bc b) L.b) b=some cs):=by
   clear Y u9 c6 dt hI hL;induction ay with
   |nil=>exact .inr ⟨rfl,hb⟩
   |cons p l ih=>
    obtain⟨aH,q⟩:=p;simp only[List.cons_append,dc] at hb⊢;split at hb
    ·rename_i hu;cases hb;exact .inl ⟨cs,by rw[if_pos hu],rfl⟩
    ·rename_i hu;rw[if_neg hu];exact ih hb
  rcases vq with⟨_,h1,rfl⟩|⟨h1,u⟩
  ·exact(hI.boxes b _ h1).ends u9 rfl
  ·obtain⟨J,nk,h4,rfl⟩:=Cr u;obtain⟨k,vs,el,h5,h6,h7⟩:=F.boxes b nk h4;refine⟨k,vs,el,?_,?_,(L5 h7).next Y⟩
   ·show(if aL ay b=true then ae.bx b else if aL bs b=true then none else e.bx b)=_;rw[c6 b J k h5,J];simpa using h5
   ·show ae.w.heap[k]?=_;rw[hL.kept.block k (tY h6) (iq b k J h5)];exact h6
 ·have vq:kv ay b=none/\kv (iY (aL bs) (λ b=>!aL bs b||iI bc b) L.b) b=none:=by
   clear Y u9 c6 dt hI hL;induction ay with
   |nil=>exact⟨rfl,hb⟩
   |cons p l ih=>
    obtain⟨aH,q⟩:=p;simp only[List.cons_append,dc] at hb⊢;split at hb
    ·cases hb
    ·rename_i hu;rw[if_neg hu];exact ih hb
  show(if aL ay b=true then ae.bx b else if aL bs b=true then none else e.bx b)=_;rw[if_neg (by simp[aL,vq.1])];split
  ·rfl
  ·rename_i hn;rcases HX vq.2 with h|h
   ·exact absurd h hn
   ·exact F.ee b h
 ·refine⟨hL.kept.os.trans F.env.kept.os,hL.kept.tape.trans F.env.kept.tape,hL.kept.output.trans F.env.kept.output,Nat.le_trans F.env.kept.size hL.kept.size,λ k hk ho=>?_⟩;show ae.w.heap[k]?=_;rw[hL.kept.block k (Nat.lt_of_lt_of_le hk F.env.kept.size)]
  ·exact F.env.kept.block k hk ho
  ·intro hh;obtain⟨c,_,h1⟩:=jW k hh;rcases(F.env.bx c k h1).2.1 with h|h
   ·omega
   ·exact ho h
 ·show ae.cl k=_;rw[hL.cl k (Nat.lt_of_lt_of_le hk F.env.kept.size)]
  ·exact F.env.cl k hk ho
  ·intro hh;obtain⟨c,_,h1⟩:=jW k hh;rcases(F.env.bx c k h1).2.1 with h|h
   ·omega
   ·exact ho h
 ·have cg:(if aL ay b=true then ae.bx b else if aL bs b=true then none else e.bx b)=some k:=hk;split at cg
  ·obtain⟨h1,u⟩:=hI.bx b k cg;refine⟨h1,?_,u,?_⟩
   ·rcases hL.bx b k cg with h|h
    ·exact .inl (Nat.le_trans F.env.kept.size h)
    ·obtain⟨c,_,J⟩:=jW k h;exact(F.env.bx c k J).2.1
   ·show e.gr k=none;cases hg:e.gr k with
    |none=>rfl
    |some g=>
     obtain⟨_,_,_,J,_⟩:=F.env.gr k g hg;rcases hL.bx b k cg with h|h
     ·have bD:e.w.heap.size<=k:=h;omega
     ·exact absurd h (IW k g hg)
  ·split at cg
   ·cases cg
   ·rename_i hn;obtain⟨h1,u,J,h4⟩:=F.env.bx b k cg;refine⟨Nat.lt_of_lt_of_le h1 hL.kept.size,u,?_,h4⟩;show ae.cl k=_;rw[hL.cl k h1 (iq b k (by simpa using hn) cg)];exact J
 ·have bB:(if aL ay b=true then ae.bx b else if aL bs b=true then none else e.bx b)=some k:=h1;have cj:(if aL ay c=true then ae.bx c else if aL bs c=true then none else e.bx c)=some k:=u;have Wd:∀b c,ae.bx b=some k->aL bs c=false->e.bx c=some k->False:=by
   intro b c hb c7 fI;rcases hL.bx b k hb with h|h
   ·have bD:e.w.heap.size<=k:=h;have:=(F.env.bx c k fI).1;omega
   ·exact iq c k c7 fI h
  split at bB
  ·split at cj
   ·exact hI.inj b c k bB cj
   ·split at cj
    ·cases cj
    ·rename_i hn;exact(Wd b c bB (by simpa using hn) cj).elim
  ·split at bB
   ·cases bB
   ·rename_i hn;split at cj
    ·exact(Wd c b cj (by simpa using hn) bB).elim
    ·split at cj
     ·cases cj
     ·exact F.env.inj b c k bB cj
 ·obtain⟨aa,cur,h1,u,J,h4,h5⟩:=F.env.gr k g hg;refine⟨aa,cur,h1,Nat.lt_of_lt_of_le u hL.kept.size,J,?_,?_⟩
  ·show ae.cl k=_;rw[hL.cl k u (IW k g hg)];exact h4
  ·show ae.w.heap[k]?=_;rw[hL.kept.block k u (IW k g hg)];exact h5
 ·have h1:=F.env.kb b k hk;refine Y.bx b k ?_;show(if(!aL bs b||iI bc b)=true then e.bx b else none)=_;rw[if_pos]
  ·exact h1
  ·cases dk:aL bs b with
   |false=>rfl
   |true=>have:=Wc (dI b k hk dk);simp[this]
end
end Go.Proofs.YtkkldicehapklaaGreat
end
section
namespace Go.Proofs.YtkkldicehapklaaGreat
open Go.RowKit
section
variable{P:Program}{aq:Nat->Option TI}{Γ:bX}{L bQ bu:St}{o:Oper}{l0 l:List Oper}{Q:Exit->St->Prop}
variable{s ah:List (Nat×I)}{b aP:List (Nat×List I)}{g:List (Nat×Gr)}{t:Nat}{d:I}
def kq(bs b:List (Nat×List I)):List (Nat×List I)->Prop
 |[]=>True
 |p::l=>(aL bs p.1=true\/kv b p.1=none)/\kq bs b l
theorem kq.get{bs b:List (Nat×List I)}:∀{l:List (Nat×List I)}(_:kq bs b l){n:Nat},aL l n=true->aL bs n=true\/kv b n=none
 |[],_,n,h=>by simp[aL,kv] at h
 |(k,v)::l,T,n,h=>by
  by_cases e:k=n
  ·subst e;exact T.1
  ·exact T.2.get (by simpa[aL,dc,e] using h)
def tn(bc:List Nat)(bs:List (Nat×List I)):List (Nat×Nat)->Prop
 |[]=>True
 |p::l=>(aL bs p.1=false\/iI bc p.1=true)/\tn bc bs l
theorem tn.get{bc:List Nat}{bs:List (Nat×List I)}:∀{l:List (Nat×Nat)}(_:tn bc bs l){b k:Nat},kv l b=some k->aL bs b=true->b∈bc
 |[],_,n,k,h,_=>by cases h
 |(x,v)::l,T,n,k,h,hb=>by
  rw[dc] at h;split at h
  ·rename_i e;subst e;rcases T.1 with h1|h1
   ·rw[hb] at h1;cases h1
   ·exact Ot h1
  ·exact T.2.get h hb
theorem Vk{f:FuncId}{bc:List Nat}{ds:List I}{bs:List (Nat×List I)}{ap:I->List (Nat×List I)->Prop}(hC:gt P f bc ds bs ap){e:aE}{a:Act}(F:bE Γ ⟨s,b,g⟩ e a){vs:List Value}(hv:DReps e vs ds)(aV:I.ok.fy (aL bs) (λ _=>false) ds=true)(T:jQ ⟨s,b,g⟩ (aL bs) bs)(dI:tn bc bs Γ.kb)
 (K:o.dst=some t)(Z:Nat.blt t Γ.n=true)(h3:lT (λ b=>!aL bs b||iI bc b) s (λ ah=>mj (aL bs) (λ b=>!aL bs b||iI bc b) b (λ aP=>some (ah,aP)))=some (ah,aP))
 (dt:∀d ay,ap d ay->kq bs b ay){jB:Exit->Act->World->Prop}:
 Calls P f vs.toArray e.w λ
  |.returned v,nU=>∃d ay ae,ap d ay/\ae.w=nU/\bE Γ ⟨(t,d)::ah,ay++aP,g⟩ ae (a.put o.dst v)
  |.panicked _,_=>False
  |.outgrown,_=>LetsOut jB:=by
 rw[wh,wg] at h3;cases h3;refine(hC (e.cut (aL bs) λ _=>false) vs (rg F T) ⟨hv.1,λ i v d h1 u=>(hv.2 i v d h1 u).cut (rZ aV u)⟩).mono λ r aA hh=>?_
 obtain⟨v,d,ay,ae,rfl,rfl,hR,hI,hr,hL⟩:=hh;obtain⟨h1,u⟩:=F.after hI hL (λ n hn=>(dt d ay hR).get hn) (λ n k h1 u=>dI.get h1 u);refine⟨d,ay,e.after ae bs ay,hR,rfl,?_⟩;have:=h1.put (dst:=o.dst) (rl K Z) (hr.next u);rw[K] at this⊢;exact this
theorem Rm(hg:gd l0 o (kv s)=some true){ap:I->List (Nat×List I)->Prop}(T:∀(a:Act)(e:aE),bE Γ ⟨s,b,g⟩ e a->o.wp P a e.w (λ bF aA=>∃d ay ae,ap d ay/\ae.w=aA/\bE Γ ⟨(t,d)::ah,ay++aP,g⟩ ae bF) (λ _ _ _=>False))(h:∀d ay,ap d ay->bw P Γ l0 Q l ⟨(t,d)::ah,ay++aP,g⟩):bw P Γ l0 Q (o::l) ⟨s,b,g⟩:=by refine⟨λ a e F=>?_⟩;unfold wpList;rw[if_pos (mm F hg)];refine .inl (y8 (T a e F) λ bF aA hh=>?_);obtain⟨d,ay,ae,hR,rfl,d4⟩:=hh;exact(h d ay hR).run bF ae d4
theorem EK{a:Act}{e:aE}{S:Nat->Option I}(xs:List Operand){ds:List I}(h:∀x∈xs,∀d,ev S x=some d->bC e (a.eval x) d)(he:i3 S xs some=some ds):DReps e (xs.map a.eval) ds:=by obtain⟨jv,h1,u⟩:=tG xs _ ds h he;cases u;exact h1
theorem nf{f:FuncId}{bc:List Nat}{ds:List I}{bs:List (Nat×List I)}{ap:I->List (Nat×List I)->Prop}{xs:List Operand}{fa:Array TypeId}(hC:gt P f bc ds bs ap)(ho:o.op=.call {callee:=.value (.func f),args:=xs.toArray,argTypes:=fa})(hf:jM P f)(he:i3 (kv s) xs some=some ds)(aV:I.ok.fy (aL bs) (λ _=>false) ds=true)(T:jQ ⟨s,b,g⟩ (aL bs) bs)(dI:tn bc bs Γ.kb)
 (hg:gd l0 o (kv s)=some true)(K:o.dst=some t)(Z:Nat.blt t Γ.n=true)(h3:lT (λ b=>!aL bs b||iI bc b) s (λ ah=>mj (aL bs) (λ b=>!aL bs b||iI bc b) b (λ aP=>some (ah,aP)))=some (ah,aP))
 (dt:∀d ay,ap d ay->kq bs b ay)(h:∀d ay,ap d ay->bw P Γ l0 Q l ⟨(t,d)::ah,ay++aP,g⟩):bw P Γ l0 Q (o::l) ⟨s,b,g⟩:=by
 refine Rm hg (λ a e F=>?_) h;have jG:=F.jd o.op.operands;have hv:=EK (a:=a) (e:=e) xs (λ x hx=>jG.1 x (by rw[ho];simp[Op.operands,Call.operands,hx])) he;unfold Oper.wp;have e1:(execOp a.eval o).run P e.w=.ok (.enter f (xs.map a.eval).toArray) e.w:=by obtain⟨dst,op,type,pos,after,guard⟩:=o;simp only at ho;subst ho;rw[execOp_call_go,hf];simp
 rw[e1];exact Vk hC F hv aV T dI K Z h3 dt
theorem zr{f:FuncId}{bc:List Nat}{ds first dX:List I}{bs:List (Nat×List I)}{ap:I->List (Nat×List I)->Prop}{fo:Operand}{xs:List Operand}{fa:Array TypeId}(hC:gt P f bc ds bs ap)(ho:o.op=.call {callee:=.value fo,args:=xs.toArray,argTypes:=fa})(hf:jM P f)(wG:ev (kv s) fo=some (.fn (.func f) first dX))(he:i3 (kv s) xs (λ jv=>ng first jv λ r=>ng r dX some)=some ds)(aV:I.ok.fy (aL bs) (λ _=>false) ds=true)(T:jQ ⟨s,b,g⟩ (aL bs) bs)(dI:tn bc bs Γ.kb)
 (hg:gd l0 o (kv s)=some true)(K:o.dst=some t)(Z:Nat.blt t Γ.n=true)(h3:lT (λ b=>!aL bs b||iI bc b) s (λ ah=>mj (aL bs) (λ b=>!aL bs b||iI bc b) b (λ aP=>some (ah,aP)))=some (ah,aP))
 (dt:∀d ay,ap d ay->kq bs b ay)(h:∀d ay,ap d ay->bw P Γ l0 Q l ⟨(t,d)::ah,ay++aP,g⟩):bw P Γ l0 Q (o::l) ⟨s,b,g⟩:=by
 refine Rm hg (λ a e F=>?_) h;have jG:=F.jd o.op.operands;obtain⟨jv,hr,ol⟩:=tG (a:=a) (e:=e) xs _ ds (λ x hx=>jG.1 x (by rw[ho];simp[Op.operands,Call.operands,hx])) he;rw[sr,sr] at ol;cases ol;have yl:=jG.1 fo (by rw[ho];simp[Op.operands,Call.operands]) _ wG;generalize c8:a.eval fo=gv at yl;cases yl with
 |fn fS eV h1 u=>
  rename_i us vs;have dH:DReps e (us++xs.map a.eval++vs) (first++jv++dX):=(DReps.append ⟨fS,h1⟩ hr).append ⟨eV,u⟩;unfold Oper.wp;have e1:(execOp a.eval o).run P e.w=.ok (.enter f (us++xs.map a.eval++vs).toArray) e.w:=by obtain⟨dst,op,type,pos,after,guard⟩:=o;simp only at ho;subst ho;simp only[execOp,resolve,c8,Deferred.ofValue,Sem.run_bind,Sem.run_pure,Result.andThen_ok,invoke];rw[hf];simp
  rw[e1];exact Vk hC F dH aV T dI K Z h3 dt
def vR(aq:Nat->Option TI)(L:St)(l:List ResultVar):Option I:=G5 aq L l λ
 |[d]=>some d
 |ds=>some (.ca ds)
theorem BU(hT:dh P aq){fn:Func}{e:aE}{a:Act}(F:bE Γ L e a){d:I}(h:vR aq L fn.results.toList=some d):∃v,(results fn a.tmps).run P e.w=.ok v e.w/\bC e v d:=by
 unfold vR at h;obtain⟨ds,vs,qK,ol,h⟩:=PX hT F _ _ d h;split at h
 ·rename_i d0;obtain⟨v,fu,rfl,hv,hn⟩:=ol.y6;have:fu=[]:=List.eq_nil_of_length_eq_zero hn.1;subst this;cases h;refine⟨v,?_,hv⟩;rw[DL,Array.mapM_eq_mapM_toList];simp only[bind_map_left,Sem.run_bind,qK,Result.andThen_ok,Sem.run_pure];simp
 ·rename_i aW;cases h;refine⟨.tuple vs.toArray,?_,.ca ol.1 ol.2⟩;rw[DL,Array.mapM_eq_mapM_toList];simp only[bind_map_left,Sem.run_bind,qK,Result.andThen_ok,Sem.run_pure];rw[dif_neg];intro T;have Z:ds.length=1:=by rw[<-ol.1];simpa using T
  obtain⟨d1,rfl⟩:=List.length_eq_one_iff.1 Z;exact aW d1 rfl
def ku(bs:List (Nat×List I)):List Nat->Prop
 |[]=>True
 |n::l=>aL bs n=true/\ku bs l
theorem ku.get{bs:List (Nat×List I)}:∀{l:List Nat}(_:ku bs l){n:Nat},n∈l->aL bs n=true
 |[],_,n,h=>by cases h
 |x::l,T,n,h=>by
  rcases List.mem_cons.1 h with h|h
  ·subst h;exact T.1
  ·exact T.2.get h
def D9(aq:Nat->Option TI)(rs:List ResultVar)(bc:List Nat)(ap:I->List (Nat×List I)->Prop):Exit->St->Prop:=λ ex L=>(ex=.normal\/ex=.ret)/\∃d ay,vR aq L rs=some d/\d.ok (aL ay) (λ _=>false)=true/\jQ L (aL ay) ay/\ku ay bc/\ap d ay
theorem j9{rs:List ResultVar}{bc:List Nat}{ap:I->List (Nat×List I)->Prop}(ay:List (Nat×List I))(h:vR aq L rs=some d)(h1:d.ok (aL ay) (λ _=>false)=true)(u:jQ L (aL ay) ay)(J:ku ay bc)(hR:ap d ay):D9 aq rs bc ap .ret L:=⟨.inr rfl,d,ay,h,h1,u,J,hR⟩
theorem pH{rs:List ResultVar}{bc:List Nat}{ap:I->List (Nat×List I)->Prop}(ay:List (Nat×List I))(h:vR aq L rs=some d)(h1:d.ok (aL ay) (λ _=>false)=true)(u:jQ L (aL ay) ay)(J:ku ay bc)(hR:ap d ay):D9 aq rs bc ap .normal L:=⟨.inl rfl,d,ay,h,h1,u,J,hR⟩
def mz(kf:Nat->Nat):List Nat->List (Nat×Nat)
 |[]=>[]
 |n::l=>(n,kf n)::mz kf l
theorem Df{kf:Nat->Nat}:∀{l:List Nat}{n k:Nat},kv (mz kf l) n=some k->n∈l/\k=kf n
 |[],n,k,h=>by cases h
 |x::l,n,k,h=>by
  simp only[mz,dc] at h;split at h
  ·rename_i e;subst e;cases h;exact⟨List.mem_cons_self,rfl⟩
  ·obtain⟨h1,u⟩:=Df h;exact⟨List.mem_cons_of_mem _ h1,u⟩
theorem Bv{kf:Nat->Nat}:∀{l:List Nat}{n:Nat},n∈l->kv (mz kf l) n=some (kf n)
 |[],n,h=>by cases h
 |x::l,n,h=>by
  simp only[mz,dc];split
  ·rename_i e;subst e;rfl
  ·rename_i e;rcases List.mem_cons.1 h with h|h
   ·exact absurd h.symm e
   ·exact Bv h
theorem af1(hT:dh P aq){f:FuncId}{fn:Func}{c:Code}{ds:List I}{bc:List Nat}{bs:List (Nat×List I)}{ap:I->List (Nat×List I)->Prop}{rs:List ResultVar}{n:Nat}{s:List (Nat×I)}(hf:P.funcs[f]?=some fn)(hb:fn.body=some c)(gL:fn.ntmps=n)(mx:fn.results.toList=rs)(hn:Nat.ble ds.length n=true)(T:tF 0 ds some=some s)(o9:ku bs bc)
 (h:∀w cl own kf,a8 P ⟨n,w,cl,own,mz kf bc,[]⟩ c (D9 aq rs bc ap) ⟨s,bs,[]⟩):gt P f bc ds bs ap:=by
 subst gL;subst mx;rw[Cz] at T;cases T;have hn:=Nat.le_of_ble_eq_true hn;intro e vs hI hv;refine calls_of_wp hf hb ?_;have Z:vs.length=ds.length:=hv.1;have iD:∀b,b∈bc->e.bx b=some ((e.bx b).getD 0):=λ b hb=>by
  have h1:=o9.get hb;obtain⟨cs,bV⟩:=Option.isSome_iff_exists.1 h1;obtain⟨k,_,_,u,_⟩:=hI.boxes b cs bV;rw[u];rfl
 have F:bE ⟨fn.ntmps,e.w,e.cl,λ k=>∃b,e.bx b=some k,mz (λ b=>(e.bx b).getD 0) bc,[]⟩ ⟨wn.go 0 ds,bs,[]⟩ e {tmps:=vs.toArray++Array.replicate (fn.ntmps-vs.toArray.size) undef,defers:=[]}:=by
  refine⟨by simp;omega,rfl,λ t d0 ht=>?_,hI.boxes,hI.ee,λ g=>by rw[hI.gi];rfl,⟨oN.refl _ _,λ _ _ _=>rfl,λ b k hk=>⟨(hI.bx b k hk).1,.inr ⟨b,hk⟩,(hI.bx b k hk).2,hI.gr k⟩,hI.inj,λ k g hk=>(by rw[hI.gr] at hk;cases hk),λ b k hk=>?_⟩⟩
  ·obtain⟨_,u⟩:=EI ds 0 t d0 ht;simp only[Nat.sub_zero] at u;obtain⟨v,J,h4⟩:=hv.get u;have iG:t<vs.length:=(List.getElem?_eq_some_iff.1 J).1;have:gH {tmps:=vs.toArray++Array.replicate (fn.ntmps-vs.toArray.size) undef,defers:=[]} t=v:=by
    unfold gH;simp only[Array.getD_eq_getD_getElem?];rw[Array.getElem?_append_left (by simpa using iG),List.getElem?_toArray,J]
    rfl
   rw[this];exact h4
  ·obtain⟨h1,u⟩:=Df hk;rw[u];exact iD b h1
 refine Code.wp_mono (λ ex bF aA hh=>?_) ((h e.w e.cl _ _).run _ e F);obtain⟨bQ,ae,rfl,u,J,d,ay,h4,h5,h6,h7,h8⟩:=hh;obtain⟨v,hr,hv⟩:=BU hT u h4;have aeL:Left bc e (ae.cut (aL ay) λ _=>false):=by
  refine⟨u.env.kept,u.env.cl,λ b k hk=>?_,λ b hb=>?_⟩
  ·have cg:(if aL ay b=true then ae.bx b else none)=some k:=hk;split at cg
   ·exact(u.env.bx b k cg).2.1
   ·cases cg
  ·show(if aL ay b=true then ae.bx b else none)=_;rw[if_pos (h7.get hb),iD b hb];exact u.env.kb b _ (Bv hb)
 have k9:bF.defers=[]/\∃v,(results fn bF.tmps).run P ae.w=.ok v ae.w/\∃gU d ay n5,Ending.returned v=.returned gU/\n5.w=ae.w/\ap d ay/\iW ay n5/\bC n5 gU d/\Left bc e n5:=
  ⟨u.df,v,hr,v,d,ay,ae.cut (aL ay) λ _=>false,rfl,rfl,h8,rg u h6,hv.cut h5,aeL⟩
 rcases J with rfl|rfl
 ·exact k9
 ·exact k9
def DO(Q:Exit->St->Prop):Exit->St->Prop
 |.goto _,_=>False
 |ex,L=>Q ex L
theorem aaD{c:Code}(h:a8 P Γ c (DO Q) L):a8 P Γ (.scope c) Q L:=⟨λ a e F=>by
 refine wp_scope_straight (Code.wp_mono (λ ex bF aA hh=>?_) (h.run a e F));obtain⟨bQ,ae,rfl,u,J⟩:=hh;cases ex with
 |goto l=>exact J.elim
 |_=>exact⟨bQ,ae,rfl,u,J⟩⟩
theorem aax{n:Nat}(h:Q .normal L):a8 P Γ (.label n) Q L:=⟨λ _ e F=>wp_label ⟨L,e,rfl,F,h⟩⟩
end
end Go.Proofs.YtkkldicehapklaaGreat
end
section
namespace Go.Proofs.YtkkldicehapklaaGreat
open Go.RowKit
section
variable{P:Program}{aq:Nat->Option TI}{Γ:bX}{L bQ bu:St}{o:Oper}{l0 l:List Oper}{Q:Exit->St->Prop}
def cH(n:Nat):Nat->Bool:=λ m=>!Nat.beq n m
theorem O6{n m:Nat}(h:cH n m=true):m≠n:=λ e=>by subst e;simp[cH] at h
theorem ahL{n m:Nat}(h:m≠n):cH n m=true:=by
 have:Nat.beq n m=false:=by rw[Bool.eq_false_iff];intro hb;exact h (Nat.eq_of_beq_eq_true hb).symm
 simp[cH,this]
theorem bE.forget{e:aE}{a:Act}(F:bE Γ L e a)(nm:Nat)(hk:kv Γ.kb nm=none):bE Γ ⟨tE (cH nm) L.s,iY (Nat.beq nm) (cH nm) L.b,L.g⟩ (e.cut (cH nm) λ _=>true) a:=by
 have iD:∀b k,(e.cut (cH nm) λ _=>true).bx b=some k->e.bx b=some k:=λ b k h=>by
  have bD:(if cH nm b=true then e.bx b else none)=some k:=h;split at bD
  ·exact bD
  ·cases bD
 have ia:∀k,(e.cut (cH nm) λ _=>true).gr k=e.gr k:=λ k=>by
  show(match e.gr k with|some g=>if true=true then some g else none|none=>none)=_;cases e.gr k<;>simp
 have eZ:∀g,(e.cut (cH nm) λ _=>true).gi g=e.gi g:=λ g=>by
  show(if true=true then e.gi g else none)=_;simp
 refine⟨F.size,F.df,λ t d ht=>?_,λ b cs hb=>?_,λ b hb=>?_,λ g=>by rw[eZ];exact F.gs g,F.env.kept,F.env.cl,λ b k h=>?_,λ b c k h1 u=>F.env.inj b c k (iD _ _ h1) (iD _ _ u),λ k g h=>?_,λ b k h=>?_⟩
 ·obtain⟨d0,h1,rfl⟩:=L6 ht;exact OB (F.dj t d0 h1)
 ·obtain⟨h1,nk,u,rfl⟩:=Cr hb;obtain⟨k,vs,el,J,h4,h5⟩:=F.boxes b nk u;refine⟨k,vs,el,?_,h4,L5 h5⟩;show(if cH nm b=true then e.bx b else none)=_;rw[if_pos (by simp[cH,h1])];exact J
 ·show(if cH nm b=true then e.bx b else none)=_;rcases HX hb with h|h
  ·rw[if_neg (by simp only[cH,h];decide)]
  ·rw[F.ee b h];simp
 ·obtain⟨h1,u,J,h4⟩:=F.env.bx b k (iD b k h);exact⟨h1,u,J,by rw[ia];exact h4⟩
 ·rw[ia] at h;obtain⟨aa,cur,h1,u⟩:=F.env.gr k g h;exact⟨aa,cur,by rw[eZ];exact h1,u⟩
 ·show(if cH nm b=true then e.bx b else none)=_;rw[if_pos (ahL (λ ae=>by rw[ae,hk] at h;cases h))];exact F.env.kb b k h
theorem bE.Ii{e:aE}{a:Act}(F:bE Γ L e a){b k:Nat}{cs:List I}(hb:kv L.b b=none)(hk:k<e.w.heap.size)(qx:Γ.w0.heap.size<=k\/Γ.own k)(dw:e.cl k=some 0)(ia:e.gr k=none)(dt:∀c,e.bx c≠some k)
 (iC:ij (e.jr b k) b cs):bE Γ ⟨L.s,(b,cs)::L.b,L.g⟩ (e.jr b k) a:=by
 have hn:=F.ee b hb;have Y:=vZ (k:=k) hn;refine⟨F.size,F.df,λ t d ht=>(F.dj t d ht).next Y,λ c ds wD=>?_,λ c iE=>?_,F.gs,?_⟩
 ·simp only[dc] at wD;split at wD
  ·rename_i sF;subst sF;cases wD;exact iC
  ·exact(F.boxes c ds wD).ends Y rfl
 ·simp only[dc] at iE;split at iE
  ·cases iE
  ·rename_i sF;show(if c=b then some k else e.bx c)=none;rw[if_neg (λ ae=>sF ae.symm)];exact F.ee c iE
 ·refine⟨F.env.kept,F.env.cl,λ c j hj=>?_,λ c aT j h1 u=>?_,F.env.gr,λ c j hj=>Y.bx c j (F.env.kb c j hj)⟩
  ·have fb:(if c=b then some k else e.bx c)=some j:=hj;split at fb
   ·cases fb;exact⟨hk,qx,dw,ia⟩
   ·exact F.env.bx c j fb
  ·have bB:(if c=b then some k else e.bx c)=some j:=h1;have cj:(if aT=b then some k else e.bx aT)=some j:=u
   by_cases e1:c=b<;>by_cases e2:aT=b
   ·rw[e1,e2]
   ·rw[if_pos e1] at bB;rw[if_neg e2] at cj;cases bB;exact absurd cj (dt aT)
   ·rw[if_neg e1] at bB;rw[if_pos e2] at cj;cases cj;exact absurd bB (dt c)
   ·rw[if_neg e1] at bB;rw[if_neg e2] at cj;exact F.env.inj c aT j bB cj
theorem bE.Yf{e:aE}{a:Act}(F:bE Γ L e a){k:Nat}(us:List Value)(qx:Γ.w0.heap.size<=k\/Γ.own k)(dw:e.cl k=some 0)(ia:e.gr k=none)(dt:∀c,e.bx c≠some k):
 bE Γ L {e with w:=e.w.setRow k us.toArray} a/\Ends e {e with w:=e.w.setRow k us.toArray}:=by
 have iq:∀j,j≠k->(e.w.setRow k us.toArray).heap[j]?=e.w.heap[j]?:=λ j hj=>setRow_other e.w k j _ hj
 have Y:Ends e {e with w:=e.w.setRow k us.toArray}:=by
  refine⟨λ aP o v Fl hv=>?_,λ _ _ h=>h,λ _ aa h=>⟨aa,h,rfl,rfl,Nat.le_refl _⟩,λ j g aa cur h5 h6 h7=>⟨h5,cur,?_,rfl⟩⟩
  ·have aW:aP≠k:=λ ae=>by subst ae;exact absurd (Fl 0 dw) (by omega)
   exact⟨Fl,by show(e.w.setRow k us.toArray).cell? _=_;rw[World.cell?_of_block (w:=e.w) (iq aP aW)];exact hv⟩
  ·show(e.w.setRow k us.toArray).heap[j]?=_;rw[iq j (λ ae=>by subst ae;rw[ia] at h5;cases h5)];exact h7
 refine⟨⟨F.size,F.df,λ t d ht=>(F.dj t d ht).next Y,λ aP ds K=>?_,F.ee,F.gs,?_⟩,Y⟩
 ·obtain⟨iJ,fu,EH,h5,h6,h7⟩:=F.boxes aP ds K;refine⟨iJ,fu,EH,h5,?_,h7.next Y⟩;show(e.w.setRow k us.toArray).heap[iJ]?=_;rw[iq iJ (λ ae=>dt aP (by rw[h5,ae]))];exact h6
 ·refine⟨⟨F.env.kept.os,F.env.kept.tape,F.env.kept.output,by show _<=(e.w.setRow k us.toArray).heap.size;rw[setRow_size];exact F.env.kept.size,λ j hj ho=>?_⟩,F.env.cl,λ aP j hj=>?_,F.env.inj,λ j g hg=>?_,F.env.kb⟩
  ·show(e.w.setRow k us.toArray).heap[j]?=_;rw[iq j (λ ae=>by subst ae;rcases qx with u|u<;>first|omega|exact ho u)];exact F.env.kept.block j hj ho
  ·obtain⟨h5,h6,h7,h8⟩:=F.env.bx aP j hj;exact⟨by show j<(e.w.setRow k us.toArray).heap.size;rw[setRow_size];exact h5,h6,h7,h8⟩
  ·obtain⟨aa,cur,h5,h6,h7,h8,h9⟩:=F.env.gr j g hg;refine⟨aa,cur,h5,by show j<(e.w.setRow k us.toArray).heap.size;rw[setRow_size];exact h6,h7,h8,?_⟩;show(e.w.setRow k us.toArray).heap[j]?=_;rw[iq j (λ ae=>by subst ae;rw[ia] at hg;cases hg)];exact h9
theorem X1(w:World)(t ty e e0:TypeId)(i:TypeInfo)(ht:P.underlying t=some (.slice e))(hi:P.info? e=some i)
 (g BW Qa:Nat)(cur:Array Value)(hg:w.heap[g]?=some (.cells cur e0 (0,0)))
 (a:Addr)(m c:Nat)(news:List Value)(Z:news.length=m*i.size)(aeZ:∀(j:Nat) aH,news[j]?=some aH->w.cell? (a.add j)=some aH)(h1:∀aH∈news,aH.oneCell'=true)
 (qI:BW+m<=Qa)(t7:BW*i.size+news.length<=cur.size):
 (Builtin.append_ #[t,t] ty #[.slice (some ⟨g,0,none⟩) BW Qa,.slice (some a) m c]).run P w=
  .ok (.slice (some ⟨g,0,none⟩) (BW+m) Qa) (w.setRow g (cur.toList.take (BW*i.size)++news++cur.toList.drop (BW*i.size+news.length)).toArray):=by
 have hf:=run_firstCells_some (P:=P) w i.size m a m c news Z aeZ;have bY:=run_storeCells_at P g (BW*i.size) e0 news 0 cur w hg (by simpa using t7) h1;simp only[Nat.add_zero] at bY;simp[Builtin.append_,run_underlying ht,sizeOf,typeInfo,hi,Builtin.lenOf,qI,hf,Addr.add_lit,bY]
inductive Eh(e:aE)(nm n c:Nat)(ps:List Pl):Value->Prop where
 |none (hn:n=0) (F:c=0) (cG:ps=[]):Eh e nm n c ps (.slice none 0 0)
 |empty {ad:Addr} (hn:n=0) (F:c=0) (cG:ps=[]):Eh e nm n c ps (.slice (some ad) 0 0)
 |some {k:Nat} {vs:List Value} {el:TypeId} (hk:e.bx nm=some k) (hh:e.w.heap[k]?=some (.cells vs.toArray el (0,0))) (Z:vs.length=c) (hn:n<=c) (cG:ps.length=n) (hr:∀(j:Nat) v x,vs[j]?=some v->ps[j]?=some x->c5 e v x):Eh e nm n c ps (.slice (some ⟨k,0,none⟩) n c)
theorem Py{e:aE}{vs:List Value}{cs:List I}{ps:List Pl}(h:DReps e vs cs)(G:cs.take ps.length=ps.map I.p):∀(j:Nat) v x,vs[j]?=some v->ps[j]?=some x->c5 e v x:=by
 intro j v x hv hx;have hj:=(List.getElem?_eq_some_iff.1 hx).1;have h1:(cs.take ps.length)[j]?=some (.p x):=by rw[G,List.getElem?_map,hx];rfl
 rw[List.getElem?_take,if_pos hj] at h1;have:=h.2 j v _ hv h1;cases this with
 |p h=>exact h
theorem J6{e:aE}{vs:List Value}{ps:List Pl}(hn:ps.length<=vs.length)(h:∀(j:Nat) v x,vs[j]?=some v->ps[j]?=some x->c5 e v x):DReps e vs (ps.map I.p++List.replicate (vs.length-ps.length) .any):=by
 refine⟨by simp;omega,λ j v d hv K=>?_⟩;rcases Nat.lt_or_ge j ps.length with hj|hj
 ·rw[List.getElem?_append_left (by simpa using hj),List.getElem?_map,List.getElem?_eq_getElem hj] at K;cases K;exact .p (h j v _ hv (List.getElem?_eq_getElem hj))
 ·rw[List.getElem?_append_right (by simpa using hj),List.getElem?_replicate] at K;split at K
  ·cases K;exact .any
  ·cases K
def gu(cs:List I):Prop:=∀B aa,I.ok.fy B aa cs=true
theorem J8(ps:List Pl)(r:Nat):gu (ps.map I.p++List.replicate r I.any):=by
 intro B aa;induction ps with
 |nil=>
  induction r with
  |zero=>rfl
  |succ r ih=>simp only[List.map_nil,List.nil_append,List.replicate_succ,I.ok.fy,I.ok,Bool.true_and] at ih⊢;exact ih
 |cons p ps ih=>simp only[List.map_cons,List.cons_append,I.ok.fy,I.ok,Bool.true_and];exact ih
theorem aae(hT:dh P aq){e:aE}{a:Act}(F:bE Γ L e a){ty:TypeId}{nm n m c el z1 z2:Nat}{z3:Value}{ps qs:List Pl}{i:TI}{vx vy:Value}{t:TypeId}(ht:aq t=some ⟨.slice el,z1,z2,z3⟩)(dO:aq el=some i)(iH:i.zero.cells.size=1)(I9:i.sz=1)(dI:kv Γ.kb nm=none)
 (hx:Eh e nm n c ps vx)(mp:c<=maxLen)(fp:c5 e vy (.sl false m qs))(hm:0<m)(cq:qs.length=m)
 (gI:n+m<=maxLen)(fQ:(n+m)*i.bytes<=140737488355328):∃v ae aZ aT,(Builtin.append_ #[t,t] ty #[vx,vy]).run P e.w=.ok v ae.w/\aZ.length=aT/\aT<=maxLen/\n+m<=aT/\aZ.take (n+m)=(ps++qs).map I.p/\gu aZ/\
  bE Γ ⟨tE (cH nm) L.s,(nm,aZ)::iY (Nat.beq nm) (cH nm) L.b,L.g⟩ ae a/\bC ae v (.arr nm 0 (n+m) aT):=by
 obtain⟨d0,ep,hk⟩:=hT.desc t _ ht;cases d0<;>simp only[km,reduceCtorEq,TK.slice.injEq] at hk
 rw[hk] at ep;obtain⟨gO,nC,hsz,ve,hz⟩:=hT.info _ i dO;rw[I9] at hsz;obtain⟨bK,l8,rfl,Ve,Vf,TP,_,hY⟩:=qa fp;have FX:qs≠[]:=λ ae=>by rw[ae] at cq;simp at cq;omega
 rcases hY with hY|⟨yb,yo,rfl,E5⟩
 ·exact absurd hY FX
 obtain⟨us,ur,rQ,sR,w4⟩:=Eu E5;have qJ:us.length=m*gO.size:=by rw[ur,cq,hsz];omega
 have wZ:us.length=m:=by rw[ur,cq]
 have wH:=F.forget nm dI;have FM:kv (iY (Nat.beq nm) (cH nm) L.b) nm=none:=by
  cases h:kv (iY (Nat.beq nm) (cH nm) L.b) nm with
  |none=>rfl
  |some cs=>have:=(Cr h).1;simp at this
 have vf:∀(os:List Value),os.length=n->ps.length=n->(∀(j:Nat) v x,os[j]?=some v->ps[j]?=some x->c5 e v x)->(c<n+m)->(Builtin.append_ #[t,t] ty #[vx,.slice (some ⟨yb,yo,none⟩) m l8]).run P e.w=.ok (.slice (some ⟨e.w.heap.size,0,none⟩) (n+m) (grownCap e.w (n+m) c el)) (e.w.drew.alloc (.cells (os.toArray++us.toArray++Builtin.zeroCells i.zero.cells (grownCap e.w (n+m) c el-(n+m))) el))->
  ∃v ae aZ aT,(Builtin.append_ #[t,t] ty #[vx,.slice (some ⟨yb,yo,none⟩) m l8]).run P e.w=.ok v ae.w/\aZ.length=aT/\aT<=maxLen/\n+m<=aT/\aZ.take (n+m)=(ps++qs).map I.p/\gu aZ/\
  bE Γ ⟨tE (cH nm) L.s,(nm,aZ)::iY (Nat.beq nm) (cH nm) L.b,L.g⟩ ae a/\bC ae v (.arr nm 0 (n+m) aT):=by
  intro os jF cG lY aY cS;have iF:n+m<=grownCap e.w (n+m) c el:=grownCap_ge _ _ _ _;have qB:grownCap e.w (n+m) c el<=maxLen:=grownCap_le_maxLen _ _ _ _ gI;generalize grownCap e.w (n+m) c el=bG at iF qB cS
  let e1:=e.cut (cH nm) λ _=>true
  let jq:List Value:=os++us++(Builtin.zeroCells i.zero.cells (bG-(n+m))).toList
  have yu:os.toArray++us.toArray++Builtin.zeroCells i.zero.cells (bG-(n+m))=jq.toArray:=by apply Array.ext';simp[jq]
  have cx:jq.length=bG:=by
   have:(Builtin.zeroCells i.zero.cells (bG-(n+m))).toList.length=bG-(n+m):=by rw[Array.length_toList,size_zeroCells,iH];omega
   simp only[jq,List.length_append,jF,wZ,this];omega
  rw[yu] at cS
  let e2:aE:={e1 with w:=e.w.drew}
  have jE:j7 e1 e2:=⟨(Below.refl _ _).drew,λ _ _=>rfl,rfl,rfl,rfl⟩;have iU:=aE.v8 e2 (.cells jq.toArray el) (some 0);have fI:=(wH.grow jE).grow iU;have k8:Ends e1 (e2.alloc (.cells jq.toArray el) (some 0)):=jE.ends.trans iU.ends;have pP:∀(j:Nat) v x,jq[j]?=some v->(ps++qs)[j]?=some x->c5 e1 v x:=by
   intro j v x hv hx;rcases Nat.lt_or_ge j n with hj|hj
   ·rw[List.getElem?_append_left (by omega)] at hx;simp only[jq,List.append_assoc] at hv;rw[List.getElem?_append_left (by omega)] at hv;exact(lY j v x hv hx).cut
   ·rw[List.getElem?_append_right (by omega),cG] at hx;have CY:=(List.getElem?_eq_some_iff.1 hx).1;simp only[jq,List.append_assoc] at hv;rw[List.getElem?_append_right (by omega),jF,List.getElem?_append_left (by omega)] at hv;exact(w4 _ v x hv hx).cut
  have cV:(ps++qs).length=n+m:=by simp[cG,cq]
  have wz:=J6 (e:=e1) (vs:=jq) (ps:=ps++qs) (by omega) pP;have iT:(e2.alloc (.cells jq.toArray el) (some 0)).bx nm=none:=by show(if cH nm nm=true then e.bx nm else none)=none;simp[cH]
  have AF:=vZ (k:=e.w.heap.size) iT;have AU:=fI.Ii (b:=nm) (k:=e.w.heap.size) (cs:=(ps++qs).map I.p++List.replicate (jq.length-(ps++qs).length) I.any) FM (by simp[aE.alloc,e2]) (.inl F.env.kept.size) (by simp[aE.alloc,e2]) (by
   show(e.cut (cH nm) λ _=>true).gr _=none;show(match e.gr e.w.heap.size with|some g=>if true=true then some g else none|none=>none)=none;cases hg:e.gr e.w.heap.size with
   |none=>rfl
   |some g=>obtain⟨_,_,_,J,_⟩:=F.env.gr _ g hg;omega) (λ x hx=>by
   have cX:(if cH nm x=true then e.bx x else none)=some e.w.heap.size:=hx;split at cX
   ·have:=(F.env.bx x _ cX).1;omega
   ·cases cX) ⟨e.w.heap.size,jq,el,by simp[aE.jr],heap_alloc_new e2.w _,(wz.next k8).next AF⟩
  refine⟨_,(e2.alloc (.cells jq.toArray el) (some 0)).jr nm e.w.heap.size,_,bG,cS,?_,qB,iF,?_,J8 _ _,AU,.arr (by simp[aE.jr])⟩
  ·simp only[List.length_append,List.length_map,List.length_replicate,cx,cG,cq];omega
  ·rw[<-cV,List.take_append_of_le_length (by simp),List.take_of_length_le (by simp)]
 cases hx with
 |empty hn lx cG=>rename_i ad;subst hn;subst lx;subst cG;have cS:=run_append_grow (P:=P) e.w t ty el gO i.zero ep nC hz ad 0 0 [] (by simp) (λ j v hj=>by simp at hj) ⟨yb,yo,none⟩ m l8 us qJ rQ (by omega) (by simp only[maxLen] at gI;omega) (growslice_fits (by omega) (by rw[ve];exact fQ));exact vf [] rfl rfl (λ j v x hj=>by simp at hj) (by omega) cS
 |none hn lx cG=>subst hn;subst lx;subst cG;have cS:=run_append_nil (P:=P) e.w t ty el gO i.zero ep nC hz ⟨yb,yo,none⟩ m l8 us qJ rQ hm (by simp only[maxLen] at gI;omega) (by rw[ve];simp only[Nat.zero_add] at fQ;omega);exact vf [] rfl rfl (λ j v x hj=>by simp at hj) (by omega) (by simpa using cS)
 |some hk hh Z hn cG hr=>
  rename_i k vs rm
  by_cases qI:n+m<=c
  ·have cS:=X1 (P:=P) e.w t ty el rm gO ep nC k n c vs.toArray hh ⟨yb,yo,none⟩ m l8 us qJ rQ sR qI (by simp[hsz,wZ,Z];omega);obtain⟨h1,u,J,h4⟩:=F.env.bx nm k hk
   let fu:=vs.take n++us++vs.drop (n+m)
   have qK:(vs.toArray.toList.take (n*gO.size)++us++vs.toArray.toList.drop (n*gO.size+us.length))=fu:=by simp[hsz,wZ,fu]
   rw[qK] at cS;have dt:∀x,(e.cut (cH nm) λ _=>true).bx x≠some k:=λ x hx=>by
    have cX:(if cH nm x=true then e.bx x else none)=some k:=hx;split at cX
    ·rename_i aW;exact O6 aW (F.env.inj _ _ _ cX hk)
    ·cases cX
   have wN:(e.cut (cH nm) λ _=>true).gr k=none:=by show(match e.gr k with|some g=>if true=true then some g else none|none=>none)=none;rw[h4]
   obtain⟨ox,Y⟩:=wH.Yf fu u J wN dt;have cx:fu.length=c:=by simp[fu,wZ,Z];omega
   have cV:(ps++qs).length=n+m:=by simp[cG,cq]
   have pP:∀(j:Nat) v x,fu[j]?=some v->(ps++qs)[j]?=some x->c5 (e.cut (cH nm) λ _=>true) v x:=by
    intro j v x hv hx;rcases Nat.lt_or_ge j n with hj|hj
    ·rw[List.getElem?_append_left (by omega)] at hx;simp only[fu,List.append_assoc] at hv;rw[List.getElem?_append_left (by simp;omega),List.getElem?_take,if_pos hj] at hv;exact(hr j v x hv hx).cut
    ·rw[List.getElem?_append_right (by omega),cG] at hx;have CY:=(List.getElem?_eq_some_iff.1 hx).1;simp only[fu,List.append_assoc] at hv;rw[List.getElem?_append_right (by simp;omega),List.length_take,Z,Nat.min_eq_left hn,List.getElem?_append_left (by omega)] at hv;exact(w4 _ v x hv hx).cut
   have wz:=J6 (vs:=fu) (ps:=ps++qs) (by omega) pP;have iT:(e.cut (cH nm) λ _=>true).bx nm=none:=by show(if cH nm nm=true then e.bx nm else none)=none;simp[cH]
   have AF:=vZ (e:={w:=(e.cut (cH nm) λ _=>true).w.setRow k fu.toArray,cl:=(e.cut (cH nm) λ _=>true).cl,bx:=(e.cut (cH nm) λ _=>true).bx,gr:=(e.cut (cH nm) λ _=>true).gr,gi:=(e.cut (cH nm) λ _=>true).gi}) (b:=nm) (k:=k) iT;have AU:=ox.Ii (b:=nm) (k:=k) (cs:=(ps++qs).map I.p++List.replicate (fu.length-(ps++qs).length) I.any) FM (by show k<(e.w.setRow k _).heap.size;rw[setRow_size];exact h1) u J wN dt ⟨k,fu,rm,by simp[aE.jr],HL hh,(wz.next Y).next AF⟩;refine⟨_,_,_,c,cS,?_,mp,qI,?_,J8 _ _,AU,.arr (by simp[aE.jr])⟩
   ·simp only[List.length_append,List.length_map,List.length_replicate,cx,cG,cq];omega
   ·rw[<-cV,List.take_append_of_le_length (by simp),List.take_of_length_le (by simp)]
  ·have cS:=run_append_grow (P:=P) e.w t ty el gO i.zero ep nC hz ⟨k,0,none⟩ n c (vs.take n) (by simp[hsz,Z];omega) (λ j v hj=>by
    rw[List.getElem?_take] at hj;split at hj
    ·rw[qZ,cell_of_row e.w k (0+j) vs.toArray rm (0,0) hh];simpa using hj
    ·cases hj) ⟨yb,yo,none⟩ m l8 us qJ rQ (by omega) (by simp only[maxLen] at gI;omega) (growslice_fits (by omega) (by rw[ve];exact fQ))
   exact vf (vs.take n) (by simp[Z];omega) cG (λ j v x hv hx=>by
    rw[List.getElem?_take] at hv;split at hv
    ·exact hr j v x hv hx
    ·cases hv) (by omega) cS
end
end Go.Proofs.YtkkldicehapklaaGreat
end
section
namespace Go.Proofs.YtkkldicehapklaaGreat
open Go.RowKit
section
variable{P:Program}{aq:Nat->Option TI}{Γ:bX}{o:Oper}{l0 l:List Oper}{Q:Exit->St->Prop}
variable{s ah:List (Nat×I)}{b aP:List (Nat×List I)}{g:List (Nat×Gr)}{t:Nat}
theorem X0{a:Act}{ty:TypeId}{x y:Operand}{w aA:World}{v:Value}(ho:o.op=.call {callee:=.builtin .append,args:=#[x,y],argTypes:=#[ty,ty]})(h:(Builtin.append_ #[ty,ty] o.type #[a.eval x,a.eval y]).run P w=.ok v aA):(execOp a.eval o).run P w=.ok (.value v) aA:=by obtain⟨dst,op,type,pos,after,guard⟩:=o;simp only at ho;subst ho;simp only[execOp,resolve,invoke,builtin,Sem.run_bind,Sem.run_pure,Result.andThen_ok,List.map_toArray,List.map_cons,List.map_nil,h]
theorem aac(hT:dh P aq)(nm:Nat){ty:TypeId}{x y:Operand}{n m c el z1 z2:Nat}{z3:Value}{ps qs:List Pl}{dy:I}{i:TI}(ho:o.op=.call {callee:=.builtin .append,args:=#[x,y],argTypes:=#[ty,ty]})(ht:aq ty=some ⟨.slice el,z1,z2,z3⟩)(dO:aq el=some i)(iH:Nat.beq i.zero.cells.size 1=true)(hsz:Nat.beq i.sz 1=true)
 (hg:gd l0 o (kv s)=some true)(K:o.dst=some t)(Z:Nat.blt t Γ.n=true)(dI:kv Γ.kb nm=none)(hx:∀(a:Act)(e:aE),bE Γ ⟨s,b,g⟩ e a->Eh e nm n c ps (a.eval x))(mp:c<=maxLen)(hy:ev (kv s) y=some dy)(lV:nS dy=some (m,qs))(hm:0<m)(cq:qs.length=m)
 (gI:n+m<=maxLen)(fQ:(n+m)*i.bytes<=140737488355328)(h3:lT (cH nm) s (λ ah=>mj (Nat.beq nm) (cH nm) b (λ aP=>some (ah,aP)))=some (ah,aP))
 (h:∀aZ aT,aZ.length=aT->aT<=maxLen->n+m<=aT->aZ.take (n+m)=(ps++qs).map I.p->gu aZ->bw P Γ l0 Q l ⟨(t,.arr nm 0 (n+m) aT)::ah,(nm,aZ)::aP,g⟩):bw P Γ l0 Q (o::l) ⟨s,b,g⟩:=by
 rw[wh,wg] at h3;cases h3;refine⟨λ a e F=>?_⟩;unfold wpList;rw[if_pos (mm F hg)];have jG:=F.jd o.op.operands;have fp:=yV (jG.1 y (by rw[ho];simp[Op.operands,Call.operands]) _ hy) lV;obtain⟨v,ae,aZ,aT,cS,h1,u,J,h4,cV,h5,h6⟩:=aae hT F (ty:=o.type) ht dO (Nat.eq_of_beq_eq_true iH) (Nat.eq_of_beq_eq_true hsz) dI (hx a e F) mp fp hm cq gI fQ;refine .inl ?_;unfold Oper.wp;rw[X0 ho cS];have:=(h5.put (dst:=o.dst) (rl K Z) h6);rw[K] at this;show wpList P l0.toArray (jP Γ Q) l (a.put o.dst v) ae.w;rw[K];exact(h aZ aT h1 u J h4 cV).run _ ae this
theorem Rc(hT:dh P aq)(nm:Nat){ty:TypeId}{x y:Operand}{m el z1 z2:Nat}{z3:Value}{qs:List Pl}{dy:I}{i:TI}(ho:o.op=.call {callee:=.builtin .append,args:=#[x,y],argTypes:=#[ty,ty]})(ht:aq ty=some ⟨.slice el,z1,z2,z3⟩)(dO:aq el=some i)(iH:Nat.beq i.zero.cells.size 1=true)(hsz:Nat.beq i.sz 1=true)
 (hg:gd l0 o (kv s)=some true)(K:o.dst=some t)(Z:Nat.blt t Γ.n=true)(hx:ev (kv s) x=some (.p (.sl true 0 [])))(dI:kv Γ.kb nm=none)(hy:ev (kv s) y=some dy)(lV:nS dy=some (m,qs))(h3:lT (cH nm) s (λ ah=>mj (Nat.beq nm) (cH nm) b (λ aP=>some (ah,aP)))=some (ah,aP))
 (hm:0<m)(cq:qs.length=m)(gI:m<=maxLen)(fQ:m*i.bytes<=140737488355328)
 (h:∀aZ aT,aZ.length=aT->aT<=maxLen->m<=aT->aZ.take m=qs.map I.p->gu aZ->bw P Γ l0 Q l ⟨(t,.arr nm 0 m aT)::ah,(nm,aZ)::aP,g⟩):bw P Γ l0 Q (o::l) ⟨s,b,g⟩:=by
 refine aac hT nm (n:=0) (c:=0) (ps:=[]) ho ht dO iH hsz hg K Z dI (λ a e F=>?_) (Nat.zero_le _) hy lV hm cq (by omega) (by simpa using fQ) h3 (λ aZ aT h1 u J h4 cV=>?_)
 ·have di:=(F.jd o.op.operands).1 x (by rw[ho];simp[Op.operands,Call.operands]) _ hx;generalize a.eval x=vx at di;cases di with
  |p h1=>
   obtain⟨A,bG,rfl,_,_,_,h5,_⟩:=qa h1;have:=h5 rfl;subst this;cases A with
   |none=>exact .none rfl rfl rfl
   |some ad=>exact .empty rfl rfl rfl
 ·simp only[Nat.zero_add,List.nil_append] at J h4⊢;exact h aZ aT h1 u J h4 cV
theorem bE.zy{L:St}{e:aE}{a:Act}(F:bE Γ L e a){k:Nat}(m:Nat)(qx:Γ.w0.heap.size<=k\/Γ.own k)(dw:e.cl k=some 0)(ia:e.gr k=none)(dt:∀c,e.bx c≠some k):
 bE Γ L {e with cl:=λ j=>if j=k then some m else e.cl j} a/\Ends e {e with cl:=λ j=>if j=k then some m else e.cl j}:=by
 have Y:Ends e {e with cl:=λ j=>if j=k then some m else e.cl j}:=by
  refine⟨λ aP o v Fl hv=>⟨λ n hn=>?_,hv⟩,λ _ _ h=>h,λ _ aa h=>⟨aa,h,rfl,rfl,Nat.le_refl _⟩,λ j g aa cur h5 h6 h7=>⟨h5,cur,h7,rfl⟩⟩;have aW:aP≠k:=λ ae=>by subst ae;exact absurd (Fl 0 dw) (by omega)
  have lc:(if aP=k then some m else e.cl aP)=some n:=hn;rw[if_neg aW] at lc;exact Fl n lc
 refine⟨⟨F.size,F.df,λ t d ht=>(F.dj t d ht).next Y,λ aP ds K=>(F.boxes aP ds K).ends Y rfl,F.ee,F.gs,⟨F.env.kept,λ j hj ho=>?_,λ aP j hj=>?_,F.env.inj,λ j g hg=>?_,F.env.kb⟩⟩,Y⟩
 ·show(if j=k then some m else e.cl j)=_;rw[if_neg (λ ae=>by subst ae;rcases qx with u|u<;>first|omega|exact ho u)];exact F.env.cl j hj ho
 ·obtain⟨h5,h6,h7,h8⟩:=F.env.bx aP j hj;refine⟨h5,h6,?_,h8⟩;show(if j=k then some m else e.cl j)=_;rw[if_neg (λ ae=>dt aP (by rw[<-ae];exact hj))];exact h7
 ·obtain⟨aa,cur,h5,h6,h7,h8,h9⟩:=F.env.gr j g hg;refine⟨aa,cur,h5,h6,h7,?_,h9⟩;show(if j=k then some m else e.cl j)=_;rw[if_neg (λ ae=>by subst ae;rw[ia] at hg;cases hg)];exact h8
def Pl.lf:Pl->Bool
 |.raw v=>lF v
 |.sl ..=>true
theorem OM{e:aE}{v:Value}{x:Pl}(h:c5 e v x)(Z:x.lf=true):lF v=true:=by
 cases h with
 |raw v=>exact Z
 |sl=>rfl
theorem MC(t nm:Nat){n c:Nat}{cs:List I}(ps:List Pl)(ht:kv s t=some (.arr nm 0 n c))(hb:kv b nm=some cs)(dI:kv Γ.kb nm=none)(h3:lT (cH nm) s (λ ah=>mj (Nat.beq nm) (cH nm) b (λ aP=>some (ah,aP)))=some (ah,aP))
 (bV:cs.length=c)(qG:n<=c)(cG:ps.length=n)(mW:cs.take n=ps.map I.p)(mp:c<=maxLen)(vk:∀x∈ps,x.lf=true):eI Γ ⟨s,b,g⟩ ⟨(t,.p (.sl false n ps))::ah,aP,g⟩:=by
 rw[wh,wg] at h3;cases h3;intro a e F;have wH:=F.forget nm dI;have h1:=F.dj t _ ht;obtain⟨k,vs,el,u,J,h4⟩:=F.boxes nm cs hb;have iD:=F.env.bx nm k u;have dt:∀x,(e.cut (cH nm) λ _=>true).bx x≠some k:=λ x hx=>by
  have cX:(if cH nm x=true then e.bx x else none)=some k:=hx;split at cX
  ·rename_i aW;exact O6 aW (F.env.inj _ _ _ cX u)
  ·cases cX
 have wN:(e.cut (cH nm) λ _=>true).gr k=none:=by show(match e.gr k with|some g=>if true=true then some g else none|none=>none)=none;rw[iD.2.2.2]
 obtain⟨h5,Y⟩:=wH.zy n iD.2.1 iD.2.2.1 wN dt;refine⟨{e.cut (cH nm) (λ _=>true) with cl:=λ j=>if j=k then some n else(e.cut (cH nm) λ _=>true).cl j},rfl,h5.size,h5.df,λ aH d hu=>?_,h5.boxes,h5.ee,h5.gs,h5.env⟩;simp only[dc] at hu;split at hu
 ·rename_i l4;subst l4;cases hu;have cx:vs.length=c:=by rw[h4.1,bV]
  have cV:=Py h4 (by rw[cG];exact mW);generalize gH a t=v at h1;cases h1 with
  |arr hk=>
   rw[u] at hk;cases hk;refine .p (DT qG mp (λ h=>by cases h) (λ h=>by cases h) (.inr ⟨k,0,rfl,λ j=>vs.getD j undef,λ j x hx=>?_⟩));have hj:=(List.getElem?_eq_some_iff.1 hx).1;have fb:j<vs.length:=by omega
   have mP:vs.getD j undef=vs[j]:=by simp[fb]
   have hu:vs[j]?=some vs[j]:=List.getElem?_eq_getElem fb;have hr:=cV j _ x hu hx;show aE.nY _ k (0+j)/\World.cell? _ ⟨k,0+j,none⟩=some (vs.getD j undef)/\lF (vs.getD j undef)=true/\c5 _ (vs.getD j undef) x;rw[mP,Nat.zero_add];refine⟨λ q hq=>?_,?_,OM hr (vk x (List.mem_of_getElem? hx)),(hr.cut).next Y⟩
   ·have eO:(if k=k then some n else e.cl k)=some q:=hq;rw[if_pos rfl] at eO;cases eO;omega
   ·show e.w.cell? _=_;rw[cell_of_row e.w k j vs.toArray el (0,0) J,List.getElem?_toArray];exact hu
 ·exact h5.dj aH d hu
abbrev dU(m:Nat):I:=.p (.raw (.int .u64 m))
variable{S:Nat->Option I}{B:Nat->Option (List I)}
theorem akJ{n:Nat}(h:n<18446744073709551616):IntKind.u64.wrap (n:Int)=n:=by simp only[IntKind.wrap,IntKind.signed,IntKind.bits];simp;omega
def bn(m i:Nat):Nat:=(BitVec.ofNat 64 m&&&~~~BitVec.ofNat 64 (2^i)).toNat
theorem abg(m i j:Nat)(hm:m<18446744073709551616):(bn m i).testBit j=(m.testBit j&&!decide (i=j)):=by
 have h1:(bn m i).testBit j=(BitVec.ofNat 64 m&&&~~~BitVec.ofNat 64 (2^i)).getLsbD j:=rfl;rw[h1,BitVec.getLsbD_and,BitVec.getLsbD_not,BitVec.getLsbD_ofNat,BitVec.getLsbD_ofNat,Nat.testBit_two_pow]
 by_cases hj:j<64
 ·simp[hj]
 ·have:m.testBit j=false:=Nat.testBit_lt_two_pow (Nat.lt_of_lt_of_le hm (by have:=Nat.pow_le_pow_right (n:=2) (by omega) (show 64<=j by omega);omega));simp[hj,this]
end
end Go.Proofs.YtkkldicehapklaaGreat
end
section
namespace Go.Proofs.YtkkldicehapklaaGreat
open Go.RowKit
section
variable{P:Program}{aq:Nat->Option TI}{S:Nat->Option I}{B:Nat->Option (List I)}{o:Oper}
theorem lD(hT:dh P aq){t el:TypeId}{x y:Operand}{nm of n:Nat}{k:IntKind}{i:Int}{z1 z2:Nat}{z3:Value}{j:TI}(ho:o.op=.indexAddr t x y)(ht:aq t=some ⟨.array n el,z1,z2,z3⟩)(he:aq el=some j)
 (hx:ev S x=some (.ptr nm of))(hy:ev S y=some (.p (.raw (.int k i))))(h0:0<=i)(aY:i<n):dM P o S B (.ptr nm (of+i.toNat*j.sz)) none:=by
 refine jZ λ a e T=>?_
 have h1:=T.1 x (by rw[ho];simp[Op.operands]) _ hx;have u:=dg (T.1 y (by rw[ho];simp[Op.operands]) _ hy);generalize hv:a.eval x=vx at h1;cases h1 with
 |ptr hb=>
  rename_i kk;obtain⟨d0,ep,hk⟩:=hT.desc t _ ht;cases d0<;>simp only[km,reduceCtorEq,TK.array.injEq] at hk
  rw[hk.1,hk.2] at ep;refine⟨.pointer (some ⟨kk,of+i.toNat*j.sz,none⟩),?_,.ptr hb⟩;obtain⟨dst,op,type,pos,after,guard⟩:=o;simp only at ho;subst ho;simp[execOp,Instr.indexAt,Instr.sureAddr,u,hv,asIntOf,run_underlying ep,h0,aY,run_sizeOf hT he,qZ]
theorem EE{az dE:Type}:∀(n:Nat)(l:List dE)(k:List dE->Option az),n<=l.length->kW n l k=k (l.drop n)
 |0,l,k,_=>rfl
 |n+1,[],k,h=>by simp at h
 |n+1,x::l,k,h=>by rw[kW,EE n l k (by simpa using h)];rfl
theorem lG(hT:dh P aq){ty:TypeId}{x:Operand}{i:TI}{b of:Nat}{cs:List I}{d:I}(ho:o.op=.load ty x)(ht:aq ty=some i)(rC:i.k.agg=false)(hx:ev S x=some (.ptr b of))(hb:B b=some cs)(K:cs[of]?=some d):dM P o S B d none:=by refine uU hT ?_;obtain⟨h1,u⟩:=List.getElem?_eq_some_iff.1 K;rw[ho];simp only[ax,ht,hx,hb];rw[EE of cs _ (by omega),List.drop_eq_getElem_cons h1,u];simp[BB,rC]
end
end Go.Proofs.YtkkldicehapklaaGreat
end
section
namespace Go.Proofs.YtkkldicehapklaaGreat
open Go.RowKit
section
variable{P:Program}{aq:Nat->Option TI}{Γ:bX}{S:Nat->Option I}{B:Nat->Option (List I)}{o:Oper}{l0 l:List Oper}{Q:Exit->St->Prop}
variable{s:List (Nat×I)}{b:List (Nat×List I)}{g:List (Nat×Gr)}{t:Nat}
theorem ag1(z:Value)(n:Nat):madeCells #[z] n=(List.replicate n z).toArray:=by
 apply Array.ext
 ·simp[madeCells]
 ·intro j h1 u;simp[madeCells,Nat.mod_one]
theorem V6(hT:dh P aq)(nm:Nat){ty el:TypeId}{z1 z2:Nat}{z3:Value}{i:TI}{x y:Operand}{k iJ:IntKind}{n m:Int}{c:Nat}(ho:o.op=.makeSlice ty x y)(ht:aq ty=some ⟨.slice el,z1,z2,z3⟩)(dO:aq el=some i)(fm:Nat.beq i.sz 1=true)(yE:i.zero.cells=#[i.zero])
 (hx:ev S x=some (.p (.raw (.int k n))))(hy:ev S y=some (.p (.raw (.int iJ m))))(hn:n=c)(hm:m=c)(hb:c*i.bytes<=140737488355328)(gI:c<=maxLen):dM P o S B (.arr nm 0 c c) (some (nm,List.replicate c (qr i.zero))):=by
 subst hn;subst hm;intro a e T c6;have h1:=dg (T.1 x (by rw[ho];simp[Op.operands]) _ hx);have u:=dg (T.1 y (by rw[ho];simp[Op.operands]) _ hy);obtain⟨d0,ep,hk⟩:=hT.desc ty _ ht;cases d0<;>simp only[km,reduceCtorEq,TK.slice.injEq] at hk
 rw[hk] at ep;obtain⟨gO,nC,hsz,fQ,hz⟩:=hT.info _ i dO;have afq:=Nat.eq_of_beq_eq_true fm;have Iv:(gO.bytes:Int)*(c:Int)<=281474976710656:=by
  have:((c*i.bytes:Nat):Int)<=140737488355328:=by omega
  rw[Int.natCast_mul,Int.mul_comm] at this;rw[fQ];omega
 have cS:=run_make (P:=P) e.w ty el gO i.zero ep nC hz k iJ c c (Int.natCast_nonneg c) (by omega) Iv (by unfold maxLen at gI;omega);rw[Int.toNat_natCast,hsz,afq,Nat.mul_one,yE,ag1] at cS;unfold Oper.wp;have e1:(execOp a.eval o).run P e.w=.ok (.value (.slice (some ⟨e.w.heap.size,0,none⟩) c c)) (e.w.alloc (.cells (List.replicate c i.zero).toArray el)):=by obtain⟨dst,op,type,pos,after,guard⟩:=o;simp only at ho;subst ho;simp[execOp,h1,u,cS]
 rw[e1];have hg:=aE.v8 e (.cells (List.replicate c i.zero).toArray el) (some 0);have iT:(e.alloc (.cells (List.replicate c i.zero).toArray el) (some 0)).bx nm=none:=by rw[hg.bx];exact c6 _ rfl
 refine⟨_,(e.alloc (.cells (List.replicate c i.zero).toArray el) (some 0)).jr nm e.w.heap.size,rfl,rfl,_,e.w.heap.size,hg,Nat.le_refl _,by simp[aE.alloc],by simp[aE.alloc],rfl,⟨e.w.heap.size,List.replicate c i.zero,el,by simp[aE.jr],heap_alloc_new e.w _,?_⟩,.arr (by simp[aE.jr])⟩;refine⟨by simp,λ j v d hv K=>?_⟩;rw[List.getElem?_replicate] at hv K;split at hv
 ·rename_i hj;rw[if_pos hj] at K;cases hv;cases K;exact HV _ _
 ·cases hv
theorem Gc(hT:dh P aq){ty el:TypeId}{x y:Operand}{nm n c:Nat}{k:IntKind}{i:Int}{z1 z2:Nat}{z3:Value}{j:TI}{p:Nat}(ho:o.op=.indexAddr ty x y)(ht:aq ty=some ⟨.slice el,z1,z2,z3⟩)(he:aq el=some j)
 (hx:ev S x=some (.arr nm 0 n c))(hy:ev S y=some (.p (.raw (.int k i))))(h0:0<=i)(aY:i<n)(G:p=i.toNat*j.sz):dM P o S B (.ptr nm p) none:=by
 subst G;refine jZ λ a e T=>?_
 have h1:=T.1 x (by rw[ho];simp[Op.operands]) _ hx;have u:=dg (T.1 y (by rw[ho];simp[Op.operands]) _ hy);generalize hv:a.eval x=vx at h1;cases h1 with
 |arr hb=>
  rename_i kk;obtain⟨d0,ep,hk⟩:=hT.desc ty _ ht;cases d0<;>simp only[km,reduceCtorEq,TK.slice.injEq] at hk
  rw[hk] at ep;refine⟨.pointer (some ⟨kk,i.toNat*j.sz,none⟩),?_,.ptr hb⟩;obtain⟨dst,op,type,pos,after,guard⟩:=o;simp only at ho;subst ho;simp[execOp,Instr.indexAt,u,hv,asIntOf,run_underlying ep,h0,aY,run_sizeOf hT he,qZ]
theorem ake{cs:List I}{of:Nat}{d:I}(h:of<cs.length):stored cs of [d]=cs.set of d:=by unfold stored;rw[List.set_eq_take_append_cons_drop,if_pos h];simp
theorem sq(hT:dh P aq){ty:TypeId}{x y:Operand}{nm of:Nat}{cs:List I}{dy:I}{i:TI}(ho:o.op=.store ty x y)(K:o.dst=none)(ht:aq ty=some i)(fm:Nat.beq i.sz 1=true)(hx:ev (kv s) x=some (.ptr nm of))(hb:kv b nm=some cs)(hy:ev (kv s) y=some dy)
 (Z:dy.leaf=true)(hg:gd l0 o (kv s)=some true)(bL:of<cs.length)(h:bw P Γ l0 Q l ⟨s,(nm,cs.set of dy)::b,g⟩):bw P Γ l0 Q (o::l) ⟨s,b,g⟩:=by
 have F:dy.cells=[dy]:=by cases dy<;>first|rfl|cases Z
 have IM:vB dy=true:=by cases dy<;>first|exact Z|cases Z
 have wX:=QF (P:=P) (Γ:=Γ) (L:=⟨s,b,g⟩) hT ho K ht hx hb hy IM (by rw[F,Nat.eq_of_beq_eq_true fm];rfl) (by rw[F];exact bL);rw[F,ake bL] at wX;exact xN (L:=⟨s,b,g⟩) hg wX h
end
end Go.Proofs.YtkkldicehapklaaGreat
end
