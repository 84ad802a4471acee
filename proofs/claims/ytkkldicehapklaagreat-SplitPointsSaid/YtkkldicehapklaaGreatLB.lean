/- Contracts of functions that write, panic, recover; sets told by maps; how arguments are opened. -/
import Derived.Test.YtkkldicehapklaaGreatLA
import Derived.Recover
import Derived.MapKept
import Derived.ChangeKeysEq
import Derived.Test.YtkkldicehapklaaGreatRows
section
namespace Go.Proofs.YtkkldicehapklaaGreat
open Go.Proofs.Tryz
open Go.RowKit
section
variable{P:Program}{aq:Nat->Option TI}{Γ:bX}{L:St}
def oG:I->I
 |.bP _ n ps=>.p (.sl false n ps)
 |.p x=>.p (Gs x)
 |d=>d
theorem OX{e:aE}{v:Value}{d:I}(h:bC e v d):bC e v (oG d):=by
 cases h with
 |p h=>exact .p h.low
 |bP h _=>exact .p h
 |agg Z h=>exact .agg Z h
 |ca Z h=>exact .ca Z h
 |ptr h=>exact .ptr h
 |el h=>exact .el h
 |arr h=>exact .arr h
 |fn a b c d=>exact .fn a b c d
 |any=>exact .any
theorem VX(t:Nat){d eo:I}(ht:kv L.s t=some d)(K:oG d=eo):eI Γ L ⟨(t,eo)::L.s,L.b,L.g⟩:=by
 intro a e F;refine⟨e,rfl,F.size,F.df,λ aH c hu=>?_,F.boxes,F.ee,F.gs,F.env⟩;simp only[dc] at hu;split at hu
 ·rename_i l4;subst l4;cases hu;rw[<-K];exact OX (F.dj _ _ ht)
 ·exact F.dj aH c hu
theorem vE(nm:Nat){cs aZ:List I}(hb:kv L.b nm=some cs)(K:cs.map oG=aZ):eI Γ L ⟨L.s,(nm,aZ)::L.b,L.g⟩:=by
 intro a e F;refine⟨e,rfl,F.size,F.df,F.dj,λ aH c hu=>?_,λ aH hu=>?_,F.gs,F.env⟩
 ·simp only[dc] at hu;split at hu
  ·rename_i l4;subst l4;cases hu;obtain⟨k,vs,el,h1,u,J,h4⟩:=F.boxes _ _ hb;refine⟨k,vs,el,h1,u,by rw[<-K,List.length_map];exact J,λ i v d hv fC=>?_⟩;rw[<-K,List.getElem?_map] at fC;cases bV:cs[i]? with
   |none=>rw[bV] at fC;cases fC
   |some x=>rw[bV] at fC;cases fC;exact OX (h4 i v x hv bV)
  ·exact F.boxes aH c hu
 ·simp only[dc] at hu;split at hu
  ·cases hu
  ·exact F.ee aH hu
end
end Go.Proofs.YtkkldicehapklaaGreat
end
section
namespace Go.Proofs.YtkkldicehapklaaGreat
open Go.Proofs.Tryz
open Go.RowKit
section
variable{P:Program}{aq:Nat->Option TI}{Γ:bX}{L bQ bu:St}{o:Oper}{l0 l:List Oper}{Q:Exit->St->Prop}
variable{s ah:List (Nat×I)}{b aP:List (Nat×List I)}{g:List (Nat×Gr)}{t:Nat}{d:I}
abbrev pe(v:Value):PanicEntry:={v:=v,recovered:=false}
abbrev cn:=List (Nat×List I)
def jt(P:Program)(f:FuncId)(bc:List Nat)(ds:List I)(bs:cn)(ap:I->cn->Prop)(X:Value->cn->Prop):Prop:=
 ∀(e:aE)(vs:List Value),iW bs e->DReps e vs ds->
  Calls P f vs.toArray e.w (λ r aA=>(∃v d ay ae,r=.returned v/\ae.w=aA/\ap d ay/\iW ay ae/\bC ae v d/\Left bc e ae)\/∃v ay ae,r=.panicked [pe v]/\ae.w=aA/\X v ay/\iW ay ae/\Left bc e ae)
theorem gt.x{f:FuncId}{bc:List Nat}{ds:List I}{bs:cn}{ap:I->cn->Prop}{X:Value->cn->Prop}(h:gt P f bc ds bs ap):jt P f bc ds bs ap X:=λ e vs h1 u=>(h e vs h1 u).mono λ _ _ hh=>.inl hh
theorem jt.c{f:FuncId}{bc:List Nat}{ds:List I}{bs:cn}{ap:I->cn->Prop}(h:jt P f bc ds bs ap λ _ _=>False):gt P f bc ds bs ap:=λ e vs h1 u=>(h e vs h1 u).mono λ _ _ hh=>hh.elim id λ⟨_,_,_,_,_,hx,_⟩=>hx.elim
theorem Vj{f:FuncId}{bc:List Nat}{ds:List I}{bs:cn}{ap:I->cn->Prop}{X:Value->cn->Prop}(hC:jt P f bc ds bs ap X){e:aE}{a:Act}(F:bE Γ ⟨s,b,g⟩ e a){vs:List Value}(hv:DReps e vs ds)(aV:I.ok.fy (aL bs) (λ _=>false) ds=true)(T:jQ ⟨s,b,g⟩ (aL bs) bs)(dI:tn bc bs Γ.kb)
 (K:o.dst=some t)(Z:Nat.blt t Γ.n=true)(h3:lT (λ b=>!aL bs b||iI bc b) s (λ ah=>mj (aL bs) (λ b=>!aL bs b||iI bc b) b (λ aP=>some (ah,aP)))=some (ah,aP))
 (dt:∀d ay,ap d ay->kq bs b ay)(rD:∀v ay,X v ay->kq bs b ay){jB:Exit->Act->World->Prop}:
 Calls P f vs.toArray e.w λ
  |.returned v,nU=>∃d ay ae,ap d ay/\ae.w=nU/\bE Γ ⟨(t,d)::ah,ay++aP,g⟩ ae (a.put o.dst v)
  |.panicked ch,nU=>∃v ay ae,ch=[pe v]/\X v ay/\ae.w=nU/\bE Γ ⟨ah,ay++aP,g⟩ ae a
  |.outgrown,_=>LetsOut jB:=by
 rw[wh,wg] at h3;cases h3;refine(hC (e.cut (aL bs) λ _=>false) vs (rg F T) ⟨hv.1,λ i v d h1 u=>(hv.2 i v d h1 u).cut (rZ aV u)⟩).mono λ r aA hh=>?_
 rcases hh with⟨v,d,ay,ae,rfl,rfl,hR,hI,hr,hL⟩|⟨v,ay,ae,rfl,rfl,hX,hI,hL⟩
 ·obtain⟨h1,u⟩:=F.after hI hL (λ n hn=>(dt d ay hR).get hn) (λ n k h1 u=>dI.get h1 u);refine⟨d,ay,e.after ae bs ay,hR,rfl,?_⟩;have:=h1.put (dst:=o.dst) (rl K Z) (hr.next u);rw[K] at this⊢;exact this
 ·obtain⟨h1,_⟩:=F.after hI hL (λ n hn=>(rD v ay hX).get hn) (λ n k h1 u=>dI.get h1 u);exact⟨v,ay,e.after ae bs ay,rfl,hX,rfl,h1⟩
theorem RL{f:FuncId}{ap:I->cn->Prop}{X:Value->cn->Prop}(hg:gd l0 o (kv s)=some true)(cS:∀(a:Act)(e:aE),bE Γ ⟨s,b,g⟩ e a->∃vs:List Value,(execOp a.eval o).run P e.w=.ok (.enter f vs.toArray) e.w/\∀jB:Exit->Act->World->Prop,Calls P f vs.toArray e.w λ
 |.returned v,nU=>∃d ay ae,ap d ay/\ae.w=nU/\bE Γ ⟨(t,d)::ah,ay++aP,g⟩ ae (a.put o.dst v)
 |.panicked ch,nU=>∃v ay ae,ch=[pe v]/\X v ay/\ae.w=nU/\bE Γ ⟨ah,ay++aP,g⟩ ae a
 |.outgrown,_=>LetsOut jB)
 (h:∀d ay,ap d ay->bw P Γ l0 Q l ⟨(t,d)::ah,ay++aP,g⟩)(hx:∀v ay,X v ay->Q (.panic [pe v]) ⟨ah,ay++aP,g⟩):bw P Γ l0 Q (o::l) ⟨s,b,g⟩:=by
 refine⟨λ a e F=>?_⟩;unfold wpList;rw[if_pos (mm F hg)];refine .inl ?_;obtain⟨vs,e1,hC⟩:=cS a e F;unfold Oper.wp;rw[e1];refine(hC (jP Γ Q)).mono λ r aA hh=>?_
 cases r with
 |returned v=>obtain⟨d,ay,ae,hR,rfl,d4⟩:=hh;exact(h d ay hR).run _ ae d4
 |panicked ch=>obtain⟨v,ay,ae,rfl,hX,rfl,d4⟩:=hh;exact⟨_,ae,rfl,d4,hx v ay hX⟩
 |outgrown=>exact hh
theorem ZI{f:FuncId}{bc:List Nat}{ds:List I}{bs:cn}{ap:I->cn->Prop}{X:Value->cn->Prop}{xs:List Operand}{fa:Array TypeId}(hC:jt P f bc ds bs ap X)(ho:o.op=.call {callee:=.value (.func f),args:=xs.toArray,argTypes:=fa})(hf:jM P f)(he:i3 (kv s) xs some=some ds)(aV:I.ok.fy (aL bs) (λ _=>false) ds=true)(T:jQ ⟨s,b,g⟩ (aL bs) bs)(dI:tn bc bs Γ.kb)
 (hg:gd l0 o (kv s)=some true)(K:o.dst=some t)(Z:Nat.blt t Γ.n=true)(h3:lT (λ b=>!aL bs b||iI bc b) s (λ ah=>mj (aL bs) (λ b=>!aL bs b||iI bc b) b (λ aP=>some (ah,aP)))=some (ah,aP))
 (dt:∀d ay,ap d ay->kq bs b ay)(rD:∀v ay,X v ay->kq bs b ay)(hx:∀v ay,X v ay->Q (.panic [pe v]) ⟨ah,ay++aP,g⟩)(h:∀d ay,ap d ay->bw P Γ l0 Q l ⟨(t,d)::ah,ay++aP,g⟩):bw P Γ l0 Q (o::l) ⟨s,b,g⟩:=by
 refine RL (f:=f) hg (λ a e F=>?_) h hx;have jG:=F.jd o.op.operands;have hv:=EK (a:=a) (e:=e) xs (λ x hx=>jG.1 x (by rw[ho];simp[Op.operands,Call.operands,hx])) he;refine⟨xs.map a.eval,?_,λ jB=>Vj hC F hv aV T dI K Z h3 dt rD⟩;obtain⟨dst,op,type,pos,after,guard⟩:=o;simp only at ho;subst ho;rw[execOp_call_go,hf];simp
theorem Rd{f:FuncId}{bc:List Nat}{ds first dX:List I}{bs:cn}{ap:I->cn->Prop}{X:Value->cn->Prop}{fo:Operand}{xs:List Operand}{fa:Array TypeId}(hC:jt P f bc ds bs ap X)(ho:o.op=.call {callee:=.value fo,args:=xs.toArray,argTypes:=fa})(hf:jM P f)(wG:ev (kv s) fo=some (.fn (.func f) first dX))(he:i3 (kv s) xs (λ jv=>ng first jv λ r=>ng r dX some)=some ds)(aV:I.ok.fy (aL bs) (λ _=>false) ds=true)(T:jQ ⟨s,b,g⟩ (aL bs) bs)(dI:tn bc bs Γ.kb)
 (hg:gd l0 o (kv s)=some true)(K:o.dst=some t)(Z:Nat.blt t Γ.n=true)(h3:lT (λ b=>!aL bs b||iI bc b) s (λ ah=>mj (aL bs) (λ b=>!aL bs b||iI bc b) b (λ aP=>some (ah,aP)))=some (ah,aP))
 (dt:∀d ay,ap d ay->kq bs b ay)(rD:∀v ay,X v ay->kq bs b ay)(hx:∀v ay,X v ay->Q (.panic [pe v]) ⟨ah,ay++aP,g⟩)(h:∀d ay,ap d ay->bw P Γ l0 Q l ⟨(t,d)::ah,ay++aP,g⟩):bw P Γ l0 Q (o::l) ⟨s,b,g⟩:=by
 refine RL (f:=f) hg (λ a e F=>?_) h hx;have jG:=F.jd o.op.operands;obtain⟨jv,hr,ol⟩:=tG (a:=a) (e:=e) xs _ ds (λ x hx=>jG.1 x (by rw[ho];simp[Op.operands,Call.operands,hx])) he;rw[sr,sr] at ol;cases ol;have yl:=jG.1 fo (by rw[ho];simp[Op.operands,Call.operands]) _ wG;generalize c8:a.eval fo=gv at yl;cases yl with
 |fn fS eV h1 u=>rename_i us vs;have dH:DReps e (us++xs.map a.eval++vs) (first++jv++dX):=(DReps.append ⟨fS,h1⟩ hr).append ⟨eV,u⟩;refine⟨us++xs.map a.eval++vs,?_,λ jB=>Vj hC F dH aV T dI K Z h3 dt rD⟩;obtain⟨dst,op,type,pos,after,guard⟩:=o;simp only at ho;subst ho;simp only[execOp,resolve,c8,Deferred.ofValue,Sem.run_bind,Sem.run_pure,Result.andThen_ok,invoke];rw[hf];simp
def zd(aq:Nat->Option TI)(rs:List ResultVar)(bc:List Nat)(ap:I->cn->Prop)(X:Value->cn->Prop):Exit->St->Prop
 |.normal,L|.ret,L=>∃d ay,vR aq L rs=some d/\d.ok (aL ay) (λ _=>false)=true/\jQ L (aL ay) ay/\ku ay bc/\ap d ay
 |.panic ch,L=>∃v ay,ch=[pe v]/\jQ L (aL ay) ay/\ku ay bc/\X v ay
 |_,_=>False
theorem acE{rs:List ResultVar}{bc:List Nat}{ap:I->cn->Prop}{X:Value->cn->Prop}(ay:cn)(h:vR aq L rs=some d)(h1:d.ok (aL ay) (λ _=>false)=true)(u:jQ L (aL ay) ay)(J:ku ay bc)(hR:ap d ay):zd aq rs bc ap X .ret L:=⟨d,ay,h,h1,u,J,hR⟩
theorem acC{rs:List ResultVar}{bc:List Nat}{ap:I->cn->Prop}{X:Value->cn->Prop}(ay:cn)(h:vR aq L rs=some d)(h1:d.ok (aL ay) (λ _=>false)=true)(u:jQ L (aL ay) ay)(J:ku ay bc)(hR:ap d ay):zd aq rs bc ap X .normal L:=⟨d,ay,h,h1,u,J,hR⟩
theorem acD{rs:List ResultVar}{bc:List Nat}{ap:I->cn->Prop}{X:Value->cn->Prop}{v:Value}(ay:cn)(u:jQ L (aL ay) ay)(J:ku ay bc)(hX:X v ay):zd aq rs bc ap X (.panic [pe v]) L:=⟨v,ay,rfl,u,J,hX⟩
theorem ai0{aB:St->Prop}{ch:List PanicEntry}(h:Q (.panic ch) L):uK aB Q (.panic ch) L:=h
theorem aiW{id:Nat}{ch:List PanicEntry}(h:Q (.panic ch) L):re id Q (.panic ch) L:=h
theorem aiZ{ch:List PanicEntry}(h:Q (.panic ch) L):DO Q (.panic ch) L:=h
theorem Gb{f:FuncId}{fn:Func}{ds:List I}{bc:List Nat}{bs:cn}(dn:List Deferred)(hn:ds.length<=fn.ntmps)(o9:ku bs bc){e:aE}{vs:List Value}(hI:iW bs e)(hv:DReps e vs ds)(_:f=f):
 bE ⟨fn.ntmps,e.w,e.cl,λ k=>∃b,e.bx b=some k,mz (λ b=>(e.bx b).getD 0) bc,dn⟩ ⟨wn.go 0 ds,bs,[]⟩ e {tmps:=vs.toArray++Array.replicate (fn.ntmps-vs.toArray.size) undef,defers:=dn}:=by
 have Z:vs.length=ds.length:=hv.1;refine⟨by simp;omega,rfl,λ t d0 ht=>?_,hI.boxes,hI.ee,λ g=>by rw[hI.gi];rfl,⟨oN.refl _ _,λ _ _ _=>rfl,λ b k hk=>⟨(hI.bx b k hk).1,.inr ⟨b,hk⟩,(hI.bx b k hk).2,hI.gr k⟩,hI.inj,λ k g hk=>(by rw[hI.gr] at hk;cases hk),λ b k hk=>?_⟩⟩
 ·obtain⟨_,u⟩:=EI ds 0 t d0 ht;simp only[Nat.sub_zero] at u;obtain⟨v,J,h4⟩:=hv.get u;have iG:t<vs.length:=(List.getElem?_eq_some_iff.1 J).1;have:gH {tmps:=vs.toArray++Array.replicate (fn.ntmps-vs.toArray.size) undef,defers:=dn} t=v:=by
   unfold gH;simp only[Array.getD_eq_getD_getElem?];rw[Array.getElem?_append_left (by simpa using iG),List.getElem?_toArray,J]
   rfl
  rw[this];exact h4
 ·obtain⟨h1,u⟩:=Df hk;rw[u];have bB:=o9.get h1;obtain⟨cs,bV⟩:=Option.isSome_iff_exists.1 bB;obtain⟨iJ,_,_,J,_⟩:=hI.boxes b cs bV;rw[J];rfl
theorem imp_left{bc:List Nat}{bs ay:cn}{n:Nat}{dn:List Deferred}{e ae:aE}{a:Act}(hI:iW bs e)(o9:ku bs bc)(F:bE ⟨n,e.w,e.cl,λ k=>∃b,e.bx b=some k,mz (λ b=>(e.bx b).getD 0) bc,dn⟩ L ae a)(h7:ku ay bc):Left bc e (ae.cut (aL ay) λ _=>false):=by
 refine⟨F.env.kept,F.env.cl,λ b k hk=>?_,λ b hb=>?_⟩
 ·have cg:(if aL ay b=true then ae.bx b else none)=some k:=hk;split at cg
  ·exact(F.env.bx b k cg).2.1
  ·cases cg
 ·show(if aL ay b=true then ae.bx b else none)=_;have bB:=o9.get hb;obtain⟨cs,bV⟩:=Option.isSome_iff_exists.1 bB;obtain⟨iJ,_,_,J,_⟩:=hI.boxes b cs bV;rw[if_pos (h7.get hb),F.env.kb b _ (Bv hb),J];rfl
theorem af0(hT:dh P aq){f:FuncId}{fn:Func}{c:Code}{ds:List I}{bc:List Nat}{bs:cn}{ap:I->cn->Prop}{X:Value->cn->Prop}{rs:List ResultVar}{n:Nat}{s:List (Nat×I)}(hf:P.funcs[f]?=some fn)(hb:fn.body=some c)(gL:fn.ntmps=n)(mx:fn.results.toList=rs)(hn:Nat.ble ds.length n=true)(T:tF 0 ds some=some s)(o9:ku bs bc)
 (h:∀w cl own kf,a8 P ⟨n,w,cl,own,mz kf bc,[]⟩ c (zd aq rs bc ap X) ⟨s,bs,[]⟩):jt P f bc ds bs ap X:=by
 subst gL;subst mx;rw[Cz] at T;cases T;have hn:=Nat.le_of_ble_eq_true hn;intro e vs hI hv;refine calls_of_wp hf hb ?_;have F:=Gb (fn:=fn) (f:=f) (bc:=bc) [] hn o9 hI hv rfl;refine Code.wp_mono (λ ex bF aA hh=>?_) ((h e.w e.cl _ _).run _ e F);obtain⟨bQ,ae,rfl,u,J⟩:=hh;have um:(∃d ay,vR aq bQ fn.results.toList=some d/\d.ok (aL ay) (λ _=>false)=true/\jQ bQ (aL ay) ay/\ku ay bc/\ap d ay)->bF.defers=[]/\∃v,(results fn bF.tmps).run P ae.w=.ok v ae.w/\((∃gU d ay n5,Ending.returned v=.returned gU/\n5.w=ae.w/\ap d ay/\iW ay n5/\bC n5 gU d/\Left bc e n5)\/∃gU ay n5,Ending.returned v=.panicked [pe gU]/\n5.w=ae.w/\X gU ay/\iW ay n5/\Left bc e n5):=by rintro⟨d,ay,h4,h5,h6,h7,h8⟩;obtain⟨v,hr,hv⟩:=BU hT u h4;exact⟨u.df,v,hr,.inl ⟨v,d,ay,ae.cut (aL ay) λ _=>false,rfl,rfl,h8,rg u h6,hv.cut h5,imp_left hI o9 u h7⟩⟩
 cases ex with
 |normal=>exact um J
 |ret=>exact um J
 |panic ch=>obtain⟨v,ay,rfl,h6,h7,h8⟩:=J;exact⟨u.df,.inr ⟨v,ay,ae.cut (aL ay) λ _=>false,rfl,rfl,h8,rg u h6,imp_left hI o9 u h7⟩⟩
 |exit id=>exact J.elim
 |goto l=>exact J.elim
 |outgrown=>exact J.elim
def DI:I->Option Value
 |.p (.raw v)=>some v
 |_=>none
def BR{az:Type}:List I->(List Value->Option az)->Option az
 |[],k=>k []
 |d::l,k=>match DI d with
  |some v=>BR l λ r=>k (v::r)
  |none=>none
def G3:I->Option Value
 |.agg ds=>BR ds λ vs=>some (.agg vs.toArray)
 |d=>DI d
theorem PP{e:aE}{v aH:Value}{d:I}(h:bC e v d)(K:DI d=some aH):v=aH:=by
 unfold DI at K;split at K
 ·cases K;exact dg h
 ·cases K
theorem Xu{az:Type}{e:aE}:∀{ds:List I}{vs:List Value}{k:List Value->Option az}{r:az},DReps e vs ds->BR ds k=some r->k vs=some r
 |[],vs,k,r,hv,h=>by
  have:vs=[]:=List.eq_nil_of_length_eq_zero hv.1;subst this;exact h
 |d::ds,vs,k,r,hv,h=>by
  obtain⟨v,fu,rfl,h1,u⟩:=hv.y6;simp only[BR] at h;split at h
  ·rename_i aH hu;have:=PP h1 hu;subst this;exact Xu (k:=λ r=>k (v::r)) u h
  ·cases h
theorem ai7{e:aE}{v aH:Value}{d:I}(h:bC e v d)(K:G3 d=some aH):v=aH:=by
 unfold G3 at K;split at K
 ·cases h with
  |agg Z hh=>rename_i vs;have:=Xu (e:=e) (vs:=vs) ⟨Z,hh⟩ K;cases this;rfl
 ·exact PP h K
def TK.known:TK->Bool
 |.other=>false
 |_=>true
theorem Vv(hT:dh P aq){ty:TypeId}{i:TI}(ht:aq ty=some i)(hk:i.k.known=true):∃dd,P.underlying ty=some dd/\∀ms,dd≠.interface ms:=by obtain⟨dd,h1,u⟩:=hT.desc ty i ht;refine⟨dd,h1,λ ms e=>?_⟩;subst e;rw[<-u] at hk;cases hk
theorem Oq(hT:dh P aq){S:Nat->Option I}{B:Nat->Option (List I)}{ty:TypeId}{x:Operand}{i:TI}{dx:I}{v:Value}(ho:o.op=.makeInterface ty x)(ht:aq ty=some i)(hk:i.k.known=true)(hx:ev S x=some dx)(hv:G3 dx=some v):dM P o S B (.p (.raw (.iface ty v))) none:=by
 refine jZ λ a e T=>⟨_,?_,.p (.raw _)⟩
 have di:=ai7 (T.1 x (by rw[ho];simp[Op.operands]) _ hx) hv;obtain⟨dd,h1,u⟩:=Vv hT ht hk;obtain⟨dst,op,type,pos,after,guard⟩:=o;simp only at ho;subst ho;simp only[execOp,Instr.makeInterface,Sem.run_bind,run_underlying h1,Result.andThen_ok,di];cases dd with
 |interface ms=>exact absurd rfl (u ms)
 |_=>rfl
theorem Lm{x:Operand}{ty:TypeId}{v:Value}(ho:o.op=.panic x)(hx:ev (kv s) x=some (.p (.raw (.iface ty v))))(hg:gd l0 o (kv s)=some true)(h:Q (.panic [pe (.iface ty v)]) ⟨s,b,g⟩):bw P Γ l0 Q (o::l) ⟨s,b,g⟩:=by
 refine⟨λ a e F=>?_⟩;unfold wpList;rw[if_pos (mm F hg)];refine .inl ?_;have di:=SG F hx;have e1:(execOp a.eval o).run P e.w=.halt (.panic (.iface ty v)) e.w:=by
  obtain⟨dst,op,type,pos,after,guard⟩:=o;simp only at ho;subst ho;simp only[execOp,Instr.panic,di]
  rfl
 unfold Oper.wp;rw[e1];exact⟨_,e,rfl,F,h⟩
end
end Go.Proofs.YtkkldicehapklaaGreat
end
section
namespace Go.Proofs.YtkkldicehapklaaGreat
open Go.Proofs.Tryz
open Go.RowKit
section
variable{P:Program}{aq:Nat->Option TI}{Γ:bX}{S:Nat->Option I}{B:Nat->Option (List I)}{o:Oper}
def J9{az:Type}:List I->(List Pl->Option az)->Option az
 |.p x::l,k=>bif x.lf then J9 l λ r=>k (x::r) else k []
 |_,k=>k []
theorem W8{az:Type}:∀{l:List I}{k:List Pl->Option az}{r:az},J9 l k=some r->∃ps,k ps=some r/\∀(i:Nat) x,ps[i]?=some x->l[i]?=some (.p x)/\x.lf=true
 |[],k,r,h=>⟨[],h,λ i x hx=>by simp at hx⟩
 |d::l,k,r,h=>by
  cases d with
  |p x=>
   simp only[J9] at h;cases hx:x.lf with
   |false=>rw[hx] at h;exact⟨[],h,λ i x hx=>by simp at hx⟩
   |true=>
    rw[hx] at h;obtain⟨ps,h1,u⟩:=W8 (l:=l) (k:=λ r=>k (x::r)) h;refine⟨x::ps,h1,λ i y hy=>?_⟩;cases i with
    |zero=>simp at hy;subst hy;exact⟨rfl,hx⟩
    |succ i=>simpa using u i y (by simpa using hy)
  |_=>exact⟨[],h,λ i x hx=>by simp at hx⟩
def Ju{az:Type}(B:Nat->Option (List I))(d:I)(k:I->Option az):Option az:=match d with
 |.ptr b o=>match B b with
  |some cs=>kW o cs λ r=>J9 r λ ps=>k (.el ps)
  |none=>none
 |d=>d.uv k
def Jv{az:Type}(B:Nat->Option (List I)):List I->(List I->Option az)->Option az
 |[],k=>k []
 |d::l,k=>Ju B d λ x=>Jv B l λ r=>k (x::r)
def OL{az:Type}(B:Nat->Option (List I))(d:I)(k:I->Option az):Option az:=match d with
 |.fn f first dX=>Jv B first λ a=>Jv B dX λ c=>k (.fn f a c)
 |d=>Ju B d k
def Gn{az:Type}(B:Nat->Option (List I)):List I->(List I->Option az)->Option az
 |[],k=>k []
 |d::l,k=>OL B d λ x=>Gn B l λ r=>k (x::r)
open Classical in
noncomputable def aE.oD(e:aE):Nat->Option Nat:=λ k=>if∃b,e.bx b=some k then none else e.cl k
theorem VM{e:aE}{b o:Nat}(h:e.nY b o):(hl e.w e.oD).nY b o:=by
 intro k hk;have cg:e.oD b=some k:=hk;unfold aE.oD at cg;split at cg
 ·cases cg
 ·exact h k cg
theorem agy{e:aE}{b k o:Nat}(h:e.bx b=some k):(hl e.w e.oD).nY k o:=by intro m hm;have mu:e.oD k=some m:=hm;unfold aE.oD at mu;rw[if_pos ⟨b,h⟩] at mu;cases mu
theorem c5.oD{e:aE}{v:Value}{x:Pl}(h:c5 e v x):c5 (hl e.w e.oD) v x:=by
 induction h with
 |raw v=>exact .raw v
 |sl f h1 u J h4 h5 h6 ih=>refine .sl f h1 u J h4 (λ i x hx=>?_) ih;obtain⟨b,o,hA,F,hv,Z⟩:=h5 i x hx;exact⟨b,o,hA,VM F,hv,Z⟩
theorem agz(e:aE):Ends (hl e.w e.cl) (hl e.w e.oD):=
 ⟨λ b o v h1 u=>⟨VM (e:=e) h1,u⟩,λ _ _ h=>(by cases h),λ _ _ h=>(by cases h),λ _ _ _ _ h=>(by cases h)⟩
theorem VJ{az:Type}{e:aE}(hB:∀b cs,B b=some cs->ij e b cs){v:Value}{d:I}{k:I->Option az}{r:az}(h:bC e v d)(hk:Ju B d k=some r):∃eo,bC (hl e.w e.oD) v eo/\k eo=some r:=by
 have C1:d.uv k=some r->∃eo,bC (hl e.w e.oD) v eo/\k eo=some r:=λ hk=>by
  rw[Jx] at hk;obtain⟨eo,h1,u⟩:=Option.bind_eq_some_iff.1 hk;exact⟨eo,(Jy h eo h1).next (agz e),u⟩
 unfold Ju at hk;split at hk
 ·rename_i nm of;split at hk
  ·rename_i cs bV;obtain⟨h1,u⟩:=n4 hk;obtain⟨ps,J,h4⟩:=W8 u;refine⟨.el ps,?_,J⟩;cases h with
   |ptr iD=>
    obtain⟨kk,vs,el,b1,b2,b3⟩:=hB nm cs bV;rw[iD] at b1;cases b1;refine .el ⟨λ i=>(vs[of+i]?).getD undef,λ i x hx=>?_⟩;obtain⟨h5,h6⟩:=h4 i x hx;rw[List.getElem?_drop] at h5;obtain⟨aH,h7,h8⟩:=b3.get h5;have G:c5 e aH x:=by cases h8 with|p h=>exact h
    have hg:(vs[of+i]?).getD undef=aH:=by rw[h7];rfl
    refine⟨agy iD,?_,?_,?_⟩
    ·show e.w.cell? _=some ((vs[of+i]?).getD undef);rw[cell_of_row e.w _ (of+i) _ el (0,0) b2,List.getElem?_toArray,hg,h7]
    ·show lF ((vs[of+i]?).getD undef)=true;rw[hg];exact OM G h6
    ·show c5 _ ((vs[of+i]?).getD undef) x;rw[hg];exact G.oD
  ·cases hk
 ·exact C1 hk
theorem OK{az:Type}{e:aE}(hB:∀b cs,B b=some cs->ij e b cs):∀{ds:List I}{vs:List Value}{k:List I->Option az}{r:az},DReps e vs ds->Jv B ds k=some r->∃iR,DReps (hl e.w e.oD) vs iR/\k iR=some r
 |[],vs,k,r,h,hk=>by
  have:vs=[]:=List.eq_nil_of_length_eq_zero h.1;subst this;exact⟨[],DReps.nil _,hk⟩
 |d::ds,vs,k,r,h,hk=>by
  obtain⟨v,fu,rfl,h1,u⟩:=h.y6;obtain⟨eo,q1,q2⟩:=VJ hB h1 hk;obtain⟨iR,q3,q4⟩:=OK hB u q2;exact⟨eo::iR,q3.cons q1,q4⟩
theorem agx{az:Type}{e:aE}(hB:∀b cs,B b=some cs->ij e b cs){v:Value}{d:I}{k:I->Option az}{r:az}(h:bC e v d)(hk:OL B d k=some r):∃eo,bC (hl e.w e.oD) v eo/\k eo=some r:=by
 unfold OL at hk;split at hk
 ·cases h with
  |fn a1 a2 a3 a4=>rename_i us vs;obtain⟨iR,q1,q2⟩:=OK hB (vs:=us) ⟨a1,a3⟩ hk;obtain⟨aZ,q3,q4⟩:=OK hB (vs:=vs) ⟨a2,a4⟩ q2;exact⟨_,.fn q1.1 q3.1 q1.2 q3.2,q4⟩
 ·exact VJ hB h hk
theorem VL{az:Type}{e:aE}(hB:∀b cs,B b=some cs->ij e b cs):∀{ds:List I}{vs:List Value}{k:List I->Option az}{r:az},DReps e vs ds->Gn B ds k=some r->∃iR,DReps (hl e.w e.oD) vs iR/\k iR=some r
 |[],vs,k,r,h,hk=>by
  have:vs=[]:=List.eq_nil_of_length_eq_zero h.1;subst this;exact⟨[],DReps.nil _,hk⟩
 |d::ds,vs,k,r,h,hk=>by
  obtain⟨v,fu,rfl,h1,u⟩:=h.y6;obtain⟨eo,q1,q2⟩:=agx hB h1 hk;obtain⟨iR,q3,q4⟩:=VL hB u q2;exact⟨eo::iR,q3.cons q1,q4⟩
def DH:I->Bool
 |.ca ds=>(BR ds λ _=>some ()).isSome
 |d=>(G3 d).isSome
theorem PQ{az:Type}{e ae:aE}:∀{ds:List I}{vs:List Value}{k:List Value->Option az}{r:az},DReps e vs ds->BR ds k=some r->DReps ae vs ds
 |[],vs,k,r,h,_=>by
  have:vs=[]:=List.eq_nil_of_length_eq_zero h.1;subst this;exact DReps.nil _
 |d::ds,vs,k,r,h,hk=>by
  obtain⟨v,fu,rfl,h1,u⟩:=h.y6;simp only[BR] at hk;split at hk
  ·rename_i aH hu;refine(PQ u hk).cons ?_;unfold DI at hu;split at hu
   ·cases hu;rw[dg h1];exact .p (.raw _)
   ·cases hu
  ·cases hk
theorem ai6{e ae:aE}{v:Value}{d:I}(h:bC e v d)(K:DH d=true):bC ae v d:=by
 unfold DH at K;split at K
 ·obtain⟨r,hr⟩:=Option.isSome_iff_exists.1 K;cases h with
  |ca Z hh=>exact .ca Z (PQ (e:=e) ⟨Z,hh⟩ hr).2
 ·obtain⟨aH,hu⟩:=Option.isSome_iff_exists.1 K;unfold G3 at hu;split at hu
  ·cases h with
   |agg Z hh=>exact .agg Z (PQ (e:=e) ⟨Z,hh⟩ hu).2
  ·have:=PP h hu;subst this;unfold DI at hu;split at hu
   ·cases hu;exact .p (.raw _)
   ·cases hu
theorem agw{f:FuncId}{ds:List I}{d:I}(hC:bH P f ds d)(K:DH d=true){e:aE}{vs:List Value}(hv:DReps (hl e.w e.oD) vs ds){a:Act}{o:Oper}:
 Calls P f vs.toArray e.w λ
  |.returned v,nU=>∃gU ae,a.put o.dst v=a.put o.dst gU/\ae.w=nU/\pC e ae gU d none
  |.panicked _,_=>False
  |.outgrown,_=>LetsOut (λ _ _ _=>False):=by
 refine(hC e.w e.oD vs hv).mono λ r aA hh=>?_
 obtain⟨v,bI,rfl,hb,_,hr⟩:=hh;exact⟨v,{e with w:=aA,cl:=λ k=>if k<e.w.heap.size then e.cl k else bI k},rfl,rfl,⟨hb,λ k hk=>if_pos hk,rfl,rfl,rfl⟩,ai6 hr K⟩
theorem VK{f:FuncId}{xs:List Operand}{fa:Array TypeId}{ds:List I}{d:I}(hC:bH P f ds d)(ho:o.op=.call {callee:=.value (.func f),args:=xs.toArray,argTypes:=fa})(hf:jM P f)(he:i3 S xs (λ jv=>Gn B jv some)=some ds)(K:DH d=true):dM P o S B d none:=by
 intro a e T _;obtain⟨jv,h1,u⟩:=tG (a:=a) (e:=e) xs _ ds (λ x hx=>T.1 x (by rw[ho];simp[Op.operands,Call.operands,hx])) he;obtain⟨iR,J,h4⟩:=VL T.2 h1 u;cases h4;unfold Oper.wp;have e1:(execOp a.eval o).run P e.w=.ok (.enter f (xs.map a.eval).toArray) e.w:=by obtain⟨dst,op,type,pos,after,guard⟩:=o;simp only at ho;subst ho;rw[execOp_call_go,hf];simp
 rw[e1];exact agw hC K J
end
end Go.Proofs.YtkkldicehapklaaGreat
end
section
namespace Go.Proofs.YtkkldicehapklaaGreat
open Go.Proofs.Tryz
open Go.RowKit
section
variable{P:Program}{aq:Nat->Option TI}{S:Nat->Option I}{B:Nat->Option (List I)}{o:Oper}
theorem B8{n:Int}(h0:0<=n)(h:n<9223372036854775808):IntKind.i64.wrap n=n:=ln (by omega) (by omega)
theorem Rl(a:Int)(b:Nat)(hb:b<=62):IntKind.i64.wrap (((BitVec.ofInt 64 a&&&BitVec.ofInt 64 (2^b-1:Int)).toNat:Nat):Int)=a%2^b:=by
 have G:(2:Int)^b-1=((2^b-1:Nat):Int):=by
  have:=Nat.one_le_two_pow (n:=b);rw[Int.ofNat_sub this]
  norm_cast
 have aY:(2:Nat)^b<=2^62:=Nat.pow_le_pow_right (by omega) hb;have h1:(BitVec.ofInt 64 a&&&BitVec.ofInt 64 (2^b-1:Int)).toNat=(a%18446744073709551616).toNat%2^b:=by
  rw[G,BitVec.toNat_and,BitVec.toNat_ofInt,BitVec.ofInt_natCast,BitVec.toNat_ofNat,Nat.mod_eq_of_lt (a:=2^b-1) (by omega),Nat.and_two_pow_sub_one_eq_mod]
  rfl
 rw[h1];have u:(((a%18446744073709551616).toNat%2^b:Nat):Int)=a%2^b:=by
  rw[Int.natCast_emod,Int.toNat_of_nonneg (Int.emod_nonneg _ (by decide))];have K:((2^b:Nat):Int)∣18446744073709551616:=by
   have:(2:Nat)^b∣2^64:=Nat.pow_dvd_pow 2 (by omega);have ac8:(18446744073709551616:Int)=((2^64:Nat):Int):=by decide
   rw[ac8];exact Int.natCast_dvd_natCast.2 this
  rw[Int.emod_emod_of_dvd _ K]
  norm_cast
 rw[u];have Bf:(0:Int)<2^b:=Int.pow_pos (by omega);have J:a%2^b<2^b:=Int.emod_lt_of_pos _ Bf;have h4:(2:Int)^b<=4611686018427387904:=by
  have h5:((2^b:Nat):Int)<=((2^62:Nat):Int):=Int.ofNat_le.2 aY;have h6:((2^62:Nat):Int)=4611686018427387904:=by decide
  rw[h6,Int.natCast_pow] at h5;exact h5
 exact B8 (Int.emod_nonneg _ (by omega)) (by omega)
theorem WH{a q:Int}{k:Nat}(h0:0<=a)(h1:a<2^k)(hq:0<=q)(F:a+2^k*q<9223372036854775808):IntKind.i64.wrap (((BitVec.ofInt 64 a|||BitVec.ofInt 64 (2^k*q:Int)).toNat:Nat):Int)=a+2^k*q:=by
 obtain⟨a,rfl⟩:=Int.eq_ofNat_of_zero_le h0;obtain⟨q,rfl⟩:=Int.eq_ofNat_of_zero_le hq;have e1:(2:Int)^k*(q:Int)=((2^k*q:Nat):Int):=by rw[Int.natCast_mul,Int.natCast_pow];rfl
 have bB:a<2^k:=Int.ofNat_lt.1 (by rw[Int.natCast_pow];exact h1);rw[e1] at F⊢;have J:a+2^k*q=(a|||2^k*q):=by rw[Nat.or_comm,<-Nat.two_pow_add_eq_or_of_lt bB,Nat.add_comm]
 generalize 2^k*q=m at F J⊢;have u:(BitVec.ofInt 64 (a:Int)|||BitVec.ofInt 64 (m:Int)).toNat=a+m:=by rw[BitVec.toNat_or,BitVec.ofInt_natCast,BitVec.ofInt_natCast,BitVec.toNat_ofNat,BitVec.toNat_ofNat,Nat.mod_eq_of_lt (by omega),Nat.mod_eq_of_lt (by omega),J]
 rw[u,Int.natCast_add];exact B8 (by omega) F
theorem Pj{ty aH:TypeId}{x y:Operand}{a c:Int}(k:Nat)(q:Int)(ho:o.op=.binOp .or ty x y aH)(hx:ev S x=some (M a))(hy:ev S y=some (M c))(ad3:c=2^k*q)(h0:0<=a)(h1:a<2^k)(hq:0<=q)(F:a+c<9223372036854775808):dM P o S B (M (a+c)) none:=by
 subst ad3;refine jZ λ ac e T=>?_
 have di:=dg (T.1 x (by rw[ho];simp[Op.operands]) _ hx);have fp:=dg (T.1 y (by rw[ho];simp[Op.operands]) _ hy);refine⟨_,?_,.p (.raw _)⟩;obtain⟨dst,op,type,pos,after,guard⟩:=o;simp only at ho;subst ho;have hb:(binOp .or ty (.int .i64 a) (.int .i64 (2^k*q:Int))).run P e.w=.ok (.int .i64 (a+2^k*q)) e.w:=by rw[<-WH h0 h1 hq F];rfl
 simp[execOp,di,fp,eqGuard,hb]
theorem DR{ty aH:TypeId}{x y:Operand}{a i:Int}(n:Nat)(ho:o.op=.binOp .shl ty x y aH)(hx:ev S x=some (M a))(hy:ev S y=some (M i))(hi:i=n)(hn:n<=62)(h0:0<=a)(hm:a*2^n<9223372036854775808):dM P o S B (M (a*2^n)) none:=by
 subst hi;refine jZ λ ac e T=>?_
 have di:=dg (T.1 x (by rw[ho];simp[Op.operands]) _ hx);have fp:=dg (T.1 y (by rw[ho];simp[Op.operands]) _ hy);refine⟨_,?_,.p (.raw _)⟩;obtain⟨dst,op,type,pos,after,guard⟩:=o;simp only at ho;subst ho;have u:min n 64=n:=by omega
 have hb:(binOp .shl ty (.int .i64 a) (.int .i64 (n:Int))).run P e.w=.ok (.int .i64 (a*2^n)) e.w:=by show(Op.shift .shl .i64 a .i64 (n:Int)).run P e.w=_;rw[shift_shl_any _ _ _ _ (Int.natCast_nonneg n)];show Result.ok (Value.int .i64 (IntKind.i64.wrap (a*2^min ((n:Int).toNat) 64))) e.w=_;rw[Int.toNat_natCast,u,B8 (Int.mul_nonneg h0 (Int.le_of_lt (Int.pow_pos (by omega)))) hm]
 simp[execOp,di,fp,eqGuard,hb]
theorem Qe{ty aH:TypeId}{x y:Operand}{a:Int}(n:Nat)(ho:o.op=.binOp .shr ty x y aH)(hx:ev S x=some (M a))(hy:ev S y=some (.p (.raw (.int .u64 (n:Int)))))(hn:n<=63):dM P o S B (M (a/2^n)) none:=by
 refine jZ λ ac e T=>?_
 have di:=dg (T.1 x (by rw[ho];simp[Op.operands]) _ hx);have fp:=dg (T.1 y (by rw[ho];simp[Op.operands]) _ hy);refine⟨_,?_,.p (.raw _)⟩;obtain⟨dst,op,type,pos,after,guard⟩:=o;simp only at ho;subst ho;have u:min n 64=n:=by omega
 have hb:(binOp .shr ty (.int .i64 a) (.int .u64 (n:Int))).run P e.w=.ok (.int .i64 (a/2^n)) e.w:=by show(Op.shift .shr .i64 a .u64 (n:Int)).run P e.w=_;rw[shift_shr_any _ _ _ _ (Int.natCast_nonneg n)];show Result.ok (Value.int .i64 (a/2^min ((n:Int).toNat) 64)) e.w=_;rw[Int.toNat_natCast,u]
 simp[execOp,di,fp,eqGuard,hb]
end
end Go.Proofs.YtkkldicehapklaaGreat
end
section
namespace Go.Proofs.YtkkldicehapklaaGreat
open Go.Proofs.Tryz
open Go.RowKit
section
variable{P:Program}{aq:Nat->Option TI}{Γ:bX}{o:Oper}{l0 l:List Oper}{Q:Exit->St->Prop}
variable{s:List (Nat×I)}{b:List (Nat×List I)}{g:List (Nat×Gr)}{t:Nat}{L:St}
def KY(w aA:World)(bI:Nat->Option Nat)(v:Value)(el sz n:Nat):Prop:=
 ∃A bG,v=.slice A n bG/\(bG=n\/∃k cur,A=some ⟨k,0,none⟩/\w.heap.size<=k/\k<aA.heap.size/\bI k=some (n*sz)/\aA.heap[k]?=some (.cells cur el (0,0))/\cur.size=bG*sz)
def v6(P:Program)(f:FuncId)(ds:List I)(el sz n:Nat)(ps:List Pl):Prop:=
 ∀(w:World)(cl:Nat->Option Nat)(vs:List Value),DReps (hl w cl) vs ds->
  Calls P f vs.toArray w (λ r aA=>∃v bI,r=.returned v/\Below w.heap.size w aA/\(∀k,k<w.heap.size->bI k=cl k)/\bC (hl aA bI) v (.p (.sl false n ps))/\KY w aA bI v el sz n)
theorem v6.pure{f:FuncId}{ds:List I}{el sz n:Nat}{ps:List Pl}(h:v6 P f ds el sz n ps):bH P f ds (.p (.sl false n ps)):=λ w cl vs hv=>(h w cl vs hv).mono λ _ _⟨v,bI,h1,u,J,h4,_⟩=>⟨v,bI,h1,u,J,h4⟩
theorem bE.Lt{e:aE}{a:Act}(F:bE Γ L e a){gn:Nat}(hg:kv L.g gn=none){el sz n k:Nat}{cur:Array Value}(eN:Γ.w0.heap.size<=k)(fR:k<e.w.heap.size)(lW:e.cl k=some (n*sz))(FA:e.gr k=none)(NV:∀b,e.bx b≠some k)(NW:e.w.heap[k]?=some (.cells cur el (0,0))):
 bE Γ ⟨L.s,L.b,(gn,⟨el,sz,n⟩)::L.g⟩ {e with gr:=λ j=>if j=k then some gn else e.gr j,gi:=λ h=>if h=gn then some ⟨el,sz,n⟩ else e.gi h} a/\Ends e {e with gr:=λ j=>if j=k then some gn else e.gr j,gi:=λ h=>if h=gn then some ⟨el,sz,n⟩ else e.gi h}:=by
 have eZ:e.gi gn=none:=by rw[F.gs];exact hg
 have pO:∀k,e.gr k≠some gn:=λ k hk=>by obtain⟨aa,_,h,_⟩:=F.env.gr k gn hk;rw[eZ] at h;cases h
 have Y:Ends e {e with gr:=λ j=>if j=k then some gn else e.gr j,gi:=λ h=>if h=gn then some ⟨el,sz,n⟩ else e.gi h}:=by
  refine⟨λ _ _ _ h1 u=>⟨h1,u⟩,λ _ _ h=>h,λ bg aa h=>⟨aa,?_,rfl,rfl,Nat.le_refl _⟩,λ j bg aa fj h1 u J=>⟨?_,fj,J,rfl⟩⟩
  ·show(if bg=gn then _ else e.gi bg)=_;rw[if_neg (λ ae=>by rw[ae,eZ] at h;cases h)];exact h
  ·show(if j=k then some gn else e.gr j)=_;rw[if_neg (λ ae=>by rw[ae,FA] at h1;cases h1)];exact h1
 refine⟨⟨F.size,F.df,λ t d ht=>(F.dj t d ht).next Y,λ b cs hb=>(F.boxes b cs hb).ends Y rfl,F.ee,λ h=>?_,F.env.kept,F.env.cl,λ b j hj=>?_,F.env.inj,λ j bg hj=>?_,F.env.kb⟩,Y⟩
 ·show(if h=gn then _ else e.gi h)=_;simp only[dc]
  by_cases e1:h=gn
  ·subst e1;simp
  ·rw[if_neg e1,if_neg (λ ae=>e1 ae.symm)];exact F.gs h
 ·obtain⟨h1,u,J,h4⟩:=F.env.bx b j hj;refine⟨h1,u,J,?_⟩;show(if j=k then some gn else e.gr j)=none;rw[if_neg (λ ae=>NV b (by rw[<-ae];exact hj))];exact h4
 ·have fb:(if j=k then some gn else e.gr j)=some bg:=hj;split at fb
  ·rename_i kF;cases fb;exact⟨⟨el,sz,n⟩,cur,by show(if gn=gn then _ else _)=_;simp,by rw[kF];exact fR,.inl (by rw[kF];exact eN),by rw[kF];exact lW,by rw[kF];exact NW⟩
  ·obtain⟨aa,fj,h1,u⟩:=F.env.gr j bg fb;exact⟨aa,fj,by show(if bg=gn then _ else e.gi bg)=_;rw[if_neg (λ ae=>pO j (by rw[<-ae];exact fb))];exact h1,u⟩
theorem bE.ZY{e:aE}{a:Act}(F:bE Γ L e a){gn:Nat}(hg:kv L.g gn=none)(el sz n:Nat):
 bE Γ ⟨L.s,L.b,(gn,⟨el,sz,n⟩)::L.g⟩ {e with gi:=λ h=>if h=gn then some ⟨el,sz,n⟩ else e.gi h} a/\Ends e {e with gi:=λ h=>if h=gn then some ⟨el,sz,n⟩ else e.gi h}:=by
 have eZ:e.gi gn=none:=by rw[F.gs];exact hg
 have pO:∀k,e.gr k≠some gn:=λ k hk=>by obtain⟨aa,_,h,_⟩:=F.env.gr k gn hk;rw[eZ] at h;cases h
 have Y:Ends e {e with gi:=λ h=>if h=gn then some ⟨el,sz,n⟩ else e.gi h}:=
  ⟨λ _ _ _ h1 u=>⟨h1,u⟩,λ _ _ h=>h,λ bg aa h=>⟨aa,by show(if bg=gn then _ else e.gi bg)=_;rw[if_neg (λ ae=>by rw[ae,eZ] at h;cases h)];exact h,rfl,rfl,Nat.le_refl _⟩,λ _ _ _ cur h1 _ J=>⟨h1,cur,J,rfl⟩⟩
 refine⟨⟨F.size,F.df,λ t d ht=>(F.dj t d ht).next Y,λ b cs hb=>(F.boxes b cs hb).ends Y rfl,F.ee,λ h=>?_,F.env.kept,F.env.cl,F.env.bx,F.env.inj,λ k bg hk=>?_,F.env.kb⟩,Y⟩
 ·show(if h=gn then _ else e.gi h)=_;simp only[dc]
  by_cases e1:h=gn
  ·subst e1;simp
  ·rw[if_neg e1,if_neg (λ ae=>e1 ae.symm)];exact F.gs h
 ·obtain⟨aa,cur,h1,u⟩:=F.env.gr k bg hk;exact⟨aa,cur,by show(if bg=gn then _ else e.gi bg)=_;rw[if_neg (λ ae=>pO k (by rw[<-ae];exact hk))];exact h1,u⟩
theorem ZH{f:FuncId}(gn:Nat){el sz n:Nat}{ps:List Pl}{ds:List I}{xs:List Operand}{fa:Array TypeId}(hC:v6 P f ds el sz n ps)(ho:o.op=.call {callee:=.value (.func f),args:=xs.toArray,argTypes:=fa})(hf:jM P f)(he:i3 (kv s) xs I.low.jY=some ds)(hg:gd l0 o (kv s)=some true)(K:o.dst=some t)(Z:Nat.blt t Γ.n=true)(wM:kv g gn=none)(cG:ps.length=n*sz)
 (h:bw P Γ l0 Q l ⟨(t,.bP gn n ps)::s,b,(gn,⟨el,sz,n⟩)::g⟩):bw P Γ l0 Q (o::l) ⟨s,b,g⟩:=by
 refine xN (L:=⟨s,b,g⟩) (bQ:=⟨(t,.bP gn n ps)::s,b,(gn,⟨el,sz,n⟩)::g⟩) hg (λ a e F=>?_) h;have jG:=F.jd o.op.operands;obtain⟨jv,h1,u⟩:=tG (a:=a) (e:=e) xs _ ds (λ x hx=>jG.1 x (by rw[ho];simp[Op.operands,Call.operands,hx])) he;have hv:=Jz h1 u;have e1:(execOp a.eval o).run P e.w=.ok (.enter f (xs.map a.eval).toArray) e.w:=by obtain⟨dst,op,type,pos,after,guard⟩:=o;simp only at ho;subst ho;rw[execOp_call_go,hf];simp
 unfold Oper.wp;rw[e1];refine(hC e.w e.cl _ hv).mono λ r aA hh=>?_
 obtain⟨v,bI,rfl,hb,dw,hr,A,bG,rfl,oo⟩:=hh;have wO:j7 e {e with w:=aA,cl:=bI}:=⟨hb,λ k hk=>dw k hk,rfl,rfl,rfl⟩;have c7:=F.grow wO;have qH:c5 {e with w:=aA,cl:=bI} (.slice A n bG) (.sl false n ps):=by cases hr with|p h=>exact c5.env (e:=hl aA bI) (ae:={e with w:=aA,cl:=bI}) rfl rfl h
 have tW:=rl (o:=o) K Z;rcases oo with Fi|⟨k,cur,hA,k1,k2,k3,k4,k5⟩
 ·obtain⟨J,h4⟩:=c7.ZY (gn:=gn) wM el sz n;have:=J.put tW (v:=.slice A n bG) (d:=.bP gn n ps) (.bP (qH.next h4) ⟨⟨el,sz,n⟩,A,bG,by simp,rfl,Nat.le_refl _,cG,.inl Fi⟩);rw[K] at this⊢;exact⟨_,(by rfl),this⟩
 ·have q1:e.gr k=none:=by
   rcases i7:e.gr k with _|bg
   ·rfl
   ·obtain⟨_,_,_,aY,_⟩:=F.env.gr k bg i7;omega
  have q2:∀b,e.bx b≠some k:=λ b o0=>by have:=(F.env.bx b k o0).1;omega
  obtain⟨J,h4⟩:=c7.Lt (gn:=gn) wM (n:=n) (sz:=sz) (k:=k) (Nat.le_trans F.env.kept.size k1) k2 k3 q1 q2 k4;have:=J.put tW (v:=.slice A n bG) (d:=.bP gn n ps) (.bP (qH.next h4) ⟨⟨el,sz,n⟩,A,bG,by simp,rfl,Nat.le_refl _,cG,.inr ⟨k,hA,⟨by simp,cur,k4,k5⟩⟩⟩);rw[K] at this⊢;exact⟨_,(by rfl),this⟩
def KX(t:Nat)(el sz n:Nat)(ps:List Pl):Exit->St->Prop:=λ ex L=>(ex=.normal\/ex=.ret)/\((∃g,kv L.s t=some (.bP g n ps)/\kv L.g g=some ⟨el,sz,n⟩)\/kv L.s t=some (.p (.sl true n ps)))
theorem Mt{t el sz n g:Nat}{ps:List Pl}(h:kv L.s t=some (.bP g n ps))(hg:kv L.g g=some ⟨el,sz,n⟩):KX t el sz n ps .ret L:=⟨.inr rfl,.inl ⟨g,h,hg⟩⟩
theorem acB{t el sz n:Nat}{ps:List Pl}(h:kv L.s t=some (.p (.sl true n ps))):KX t el sz n ps .ret L:=⟨.inr rfl,.inr h⟩
theorem MD{f:FuncId}{fn:Func}{c:Code}{ds:List I}{el sz m:Nat}{ps:List Pl}{t n:Nat}{s:List (Nat×I)}(hf:P.funcs[f]?=some fn)(hb:fn.body=some c)(gL:fn.ntmps=n)(mx:fn.results=#[.tmp t])(hn:Nat.ble ds.length n=true)(T:tF 0 ds some=some s)
 (h:∀w cl,a8 P ⟨n,w,cl,λ _=>False,[],[]⟩ c (KX t el sz m ps) ⟨s,[],[]⟩):v6 P f ds el sz m ps:=by
 subst gL;rw[Cz] at T;cases T;have hn:=Nat.le_of_ble_eq_true hn;intro w cl vs hv;refine calls_of_wp hf hb ?_;have Z:vs.length=ds.length:=hv.1;have F:bE ⟨fn.ntmps,w,cl,λ _=>False,[],[]⟩ ⟨wn.go 0 ds,[],[]⟩ (hl w cl) {tmps:=vs.toArray++Array.replicate (fn.ntmps-vs.toArray.size) undef,defers:=[]}:=by
  refine⟨by simp;omega,rfl,λ t d0 ht=>?_,λ b cs hb=>(by cases hb),λ b _=>rfl,λ g=>rfl,⟨oN.refl _ _,λ _ _ _=>rfl,λ b k hk=>(by cases hk),λ b c k hk=>(by cases hk),λ k g hk=>(by cases hk),λ b k hk=>(by cases hk)⟩⟩;obtain⟨_,u⟩:=EI ds 0 t d0 ht;simp only[Nat.sub_zero] at u;obtain⟨v,J,h4⟩:=hv.get u;have iG:t<vs.length:=(List.getElem?_eq_some_iff.1 J).1;have:gH {tmps:=vs.toArray++Array.replicate (fn.ntmps-vs.toArray.size) undef,defers:=[]} t=v:=by
   unfold gH;simp only[Array.getD_eq_getD_getElem?];rw[Array.getElem?_append_left (by simpa using iG),List.getElem?_toArray,J]
   rfl
  rw[this];exact h4
 refine Code.wp_mono (λ ex bF aA hh=>?_) ((h w cl).run _ (hl w cl) F);obtain⟨bQ,ae,rfl,u,J,h4⟩:=hh;have Nt:Below w.heap.size w ae.w:=⟨u.env.kept.os,u.env.kept.tape,u.env.kept.output,u.env.kept.size,λ k hk=>u.env.kept.block k hk (λ h=>h)⟩;have ge:(results fn bF.tmps).run P ae.w=.ok (gH bF t) ae.w:=by rw[DL,mx];simp[G6,gH]
 have hv:bC (hl ae.w ae.cl) (gH bF t) (.p (.sl false m ps))/\KY w ae.w ae.cl (gH bF t) el sz m:=by
  rcases h4 with⟨g,h5,h6⟩|h5
  ·have h7:=u.dj t _ h5;generalize gH bF t=v at h7;cases h7 with
   |bP G ht=>obtain⟨aa,A,bG,g1,g2,g3,g4,g5⟩:=ht;rw[u.gs,h6] at g1;cases g1;refine⟨.p (c5.env (e:=ae) (ae:=hl ae.w ae.cl) rfl rfl G),A,bG,g2,g5.imp id ?_⟩;rintro⟨k,rfl,q1,cur,q2,q3⟩;obtain⟨nc,fj,r1,r2,r3,r4,ai1⟩:=u.env.gr k g q1;rw[u.gs,h6] at r1;cases r1;exact⟨k,cur,rfl,r3.elim id (λ hh=>hh.elim),r2,r4,q2,q3⟩
  ·have h7:=u.dj t _ h5;generalize gH bF t=v at h7;cases h7 with
   |p G=>refine⟨.p (c5.env (e:=ae) (ae:=hl ae.w ae.cl) rfl rfl G.low),?_⟩;obtain⟨A,bG,g1,_,_,_,g5,_⟩:=qa G;exact⟨A,bG,g1,.inl (g5 rfl)⟩
 have k9:bF.defers=[]/\∃v,(results fn bF.tmps).run P ae.w=.ok v ae.w/\∃gU bI,Ending.returned v=.returned gU/\Below w.heap.size w ae.w/\(∀k,k<w.heap.size->bI k=cl k)/\bC (hl ae.w bI) gU (.p (.sl false m ps))/\KY w ae.w bI gU el sz m:=
  ⟨u.df,_,ge,_,ae.cl,rfl,Nt,λ k hk=>u.env.cl k hk (λ h=>h),hv.1,hv.2⟩
 rcases J with rfl|rfl
 ·exact k9
 ·exact k9
end
end Go.Proofs.YtkkldicehapklaaGreat
end
section
namespace Go.Proofs.YtkkldicehapklaaGreat
open Go.Proofs.Tryz
open Go.RowKit
section
variable{P:Program}{aq:Nat->Option TI}{S:Nat->Option I}{B:Nat->Option (List I)}{o:Oper}
theorem af4(hT:dh P aq){t el:TypeId}{x y:Operand}{n:Nat}{ps qs:List Pl}{k:IntKind}{i:Int}{z1 z2:Nat}{z3:Value}{j:TI}(ho:o.op=.indexAddr t x y)(ht:aq t=some ⟨.array n el,z1,z2,z3⟩)(he:aq el=some j)
 (hx:ev S x=some (.el ps))(hy:ev S y=some (.p (.raw (.int k i))))(h0:0<=i)(aY:i<n)(hq:kW (i.toNat*j.sz) ps some=some qs):dM P o S B (.el qs) none:=by
 refine jZ λ a e T=>?_
 have h1:=T.1 x (by rw[ho];simp[Op.operands]) _ hx;have u:=dg (T.1 y (by rw[ho];simp[Op.operands]) _ hy);obtain⟨fE,cL⟩:=n4 hq;cases cL;generalize hv:a.eval x=vx at h1;cases h1 with
 |el hb=>
  rename_i kk of;obtain⟨d0,ep,hk⟩:=hT.desc t _ ht;cases d0<;>simp only[km,reduceCtorEq,TK.array.injEq] at hk
  rw[hk.1,hk.2] at ep;refine⟨.pointer (some ⟨kk,of+i.toNat*j.sz,none⟩),?_,.el (hb.part _ λ m q hm=>by rw[List.getElem?_drop] at hm;exact hm)⟩;obtain⟨dst,op,type,pos,after,guard⟩:=o;simp only at ho;subst ho;simp[execOp,Instr.indexAt,Instr.sureAddr,u,hv,asIntOf,run_underlying ep,h0,aY,run_sizeOf hT he,qZ]
theorem ag3{x y:Operand}{fa:Array TypeId}{a b:Int}(ho:o.op=.call {callee:=.builtin .max,args:=#[x,y],argTypes:=fa})(hx:ev S x=some (M a))(hy:ev S y=some (M b)):dM P o S B (M (if b>a then b else a)) none:=by
 refine jZ λ ac e T=>?_
 have di:=dg (T.1 x (by rw[ho];simp[Op.operands,Call.operands]) _ hx);have fp:=dg (T.1 y (by rw[ho];simp[Op.operands,Call.operands]) _ hy);refine⟨_,?_,.p (.raw _)⟩;obtain⟨dst,op,type,pos,after,guard⟩:=o;simp only at ho;subst ho;simp only[execOp,resolve,invoke,builtin,Sem.run_bind,Sem.run_pure,Result.andThen_ok,List.map_toArray,List.map_cons,List.map_nil,di,fp,run_max_int2]
end
end Go.Proofs.YtkkldicehapklaaGreat
end
section
namespace Go.Proofs.YtkkldicehapklaaGreat
open Go.Proofs.Tryz
open Go.RowKit
section
variable{P:Program}{aq:Nat->Option TI}
inductive Eg:FrameMode->Value->FrameMode->Prop where
 |no:Eg .returning .nilIface .returning
 |yes (v:Value):Eg (.panicking [pe v]) v (.panicking [{v:=v,recovered:=true}])
theorem Eg.acU{aH qU:FrameMode}{v:Value}(h:Eg aH v qU)(c:Frame)(cs:List Frame)(hu:c.mode=aH):(recoverD (c::cs)=none/\v=.nilIface/\qU=aH)\/recoverD (c::cs)=some (v,{c with mode:=qU}::cs):=by
 cases h with
 |no=>left;simp[recoverD,hu]
 |yes v=>right;simp[recoverD,hu]
theorem Kf{f:FuncId}{fn:Func}{id:Nat}{o:Oper}{c:Code}{ds:List I}{bc:List Nat}{bs:cn}{ap:cn->Prop}{n t:Nat}{s:List (Nat×I)}(hf:P.funcs[f]?=some fn)(hb:fn.body=some (.seq (.region id #[o] false) c))(gL:fn.ntmps=n)(mx:fn.results.toList=[])(hn:Nat.ble ds.length n=true)(T:tF 0 ds some=some s)(o9:ku bs bc)
 (ho:∀(a:Act)(w:World),(execOp a.eval o).run P w=.ok .recover w)(hw:∀ts,Region.wanted o (yielded #[o] ts)=true)(fC:o.dst=some t)(Z:Nat.blt t n=true){aH qU:FrameMode}{v:Value}(hr:Eg aH v qU)
 (h:∀w cl own kf,a8 P ⟨n,w,cl,own,mz kf bc,[]⟩ c (D9 aq [] bc λ _ ay=>ap ay) ⟨(t,.p (.raw v))::s,bs,[]⟩){e:aE}{vs:List Value}(hI:iW bs e)(hv:DReps e vs ds):
 CallsD P f vs.toArray aH e.w λ r u2 aA=>∃ae ay,r=.returned (.tuple #[])/\u2=qU/\ae.w=aA/\iW ay ae/\Left bc e ae/\ap ay:=by
 subst gL;rw[Cz] at T;cases T;have hn:=Nat.le_of_ble_eq_true hn;refine callsD_of_wpS hf hb λ Ac cs hu=>?_
 have F:=Gb (fn:=fn) (f:=f) (bc:=bc) [] hn o9 hI hv rfl;have c7:bE _ ⟨(t,.p (.raw v))::wn.go 0 ds,bs,[]⟩ e _:=F.put (dst:=some t) (show Nat.blt t _=true from Z) (bC.p (c5.raw v));have FY:∀aZ,aZ={Ac with mode:=qU}::cs->c.wpS P (bodyPostS P fn Ac cs λ r u2 aA=>∃ae ay,r=.returned (.tuple #[])/\u2=qU/\ae.w=aA/\iW ay ae/\Left bc e ae/\ap ay) (({tmps:=vs.toArray++Array.replicate (fn.ntmps-vs.toArray.size) undef,defers:=[]}:Act).put (some t) v) aZ e.w:=by
  rintro aZ rfl;refine wpS_of_wp (Code.wp_mono (λ ex bF aA hh=>?_) ((h e.w e.cl _ _).run _ e c7));obtain⟨bQ,ae,rfl,u,J,d,ay,h4,h5,h6,h7,h8⟩:=hh;have ge:(results fn bF.tmps).run P ae.w=.ok (.tuple #[]) ae.w:=by
   have:fn.results=#[]:=by cases oo:fn.results;rw[oo] at mx;simp at mx;rw[mx]
   rw[DL,this];simp
  have k9:bF.defers=[]/\∃u2,({Ac with mode:=qU}::cs:List Frame)={Ac with mode:=u2}::cs/\∃vv,(results fn bF.tmps).run P ae.w=.ok vv ae.w/\∃n5 RJ,Ending.returned vv=.returned (.tuple #[])/\u2=qU/\n5.w=ae.w/\iW RJ n5/\Left bc e n5/\ap RJ:=
   ⟨u.df,qU,rfl,_,ge,ae.cut (aL ay) λ _=>false,ay,rfl,rfl,rfl,rg u h6,imp_left hI o9 u h7,h8⟩
  rcases J with rfl|rfl
  ·exact k9
  ·exact k9
 refine wpS_seq (wpS_region ?_);show wpOpsS P #[o] _ [0] _ _ _;have bV:({Ac with mode:=aH}:Frame)=Ac:=by rw[<-hu]
 simp only[wpOpsS,List.getElem?_toArray,List.getElem?_cons_zero,hw,if_true,ho];rcases hr.acU Ac cs hu with⟨q1,q2,q3⟩|q1
 ·rw[q1];subst q2;subst q3;show Code.wpS P c _ _ _ _;rw[fC];exact FY _ (by rw[bV])
 ·rw[q1];show Code.wpS P c _ _ _ _;rw[fC];exact FY _ rfl
end
end Go.Proofs.YtkkldicehapklaaGreat
end
section
namespace Go.Proofs.YtkkldicehapklaaGreat
open Go.Proofs.Tryz
open Go.RowKit
section
variable{P:Program}{aq:Nat->Option TI}{Γ:bX}{s ah:List (Nat×I)}{b aP:cn}{g:List (Nat×Gr)}
theorem Zc{id:Nat}{o1 o2:Oper}{L:St}{e:aE}{a:Act}{fc:FuncId}{xs:List Operand}{u3:List I}{t:Nat}{fa:Array TypeId}(F:bE Γ L e a)(h1:o1.op=.makeFunc (.func fc) #[] xs.toArray)(g1:gd [o1,o2] o1 (kv L.s)=some true)(d1:o1.dst=some t)(l1:Nat.blt t Γ.n=true)(he:i3 (kv L.s) xs some=some u3)
 (u:o2.op=.defer {callee:=.value (.tmp t),args:=#[],argTypes:=fa})(g2:gd [o1,o2] o2 (kv (L.put (some t) (.fn (.func fc) [] u3)).s)=some true)(d2:o2.dst=none){Q:Exit->Act->World->Prop}
 (Vr:List (Nat×Nat))(aeC:∀b k,kv Vr b=some k->e.bx b=some k)
 (h:∀(bF:Act)(dX:List Value),DReps e dX u3->bE {Γ with kb:=Vr,dr:={target:=.fn (.func fc) dX.toArray,args:=#[]}::Γ.dr} (L.put (some t) (.fn (.func fc) [] u3)) e bF->Q .normal bF e.w):(Code.region id #[o1,o2] false).wp P Q a e.w:=by
 have jG:=F.jd o1.op.operands;have hv:=EK (a:=a) (e:=e) xs (λ x hx=>jG.1 x (by rw[h1];simp[Op.operands,hx])) he;have K:bC e (.func (.func fc) #[] (xs.map a.eval).toArray) (.fn (.func fc) [] u3):=.fn (us:=[]) rfl hv.1 (λ i v d h=>by simp at h) hv.2;have c7:bE Γ (L.put (some t) (.fn (.func fc) [] u3)) e (a.put (some t) (.func (.func fc) #[] (xs.map a.eval).toArray)):=F.put (dst:=some t) (show Nat.blt t _=true from l1) K;refine wp_region_lit (l:=[o1,o2]) ?_;unfold wpList;rw[if_pos (mm F g1)];refine .inl ?_;have e1:(execOp a.eval o1).run P e.w=.ok (.value (.func (.func fc) #[] (xs.map a.eval).toArray)) e.w:=by obtain⟨dst,op,type,pos,after,guard⟩:=o1;simp only at h1;subst h1;simp[execOp,Instr.makeFunc]
 unfold Oper.wp;rw[e1,Oper.upon_value,d1];unfold wpList;rw[if_pos (mm c7 g2)];refine .inl ?_;have ht:(a.put (some t) (.func (.func fc) #[] (xs.map a.eval).toArray)).eval (.tmp t)=.func (.func fc) #[] (xs.map a.eval).toArray:=by have T:gH (a.put (some t) (.func (.func fc) #[] (xs.map a.eval).toArray)) t=_:=Hc (by rw[F.size];simpa[Nat.blt_eq] using l1);exact T
 have e2:(execOp (a.put (some t) (.func (.func fc) #[] (xs.map a.eval).toArray)).eval o2).run P e.w=.ok (.defer {target:=.fn (.func fc) (xs.map a.eval).toArray,args:=#[]}) e.w:=by obtain⟨dst,op,type,pos,after,guard⟩:=o2;simp only at u;subst u;simp[execOp,resolve,ht,Deferred.ofValue]
 unfold Oper.wp;rw[e2,Oper.upon_defer,d2];refine h _ (xs.map a.eval) hv ?_;refine⟨c7.size,?_,c7.dj,c7.boxes,c7.ee,c7.gs,⟨c7.env.kept,c7.env.cl,c7.env.bx,c7.env.inj,c7.env.gr,aeC⟩⟩;show _::(a.put (some t) _).defers=_::Γ.dr;rw[c7.df]
theorem HD{L:St}(nm:Nat){cs aZ:List I}(hb:kv L.b nm=some cs)(K:cs.map (λ _=>I.any)=aZ):eI Γ L ⟨L.s,(nm,aZ)::L.b,L.g⟩:=by
 intro a e F;refine⟨e,rfl,F.size,F.df,F.dj,λ aH c hu=>?_,λ aH hu=>?_,F.gs,F.env⟩
 ·simp only[dc] at hu;split at hu
  ·rename_i l4;subst l4;cases hu;obtain⟨k,vs,el,h1,u,J,h4⟩:=F.boxes _ _ hb;refine⟨k,vs,el,h1,u,by rw[<-K,List.length_map];exact J,λ i v d hv fC=>?_⟩;rw[<-K,List.getElem?_map] at fC;cases bV:cs[i]? with
   |none=>rw[bV] at fC;cases fC
   |some x=>rw[bV] at fC;cases fC;exact .any
  ·exact F.boxes aH c hu
 ·simp only[dc] at hu;split at hu
  ·cases hu
  ·exact F.ee aH hu
theorem pu{e ae:aE}{v:Value}{nm o k:Nat}(h:bC e v (.ptr nm o))(h1:e.bx nm=some k)(u:ae.bx nm=some k):bC ae v (.ptr nm o):=by
 cases h with
 |ptr hk=>rw[h1] at hk;cases hk;exact .ptr u
theorem Js{fn:Func}{e:aE}{a:Act}(F:bE Γ ⟨s,b,g⟩ e a){fc:FuncId}{dX:List Value}{u3:List I}{tx:cn}{Jm:List Nat}{ap:cn->Prop}{aH qU:FrameMode}{Rf:Ending->World->Prop}(hf:jM P fc)(kE:DReps e dX u3)(aV:I.ok.fy (aL tx) (λ _=>false) u3=true)(T:jQ ⟨s,b,g⟩ (aL tx) tx)(dI:tn Jm tx Γ.kb)
 (h3:lT (λ b=>!aL tx b||iI Jm b) s (λ ah=>mj (aL tx) (λ b=>!aL tx b||iI Jm b) b (λ aP=>some (ah,aP)))=some (ah,aP))(hu:aH≠.run)(ox:settle qU=.returning)
 (dw:∀(e0:aE)(vs:List Value),iW tx e0->DReps e0 vs u3->CallsD P fc vs.toArray aH e0.w λ r u2 aA=>∃ae ay,r=.returned (.tuple #[])/\u2=qU/\ae.w=aA/\iW ay ae/\Left Jm e0 ae/\ap ay)(dt:∀ay,ap ay->kq tx b ay)
 (k9:∀ay ae,ap ay->bE Γ ⟨ah,ay++aP,g⟩ ae a->∃v,(results fn a.tmps).run P ae.w=.ok v ae.w/\Rf (.returned v) ae.w):
 Leaves P fn a.tmps Rf [{target:=.fn (.func fc) dX.toArray,args:=#[]}] aH e.w:=by
 rw[wh,wg] at h3;cases h3;refine leaves_cons (f:=fc) (args:=dX.toArray) hu ?_ ?_
 ·simp only[invoke];rw[hf];simp
 ·refine(dw (e.cut (aL tx) λ _=>false) dX (rg F T) ⟨kE.1,λ i v d h1 u=>(kE.2 i v d h1 u).cut (rZ aV u)⟩).mono λ r u2 aA hh=>?_
  obtain⟨ae,ay,rfl,rfl,rfl,hI,hL,hR⟩:=hh;obtain⟨h1,_⟩:=F.after hI hL (λ n hn=>(dt ay hR).get hn) (λ n k h1 u=>dI.get h1 u);show Leaves P fn a.tmps Rf [] (settle u2) ae.w;rw[ox];exact k9 ay (e.after ae tx ay) hR h1
end
end Go.Proofs.YtkkldicehapklaaGreat
end
section
namespace Go.Proofs.YtkkldicehapklaaGreat
open Go.Proofs.Tryz
open Go.RowKit
section
variable{P:Program}{aq:Nat->Option TI}{S:Nat->Option I}{B:Nat->Option (List I)}{o:Oper}
theorem Vh{ty aH:TypeId}{ms:Array (String×TypeId)}{x:Operand}(hu:P.underlying ty=some (.interface ms))(ho:o.op=.binOp .eql ty x (.const .nilIface) aH)(hx:ev S x=some (.p (.raw .nilIface))):dM P o S B (dB true) none:=by
 refine jZ λ ac e T=>?_
 have di:=dg (T.1 x (by rw[ho];simp[Op.operands]) _ hx);refine⟨.bool true,?_,.p (.raw _)⟩;obtain⟨dst,op,type,pos,after,guard⟩:=o;simp only at ho;subst ho;have he:(Op.equal ty .nilIface .nilIface).run P e.w=.ok true e.w:=by
  show(Op.equalIn (9999+1) ty _ _).run P e.w=_;rw[Op.equalIn];simp only[Sem.run_bind,run_underlying hu,Result.andThen_ok]
  rfl
 have F:ac.eval (.const .nilIface)=.nilIface:=rfl;simp[execOp,di,F,eqGuard,binOp,he]
theorem Vi{ty aH t0:TypeId}{v:Value}{ms:Array (String×TypeId)}{x:Operand}(hu:P.underlying ty=some (.interface ms))(ho:o.op=.binOp .eql ty x (.const .nilIface) aH)(hx:ev S x=some (.p (.raw (.iface t0 v)))):dM P o S B (dB false) none:=by
 refine jZ λ ac e T=>?_
 have di:=dg (T.1 x (by rw[ho];simp[Op.operands]) _ hx);refine⟨.bool false,?_,.p (.raw _)⟩;obtain⟨dst,op,type,pos,after,guard⟩:=o;simp only at ho;subst ho;have he:(Op.equal ty (.iface t0 v) .nilIface).run P e.w=.ok false e.w:=by
  show(Op.equalIn (9999+1) ty _ _).run P e.w=_;rw[Op.equalIn];simp only[Sem.run_bind,run_underlying hu,Result.andThen_ok]
  rfl
 have F:ac.eval (.const .nilIface)=.nilIface:=rfl;simp[execOp,di,F,eqGuard,binOp,he]
def L7:Value->I
 |.agg cs=>.agg (cs.toList.map λ v=>.p (.raw v))
 |v=>.p (.raw v)
theorem abw(e:aE)(v:Value):bC e v (L7 v):=by
 unfold L7;split
 ·rename_i cs;have:bC e (.agg cs.toList.toArray) (.agg (cs.toList.map λ v=>.p (.raw v))):=.agg (by simp) (λ i v d h1 u=>by
   rw[List.getElem?_map,h1] at u;cases u;exact .p (.raw v))
  simpa using this
 ·exact .p (.raw _)
theorem Rx(hT:dh P aq){ty akO:TypeId}{v:Value}{x:Operand}{i:TI}(ho:o.op=.typeAssert x akO ty true)(ht:aq ty=some i)(hk:i.k.known=true)(hx:ev S x=some (.p (.raw (.iface ty v)))):dM P o S B (.ca [L7 v,dB true]) none:=by
 refine jZ λ ac e T=>?_
 have di:=dg (T.1 x (by rw[ho];simp[Op.operands]) _ hx);obtain⟨dd,h1,u⟩:=Vv hT ht hk;refine⟨.tuple #[v,.bool true],?_,.ca (vs:=[v,.bool true]) rfl ?_⟩
 ·obtain⟨dst,op,type,pos,after,guard⟩:=o;simp only at ho;subst ho;simp only[execOp,Instr.typeAssert,Sem.run_bind,run_underlying h1,Result.andThen_ok,di];cases dd with
  |interface ms=>exact absurd rfl (u ms)
  |_=>simp
 ·intro i w d hw K
  match i,hw,K with
  |0,hw,K=>cases hw;cases K;exact abw e v
  |1,hw,K=>cases hw;cases K;exact .p (.raw _)
end
end Go.Proofs.YtkkldicehapklaaGreat
end
section
namespace Go.Proofs.YtkkldicehapklaaGreat
open Go.Proofs.Tryz
open Go.RowKit
section
variable{P:Program}{aq:Nat->Option TI}{Γ:bX}{S:Nat->Option I}{B:Nat->Option (List I)}{o:Oper}{l0 l:List Oper}{Q:Exit->St->Prop}
variable{s:List (Nat×I)}{b:List (Nat×List I)}{g:List (Nat×Gr)}{t:Nat}
theorem QJ{az dE:Type}:∀(ds rest:List dE)(k:List dE->Option az),mD ds.length (ds++rest) k=k ds
 |[],rest,k=>rfl
 |x::ds,rest,k=>by
  show mD ds.length (ds++rest) (λ r=>k (x::r))=_;rw[QJ ds rest]
theorem BC(hT:dh P aq){ty:TypeId}{x:Operand}{i:TI}{b of:Nat}{cs:List I}(ds rest:List I)(ho:o.op=.load ty x)(ht:aq ty=some i)(rC:i.k.agg=true)(hx:ev S x=some (.ptr b of))(hb:B b=some cs)(bL:of<=cs.length)(K:cs.drop of=ds++rest)(Z:ds.length=i.sz):dM P o S B (.agg ds) none:=by refine uU hT ?_;rw[ho];simp only[ax,ht,hx,hb];rw[EE of cs _ bL,K];simp only[BB,rC,cond_true,<-Z];rw[QJ]
theorem Ln(hT:dh P aq){ty:TypeId}{x y:Operand}{nm of:Nat}{cs:List I}{ds:List I}{i:TI}(aZ:List I)(ho:o.op=.store ty x y)(K:o.dst=none)(ht:aq ty=some i)(hx:ev (kv s) x=some (.ptr nm of))(hb:kv b nm=some cs)(hy:ev (kv s) y=some (.agg ds))
 (Z:ds.all I.leaf=true)(T:ds.length=i.sz)(hg:gd l0 o (kv s)=some true)(bL:of+ds.length<=cs.length)(bV:stored cs of ds=aZ)(h:bw P Γ l0 Q l ⟨s,(nm,aZ)::b,g⟩):bw P Γ l0 Q (o::l) ⟨s,b,g⟩:=by
 subst bV;have wX:=QF (P:=P) (Γ:=Γ) (L:=⟨s,b,g⟩) hT ho K ht hx hb hy Z T (by first|exact bL|(show _<=_;simp only[I.cells];omega)|omega);exact xN (L:=⟨s,b,g⟩) hg wX h
theorem Xt(a:Nat):∀m:Nat,List.range (a+m)=List.range a++(List.range m).map (a+·)
 |0=>by simp
 |m+1=>by
  rw[show a+(m+1)=(a+m)+1 by omega,List.range_succ,Xt a m,List.range_succ,List.map_append,List.append_assoc]
  rfl
theorem V5(z:Array Value)(hz:0<z.size):∀n:Nat,(List.range (n*z.size)).map (λ j=>z[j%z.size]!)=(List.replicate n z.toList).flatten
 |0=>by simp
 |n+1=>by
  rw[show(n+1)*z.size=z.size+n*z.size by rw[Nat.add_mul];omega,Xt,List.map_append,List.map_map,List.replicate_succ,List.flatten_cons,<-V5 z hz n]
  congr 1
  ·apply List.ext_getElem
   ·simp
   ·intro j h1 u;simp only[List.length_map,List.length_range] at h1;simp[Nat.mod_eq_of_lt h1,h1]
  ·apply List.map_congr_left;intro j _;simp[Function.comp]
theorem Gx(hT:dh P aq)(nm:Nat){ty el:TypeId}{z1 z2:Nat}{z3:Value}{i:TI}{x y:Operand}{k iJ:IntKind}{n m:Int}{c:Nat}(cs:List I)(ho:o.op=.makeSlice ty x y)(ht:aq ty=some ⟨.slice el,z1,z2,z3⟩)(dO:aq el=some i)(iH:Nat.beq i.zero.cells.size i.sz=true)(pR:Nat.blt 0 i.sz=true)
 (hx:ev S x=some (.p (.raw (.int k n))))(hy:ev S y=some (.p (.raw (.int iJ m))))(hn:n=c)(hm:m=c)(hb:c*i.bytes<=140737488355328)(gI:c<=maxLen)(bV:(List.replicate c (i.zero.cells.toList.map qr)).flatten=cs):dM P o S B (.arr nm 0 c c) (some (nm,cs)):=by
 subst hn;subst hm;subst bV;intro a e T c6;have h1:=dg (T.1 x (by rw[ho];simp[Op.operands]) _ hx);have u:=dg (T.1 y (by rw[ho];simp[Op.operands]) _ hy);obtain⟨d0,ep,hk⟩:=hT.desc ty _ ht;cases d0<;>simp only[km,reduceCtorEq,TK.slice.injEq] at hk
 rw[hk] at ep;obtain⟨gO,nC,hsz,fQ,hz⟩:=hT.info _ i dO;have afR:=Nat.eq_of_beq_eq_true iH;have amv:0<i.sz:=by simpa[Nat.blt_eq] using pR
 have Iv:(gO.bytes:Int)*(c:Int)<=281474976710656:=by
  have:((c*i.bytes:Nat):Int)<=140737488355328:=by omega
  rw[Int.natCast_mul,Int.mul_comm] at this;rw[fQ];omega
 have cS:=run_make (P:=P) e.w ty el gO i.zero ep nC hz k iJ c c (Int.natCast_nonneg c) (by omega) Iv (by unfold maxLen at gI;omega);have aeT:madeCells i.zero.cells (c*i.sz)=(List.replicate c i.zero.cells.toList).flatten.toArray:=by rw[<-V5 i.zero.cells (by omega) c,<-afR];apply Array.ext';simp[madeCells]
 rw[Int.toNat_natCast,hsz,aeT] at cS;unfold Oper.wp;have e1:(execOp a.eval o).run P e.w=.ok (.value (.slice (some ⟨e.w.heap.size,0,none⟩) c c)) (e.w.alloc (.cells (List.replicate c i.zero.cells.toList).flatten.toArray el)):=by obtain⟨dst,op,type,pos,after,guard⟩:=o;simp only at ho;subst ho;simp[execOp,h1,u,cS]
 rw[e1];have hg:=aE.v8 e (.cells (List.replicate c i.zero.cells.toList).flatten.toArray el) (some 0);have iT:(e.alloc (.cells (List.replicate c i.zero.cells.toList).flatten.toArray el) (some 0)).bx nm=none:=by rw[hg.bx];exact c6 _ rfl
 refine⟨_,(e.alloc (.cells (List.replicate c i.zero.cells.toList).flatten.toArray el) (some 0)).jr nm e.w.heap.size,rfl,rfl,_,e.w.heap.size,hg,Nat.le_refl _,by simp[aE.alloc],by simp[aE.alloc],rfl,⟨e.w.heap.size,(List.replicate c i.zero.cells.toList).flatten,el,by simp[aE.jr],heap_alloc_new e.w _,?_⟩,.arr (by simp[aE.jr])⟩;have IP:(List.replicate c (i.zero.cells.toList.map qr)).flatten=((List.replicate c i.zero.cells.toList).flatten).map qr:=by rw[List.map_flatten,List.map_replicate]
 rw[IP];refine⟨by simp,λ j v d hv K=>?_⟩;rw[List.getElem?_map,hv] at K;cases K;exact HV _ _
end
end Go.Proofs.YtkkldicehapklaaGreat
end
section
namespace Go.Proofs.YtkkldicehapklaaGreat
open Go.Proofs.Tryz
open Go.RowKit
def Hx(O:Array MapEntry)(es:List Int):Prop:=O.toList.map (λ x=>(x.key,x.val))=es.map (λ n=>(Value.int .i64 n,Value.bool true))
theorem Mw:∀(O:List MapEntry)(es:List Int)(n:Int)(i:Nat),O.map (λ x=>(x.key,x.val))=es.map (λ n=>(Value.int .i64 n,Value.bool true))->
 (n∉es/\Instr.findNow (.int .i64) (.int .i64 n) O i=some none)\/(n∈es/\∃j,Instr.findNow (.int .i64) (.int .i64 n) O i=some (some (j,.bool true)))
 |[],[],n,i,_=>.inl ⟨by simp,rfl⟩
 |[],_::_,n,i,h=>by simp at h
 |_::_,[],n,i,h=>by simp at h
 |x::O,m::es,n,i,h=>by
  simp only[List.map_cons,List.cons.injEq,Prod.mk.injEq] at h;obtain⟨⟨h1,u⟩,J⟩:=h
  by_cases hn:n=m
  ·subst hn;exact .inr ⟨by simp,i,by simp[Instr.findNow,Instr.sameNow,h1,u]⟩
  ·have T:Instr.sameNow (.int .i64) (.int .i64 n) x.key=some false:=by
    rw[h1];simp[Instr.sameNow,hn]
   rcases Mw O es n (i+1) J with⟨h4,h5⟩|⟨h4,j,h5⟩
   ·exact .inl ⟨by simp[hn,h4],by simp[Instr.findNow,T,h5]⟩
   ·exact .inr ⟨by simp[h4],j,by simp[Instr.findNow,T,h5]⟩
structure oM(Γ eR:bX)(r:Nat)(es:List Int):Prop where
 kept:oN Γ.own Γ.w0 eR.w0
 cl:∀k,k<Γ.w0.heap.size->¬Γ.own k->eR.kV k=Γ.kV k
 own:∀k,eR.own k->Γ.own k\/Γ.w0.heap.size<=k
 obj:∃O ck,eR.w0.heap[r]?=some (.map O ck)/\Hx O es
 nr:¬eR.own r
 base:Γ.w0.heap.size<=r
section
variable{P:Program}{aq:Nat->Option TI}{n:Nat}{w0:World}{kV:Nat->Option Nat}{own:Nat->Prop}{kb:List (Nat×Nat)}{dr:List Deferred}{r:Nat}
theorem oM.back{aA:World}{bI:Nat->Option Nat}{cR:Nat->Prop}{es:List Int}(h:oM ⟨n,w0,kV,own,kb,dr⟩ ⟨n,aA,bI,cR,kb,dr⟩ r es){e:aE}(he:gV ⟨n,aA,bI,cR,kb,dr⟩ e):gV ⟨n,w0,kV,own,kb,dr⟩ e:=by
 have cv:∀k,k<w0.heap.size->¬own k->¬cR k:=λ k hk ho cY=>by
  rcases h.own k cY with h1|h1
  ·exact ho h1
  ·exact absurd h1 (by simp only;omega)
 have hsz:=h.kept.size;simp only at hsz;have hold:∀k,aA.heap.size<=k\/cR k->w0.heap.size<=k\/own k:=λ k hk=>by
  rcases hk with hk|hk
  ·exact .inl (Nat.le_trans hsz hk)
  ·exact(h.own k hk).symm
 refine⟨⟨he.kept.os.trans h.kept.os,he.kept.tape.trans h.kept.tape,he.kept.output.trans h.kept.output,Nat.le_trans hsz he.kept.size,λ k hk ho=>?_⟩,λ k hk ho=>?_,λ b k hb=>?_,he.inj,λ k g hg=>?_,he.kb⟩
 ·exact(he.kept.block k (Nat.lt_of_lt_of_le hk hsz) (cv k hk ho)).trans (h.kept.block k hk ho)
 ·exact(he.cl k (Nat.lt_of_lt_of_le hk hsz) (cv k hk ho)).trans (h.cl k hk ho)
 ·obtain⟨h1,u,J⟩:=he.bx b k hb;exact⟨h1,hold k u,J⟩
 ·obtain⟨aa,cur,h1,u,J,h4⟩:=he.gr k g hg;exact⟨aa,cur,h1,u,hold k J,h4⟩
theorem oM.qq{aA:World}{bI:Nat->Option Nat}{cR:Nat->Prop}{es:List Int}(h:oM ⟨n,w0,kV,own,kb,dr⟩ ⟨n,aA,bI,cR,kb,dr⟩ r es){L:St}{e:aE}{a:Act}(F:bE ⟨n,aA,bI,cR,kb,dr⟩ L e a):bE ⟨n,w0,kV,own,kb,dr⟩ L e a:=
 ⟨F.size,F.df,F.dj,F.boxes,F.ee,F.gs,h.back F.env⟩
theorem oM.now{aA:World}{bI:Nat->Option Nat}{cR:Nat->Prop}{es:List Int}(h:oM ⟨n,w0,kV,own,kb,dr⟩ ⟨n,aA,bI,cR,kb,dr⟩ r es){e:aE}(he:gV ⟨n,aA,bI,cR,kb,dr⟩ e):∃O ck,e.w.heap[r]?=some (.map O ck)/\Hx O es:=by obtain⟨O,ck,h1,u⟩:=h.obj;have hr:r<aA.heap.size:=tY h1;exact⟨O,ck,(he.kept.block r hr h.nr).trans h1,u⟩
theorem oM.next{aA:World}{bI:Nat->Option Nat}{cR:Nat->Prop}{es EJ:List Int}(h:oM ⟨n,w0,kV,own,kb,dr⟩ ⟨n,aA,bI,cR,kb,dr⟩ r es){L:St}{e:aE}{a:Act}(F:bE ⟨n,aA,bI,cR,kb,dr⟩ L e a){O:Array MapEntry}{ck:Nat}(hm:Hx O EJ):
 ∃w2 oU pq,oM ⟨n,w0,kV,own,kb,dr⟩ ⟨n,w2,oU,pq,kb,dr⟩ r EJ/\∃e2:aE,e2.w={e.w with heap:=e.w.heap.setIfInBounds r (.map O ck)}/\bE ⟨n,w2,oU,pq,kb,dr⟩ L e2 a:=by
 obtain⟨amB,alj,hold,_⟩:=h.now F.env;have hb:=h.back F.env;obtain⟨amC,alk,A9,_⟩:=h.obj;have mx:r<aA.heap.size:=tY A9;obtain⟨ox,iq⟩:=MapKept.heap_set (o':=.map O ck) hold;have CM:∀b k,e.bx b=some k->k≠r:=λ b k hk he=>by
  subst he;rcases(F.env.bx b k hk).2.1 with h1|h1
  ·exact absurd mx (Nat.not_lt.2 h1)
  ·exact h.nr h1
 have yk:∀k g,e.gr k=some g->k≠r:=λ k g hk he=>by
  subst he;obtain⟨_,_,_,_,h1,_⟩:=F.env.gr k g hk;rcases h1 with h1|h1
  ·exact absurd mx (Nat.not_lt.2 h1)
  ·exact h.nr h1
 let w2:World:={e.w with heap:=e.w.heap.setIfInBounds r (.map O ck)}
 have Bo:w2.heap.size=e.w.heap.size:=by simp[w2]
 let e2:aE:={e with w:=w2}
 have yh:∀b o v,e.w.cell? ⟨b,o,none⟩=some v->b≠r:=λ b o v hv he=>by
  subst he;simp[World.cell?,hold] at hv
 have Y:Ends e e2:=by
  refine⟨λ b o v h1 u=>⟨h1,?_⟩,λ _ _ h=>h,λ _ aa h=>⟨aa,h,rfl,rfl,Nat.le_refl _⟩,λ k g aa cur h1 u J=>⟨h1,cur,?_,rfl⟩⟩
  ·rw[World.cell?_of_block (w:=e.w) (iq b (yh b o v u))];exact u
  ·show(e.w.heap.setIfInBounds r (.map O ck))[k]?=_;rw[iq k (yk k g h1)];exact J
 refine⟨w2,e.cl,λ k=>k≠r/\(own k\/w0.heap.size<=k),⟨⟨hb.kept.os,hb.kept.tape,hb.kept.output,by rw[Bo];exact hb.kept.size,λ k hk ho=>?_⟩,hb.cl,λ k hk=>hk.2,⟨O,ck,ox,hm⟩,λ hk=>hk.1 rfl,h.base⟩,e2,rfl,⟨F.size,F.df,λ t d ht=>(F.dj t d ht).next Y,λ b cs hb=>?_,F.ee,F.gs,?_⟩⟩
 ·have vh:k≠r:=λ he=>by
   subst he;exact absurd hk (Nat.not_lt.2 h.base)
  exact(iq k vh).trans (hb.kept.block k hk ho)
 ·obtain⟨k,vs,el,h1,u,J⟩:=F.boxes b cs hb;exact⟨k,vs,el,h1,(iq k (CM b k h1)).trans u,J.next Y⟩
 ·refine⟨oN.refl _ _,λ _ _ _=>rfl,λ b k hk=>?_,F.env.inj,λ k g hg=>?_,F.env.kb⟩
  ·obtain⟨h1,u,J⟩:=hb.bx b k hk;exact⟨by show k<w2.heap.size;rw[Bo];exact h1,.inr ⟨CM b k hk,u.symm⟩,J⟩
  ·obtain⟨aa,cur,h1,u,J,h4,h5⟩:=hb.gr k g hg;exact⟨aa,cur,h1,by show k<w2.heap.size;rw[Bo];exact u,.inr ⟨yk k g hg,J.symm⟩,h4,(iq k (yk k g hg)).trans h5⟩
def K3(n:Nat)(w0:World)(kV:Nat->Option Nat)(own:Nat->Prop)(kb:List (Nat×Nat))(dr:List Deferred)(r:Nat)(Q:Exit->List Int->St->Prop):Exit->Act->World->Prop:=λ x a w=>∃aA bI cR es L e,oM ⟨n,w0,kV,own,kb,dr⟩ ⟨n,aA,bI,cR,kb,dr⟩ r es/\e.w=w/\bE ⟨n,aA,bI,cR,kb,dr⟩ L e a/\Q x es L
structure tq(P:Program)(Γ:bX)(r:Nat)(c:Code)(Q:Exit->List Int->St->Prop)(es:List Int)(L:St):Prop where
 run:∀aA bI cR,oM Γ ⟨Γ.n,aA,bI,cR,Γ.kb,Γ.dr⟩ r es->∀a e,bE ⟨Γ.n,aA,bI,cR,Γ.kb,Γ.dr⟩ L e a->c.wp P (K3 Γ.n Γ.w0 Γ.kV Γ.own Γ.kb Γ.dr r Q) a e.w
variable{Q:Exit->List Int->St->Prop}{c x y:Code}{es:List Int}{L:St}{Γ:bX}
theorem Gz(h:∀aA bI cR,oM Γ ⟨Γ.n,aA,bI,cR,Γ.kb,Γ.dr⟩ r es->a8 P ⟨Γ.n,aA,bI,cR,Γ.kb,Γ.dr⟩ c (λ x bQ=>Q x es bQ) L):tq P Γ r c Q es L:=⟨λ aA bI cR hi a e F=>Code.wp_mono (λ ex bF w1 hh=>by obtain⟨bQ,ae,h1,u,J⟩:=hh;exact⟨aA,bI,cR,es,bQ,ae,hi,h1,u,J⟩) ((h aA bI cR hi).run a e F)⟩
def JC(aB:List Int->St->Prop)(Q:Exit->List Int->St->Prop):Exit->List Int->St->Prop
 |.normal,es,L=>aB es L
 |ex,es,L=>Q ex es L
theorem JN(h:tq P Γ r x (JC (λ es L=>tq P Γ r y Q es L) Q) es L):tq P Γ r (.seq x y) Q es L:=⟨λ aA bI cR hi a e F=>by
 refine wp_seq (Code.wp_mono (λ ex bF w1 hh=>?_) (h.run aA bI cR hi a e F));obtain⟨w2,oU,pq,xZ,sm,e2,h1,rfl,J,h4⟩:=hh;cases ex with
 |normal=>exact h4.run w2 oU pq h1 bF e2 J
 |_=>exact⟨w2,oU,pq,xZ,sm,e2,h1,rfl,J,h4⟩⟩
def JB(id:Nat)(Q:Exit->List Int->St->Prop):Exit->List Int->St->Prop
 |.exit pf,es,L=>if pf=id then Q .normal es L else Q (.exit pf) es L
 |ex,es,L=>Q ex es L
theorem Wg{id:Nat}(h:tq P Γ r c (JB id Q) es L):tq P Γ r (.block id c) Q es L:=⟨λ aA bI cR hi a e F=>by
 refine wp_block (Code.wp_mono (λ ex bF w1 hh=>?_) (h.run aA bI cR hi a e F));obtain⟨w2,oU,pq,xZ,sm,e2,h1,rfl,J,h4⟩:=hh;cases ex with
 |exit pf=>
  simp only[JB] at h4;simp only[Exit.inBlock];split
  ·rename_i AY;rw[if_pos AY] at h4;exact⟨w2,oU,pq,xZ,sm,e2,h1,rfl,J,h4⟩
  ·rename_i AY;rw[if_neg AY] at h4;exact⟨w2,oU,pq,xZ,sm,e2,h1,rfl,J,h4⟩
 |_=>exact⟨w2,oU,pq,xZ,sm,e2,h1,rfl,J,h4⟩⟩
theorem ahi{fg:Type}(ok:fg->Prop)(jN:fg->St)(E:fg->List Int)(m8:fg->Nat)(i0:fg)(hk:ok i0)(he:E i0=es)(h0:∀aA bI cR,eI ⟨Γ.n,aA,bI,cR,Γ.kb,Γ.dr⟩ L (jN i0))
 (G8:∀i,ok i->tq P Γ r c (JC (λ EJ bQ=>∃j,ok j/\m8 j<m8 i/\EJ=E j/\∀aA bI cR,eI ⟨Γ.n,aA,bI,cR,Γ.kb,Γ.dr⟩ bQ (jN j)) Q) (E i) (jN i)):tq P Γ r (.loop c) Q es L:=by
 refine⟨λ aA bI cR hi a e F=>?_⟩;obtain⟨e0,h1,u⟩:=h0 aA bI cR a e F;rw[<-h1];have key:∀n i,ok i->m8 i<n->∀aA bI cR,oM Γ ⟨Γ.n,aA,bI,cR,Γ.kb,Γ.dr⟩ r (E i)->∀a e,bE ⟨Γ.n,aA,bI,cR,Γ.kb,Γ.dr⟩ (jN i) e a->Code.rounds P c (K3 Γ.n Γ.w0 Γ.kV Γ.own Γ.kb Γ.dr r Q) n a e.w:=by
  intro n;induction n with
  |zero=>intro i _ hi;omega
  |succ n ih=>
   intro i aV hi aA bI cR hm a e F;rw[rounds_succ];refine Code.wp_mono (λ ex bF w1 hh=>?_) ((G8 i aV).run aA bI cR hm a e F);obtain⟨w2,oU,pq,xZ,sm,e2,h1,rfl,J,h4⟩:=hh;cases ex with
   |normal=>obtain⟨j,aev,hj,rfl,hg⟩:=h4;obtain⟨e3,h5,h6⟩:=hg w2 oU pq bF e2 J;show Code.rounds P c _ n bF e2.w;rw[<-h5];exact ih j aev (by omega) w2 oU pq h1 bF e3 h6
   |_=>exact⟨w2,oU,pq,xZ,sm,e2,h1,rfl,J,h4⟩
 exact wp_loop_rounds (m8 i0+1) (key _ i0 hk (by omega) aA bI cR (by rw[he];exact hi) a e0 u)
theorem ZK{l0 l:List Oper}{Q:Exit->St->Prop}{o:Oper}{s:List (Nat×I)}{b:List (Nat×List I)}{g:List (Nat×Gr)}{t mt kt et:Nat}{aA:World}{bI:Nat->Option Nat}{cR:Nat->Prop}{x y:Operand}{m:Int}{i:TI}(hT:dh P aq)(hi:oM ⟨n,w0,kV,own,kb,dr⟩ ⟨n,aA,bI,cR,kb,dr⟩ r es)
 (ho:o.op=.lookup mt x y false)(hm:P.underlying mt=some (.map kt et))(nE:P.underlying kt=some (.int .i64))(NI:aq et=some i)(hz:i.zero=.bool false)(hx:ev (kv s) x=some (.p (.raw (.map (some r)))))(hy:ev (kv s) y=some (M m))(hg:gd l0 o (kv s)=some true)(K:o.dst=some t)(Z:Nat.blt t n=true)
 (h:bw P ⟨n,aA,bI,cR,kb,dr⟩ l0 Q l ⟨(t,dB (decide (m∈es)))::s,b,g⟩):bw P ⟨n,aA,bI,cR,kb,dr⟩ l0 Q (o::l) ⟨s,b,g⟩:=by
 refine xN (L:=⟨s,b,g⟩) hg (λ a e F=>?_) h;have T:=F.jd o.op.operands;have h1:=dg (T.1 x (by rw[ho];simp[Op.operands]) _ hx);have u:=dg (T.1 y (by rw[ho];simp[Op.operands]) _ hy);obtain⟨O,ck,J,h4⟩:=hi.now F.env;have hk:MapKept.IsKey (.int .i64) (.int .i64 m):=rfl;have cS:(execOp a.eval o).run P e.w=.ok (.value (.bool (decide (m∈es)))) e.w:=by
  obtain⟨dst,op,type,pos,after,guard⟩:=o;simp only at ho;subst ho;rcases Mw O.toList es m 0 h4 with⟨h5,h6⟩|⟨h5,j,h6⟩
  ·simp[execOp,Instr.lookup,h1,u,run_underlying hm,MapKept.run_getObj_map J,MapKept.run_checkKey nE hk,MapKept.run_findKey nE h6,DM hT NI,hz,h5]
  ·simp[execOp,Instr.lookup,h1,u,run_underlying hm,MapKept.run_getObj_map J,MapKept.run_checkKey nE hk,MapKept.run_findKey nE h6,h5]
 unfold Oper.wp;rw[cS];have:=F.put (dst:=o.dst) (v:=.bool (decide (m∈es))) (d:=dB (decide (m∈es))) (by rw[K];exact Z) (.p (.raw _));rw[K] at this;exact⟨e,rfl,by rw[K];exact this⟩
structure Ca(P:Program)(Γ:bX)(r:Nat)(l0:List Oper)(Q:Exit->List Int->St->Prop)(l:List Oper)(es:List Int)(L:St):Prop where
 run:∀aA bI cR,oM Γ ⟨Γ.n,aA,bI,cR,Γ.kb,Γ.dr⟩ r es->∀a e,bE ⟨Γ.n,aA,bI,cR,Γ.kb,Γ.dr⟩ L e a->wpList P l0.toArray (K3 Γ.n Γ.w0 Γ.kV Γ.own Γ.kb Γ.dr r Q) l a e.w
theorem ahj{id:Nat}{l:List Oper}(h:Ca P Γ r l Q l es L):tq P Γ r (.region id l.toArray false) Q es L:=⟨λ aA bI cR hi a e F=>wp_region_lit (h.run aA bI cR hi a e F)⟩
variable{l0 l:List Oper}{o:Oper}
theorem agZ(h:Q .normal es L):Ca P Γ r l0 Q [] es L:=⟨λ aA bI cR hi _ e F=>⟨aA,bI,cR,es,L,e,hi,rfl,F,h⟩⟩
theorem V4{s:List (Nat×I)}{b:List (Nat×List I)}{g:List (Nat×Gr)}{t:Nat}{d:I}(hT:dh P aq)(hq:ax aq (kv s) (kv b) o.op=some d)(hg:gd l0 o (kv s)=some true)(K:o.dst=some t)(Z:Nat.blt t Γ.n=true)(h:Ca P Γ r l0 Q l es ⟨(t,d)::s,b,g⟩):Ca P Γ r l0 Q (o::l) es ⟨s,b,g⟩:=by refine⟨λ aA bI cR hi a e F=>?_⟩;unfold wpList;rw[if_pos (mm F hg)];have bY:Cb P ⟨Γ.n,aA,bI,cR,Γ.kb,Γ.dr⟩ o ⟨s,b,g⟩ _:=dM.step (L:=⟨s,b,g⟩) (uU hT hq) (rl K Z) (λ p G=>by cases G);refine .inl (y8 (bY a e F) λ bF w1 hh=>?_);obtain⟨ae,rfl,d4⟩:=hh;rw[K] at d4;exact h.run aA bI cR hi bF ae d4
theorem ag0{s:List (Nat×I)}{b:List (Nat×List I)}{g:List (Nat×Gr)}{mt kt et:Nat}{x y z:Operand}{m:Int}(ho:o.op=.mapUpdate mt x y z)(K:o.dst=none)(hm:P.underlying mt=some (.map kt et))(nE:P.underlying kt=some (.int .i64))(hx:ev (kv s) x=some (.p (.raw (.map (some r)))))(hy:ev (kv s) y=some (M m))(hz:ev (kv s) z=some (dB true))(hg:gd l0 o (kv s)=some true)(hn:m∉es)
 (h:Ca P Γ r l0 Q l (es++[m]) ⟨s,b,g⟩):Ca P Γ r l0 Q (o::l) es ⟨s,b,g⟩:=by
 refine⟨λ aA bI cR hi a e F=>?_⟩;obtain⟨n,w0,kV,own,kb,dr⟩:=Γ;unfold wpList;rw[if_pos (mm F hg)];have T:=F.jd o.op.operands;have h1:=dg (T.1 x (by rw[ho];simp[Op.operands]) _ hx);have u:=dg (T.1 y (by rw[ho];simp[Op.operands]) _ hy);have cj:=dg (T.1 z (by rw[ho];simp[Op.operands]) _ hz);obtain⟨O,ck,J,h4⟩:=hi.now F.env;have hk:MapKept.IsKey (.int .i64) (.int .i64 m):=rfl;obtain⟨w2,oU,pq,CX,e2,wE,fI⟩:=hi.next F (EJ:=es++[m]) (O:=O.push {key:=.int .i64 m,val:=.bool true,born:=ck}) (ck:=ck+1) (by
  unfold Hx at h4⊢;simp[h4])
 have cS:(execOp a.eval o).run P e.w=.ok .skip {e.w with heap:=e.w.heap.setIfInBounds r (.map (O.push {key:=.int .i64 m,val:=.bool true,born:=ck}) (ck+1))}:=by
  obtain⟨dst,op,type,pos,after,guard⟩:=o;simp only at ho;subst ho;rcases Mw O.toList es m 0 h4 with⟨h5,h6⟩|⟨h5,j,h6⟩
  ·simp[execOp,Instr.mapUpdate,h1,u,cj,run_underlying hm,MapKept.run_getObj_map J,MapKept.run_checkKey nE hk,MapKept.run_findKey nE h6,MapKept.run_setObj_map _ J]
  ·exact absurd h5 hn
 refine .inl ?_;unfold Oper.wp;rw[cS,<-wE];have:=h.run w2 oU pq CX a e2 fI;show wpList P _ _ l (a.put o.dst undef) e2.w;rw[K];exact this
theorem aaz{id mt t1 t2:Nat}{o1 o2:Oper}{rest:Code}{Q:Exit->St->Prop}{s:List (Nat×I)}{b:List (Nat×List I)}{g:List (Nat×Gr)}(ho:o1.op=.makeMap mt none)(jE:o1.guard=none)(oh:o1.dst=some t1)(fS:Nat.blt t1 Γ.n=true)(rL:o2.op=.assign (.tmp t1))(iU:o2.guard=none)(tV:o2.dst=some t2)(eV:Nat.blt t2 Γ.n=true)
 (h:∀r,tq P Γ r rest (λ x _ L=>Q x L) [] ⟨(t2,.p (.raw (.map (some r))))::(t1,.p (.raw (.map (some r))))::s,b,g⟩):a8 P Γ (.seq (.region id [o1,o2].toArray false) rest) Q ⟨s,b,g⟩:=by
 refine⟨λ a e F=>?_⟩;obtain⟨n,w0,kV,own,kb,dr⟩:=Γ;refine wp_seq (wp_region_lit ?_);unfold wpList;rw[if_pos (by unfold Region.wanted;rw[jE])];refine .inl ?_;unfold Oper.wp;have cS:(execOp a.eval o1).run P e.w=.ok (.value (.map (some e.w.heap.size))) (e.w.alloc (.map #[] 0)):=by obtain⟨dst,op,type,pos,after,guard⟩:=o1;simp only at ho;subst ho;simp[execOp,Instr.makeMap]
 rw[cS];show wpList P _ _ [o2] (a.put o1.dst _) _;have ia:=aE.v8 e (.map #[] 0) none;have c7:=(F.grow ia).put (dst:=o1.dst) (v:=.map (some e.w.heap.size)) (d:=.p (.raw (.map (some e.w.heap.size)))) (by rw[oh];exact fS) (.p (.raw _));rw[oh] at c7⊢;unfold wpList;rw[if_pos (by unfold Region.wanted;rw[iU])];refine .inl ?_;unfold Oper.wp;have kI:(a.put (some t1) (.map (some e.w.heap.size))).eval (.tmp t1)=.map (some e.w.heap.size):=dg ((c7.jd #[.tmp t1]).1 (.tmp t1) (by simp) _ (by simp[ev,St.put,dc]));have Bm:(execOp (a.put (some t1) (.map (some e.w.heap.size))).eval o2).run P (e.w.alloc (.map #[] 0))=.ok (.value (.map (some e.w.heap.size))) (e.w.alloc (.map #[] 0)):=by obtain⟨dst,op,type,pos,after,guard⟩:=o2;simp only at rL;subst rL;simp[execOp,kI]
 rw[Bm];have fI:=c7.put (dst:=o2.dst) (v:=.map (some e.w.heap.size)) (d:=.p (.raw (.map (some e.w.heap.size)))) (by rw[tV];exact eV) (.p (.raw _));rw[tV] at fI;simp only[Oper.upon];rw[tV];have lh:(e.w.alloc (.map #[] 0)).heap[e.w.heap.size]?=some (.map #[] 0):=(MapKept.heap_alloc e.w _).1;have CM:∀b k,(e.alloc (.map #[] 0) none).bx b=some k->k≠e.w.heap.size:=λ b k hk he=>by
  have:=(F.env.bx b k hk).1;omega
 have yk:∀k g,(e.alloc (.map #[] 0) none).gr k=some g->k≠e.w.heap.size:=λ k g hk he=>by
  obtain⟨_,_,_,h1,_⟩:=F.env.gr k g hk;omega
 have aV:gV ⟨n,w0,kV,own,kb,dr⟩ (e.alloc (.map #[] 0) none):=fI.env;have hi:oM ⟨n,w0,kV,own,kb,dr⟩ ⟨n,e.w.alloc (.map #[] 0),(e.alloc (.map #[] 0) none).cl,λ k=>k≠e.w.heap.size/\(own k\/w0.heap.size<=k),kb,dr⟩ e.w.heap.size []:=
  ⟨aV.kept,aV.cl,λ k hk=>hk.2,⟨#[],0,lh,rfl⟩,λ hk=>hk.1 rfl,F.env.kept.size⟩
 have n9:bE ⟨n,e.w.alloc (.map #[] 0),(e.alloc (.map #[] 0) none).cl,λ k=>k≠e.w.heap.size/\(own k\/w0.heap.size<=k),kb,dr⟩ ⟨(t2,.p (.raw (.map (some e.w.heap.size))))::(t1,.p (.raw (.map (some e.w.heap.size))))::s,b,g⟩ (e.alloc (.map #[] 0) none) ((a.put (some t1) (.map (some e.w.heap.size))).put (some t2) (.map (some e.w.heap.size))):=by
  refine⟨fI.size,fI.df,fI.dj,fI.boxes,fI.ee,fI.gs,⟨oN.refl _ _,λ _ _ _=>rfl,λ b k hk=>?_,aV.inj,λ k g hg=>?_,aV.kb⟩⟩
  ·obtain⟨h1,u,J⟩:=aV.bx b k hk;exact⟨h1,.inr ⟨CM b k hk,u.symm⟩,J⟩
  ·obtain⟨aa,cur,h1,u,J,h4,h5⟩:=aV.gr k g hg;exact⟨aa,cur,h1,u,.inr ⟨yk k g hg,J.symm⟩,h4,h5⟩
 refine Code.wp_mono (λ ex bF w1 hh=>?_) ((h e.w.heap.size).run _ _ _ hi _ _ n9);obtain⟨w2,oU,pq,xZ,sm,e2,k1,k2,k3,k4⟩:=hh;exact⟨sm,e2,k2,k1.qq k3,k4⟩
theorem Dr{aB:List Int->St->Prop}(h:aB es L):JC aB Q .normal es L:=h
theorem JM{aB:List Int->St->Prop}{id:Nat}(h:Q (.exit id) es L):JC aB Q (.exit id) es L:=h
theorem ag9{id:Nat}(h:Q .normal es L):JB id Q .normal es L:=h
theorem Wb{id:Nat}(h:Q .normal es L):JB id Q (.exit id) es L:=by show(if id=id then _ else _);rw[if_pos rfl];exact h
end
end Go.Proofs.YtkkldicehapklaaGreat
end
section
namespace Go.Proofs.YtkkldicehapklaaGreat
open Go.Proofs.Tryz
open Go.RowKit
section
variable{P:Program}{aq:Nat->Option TI}{Γ:bX}{o:Oper}{l0 l:List Oper}
variable{s:List (Nat×I)}{b:List (Nat×List I)}{g:List (Nat×Gr)}{t:Nat}
theorem gV.Lt{e:aE}(aV:gV Γ e){gn:Nat}(eZ:e.gi gn=none){el sz n k:Nat}{cur:Array Value}(eN:Γ.w0.heap.size<=k)(fR:k<e.w.heap.size)(lW:e.cl k=some (n*sz))(FA:e.gr k=none)(NV:∀b,e.bx b≠some k)(NW:e.w.heap[k]?=some (.cells cur el (0,0))):
 gV Γ {e with gr:=λ j=>if j=k then some gn else e.gr j,gi:=λ h=>if h=gn then some ⟨el,sz,n⟩ else e.gi h}/\Ends e {e with gr:=λ j=>if j=k then some gn else e.gr j,gi:=λ h=>if h=gn then some ⟨el,sz,n⟩ else e.gi h}:=by
 have pO:∀k,e.gr k≠some gn:=λ k hk=>by obtain⟨aa,_,h,_⟩:=aV.gr k gn hk;rw[eZ] at h;cases h
 have Y:Ends e {e with gr:=λ j=>if j=k then some gn else e.gr j,gi:=λ h=>if h=gn then some ⟨el,sz,n⟩ else e.gi h}:=by
  refine⟨λ _ _ _ h1 u=>⟨h1,u⟩,λ _ _ h=>h,λ bg aa h=>⟨aa,?_,rfl,rfl,Nat.le_refl _⟩,λ j bg aa fj h1 u J=>⟨?_,fj,J,rfl⟩⟩
  ·show(if bg=gn then _ else e.gi bg)=_;rw[if_neg (λ ae=>by rw[ae,eZ] at h;cases h)];exact h
  ·show(if j=k then some gn else e.gr j)=_;rw[if_neg (λ ae=>by rw[ae,FA] at h1;cases h1)];exact h1
 refine⟨⟨aV.kept,aV.cl,λ b j hj=>?_,aV.inj,λ j bg hj=>?_,aV.kb⟩,Y⟩
 ·obtain⟨h1,u,J,h4⟩:=aV.bx b j hj;refine⟨h1,u,J,?_⟩;show(if j=k then some gn else e.gr j)=none;rw[if_neg (λ ae=>NV b (by rw[<-ae];exact hj))];exact h4
 ·have fb:(if j=k then some gn else e.gr j)=some bg:=hj;split at fb
  ·rename_i kF;cases fb;exact⟨⟨el,sz,n⟩,cur,by show(if gn=gn then _ else _)=_;simp,by rw[kF];exact fR,.inl (by rw[kF];exact eN),by rw[kF];exact lW,by rw[kF];exact NW⟩
  ·obtain⟨aa,fj,h1,u⟩:=aV.gr j bg fb;exact⟨aa,fj,by show(if bg=gn then _ else e.gi bg)=_;rw[if_neg (λ ae=>pO j (by rw[<-ae];exact fb))];exact h1,u⟩
theorem acY{f:FuncId}{S:Nat->Option I}(gn:Nat){el sz n:Nat}{ps:List Pl}{ds:List I}{xs:List Operand}{fa:Array TypeId}(hC:v6 P f ds el sz n ps)(ho:o.op=.call {callee:=.value (.func f),args:=xs.toArray,argTypes:=fa})(hf:jM P f)(he:i3 S xs I.low.jY=some ds)(cG:ps.length=n*sz):GStep P o S gn none ⟨el,sz,n⟩ (.bP gn n ps):=by
 intro Γ a e aV T eZ;obtain⟨jv,h1,u⟩:=tG (a:=a) (e:=e) xs _ ds (λ x hx=>T x (by rw[ho];simp[Op.operands,Call.operands,hx])) he;have hv:=Jz h1 u;have e1:(execOp a.eval o).run P e.w=.ok (.enter f (xs.map a.eval).toArray) e.w:=by obtain⟨dst,op,type,pos,after,guard⟩:=o;simp only at ho;subst ho;rw[execOp_call_go,hf];simp
 unfold Oper.wp;rw[e1];refine(hC e.w e.cl _ hv).mono λ r aA hh=>?_
 obtain⟨v,bI,rfl,hb,dw,hr,A,bG,rfl,oo⟩:=hh;have wO:j7 e {e with w:=aA,cl:=bI}:=⟨hb,λ k hk=>dw k hk,rfl,rfl,rfl⟩;have sN:=wO.ok aV;have qH:c5 {e with w:=aA,cl:=bI} (.slice A n bG) (.sl false n ps):=by cases hr with|p h=>exact c5.env (e:=hl aA bI) (ae:={e with w:=aA,cl:=bI}) rfl rfl h
 rcases oo with Fi|⟨k,cur,hA,k1,k2,k3,k4,k5⟩
 ·obtain⟨J,h4⟩:=sN.group (gn:=gn) eZ ⟨el,sz,n⟩;exact⟨_,_,rfl,(by rfl),wO.ends.trans h4,J,rfl,λ h=>rfl,λ c ds iD=>(wO.box iD).ends h4 rfl,.bP (qH.next h4) ⟨⟨el,sz,n⟩,A,bG,by simp,rfl,Nat.le_refl _,cG,.inl Fi⟩⟩
 ·have q1:e.gr k=none:=by
   rcases i7:e.gr k with _|bg
   ·rfl
   ·obtain⟨_,_,_,aY,_⟩:=aV.gr k bg i7;omega
  have q2:∀b,e.bx b≠some k:=λ b o0=>by have:=(aV.bx b k o0).1;omega
  obtain⟨J,h4⟩:=sN.Lt (gn:=gn) eZ (n:=n) (sz:=sz) (k:=k) (Nat.le_trans aV.kept.size k1) k2 k3 q1 q2 k4;exact⟨_,_,rfl,(by rfl),wO.ends.trans h4,J,rfl,λ h=>rfl,λ c ds iD=>(wO.box iD).ends h4 rfl,.bP (qH.next h4) ⟨⟨el,sz,n⟩,A,bG,by simp,rfl,Nat.le_refl _,cG,.inr ⟨k,hA,⟨by simp,cur,k4,k5⟩⟩⟩⟩
variable{n:Nat}{B B0:List (Nat×List I)}{aB:St->Prop}{aC:List Nat}{aR:List (Nat×Nat)}{ix:Nat}
theorem ai3{f:FuncId}(gn:Nat){el sz cO:Nat}{ps:List Pl}{ds:List I}{xs:List Operand}{fa:Array TypeId}(hC:v6 P f ds el sz cO ps)(ho:o.op=.call {callee:=.value (.func f),args:=xs.toArray,argTypes:=fa})(hf:jM P f)(he:i3 (kv s) xs I.low.jY=some ds)(hg:gd l0 o (kv s)=some true)(K:o.dst=some t)(wM:kv g gn=none)(hL:Dj o aR gn=true)(cG:ps.length=cO*sz)
 (h:co P n l0 B B0 aB (ix+1) aC ((gn,t)::aR) l ⟨(t,.bP gn cO ps)::s,b,(gn,⟨el,sz,cO⟩)::g⟩):co P n l0 B B0 aB ix aC aR (o::l) ⟨s,b,g⟩:=
 .inr (.inr (.inr ⟨gn,_,_,t,hg,K,by simp[uW,ho],hL,by rw[wM];exact acY gn hC ho hf he cG,by rw[K];exact h⟩))
theorem HG{Q:Exit->St->Prop}{x y:Code}{L:St}(I0:St)(h1:a8 P Γ x (λ ex bQ=>ex=.normal/\eI Γ bQ I0) L)(u:a8 P Γ y Q I0):a8 P Γ (.seq x y) Q L:=
 Ch (zu h1 λ ex bQ h=>by
  obtain⟨rfl,hg⟩:=h;exact iP hg u)
end
end Go.Proofs.YtkkldicehapklaaGreat
end
section
namespace Go.Proofs.YtkkldicehapklaaGreat
open Go.Proofs.Tryz
open Go.RowKit
section
variable{P:Program}{aq:Nat->Option TI}{S:Nat->Option I}{B:Nat->Option (List I)}{o:Oper}
theorem ajt{t aH:TypeId}{x y:Operand}{a b:Int}(ho:o.op=.binOp .rem t x y aH)(hx:ev S x=some (M a))(hy:ev S y=some (M b))(h1:0<b):dM P o S B (M (a.tmod b)) none:=by
 refine jZ λ ac e T=>?_
 have di:=dg (T.1 x (by rw[ho];simp[Op.operands]) _ hx);have fp:=dg (T.1 y (by rw[ho];simp[Op.operands]) _ hy);refine⟨_,?_,.p (.raw _)⟩;obtain⟨dst,op,type,pos,after,guard⟩:=o;simp only at ho;subst ho;have hb:¬b=0:=by omega
 simp[execOp,di,fp,eqGuard,binOp,Op.intDiv,hb]
theorem akq(a b:Int)(hb:0<b):(a.tmod b<0->a.tmod b+b=a%b)/\(¬a.tmod b<0->a.tmod b=a%b):=by
 have h:=Int.tmod_eq_emod (a:=a) (b:=b);have h0:=Int.emod_nonneg a (show b≠0 by omega);have h1:=Int.emod_lt_of_pos a hb;split at h
 ·omega
 ·rename_i hn;have aW:a%b≠0:=λ e=>hn (.inr (Int.dvd_of_emod_eq_zero e))
  omega
end
end Go.Proofs.YtkkldicehapklaaGreat
end
section
namespace Go.Proofs.YtkkldicehapklaaGreat
open Go.Proofs.Tryz
open Go.RowKit
section
variable{P:Program}{Γ:bX}{Q:Exit->St->Prop}
theorem Zd{o:Oper}{a:Act}{w:World}{aB:Act->World->Prop}{Q jB:Exit->Act->World->Prop}(hq:∀ex a w,ex≠.normal->Q ex a w->jB ex a w)(h:o.wp P a w aB Q):o.wp P a w aB jB:=by
 unfold Oper.wp at*;generalize(execOp a.eval o).run P w=r at*;cases r with
 |ok n aA=>
  cases n<;>simp only[Oper.upon] at h⊢<;>first
   |exact h
   |exact Calls.mono h (λ e nU he=>by
    cases e with
    |returned v=>exact he
    |panicked ch=>exact hq _ _ _ (by simp) he
    |outgrown=>obtain⟨a2,w2,hh⟩:=he;exact⟨a2,w2,hq _ _ _ (by simp) hh⟩)
 |halt x aA=>cases x<;>simp only[Oper.upon] at h⊢<;>first|exact hq _ _ _ (by simp) h|exact h
theorem QT{ops:Array Oper}{i:Nat}{a:Act}{w:World}{aB:Act->World->Prop}{Q jB:Exit->Act->World->Prop}(hq:∀ex a w,ex≠.normal->Q ex a w->jB ex a w)(h:wpOp P ops Q i aB a w):wpOp P ops jB i aB a w:=by
 unfold wpOp at*;split
 ·rename_i ho;simp only[ho] at h;exact h
 ·rename_i o ho;simp only[ho] at h;split
  ·rename_i hw;simp only[hw,if_true] at h;rcases h with h|⟨h1,a2,w2,u⟩
   ·exact .inl (Zd hq h)
   ·exact .inr ⟨h1,a2,w2,hq _ _ _ (by simp) u⟩
  ·rename_i hw;simp only[hw] at h;exact h
theorem QS{ops:Array Oper}{Q jB:Exit->Act->World->Prop}(hn:∀a w,Q .normal a w->jB .normal a w)(hq:∀ex a w,ex≠.normal->Q ex a w->jB ex a w):∀{l:List Oper}{a:Act}{w:World},wpList P ops Q l a w->wpList P ops jB l a w
 |[],a,w,h=>hn a w h
 |o::l,a,w,h=>by
  unfold wpList at h⊢;split
  ·rename_i hw;rw[if_pos hw] at h;rcases h with h|⟨h1,a2,w2,u⟩
   ·exact .inl (Zd hq (Oper.wp_mono (λ a w hh=>QS hn hq hh) h))
   ·exact .inr ⟨h1,a2,w2,hq _ _ _ (by simp) u⟩
  ·rename_i hw;rw[if_neg hw] at h;exact QS hn hq h
def KG(ops:Array Oper)(n m:Nat):Bool:=
 (List.range ops.size).all λ t=>decide (t<n)||(List.range (Nat.min t m)).all λ i=>match ops[t]? with
  |some o=>(o.after.any λ e=>Region.binds .any e&&e.on==i)||j3 ops ops.size t i
  |none=>true
theorem YL{ops:Array Oper}{n m:Nat}(h:KG ops n m=true){t i:Nat}{o:Oper}(ht:ops[t]?=some o)(hn:n<=t)(hi:i<t)(alZ:i<m):(∃e∈o.after,Region.binds .any e=true/\e.on=i)\/j3 ops ops.size t i=true:=by
 have iG:t<ops.size:=(Array.getElem?_eq_some_iff.1 ht).1;have h1:=List.all_eq_true.1 h t (List.mem_range.2 iG);simp only[Bool.or_eq_true,decide_eq_true_eq] at h1;have u:=h1.resolve_left (by omega);have J:=List.all_eq_true.1 u i (List.mem_range.2 (by simp only[Nat.min_def];split<;>omega));rw[ht] at J;simp only[Bool.or_eq_true] at J;rcases J with J|J
 ·obtain⟨e,he,hb⟩:=Array.any_eq_true'.1 J;simp only[Bool.and_eq_true,beq_iff_eq] at hb;exact .inl ⟨e,he,hb⟩
 ·exact .inr J
theorem aaO{ops:Array Oper}{n m:Nat}(h:KG ops n m=true)(mv:n<=m):Eo ops n=true:=by
 refine List.all_eq_true.2 λ t ht=>?_
 by_cases hn:t<n
 ·simp[hn]
 ·simp only[Bool.or_eq_true,decide_eq_true_eq];refine .inr (List.all_eq_true.2 λ i hi=>?_);cases ho:ops[t]? with
  |none=>rfl
  |some o=>
   have dk:i<n:=List.mem_range.1 hi;simp only[Bool.or_eq_true];rcases YL h ho (by omega) (show i<t by omega) (by omega) with⟨e,he,h1,u⟩|h1
   ·refine .inl (Array.any_eq_true'.2 ⟨e,he,?_⟩);simp[h1,u]
   ·exact .inr h1
theorem LI(ops:Array Oper):Eo ops ops.size=true/\vU ops ops.size=true:=by
 refine⟨List.all_eq_true.2 λ t ht=>?_,List.all_eq_true.2 λ t ht=>?_⟩
 ·simp[List.mem_range.1 ht]
 ·simp[List.mem_range.1 ht]
def Kn(P:Program)(ops:Array Oper)(m:Nat)(Q:Exit->Act->World->Prop):Exit->Act->World->Prop
 |.normal,a,w=>∀aK:Array Bool,aK.size=ops.size->(∀i,i<m->aK.getD i false=true)->(∀i,m<=i->i<ops.size->aK.getD i true=false)->wpAny P .any ops Q (ops.size-m) aK a w
 |ex,a,w=>Q ex a w
theorem Za{ops:Array Oper}{ahf n m:Nat}(aV:qj ops ahf)(hB:KG ops n m=true)(hm:m<=ops.size){Q:Exit->Act->World->Prop}:∀(j k:Nat)(aK:Array Bool)(a:Act)(w:World),j+k=m->n<=k->aK.size=ops.size->
 (∀i,i<k->aK.getD i false=true)->(∀i,k<=i->i<ops.size->aK.getD i true=false)->wpList P ops (Kn P ops m Q) ((ops.toList.take m).drop k) a w->wpAny P .any ops Q (ops.size-k) aK a w
 |0,k,aK,a,w,hf,hn,T,aY,iF,h=>by
  obtain rfl:k=m:=by omega
  rw[List.drop_eq_nil_of_le (by simp;omega)] at h;exact h aK T aY iF
 |j+1,k,aK,a,w,hf,hn,T,aY,iF,h=>by
  have fZ:k<ops.size:=by omega
  have rG:ops[k]?=some ops[k]:=by simp[fZ]
  have vh:k∈Region.ready .any ops aK:=mem_ready.2 ⟨iF k (Nat.le_refl _) fZ,ops[k],rG,λ e he hb=>aY _ (aV.back k ops[k] rG e he hb)⟩;rw[show ops.size-k=(ops.size-(k+1))+1 by omega];refine⟨(λ h0=>by rw[h0] at vh;cases vh),λ i hi=>?_⟩;obtain⟨kg,o,ho,dH⟩:=mem_ready.1 hi;have dY:i<ops.size:=(Array.getElem?_eq_some_iff.1 ho).1;have FB:=iF k (Nat.le_refl _) fZ;have NT:i=k:=by
   rcases Nat.lt_trichotomy i k with h1|h1|h1
   ·have:=aY i h1;rw[(nq kg).1] at this;cases this
   ·exact h1
   ·have dw:∀(a:Nat)(o:Oper),ops[a]?=some o->aK.getD a false=true->∀x∈o.after,Region.binds .any x=true->aK.getD x.on false=true:=λ b ob hb Z x hx Fg=>by
     have qy:b<ops.size:=(Array.getElem?_eq_some_iff.1 hb).1;have o0:b<k:=by
      rcases Nat.lt_or_ge b k with u|u
      ·exact u
      ·have:=iF b u qy;rw[(nq this).1] at Z;cases Z
     exact aY _ (Nat.lt_trans (aV.back b ob hb x hx Fg) o0)
    rcases YL hB ho (by omega) h1 (by omega) with⟨e,he,hb,mU⟩|u
    ·have u:=dH e he hb;rw[mU,(nq FB).1] at u;cases u
    ·have J:=BS dw _ _ _ o ho dH u;rw[(nq FB).1] at J;cases J
  subst NT;rw[rG] at ho;cases ho;rw[List.drop_eq_getElem_cons (by simp;omega)] at h;have bD:wpList P ops (Kn P ops m Q) (ops[i]::(ops.toList.take m).drop (i+1)) a w:=by simpa using h
  refine QT (Q:=Kn P ops m Q) (λ ex a w aW hh=>by cases ex<;>first|exact hh|exact absurd rfl aW) (wpOp_mono (λ bF aA hh=>?_) (Zb rG bD));refine Za aV hB hm j (i+1) _ bF aA (by omega) (by omega) (by simpa using T) (λ j hj=>?_) (λ j hj rE=>?_) hh
  ·by_cases e:i=j
   ·subst e;simp[T,fZ]
   ·rw[getD_set_ne false e];exact aY j (by omega)
  ·rw[getD_set_ne true (by omega)];exact iF j (by omega) rE
def Bx(s:List (Nat×I)):List Oper->Bool
 |[]=>true
 |o::l=>(match o.dst with|some t=>(kv s t).isSome|none=>true)&&Bx s l
theorem Vu{s:List (Nat×I)}:∀{l:List Oper}{j:Nat}{t:Nat},Bx s l=true->(l[j]?).bind (·.dst)=some t->∃d,kv s t=some d
 |[],j,t,_,h=>by simp at h
 |o::l,0,t,hk,h=>by
  simp only[List.getElem?_cons_zero,Option.bind_some] at h;simp only[Bx,h,Bool.and_eq_true,Option.isSome_iff_exists] at hk;exact hk.1
 |o::l,j+1,t,hk,h=>by
  simp only[Bx,Bool.and_eq_true] at hk;exact Vu hk.2 (by simpa using h)
section
variable{l:List Oper}{m:Nat}
theorem Yz{aw:Nat->I}{S:Nat->Option I}(h:∀j t,j<m->(l[j]?).bind (·.dst)=some t->S t=some (aw j)):∀i,i<=m->dV l aw S i=S
 |0,_=>rfl
 |i+1,hi=>by
  funext t
  simp only[dV];split
  ·rename_i e;exact(h i t (by omega) e).symm
  ·rw[Yz h i (by omega)]
theorem YA{aw cE:Nat->I}{S:Nat->Option I}(h0:dV l cE S m=S)(hF:∀i,cE (m+i)=aw i):∀i,dV l cE S (m+i)=dV (l.drop m) aw S i
 |0=>h0
 |i+1=>by
  funext t
  rw[show m+(i+1)=(m+i)+1 by omega];simp only[dV,YA h0 hF i,hF,List.getElem?_drop]
theorem Yp{N:Nat->Option (Nat×List I)}{B:Nat->Option (List I)}(h:∀j,j<m->N j=none):∀i,i<=m->dD N B i=B
 |0,_=>rfl
 |i+1,hi=>by simp only[dD,h i (by omega),Yp h i (by omega)];rfl
theorem Yq{N kS:Nat->Option (Nat×List I)}{B:Nat->Option (List I)}(h0:dD kS B m=B):∀i,(∀j,j<i->kS (m+j)=N j)->dD kS B (m+i)=dD N B i
 |0,_=>h0
 |i+1,hN=>by
  rw[show m+(i+1)=(m+i)+1 by omega];simp only[dD,Yq h0 i (λ j hj=>hN j (by omega)),hN i (by omega)]
theorem Yu{am:Nat->Option (Nat×Gr)}{aa:Nat->Option Gr}(h:∀j,j<m->am j=none):∀i,i<=m->en am aa i=aa
 |0,_=>rfl
 |i+1,hi=>by simp only[en,h i (by omega),Yu h i (by omega)];rfl
theorem Yv{am me:Nat->Option (Nat×Gr)}{aa:Nat->Option Gr}(h0:en me aa m=aa):∀i,(∀j,j<i->me (m+j)=am j)->en me aa (m+i)=en am aa i
 |0,_=>h0
 |i+1,hN=>by
  rw[show m+(i+1)=(m+i)+1 by omega];simp only[en,Yv h0 i (λ j hj=>hN j (by omega)),hN i (by omega)]
theorem Ys{bT:Nat->Bool}{N:Nat->Option (Nat×List I)}{aC:List Nat}(h:∀j,j<m->N j=none):∀i,i<=m->gp bT N aC i=aC
 |0,_=>rfl
 |i+1,hi=>by
  simp only[gp,h i (by omega),Ys h i (by omega),GA];cases bT i<;>rfl
theorem Yt{bT tu:Nat->Bool}{N kS:Nat->Option (Nat×List I)}{aC:List Nat}(h0:gp tu kS aC m=aC):∀i,(∀j,j<i->kS (m+j)=N j/\tu (m+j)=bT j)->gp tu kS aC (m+i)=gp bT N aC i
 |0,_=>h0
 |i+1,hN=>by
  rw[show m+(i+1)=(m+i)+1 by omega];simp only[gp,Yt h0 i (λ j hj=>hN j (by omega)),(hN i (by omega)).1,(hN i (by omega)).2]
theorem QB{am:Nat->Option (Nat×Gr)}{aR:List (Nat×Nat)}(h:∀j,j<m->am j=none):∀i,i<=m->gz l am aR i=aR
 |0,_=>rfl
 |i+1,hi=>by simp only[gz,h i (by omega),we,QB h i (by omega)]
theorem Yy{am me:Nat->Option (Nat×Gr)}{aR:List (Nat×Nat)}(h0:gz l me aR m=aR):∀i,(∀j,j<i->me (m+j)=am j)->gz l me aR (m+i)=gz (l.drop m) am aR i
 |0,_=>h0
 |i+1,hN=>by
  rw[show m+(i+1)=(m+i)+1 by omega];simp only[gz,Yy h0 i (λ j hj=>hN j (by omega)),hN i (by omega),List.getElem?_drop]
end
def Gk(P:Program)(Γ:bX)(l l3:List Oper)(m:Nat)(Q:Exit->St->Prop):Exit->St->Prop
 |.normal,L=>∃B,xL L.b B/\Bx L.s (l.take m)=true/\co P Γ.n l B L.b (Q .normal) m [] [] l3 L
 |ex,L=>Q ex L
theorem agk{l:List Oper}{m:Nat}(uf:m<=l.length)(aV:qj l.toArray Γ.n){Q:Exit->St->Prop}{L:St}{e:aE}{a:Act}(F:bE Γ L e a)(h:Gk P Γ l (l.drop m) m Q .normal L):Kn P l.toArray m (jP Γ Q) .normal a e.w:=by
 obtain⟨B,oX,hK,hQ⟩:=h;intro aK T fS eV;obtain⟨aw,N,bT,am,j5,h1,u,J,h4,h5⟩:=co.extract (l.drop m) m [] [] L hQ;have IL:∀j,aK.getD j false=true->j<m:=λ j hj=>by
  rcases Nat.lt_or_ge j m with h6|h6
  ·exact h6
  ·rcases Nat.lt_or_ge j l.toArray.size with h7|h7
   ·have:=eV j h6 h7;rw[(nq this).1] at hj;cases hj
   ·have h8:aK[j]?=none:=Array.getElem?_eq_none (by omega);simp[h8] at hj
 let cE:Nat->I:=λ i=>if i<m then(match(l[i]?).bind (·.dst) with|some t=>(kv L.s t).getD .any|none=>.any) else aw (i-m)
 let kS:Nat->Option (Nat×List I):=λ i=>if m<=i/\i<l.length then N (i-m) else none
 let tu:Nat->Bool:=λ i=>bT (i-m)
 let me:Nat->Option (Nat×Gr):=λ i=>if m<=i/\i<l.length then am (i-m) else none
 have pK:∀j,j<m->kS j=none:=λ j hj=>if_neg (by omega)
 have wx:∀j,j<m->me j=none:=λ j hj=>if_neg (by omega)
 have Nd:∀j,m+j<l.length->kS (m+j)=N j:=λ j hj=>by simp only[kS];rw[if_pos ⟨by omega,hj⟩,Nat.add_sub_cancel_left]
 have Na:∀j,m+j<l.length->me (m+j)=am j:=λ j hj=>by simp only[me];rw[if_pos ⟨by omega,hj⟩,Nat.add_sub_cancel_left]
 have TO:∀j,tu (m+j)=bT j:=λ j=>by simp only[tu];rw[Nat.add_sub_cancel_left]
 have TG:∀j,cE (m+j)=aw j:=λ j=>by simp only[cE];rw[if_neg (by omega),Nat.add_sub_cancel_left]
 have M6:∀j t,j<m->(l[j]?).bind (·.dst)=some t->kv L.s t=some (cE j):=λ j t hj ht=>by
  obtain⟨d,K⟩:=Vu (l:=l.take m) (j:=j) hK (by rw[List.getElem?_take_of_lt hj];exact ht);simp only[cE];rw[if_pos hj,ht];simp only[K]
  rfl
 have eS:∀i,dV l cE (kv L.s) (m+i)=dV (l.drop m) aw (kv L.s) i:=YA (Yz M6 m (Nat.le_refl _)) TG;have eB:∀i,m+i<=l.length->dD kS (kv L.b) (m+i)=dD N (kv L.b) i:=λ i hi=>Yq (Yp pK m (Nat.le_refl _)) i λ j hj=>Nd j (by omega)
 have eG:∀i,m+i<=l.length->en me (kv L.g) (m+i)=en am (kv L.g) i:=λ i hi=>Yv (Yu wx m (Nat.le_refl _)) i λ j hj=>Na j (by omega)
 have eD:∀i,m+i<=l.length->gp tu kS [] (m+i)=gp bT N [] i:=λ i hi=>Yt (Ys pK m (Nat.le_refl _)) i λ j hj=>⟨Nd j (by omega),TO j⟩
 have eL:∀i,m+i<=l.length->gz l me [] (m+i)=gz (l.drop m) am [] i:=λ i hi=>Yy (QB wx m (Nat.le_refl _)) i λ j hj=>Na j (by omega)
 have hsz:l.toArray.size=l.length:=by simp
 have tW:m+(l.drop m).length=l.length:=by rw[List.length_drop];omega
 have kg:m6 aK=l.toArray.size-m:=by
  have:=KK aK.toList m (by simpa[T] using uf) (λ i hi=>by
   have h1:=fS i hi;have dY:i<aK.size:=by rw[T];omega
   simp[dY] at h1⊢;exact h1) (λ i hi Z=>by
   have dY:i<aK.size:=by simpa using Z
   have h1:=eV i hi (by rw[<-T];exact dY);simp[dY] at h1⊢;exact h1)
  simpa[m6,T] using this
 refine D2 (P:=P) (Γ:=Γ) (L:=L) (ops:=l.toArray) (H:=l.toArray.size) (λ i=>decide (i<m)) (λ _=>false) (λ _=>true) aV (LI _).1 (Nat.le_refl _) (aw:=cE) (N:=kS) (bT:=tu) (am:=me) (B:=B) (a0:=a) (Q:=jP Γ Q) (λ i hi=>if_neg (by omega)) (λ i hi=>if_neg (by omega)) (λ i hi=>pK i (by simpa using hi)) (λ i hi=>wx i (by simpa using hi)) (λ _ _ _=>.inl rfl) (.inr λ _=>rfl) (λ b cs=>oX.get)
  (λ i o hi ho lb _ _=>?_) (λ aK b ae hv q2 q3 _=>?_) (λ _ _ _ _ _ h=>by cases h) _ aK a e kg.symm ?_ (λ t h6 h7=>absurd h7 (by omega)) (λ i hi=>fS i (by simpa using hi)) (λ i hi=>by cases hi)
 ·have lb:m<=i:=by have:=of_decide_eq_false lb;omega
  obtain⟨j,rfl⟩:∃j,i=m+j:=⟨i-m,by omega⟩;have h6:=h5 j o (by rw[List.getElem?_drop];simpa using ho);rw[<-eS,<-eB j (by omega),<-eG j (by omega),<-eD j (by omega),<-eL j (by omega),<-TG,<-TO,<-Nd j (by omega),<-Na j (by omega)] at h6;exact h6
 ·have hb:bE Γ j5 ae b:=hv.qq aV (by rw[J,hsz,<-tW];exact(eS _).symm) (by rw[h4,hsz,<-tW];exact(eB _ (by omega)).symm) (by rw[u,hsz,<-tW];exact(eG _ (by omega)).symm) q2 q3;exact KP aV (LI _).2 _ _ aK b ae.w (by omega) (Nat.le_refl _) hv.l5 q2 q3 (by rw[List.drop_eq_nil_of_le (by simp)];exact⟨j5,ae,rfl,hb,h1⟩)
 ·refine⟨T,F.size,F.df,λ i o hi Z x hx hb=>fS _ (Nat.lt_trans (aV.back i o hi x hx hb) (IL i Z)),λ i o t hi Z ht=>?_,λ t _=>rfl,F.dj,λ b cs hb _=>F.boxes b cs hb,λ i p Z G=>?_,λ b hb _=>F.ee b hb,λ g _=>F.gs g,λ i p Z G=>?_,F.env⟩
  ·exact F.dj t _ (M6 i t (IL i Z) (by have:l[i]?=some o:=by simpa using hi
                                       rw[this];exact ht))
  ·rw[pK i (IL i Z)] at G;cases G
  ·rw[wx i (IL i Z)] at G;cases G
theorem Lz{L:St}(k m:Nat)(ws:List Nat){id:Nat}{l l1 l2 l3:List Oper}{B:List (Nat×List I)}(T:mD k l (λ a=>kW k l λ b=>mD (m-k) b λ c=>kW m l λ d=>some (a,c,d))=some (l1,l2,l3))(hv:px ws L.b some=some B)(hm:P.follows .mixedOrders=true)(hB:r9 l.toArray Γ.n=true)(hT:KG l.toArray k m=true)(NY:Nat.ble k m=true)(uf:Nat.ble m l.length=true)
 (h:co P Γ.n l B L.b (bw P Γ l (Gk P Γ l l3 m Q) l2) 0 [] [] l1 L):a8 P Γ (.region id l.toArray true) Q L:=by
 obtain⟨eN,T⟩:=td T;obtain⟨fR,T⟩:=n4 T;obtain⟨lW,T⟩:=td T;obtain⟨FA,T⟩:=n4 T;cases T;have NY:=Nat.le_of_ble_eq_true NY;have uf:=Nat.le_of_ble_eq_true uf;obtain⟨qc,J,_,_,oX⟩:=B7 _ _ _ _ hv;cases J;refine⟨λ a e F=>?_⟩;have aV:=Kh hB;obtain⟨aw,N,bT,am,j5,h1,u,J,h4,h5⟩:=co.extract (l.take k) 0 [] [] L h;have fZ:(l.take k).length=k:=by rw[List.length_take];omega
 rw[fZ] at u J h4;have qA:∀j,j<k->(l.take k)[j]?=l[j]?:=λ j hj=>by rw[List.getElem?_take_of_lt hj]
 have yu:(l.toArray.toList.take m).drop k=(l.drop k).take (m-k):=by simp[List.drop_take]
 have hN:∀i,i<=k->dD N (kv L.b) i=dD (λ i=>if i<k then N i else none) (kv L.b) i:=λ i hi=>DV i λ j hj=>by rw[if_pos (by omega)]
 have hD:∀i,i<=k->gp bT N [] i=gp bT (λ i=>if i<k then N i else none) [] i:=λ i hi=>Qw i λ j hj=>⟨by rw[if_pos (by omega)],rfl⟩
 have hG:∀i,i<=k->en am (kv L.g) i=en (λ i=>if i<k then am i else none) (kv L.g) i:=λ i hi=>KA i λ j hj=>by rw[if_pos (by omega)]
 have hL:∀i,i<=k->gz (l.take k) am [] i=gz l.toArray.toList (λ i=>if i<k then am i else none) [] i:=λ i hi=>QA i λ j hj=>⟨by rw[if_pos (by omega)],by simpa using qA j (by omega)⟩
 have:=D2 (P:=P) (Γ:=Γ) (L:=L) (ops:=l.toArray) (H:=k) (λ _=>false) (λ _=>false) (λ _=>true) aV (aaO hT NY) (by simp;omega) (aw:=aw) (N:=λ i=>if i<k then N i else none) (bT:=bT) (am:=λ i=>if i<k then am i else none) (B:=B) (a0:=a) (Q:=jP Γ Q) (λ i hi=>if_neg (by omega)) (λ i hi=>if_neg (by omega)) (λ i hi=>by simp at hi) (λ i hi=>by simp at hi) (λ _ _ _=>.inl rfl) (.inr λ _=>rfl) (λ b cs=>oX.get)
  (λ i o hi ho _ _ _=>by
   have h6:=h5 i o (by rw[qA i hi];simpa using ho);rw[Nat.zero_add,hN i (by omega),hD i (by omega),hG i (by omega),hL i (by omega)] at h6;have e5:dV (l.take k) aw (kv L.s) i=dV l.toArray.toList aw (kv L.s) i:=He i λ j hj=>by simpa using qA j (by omega)
   rw[e5] at h6
   simpa[hi] using h6)
  (λ aK b ae hv q2 q3 _=>by
   have hb:bE Γ j5 ae b:=hv.qq aV (by rw[J];exact He _ λ j hj=>by simpa using qA j hj) (by rw[h4];exact hN _ (Nat.le_refl _)) (by rw[u];exact hG _ (Nat.le_refl _)) q2 q3;refine Za aV hT (by simp;omega) (m-k) k aK b ae.w (by omega) (Nat.le_refl _) hv.l5 q2 q3 ?_;rw[yu];have hr:=h1.run b ae hb;refine QS (λ a2 w2 hh=>?_) (λ ex a2 w2 aW hh=>?_) hr
   ·obtain⟨sm,e2,rfl,fI,cL⟩:=hh;exact agk uf aV fI cL
   ·obtain⟨sm,e2,rfl,fI,cL⟩:=hh;cases ex<;>first|exact absurd rfl aW|exact⟨sm,e2,rfl,fI,cL⟩) (λ _ _ _ _ _ h=>by cases h)
  l.toArray.size (Array.replicate l.toArray.size false) a {e with w:=e.w.drew} (KM _).symm
  ?_ (λ t _ ht=>by have Bp:t<l.length:=by simpa using ht
                   simp[Bp]) (λ i hi=>by cases hi) (λ i hi=>by cases hi)
 ·exact wp_region_any hm this
 ·have hg:j7 e {e with w:=e.w.drew}:=⟨(Below.refl _ _).drew,λ _ _=>rfl,rfl,rfl,rfl⟩;have d4:=F.grow hg;refine⟨by simp,F.size,F.df,λ i o _ Z=>?_,λ i o t _ Z=>?_,λ t _=>rfl,d4.dj,λ b cs hb _=>d4.boxes b cs hb,λ i p Z=>?_,λ b hb _=>d4.ee b hb,λ g _=>d4.gs g,λ i p Z=>?_,d4.env⟩
  all_goals(simp[Array.getElem?_replicate] at Z;split at Z<;>simp at Z)
theorem VC{L:St}{l l3:List Oper}{m:Nat}{B:List (Nat×List I)}(hv:px [] L.b some=some B)(hk:Bx L.s (l.take m)=true)(h:co P Γ.n l B L.b (Q .normal) m [] [] l3 L):Gk P Γ l l3 m Q .normal L:=by obtain⟨qc,J,_,_,oX⟩:=B7 _ _ _ _ hv;cases J;exact⟨B,oX,hk,h⟩
end
end Go.Proofs.YtkkldicehapklaaGreat
end
section
namespace Go.Proofs.YtkkldicehapklaaGreat
open Go.Proofs.Tryz
open Go.RowKit
theorem Dh{az:Type}:∀(l m:List (Nat×az))(n:Nat),kv (l++m) n=(kv l n).or (kv m n)
 |[],m,n=>rfl
 |(k,v)::l,m,n=>by
  rw[List.cons_append,dc,dc];split
  ·rfl
  ·exact Dh l m n
theorem Vx{az:Type}{l m:List (Nat×az)}{n:Nat}(h:aL l n=false):kv (l++m) n=kv m n:=by
 rw[Dh];unfold aL at h;cases hh:kv l n with
 |none=>exact Option.none_or
 |some x=>rw[hh] at h;cases h
theorem OD{az:Type}{l m:List (Nat×az)}{n:Nat}(h:kv (l++m) n=none):aL l n=false/\kv m n=none:=by
 rw[Dh] at h;unfold aL;cases hh:kv l n with
 |none=>rw[hh] at h;exact⟨rfl,h⟩
 |some x=>rw[hh] at h;cases h
section
variable{P:Program}{Γ:bX}{Q:Exit->St->Prop}
structure QZ(Γ:bX)(e e2:aE)(v:Value)(d:I)(bs:List (Nat×List I)):Prop where
 ends:Ends e e2
 ok:gV Γ e2
 bx:∀b,aL bs b=false->e2.bx b=e.bx b
 gi:∀g,e2.gi g=e.gi g
 dL:∀b cs,ij e b cs->ij e2 b cs
 new:∀b cs,kv bs b=some cs->ij e2 b cs
 rep:bC e2 v d
theorem abo{e ae:aE}{bs:List (Nat×List I)}{v:Value}{d:I}(aV:gV Γ e)(dt:∀b,aL bs b=true->e.bx b=none)(hI:iW bs ae)(hL:Left [] (e.cut (aL ([]:List (Nat×List I))) λ _=>false) ae)(hr:bC ae v d):QZ Γ e (e.after ae [] bs) v d bs:=by
 have cv:∀k,¬∃b,(e.cut (aL ([]:List (Nat×List I))) λ _=>false).bx b=some k:=by rintro k ⟨b,hb⟩;have fO:(if aL ([]:List (Nat×List I)) b=true then e.bx b else none)=some k:=hb;rw[show aL ([]:List (Nat×List I)) b=false from rfl,if_neg (by simp)] at fO;cases fO
 have AM:∀k,k<e.w.heap.size->ae.w.heap[k]?=e.w.heap[k]?:=λ k hk=>hL.kept.block k hk (cv k)
 have dw:∀k,k<e.w.heap.size->ae.cl k=e.cl k:=λ k hk=>hL.cl k hk (cv k)
 have iD:∀b,(e.after ae [] bs).bx b=if aL bs b=true then ae.bx b else e.bx b:=λ b=>by
  show(if aL bs b=true then ae.bx b else if aL ([]:List (Nat×List I)) b=true then none else e.bx b)=_;rw[show aL ([]:List (Nat×List I)) b=false from rfl];simp
 have yq:∀b k,e.bx b=some k->aL bs b=false:=λ b k hk=>by
  cases h:aL bs b with
  |false=>rfl
  |true=>rw[dt b h] at hk;cases hk
 have lh:∀b k,ae.bx b=some k->e.w.heap.size<=k/\k<ae.w.heap.size/\ae.cl k=some 0:=λ b k hk=>by
  obtain⟨h1,u⟩:=hI.bx b k hk;rcases hL.bx b k hk with J|J
  ·exact⟨J,h1,u⟩
  ·exact absurd J (cv k)
 have Y:Ends e (e.after ae [] bs):=by
  refine⟨λ b o v F hv=>?_,λ b k hk=>?_,λ g aa hg=>⟨aa,hg,rfl,rfl,Nat.le_refl _⟩,λ k g aa cur h1 u J=>⟨h1,cur,(AM k (tY J)).trans J,rfl⟩⟩
  ·have hb:=HS hv;refine⟨λ n lc=>F n ?_,?_⟩
   ·rw[<-dw b hb];exact lc
   ·show ae.w.cell? _=_;rw[World.cell?_of_block (w:=e.w) (AM b hb)];exact hv
  ·rw[iD,yq b k hk];simpa using hk
 have u9:Ends ae (e.after ae [] bs):=by
  refine⟨λ _ _ _ h1 u=>⟨h1,u⟩,λ b k hk=>?_,λ g aa hg=>?_,λ k g aa cur hg=>?_⟩
  ·rw[iD,if_pos]
   ·exact hk
   ·cases hb:kv bs b with
    |none=>rw[hI.ee b hb] at hk;cases hk
    |some cs=>simp[aL,hb]
  ·rw[hI.gi g] at hg;cases hg
  ·rw[hI.gr k] at hg;cases hg
 have hsz:e.w.heap.size<=ae.w.heap.size:=hL.kept.size;refine⟨Y,⟨⟨hL.kept.os.trans aV.kept.os,hL.kept.tape.trans aV.kept.tape,hL.kept.output.trans aV.kept.output,Nat.le_trans aV.kept.size hsz,λ k hk ho=>(AM k (Nat.lt_of_lt_of_le hk aV.kept.size)).trans (aV.kept.block k hk ho)⟩,λ k hk ho=>(dw k (Nat.lt_of_lt_of_le hk aV.kept.size)).trans (aV.cl k hk ho),λ b k hk=>?_,λ b c k h1 u=>?_,λ k g hg=>?_,λ b k hk=>?_⟩,λ b hb=>?_,λ g=>rfl,λ b cs hb=>?_,λ b cs hb=>?_,hr.next u9⟩
 ·rw[iD] at hk;split at hk
  ·obtain⟨h1,u,J⟩:=lh b k hk;refine⟨u,.inl (Nat.le_trans aV.kept.size h1),J,?_⟩;show e.gr k=none;cases hg:e.gr k with
   |none=>rfl
   |some g=>obtain⟨_,_,_,h4,_⟩:=aV.gr k g hg;omega
  ·obtain⟨h1,u,J,h4⟩:=aV.bx b k hk;exact⟨Nat.lt_of_lt_of_le h1 hsz,u,(dw k h1).trans J,h4⟩
 ·rw[iD] at h1 u;split at h1<;>split at u
  ·exact hI.inj b c k h1 u
  ·have:=(lh b k h1).1;have:=(aV.bx c k u).1;omega
  ·have:=(lh c k u).1;have:=(aV.bx b k h1).1;omega
  ·exact aV.inj b c k h1 u
 ·obtain⟨aa,cur,h1,u,J,h4,h5⟩:=aV.gr k g hg;exact⟨aa,cur,h1,Nat.lt_of_lt_of_le u hsz,J,(dw k u).trans h4,(AM k u).trans h5⟩
 ·have:=aV.kb b k hk;rw[iD,yq b k this];simpa using this
 ·rw[iD,hb];simp
 ·obtain⟨k,vs,el,h1,u,J⟩:=hb;exact⟨k,vs,el,Y.bx b k h1,(AM k (tY u)).trans u,J.next Y⟩
 ·exact(hI.boxes b cs hb).ends u9 rfl
theorem lp.aho{L:St}{ops:Array Oper}(aV:qj ops Γ.n){aw:Nat->I}{N:Nat->Option (Nat×List I)}{bT:Nat->Bool}{am:Nat->Option (Nat×Gr)}{a0:Act}{aK:Array Bool}{e ae:aE}{a:Act}(h:lp Γ L ops aw N bT am a0 aK e a)
 {i:Nat}{o:Oper}(hi:ops[i]?=some o)(hr:i∈Region.ready .any ops aK){v:Value}{bs:List (Nat×List I)}(hN:N i=none)(hM:am i=none)(hq:QZ Γ e ae v (aw i) bs):
 lp Γ ⟨L.s,bs++L.b,L.g⟩ ops aw N bT am a0 (aK.setIfInBounds i true) ae (a.put o.dst v):=by
 obtain⟨kg,o',cY,dH⟩:=mem_ready.1 hr;rw[hi] at cY;cases cY;obtain⟨kK,dY⟩:=nq kg;have Y:=hq.ends;have split:∀j,(aK.setIfInBounds i true).getD j false=true->j=i\/aK.getD j false=true:=λ j hj=>by
  by_cases e:i=j
  ·exact .inl e.symm
  ·rw[getD_set_ne false e] at hj;exact .inr hj
 have uq:(aK.setIfInBounds i true).getD i false=true:=by simp[dY]
 refine⟨by simpa using h.l5,by rw[Kv];exact h.size,by rw[HZ];exact h.df,λ j oj hj Z x hx fO=>?_,λ j oj t hj Z ht=>?_,λ t ht=>?_,λ t d ht=>(h.dj t d ht).next Y,λ b cs hb hn=>?_,λ j p Z G hn=>?_,λ b hb hn=>?_,λ g hn=>by rw[hq.gi];exact h.gs g λ j p Z G=>hn j p (getD_set_true Z) G,λ j p Z G hn=>?_,hq.ok⟩
 ·rcases split j Z with rfl|fl
  ·rw[hi] at hj;cases hj;exact getD_set_true (dH x hx fO)
  ·exact getD_set_true (h.closed j oj hj fl x hx fO)
 ·rcases split j Z with rfl|fl
  ·rw[hi] at hj;cases hj;rw[ht,Hc (by rw[h.size];exact aV.lt _ _ _ hi ht)];exact hq.rep
  ·have aW:j≠i:=λ e=>by subst e;rw[kK] at fl;cases fl
   rw[BZ (λ e=>aV.ne j i oj o t hj hi aW ht e)];exact(h.xh j oj t hj fl ht).next Y
 ·rw[BZ (ht i o hi uq)];exact h.kept t λ j oj hj Z=>ht j oj hj (getD_set_true Z)
 ·have hb:kv (bs++L.b) b=some cs:=hb;cases dk:aL bs b with
  |false=>rw[Vx dk] at hb;exact hq.dL b cs (h.boxes b cs hb λ j p Z G=>hn j p (getD_set_true Z) G)
  |true=>
   have:kv bs b=some cs:=by
    rw[Dh] at hb;unfold aL at dk;cases hh:kv bs b with
    |none=>rw[hh] at dk;cases dk
    |some x=>rw[hh] at hb;exact hb
   exact hq.new b cs this
 ·rcases split j Z with rfl|fl
  ·rw[hN] at G;cases G
  ·exact hq.dL p.1 p.2 (h.news j p fl G λ k q hk eV cL=>hn k q hk (getD_set_true eV) cL)
 ·obtain⟨h1,u⟩:=OD (show kv (bs++L.b) b=none from hb);rw[hq.bx b h1];exact h.ee b u λ j p Z Bq G=>hn j p (getD_set_true Z) Bq G
 ·rw[hq.gi];rcases split j Z with rfl|fl
  ·rw[hM] at G;cases G
  ·exact h.gw j p fl G λ k q hk eV cL=>hn k q hk (getD_set_true eV) cL
structure Q0(P:Program)(Γ:bX)(l:List Oper)(B:List (Nat×List I))(oc:Oper)(ix:Nat)(aB:St->Prop)(l2:List Oper)(L:St):Prop where
 out:∃(f:FuncId)(ds:List I)(ap:I->List (Nat×List I)->Prop)(d:I)(bs:List (Nat×List I))(t:Nat)(xs:List Operand)(fa:Array TypeId),
  gt P f [] ds [] ap/\(∀eo ay,ap eo ay->eo=d/\ay=bs)/\oc.op=.call {callee:=.value (.func f),args:=xs.toArray,argTypes:=fa}/\jM P f/\i3 (kv L.s) xs some=some ds/\I.ok.fy (aL ([]:List (Nat×List I))) (λ _=>false) ds=true/\gd l oc (kv L.s)=some true/\oc.dst=some t/\Nat.blt t Γ.n=true/\
  (∀b,aL bs b=true->kv L.b b=none/\kv B b=none)/\co P Γ.n l B B aB ix [] [] l2 ⟨(t,d)::L.s,bs++L.b,L.g⟩
def Xe(ops:Array Oper)(c k:Nat):Bool:=(List.range k).all λ i=>i==c||j3 ops ops.size i c||match ops[i]? with
 |some o=>o.dst.isSome&&!uW o
 |none=>true
theorem Xg{ops:Array Oper}{c k i:Nat}{o:Oper}(h:Xe ops c k=true)(hi:i<k)(AX:i≠c)(ho:ops[i]?=some o):j3 ops ops.size i c=true\/(o.dst.isSome=true/\uW o=false):=by
 have h1:=List.all_eq_true.1 h i (List.mem_range.2 hi);simp only[ho,Bool.or_eq_true,beq_iff_eq,Bool.and_eq_true,Bool.not_eq_true'] at h1;rcases h1 with(h1|h1)|h1
 ·exact absurd h1 AX
 ·exact .inl h1
 ·exact .inr h1
theorem Xv{ops:Array Oper}{m:Nat}(aV:qj ops m):∀(f t i:Nat),j3 ops f t i=true->i<t
 |0,_,_,h=>by cases h
 |f+1,t,i,h=>by
  cases ho:ops[t]? with
  |none=>simp[j3,ho] at h
  |some o=>
   simp only[j3,ho] at h;obtain⟨e,he,hb⟩:=Array.any_eq_true'.1 h;simp only[Bool.and_eq_true,Bool.or_eq_true,beq_iff_eq] at hb;have h1:=aV.back t o ho e he hb.1;rcases hb.2 with u|u
   ·omega
   ·have:=Xv aV f e.on i u;omega
theorem JA{l0:List Oper}{ix:Nat}{B:Nat->Option (List I)}{S:Nat->Option I}{Bi Bj:Nat->Option (List I)}{Gi Gj:Nat->Option Gr}{aC lK:List Nat}{aR ze:List (Nat×Nat)}{o:Oper}{d:I}{nb:Option (Nat×List I)}{aH:Bool}{m:Option (Nat×Gr)}(h:uP P l0 ix B B S Bi Gi aC aR o d nb aH m)(h1:o.dst.isSome=true)(u:uW o=false)(hB:∀p,nb=some p->Bi p.1=none->Bj p.1=none):aH=false/\m=none/\uP P l0 ix B B S Bj Gj lK ze o d nb aH m:=by
 rcases h with⟨a1,a2,a3,a4,a5⟩|⟨a1,a2,a3,a4,a5⟩|⟨nm,cs,aZ,_,K,_⟩|⟨g,aa,t,_,_,F,_⟩
 ·exact⟨a4,a5,.inl ⟨a1,a2,λ p G=>⟨hB p G (a3 p G).1,(a3 p G).2⟩,a4,a5⟩⟩
 ·exact⟨a4,a5,.inr (.inl ⟨a1,a2,a3,a4,a5⟩)⟩
 ·rw[K] at h1;cases h1
 ·rw[F] at u;cases u
end
theorem Ky{N:Nat->Option (Nat×List I)}{B:Nat->Option (List I)}{x:Nat}:∀i,B x=none->(∀j p,j<i->N j=some p->p.1≠x)->dD N B i x=none
 |0,h,_=>h
 |i+1,h,hn=>by
  simp only[dD,vY];split
  ·rename_i p G;rw[if_neg (hn i p (Nat.lt_succ_self i) G)];exact Ky i h λ j q hj hq=>hn j q (by omega) hq
  ·exact Ky i h λ j q hj hq=>hn j q (by omega) hq
theorem Qu{N:Nat->Option (Nat×List I)}{bs b0:List (Nat×List I)}:∀i,(∀j p,j<i->N j=some p->aL bs p.1=false)->∀x,dD N (kv (bs++b0)) i x=(kv bs x).or (dD N (kv b0) i x)
 |0,_,x=>Dh bs b0 x
 |i+1,h,x=>by
  have ih:=Qu (N:=N) (bs:=bs) (b0:=b0) i (λ j p hj G=>h j p (by omega) G) x;simp only[dD,vY];cases G:N i with
  |none=>exact ih
  |some p=>
   simp only
   by_cases hx:p.1=x
   ·have hb:=h i p (Nat.lt_succ_self i) G;unfold aL at hb;rw[hx] at hb;rw[if_pos hx,if_pos hx];cases hk:kv bs x with
    |none=>exact Option.none_or.symm
    |some y=>rw[hk] at hb;cases hb
   ·rw[if_neg hx,if_neg hx];exact ih
theorem QC{l jm:List Oper}{aw cE:Nat->I}{S:Nat->Option I}:∀i,(∀j,j<i->l[j]?=jm[j]?/\aw j=cE j)->dV l aw S i=dV jm cE S i
 |0,_=>rfl
 |i+1,h=>by rw[dV,dV,QC i λ j hj=>h j (by omega),(h i (by omega)).1,(h i (by omega)).2]
theorem Qx{bT:Nat->Bool}{N:Nat->Option (Nat×List I)}{aC:List Nat}:∀i,(∀j,j<i->bT j=false)->gp bT N aC i=aC
 |0,_=>rfl
 |i+1,h=>by simp only[gp,h i (Nat.lt_succ_self i),cond_false,Qx i λ j hj=>h j (by omega)]
theorem af3(e:aE):iW [] (e.cut (aL ([]:List (Nat×List I))) λ _=>false):=by
 have hb:∀b,(e.cut (aL ([]:List (Nat×List I))) λ _=>false).bx b=none:=λ b=>by
  show(if aL ([]:List (Nat×List I)) b=true then e.bx b else none)=none;rw[show aL ([]:List (Nat×List I)) b=false from rfl];simp
 refine⟨λ b cs h=>(by cases h),λ b _=>hb b,λ g=>?_,λ k=>?_,λ b k hk=>(by rw[hb] at hk;cases hk),λ b c k hk=>(by rw[hb] at hk;cases hk)⟩
 ·show(if false=true then e.gi g else none)=none;simp
 ·show(match e.gr k with|some g=>if false=true then some g else none|none=>none)=none;cases e.gr k<;>simp
section
variable{P:Program}{Γ:bX}{Q:Exit->St->Prop}
theorem aaA{L:St}(c k:Nat){id:Nat}{l l1 l2 l3:List Oper}{oc:Oper}{B:List (Nat×List I)}(T:mD c l (λ a=>kW c l λ r=>match r with|o::nO=>mD (k-(c+1)) nO λ b=>kW (k-(c+1)) nO λ d=>some (a,o,b,d)|[]=>none)=some (l1,oc,l2,l3))(hv:px [] L.b some=some B)(hm:P.follows .mixedOrders=true)(hB:r9 l.toArray Γ.n=true)(hT:vU l.toArray k=true)(hP:Xe l.toArray c k=true)(tT:Nat.blt c k=true)
 (h:co P Γ.n l B B (Q0 P Γ l B oc (c+1) (bw P Γ l Q l3) l2) 0 [] [] l1 L):a8 P Γ (.region id l.toArray true) Q L:=by
 obtain⟨eN,T⟩:=td T;obtain⟨fR,T⟩:=n4 T;obtain⟨nO,vp,T⟩:∃nO,l.drop c=oc::nO/\mD (k-(c+1)) nO (λ b=>kW (k-(c+1)) nO λ d=>some (l.take c,oc,b,d))=some (l1,oc,l2,l3):=by
  cases K:l.drop c with
  |nil=>rw[K] at T;cases T
  |cons o nO=>rw[K] at T;simp only at T;obtain⟨h1,u⟩:=td T;obtain⟨J,h4⟩:=n4 u;cases h4;exact⟨nO,rfl,T⟩
 obtain⟨lW,T⟩:=td T;obtain⟨FA,T⟩:=n4 T;cases T;have tT:c<k:=by simpa using tT
 obtain⟨qc,J,_,_,oX⟩:=B7 _ _ _ _ hv;cases J;have Z:l=l.take c++oc::nO:=by rw[<-vp,List.take_append_drop]
 have cx:l.length=c+1+nO.length:=by have:=congrArg List.length Z;rw[List.length_append,List.length_cons,List.length_take] at this;omega
 have fZ:k<=l.length:=by omega
 have hsz:l.toArray.size=l.length:=by simp
 have g1:∀j,j<c->l[j]?=(l.take c)[j]?:=λ j hj=>by rw[List.getElem?_take_of_lt hj]
 have gc:l[c]?=some oc:=by
  have:(l.drop c)[0]?=some oc:=by rw[vp];rfl
  rw[List.getElem?_drop] at this;simpa using this
 have g2:∀j,j<k-(c+1)->l[c+1+j]?=(nO.take (k-(c+1)))[j]?:=λ j hj=>by
  rw[List.getElem?_take_of_lt hj];have:(l.drop c)[j+1]?=nO[j]?:=by rw[vp];rfl
  rw[List.getElem?_drop] at this;rw[<-this];congr 1;omega
 have NF:l.toArray.toList.drop k=nO.drop (k-(c+1)):=by
  show l.drop k=_;rw[show k=c+(1+(k-(c+1))) by omega,<-List.drop_drop,vp,Nat.add_comm 1,List.drop_succ_cons]
  congr 1
  omega
 have fS:(l.take c).length=c:=by rw[List.length_take];omega
 have eV:(nO.take (k-(c+1))).length=k-(c+1):=by rw[List.length_take];omega
 have aV:=Kh hB;obtain⟨F1,N1,U1,M1,sk,hC,EF,Al,u4,OY⟩:=co.extract (l.take c) 0 [] [] L h;rw[fS] at EF Al u4;obtain⟨f,ds,ap,d,bs,t,xs,fa,adm,hR,bv,NH,adP,ae6,mP,nB,aY,oo,cS⟩:=hC.out;obtain⟨F2,N2,U2,M2,j5,hK,Su,Sv,Ss,agS⟩:=co.extract (nO.take (k-(c+1))) (c+1) [] [] _ cS;rw[eV] at Su Sv Ss
 let aw:Nat->I:=λ i=>if i<c then F1 i else if i=c then d else F2 (i-(c+1))
 let N:Nat->Option (Nat×List I):=λ i=>if i<c then N1 i else if i=c then none else if i<k then N2 (i-(c+1)) else none
 let bT:Nat->Bool:=λ i=>if i<c then U1 i else if i=c then false else if i<k then U2 (i-(c+1)) else false
 let am:Nat->Option (Nat×Gr):=λ i=>if i<c then M1 i else if i=c then none else if i<k then M2 (i-(c+1)) else none
 have D8:∀j,j<c->aw j=F1 j:=λ j hj=>if_pos hj
 have Fc:aw c=d:=by simp only[aw];rw[if_neg (Nat.lt_irrefl c)];simp
 have Q1:∀j,aw (c+1+j)=F2 j:=λ j=>by simp only[aw];rw[if_neg (by omega),if_neg (by omega)];congr 1;omega
 have zg:∀j,j<c->N j=N1 j:=λ j hj=>if_pos hj
 have Nc:N c=none:=by simp only[N];rw[if_neg (Nat.lt_irrefl c)];simp
 have K4:∀j,j<k-(c+1)->N (c+1+j)=N2 j:=λ j hj=>by simp only[N];rw[if_neg (by omega),if_neg (by omega),if_pos (by omega)];congr 1;omega
 have Nk:∀j,k<=j->N j=none:=λ j hj=>by simp only[N];rw[if_neg (by omega),if_neg (by omega),if_neg (by omega)]
 have Q8:∀j,j<c->bT j=U1 j:=λ j hj=>if_pos hj
 have Uc:bT c=false:=by simp only[bT];rw[if_neg (Nat.lt_irrefl c)];simp
 have Q9:∀j,j<k-(c+1)->bT (c+1+j)=U2 j:=λ j hj=>by simp only[bT];rw[if_neg (by omega),if_neg (by omega),if_pos (by omega)];congr 1;omega
 have K1:∀j,j<c->am j=M1 j:=λ j hj=>if_pos hj
 have Mc:am c=none:=by simp only[am];rw[if_neg (Nat.lt_irrefl c)];simp
 have K2:∀j,j<k-(c+1)->am (c+1+j)=M2 j:=λ j hj=>by simp only[am];rw[if_neg (by omega),if_neg (by omega),if_pos (by omega)];congr 1;omega
 have Mk:∀j,k<=j->am j=none:=λ j hj=>by simp only[am];rw[if_neg (by omega),if_neg (by omega),if_neg (by omega)]
 have Xb:∀i o,i<c->l[i]?=some o->o.dst.isSome=true/\uW o=false:=λ i o hi ho=>by
  rcases Xg hP (show i<k by omega) (show i≠c by omega) (show l.toArray[i]?=some o by simpa using ho) with h1|h1
  ·have:=Xv aV _ _ _ h1;omega
  ·exact h1
 have om:∀i,i<l.length->∃o,l[i]?=some o:=λ i hi=>⟨l[i],List.getElem?_eq_getElem hi⟩
 have Gv:∀i o,i<c->l[i]?=some o->uP P l i (kv B) (kv B) (dV (l.take c) F1 (kv L.s) i) (dD N1 (kv L.b) i) (en M1 (kv L.g) i) (gp U1 N1 [] i) (gz (l.take c) M1 [] i) o (F1 i) (N1 i) (U1 i) (M1 i):=λ i o hi ho=>by
  have:=OY i o (by rw[<-g1 i hi];exact ho);rw[Nat.zero_add] at this;exact this
 have Ra:∀j,j<c->U1 j=false/\M1 j=none:=λ j hj=>by
  obtain⟨o,ho⟩:=om j (by omega);obtain⟨p1,p2⟩:=Xb j o hj ho;have:=JA (Bj:=dD N1 (kv L.b) j) (Gj:=en M1 (kv L.g) j) (lK:=[]) (ze:=[]) (Gv j o hj ho) p1 p2 (λ p G hh=>hh);exact⟨this.1,this.2.1⟩
 have pN:∀j p,j<c->N1 j=some p->aL bs p.1=false:=λ j p hj G=>by
  cases dk:aL bs p.1 with
  |false=>rfl
  |true=>have h5:=(oo p.1 dk).1;rw[u4] at h5;exact absurd rfl ((sc c h5).2 j p hj G)
 have afS:∀b,aL bs b=true->kv L.b b=none:=λ b hb=>by
  have h5:=(oo b hb).1;rw[u4] at h5;exact(sc c h5).1
 have Am:∀i,i<=c->dV l aw (kv L.s) i=dV (l.take c) F1 (kv L.s) i:=λ i hi=>QC i λ j hj=>⟨g1 j (by omega),D8 j (by omega)⟩
 have Sy:∀j,j<=k-(c+1)->dV l aw (kv L.s) (c+1+j)=dV (nO.take (k-(c+1))) F2 (kv ((t,d)::sk.s)) j:=by
  intro j;induction j with
  |zero=>
   intro _
   funext x
   show dV l aw (kv L.s) (c+1) x=kv ((t,d)::sk.s) x;simp only[dV,gc,Fc,Option.bind_some,nB,dc,Am c (Nat.le_refl _),<-Al,Option.some.injEq]
  |succ j ih=>
   intro hj;rw[show c+1+(j+1)=(c+1+j)+1 by omega]
   funext x
   simp only[dV,ih (by omega),g2 j (by omega),Q1]
 have EG:∀i,i<=c->dD N (kv L.b) i=dD N1 (kv L.b) i:=λ i hi=>DV i λ j hj=>zg j (by omega)
 have Sz:∀i,i<=c->dD N (kv (bs++L.b)) i=dD N1 (kv (bs++L.b)) i:=λ i hi=>DV i λ j hj=>zg j (by omega)
 have Sw:∀j,j<=k-(c+1)->dD N (kv (bs++L.b)) (c+1+j)=dD N2 (kv (bs++sk.b)) j:=by
  intro j;induction j with
  |zero=>
   intro _
   funext x
   show dD N (kv (bs++L.b)) (c+1) x=kv (bs++sk.b) x;simp only[dD,Nc,vY];rw[Sz c (Nat.le_refl _),Qu c pN x,Dh,u4]
  |succ j ih=>intro hj;rw[show c+1+(j+1)=(c+1+j)+1 by omega];simp only[dD,ih (by omega),K4 j (by omega)]
 have abZ:∀i,i<=c->en am (kv L.g) i=en M1 (kv L.g) i:=λ i hi=>KA i λ j hj=>K1 j (by omega)
 have Sx:∀j,j<=k-(c+1)->en am (kv L.g) (c+1+j)=en M2 (kv sk.g) j:=by
  intro j;induction j with
  |zero=>
   intro _;show en am (kv L.g) (c+1)=kv sk.g;simp only[en,Mc,abZ c (Nat.le_refl _),EF]
   rfl
  |succ j ih=>intro hj;rw[show c+1+(j+1)=(c+1+j)+1 by omega];simp only[en,ih (by omega),K2 j (by omega)]
 have abX:∀j,j<=k-(c+1)->gp bT N [] (c+1+j)=gp U2 N2 [] j:=by
  intro j;induction j with
  |zero=>
   intro _;exact Qx (c+1) λ j hj=>by
    by_cases Fx:j=c
    ·rw[Fx];exact Uc
    ·rw[Q8 j (by omega)];exact(Ra j (by omega)).1
  |succ j ih=>intro hj;rw[show c+1+(j+1)=(c+1+j)+1 by omega];simp only[gp,ih (by omega),K4 j (by omega),Q9 j (by omega)]
 have Zu:∀j,j<c+1->am j=none:=λ j hj=>by
  by_cases Fx:j=c
  ·rw[Fx];exact Mc
  ·rw[K1 j (by omega)];exact(Ra j (by omega)).2
 have ab0:∀j,j<=k-(c+1)->gz l am [] (c+1+j)=gz (nO.take (k-(c+1))) M2 [] j:=by
  intro j;induction j with
  |zero=>intro _;exact QB Zu (c+1) (Nat.le_refl _)
  |succ j ih=>intro hj;rw[show c+1+(j+1)=(c+1+j)+1 by omega];simp only[gz,ih (by omega),g2 j (by omega),K2 j (by omega)]
 have post:∀i o,i<k->l.toArray[i]?=some o->i≠c->uP P l.toArray.toList i (kv B) (kv B) (dV l.toArray.toList aw (kv L.s) i) (dD N (kv (bs++L.b)) i) (en am (kv L.g) i) (gp bT N [] i) (gz l.toArray.toList am [] i) o (aw i) (N i) (bT i) (am i):=by
  intro i o hi ho AX;have ho:l[i]?=some o:=by simpa using ho
  rcases Nat.lt_or_ge i c with h5|h5
  ·obtain⟨p1,p2⟩:=Xb i o h5 ho;have:=(JA (Bj:=dD N (kv (bs++L.b)) i) (Gj:=en am (kv L.g) i) (lK:=gp bT N [] i) (ze:=gz l am [] i) (Gv i o h5 ho) p1 p2 (λ p G hh=>by
    rw[Sz i (by omega),Qu i (λ j q hj hq=>pN j q (by omega) hq),hh];have:=pN i p h5 G;unfold aL at this;cases hk:kv bs p.1 with
    |none=>rfl
    |some y=>rw[hk] at this;cases this)).2.2
   rw[<-Am i (by omega),<-D8 i h5,<-zg i h5,<-Q8 i h5,<-K1 i h5] at this;exact this
  ·obtain⟨j,rfl⟩:∃j,i=c+1+j:=⟨i-(c+1),by omega⟩;have:=agS j o (by rw[<-g2 j (by omega)];exact ho);rw[<-Sy j (by omega),<-Sw j (by omega),<-Sx j (by omega),<-abX j (by omega),<-ab0 j (by omega),<-Q1,<-K4 j (by omega),<-Q9 j (by omega),<-K2 j (by omega)] at this;exact this
 let vF:Nat->Bool:=λ i=>decide (i<k)&&!(i==c)&&!(j3 l.toArray l.toArray.size i c)
 have JW:∀i,vF i=true->i<k/\i≠c/\∀o,l.toArray[i]?=some o->o.dst.isSome=true/\uW o=false:=λ i hi=>by
  simp only[vF,Bool.and_eq_true,decide_eq_true_eq,Bool.not_eq_true',beq_eq_false_iff_ne] at hi;refine⟨hi.1.1,hi.1.2,λ o ho=>?_⟩;rcases Xg hP hi.1.1 hi.1.2 ho with h1|h1
  ·rw[hi.2] at h1;cases h1
  ·exact h1
 have aiM:∀i,vF i=true->bT i=false/\am i=none:=λ i hi=>by
  obtain⟨h1,u,J⟩:=JW i hi;obtain⟨o,ho⟩:=om i (by omega);have cY:l.toArray[i]?=some o:=by simpa using ho
  obtain⟨p1,p2⟩:=J o cY;have:=JA (Bj:=dD N (kv (bs++L.b)) i) (Gj:=en am (kv L.g) i) (lK:=[]) (ze:=[]) (post i o h1 cY u) p1 p2 (λ p G hh=>hh);exact⟨this.1,this.2.1⟩
 refine⟨λ a e F=>?_⟩;have:=D2 (P:=P) (Γ:=Γ) (L:=L) (ops:=l.toArray) (H:=k) (λ _=>false) (λ i=>i==c) vF aV (LJ hT) (by omega) (aw:=aw) (N:=N) (bT:=bT) (am:=am) (B:=B) (a0:=a) (Q:=jP Γ Q) Nk Mk
  (λ i hi=>by rcases hi with hi|hi;·cases hi
              ·rw[show i=c by simpa using hi];exact Nc)
  (λ i hi=>by rcases hi with hi|hi;·cases hi
              ·rw[show i=c by simpa using hi];exact Mc)
  (λ i o ho=>by
   by_cases AX:i=c
   ·exact .inr (.inl (by simp[AX]))
   ·by_cases ul:j3 l.toArray l.toArray.size i c=true
    ·exact .inr (.inr ⟨c,by simp,ul⟩)
    ·have ul:j3 l.toArray l.toArray.size i c=false:=by simpa using ul
     rcases Nat.lt_or_ge i k with h5|h5
     ·exact .inl (by
       show(decide (i<k)&&!(i==c)&&!(j3 l.toArray l.toArray.size i c))=true;rw[ul];simp[h5,AX])
     ·exfalso;rcases QI hT ho h5 (show c<i by omega) with⟨x,hx,hb,mU⟩|⟨_,h6⟩
      ·rw[show l.toArray.size=(l.length-1)+1 by omega] at ul;simp only[j3,ho] at ul;have:(o.after.any λ e=>Region.binds .any e&&(e.on==c||j3 l.toArray (l.length-1) e.on c))=true:=Array.any_eq_true'.2 ⟨x,hx,by simp[hb,mU]⟩;rw[this] at ul;cases ul
      ·rw[ul] at h6;cases h6)
  (.inl aiM) (λ b cs=>oX.get)
  (λ i o hi ho _ amr Bb=>by
   obtain⟨h1,u,J⟩:=JW i Bb;obtain⟨p1,p2⟩:=J o ho;have cG:=post i o h1 ho u;have cG:=(JA (Bj:=dD N (kv L.b) i) (Gj:=en am (kv L.g) i) (lK:=gp bT N [] i) (ze:=gz l.toArray.toList am [] i) cG p1 p2 (λ p G hh=>by
    obtain⟨q1,q2⟩:=sc i hh;exact Ky i (OD q1).2 q2)).2.2
   rcases cG with⟨a1,a2,a3,a4,a5⟩|cG|⟨nm,cs,aZ,_,K,_⟩|⟨g,aa,fA,_,_,dw,_⟩
   ·refine .inl ⟨a1,.inl (by rcases a2 with a2|⟨_,a2⟩<;>exact a2),a3,a4,a5⟩
   ·exact .inr (.inl cG)
   ·rw[K] at p1;cases p1
   ·rw[dw] at p2;cases p2)
  (λ aK b ae hv q2 q3 q4=>by
   have h1:=q2 c tT;rw[q4 c (by simp)] at h1;cases h1)
  (λ fuel aK bF ae i hi t8 hr bS iG _=>by
   obtain rfl:i=c:=by simpa using hi
   have ho:l.toArray[i]?=some oc:=by simpa using gc
   have kg:=(mem_ready.1 hr).1;have bY:dV l.toArray.toList aw (kv L.s) i=kv sk.s:=by show dV l aw (kv L.s) i=_;rw[Am i (Nat.le_refl _),<-Al]
   have hw:=bS.wanted aV ho hr (c:=true) (by rw[bY];exact mP);have jG:=bS.jd aV ho hr;rw[bY] at jG;have C3:∀x∈oc.op.operands,∀d,ev (kv sk.s) x=some d->bC ae (bF.eval x) d:=λ x hx d K=>by
    cases x with
    |tmp fA=>exact jG fA (List.mem_append_left _ (List.mem_filterMap.2 ⟨.tmp fA,by simpa using hx,rfl⟩)) d K
    |const v=>simp only[ev,zZ,Option.some.injEq] at K;subst K;exact zY _ v
    |global g=>cases K
    |func ml=>simp only[ev,Option.some.injEq] at K;subst K;exact .fn (us:=[]) (vs:=[]) rfl rfl (λ i v d h=>by simp at h) (λ i v d h=>by simp at h)
   have hv:=EK (a:=bF) (e:=ae) xs (λ x hx=>C3 x (by rw[bv];simp[Op.operands,Call.operands,hx])) adP;have dt:∀b,aL bs b=true->ae.bx b=none:=λ b hb=>by
    refine bS.ee b (afS b hb) λ j p Z hu G he=>?_
    have rE:j<l.length:=by
     rcases Nat.lt_or_ge j l.length with h5|h5
     ·exact h5
     ·rw[Nk j (by omega)] at G;cases G
    have Fx:j≠i:=λ e5=>by rw[e5,Nc] at G;cases G
    have kF:j<k:=by
     rcases Nat.lt_or_ge j k with h5|h5
     ·exact h5
     ·rw[Nk j h5] at G;cases G
    obtain⟨oj,jk⟩:=om j rE;rcases post j oj kF (by simpa using jk) Fx with⟨_,_,a3,_,_⟩|⟨_,_,a3,_,_⟩|⟨_,_,_,_,_,_,_,_,_,_,_,a3,_⟩|⟨_,_,_,_,_,_,_,_,a3,_⟩
    ·have:=(OD (sc j (a3 p G).1).1).1;rw[he,hb] at this;cases this
    ·rw[a3] at G;cases G
    ·rw[hu] at a3;cases a3
    ·rw[a3] at G;cases G
   unfold wpOp;simp only[ho];rw[if_pos hw];refine .inl ?_;unfold Oper.wp;have e1:(execOp bF.eval oc).run P ae.w=.ok (.enter f (xs.map bF.eval).toArray) ae.w:=by obtain⟨dst,op,type,pos,after,guard⟩:=oc;simp only at bv;subst bv;rw[execOp_call_go,NH];simp
   rw[e1];refine Calls.mono (adm (ae.cut (aL ([]:List (Nat×List I))) λ _=>false) (xs.map bF.eval) (af3 ae) ⟨hv.1,λ i v d h1 u=>(hv.2 i v d h1 u).cut (rZ ae6 u)⟩) λ r aA hh=>?_
   obtain⟨v,eo,ay,e2,rfl,rfl,adw,hI,I6,hL⟩:=hh;obtain⟨rfl,rfl⟩:=hR eo ay adw;have UV:=abo bS.env dt hI hL I6;rw[<-Fc] at UV;have A7:=bS.aho aV ho hr Nc Mc UV;have CT:fuel=m6 (aK.setIfInBounds i true):=by have:=QN kg;omega
   have dY:=(nq kg).2;refine D2 (P:=P) (Γ:=Γ) (L:=⟨L.s,ay++L.b,L.g⟩) (ops:=l.toArray) (H:=k) (λ j=>j==i) (λ _=>false) (λ _=>true) aV (LJ hT) (by omega) (aw:=aw) (N:=N) (bT:=bT) (am:=am) (B:=B) (a0:=a) (Q:=jP Γ Q) Nk Mk
    (λ j hj=>by rcases hj with hj|hj;·rw[show j=i by simpa using hj];exact Nc
                ·cases hj)
    (λ j hj=>by rcases hj with hj|hj;·rw[show j=i by simpa using hj];exact Mc
                ·cases hj)
    (λ _ _ _=>.inl rfl) (.inr λ _=>rfl)
    (λ b cs hb=>by
     have h1:=oX.get hb;have:aL ay b=false:=by
      cases h5:aL ay b with
      |false=>rfl
      |true=>rw[(oo b h5).2] at hb;cases hb
     rw[Vx this];exact h1)
    (λ j o hj jk sG _ _=>by
     have cG:=post j o hj jk (by simpa using sG);rcases cG with⟨a1,a2,a3,a4,a5⟩|cG|cG|cG
     ·exact .inl ⟨a1,.inl (by rcases a2 with a2|⟨_,a2⟩<;>exact a2),a3,a4,a5⟩
     ·exact .inr (.inl cG)
     ·exact .inr (.inr (.inl cG))
     ·exact .inr (.inr (.inr cG)))
    (λ aK b e3 hv q2 q3 _=>by
     have hb:bE Γ j5 e3 b:=hv.qq aV (by rw[Sv];have:=Sy (k-(i+1)) (Nat.le_refl _);rw[show i+1+(k-(i+1))=k by omega] at this;exact this.symm) (by rw[Ss];have:=Sw (k-(i+1)) (Nat.le_refl _);rw[show i+1+(k-(i+1))=k by omega] at this;exact this.symm) (by rw[Su];have:=Sx (k-(i+1)) (Nat.le_refl _);rw[show i+1+(k-(i+1))=k by omega] at this;exact this.symm) q2 q3;exact KP aV hT _ _ aK b e3.w (by omega) (Nat.le_refl _) hv.l5 q2 q3 (by rw[NF];exact hK.run b e3 hb))
    (λ _ _ _ _ _ h=>by cases h)
    fuel _ _ (ae.after e2 [] ay) CT A7 (λ fA h1 u=>by rw[getD_set_ne true (by omega)];exact iG fA h1 u) (λ j hj=>by rw[show j=i by simpa using hj];simp[dY]) (λ j hj=>by cases hj))
  l.toArray.size (Array.replicate l.toArray.size false) a {e with w:=e.w.drew} (KM _).symm
  ?_ (λ t _ ht=>by have Bp:t<l.length:=by simpa using ht
                   simp[Bp]) (λ i hi=>by cases hi) (λ i hi=>by
   have:i=c:=by simpa using hi
   have dw:c<l.length:=by omega
   simp[this,dw])
 ·exact wp_region_any hm this
 ·have hg:j7 e {e with w:=e.w.drew}:=⟨(Below.refl _ _).drew,λ _ _=>rfl,rfl,rfl,rfl⟩;have d4:=F.grow hg;refine⟨by simp,F.size,F.df,λ i o _ Z=>?_,λ i o t _ Z=>?_,λ t _=>rfl,d4.dj,λ b cs hb _=>d4.boxes b cs hb,λ i p Z=>?_,λ b hb _=>d4.ee b hb,λ g _=>d4.gs g,λ i p Z=>?_,d4.env⟩
  all_goals(simp[Array.getElem?_replicate] at Z;split at Z<;>simp at Z)
def Ea(bs b B:List (Nat×List I)):Prop:=match bs with
 |[]=>True
 |p::l=>kv b p.1=none/\kv B p.1=none/\Ea l b B
theorem Ea.get{b B:List (Nat×List I)}:∀{bs:List (Nat×List I)}(_:Ea bs b B){x:Nat},aL bs x=true->kv b x=none/\kv B x=none
 |[],_,x,h=>by cases h
 |(k,v)::l,hf,x,h=>by
  unfold aL at h;rw[dc] at h;split at h
  ·rename_i e;subst e;exact⟨hf.1,hf.2.1⟩
  ·exact Ea.get hf.2.2 h
theorem aa3{l l2:List Oper}{B:List (Nat×List I)}{oc:Oper}{ix:Nat}{aB:St->Prop}{s:List (Nat×I)}{b:List (Nat×List I)}{g:List (Nat×Gr)}{f:FuncId}{ds:List I}{ap:I->List (Nat×List I)->Prop}{d:I}{bs:List (Nat×List I)}{t:Nat}{xs:List Operand}{fa:Array TypeId}(hC:gt P f [] ds [] ap)(hR:∀eo ay,ap eo ay->eo=d/\ay=bs)(ho:oc.op=.call {callee:=.value (.func f),args:=xs.toArray,argTypes:=fa})(hf:jM P f)(he:i3 (kv s) xs some=some ds)(aV:I.ok.fy (aL ([]:List (Nat×List I))) (λ _=>false) ds=true)(hg:gd l oc (kv s)=some true)(K:oc.dst=some t)(Z:Nat.blt t Γ.n=true)(oo:Ea bs b B)
 (h:co P Γ.n l B B aB ix [] [] l2 ⟨(t,d)::s,bs++b,g⟩):Q0 P Γ l B oc ix aB l2 ⟨s,b,g⟩:=⟨f,ds,ap,d,bs,t,xs,fa,hC,hR,ho,hf,he,aV,hg,K,Z,λ _ hx=>oo.get hx,h⟩
end
end Go.Proofs.YtkkldicehapklaaGreat
end
section
namespace Go.Proofs.YtkkldicehapklaaGreat
open Go.Proofs.Tryz
open Go.RowKit
section
variable{P:Program}{aq:Nat->Option TI}{Γ:bX}{L:St}
inductive Ei(e:aE)(nm n c sz:Nat)(ps:List Pl):Value->Prop where
 |none (hn:n=0) (F:c=0) (cG:ps=[]):Ei e nm n c sz ps (.slice none 0 0)
 |empty {ad:Addr} (hn:n=0) (F:c=0) (cG:ps=[]):Ei e nm n c sz ps (.slice (some ad) 0 0)
 |some {k:Nat} {vs:List Value} {el:TypeId} (hk:e.bx nm=some k) (hh:e.w.heap[k]?=some (.cells vs.toArray el (0,0))) (Z:vs.length=c*sz) (hn:n<=c) (cG:ps.length=n*sz) (hr:∀(j:Nat) v x,vs[j]?=some v->ps[j]?=some x->c5 e v x):Ei e nm n c sz ps (.slice (some ⟨k,0,none⟩) n c)
theorem aaf(hT:dh P aq){e:aE}{a:Act}(F:bE Γ L e a){ty:TypeId}{nm n m c el z1 z2 sz:Nat}{z3:Value}{ps qs:List Pl}{i:TI}{vx vy:Value}{t:TypeId}(ht:aq t=some ⟨.slice el,z1,z2,z3⟩)(dO:aq el=some i)(iH:i.zero.cells.size=sz)(I9:i.sz=sz)(h0:0<sz)(dI:kv Γ.kb nm=none)
 (hx:Ei e nm n c sz ps vx)(mp:c<=maxLen)(fp:c5 e vy (.sl false m qs))(hm:0<m)(cq:qs.length=m*sz)
 (gI:n+m<=maxLen)(fQ:(n+m)*i.bytes<=140737488355328):∃v ae aZ aT,(Builtin.append_ #[t,t] ty #[vx,vy]).run P e.w=.ok v ae.w/\aZ.length=aT*sz/\aT<=maxLen/\n+m<=aT/\aZ.take ((n+m)*sz)=(ps++qs).map I.p/\gu aZ/\
  bE Γ ⟨tE (cH nm) L.s,(nm,aZ)::iY (Nat.beq nm) (cH nm) L.b,L.g⟩ ae a/\bC ae v (.arr nm 0 (n+m) aT):=by
 obtain⟨d0,ep,hk⟩:=hT.desc t _ ht;cases d0<;>simp only[km,reduceCtorEq,TK.slice.injEq] at hk
 rw[hk] at ep;obtain⟨gO,nC,hsz,ve,hz⟩:=hT.info _ i dO;rw[I9] at hsz;obtain⟨bK,l8,rfl,Ve,Vf,TP,_,hY⟩:=qa fp;have FX:qs≠[]:=λ ae=>by rw[ae] at cq;simp only[List.length_nil] at cq;have:=Nat.mul_pos hm h0;omega
 rcases hY with hY|⟨yb,yo,rfl,E5⟩
 ·exact absurd hY FX
 obtain⟨us,ur,rQ,sR,w4⟩:=Eu E5;have qJ:us.length=m*gO.size:=by rw[ur,cq,hsz]
 have mv:(n+m)*sz=n*sz+m*sz:=Nat.add_mul _ _ _;have wZ:us.length=m*sz:=by rw[ur,cq]
 have wH:=F.forget nm dI;have FM:kv (iY (Nat.beq nm) (cH nm) L.b) nm=none:=by
  cases h:kv (iY (Nat.beq nm) (cH nm) L.b) nm with
  |none=>rfl
  |some cs=>have:=(Cr h).1;simp at this
 have vf:∀(os:List Value),os.length=n*sz->ps.length=n*sz->(∀(j:Nat) v x,os[j]?=some v->ps[j]?=some x->c5 e v x)->(c<n+m)->(Builtin.append_ #[t,t] ty #[vx,.slice (some ⟨yb,yo,none⟩) m l8]).run P e.w=.ok (.slice (some ⟨e.w.heap.size,0,none⟩) (n+m) (grownCap e.w (n+m) c el)) (e.w.drew.alloc (.cells (os.toArray++us.toArray++Builtin.zeroCells i.zero.cells (grownCap e.w (n+m) c el-(n+m))) el))->
  ∃v ae aZ aT,(Builtin.append_ #[t,t] ty #[vx,.slice (some ⟨yb,yo,none⟩) m l8]).run P e.w=.ok v ae.w/\aZ.length=aT*sz/\aT<=maxLen/\n+m<=aT/\aZ.take ((n+m)*sz)=(ps++qs).map I.p/\gu aZ/\
  bE Γ ⟨tE (cH nm) L.s,(nm,aZ)::iY (Nat.beq nm) (cH nm) L.b,L.g⟩ ae a/\bC ae v (.arr nm 0 (n+m) aT):=by
  intro os jF cG lY aY cS;have iF:n+m<=grownCap e.w (n+m) c el:=grownCap_ge _ _ _ _;have qB:grownCap e.w (n+m) c el<=maxLen:=grownCap_le_maxLen _ _ _ _ gI;generalize grownCap e.w (n+m) c el=bG at iF qB cS
  let e1:=e.cut (cH nm) λ _=>true
  let jq:List Value:=os++us++(Builtin.zeroCells i.zero.cells (bG-(n+m))).toList
  have yu:os.toArray++us.toArray++Builtin.zeroCells i.zero.cells (bG-(n+m))=jq.toArray:=by apply Array.ext';simp[jq]
  have cx:jq.length=bG*sz:=by
   have:(Builtin.zeroCells i.zero.cells (bG-(n+m))).toList.length=(bG-(n+m))*sz:=by rw[Array.length_toList,size_zeroCells,iH]
   simp only[jq,List.length_append,jF,wZ,this];have:=Nat.mul_le_mul_right sz iF;rw[Nat.sub_mul];omega
  rw[yu] at cS
  let e2:aE:={e1 with w:=e.w.drew}
  have jE:j7 e1 e2:=⟨(Below.refl _ _).drew,λ _ _=>rfl,rfl,rfl,rfl⟩;have iU:=aE.v8 e2 (.cells jq.toArray el) (some 0);have fI:=(wH.grow jE).grow iU;have k8:Ends e1 (e2.alloc (.cells jq.toArray el) (some 0)):=jE.ends.trans iU.ends;have pP:∀(j:Nat) v x,jq[j]?=some v->(ps++qs)[j]?=some x->c5 e1 v x:=by
   intro j v x hv hx;rcases Nat.lt_or_ge j (n*sz) with hj|hj
   ·rw[List.getElem?_append_left (by omega)] at hx;simp only[jq,List.append_assoc] at hv;rw[List.getElem?_append_left (by omega)] at hv;exact(lY j v x hv hx).cut
   ·rw[List.getElem?_append_right (by omega),cG] at hx;have CY:=(List.getElem?_eq_some_iff.1 hx).1;simp only[jq,List.append_assoc] at hv;rw[List.getElem?_append_right (by omega),jF,List.getElem?_append_left (by omega)] at hv;exact(w4 _ v x hv hx).cut
  have cV:(ps++qs).length=(n+m)*sz:=by rw[List.length_append,cG,cq,mv]
  have wz:=J6 (e:=e1) (vs:=jq) (ps:=ps++qs) (by rw[cV,cx];exact Nat.mul_le_mul_right sz iF) pP;have iT:(e2.alloc (.cells jq.toArray el) (some 0)).bx nm=none:=by show(if cH nm nm=true then e.bx nm else none)=none;simp[cH]
  have AF:=vZ (k:=e.w.heap.size) iT;have AU:=fI.Ii (b:=nm) (k:=e.w.heap.size) (cs:=(ps++qs).map I.p++List.replicate (jq.length-(ps++qs).length) I.any) FM (by simp[aE.alloc,e2]) (.inl F.env.kept.size) (by simp[aE.alloc,e2]) (by
   show(e.cut (cH nm) λ _=>true).gr _=none;show(match e.gr e.w.heap.size with|some g=>if true=true then some g else none|none=>none)=none;cases hg:e.gr e.w.heap.size with
   |none=>rfl
   |some g=>obtain⟨_,_,_,J,_⟩:=F.env.gr _ g hg;omega) (λ x hx=>by
   have cX:(if cH nm x=true then e.bx x else none)=some e.w.heap.size:=hx;split at cX
   ·have:=(F.env.bx x _ cX).1;omega
   ·cases cX) ⟨e.w.heap.size,jq,el,by simp[aE.jr],heap_alloc_new e2.w _,(wz.next k8).next AF⟩
  refine⟨_,(e2.alloc (.cells jq.toArray el) (some 0)).jr nm e.w.heap.size,_,bG,cS,?_,qB,iF,?_,J8 _ _,AU,.arr (by simp[aE.jr])⟩
  ·simp only[List.length_append,List.length_map,List.length_replicate,cx,cG,cq];have:=Nat.mul_le_mul_right sz iF;omega
  ·rw[<-cV,List.take_append_of_le_length (by simp),List.take_of_length_le (by simp)]
 cases hx with
 |empty hn lx cG=>rename_i ad;subst hn;subst lx;subst cG;have cS:=run_append_grow (P:=P) e.w t ty el gO i.zero ep nC hz ad 0 0 [] (by simp) (λ j v hj=>by simp at hj) ⟨yb,yo,none⟩ m l8 us qJ rQ (by omega) (by simp only[maxLen] at gI;omega) (growslice_fits (by omega) (by rw[ve];exact fQ));exact vf [] (by simp) (by simp) (λ j v x hj=>by simp at hj) (by omega) cS
 |none hn lx cG=>subst hn;subst lx;subst cG;have cS:=run_append_nil (P:=P) e.w t ty el gO i.zero ep nC hz ⟨yb,yo,none⟩ m l8 us qJ rQ hm (by simp only[maxLen] at gI;omega) (by rw[ve];simp only[Nat.zero_add] at fQ;omega);exact vf [] (by simp) (by simp) (λ j v x hj=>by simp at hj) (by omega) (by simpa using cS)
 |some hk hh Z hn cG hr=>
  rename_i k vs rm
  by_cases qI:n+m<=c
  ·have cS:=X1 (P:=P) e.w t ty el rm gO ep nC k n c vs.toArray hh ⟨yb,yo,none⟩ m l8 us qJ rQ sR qI (by rw[hsz,wZ];simp only[List.size_toArray,Z];have:=Nat.mul_le_mul_right sz qI;omega);obtain⟨h1,u,J,h4⟩:=F.env.bx nm k hk
   let fu:=vs.take (n*sz)++us++vs.drop ((n+m)*sz)
   have jU:=Nat.mul_le_mul_right sz qI;have qK:(vs.toArray.toList.take (n*gO.size)++us++vs.toArray.toList.drop (n*gO.size+us.length))=fu:=by simp only[hsz,wZ,fu,mv]
   rw[qK] at cS;have dt:∀x,(e.cut (cH nm) λ _=>true).bx x≠some k:=λ x hx=>by
    have cX:(if cH nm x=true then e.bx x else none)=some k:=hx;split at cX
    ·rename_i aW;exact O6 aW (F.env.inj _ _ _ cX hk)
    ·cases cX
   have wN:(e.cut (cH nm) λ _=>true).gr k=none:=by show(match e.gr k with|some g=>if true=true then some g else none|none=>none)=none;rw[h4]
   obtain⟨ox,Y⟩:=wH.Yf fu u J wN dt;have cx:fu.length=c*sz:=by simp only[fu,List.length_append,List.length_take,List.length_drop,wZ,Z];omega
   have cV:(ps++qs).length=(n+m)*sz:=by rw[List.length_append,cG,cq,mv]
   have pP:∀(j:Nat) v x,fu[j]?=some v->(ps++qs)[j]?=some x->c5 (e.cut (cH nm) λ _=>true) v x:=by
    intro j v x hv hx;rcases Nat.lt_or_ge j (n*sz) with hj|hj
    ·rw[List.getElem?_append_left (by omega)] at hx;simp only[fu,List.append_assoc] at hv;rw[List.getElem?_append_left (by simp only[List.length_take,Z];omega),List.getElem?_take,if_pos hj] at hv;exact(hr j v x hv hx).cut
    ·rw[List.getElem?_append_right (by omega),cG] at hx;have CY:=(List.getElem?_eq_some_iff.1 hx).1;simp only[fu,List.append_assoc] at hv;rw[List.getElem?_append_right (by simp only[List.length_take,Z];omega),List.length_take,Z,Nat.min_eq_left (by omega),List.getElem?_append_left (by omega)] at hv;exact(w4 _ v x hv hx).cut
   have wz:=J6 (vs:=fu) (ps:=ps++qs) (by rw[cV,cx];exact jU) pP;have iT:(e.cut (cH nm) λ _=>true).bx nm=none:=by show(if cH nm nm=true then e.bx nm else none)=none;simp[cH]
   have AF:=vZ (e:={w:=(e.cut (cH nm) λ _=>true).w.setRow k fu.toArray,cl:=(e.cut (cH nm) λ _=>true).cl,bx:=(e.cut (cH nm) λ _=>true).bx,gr:=(e.cut (cH nm) λ _=>true).gr,gi:=(e.cut (cH nm) λ _=>true).gi}) (b:=nm) (k:=k) iT;have AU:=ox.Ii (b:=nm) (k:=k) (cs:=(ps++qs).map I.p++List.replicate (fu.length-(ps++qs).length) I.any) FM (by show k<(e.w.setRow k _).heap.size;rw[setRow_size];exact h1) u J wN dt ⟨k,fu,rm,by simp[aE.jr],HL hh,(wz.next Y).next AF⟩;refine⟨_,_,_,c,cS,?_,mp,qI,?_,J8 _ _,AU,.arr (by simp[aE.jr])⟩
   ·simp only[List.length_append,List.length_map,List.length_replicate,cx,cG,cq];omega
   ·rw[<-cV,List.take_append_of_le_length (by simp),List.take_of_length_le (by simp)]
  ·have cS:=run_append_grow (P:=P) e.w t ty el gO i.zero ep nC hz ⟨k,0,none⟩ n c (vs.take (n*sz)) (by rw[hsz,List.length_take,Z];have:=Nat.mul_le_mul_right sz hn;omega) (λ j v hj=>by
    rw[List.getElem?_take] at hj;split at hj
    ·rw[qZ,cell_of_row e.w k (0+j) vs.toArray rm (0,0) hh];simpa using hj
    ·cases hj) ⟨yb,yo,none⟩ m l8 us qJ rQ (by omega) (by simp only[maxLen] at gI;omega) (growslice_fits (by omega) (by rw[ve];exact fQ))
   exact vf (vs.take (n*sz)) (by rw[List.length_take,Z];have:=Nat.mul_le_mul_right sz hn;omega) cG (λ j v x hv hx=>by
    rw[List.getElem?_take] at hv;split at hv
    ·exact hr j v x hv hx
    ·cases hv) (by omega) cS
end
section
variable{P:Program}{aq:Nat->Option TI}{Γ:bX}{o:Oper}{l0 l:List Oper}{Q:Exit->St->Prop}
variable{s ah:List (Nat×I)}{b aP:List (Nat×List I)}{g:List (Nat×Gr)}{t:Nat}
theorem Ro(hT:dh P aq)(nm:Nat){ty:TypeId}{x y:Operand}{n m c el z1 z2 sz:Nat}{z3:Value}{ps qs:List Pl}{dy:I}{i:TI}(ho:o.op=.call {callee:=.builtin .append,args:=#[x,y],argTypes:=#[ty,ty]})(ht:aq ty=some ⟨.slice el,z1,z2,z3⟩)(dO:aq el=some i)(iH:Nat.beq i.zero.cells.size sz=true)(hsz:Nat.beq i.sz sz=true)(h0:Nat.blt 0 sz=true)
 (hg:gd l0 o (kv s)=some true)(K:o.dst=some t)(Z:Nat.blt t Γ.n=true)(dI:kv Γ.kb nm=none)(hx:∀(a:Act)(e:aE),bE Γ ⟨s,b,g⟩ e a->Ei e nm n c sz ps (a.eval x))(mp:c<=maxLen)(hy:ev (kv s) y=some dy)(lV:nS dy=some (m,qs))(hm:0<m)(cq:qs.length=m*sz)
 (gI:n+m<=maxLen)(fQ:(n+m)*i.bytes<=140737488355328)(h3:lT (cH nm) s (λ ah=>mj (Nat.beq nm) (cH nm) b (λ aP=>some (ah,aP)))=some (ah,aP))
 (h:∀aZ aT,aZ.length=aT*sz->aT<=maxLen->n+m<=aT->aZ.take ((n+m)*sz)=(ps++qs).map I.p->gu aZ->bw P Γ l0 Q l ⟨(t,.arr nm 0 (n+m) aT)::ah,(nm,aZ)::aP,g⟩):bw P Γ l0 Q (o::l) ⟨s,b,g⟩:=by
 rw[wh,wg] at h3;cases h3;refine⟨λ a e F=>?_⟩;unfold wpList;rw[if_pos (mm F hg)];have jG:=F.jd o.op.operands;have fp:=yV (jG.1 y (by rw[ho];simp[Op.operands,Call.operands]) _ hy) lV;obtain⟨v,ae,aZ,aT,cS,h1,u,J,h4,cV,h5,h6⟩:=aaf hT F (ty:=o.type) ht dO (Nat.eq_of_beq_eq_true iH) (Nat.eq_of_beq_eq_true hsz) (by rw[Nat.blt_eq] at h0;exact h0) dI (hx a e F) mp fp hm cq gI fQ;refine .inl ?_;unfold Oper.wp;rw[X0 ho cS];have:=(h5.put (dst:=o.dst) (rl K Z) h6);rw[K] at this;show wpList P l0.toArray (jP Γ Q) l (a.put o.dst v) ae.w;rw[K];exact(h aZ aT h1 u J h4 cV).run _ ae this
theorem Ll(hT:dh P aq){nm:Nat}{ty:TypeId}{x y:Operand}{n m c el z1 z2 sz:Nat}{z3:Value}{cs:List I}(ps:List Pl){qs:List Pl}{dy:I}{i:TI}(ho:o.op=.call {callee:=.builtin .append,args:=#[x,y],argTypes:=#[ty,ty]})(ht:aq ty=some ⟨.slice el,z1,z2,z3⟩)(dO:aq el=some i)(iH:Nat.beq i.zero.cells.size sz=true)(hsz:Nat.beq i.sz sz=true)(h0:Nat.blt 0 sz=true)
 (hg:gd l0 o (kv s)=some true)(K:o.dst=some t)(Z:Nat.blt t Γ.n=true)(hx:ev (kv s) x=some (.arr nm 0 n c))(dI:kv Γ.kb nm=none)(hb:kv b nm=some cs)(hy:ev (kv s) y=some dy)(lV:nS dy=some (m,qs))(h3:lT (cH nm) s (λ ah=>mj (Nat.beq nm) (cH nm) b (λ aP=>some (ah,aP)))=some (ah,aP))
 (bV:cs.length=c*sz)(qG:n<=c)(cG:ps.length=n*sz)(mW:cs.take (n*sz)=ps.map I.p)(mp:c<=maxLen)(hm:0<m)(cq:qs.length=m*sz)(gI:n+m<=maxLen)(fQ:(n+m)*i.bytes<=140737488355328)
 (h:∀aZ aT,aZ.length=aT*sz->aT<=maxLen->n+m<=aT->aZ.take ((n+m)*sz)=(ps++qs).map I.p->gu aZ->bw P Γ l0 Q l ⟨(t,.arr nm 0 (n+m) aT)::ah,(nm,aZ)::aP,g⟩):bw P Γ l0 Q (o::l) ⟨s,b,g⟩:=by
 refine Ro hT nm ho ht dO iH hsz h0 hg K Z dI (λ a e F=>?_) mp hy lV hm cq gI fQ h3 h;have di:=(F.jd o.op.operands).1 x (by rw[ho];simp[Op.operands,Call.operands]) _ hx;obtain⟨k,vs,rm,h1,u,J⟩:=F.boxes nm cs hb;generalize a.eval x=vx at di;cases di with
 |arr hk=>rw[h1] at hk;cases hk;exact .some h1 u (by rw[J.1,bV]) qG cG (Py J (by rw[cG];exact mW))
theorem Lj(hT:dh P aq)(nm:Nat){ty:TypeId}{x y:Operand}{m el z1 z2 sz:Nat}{z3:Value}{qs:List Pl}{dy:I}{i:TI}(ho:o.op=.call {callee:=.builtin .append,args:=#[x,y],argTypes:=#[ty,ty]})(ht:aq ty=some ⟨.slice el,z1,z2,z3⟩)(dO:aq el=some i)(iH:Nat.beq i.zero.cells.size sz=true)(hsz:Nat.beq i.sz sz=true)(h0:Nat.blt 0 sz=true)
 (hg:gd l0 o (kv s)=some true)(K:o.dst=some t)(Z:Nat.blt t Γ.n=true)(hx:ev (kv s) x=some (.p (.sl true 0 [])))(dI:kv Γ.kb nm=none)(hy:ev (kv s) y=some dy)(lV:nS dy=some (m,qs))(h3:lT (cH nm) s (λ ah=>mj (Nat.beq nm) (cH nm) b (λ aP=>some (ah,aP)))=some (ah,aP))
 (hm:0<m)(cq:qs.length=m*sz)(gI:m<=maxLen)(fQ:m*i.bytes<=140737488355328)
 (h:∀aZ aT,aZ.length=aT*sz->aT<=maxLen->m<=aT->aZ.take (m*sz)=qs.map I.p->gu aZ->bw P Γ l0 Q l ⟨(t,.arr nm 0 m aT)::ah,(nm,aZ)::aP,g⟩):bw P Γ l0 Q (o::l) ⟨s,b,g⟩:=by
 refine Ro hT nm (n:=0) (c:=0) (ps:=[]) ho ht dO iH hsz h0 hg K Z dI (λ a e F=>?_) (Nat.zero_le _) hy lV hm cq (by omega) (by simpa using fQ) h3 (λ aZ aT h1 u J h4 cV=>?_)
 ·have di:=(F.jd o.op.operands).1 x (by rw[ho];simp[Op.operands,Call.operands]) _ hx;generalize a.eval x=vx at di;cases di with
  |p h1=>
   obtain⟨A,bG,rfl,_,_,_,h5,_⟩:=qa h1;have:=h5 rfl;subst this;cases A with
   |none=>exact .none rfl rfl rfl
   |some ad=>exact .empty rfl rfl rfl
 ·simp only[Nat.zero_add,List.nil_append] at J h4⊢;exact h aZ aT h1 u J h4 cV
end
end Go.Proofs.YtkkldicehapklaaGreat
end
section
namespace Go.Proofs.YtkkldicehapklaaGreat
open Go.Proofs.Tryz
open Go.RowKit
section
variable{P:Program}{aq:Nat->Option TI}{Γ:bX}
variable{s ah:List (Nat×I)}{b aP:List (Nat×List I)}{g:List (Nat×Gr)}
end
end Go.Proofs.YtkkldicehapklaaGreat
end
section
namespace Go.Proofs.YtkkldicehapklaaGreat
open Go.Proofs.Tryz
open Go.ChangeShapes Go.WideShapes Go.ChangeAt Go.RowKit Go.Deep
abbrev n6(w:World):aE:=hl w (λ _=>none)
theorem abb(w:World)(b o:Nat):(n6 w).nY b o:=λ k hk=>by cases hk
def iz(e:aE)(vs:List Value)(ps:List Pl):Prop:=vs.length=ps.length/\∀(i:Nat) v x,vs[i]?=some v->ps[i]?=some x->c5 e v x/\lF v=true
theorem iz.nil(e:aE):iz e [] []:=⟨rfl,λ i v x h=>by simp at h⟩
theorem iz.cons{e:aE}{v:Value}{x:Pl}{vs:List Value}{ps:List Pl}(h:c5 e v x)(Z:lF v=true)(T:iz e vs ps):iz e (v::vs) (x::ps):=by
 refine⟨by simp[T.1],λ i aH y h1 u=>?_⟩;cases i with
 |zero=>simp at h1 u;subst h1;subst u;exact⟨h,Z⟩
 |succ i=>exact T.2 i aH y (by simpa using h1) (by simpa using u)
theorem iz.int{e:aE}{k:IntKind}{n:Int}{vs:List Value}{ps:List Pl}(T:iz e vs ps):iz e (.int k n::vs) (.raw (.int k n)::ps):=.cons (.raw _) rfl T
theorem iz.bool{e:aE}{b:Bool}{vs:List Value}{ps:List Pl}(T:iz e vs ps):iz e (.bool b::vs) (.raw (.bool b)::ps):=.cons (.raw _) rfl T
theorem iz.append{e:aE}{vs us:List Value}{ps qs:List Pl}(h:iz e vs ps)(bD:iz e us qs):iz e (vs++us) (ps++qs):=by
 refine⟨by simp[h.1,bD.1],λ i v d h1 u=>?_⟩;rcases Nat.lt_or_ge i vs.length with hi|hi
 ·rw[List.getElem?_append_left hi] at h1;rw[List.getElem?_append_left (by rw[<-h.1];exact hi)] at u;exact h.2 i v d h1 u
 ·rw[List.getElem?_append_right hi] at h1;rw[List.getElem?_append_right (by rw[<-h.1];exact hi),<-h.1] at u;exact bD.2 _ v d h1 u
section
variable{H:Type}{enc:TypeId×Value->H}{P:Program}{w:World}{base:Nat}{spare:Nat->Bool}{held:Bool}
theorem ajc{t e:TypeId}{len bG:Nat}(ht:P.underlying t=some (.slice e))(h:Read enc P w base spare held t [.slice none len bG]):bG=0:=by
 obtain⟨m,y,h⟩:=h;rcases open_slice ht h with⟨e,_⟩|⟨a,len,bG,qN,n,aC,Pl,e,hb,Z,hm,UF,hx,hi⟩
 ·simp at e;omega
 ·simp at e
theorem PR{az:Type}{t e:TypeId}{sz:Nat}(f:az->List Pl)(ok:az->Prop)(hsz:0<sz)(hf:∀x,(f x).length=sz)(ht:P.underlying t=some (.slice e))(F:P.cellsOf e=sz)
 (Bd:∀cs,cs.length=sz->Read enc P w base spare held e cs->∃x,ok x/\iz (n6 w) cs (f x)){v:Value}(h:Read enc P w base spare held t [v]):
 ∃l:List az,(∀x∈l,ok x)/\l.length<=maxLen/\c5 (n6 w) v (.sl false l.length (l.flatMap f))/\lF v=true:=by
 have h0:=h;obtain⟨A,l0,bG,e1,Z,hm,aV,yh⟩:=ajd (e:=e) (sz:=sz) (az:={p:List Value×az//p.1.length=sz/\ok p.2/\iz (n6 w) p.1 (f p.2)}) (λ p=>p.1.1) (λ _=>True) hsz (λ p=>p.2.1) ht F (λ cs cx hr=>by
  obtain⟨x,h1,u⟩:=Bd cs cx hr;exact⟨⟨(cs,x),cx,h1,u⟩,rfl,trivial⟩) h
 injection e1 with e1 _
 subst e1;have qA:∀(l:List {p:List Value×az//p.1.length=sz/\ok p.2/\iz (n6 w) p.1 (f p.2)})(j:Nat)(q:Pl),((l.map λ p=>p.1.2).flatMap f)[j]?=some q->∃p,l[j/sz]?=some p/\(f p.1.2)[j%sz]?=some q:=by
  intro l;induction l with
  |nil=>intro j q h;simp at h
  |cons p l ih=>
   intro j q h;rw[List.map_cons,List.flatMap_cons] at h;rcases Nat.lt_or_ge j sz with hj|hj
   ·rw[List.getElem?_append_left (by rw[hf];exact hj)] at h;exact⟨p,by rw[Nat.div_eq_of_lt hj];rfl,by rw[Nat.mod_eq_of_lt hj];exact h⟩
   ·rw[List.getElem?_append_right (by rw[hf];exact hj),hf] at h;obtain⟨Dz,h1,u⟩:=ih _ q h;refine⟨Dz,?_,by rw[Nat.mod_eq_sub_mod hj];exact u⟩;rw[Nat.div_eq_sub_div hsz hj]
    simpa using h1
 refine⟨l0.map λ p=>p.1.2,λ x hx=>?_,by simp;omega,?_,rfl⟩
 ·obtain⟨p,_,rfl⟩:=List.mem_map.1 hx;exact p.2.2.1
 ·rw[List.length_map];refine DT Z hm (λ ae=>?_) (λ ae=>by cases ae) ?_
  ·subst ae;exact ajc ht h0
  ·rcases A2:l0 with _|⟨p,l1⟩
   ·exact .inl (by simp)
   ·right;rw[<-A2];obtain⟨b,o,hA,_,_⟩:=yh 0 p (by rw[A2];rfl);have dH:∀(j:Nat) q,((l0.map λ p=>p.1.2).flatMap f)[j]?=some q->∃aH,w.cell? ⟨b,o+j,none⟩=some aH/\lF aH=true/\c5 (n6 w) aH q:=by
     intro j q hq;obtain⟨Dz,h1,u⟩:=qA l0 j q hq;obtain⟨aP,o',pJ,_,d4⟩:=yh _ Dz h1;rw[hA] at pJ;cases pJ;have mu:j%sz<Dz.1.1.length:=by rw[Dz.2.1];exact Nat.mod_lt _ hsz
     have hu:=d4 (j%sz) _ (List.getElem?_eq_getElem mu);obtain⟨h5,h6⟩:=Dz.2.2.2.2 (j%sz) _ q (List.getElem?_eq_getElem mu) u;have hj:j/sz*sz+j%sz=j:=by rw[Nat.mul_comm];exact Nat.div_add_mod j sz
     rw[hj] at hu;exact⟨_,hu,h6,h5⟩
    refine⟨b,o,hA,λ j=>(w.cell? ⟨b,o+j,none⟩).getD undef,λ j q hq=>?_⟩;obtain⟨aH,h1,u,J⟩:=dH j q hq;have hg:(w.cell? ⟨b,o+j,none⟩).getD undef=aH:=by rw[h1];rfl
    show _/\_=some ((w.cell? ⟨b,o+j,none⟩).getD undef)/\lF ((w.cell? ⟨b,o+j,none⟩).getD undef)=true/\c5 _ ((w.cell? ⟨b,o+j,none⟩).getD undef) q;rw[hg];exact⟨abb _ _ _,h1,u,J⟩
theorem aam{az:Type}{t:TypeId}{fs:Array Field}{v:Value}{r:Reach}{b0:Nat}(f:az->List Pl)(ok:az->Prop)(hu:P.underlying t=some (.struct fs))(hv:Value.okWide P w r b0 t v)(h:Read enc P w base spare held t v.cells.toList)
 (Bd:∀cs,cs.length=P.cellsOf t->Read enc P w base spare held t cs->∃x,ok x/\iz (n6 w) cs (f x)):∃x,ok x/\bC (n6 w) v (.agg ((f x).map .p)):=by
 obtain⟨cs,rfl,bV⟩:=okWide_struct hu hv;obtain⟨x,h1,u⟩:=Bd cs.toList (by simpa using bV) h;refine⟨x,h1,?_⟩;have:bC (n6 w) (.agg cs.toList.toArray) (.agg ((f x).map .p)):=.agg (by simp[u.1]) (λ i aH d hu K=>by
  rw[List.getElem?_map] at K;rcases G:(f x)[i]? with _|q
  ·rw[G] at K;cases K
  ·rw[G] at K;cases K;exact .p (u.2 i aH q hu G).1)
 simpa using this
theorem run_law{P:Program}{f:FuncId}{ds:List I}(F:bH P f ds (dB true)){w:World}{vs:List Value}(h:DReps (n6 w) vs ds):Calls P f vs.toArray w λ e aA=>e=.returned (.bool true)/\Below w.heap.size w aA:=by
 refine(F w _ vs h).mono λ e aA hh=>?_
 obtain⟨v,bI,rfl,hb,_,hr⟩:=hh;exact⟨by rw[dg hr],hb⟩
end
end Go.Proofs.YtkkldicehapklaaGreat
end
namespace Go.Proofs.YtkkldicehapklaaGreat
open Go.Proofs.Tryz
open Go.RowKit
def YI:List (Nat×TI):=[
 (0,⟨.other,1,0,(Value.tuple #[])⟩),
 (1,⟨.other,1,8,Value.nilFunc⟩),
 (2,⟨(.int .i64),1,8,(Value.int IntKind.i64 0)⟩),
 (3,⟨(.int .i64),1,8,(Value.int IntKind.i64 0)⟩),
 (4,⟨.bool,1,1,(Value.bool false)⟩),
 (5,⟨(.int .u8),1,1,(Value.int IntKind.u8 0)⟩),
 (6,⟨(.int .u8),1,1,(Value.int IntKind.u8 0)⟩),
 (7,⟨(.struct [(2,0,1),(3,1,1),(4,2,1),(6,3,1)]),4,24,(Value.agg #[Value.int IntKind.i64 0,Value.int IntKind.i64 0,Value.bool false,Value.int IntKind.u8 0])⟩),
 (8,⟨(.struct [(2,0,1),(3,1,1),(4,2,1),(6,3,1)]),4,24,(Value.agg #[Value.int IntKind.i64 0,Value.int IntKind.i64 0,Value.bool false,Value.int IntKind.u8 0])⟩),
 (9,⟨.str,1,16,(Value.string {data:=#[]})⟩),
 (10,⟨.str,1,16,(Value.string {data:=#[]})⟩),
 (11,⟨.str,1,16,(Value.string {data:=#[]})⟩),
 (12,⟨(.int .u64),1,8,(Value.int IntKind.u64 0)⟩),
 (13,⟨(.struct [(9,0,1),(12,1,1)]),2,24,(Value.agg #[Value.string {data:=#[]},Value.int IntKind.u64 0])⟩),
 (14,⟨(.struct [(9,0,1),(12,1,1)]),2,24,(Value.agg #[Value.string {data:=#[]},Value.int IntKind.u64 0])⟩),
 (15,⟨.other,1,8,(Value.pointer none)⟩),
 (16,⟨.other,1,8,(Value.pointer none)⟩),
 (17,⟨.other,1,8,(Value.pointer none)⟩),
 (18,⟨(.struct [(17,0,1)]),1,8,(Value.agg #[Value.pointer none])⟩),
 (19,⟨(.struct [(17,0,1)]),1,8,(Value.agg #[Value.pointer none])⟩),
 (20,⟨.other,1,16,Value.nilIface⟩),
 (21,⟨(.int .i32),1,4,(Value.int IntKind.i32 0)⟩),
 (22,⟨(.int .u16),1,2,(Value.int IntKind.u16 0)⟩),
 (23,⟨.other,1,8,Value.nilFunc⟩),
 (24,⟨.other,1,8,Value.nilFunc⟩),
 (25,⟨.other,1,8,Value.nilFunc⟩),
 (26,⟨(.slice 41),1,24,(Value.slice none 0 0)⟩),
 (27,⟨(.slice 5),1,24,(Value.slice none 0 0)⟩),
 (28,⟨(.struct [(26,0,1),(27,1,1)]),2,48,(Value.agg #[Value.slice none 0 0,Value.slice none 0 0])⟩),
 (29,⟨(.struct [(26,0,1),(27,1,1)]),2,48,(Value.agg #[Value.slice none 0 0,Value.slice none 0 0])⟩),
 (30,⟨.other,1,8,Value.nilFunc⟩),
 (31,⟨.other,1,8,(Value.pointer none)⟩),
 (32,⟨.other,1,8,Value.nilFunc⟩),
 (33,⟨(.struct [(3,0,1),(3,1,1),(3,2,1),(3,3,1),(3,4,1),(3,5,1),(3,6,1),(3,7,1),(3,8,1)]),9,72,(Value.agg #[Value.int IntKind.i64 0,Value.int IntKind.i64 0,Value.int IntKind.i64 0,Value.int IntKind.i64 0,Value.int IntKind.i64 0,Value.int IntKind.i64 0,Value.int IntKind.i64 0,Value.int IntKind.i64 0,Value.int IntKind.i64 0])⟩),
 (34,⟨(.struct [(3,0,1),(3,1,1),(3,2,1),(3,3,1),(3,4,1),(3,5,1),(3,6,1),(3,7,1),(3,8,1)]),9,72,(Value.agg #[Value.int IntKind.i64 0,Value.int IntKind.i64 0,Value.int IntKind.i64 0,Value.int IntKind.i64 0,Value.int IntKind.i64 0,Value.int IntKind.i64 0,Value.int IntKind.i64 0,Value.int IntKind.i64 0,Value.int IntKind.i64 0])⟩),
 (35,⟨(.struct [(34,0,9),(3,9,1),(3,10,1),(3,11,1),(3,12,1),(3,13,1),(3,14,1),(3,15,1),(3,16,1),(3,17,1),(3,18,1),(3,19,1),(3,20,1),(3,21,1),(3,22,1),(3,23,1),(3,24,1)]),25,200,(Value.agg #[Value.int IntKind.i64 0,Value.int IntKind.i64 0,Value.int IntKind.i64 0,Value.int IntKind.i64 0,Value.int IntKind.i64 0,Value.int IntKind.i64 0,Value.int IntKind.i64 0,Value.int IntKind.i64 0,Value.int IntKind.i64 0,Value.int IntKind.i64 0,Value.int IntKind.i64 0,Value.int IntKind.i64 0,Value.int IntKind.i64 0,Value.int IntKind.i64 0,Value.int IntKind.i64 0,Value.int IntKind.i64 0,Value.int IntKind.i64 0,Value.int IntKind.i64 0,Value.int IntKind.i64 0,Value.int IntKind.i64 0,Value.int IntKind.i64 0,Value.int IntKind.i64 0,Value.int IntKind.i64 0,Value.int IntKind.i64 0,Value.int IntKind.i64 0])⟩),
 (36,⟨(.struct [(34,0,9),(3,9,1),(3,10,1),(3,11,1),(3,12,1),(3,13,1),(3,14,1),(3,15,1),(3,16,1),(3,17,1),(3,18,1),(3,19,1),(3,20,1),(3,21,1),(3,22,1),(3,23,1),(3,24,1)]),25,200,(Value.agg #[Value.int IntKind.i64 0,Value.int IntKind.i64 0,Value.int IntKind.i64 0,Value.int IntKind.i64 0,Value.int IntKind.i64 0,Value.int IntKind.i64 0,Value.int IntKind.i64 0,Value.int IntKind.i64 0,Value.int IntKind.i64 0,Value.int IntKind.i64 0,Value.int IntKind.i64 0,Value.int IntKind.i64 0,Value.int IntKind.i64 0,Value.int IntKind.i64 0,Value.int IntKind.i64 0,Value.int IntKind.i64 0,Value.int IntKind.i64 0,Value.int IntKind.i64 0,Value.int IntKind.i64 0,Value.int IntKind.i64 0,Value.int IntKind.i64 0,Value.int IntKind.i64 0,Value.int IntKind.i64 0,Value.int IntKind.i64 0,Value.int IntKind.i64 0])⟩),
 (37,⟨.other,1,8,Value.nilFunc⟩),
 (38,⟨(.slice 3),1,24,(Value.slice none 0 0)⟩),
 (39,⟨(.struct [(38,0,1)]),1,24,(Value.agg #[Value.slice none 0 0])⟩),
 (40,⟨(.struct [(38,0,1)]),1,24,(Value.agg #[Value.slice none 0 0])⟩),
 (41,⟨(.slice 62),1,24,(Value.slice none 0 0)⟩),
 (42,⟨(.slice 94),1,24,(Value.slice none 0 0)⟩),
 (43,⟨(.slice 38),1,24,(Value.slice none 0 0)⟩),
 (44,⟨(.slice 65),1,24,(Value.slice none 0 0)⟩),
 (45,⟨(.slice 71),1,24,(Value.slice none 0 0)⟩),
 (46,⟨(.struct [(40,0,1),(3,1,1),(41,2,1),(42,3,1),(43,4,1),(38,5,1),(44,6,1),(45,7,1),(3,8,1),(4,9,1),(4,10,1)]),11,192,(Value.agg #[Value.slice none 0 0,Value.int IntKind.i64 0,Value.slice none 0 0,Value.slice none 0 0,Value.slice none 0 0,Value.slice none 0 0,Value.slice none 0 0,Value.slice none 0 0,Value.int IntKind.i64 0,Value.bool false,Value.bool false])⟩),
 (47,⟨(.struct [(40,0,1),(3,1,1),(41,2,1),(42,3,1),(43,4,1),(38,5,1),(44,6,1),(45,7,1),(3,8,1),(4,9,1),(4,10,1)]),11,192,(Value.agg #[Value.slice none 0 0,Value.int IntKind.i64 0,Value.slice none 0 0,Value.slice none 0 0,Value.slice none 0 0,Value.slice none 0 0,Value.slice none 0 0,Value.slice none 0 0,Value.int IntKind.i64 0,Value.bool false,Value.bool false])⟩),
 (48,⟨.other,1,8,Value.nilFunc⟩),
 (49,⟨(.struct [(3,0,1),(38,1,1),(38,2,1)]),3,56,(Value.agg #[Value.int IntKind.i64 0,Value.slice none 0 0,Value.slice none 0 0])⟩),
 (50,⟨(.struct [(3,0,1),(38,1,1),(38,2,1)]),3,56,(Value.agg #[Value.int IntKind.i64 0,Value.slice none 0 0,Value.slice none 0 0])⟩),
 (51,⟨.other,1,8,Value.nilFunc⟩),
 (52,⟨.other,1,8,Value.nilFunc⟩),
 (53,⟨.other,1,0,(Value.tuple #[Value.agg #[Value.int IntKind.i64 0,Value.slice none 0 0,Value.slice none 0 0],Value.bool false])⟩),
 (54,⟨.other,1,8,Value.nilFunc⟩),
 (55,⟨.other,1,8,Value.nilFunc⟩),
 (56,⟨.other,1,8,Value.nilFunc⟩),
 (57,⟨(.int .i64),1,8,(Value.int IntKind.i64 0)⟩),
 (58,⟨.other,1,0,(Value.tuple #[Value.agg #[Value.int IntKind.i64 0,Value.int IntKind.i64 0,Value.int IntKind.i64 0,Value.int IntKind.i64 0,Value.int IntKind.i64 0,Value.int IntKind.i64 0,Value.int IntKind.i64 0,Value.int IntKind.i64 0,Value.int IntKind.i64 0,Value.int IntKind.i64 0,Value.int IntKind.i64 0,Value.int IntKind.i64 0,Value.int IntKind.i64 0,Value.int IntKind.i64 0,Value.int IntKind.i64 0,Value.int IntKind.i64 0,Value.int IntKind.i64 0,Value.int IntKind.i64 0,Value.int IntKind.i64 0,Value.int IntKind.i64 0,Value.int IntKind.i64 0,Value.int IntKind.i64 0,Value.int IntKind.i64 0,Value.int IntKind.i64 0,Value.int IntKind.i64 0],Value.int IntKind.i64 0])⟩),
 (59,⟨.other,1,8,Value.nilFunc⟩),
 (60,⟨.other,1,8,Value.nilFunc⟩),
 (61,⟨(.struct [(3,0,1),(3,1,1),(3,2,1),(3,3,1)]),4,32,(Value.agg #[Value.int IntKind.i64 0,Value.int IntKind.i64 0,Value.int IntKind.i64 0,Value.int IntKind.i64 0])⟩),
 (62,⟨(.struct [(3,0,1),(3,1,1),(3,2,1),(3,3,1)]),4,32,(Value.agg #[Value.int IntKind.i64 0,Value.int IntKind.i64 0,Value.int IntKind.i64 0,Value.int IntKind.i64 0])⟩),
 (63,⟨(.struct [(3,0,1),(3,1,1),(3,2,1),(3,3,1)]),4,32,(Value.agg #[Value.int IntKind.i64 0,Value.int IntKind.i64 0,Value.int IntKind.i64 0,Value.int IntKind.i64 0])⟩),
 (64,⟨(.struct [(3,0,1),(3,1,1),(3,2,1),(3,3,1)]),4,32,(Value.agg #[Value.int IntKind.i64 0,Value.int IntKind.i64 0,Value.int IntKind.i64 0,Value.int IntKind.i64 0])⟩),
 (65,⟨(.slice 87),1,24,(Value.slice none 0 0)⟩),
 (66,⟨(.struct [(3,0,1),(4,1,1),(57,2,1),(3,3,1),(65,4,1)]),5,56,(Value.agg #[Value.int IntKind.i64 0,Value.bool false,Value.int IntKind.i64 0,Value.int IntKind.i64 0,Value.slice none 0 0])⟩),
 (67,⟨(.struct [(3,0,1),(4,1,1),(57,2,1),(3,3,1),(65,4,1)]),5,56,(Value.agg #[Value.int IntKind.i64 0,Value.bool false,Value.int IntKind.i64 0,Value.int IntKind.i64 0,Value.slice none 0 0])⟩),
 (68,⟨.other,1,0,(Value.tuple #[Value.agg #[Value.int IntKind.i64 0,Value.int IntKind.i64 0,Value.int IntKind.i64 0,Value.int IntKind.i64 0],Value.agg #[Value.int IntKind.i64 0,Value.bool false,Value.int IntKind.i64 0,Value.int IntKind.i64 0,Value.slice none 0 0],Value.bool false])⟩),
 (69,⟨.other,1,8,Value.nilFunc⟩),
 (70,⟨(.struct [(3,0,1),(62,1,4),(3,5,1),(4,6,1),(3,7,1),(3,8,1),(3,9,1)]),10,80,(Value.agg #[Value.int IntKind.i64 0,Value.int IntKind.i64 0,Value.int IntKind.i64 0,Value.int IntKind.i64 0,Value.int IntKind.i64 0,Value.int IntKind.i64 0,Value.bool false,Value.int IntKind.i64 0,Value.int IntKind.i64 0,Value.int IntKind.i64 0])⟩),
 (71,⟨(.struct [(3,0,1),(62,1,4),(3,5,1),(4,6,1),(3,7,1),(3,8,1),(3,9,1)]),10,80,(Value.agg #[Value.int IntKind.i64 0,Value.int IntKind.i64 0,Value.int IntKind.i64 0,Value.int IntKind.i64 0,Value.int IntKind.i64 0,Value.int IntKind.i64 0,Value.bool false,Value.int IntKind.i64 0,Value.int IntKind.i64 0,Value.int IntKind.i64 0])⟩),
 (72,⟨(.slice 64),1,24,(Value.slice none 0 0)⟩),
 (73,⟨.other,1,8,Value.nilFunc⟩),
 (74,⟨.other,1,8,Value.nilFunc⟩),
 (75,⟨(.int .u64),1,8,(Value.int IntKind.u64 0)⟩),
 (76,⟨.other,1,8,Value.nilFunc⟩),
 (77,⟨.other,1,8,Value.nilFunc⟩),
 (78,⟨.other,1,0,(Value.tuple #[Value.agg #[Value.int IntKind.i64 0,Value.slice none 0 0,Value.slice none 0 0],Value.int IntKind.i64 0,Value.bool false])⟩),
 (79,⟨.other,1,8,Value.nilFunc⟩),
 (80,⟨(.slice 4),1,24,(Value.slice none 0 0)⟩),
 (81,⟨.other,1,8,Value.nilFunc⟩),
 (82,⟨.other,1,8,Value.nilFunc⟩),
 (83,⟨.other,1,8,Value.nilFunc⟩),
 (84,⟨(.struct [(3,0,1),(4,1,1),(3,2,1)]),3,24,(Value.agg #[Value.int IntKind.i64 0,Value.bool false,Value.int IntKind.i64 0])⟩),
 (85,⟨(.struct [(3,0,1),(4,1,1),(3,2,1)]),3,24,(Value.agg #[Value.int IntKind.i64 0,Value.bool false,Value.int IntKind.i64 0])⟩),
 (86,⟨.other,1,8,Value.nilFunc⟩),
 (87,⟨(.array 2 3),2,16,(Value.agg #[Value.int IntKind.i64 0,Value.int IntKind.i64 0])⟩),
 (88,⟨.other,1,8,Value.nilFunc⟩),
 (89,⟨.other,1,8,Value.nilFunc⟩),
 (90,⟨.other,1,8,Value.nilFunc⟩),
 (91,⟨.other,1,8,Value.nilFunc⟩),
 (92,⟨.other,1,8,Value.nilFunc⟩),
 (93,⟨.other,1,8,Value.nilFunc⟩),
 (94,⟨(.slice 105),1,24,(Value.slice none 0 0)⟩),
 (95,⟨.other,1,8,(Value.pointer none)⟩),
 (96,⟨(.struct [(36,0,25),(3,25,1),(65,26,1),(3,27,1),(94,28,1),(3,29,1)]),30,272,(Value.agg #[Value.int IntKind.i64 0,Value.int IntKind.i64 0,Value.int IntKind.i64 0,Value.int IntKind.i64 0,Value.int IntKind.i64 0,Value.int IntKind.i64 0,Value.int IntKind.i64 0,Value.int IntKind.i64 0,Value.int IntKind.i64 0,Value.int IntKind.i64 0,Value.int IntKind.i64 0,Value.int IntKind.i64 0,Value.int IntKind.i64 0,Value.int IntKind.i64 0,Value.int IntKind.i64 0,Value.int IntKind.i64 0,Value.int IntKind.i64 0,Value.int IntKind.i64 0,Value.int IntKind.i64 0,Value.int IntKind.i64 0,Value.int IntKind.i64 0,Value.int IntKind.i64 0,Value.int IntKind.i64 0,Value.int IntKind.i64 0,Value.int IntKind.i64 0,Value.int IntKind.i64 0,Value.slice none 0 0,Value.int IntKind.i64 0,Value.slice none 0 0,Value.int IntKind.i64 0])⟩),
 (97,⟨(.struct [(36,0,25),(3,25,1),(65,26,1),(3,27,1),(94,28,1),(3,29,1)]),30,272,(Value.agg #[Value.int IntKind.i64 0,Value.int IntKind.i64 0,Value.int IntKind.i64 0,Value.int IntKind.i64 0,Value.int IntKind.i64 0,Value.int IntKind.i64 0,Value.int IntKind.i64 0,Value.int IntKind.i64 0,Value.int IntKind.i64 0,Value.int IntKind.i64 0,Value.int IntKind.i64 0,Value.int IntKind.i64 0,Value.int IntKind.i64 0,Value.int IntKind.i64 0,Value.int IntKind.i64 0,Value.int IntKind.i64 0,Value.int IntKind.i64 0,Value.int IntKind.i64 0,Value.int IntKind.i64 0,Value.int IntKind.i64 0,Value.int IntKind.i64 0,Value.int IntKind.i64 0,Value.int IntKind.i64 0,Value.int IntKind.i64 0,Value.int IntKind.i64 0,Value.int IntKind.i64 0,Value.slice none 0 0,Value.int IntKind.i64 0,Value.slice none 0 0,Value.int IntKind.i64 0])⟩),
 (98,⟨.other,1,8,Value.nilFunc⟩),
 (99,⟨.other,1,0,(Value.tuple #[Value.nilFunc,Value.bool false])⟩),
 (100,⟨.other,1,8,(Value.map none)⟩),
 (101,⟨.other,1,8,Value.nilFunc⟩),
 (102,⟨.other,1,8,Value.nilFunc⟩),
 (103,⟨.other,1,8,Value.nilFunc⟩),
 (104,⟨(.struct [(3,0,1),(4,1,1)]),2,16,(Value.agg #[Value.int IntKind.i64 0,Value.bool false])⟩),
 (105,⟨(.struct [(3,0,1),(4,1,1)]),2,16,(Value.agg #[Value.int IntKind.i64 0,Value.bool false])⟩),
 (106,⟨.other,1,8,Value.nilFunc⟩),
 (107,⟨.other,1,0,(Value.tuple #[Value.int IntKind.i64 0,Value.agg #[Value.int IntKind.i64 0,Value.bool false,Value.int IntKind.i64 0,Value.int IntKind.i64 0,Value.slice none 0 0]])⟩),
 (108,⟨.other,1,8,Value.nilFunc⟩),
 (109,⟨.other,1,0,(Value.tuple #[Value.agg #[Value.int IntKind.i64 0,Value.bool false,Value.int IntKind.i64 0,Value.int IntKind.i64 0,Value.slice none 0 0],Value.agg #[Value.int IntKind.i64 0,Value.int IntKind.i64 0,Value.int IntKind.i64 0,Value.int IntKind.i64 0]])⟩),
 (110,⟨.other,1,8,Value.nilFunc⟩),
 (111,⟨.other,1,8,Value.nilFunc⟩),
 (112,⟨.other,1,8,Value.nilFunc⟩),
 (113,⟨.other,1,8,Value.nilFunc⟩),
 (114,⟨.other,1,8,Value.nilFunc⟩),
 (115,⟨(.int .u32),1,4,(Value.int IntKind.u32 0)⟩),
 (116,⟨.other,1,8,Value.nilFunc⟩),
 (117,⟨(.int .u64),1,8,(Value.int IntKind.u64 0)⟩),
 (118,⟨.other,1,0,(Value.tuple #[Value.agg #[Value.slice none 0 0],Value.slice none 0 0,Value.int IntKind.i64 0])⟩),
 (119,⟨.other,1,8,Value.nilFunc⟩),
 (120,⟨.other,1,8,Value.nilFunc⟩),
 (121,⟨.other,1,8,Value.nilFunc⟩),
 (122,⟨.other,1,8,Value.nilFunc⟩),
 (123,⟨.other,1,8,Value.nilFunc⟩),
 (124,⟨.other,1,0,(Value.tuple #[Value.agg #[Value.slice none 0 0],Value.agg #[Value.int IntKind.i64 0,Value.bool false],Value.int IntKind.i64 0])⟩),
 (125,⟨.other,1,8,Value.nilFunc⟩),
 (126,⟨.other,1,8,Value.nilFunc⟩),
 (127,⟨.other,1,8,Value.nilFunc⟩),
 (128,⟨.other,1,8,Value.nilFunc⟩),
 (129,⟨.other,1,8,Value.nilFunc⟩),
 (130,⟨.other,1,8,Value.nilFunc⟩),
 (131,⟨.other,1,8,Value.nilFunc⟩),
 (132,⟨.other,1,8,Value.nilFunc⟩),
 (133,⟨.other,1,8,Value.nilFunc⟩),
 (134,⟨.other,1,8,Value.nilFunc⟩),
 (135,⟨(.struct [(64,0,4)]),4,32,(Value.agg #[Value.int IntKind.i64 0,Value.int IntKind.i64 0,Value.int IntKind.i64 0,Value.int IntKind.i64 0])⟩),
 (136,⟨(.struct [(64,0,4)]),4,32,(Value.agg #[Value.int IntKind.i64 0,Value.int IntKind.i64 0,Value.int IntKind.i64 0,Value.int IntKind.i64 0])⟩),
 (137,⟨.other,1,8,Value.nilFunc⟩),
 (138,⟨.other,1,8,Value.nilFunc⟩),
 (139,⟨.other,1,8,Value.nilFunc⟩),
 (140,⟨(.struct [(3,0,1),(3,1,1)]),2,16,(Value.agg #[Value.int IntKind.i64 0,Value.int IntKind.i64 0])⟩),
 (141,⟨(.struct [(3,0,1),(3,1,1)]),2,16,(Value.agg #[Value.int IntKind.i64 0,Value.int IntKind.i64 0])⟩),
 (142,⟨.other,1,8,Value.nilFunc⟩),
 (143,⟨.other,1,8,Value.nilFunc⟩),
 (144,⟨.other,1,8,Value.nilFunc⟩),
 (145,⟨.other,1,8,Value.nilFunc⟩),
 (146,⟨.other,1,8,Value.nilFunc⟩),
 (147,⟨.other,1,8,(Value.map none)⟩),
 (148,⟨.other,1,8,Value.nilFunc⟩),
 (149,⟨.other,1,8,Value.nilFunc⟩),
 (150,⟨.other,1,8,(Value.pointer none)⟩),
 (151,⟨.other,1,8,(Value.pointer none)⟩),
 (152,⟨.other,1,8,Value.nilFunc⟩),
 (153,⟨(.struct [(4,0,1),(3,1,1),(3,2,1),(3,3,1),(3,4,1)]),5,40,(Value.agg #[Value.bool false,Value.int IntKind.i64 0,Value.int IntKind.i64 0,Value.int IntKind.i64 0,Value.int IntKind.i64 0])⟩),
 (154,⟨(.struct [(4,0,1),(3,1,1),(3,2,1),(3,3,1),(3,4,1)]),5,40,(Value.agg #[Value.bool false,Value.int IntKind.i64 0,Value.int IntKind.i64 0,Value.int IntKind.i64 0,Value.int IntKind.i64 0])⟩),
 (155,⟨(.struct [(151,0,1),(154,1,5),(3,6,1)]),7,56,(Value.agg #[Value.pointer none,Value.bool false,Value.int IntKind.i64 0,Value.int IntKind.i64 0,Value.int IntKind.i64 0,Value.int IntKind.i64 0,Value.int IntKind.i64 0])⟩),
 (156,⟨(.struct [(151,0,1),(154,1,5),(3,6,1)]),7,56,(Value.agg #[Value.pointer none,Value.bool false,Value.int IntKind.i64 0,Value.int IntKind.i64 0,Value.int IntKind.i64 0,Value.int IntKind.i64 0,Value.int IntKind.i64 0])⟩),
 (157,⟨.other,1,8,Value.nilFunc⟩),
 (158,⟨.other,1,8,Value.nilFunc⟩),
 (159,⟨(.slice 141),1,24,(Value.slice none 0 0)⟩),
 (160,⟨.other,1,8,Value.nilFunc⟩),
 (161,⟨.other,1,8,Value.nilFunc⟩),
 (162,⟨.other,1,8,Value.nilFunc⟩),
 (163,⟨(.array 3 3),3,24,(Value.agg #[Value.int IntKind.i64 0,Value.int IntKind.i64 0,Value.int IntKind.i64 0])⟩),
 (164,⟨(.struct [(36,0,25),(3,25,1),(65,26,1),(3,27,1),(163,28,3),(106,31,1)]),32,272,(Value.agg #[Value.int IntKind.i64 0,Value.int IntKind.i64 0,Value.int IntKind.i64 0,Value.int IntKind.i64 0,Value.int IntKind.i64 0,Value.int IntKind.i64 0,Value.int IntKind.i64 0,Value.int IntKind.i64 0,Value.int IntKind.i64 0,Value.int IntKind.i64 0,Value.int IntKind.i64 0,Value.int IntKind.i64 0,Value.int IntKind.i64 0,Value.int IntKind.i64 0,Value.int IntKind.i64 0,Value.int IntKind.i64 0,Value.int IntKind.i64 0,Value.int IntKind.i64 0,Value.int IntKind.i64 0,Value.int IntKind.i64 0,Value.int IntKind.i64 0,Value.int IntKind.i64 0,Value.int IntKind.i64 0,Value.int IntKind.i64 0,Value.int IntKind.i64 0,Value.int IntKind.i64 0,Value.slice none 0 0,Value.int IntKind.i64 0,Value.int IntKind.i64 0,Value.int IntKind.i64 0,Value.int IntKind.i64 0,Value.nilFunc])⟩),
 (165,⟨(.struct [(36,0,25),(3,25,1),(65,26,1),(3,27,1),(163,28,3),(106,31,1)]),32,272,(Value.agg #[Value.int IntKind.i64 0,Value.int IntKind.i64 0,Value.int IntKind.i64 0,Value.int IntKind.i64 0,Value.int IntKind.i64 0,Value.int IntKind.i64 0,Value.int IntKind.i64 0,Value.int IntKind.i64 0,Value.int IntKind.i64 0,Value.int IntKind.i64 0,Value.int IntKind.i64 0,Value.int IntKind.i64 0,Value.int IntKind.i64 0,Value.int IntKind.i64 0,Value.int IntKind.i64 0,Value.int IntKind.i64 0,Value.int IntKind.i64 0,Value.int IntKind.i64 0,Value.int IntKind.i64 0,Value.int IntKind.i64 0,Value.int IntKind.i64 0,Value.int IntKind.i64 0,Value.int IntKind.i64 0,Value.int IntKind.i64 0,Value.int IntKind.i64 0,Value.int IntKind.i64 0,Value.slice none 0 0,Value.int IntKind.i64 0,Value.int IntKind.i64 0,Value.int IntKind.i64 0,Value.int IntKind.i64 0,Value.nilFunc])⟩),
 (166,⟨(.struct [(64,0,4)]),4,32,(Value.agg #[Value.int IntKind.i64 0,Value.int IntKind.i64 0,Value.int IntKind.i64 0,Value.int IntKind.i64 0])⟩),
 (167,⟨(.struct [(64,0,4)]),4,32,(Value.agg #[Value.int IntKind.i64 0,Value.int IntKind.i64 0,Value.int IntKind.i64 0,Value.int IntKind.i64 0])⟩),
 (168,⟨.other,1,0,(Value.tuple #[Value.int IntKind.i64 0,Value.int IntKind.i64 0,Value.bool false])⟩),
 (169,⟨.other,1,8,Value.nilFunc⟩),
 (170,⟨.other,1,8,Value.nilFunc⟩),
 (171,⟨.other,1,0,(Value.tuple #[Value.int IntKind.i64 0,Value.int IntKind.i64 0])⟩),
 (172,⟨.other,1,8,Value.nilFunc⟩),
 (173,⟨.other,1,8,Value.nilFunc⟩),
 (174,⟨.other,1,8,Value.nilFunc⟩),
 (175,⟨.other,1,8,Value.nilFunc⟩),
 (176,⟨.other,1,8,Value.nilFunc⟩),
 (177,⟨(.struct [(17,0,1),(17,1,1),(17,2,1),(9,3,1)]),4,40,(Value.agg #[Value.pointer none,Value.pointer none,Value.pointer none,Value.string {data:=#[]}])⟩),
 (178,⟨(.struct [(17,0,1),(17,1,1),(17,2,1),(9,3,1)]),4,40,(Value.agg #[Value.pointer none,Value.pointer none,Value.pointer none,Value.string {data:=#[]}])⟩),
 (179,⟨(.array 0 16),0,0,(Value.agg #[])⟩),
 (180,⟨(.struct [(179,0,0)]),0,0,(Value.agg #[])⟩),
 (181,⟨(.struct [(179,0,0)]),0,0,(Value.agg #[])⟩),
 (182,⟨(.int .u8),1,1,(Value.int IntKind.u8 0)⟩),
 (183,⟨(.int .u8),1,1,(Value.int IntKind.u8 0)⟩),
 (184,⟨.other,1,8,Value.nilFunc⟩),
 (185,⟨.other,1,8,(Value.pointer none)⟩),
 (186,⟨(.int .i32),1,4,(Value.int IntKind.i32 0)⟩),
 (187,⟨(.int .i32),1,4,(Value.int IntKind.i32 0)⟩),
 (188,⟨(.struct [(12,0,1),(12,1,1),(115,2,1),(182,3,1),(5,4,1),(5,5,1),(183,6,1),(184,7,1),(185,8,1),(186,9,1),(187,10,1)]),11,48,(Value.agg #[Value.int IntKind.u64 0,Value.int IntKind.u64 0,Value.int IntKind.u32 0,Value.int IntKind.u8 0,Value.int IntKind.u8 0,Value.int IntKind.u8 0,Value.int IntKind.u8 0,Value.nilFunc,Value.pointer none,Value.int IntKind.i32 0,Value.int IntKind.i32 0])⟩),
 (189,⟨(.struct [(12,0,1),(12,1,1),(115,2,1),(182,3,1),(5,4,1),(5,5,1),(183,6,1),(184,7,1),(185,8,1),(186,9,1),(187,10,1)]),11,48,(Value.agg #[Value.int IntKind.u64 0,Value.int IntKind.u64 0,Value.int IntKind.u32 0,Value.int IntKind.u8 0,Value.int IntKind.u8 0,Value.int IntKind.u8 0,Value.int IntKind.u8 0,Value.nilFunc,Value.pointer none,Value.int IntKind.i32 0,Value.int IntKind.i32 0])⟩),
 (190,⟨.other,1,8,(Value.pointer none)⟩)]
def tb:Nat->Option TI:=kv YI
def QH(P:Program)(p:Nat×TI):Prop:=(P.underlying p.1).map (km P)=some p.2.k/\(P.info? p.1).map (λ f=>(f.size,f.bytes,f.zero))=some (p.2.sz,p.2.bytes,some p.2.zero)
theorem akj{P:Program}:∀{l:List (Nat×TI)},(∀p∈l,QH P p)->dh P (kv l):=by
 intro l h;have key:∀(l:List (Nat×TI)),(∀p∈l,QH P p)->∀t i,kv l t=some i->QH P (t,i):=by
  intro l;induction l with
  |nil=>intro _ t i h;cases h
  |cons p l ih=>
   intro h t i hi;obtain⟨k,v⟩:=p;rw[dc] at hi;split at hi
   ·rename_i hk;subst hk;cases hi;exact h _ (by simp)
   ·exact ih (λ q hq=>h q (by simp[hq])) t i hi
 refine⟨λ t i hi=>?_,λ t i hi=>?_⟩
 ·obtain⟨h1,_⟩:=key l h t i hi;simp only[Option.map_eq_some_iff] at h1;exact h1
 ·obtain⟨_,u⟩:=key l h t i hi;simp only[Option.map_eq_some_iff,Prod.mk.injEq] at u;obtain⟨f,J,h4,h5,h6⟩:=u;exact⟨f,J,h4,h5,h6⟩
theorem Z4{q:Nat×TI->Prop}{a:Nat×TI}{l:List (Nat×TI)}(h:q a)(Z:∀p∈l,q p):∀p∈a::l,q p:=λ p G=>by
 rcases List.mem_cons.1 G with rfl|G
 ·exact h
 ·exact Z p G
set_option maxRecDepth 100000 in
theorem aX:dh prog tb:=akj (by
 unfold YI
 repeat refine Z4 ⟨by kernel_rfl,by kernel_rfl⟩ ?_
 exact λ p G=>absurd G List.not_mem_nil)
section
variable{P:Program}{Γ:bX}{L:St}{Q:Exit->St->Prop}{aB:St->Prop}{x y c:Code}{id pf:Nat}{z:Operand}{tt:Bool}{X bK:Prop}
theorem zA(h:a8 P Γ x (uK (a8 P Γ y Q) Q) L):a8 P Γ (.seq x y) Q L:=Ch h
theorem zB{l:List Oper}(h:bw P Γ l Q l L):a8 P Γ (.region id l.toArray false) Q L:=HI h
theorem zC(h:a8 P Γ c (re id Q) L):a8 P Γ (.block id c) Q L:=aas h
theorem zD(h:Q .normal L):a8 P Γ .skip Q L:=RC h
theorem zE(h:a8 P Γ c (DO Q) L):a8 P Γ (.scope c) Q L:=aaD h
theorem zF(h:Q .normal L):a8 P Γ (.label id) Q L:=aax h
theorem zG(h:Q .normal L):DO Q .normal L:=h
theorem zH(h:Q .ret L):DO Q .ret L:=h
theorem zI(h:Q (.exit id) L):DO Q (.exit id) L:=h
theorem zJ(h:Q .ret L):a8 P Γ .ret Q L:=aaC h
theorem zK(h:Q (.exit id) L):a8 P Γ (.exit id) Q L:=aav h
theorem zL(h:CK tt (a8 P Γ x Q L) (a8 P Γ y Q L))(hz:ev (kv L.s) z=some (.p (.raw (.bool tt))):=by exact rfl):a8 P Γ (.cond z x y) Q L:=aat hz h
theorem zM(h:aB L):uK aB Q .normal L:=h
theorem zN(h:Q .ret L):uK aB Q .ret L:=h
theorem zO(h:Q (.exit id) L):uK aB Q (.exit id) L:=h
theorem zP(h:Q .normal L):re id Q .normal L:=h
theorem zQ(h:Q .ret L):re id Q .ret L:=h
theorem zR(h:Q .normal L):re id Q (.exit id) L:=aiU h
theorem zS(h:Q (.exit pf) L)(aW:(pf==id)=false:=by exact rfl):re id Q (.exit pf) L:=aiV aW h
theorem zT(h:X)(hb:tt=true:=by with_reducible exact rfl):CK tt X bK:=by subst hb;exact LQ h
theorem zU(h:bK)(hb:tt=false:=by with_reducible exact rfl):CK tt X bK:=by subst hb;exact LP h
theorem zV(h:bK)(hb:tt=!true:=by with_reducible exact rfl):CK tt X bK:=by subst hb;exact LP h
theorem zW(h:X)(hb:tt=!false:=by with_reducible exact rfl):CK tt X bK:=by subst hb;exact LQ h
theorem zX{bu:St}(T:zp L bu bu.s:=by(repeat(first|exact trivial|refine⟨⟨rfl,rfl⟩,?_⟩)))(hb:zm L bu bu.b:=by(repeat(first|exact trivial|refine⟨⟨rfl,rfl⟩,?_⟩)))(hg:zn L bu.g:=by(repeat(first|exact trivial|refine⟨rfl,?_⟩)))(dI:zo bu Γ.kb:=by(repeat(first|exact trivial|refine⟨rfl,?_⟩))):eI Γ L bu:=kX T hb hg dI
end
section
variable{Γ:bX}{o:Oper}{l0 l:List Oper}{Q:Exit->St->Prop}{s:List (Nat×I)}{b:List (Nat×List I)}{g:List (Nat×Gr)}{t t1 aH nm:Nat}{i:TI}{x y:Operand}{p q:Int}{d:I}{cs aZ:List I}
theorem z0(h:bw prog Γ l0 Q l ⟨(t,M (p+q))::s,b,g⟩)(ho:o.op=.binOp .add t1 x y aH:=by exact rfl)(ht:tb t1=some i:=by exact rfl)(hx:ev (kv s) x=some (M p):=by exact rfl)(hy:ev (kv s) y=some (M q):=by exact rfl)(h1:-9223372036854775808<=p+q:=by omega)(u:p+q<=9223372036854775807:=by omega)(hg:gd l0 o (kv s)=some true:=by exact rfl)(K:o.dst=some t:=by exact rfl)(Z:Nat.blt t Γ.n=true:=by exact rfl):bw prog Γ l0 Q (o::l) ⟨s,b,g⟩:=
 cy (Rh aX ho ht hx hy h1 u) hg K Z h
theorem z1(h:bw prog Γ l0 Q l ⟨(t,M (p-q))::s,b,g⟩)(ho:o.op=.binOp .sub t1 x y aH:=by exact rfl)(ht:tb t1=some i:=by exact rfl)(hx:ev (kv s) x=some (M p):=by exact rfl)(hy:ev (kv s) y=some (M q):=by exact rfl)(h1:-9223372036854775808<=p-q:=by omega)(u:p-q<=9223372036854775807:=by omega)(hg:gd l0 o (kv s)=some true:=by exact rfl)(K:o.dst=some t:=by exact rfl)(Z:Nat.blt t Γ.n=true:=by exact rfl):bw prog Γ l0 Q (o::l) ⟨s,b,g⟩:=
 cy (YG aX ho ht hx hy h1 u) hg K Z h
theorem z2(h:bw prog Γ l0 Q l ⟨(t,d)::s,b,g⟩)(hq:ax tb (kv s) (kv b) o.op=some d:=by exact rfl)(hg:gd l0 o (kv s)=some true:=by exact rfl)(K:o.dst=some t:=by exact rfl)(Z:Nat.blt t Γ.n=true:=by exact rfl):bw prog Γ l0 Q (o::l) ⟨s,b,g⟩:=zq aX hq hg K Z h
theorem z3(h:bw prog Γ l0 Q l ⟨(t,.p (.raw undef))::s,b,g⟩)(hg:gd l0 o (kv s)=some false:=by exact rfl)(K:o.dst=some t:=by exact rfl)(Z:Nat.blt t Γ.n=true:=by exact rfl):bw prog Γ l0 Q (o::l) ⟨s,b,g⟩:=ZM hg K Z h
theorem z4{L:St}(h:Q .normal L):bw prog Γ l0 Q [] L:=oR h
theorem z5{of:Nat}{dy:I}(h:bw prog Γ l0 Q l ⟨s,(nm,aZ)::b,g⟩)(ho:o.op=.store t1 x y:=by exact rfl)(K:o.dst=none:=by exact rfl)(ht:tb t1=some i:=by exact rfl)(hx:ev (kv s) x=some (.ptr nm of):=by exact rfl)(hb:kv b nm=some cs:=by exact rfl)(hy:ev (kv s) y=some dy:=by exact rfl)
 (Z:vB dy=true:=by exact rfl)(hsz:Nat.beq dy.cells.length i.sz=true:=by exact rfl)(bY:uI cs of dy some=some aZ:=by exact rfl)(hg:gd l0 o (kv s)=some true:=by exact rfl):bw prog Γ l0 Q (o::l) ⟨s,b,g⟩:=ZN aX ho K ht hx hb hy Z hsz bY hg h
theorem z6{parts:Array (Nat×Operand)}(h:bw prog Γ l0 Q l ⟨(t,d)::s,b,g⟩)(ho:o.op=.build t1 parts:=by exact rfl)(G:wo (kv s) parts.toList (HO tb t1)=some d:=by exact rfl)(hz:(match tb t1 with|some i=>lj (mh i.zero)|none=>false)=true:=by exact rfl)(hg:gd l0 o (kv s)=some true:=by exact rfl)(K:o.dst=some t:=by exact rfl)(Z:Nat.blt t Γ.n=true:=by exact rfl):bw prog Γ l0 Q (o::l) ⟨s,b,g⟩:=
 cy (HQ aX ho G hz) hg K Z h
theorem z7{len:Nat}{parts:Array (Nat×Operand)}{ps:List Pl}(h:bw prog Γ l0 Q l ⟨(t,.p (.sl true len ps))::s,b,g⟩)(ho:o.op=.buildSlice t1 len parts:=by exact rfl)(G:wo (kv s) parts.toList (HP tb t1 len)=some ps:=by exact rfl)(hg:gd l0 o (kv s)=some true:=by exact rfl)(K:o.dst=some t:=by exact rfl)(Z:Nat.blt t Γ.n=true:=by exact rfl):bw prog Γ l0 Q (o::l) ⟨s,b,g⟩:=
 cy (RK aX ho G) hg K Z h
theorem z8{dx:I}(h:bw prog Γ l0 Q l ⟨(t,.ptr nm 0)::s,(nm,cs)::b,g⟩)(ho:o.op=.box t1 x:=by exact rfl)(mv:xl 0 b some=some nm:=by exact rfl)(hx:ev (kv s) x=some dx:=by exact rfl)(hk:lj dx=true:=by exact rfl)(bV:nj dx some=some cs:=by exact rfl)(hg:gd l0 o (kv s)=some true:=by exact rfl)(K:o.dst=some t:=by exact rfl)(Z:Nat.blt t Γ.n=true:=by exact rfl)(hf:kv b nm=none:=by exact rfl):bw prog Γ l0 Q (o::l) ⟨s,b,g⟩:=
 ZG ho mv hx hk bV hg K Z hf h
theorem z9(h:bw prog Γ l0 Q l ⟨(t,.ptr nm 0)::s,(nm,cs)::b,g⟩)(ho:o.op=.alloc t1:=by exact rfl)(mv:xl 0 b some=some nm:=by exact rfl)(ht:tb t1=some i:=by exact rfl)(hk:lj (mh i.zero)=true:=by exact rfl)(bV:sw i.zero (λ d=>nj d some)=some cs:=by exact rfl)(hg:gd l0 o (kv s)=some true:=by exact rfl)(K:o.dst=some t:=by exact rfl)(Z:Nat.blt t Γ.n=true:=by exact rfl)(hf:kv b nm=none:=by exact rfl):bw prog Γ l0 Q (o::l) ⟨s,b,g⟩:=
 ZL aX ho mv ht hk bV hg K Z hf h
end
section
variable{n:Nat}{B B0:List (Nat×List I)}{aB:St->Prop}{aC:List Nat}{aR:List (Nat×Nat)}{ix:Nat}{o:Oper}{l0 l:List Oper}{s:List (Nat×I)}{b:List (Nat×List I)}{g:List (Nat×Gr)}{t t1 aH nm:Nat}{i:TI}{x y:Operand}{p q:Int}{d:I}{cs aZ:List I}
theorem w0(h:co prog n l0 B B0 aB (ix+1) aC aR l ⟨(t,M (p+q))::s,b,g⟩)(ho:o.op=.binOp .add t1 x y aH:=by exact rfl)(ht:tb t1=some i:=by exact rfl)(hx:ev (kv s) x=some (M p):=by exact rfl)(hy:ev (kv s) y=some (M q):=by exact rfl)(h1:-9223372036854775808<=p+q:=by omega)(u:p+q<=9223372036854775807:=by omega)(hg:gd l0 o (kv s)=some true:=by exact rfl)(K:o.dst=some t:=by exact rfl):co prog n l0 B B0 aB ix aC aR (o::l) ⟨s,b,g⟩:=
 fL (Rh aX ho ht hx hy h1 u) hg K h
theorem w1(h:co prog n l0 B B0 aB (ix+1) aC aR l ⟨(t,M (p-q))::s,b,g⟩)(ho:o.op=.binOp .sub t1 x y aH:=by exact rfl)(ht:tb t1=some i:=by exact rfl)(hx:ev (kv s) x=some (M p):=by exact rfl)(hy:ev (kv s) y=some (M q):=by exact rfl)(h1:-9223372036854775808<=p-q:=by omega)(u:p-q<=9223372036854775807:=by omega)(hg:gd l0 o (kv s)=some true:=by exact rfl)(K:o.dst=some t:=by exact rfl):co prog n l0 B B0 aB ix aC aR (o::l) ⟨s,b,g⟩:=
 fL (YG aX ho ht hx hy h1 u) hg K h
theorem w2{of:Nat}{dy:I}(h:co prog n l0 B B0 aB (ix+1) (nm::aC) aR l ⟨s,(nm,aZ)::b,g⟩)(ho:o.op=.store t1 x y:=by exact rfl)(K:o.dst=none:=by exact rfl)(ht:tb t1=some i:=by exact rfl)(hx:ev (kv s) x=some (.ptr nm of):=by exact rfl)(hb:kv b nm=some cs:=by exact rfl)(hy:ev (kv s) y=some dy:=by exact rfl)
 (Z:vB dy=true:=by exact rfl)(hsz:Nat.beq dy.cells.length i.sz=true:=by exact rfl)(bY:uI cs of dy some=some aZ:=by exact rfl)(hg:gd l0 o (kv s)=some true:=by exact rfl)(hB:kv B nm=none:=by exact rfl)(hD:aC.contains nm=false:=by exact rfl):co prog n l0 B B0 aB ix aC aR (o::l) ⟨s,b,g⟩:=Kd aX ho K ht hx hb hy Z hsz bY hg hB (.inl hD) h
theorem wL{of:Nat}{dy:I}(h:co prog n l0 B B0 aB (ix+1) (nm::aC) aR l ⟨s,(nm,aZ)::b,g⟩)(ho:o.op=.store t1 x y:=by exact rfl)(K:o.dst=none:=by exact rfl)(ht:tb t1=some i:=by exact rfl)(hx:ev (kv s) x=some (.ptr nm of):=by exact rfl)(hb:kv b nm=some cs:=by exact rfl)(hy:ev (kv s) y=some dy:=by exact rfl)
 (Z:vB dy=true:=by exact rfl)(hsz:Nat.beq dy.cells.length i.sz=true:=by exact rfl)(bY:uI cs of dy some=some aZ:=by exact rfl)(hg:gd l0 o (kv s)=some true:=by exact rfl)(hB:kv B nm=none:=by exact rfl)(hD:Gl l0 o ix=true:=by kernel_rfl):co prog n l0 B B0 aB ix aC aR (o::l) ⟨s,b,g⟩:=Kd aX ho K ht hx hb hy Z hsz bY hg hB (.inr hD) h
theorem w3(h:co prog n l0 B B0 aB (ix+1) aC aR l ⟨(t,d)::s,b,g⟩)(hq:ax tb (kv s) (kv B) o.op=some d:=by exact rfl)(hg:gd l0 o (kv s)=some true:=by exact rfl)(K:o.dst=some t:=by exact rfl):co prog n l0 B B0 aB ix aC aR (o::l) ⟨s,b,g⟩:=GZ aX hq hg K h
theorem akB(h:co prog n l0 B B0 aB (ix+1) aC aR l ⟨(t,.p (.raw undef))::s,b,g⟩)(hg:gd l0 o (kv s)=some false:=by exact rfl)(K:o.dst=some t:=by exact rfl):co prog n l0 B B0 aB ix aC aR (o::l) ⟨s,b,g⟩:=ai5 hg K h
theorem w5(h:aB ⟨s,b,g⟩):co prog n l0 B B0 aB ix aC aR [] ⟨s,b,g⟩:=h
theorem w6{parts:Array (Nat×Operand)}(h:co prog n l0 B B0 aB (ix+1) aC aR l ⟨(t,d)::s,b,g⟩)(ho:o.op=.build t1 parts:=by exact rfl)(G:wo (kv s) parts.toList (HO tb t1)=some d:=by exact rfl)(hz:(match tb t1 with|some i=>lj (mh i.zero)|none=>false)=true:=by exact rfl)(hg:gd l0 o (kv s)=some true:=by exact rfl)(K:o.dst=some t:=by exact rfl):co prog n l0 B B0 aB ix aC aR (o::l) ⟨s,b,g⟩:=
 fL (HQ aX ho G hz) hg K h
theorem akD{len:Nat}{parts:Array (Nat×Operand)}{ps:List Pl}(h:co prog n l0 B B0 aB (ix+1) aC aR l ⟨(t,.p (.sl true len ps))::s,b,g⟩)(ho:o.op=.buildSlice t1 len parts:=by exact rfl)(G:wo (kv s) parts.toList (HP tb t1 len)=some ps:=by exact rfl)(hg:gd l0 o (kv s)=some true:=by exact rfl)(K:o.dst=some t:=by exact rfl):co prog n l0 B B0 aB ix aC aR (o::l) ⟨s,b,g⟩:=
 fL (RK aX ho G) hg K h
theorem akE{dx:I}(h:co prog n l0 B B0 aB (ix+1) aC aR l ⟨(t,.ptr nm 0)::s,(nm,cs)::b,g⟩)(ho:o.op=.box t1 x:=by exact rfl)(mv:xl 0 b some=some nm:=by exact rfl)(hx:ev (kv s) x=some dx:=by exact rfl)(hk:lj dx=true:=by exact rfl)(bV:nj dx some=some cs:=by exact rfl)(hg:gd l0 o (kv s)=some true:=by exact rfl)(K:o.dst=some t:=by exact rfl)(hf:kv b nm=none:=by exact rfl)(ly:kv B nm=none:=by exact rfl):co prog n l0 B B0 aB ix aC aR (o::l) ⟨s,b,g⟩:=
 ai2 ho mv hx hk bV hg K hf ly h
theorem akF(h:co prog n l0 B B0 aB (ix+1) aC aR l ⟨(t,.ptr nm 0)::s,(nm,cs)::b,g⟩)(ho:o.op=.alloc t1:=by exact rfl)(mv:xl 0 b some=some nm:=by exact rfl)(ht:tb t1=some i:=by exact rfl)(hk:lj (mh i.zero)=true:=by exact rfl)(bV:sw i.zero (λ d=>nj d some)=some cs:=by exact rfl)(hg:gd l0 o (kv s)=some true:=by exact rfl)(K:o.dst=some t:=by exact rfl)(hf:kv b nm=none:=by exact rfl)(ly:kv B nm=none:=by exact rfl):co prog n l0 B B0 aB ix aC aR (o::l) ⟨s,b,g⟩:=
 ai4 aX ho mv ht hk bV hg K hf ly h
end
section
structure qX(bK:Prop):Prop where
 out:bK
variable{X bK:Prop}
theorem qv(h:bK)(e:qX bK->X:=by intro h;(repeat(first|refine z0 ?_|refine z1 ?_|refine z2 ?_|refine z3 ?_|refine z4 ?_|refine z5 ?_|refine z6 ?_|refine z7 ?_|refine z8 ?_|refine z9 ?_));exact h.out):X:=e ⟨h⟩
theorem mK(h:bK)(e:qX bK->X:=by intro h;(repeat(first|refine zA ?_|refine zB ?_|refine zC ?_|refine zD ?_|refine zE ?_|refine zF ?_|refine zG ?_|refine zH ?_|refine zI ?_|refine zJ ?_|refine zK ?_|refine zL ?_|refine zT ?_|refine zU ?_|refine zV ?_|refine zW ?_|refine zM ?_|refine zN ?_|refine zO ?_|refine zP ?_|refine zQ ?_|refine zR ?_|refine zS ?_));exact h.out):X:=e ⟨h⟩
theorem go(h:bK)(e:qX bK->X:=by intro h;(repeat(first|refine zA ?_|refine zB ?_|refine zC ?_|refine zD ?_|refine zE ?_|refine zF ?_|refine zG ?_|refine zH ?_|refine zI ?_|refine zJ ?_|refine zK ?_|refine zL ?_|refine zT ?_|refine zU ?_|refine zV ?_|refine zW ?_|refine zM ?_|refine zN ?_|refine zO ?_|refine zP ?_|refine zQ ?_|refine zR ?_|refine zS ?_|refine z0 ?_|refine z1 ?_|refine z2 ?_|refine z3 ?_|refine z4 ?_|refine z5 ?_|refine z6 ?_|refine z7 ?_|refine z8 ?_|refine z9 ?_));exact h.out):X:=e ⟨h⟩
theorem EO(h:bK)(e:qX bK->X:=by intro h;(repeat(first|refine zA ?_|refine zB ?_|refine zC ?_|refine zD ?_|refine zE ?_|refine zF ?_|refine zG ?_|refine zH ?_|refine zI ?_|refine zJ ?_|refine zK ?_|refine zL ?_|refine zT ?_|refine zU ?_|refine zV ?_|refine zW ?_|refine zM ?_|refine zN ?_|refine zO ?_|refine zP ?_|refine zQ ?_|refine zR ?_|refine zS ?_|refine cy (L2 aX rfl rfl rfl rfl (by omega) (by omega)) rfl rfl rfl ?_|refine cy (ajv rfl rfl rfl (by omega) (by omega)) rfl rfl rfl ?_|refine z0 ?_|refine z1 ?_|refine z2 ?_|refine z3 ?_|refine z4 ?_|refine z5 ?_|refine z6 ?_|refine z7 ?_|refine z8 ?_|refine z9 ?_));exact h.out):X:=e ⟨h⟩
theorem bJ(h:bK)(e:qX bK->X:=by intro h;(repeat(first|refine w0 ?_|refine w1 ?_|refine w2 ?_|refine w3 ?_|refine akB ?_|refine w5 ?_|refine w6 ?_|refine akD ?_|refine akE ?_|refine akF ?_));exact h.out):X:=e ⟨h⟩
end
section
variable{P:Program}{aq:Nat->Option TI}{Γ:bX}{L:St}{o:Oper}{l0 l:List Oper}{Q:Exit->St->Prop}
variable{s ah:List (Nat×I)}{b aP:List (Nat×List I)}{g:List (Nat×Gr)}{t:Nat}{d:I}{f:FuncId}{bc:List Nat}{ds:List I}{bs:cn}{ap:I->cn->Prop}{X:Value->cn->Prop}{rs:List ResultVar}{n:Nat}{fn:Func}{c:Code}
theorem fP{v:Value}(ay:cn)(hX:X v ay)(u:jQ L (aL ay) ay:=by(repeat(first|exact trivial|refine⟨⟨rfl,rfl⟩,?_⟩)))(J:ku ay bc:=by(repeat(first|exact trivial|refine⟨rfl,?_⟩))):zd aq rs bc ap X (.panic [pe v]) L:=acD ay u J hX
theorem sX(hf:prog.funcs[f]?=some fn)(gL:fn.ntmps=n)(h:∀w cl own kf,a8 prog ⟨n,w,cl,own,mz kf bc,[]⟩ c (zd tb rs bc ap X) ⟨s,bs,[]⟩)(hb:fn.body=some c:=by exact rfl)(mx:fn.results.toList=rs:=by exact rfl)(hn:Nat.ble ds.length n=true:=by exact rfl)(T:tF 0 ds some=some s:=by exact rfl)(o9:ku bs bc:=by(repeat(first|exact trivial|refine⟨rfl,?_⟩))):jt prog f bc ds bs ap X:=
 af0 aX hf hb gL mx hn T o9 h
end
section
variable{X bK:Prop}
theorem gP(h:bK)(e:qX bK->X:=by intro h;(repeat(first|refine ai0 ?_|refine aiW ?_|refine aiZ ?_|refine aiY ?_|refine aiX ?_));exact h.out):X:=e ⟨h⟩
end
theorem u5(f:Nat)(h:(match prog.funcs[f]? with|some fn=>!(fn.name== "runtime.NumGoroutine")&&!fn.body.isNone|none=>false)=true):jM prog f:=by
 intro args w;split at h
 ·rename_i fn hf;simp only[Bool.and_eq_true,Bool.not_eq_true',beq_eq_false_iff_ne,ne_eq,Option.isNone_eq_false_iff] at h;obtain⟨h1,u⟩:=h;obtain⟨c,F⟩:=Option.isSome_iff_exists.1 u;simp[callFunc,hf,h1,F]
 ·cases h
section
variable{X:Prop}
theorem DN(e:X:=by(repeat(first|exact trivial|refine⟨⟨rfl,rfl⟩,?_⟩|refine⟨rfl,?_⟩))):X:=e
theorem Dg(e:X:=by(repeat(first|exact trivial|refine⟨.inr rfl,?_⟩|refine⟨.inl rfl,?_⟩))):X:=e
theorem u7(e:X:=by(first|(rintro d bs ⟨ml,ah,_,_,_,_,_,rfl,rfl⟩)|(rintro d bs ⟨x,ah,_,_,_,rfl,rfl⟩)|(rintro d bs ⟨x,ah,ml,_,_,rfl,rfl⟩)|(rintro d bs ⟨x,ah,_,_,rfl,rfl⟩)|(rintro d bs ⟨a,ah,ml,_,rfl,rfl⟩)|(rintro d bs ⟨a,ah,_,rfl,rfl⟩)|(rintro d bs ⟨rfl,rfl⟩));(repeat(first|exact trivial|refine⟨.inl rfl,?_⟩|refine⟨.inr rfl,?_⟩))):X:=e
theorem Xl(e:X:=by(first|rintro v bs ⟨a,ah,h,rfl,rfl⟩|rintro v bs ⟨a,ah,ml,h,rfl,rfl⟩);refine gP ?_;first|exact fP _ ⟨a,ah,by rw[<-Y];exact eA h,rfl,rfl⟩|exact fP _ ⟨a,ah,_,by rw[<-Y];exact eA h,rfl,rfl⟩|exact fP _ ⟨a,ah,ml,by rw[<-Y];exact eA h,rfl,rfl⟩|exact fP _ ⟨a,ah,Y.symm.trans h,rfl,rfl⟩|exact fP _ ⟨a,ah,ml,Y.symm.trans h,rfl,rfl⟩|exact fP _ ⟨a,ah,by rw[<-Y];exact h,rfl,rfl⟩):X:=e
end
section
variable{Γ:bX}{L:St}{o:Oper}{l0 l:List Oper}{Q:Exit->St->Prop}{aB:St->Prop}
variable{s ah:List (Nat×I)}{b aP:List (Nat×List I)}{g:List (Nat×Gr)}{t t1:Nat}{d:I}{f:FuncId}{bc:List Nat}{ds first dX:List I}{bs:cn}{ap:I->cn->Prop}{X:Value->cn->Prop}{rs:List ResultVar}{n:Nat}{fn:Func}{c:Code}{xs:List Operand}{fa:Array TypeId}{fo:Operand}
variable{B B0:List (Nat×List I)}{aC:List Nat}{aR:List (Nat×Nat)}{ix:Nat}
def uL(l0:List Oper)(o:Oper)(s:List (Nat×I))(fo:Operand)(xs:List Operand)(fa:Array TypeId)(t n:Nat):Prop:=o.op=.call {callee:=.value fo,args:=xs.toArray,argTypes:=fa}/\gd l0 o (kv s)=some true/\o.dst=some t/\Nat.blt t n=true
def Cc(Γ:bX)(s ah:List (Nat×I))(b aP:List (Nat×List I))(g:List (Nat×Gr))(bs:cn)(bc:List Nat)(ds:List I):Prop:=I.ok.fy (aL bs) (λ _=>false) ds=true/\jQ ⟨s,b,g⟩ (aL bs) bs/\tn bc bs Γ.kb/\lT (λ b=>!aL bs b||iI bc b) s (λ ah=>mj (aL bs) (λ b=>!aL bs b||iI bc b) b (λ aP=>some (ah,aP)))=some (ah,aP)
theorem cA(hC:bH prog f ds d)(h:bw prog Γ l0 Q l ⟨(t,d)::s,b,g⟩)(c:uL l0 o s (.func f) xs fa t Γ.n:=by exact⟨rfl,rfl,rfl,rfl⟩)(hf:jM prog f:=by exact u5 _ (by kernel_rfl))(hx:i3 (kv s) xs I.low.jY=some ds:=by exact rfl):bw prog Γ l0 Q (o::l) ⟨s,b,g⟩:=cy (RM hC c.1 hf hx) c.2.1 c.2.2.1 c.2.2.2 h
theorem cQ(hC:bH prog f ds d)(h:co prog n l0 B B0 aB (ix+1) aC aR l ⟨(t,d)::s,b,g⟩)(c:uL l0 o s (.func f) xs fa t (t+1):=by exact⟨rfl,rfl,rfl,by simp⟩)(hf:jM prog f:=by exact u5 _ (by kernel_rfl))(hx:i3 (kv s) xs I.low.jY=some ds:=by exact rfl):co prog n l0 B B0 aB ix aC aR (o::l) ⟨s,b,g⟩:=fL (RM hC c.1 hf hx) c.2.1 c.2.2.1 h
theorem lA(hC:bH prog f ds d)(h:bw prog Γ l0 Q l ⟨(t,d)::s,b,g⟩)(c:uL l0 o s (.func f) xs fa t Γ.n:=by exact⟨rfl,rfl,rfl,rfl⟩)(hf:jM prog f:=by exact u5 _ (by kernel_rfl))(hx:i3 (kv s) xs (λ jv=>Gn (kv b) jv some)=some ds:=by exact rfl)(hr:DH d=true:=by exact rfl):bw prog Γ l0 Q (o::l) ⟨s,b,g⟩:=cy (VK hC c.1 hf hx hr) c.2.1 c.2.2.1 c.2.2.2 h
theorem lQ(hC:bH prog f ds d)(h:co prog n l0 B B0 aB (ix+1) aC aR l ⟨(t,d)::s,b,g⟩)(c:uL l0 o s (.func f) xs fa t (t+1):=by exact⟨rfl,rfl,rfl,by simp⟩)(hf:jM prog f:=by exact u5 _ (by kernel_rfl))(hx:i3 (kv s) xs (λ jv=>Gn (kv B) jv some)=some ds:=by exact rfl)(hr:DH d=true:=by exact rfl):co prog n l0 B B0 aB ix aC aR (o::l) ⟨s,b,g⟩:=fL (VK hC c.1 hf hx hr) c.2.1 c.2.2.1 h
theorem cI(hC:gt prog f bc ds bs ap)(h:∀d ay,ap d ay->bw prog Γ l0 Q l ⟨(t,d)::ah,ay++aP,g⟩)(c:uL l0 o s (.func f) xs fa t Γ.n:=by exact⟨rfl,rfl,rfl,rfl⟩)(hf:jM prog f:=by exact u5 _ (by kernel_rfl))(he:i3 (kv s) xs some=some ds:=by exact rfl)(k:Cc Γ s ah b aP g bs bc ds:=by exact⟨rfl,DN,Dg,rfl⟩)(dt:∀d ay,ap d ay->kq bs b ay:=by exact u7):bw prog Γ l0 Q (o::l) ⟨s,b,g⟩:=nf hC c.1 hf he k.1 k.2.1 k.2.2.1 c.2.1 c.2.2.1 c.2.2.2 k.2.2.2 dt h
theorem vI(hC:gt prog f bc ds bs ap)(h:∀d ay,ap d ay->bw prog Γ l0 Q l ⟨(t,d)::ah,ay++aP,g⟩)(c:uL l0 o s fo xs fa t Γ.n:=by exact⟨rfl,rfl,rfl,rfl⟩)(hf:jM prog f:=by exact u5 _ (by kernel_rfl))(wG:ev (kv s) fo=some (.fn (.func f) first dX):=by exact rfl)(he:(i3 (kv s) xs λ jv=>ng first jv λ r=>ng r dX some)=some ds:=by exact rfl)(k:Cc Γ s ah b aP g bs bc ds:=by exact⟨rfl,DN,Dg,rfl⟩)(dt:∀d ay,ap d ay->kq bs b ay:=by exact u7):bw prog Γ l0 Q (o::l) ⟨s,b,g⟩:=zr hC c.1 hf wG he k.1 k.2.1 k.2.2.1 c.2.1 c.2.2.1 c.2.2.2 k.2.2.2 dt h
theorem vX(hC:jt prog f bc ds bs ap X)(hx:∀v ay,X v ay->Q (.panic [pe v]) ⟨ah,ay++aP,g⟩)(h:∀d ay,ap d ay->bw prog Γ l0 Q l ⟨(t,d)::ah,ay++aP,g⟩)(c:uL l0 o s fo xs fa t Γ.n:=by exact⟨rfl,rfl,rfl,rfl⟩)(hf:jM prog f:=by exact u5 _ (by kernel_rfl))(wG:ev (kv s) fo=some (.fn (.func f) first dX):=by exact rfl)(he:(i3 (kv s) xs λ jv=>ng first jv λ r=>ng r dX some)=some ds:=by exact rfl)(k:Cc Γ s ah b aP g bs bc ds:=by exact⟨rfl,DN,Dg,rfl⟩)(dt:∀d ay,ap d ay->kq bs b ay:=by exact u7)(rD:∀v ay,X v ay->kq bs b ay:=by exact u7):bw prog Γ l0 Q (o::l) ⟨s,b,g⟩:=Rd hC c.1 hf wG he k.1 k.2.1 k.2.2.1 c.2.1 c.2.2.1 c.2.2.2 k.2.2.2 dt rD hx h
theorem xX(hC:jt prog f bc ds bs ap X)(hx:∀v ay,X v ay->Q (.panic [pe v]) ⟨ah,ay++aP,g⟩)(h:∀d ay,ap d ay->bw prog Γ l0 Q l ⟨(t,d)::ah,ay++aP,g⟩)(c:uL l0 o s (.func f) xs fa t Γ.n:=by exact⟨rfl,rfl,rfl,rfl⟩)(hf:jM prog f:=by exact u5 _ (by kernel_rfl))(he:i3 (kv s) xs some=some ds:=by exact rfl)(k:Cc Γ s ah b aP g bs bc ds:=by exact⟨rfl,DN,Dg,rfl⟩)(dt:∀d ay,ap d ay->kq bs b ay:=by exact u7)(rD:∀v ay,X v ay->kq bs b ay:=by exact u7):bw prog Γ l0 Q (o::l) ⟨s,b,g⟩:=ZI hC c.1 hf he k.1 k.2.1 k.2.2.1 c.2.1 c.2.2.1 c.2.2.2 k.2.2.2 dt rD hx h
theorem xP(hC:jt prog f bc ds bs ap X)(h:∀d ay,ap d ay->bw prog Γ l0 Q l ⟨(t,d)::ah,ay++aP,g⟩)(c:uL l0 o s (.func f) xs fa t Γ.n:=by exact⟨rfl,rfl,rfl,rfl⟩)(hf:jM prog f:=by exact u5 _ (by kernel_rfl))(he:i3 (kv s) xs some=some ds:=by exact rfl)(k:Cc Γ s ah b aP g bs bc ds:=by exact⟨rfl,DN,Dg,rfl⟩)(hx:∀v ay,X v ay->Q (.panic [pe v]) ⟨ah,ay++aP,g⟩:=by exact Xl)(dt:∀d ay,ap d ay->kq bs b ay:=by exact u7)(rD:∀v ay,X v ay->kq bs b ay:=by exact u7):bw prog Γ l0 Q (o::l) ⟨s,b,g⟩:=xX hC hx h c hf he k dt rD
theorem vP(hC:jt prog f bc ds bs ap X)(h:∀d ay,ap d ay->bw prog Γ l0 Q l ⟨(t,d)::ah,ay++aP,g⟩)(c:uL l0 o s fo xs fa t Γ.n:=by exact⟨rfl,rfl,rfl,rfl⟩)(hf:jM prog f:=by exact u5 _ (by kernel_rfl))(wG:ev (kv s) fo=some (.fn (.func f) first dX):=by exact rfl)(he:(i3 (kv s) xs λ jv=>ng first jv λ r=>ng r dX some)=some ds:=by exact rfl)(k:Cc Γ s ah b aP g bs bc ds:=by exact⟨rfl,DN,Dg,rfl⟩)(hx:∀v ay,X v ay->Q (.panic [pe v]) ⟨ah,ay++aP,g⟩:=by exact Xl)(dt:∀d ay,ap d ay->kq bs b ay:=by exact u7)(rD:∀v ay,X v ay->kq bs b ay:=by exact u7):bw prog Γ l0 Q (o::l) ⟨s,b,g⟩:=vX hC hx h c hf wG he k dt rD
theorem fX{ex:Exit}(ay:cn)(hR:ap d ay)(he:ex=.ret\/ex=.normal:=by first|exact .inl rfl|exact .inr rfl)(h:vR tb L rs=some d:=by exact rfl)(h1:d.ok (aL ay) (λ _=>false)=true:=by exact rfl)(u:jQ L (aL ay) ay:=by(repeat(first|exact trivial|refine⟨⟨rfl,rfl⟩,?_⟩)))(J:ku ay bc:=by(repeat(first|exact trivial|refine⟨rfl,?_⟩))):zd tb rs bc ap X ex L:=by
 rcases he with rfl|rfl
 ·exact acE ay h h1 u J hR
 ·exact acC ay h h1 u J hR
theorem bA{x:Operand}{dx:I}{cs:List I}(nm:Nat)(h:bw prog Γ l0 Q l ⟨(t,.ptr nm 0)::s,(nm,cs)::b,g⟩)(ho:o.op=.box t1 x:=by exact rfl)(hx:ev (kv s) x=some dx:=by exact rfl)(hk:lj dx=true:=by exact rfl)(bV:nj dx some=some cs:=by exact rfl)(hg:gd l0 o (kv s)=some true:=by exact rfl)(K:o.dst=some t:=by exact rfl)(Z:Nat.blt t Γ.n=true:=by exact rfl)(hf:kv b nm=none:=by exact rfl):bw prog Γ l0 Q (o::l) ⟨s,b,g⟩:=Ce (HM nm ho hx hk bV) hg K Z hf h
theorem nA{i:TI}{cs:List I}(nm:Nat)(h:bw prog Γ l0 Q l ⟨(t,.ptr nm 0)::s,(nm,cs)::b,g⟩)(ho:o.op=.alloc t1:=by exact rfl)(hx:tb t1=some i:=by exact rfl)(hk:lj (mh i.zero)=true:=by exact rfl)(bV:sw i.zero (λ d=>nj d some)=some cs:=by exact rfl)(hg:gd l0 o (kv s)=some true:=by exact rfl)(K:o.dst=some t:=by exact rfl)(Z:Nat.blt t Γ.n=true:=by exact rfl)(hf:kv b nm=none:=by exact rfl):bw prog Γ l0 Q (o::l) ⟨s,b,g⟩:=Ce (xM aX nm ho hx hk bV) hg K Z hf h
theorem dW{l1 l2:List Oper}{id:Nat}(k:Nat)(ws:List Nat)(h:co prog Γ.n l B L.b (bw prog Γ l Q l2) 0 [] [] l1 L)(T:(mD k l λ a=>kW k l λ b=>some (a,b))=some (l1,l2):=by exact rfl)(hv:px ws L.b some=some B:=by exact rfl)(hm:prog.follows .mixedOrders=true:=by kernel_rfl)(hB:r9 l.toArray Γ.n=true:=by kernel_rfl)(hT:vU l.toArray k=true:=by kernel_rfl):a8 prog Γ (.region id l.toArray true) Q L:=RB k ws T hv hm hB hT h
theorem dQ{id:Nat}(ws:List Nat)(h:co prog Γ.n l B L.b (Q .normal) 0 [] [] l L)(hv:px ws L.b some=some B:=by exact rfl)(hm:prog.follows .mixedOrders=true:=by kernel_rfl)(hB:r9 l.toArray Γ.n=true:=by kernel_rfl):a8 prog Γ (.region id l.toArray true) Q L:=RA ws hv hm hB h
theorem gW{bK:Prop}{l1 l2:List Oper}{id:Nat}(k:Nat)(ws:List Nat)(h:bK)(T:(mD k l λ a=>kW k l λ b=>some (a,b))=some (l1,l2):=by exact rfl)(hv:px ws L.b some=some B:=by exact rfl)(hm:prog.follows .mixedOrders=true:=by kernel_rfl)(hB:r9 l.toArray Γ.n=true:=by kernel_rfl)(hT:vU l.toArray k=true:=by kernel_rfl)(e:qX bK->co prog Γ.n l B L.b (bw prog Γ l Q l2) 0 [] [] l1 L:=by intro h;refine bJ ?_;exact h.out):a8 prog Γ (.region id l.toArray true) Q L:=RB k ws T hv hm hB hT (e ⟨h⟩)
theorem gD{bK:Prop}{id:Nat}(ws:List Nat)(h:bK)(hv:px ws L.b some=some B:=by exact rfl)(hm:prog.follows .mixedOrders=true:=by kernel_rfl)(hB:r9 l.toArray Γ.n=true:=by kernel_rfl)(e:qX bK->co prog Γ.n l B L.b (Q .normal) 0 [] [] l L:=by intro h;refine bJ ?_;exact h.out):a8 prog Γ (.region id l.toArray true) Q L:=RA ws hv hm hB (e ⟨h⟩)
theorem ai{el ty:TypeId}{x y:Operand}{z1 z2:Nat}{z3:Value}{j:TI}{k:IntKind}{i:Int}{dx:I}{m:Nat}{ps:List Pl}(qs:List Pl)(hm:∀(m:Nat)(q:Pl),qs[m]?=some q->ps[i.toNat*j.sz+m]?=some q)(h:bw prog Γ l0 Q l ⟨(t,.el qs)::s,b,g⟩)(ho:o.op=.indexAddr ty x y:=by exact rfl)(tQ:tb ty=some ⟨.slice el,z1,z2,z3⟩:=by exact rfl)(rA:tb el=some j:=by exact rfl)(hx:ev (kv s) x=some dx:=by exact rfl)(kI:nS dx=some (m,ps):=by exact rfl)(hy:ev (kv s) y=some (.p (.raw (.int k i))):=by exact rfl)(h0:0<=i:=by first|omega|(simp;done)|(simp;omega))(h1:i<m:=by first|omega|(simp;done)|(simp;omega))(hq:qs≠[]:=by first|(simp;done)|exact List.cons_ne_nil _ _)(hg:gd l0 o (kv s)=some true:=by exact rfl)(K:o.dst=some t:=by exact rfl)(Z:Nat.blt t Γ.n=true:=by exact rfl):bw prog Γ l0 Q (o::l) ⟨s,b,g⟩:=cy (Vm aX qs ho tQ rA hx kI hy h0 h1 hq hm) hg K Z h
theorem aj{el ty:TypeId}{x y:Operand}{z1 z2:Nat}{z3:Value}{j:TI}{k:IntKind}{i:Int}{nm m c:Nat}(p q:Nat)(h:bw prog Γ l0 Q l ⟨(t,.ptr nm p)::s,b,g⟩)(ho:o.op=.indexAddr ty x y:=by exact rfl)(tQ:tb ty=some ⟨.slice el,z1,z2,z3⟩:=by exact rfl)(rA:tb el=some j:=by exact rfl)(hx:ev (kv s) x=some (.arr nm 0 m c):=by exact rfl)(hy:ev (kv s) y=some (.p (.raw (.int k i))):=by exact rfl)(h0:0<=i:=by omega)(h1:i<m:=by omega)(hg:gd l0 o (kv s)=some true:=by exact rfl)(K:o.dst=some t:=by exact rfl)(Z:Nat.blt t Γ.n=true:=by exact rfl)(hq:j.sz=q:=by exact rfl)(G:p=i.toNat*q:=by omega):bw prog Γ l0 Q (o::l) ⟨s,b,g⟩:=cy (Gc aX ho tQ rA hx hy h0 h1 (by rw[hq];exact G)) hg K Z h
theorem ri{el ty:TypeId}{x y:Operand}{z1 z2:Nat}{z3:Value}{j:TI}{k:IntKind}{i:Int}{dx:I}{m:Nat}{ps:List Pl}(qs:List Pl)(hm:∀(m:Nat)(q:Pl),qs[m]?=some q->ps[i.toNat*j.sz+m]?=some q)(h:co prog n l0 B B0 aB (ix+1) aC aR l ⟨(t,.el qs)::s,b,g⟩)(ho:o.op=.indexAddr ty x y:=by exact rfl)(tQ:tb ty=some ⟨.slice el,z1,z2,z3⟩:=by exact rfl)(rA:tb el=some j:=by exact rfl)(hx:ev (kv s) x=some dx:=by exact rfl)(kI:nS dx=some (m,ps):=by exact rfl)(hy:ev (kv s) y=some (.p (.raw (.int k i))):=by exact rfl)(h0:0<=i:=by first|omega|(simp;done)|(simp;omega))(h1:i<m:=by first|omega|(simp;done)|(simp;omega))(hq:qs≠[]:=by first|(simp;done)|exact List.cons_ne_nil _ _)(hg:gd l0 o (kv s)=some true:=by exact rfl)(K:o.dst=some t:=by exact rfl):co prog n l0 B B0 aB ix aC aR (o::l) ⟨s,b,g⟩:=fL (Vm aX qs ho tQ rA hx kI hy h0 h1 hq hm) hg K h
theorem rj{el ty:TypeId}{x y:Operand}{z1 z2:Nat}{z3:Value}{j:TI}{k:IntKind}{i:Int}{nm m c:Nat}(p q:Nat)(h:co prog n l0 B B0 aB (ix+1) aC aR l ⟨(t,.ptr nm p)::s,b,g⟩)(ho:o.op=.indexAddr ty x y:=by exact rfl)(tQ:tb ty=some ⟨.slice el,z1,z2,z3⟩:=by exact rfl)(rA:tb el=some j:=by exact rfl)(hx:ev (kv s) x=some (.arr nm 0 m c):=by exact rfl)(hy:ev (kv s) y=some (.p (.raw (.int k i))):=by exact rfl)(h0:0<=i:=by omega)(h1:i<m:=by omega)(hg:gd l0 o (kv s)=some true:=by exact rfl)(K:o.dst=some t:=by exact rfl)(hq:j.sz=q:=by exact rfl)(G:p=i.toNat*q:=by omega):co prog n l0 B B0 aB ix aC aR (o::l) ⟨s,b,g⟩:=fL (Gc aX ho tQ rA hx hy h0 h1 (by rw[hq];exact G)) hg K h
theorem pA{ty el:TypeId}{x y:Operand}{gn n1 m z1 z2:Nat}{z3:Value}{ps qs:List Pl}{dy:I}{i:TI}(cx:qs.length=m*i.sz)(h:bw prog Γ l0 Q l ⟨(t,.bP gn (n1+m) (ps++qs))::s,b,(gn,⟨el,i.sz,n1+m⟩)::g⟩)(ho:o.op=.call {callee:=.builtin .append,args:=#[x,y],argTypes:=#[ty,ty]}:=by exact rfl)(tQ:tb ty=some ⟨.slice el,z1,z2,z3⟩:=by exact rfl)(rA:tb el=some i:=by exact rfl)(hz:Nat.beq i.zero.cells.size i.sz=true:=by exact rfl)(G:Nat.blt 0 i.sz=true:=by exact rfl)(hg:gd l0 o (kv s)=some true:=by exact rfl)(K:o.dst=some t:=by exact rfl)(Z:Nat.blt t Γ.n=true:=by exact rfl)(hx:ev (kv s) x=some (.bP gn n1 ps):=by exact rfl)(hG:kv g gn=some ⟨el,i.sz,n1⟩:=by exact rfl)(hy:ev (kv s) y=some dy:=by exact rfl)(kI:nS dy=some (m,qs):=by exact rfl)(aeW:n1+m<=maxLen:=by unfold maxLen;first|omega|(simp;omega))(hb:(n1+m)*i.bytes<=140737488355328:=by show(_+_)*(_:Nat)<=_;first|(simp only[];omega)|omega|(simp;omega)):bw prog Γ l0 Q (o::l) ⟨s,b,g⟩:=mg aX ho tQ rA hz G hg K Z hx hG hy kI cx aeW hb h
theorem sP(hf:prog.funcs[f]?=some fn)(gL:fn.ntmps=n)(h:∀w cl,a8 prog ⟨n,w,cl,λ _=>False,[],[]⟩ c (Fin tb rs d) ⟨s,[],[]⟩)(hb:fn.body=some c:=by exact rfl)(mx:fn.results.toList=rs:=by exact rfl)(hn:Nat.ble ds.length n=true:=by exact rfl)(T:tF 0 ds some=some s:=by exact rfl):bH prog f ds d:=aiN aX hf hb gL mx hn T h
theorem sI(hf:prog.funcs[f]?=some fn)(gL:fn.ntmps=n)(h:∀w cl own kf,a8 prog ⟨n,w,cl,own,mz kf bc,[]⟩ c (D9 tb rs bc ap) ⟨s,bs,[]⟩)(hb:fn.body=some c:=by exact rfl)(mx:fn.results.toList=rs:=by exact rfl)(hn:Nat.ble ds.length n=true:=by exact rfl)(T:tF 0 ds some=some s:=by exact rfl)(o9:ku bs bc:=by(repeat(first|exact trivial|refine⟨rfl,?_⟩))):gt prog f bc ds bs ap:=af1 aX hf hb gL mx hn T o9 h
end
section
variable{X bK:Prop}
theorem hp(h:bK)(e:qX bK->X:=by intro h;(first|refine Av rfl ?_|refine acF rfl ?_);exact h.out):X:=e ⟨h⟩
theorem gA{f:FuncId}{ds:List I}{d:I}(hC:bH prog f ds d)(h:bK)(e:bH prog f ds d->qX bK->X:=by intro hC h;refine go ?_;refine cA hC ?_;refine go ?_;exact h.out):X:=e hC ⟨h⟩
theorem gQ{f:FuncId}{ds:List I}{d:I}(hC:bH prog f ds d)(h:bK)(e:bH prog f ds d->qX bK->X:=by intro hC h;refine bJ ?_;refine cQ hC ?_;refine bJ ?_;exact h.out):X:=e hC ⟨h⟩
theorem gf(h:bK)(e:qX bK->X:=by intro h;refine go ?_;refine hp ?_;exact h.out):X:=e ⟨h⟩
theorem qg(h:bK)(e:qX bK->X:=by intro h;refine bJ ?_;refine go ?_;exact h.out):X:=e ⟨h⟩
end
end Go.Proofs.YtkkldicehapklaaGreat
