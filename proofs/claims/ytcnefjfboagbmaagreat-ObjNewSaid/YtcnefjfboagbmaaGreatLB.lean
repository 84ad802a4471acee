/- Contracts of functions that write, panic, recover; sets told by maps; how arguments are opened. -/
import Derived.Test.YtcnefjfboagbmaaGreatLA
import Derived.Recover
import Derived.MapKept
import Derived.ChangeKeysEq
import Derived.Test.YtcnefjfboagbmaaGreatRows
section
namespace Go.Proofs.YtcnefjfboagbmaaGreat
open Go.Proofs.Tryz
open Go.RowKit
section
variable{P:Program}{ah:Nat->Option TI}{Γ:bE}{I:St}
def kJ:F->F
 |.aU _ n ps=>.p (.sl false n ps)
 |.p x=>.p (wU x)
 |d=>d
theorem Iu{e:ay}{v:Value}{d:F}(h:bt e v d):bt e v (kJ d):=by
 cases h with
 |p h=>exact .p h.low
 |aU h _=>exact .p h
 |agg M h=>exact .agg M h
 |bc M h=>exact .bc M h
 |ptr h=>exact .ptr h
 |el h=>exact .el h
 |arr h=>exact .arr h
 |fn a b c d=>exact .fn a b c d
 |any=>exact .any
theorem wV(t:Nat){d dH:F}(ht:Y I.s t=some d)(G:kJ d=dH):bF Γ I ⟨(t,dH)::I.s,I.b,I.g⟩:=by
 intro a e L;refine⟨e,rfl,L.size,L.df,λ aa c hu=>?_,L.boxes,L.dX,L.gs,L.env⟩;simp only[cL] at hu;split at hu
 ·rename_i kG;subst kG;cases hu;rw[<-G];exact Iu (L.bm _ _ ht)
 ·exact L.bm aa c hu
theorem nV(nm:Nat){cs aO:List F}(R:Y I.b nm=some cs)(G:cs.map kJ=aO):bF Γ I ⟨I.s,(nm,aO)::I.b,I.g⟩:=by
 intro a e L;refine⟨e,rfl,L.size,L.df,L.bm,λ aa c hu=>?_,λ aa hu=>?_,L.gs,L.env⟩
 ·simp only[cL] at hu;split at hu
  ·rename_i kG;subst kG;cases hu;obtain⟨k,vs,el,u,D,K,h4⟩:=L.boxes _ _ R;refine⟨k,vs,el,u,D,by rw[<-G,List.length_map];exact K,λ i v d hv iz=>?_⟩;rw[<-G,List.getElem?_map] at iz;cases cr:cs[i]? with
   |none=>rw[cr] at iz;cases iz
   |some x=>rw[cr] at iz;cases iz;exact Iu (h4 i v x hv cr)
  ·exact L.boxes aa c hu
 ·simp only[cL] at hu;split at hu
  ·cases hu
  ·exact L.dX aa hu
end
end Go.Proofs.YtcnefjfboagbmaaGreat
end
section
namespace Go.Proofs.YtcnefjfboagbmaaGreat
open Go.Proofs.Tryz
open Go.RowKit
section
variable{P:Program}{ah:Nat->Option TI}{Γ:bE}{I bS bn:St}{o:Oper}{l0 l:List Oper}{Q:Exit->St->Prop}
variable{s U:List (Nat×F)}{b bj:List (Nat×List F)}{g:List (Nat×Gr)}{t:Nat}{d:F}
abbrev pe(v:Value):PanicEntry:={v:=v,recovered:=false}
abbrev bH:=List (Nat×List F)
def fu(P:Program)(f:FuncId)(aX:List Nat)(ds:List F)(O:bH)(aE:F->bH->Prop)(ae:Value->bH->Prop):Prop:=
 ∀(e:ay)(vs:List Value),fG O e->DReps e vs ds->
  Calls P f vs.toArray e.w (λ r aH=>(∃v d ag V,r=.returned v/\V.w=aH/\aE d ag/\fG ag V/\bt V v d/\Left aX e V)\/∃v ag V,r=.panicked [pe v]/\V.w=aH/\ae v ag/\fG ag V/\Left aX e V)
theorem d8.x{f:FuncId}{aX:List Nat}{ds:List F}{O:bH}{aE:F->bH->Prop}{ae:Value->bH->Prop}(h:d8 P f aX ds O aE):fu P f aX ds O aE ae:=λ e vs u D=>(h e vs u D).mono λ _ _ hh=>.inl hh
theorem fu.c{f:FuncId}{aX:List Nat}{ds:List F}{O:bH}{aE:F->bH->Prop}(h:fu P f aX ds O aE λ _ _=>False):d8 P f aX ds O aE:=λ e vs u D=>(h e vs u D).mono λ _ _ hh=>hh.elim id λ⟨_,_,_,_,_,T,_⟩=>T.elim
theorem MO{f:FuncId}{aX:List Nat}{ds:List F}{O:bH}{aE:F->bH->Prop}{ae:Value->bH->Prop}(hC:fu P f aX ds O aE ae){e:ay}{a:Act}(L:bw Γ ⟨s,b,g⟩ e a){vs:List Value}(hv:DReps e vs ds)(aR:F.ok.ec (aC O) (λ _=>false) ds=true)(hs:i3 ⟨s,b,g⟩ (aC O) O)(dv:qn aX O Γ.kb)
 (G:o.dst=some t)(M:Nat.blt t Γ.n=true)(fV:kA (λ b=>!aC O b||gJ aX b) s (λ U=>kQ (aC O) (λ b=>!aC O b||gJ aX b) b (λ bj=>some (U,bj)))=some (U,bj))
 (dh:∀d ag,aE d ag->jH O b ag)(o8:∀v ag,ae v ag->jH O b ag){iH:Exit->Act->World->Prop}:
 Calls P f vs.toArray e.w λ
  |.returned v,mn=>∃d ag V,aE d ag/\V.w=mn/\bw Γ ⟨(t,d)::U,ag++bj,g⟩ V (a.put o.dst v)
  |.panicked ch,mn=>∃v ag V,ch=[pe v]/\ae v ag/\V.w=mn/\bw Γ ⟨U,ag++bj,g⟩ V a
  |.outgrown,_=>LetsOut iH:=by
 rw[sD,sC] at fV;cases fV;refine(hC (e.cut (aC O) λ _=>false) vs (kB L hs) ⟨hv.1,λ i v d u D=>(hv.2 i v d u D).cut (pp aR D)⟩).mono λ r aH hh=>?_
 rcases hh with⟨v,d,ag,V,rfl,rfl,hR,hI,hr,hL⟩|⟨v,ag,V,rfl,rfl,hX,hI,hL⟩
 ·obtain⟨u,D⟩:=L.after hI hL (λ n hn=>(dh d ag hR).get hn) (λ n k u D=>dv.get u D);refine⟨d,ag,e.after V O ag,hR,rfl,?_⟩;have:=u.put (dst:=o.dst) (oS G M) (hr.next D);rw[G] at this⊢;exact this
 ·obtain⟨u,_⟩:=L.after hI hL (λ n hn=>(o8 v ag hX).get hn) (λ n k u D=>dv.get u D);exact⟨v,ag,e.after V O ag,rfl,hX,rfl,u⟩
theorem Kt{f:FuncId}{aE:F->bH->Prop}{ae:Value->bH->Prop}(hg:gd l0 o (Y s)=some true)(cG:∀(a:Act)(e:ay),bw Γ ⟨s,b,g⟩ e a->∃vs:List Value,(execOp a.eval o).run P e.w=.ok (.enter f vs.toArray) e.w/\∀iH:Exit->Act->World->Prop,Calls P f vs.toArray e.w λ
 |.returned v,mn=>∃d ag V,aE d ag/\V.w=mn/\bw Γ ⟨(t,d)::U,ag++bj,g⟩ V (a.put o.dst v)
 |.panicked ch,mn=>∃v ag V,ch=[pe v]/\ae v ag/\V.w=mn/\bw Γ ⟨U,ag++bj,g⟩ V a
 |.outgrown,_=>LetsOut iH)
 (h:∀d ag,aE d ag->bp P Γ l0 Q l ⟨(t,d)::U,ag++bj,g⟩)(T:∀v ag,ae v ag->Q (.panic [pe v]) ⟨U,ag++bj,g⟩):bp P Γ l0 Q (o::l) ⟨s,b,g⟩:=by
 refine⟨λ a e L=>?_⟩;unfold wpList;rw[if_pos (kS L hg)];refine .inl ?_;obtain⟨vs,e1,hC⟩:=cG a e L;unfold Oper.wp;rw[e1];refine(hC (iZ Γ Q)).mono λ r aH hh=>?_
 cases r with
 |returned v=>obtain⟨d,ag,V,hR,rfl,ea⟩:=hh;exact(h d ag hR).run _ V ea
 |panicked ch=>obtain⟨v,ag,V,rfl,hX,rfl,ea⟩:=hh;exact⟨_,V,rfl,ea,T v ag hX⟩
 |outgrown=>exact hh
theorem Qp{f:FuncId}{aX:List Nat}{ds:List F}{O:bH}{aE:F->bH->Prop}{ae:Value->bH->Prop}{xs:List Operand}{fb:Array TypeId}(hC:fu P f aX ds O aE ae)(X:o.op=.call {callee:=.value (.func f),args:=xs.toArray,argTypes:=fb})(hf:jj P f)(he:iv (Y s) xs some=some ds)(aR:F.ok.ec (aC O) (λ _=>false) ds=true)(hs:i3 ⟨s,b,g⟩ (aC O) O)(dv:qn aX O Γ.kb)
 (hg:gd l0 o (Y s)=some true)(G:o.dst=some t)(M:Nat.blt t Γ.n=true)(fV:kA (λ b=>!aC O b||gJ aX b) s (λ U=>kQ (aC O) (λ b=>!aC O b||gJ aX b) b (λ bj=>some (U,bj)))=some (U,bj))
 (dh:∀d ag,aE d ag->jH O b ag)(o8:∀v ag,ae v ag->jH O b ag)(T:∀v ag,ae v ag->Q (.panic [pe v]) ⟨U,ag++bj,g⟩)(h:∀d ag,aE d ag->bp P Γ l0 Q l ⟨(t,d)::U,ag++bj,g⟩):bp P Γ l0 Q (o::l) ⟨s,b,g⟩:=by
 refine Kt (f:=f) hg (λ a e L=>?_) h T;have iR:=L.h1 o.op.operands;have hv:=A5 (a:=a) (e:=e) xs (λ x T=>iR.1 x (by rw[X];simp[Op.operands,Call.operands,T])) he;refine⟨xs.map a.eval,?_,λ iH=>MO hC L hv aR hs dv G M fV dh o8⟩;obtain⟨dst,op,type,pos,after,guard⟩:=o;simp only at X;subst X;rw[execOp_call_go,hf];simp
theorem J9{f:FuncId}{aX:List Nat}{ds first cC:List F}{O:bH}{aE:F->bH->Prop}{ae:Value->bH->Prop}{fo:Operand}{xs:List Operand}{fb:Array TypeId}(hC:fu P f aX ds O aE ae)(X:o.op=.call {callee:=.value fo,args:=xs.toArray,argTypes:=fb})(hf:jj P f)(sO:ev (Y s) fo=some (.fn (.func f) first cC))(he:iv (Y s) xs (λ iK=>lP first iK λ r=>lP r cC some)=some ds)(aR:F.ok.ec (aC O) (λ _=>false) ds=true)(hs:i3 ⟨s,b,g⟩ (aC O) O)(dv:qn aX O Γ.kb)
 (hg:gd l0 o (Y s)=some true)(G:o.dst=some t)(M:Nat.blt t Γ.n=true)(fV:kA (λ b=>!aC O b||gJ aX b) s (λ U=>kQ (aC O) (λ b=>!aC O b||gJ aX b) b (λ bj=>some (U,bj)))=some (U,bj))
 (dh:∀d ag,aE d ag->jH O b ag)(o8:∀v ag,ae v ag->jH O b ag)(T:∀v ag,ae v ag->Q (.panic [pe v]) ⟨U,ag++bj,g⟩)(h:∀d ag,aE d ag->bp P Γ l0 Q l ⟨(t,d)::U,ag++bj,g⟩):bp P Γ l0 Q (o::l) ⟨s,b,g⟩:=by
 refine Kt (f:=f) hg (λ a e L=>?_) h T;have iR:=L.h1 o.op.operands;obtain⟨iK,hr,mK⟩:=rB (a:=a) (e:=e) xs _ ds (λ x T=>iR.1 x (by rw[X];simp[Op.operands,Call.operands,T])) he;rw[pG,pG] at mK;cases mK;have ur:=iR.1 fo (by rw[X];simp[Op.operands,Call.operands]) _ sO;generalize dj:a.eval fo=gv at ur;cases ur with
 |fn i9 dz u D=>rename_i us vs;have dc:DReps e (us++xs.map a.eval++vs) (first++iK++cC):=(DReps.append ⟨i9,u⟩ hr).append ⟨dz,D⟩;refine⟨us++xs.map a.eval++vs,?_,λ iH=>MO hC L dc aR hs dv G M fV dh o8⟩;obtain⟨dst,op,type,pos,after,guard⟩:=o;simp only at X;subst X;simp only[execOp,resolve,dj,Deferred.ofValue,Sem.run_bind,Sem.run_pure,Result.andThen_ok,invoke];rw[hf];simp
def vn(ah:Nat->Option TI)(rs:List ResultVar)(aX:List Nat)(aE:F->bH->Prop)(ae:Value->bH->Prop):Exit->St->Prop
 |.normal,I|.ret,I=>∃d ag,sg ah I rs=some d/\d.ok (aC ag) (λ _=>false)=true/\i3 I (aC ag) ag/\jJ ag aX/\aE d ag
 |.panic ch,I=>∃v ag,ch=[pe v]/\i3 I (aC ag) ag/\jJ ag aX/\ae v ag
 |_,_=>False
theorem R7{rs:List ResultVar}{aX:List Nat}{aE:F->bH->Prop}{ae:Value->bH->Prop}(ag:bH)(h:sg ah I rs=some d)(u:d.ok (aC ag) (λ _=>false)=true)(D:i3 I (aC ag) ag)(K:jJ ag aX)(hR:aE d ag):vn ah rs aX aE ae .ret I:=⟨d,ag,h,u,D,K,hR⟩
theorem R5{rs:List ResultVar}{aX:List Nat}{aE:F->bH->Prop}{ae:Value->bH->Prop}(ag:bH)(h:sg ah I rs=some d)(u:d.ok (aC ag) (λ _=>false)=true)(D:i3 I (aC ag) ag)(K:jJ ag aX)(hR:aE d ag):vn ah rs aX aE ae .normal I:=⟨d,ag,h,u,D,K,hR⟩
theorem R6{rs:List ResultVar}{aX:List Nat}{aE:F->bH->Prop}{ae:Value->bH->Prop}{v:Value}(ag:bH)(D:i3 I (aC ag) ag)(K:jJ ag aX)(hX:ae v ag):vn ah rs aX aE ae (.panic [pe v]) I:=⟨v,ag,rfl,D,K,hX⟩
theorem XC{bC:St->Prop}{ch:List PanicEntry}(h:Q (.panic ch) I):ql bC Q (.panic ch) I:=h
theorem Xy{id:Nat}{ch:List PanicEntry}(h:Q (.panic ch) I):oR id Q (.panic ch) I:=h
theorem XB{ch:List PanicEntry}(h:Q (.panic ch) I):Ae Q (.panic ch) I:=h
theorem tg{f:FuncId}{fn:Func}{ds:List F}{aX:List Nat}{O:bH}(dn:List Deferred)(hn:ds.length<=fn.ntmps)(ni:jJ O aX){e:ay}{vs:List Value}(hI:fG O e)(hv:DReps e vs ds)(_:f=f):
 bw ⟨fn.ntmps,e.w,e.cl,λ k=>∃b,e.bx b=some k,k8 (λ b=>(e.bx b).getD 0) aX,dn⟩ ⟨sG.go 0 ds,O,[]⟩ e {tmps:=vs.toArray++Array.replicate (fn.ntmps-vs.toArray.size) undef,defers:=dn}:=by
 have M:vs.length=ds.length:=hv.1;refine⟨by simp;omega,rfl,λ t d0 ht=>?_,hI.boxes,hI.dX,λ g=>by rw[hI.gi];rfl,⟨mZ.refl _ _,λ _ _ _=>rfl,λ b k J=>⟨(hI.bx b k J).1,.inr ⟨b,J⟩,(hI.bx b k J).2,hI.gr k⟩,hI.inj,λ k g J=>(by rw[hI.gr] at J;cases J),λ b k J=>?_⟩⟩
 ·obtain⟨_,D⟩:=AZ ds 0 t d0 ht;simp only[Nat.sub_zero] at D;obtain⟨v,K,h4⟩:=hv.get D;have gq:t<vs.length:=(List.getElem?_eq_some_iff.1 K).1;have:fK {tmps:=vs.toArray++Array.replicate (fn.ntmps-vs.toArray.size) undef,defers:=dn} t=v:=by
   unfold fK;simp only[Array.getD_eq_getD_getElem?];rw[Array.getElem?_append_left (by simpa using gq),List.getElem?_toArray,K]
   rfl
  rw[this];exact h4
 ·obtain⟨u,D⟩:=yX J;rw[D];have aN:=ni.get u;obtain⟨cs,cr⟩:=Option.isSome_iff_exists.1 aN;obtain⟨jb,_,_,K,_⟩:=hI.boxes b cs cr;rw[K];rfl
theorem imp_left{aX:List Nat}{O ag:bH}{n:Nat}{dn:List Deferred}{e V:ay}{a:Act}(hI:fG O e)(ni:jJ O aX)(L:bw ⟨n,e.w,e.cl,λ k=>∃b,e.bx b=some k,k8 (λ b=>(e.bx b).getD 0) aX,dn⟩ I V a)(h7:jJ ag aX):Left aX e (V.cut (aC ag) λ _=>false):=by
 refine⟨L.env.kept,L.env.cl,λ b k J=>?_,λ b R=>?_⟩
 ·have dk:(if aC ag b=true then V.bx b else none)=some k:=J;split at dk
  ·exact(L.env.bx b k dk).2.1
  ·cases dk
 ·show(if aC ag b=true then V.bx b else none)=_;have aN:=ni.get R;obtain⟨cs,cr⟩:=Option.isSome_iff_exists.1 aN;obtain⟨jb,_,_,K,_⟩:=hI.boxes b cs cr;rw[if_pos (h7.get R),L.env.kb b _ (wR R),K];rfl
theorem U7(hT:cR P ah){f:FuncId}{fn:Func}{c:Code}{ds:List F}{aX:List Nat}{O:bH}{aE:F->bH->Prop}{ae:Value->bH->Prop}{rs:List ResultVar}{n:Nat}{s:List (Nat×F)}(hf:P.funcs[f]?=some fn)(R:fn.body=some c)(ic:fn.ntmps=n)(kY:fn.results.toList=rs)(hn:Nat.ble ds.length n=true)(hs:qy 0 ds some=some s)(ni:jJ O aX)
 (h:∀w cl own kf,aJ P ⟨n,w,cl,own,k8 kf aX,[]⟩ c (vn ah rs aX aE ae) ⟨s,O,[]⟩):fu P f aX ds O aE ae:=by
 subst ic;subst kY;rw[yl] at hs;cases hs;have hn:=Nat.le_of_ble_eq_true hn;intro e vs hI hv;refine calls_of_wp hf R ?_;have L:=tg (fn:=fn) (f:=f) (aX:=aX) [] hn ni hI hv rfl;refine Code.wp_mono (λ ex bu aH hh=>?_) ((h e.w e.cl _ _).run _ e L);obtain⟨bS,V,rfl,D,K⟩:=hh;have MC:(∃d ag,sg ah bS fn.results.toList=some d/\d.ok (aC ag) (λ _=>false)=true/\i3 bS (aC ag) ag/\jJ ag aX/\aE d ag)->bu.defers=[]/\∃v,(results fn bu.tmps).run P V.w=.ok v V.w/\((∃jh d ag mz,Ending.returned v=.returned jh/\mz.w=V.w/\aE d ag/\fG ag mz/\bt mz jh d/\Left aX e mz)\/∃jh ag mz,Ending.returned v=.panicked [pe jh]/\mz.w=V.w/\ae jh ag/\fG ag mz/\Left aX e mz):=by rintro⟨d,ag,h4,h5,h6,h7,h8⟩;obtain⟨v,hr,hv⟩:=n5 hT D h4;exact⟨D.df,v,hr,.inl ⟨v,d,ag,V.cut (aC ag) λ _=>false,rfl,rfl,h8,kB D h6,hv.cut h5,imp_left hI ni D h7⟩⟩
 cases ex with
 |normal=>exact MC K
 |ret=>exact MC K
 |panic ch=>obtain⟨v,ag,rfl,h6,h7,h8⟩:=K;exact⟨D.df,.inr ⟨v,ag,V.cut (aC ag) λ _=>false,rfl,rfl,h8,kB D h6,imp_left hI ni D h7⟩⟩
 |exit id=>exact K.elim
 |goto l=>exact K.elim
 |outgrown=>exact K.elim
def zy:F->Option Value
 |.p (.raw v)=>some v
 |_=>none
def xo{aq:Type}:List F->(List Value->Option aq)->Option aq
 |[],k=>k []
 |d::l,k=>match zy d with
  |some v=>xo l λ r=>k (v::r)
  |none=>none
def Cq:F->Option Value
 |.agg ds=>xo ds λ vs=>some (.agg vs.toArray)
 |d=>zy d
theorem I9{e:ay}{v aa:Value}{d:F}(h:bt e v d)(G:zy d=some aa):v=aa:=by
 unfold zy at G;split at G
 ·cases G;exact cE h
 ·cases G
theorem OI{aq:Type}{e:ay}:∀{ds:List F}{vs:List Value}{k:List Value->Option aq}{r:aq},DReps e vs ds->xo ds k=some r->k vs=some r
 |[],vs,k,r,hv,h=>by
  have:vs=[]:=List.eq_nil_of_length_eq_zero hv.1;subst this;exact h
 |d::ds,vs,k,r,hv,h=>by
  obtain⟨v,eV,rfl,u,D⟩:=hv.vh;simp only[xo] at h;split at h
  ·rename_i aa hu;have:=I9 u hu;subst this;exact OI (k:=λ r=>k (v::r)) D h
  ·cases h
theorem XH{e:ay}{v aa:Value}{d:F}(h:bt e v d)(G:Cq d=some aa):v=aa:=by
 unfold Cq at G;split at G
 ·cases h with
  |agg M hh=>rename_i vs;have:=OI (e:=e) (vs:=vs) ⟨M,hh⟩ G;cases this;rfl
 ·exact I9 h G
def TK.known:TK->Bool
 |.other=>false
 |_=>true
theorem M4(hT:cR P ah){ty:TypeId}{i:TI}(ht:ah ty=some i)(J:i.k.known=true):∃dd,P.underlying ty=some dd/\∀ms,dd≠.interface ms:=by obtain⟨dd,u,D⟩:=hT.desc ty i ht;refine⟨dd,u,λ ms e=>?_⟩;subst e;rw[<-D] at J;cases J
theorem BV(hT:cR P ah){S:Nat->Option F}{B:Nat->Option (List F)}{ty:TypeId}{x:Operand}{i:TI}{dx:F}{v:Value}(X:o.op=.makeInterface ty x)(ht:ah ty=some i)(J:i.k.known=true)(T:ev S x=some dx)(hv:Cq dx=some v):dm P o S B (.p (.raw (.iface ty v))) none:=by
 refine hZ λ a e hs=>⟨_,?_,.p (.raw _)⟩
 have bV:=XH (hs.1 x (by rw[X];simp[Op.operands]) _ T) hv;obtain⟨dd,u,D⟩:=M4 hT ht J;obtain⟨dst,op,type,pos,after,guard⟩:=o;simp only at X;subst X;simp only[execOp,Instr.makeInterface,Sem.run_bind,run_underlying u,Result.andThen_ok,bV];cases dd with
 |interface ms=>exact absurd rfl (D ms)
 |_=>rfl
theorem AD{x:Operand}{ty:TypeId}{v:Value}(X:o.op=.panic x)(T:ev (Y s) x=some (.p (.raw (.iface ty v))))(hg:gd l0 o (Y s)=some true)(h:Q (.panic [pe (.iface ty v)]) ⟨s,b,g⟩):bp P Γ l0 Q (o::l) ⟨s,b,g⟩:=by
 refine⟨λ a e L=>?_⟩;unfold wpList;rw[if_pos (kS L hg)];refine .inl ?_;have bV:=KY L T;have e1:(execOp a.eval o).run P e.w=.halt (.panic (.iface ty v)) e.w:=by
  obtain⟨dst,op,type,pos,after,guard⟩:=o;simp only at X;subst X;simp only[execOp,Instr.panic,bV]
  rfl
 unfold Oper.wp;rw[e1];exact⟨_,e,rfl,L,h⟩
end
end Go.Proofs.YtcnefjfboagbmaaGreat
end
section
namespace Go.Proofs.YtcnefjfboagbmaaGreat
open Go.Proofs.Tryz
open Go.RowKit
section
variable{P:Program}{ah:Nat->Option TI}{Γ:bE}{S:Nat->Option F}{B:Nat->Option (List F)}{o:Oper}
def E0{aq:Type}:List F->(List Pl->Option aq)->Option aq
 |.p x::l,k=>bif x.lf then E0 l λ r=>k (x::r) else k []
 |_,k=>k []
theorem Oq{aq:Type}:∀{l:List F}{k:List Pl->Option aq}{r:aq},E0 l k=some r->∃ps,k ps=some r/\∀(i:Nat) x,ps[i]?=some x->l[i]?=some (.p x)/\x.lf=true
 |[],k,r,h=>⟨[],h,λ i x T=>by simp at T⟩
 |d::l,k,r,h=>by
  cases d with
  |p x=>
   simp only[E0] at h;cases T:x.lf with
   |false=>rw[T] at h;exact⟨[],h,λ i x T=>by simp at T⟩
   |true=>
    rw[T] at h;obtain⟨ps,u,D⟩:=Oq (l:=l) (k:=λ r=>k (x::r)) h;refine⟨x::ps,u,λ i y hy=>?_⟩;cases i with
    |zero=>simp at hy;subst hy;exact⟨rfl,T⟩
    |succ i=>simpa using D i y (by simpa using hy)
  |_=>exact⟨[],h,λ i x T=>by simp at T⟩
def Et{aq:Type}(B:Nat->Option (List F))(d:F)(k:F->Option aq):Option aq:=match d with
 |.ptr b o=>match B b with
  |some cs=>j2 o cs λ r=>E0 r λ ps=>k (.el ps)
  |none=>none
 |d=>d.qY k
def Eu{aq:Type}(B:Nat->Option (List F)):List F->(List F->Option aq)->Option aq
 |[],k=>k []
 |d::l,k=>Et B d λ x=>Eu B l λ r=>k (x::r)
def In{aq:Type}(B:Nat->Option (List F))(d:F)(k:F->Option aq):Option aq:=match d with
 |.fn f first cC=>Eu B first λ a=>Eu B cC λ c=>k (.fn f a c)
 |d=>Et B d k
def B3{aq:Type}(B:Nat->Option (List F)):List F->(List F->Option aq)->Option aq
 |[],k=>k []
 |d::l,k=>In B d λ x=>B3 B l λ r=>k (x::r)
open Classical in
noncomputable def ay.mQ(e:ay):Nat->Option Nat:=λ k=>if∃b,e.bx b=some k then none else e.cl k
theorem Nm{e:ay}{b o:Nat}(h:e.mv b o):(gl e.w e.mQ).mv b o:=by
 intro k J;have dk:e.mQ b=some k:=J;unfold ay.mQ at dk;split at dk
 ·cases dk
 ·exact h k dk
theorem VA{e:ay}{b k o:Nat}(h:e.bx b=some k):(gl e.w e.mQ).mv k o:=by intro m hm;have l5:e.mQ k=some m:=hm;unfold ay.mQ at l5;rw[if_pos ⟨b,h⟩] at l5;cases l5
theorem cV.mQ{e:ay}{v:Value}{x:Pl}(h:cV e v x):cV (gl e.w e.mQ) v x:=by
 induction h with
 |raw v=>exact .raw v
 |sl f u D K h4 h5 h6 ih=>refine .sl f u D K h4 (λ i x T=>?_) ih;obtain⟨b,o,hA,L,hv,M⟩:=h5 i x T;exact⟨b,o,hA,Nm L,hv,M⟩
theorem VB(e:ay):Ends (gl e.w e.cl) (gl e.w e.mQ):=
 ⟨λ b o v u D=>⟨Nm (e:=e) u,D⟩,λ _ _ h=>(by cases h),λ _ _ h=>(by cases h),λ _ _ _ _ h=>(by cases h)⟩
theorem Nh{aq:Type}{e:ay}(hB:∀b cs,B b=some cs->gu e b cs){v:Value}{d:F}{k:F->Option aq}{r:aq}(h:bt e v d)(J:Et B d k=some r):∃dH,bt (gl e.w e.mQ) v dH/\k dH=some r:=by
 have T3:d.qY k=some r->∃dH,bt (gl e.w e.mQ) v dH/\k dH=some r:=λ J=>by
  rw[Ev] at J;obtain⟨dH,u,D⟩:=Option.bind_eq_some_iff.1 J;exact⟨dH,(Ew h dH u).next (VB e),D⟩
 unfold Et at J;split at J
 ·rename_i nm of;split at J
  ·rename_i cs cr;obtain⟨u,D⟩:=my J;obtain⟨ps,K,h4⟩:=Oq D;refine⟨.el ps,?_,K⟩;cases h with
   |ptr iy=>
    obtain⟨kk,vs,el,b1,b2,b3⟩:=hB nm cs cr;rw[iy] at b1;cases b1;refine .el ⟨λ i=>(vs[of+i]?).getD undef,λ i x T=>?_⟩;obtain⟨h5,h6⟩:=h4 i x T;rw[List.getElem?_drop] at h5;obtain⟨aa,h7,h8⟩:=b3.get h5;have hp:cV e aa x:=by cases h8 with|p h=>exact h
    have hg:(vs[of+i]?).getD undef=aa:=by rw[h7];rfl
    refine⟨VA iy,?_,?_,?_⟩
    ·show e.w.cell? _=some ((vs[of+i]?).getD undef);rw[cell_of_row e.w _ (of+i) _ el (0,0) b2,List.getElem?_toArray,hg,h7]
    ·show lc ((vs[of+i]?).getD undef)=true;rw[hg];exact Io hp h6
    ·show cV _ ((vs[of+i]?).getD undef) x;rw[hg];exact hp.mQ
  ·cases J
 ·exact T3 J
theorem Im{aq:Type}{e:ay}(hB:∀b cs,B b=some cs->gu e b cs):∀{ds:List F}{vs:List Value}{k:List F->Option aq}{r:aq},DReps e vs ds->Eu B ds k=some r->∃gS,DReps (gl e.w e.mQ) vs gS/\k gS=some r
 |[],vs,k,r,h,J=>by
  have:vs=[]:=List.eq_nil_of_length_eq_zero h.1;subst this;exact⟨[],DReps.nil _,J⟩
 |d::ds,vs,k,r,h,J=>by
  obtain⟨v,eV,rfl,u,D⟩:=h.vh;obtain⟨dH,q1,q2⟩:=Nh hB u J;obtain⟨gS,q3,q4⟩:=Im hB D q2;exact⟨dH::gS,q3.cons q1,q4⟩
theorem Vz{aq:Type}{e:ay}(hB:∀b cs,B b=some cs->gu e b cs){v:Value}{d:F}{k:F->Option aq}{r:aq}(h:bt e v d)(J:In B d k=some r):∃dH,bt (gl e.w e.mQ) v dH/\k dH=some r:=by
 unfold In at J;split at J
 ·cases h with
  |fn a1 a2 a3 a4=>rename_i us vs;obtain⟨gS,q1,q2⟩:=Im hB (vs:=us) ⟨a1,a3⟩ J;obtain⟨aO,q3,q4⟩:=Im hB (vs:=vs) ⟨a2,a4⟩ q2;exact⟨_,.fn q1.1 q3.1 q1.2 q3.2,q4⟩
 ·exact Nh hB h J
theorem Nl{aq:Type}{e:ay}(hB:∀b cs,B b=some cs->gu e b cs):∀{ds:List F}{vs:List Value}{k:List F->Option aq}{r:aq},DReps e vs ds->B3 B ds k=some r->∃gS,DReps (gl e.w e.mQ) vs gS/\k gS=some r
 |[],vs,k,r,h,J=>by
  have:vs=[]:=List.eq_nil_of_length_eq_zero h.1;subst this;exact⟨[],DReps.nil _,J⟩
 |d::ds,vs,k,r,h,J=>by
  obtain⟨v,eV,rfl,u,D⟩:=h.vh;obtain⟨dH,q1,q2⟩:=Vz hB u J;obtain⟨gS,q3,q4⟩:=Nl hB D q2;exact⟨dH::gS,q3.cons q1,q4⟩
def zx:F->Bool
 |.bc ds=>(xo ds λ _=>some ()).isSome
 |d=>(Cq d).isSome
theorem Ja{aq:Type}{e V:ay}:∀{ds:List F}{vs:List Value}{k:List Value->Option aq}{r:aq},DReps e vs ds->xo ds k=some r->DReps V vs ds
 |[],vs,k,r,h,_=>by
  have:vs=[]:=List.eq_nil_of_length_eq_zero h.1;subst this;exact DReps.nil _
 |d::ds,vs,k,r,h,J=>by
  obtain⟨v,eV,rfl,u,D⟩:=h.vh;simp only[xo] at J;split at J
  ·rename_i aa hu;refine(Ja D J).cons ?_;unfold zy at hu;split at hu
   ·cases hu;rw[cE u];exact .p (.raw _)
   ·cases hu
  ·cases J
theorem XG{e V:ay}{v:Value}{d:F}(h:bt e v d)(G:zx d=true):bt V v d:=by
 unfold zx at G;split at G
 ·obtain⟨r,hr⟩:=Option.isSome_iff_exists.1 G;cases h with
  |bc M hh=>exact .bc M (Ja (e:=e) ⟨M,hh⟩ hr).2
 ·obtain⟨aa,hu⟩:=Option.isSome_iff_exists.1 G;unfold Cq at hu;split at hu
  ·cases h with
   |agg M hh=>exact .agg M (Ja (e:=e) ⟨M,hh⟩ hu).2
  ·have:=I9 h hu;subst this;unfold zy at hu;split at hu
   ·cases hu;exact .p (.raw _)
   ·cases hu
theorem Vy{f:FuncId}{ds:List F}{d:F}(hC:aW P f ds d)(G:zx d=true){e:ay}{vs:List Value}(hv:DReps (gl e.w e.mQ) vs ds){a:Act}{o:Oper}:
 Calls P f vs.toArray e.w λ
  |.returned v,mn=>∃jh V,a.put o.dst v=a.put o.dst jh/\V.w=mn/\nD e V jh d none
  |.panicked _,_=>False
  |.outgrown,_=>LetsOut (λ _ _ _=>False):=by
 refine(hC e.w e.mQ vs hv).mono λ r aH hh=>?_
 obtain⟨v,bz,rfl,R,_,hr⟩:=hh;exact⟨v,{e with w:=aH,cl:=λ k=>if k<e.w.heap.size then e.cl k else bz k},rfl,rfl,⟨R,λ k J=>if_pos J,rfl,rfl,rfl⟩,XG hr G⟩
theorem Ni{f:FuncId}{xs:List Operand}{fb:Array TypeId}{ds:List F}{d:F}(hC:aW P f ds d)(X:o.op=.call {callee:=.value (.func f),args:=xs.toArray,argTypes:=fb})(hf:jj P f)(he:iv S xs (λ iK=>B3 B iK some)=some ds)(G:zx d=true):dm P o S B d none:=by
 intro a e hs _;obtain⟨iK,u,D⟩:=rB (a:=a) (e:=e) xs _ ds (λ x T=>hs.1 x (by rw[X];simp[Op.operands,Call.operands,T])) he;obtain⟨gS,K,h4⟩:=Nl hs.2 u D;cases h4;unfold Oper.wp;have e1:(execOp a.eval o).run P e.w=.ok (.enter f (xs.map a.eval).toArray) e.w:=by obtain⟨dst,op,type,pos,after,guard⟩:=o;simp only at X;subst X;rw[execOp_call_go,hf];simp
 rw[e1];exact Vy hC G K
end
end Go.Proofs.YtcnefjfboagbmaaGreat
end
section
namespace Go.Proofs.YtcnefjfboagbmaaGreat
open Go.Proofs.Tryz
open Go.RowKit
section
variable{P:Program}{ah:Nat->Option TI}{S:Nat->Option F}{B:Nat->Option (List F)}{o:Oper}
theorem xG{n:Int}(h0:0<=n)(h:n<9223372036854775808):IntKind.i64.wrap n=n:=d6 (by omega) (by omega)
theorem Kf(a:Int)(b:Nat)(R:b<=62):IntKind.i64.wrap (((BitVec.ofInt 64 a&&&BitVec.ofInt 64 (2^b-1:Int)).toNat:Nat):Int)=a%2^b:=by
 have hp:(2:Int)^b-1=((2^b-1:Nat):Int):=by
  have:=Nat.one_le_two_pow (n:=b);rw[Int.ofNat_sub this]
  norm_cast
 have bh:(2:Nat)^b<=2^62:=Nat.pow_le_pow_right (by omega) R;have u:(BitVec.ofInt 64 a&&&BitVec.ofInt 64 (2^b-1:Int)).toNat=(a%18446744073709551616).toNat%2^b:=by
  rw[hp,BitVec.toNat_and,BitVec.toNat_ofInt,BitVec.ofInt_natCast,BitVec.toNat_ofNat,Nat.mod_eq_of_lt (a:=2^b-1) (by omega),Nat.and_two_pow_sub_one_eq_mod]
  rfl
 rw[u];have D:(((a%18446744073709551616).toNat%2^b:Nat):Int)=a%2^b:=by
  rw[Int.natCast_emod,Int.toNat_of_nonneg (Int.emod_nonneg _ (by decide))];have G:((2^b:Nat):Int)∣18446744073709551616:=by
   have:(2:Nat)^b∣2^64:=Nat.pow_dvd_pow 2 (by omega);have Sq:(18446744073709551616:Int)=((2^64:Nat):Int):=by decide
   rw[Sq];exact Int.natCast_dvd_natCast.2 this
  rw[Int.emod_emod_of_dvd _ G]
  norm_cast
 rw[D];have pZ:(0:Int)<2^b:=Int.pow_pos (by omega);have K:a%2^b<2^b:=Int.emod_lt_of_pos _ pZ;have h4:(2:Int)^b<=4611686018427387904:=by
  have h5:((2^b:Nat):Int)<=((2^62:Nat):Int):=Int.ofNat_le.2 bh;have h6:((2^62:Nat):Int)=4611686018427387904:=by decide
  rw[h6,Int.natCast_pow] at h5;exact h5
 exact xG (Int.emod_nonneg _ (by omega)) (by omega)
theorem N4{a q:Int}{k:Nat}(h0:0<=a)(u:a<2^k)(hq:0<=q)(L:a+2^k*q<9223372036854775808):IntKind.i64.wrap (((BitVec.ofInt 64 a|||BitVec.ofInt 64 (2^k*q:Int)).toNat:Nat):Int)=a+2^k*q:=by
 obtain⟨a,rfl⟩:=Int.eq_ofNat_of_zero_le h0;obtain⟨q,rfl⟩:=Int.eq_ofNat_of_zero_le hq;have e1:(2:Int)^k*(q:Int)=((2^k*q:Nat):Int):=by rw[Int.natCast_mul,Int.natCast_pow];rfl
 have aN:a<2^k:=Int.ofNat_lt.1 (by rw[Int.natCast_pow];exact u);rw[e1] at L⊢;have K:a+2^k*q=(a|||2^k*q):=by rw[Nat.or_comm,<-Nat.two_pow_add_eq_or_of_lt aN,Nat.add_comm]
 generalize 2^k*q=m at L K⊢;have D:(BitVec.ofInt 64 (a:Int)|||BitVec.ofInt 64 (m:Int)).toNat=a+m:=by rw[BitVec.toNat_or,BitVec.ofInt_natCast,BitVec.ofInt_natCast,BitVec.toNat_ofNat,BitVec.toNat_ofNat,Nat.mod_eq_of_lt (by omega),Nat.mod_eq_of_lt (by omega),K]
 rw[D,Int.natCast_add];exact xG (by omega) L
theorem zn{ty aa:TypeId}{x y:Operand}{a c:Int}(k:Nat)(q:Int)(X:o.op=.binOp .or ty x y aa)(T:ev S x=some (z a))(hy:ev S y=some (z c))(S5:c=2^k*q)(h0:0<=a)(u:a<2^k)(hq:0<=q)(L:a+c<9223372036854775808):dm P o S B (z (a+c)) none:=by
 subst S5;refine hZ λ ac e hs=>?_
 have bV:=cE (hs.1 x (by rw[X];simp[Op.operands]) _ T);have eR:=cE (hs.1 y (by rw[X];simp[Op.operands]) _ hy);refine⟨_,?_,.p (.raw _)⟩;obtain⟨dst,op,type,pos,after,guard⟩:=o;simp only at X;subst X;have R:(binOp .or ty (.int .i64 a) (.int .i64 (2^k*q:Int))).run P e.w=.ok (.int .i64 (a+2^k*q)) e.w:=by rw[<-N4 h0 u hq L];rfl
 simp[execOp,bV,eR,eqGuard,R]
theorem tL{ty aa:TypeId}{x y:Operand}{a i:Int}(n:Nat)(X:o.op=.binOp .shl ty x y aa)(T:ev S x=some (z a))(hy:ev S y=some (z i))(Z:i=n)(hn:n<=62)(h0:0<=a)(hm:a*2^n<9223372036854775808):dm P o S B (z (a*2^n)) none:=by
 subst Z;refine hZ λ ac e hs=>?_
 have bV:=cE (hs.1 x (by rw[X];simp[Op.operands]) _ T);have eR:=cE (hs.1 y (by rw[X];simp[Op.operands]) _ hy);refine⟨_,?_,.p (.raw _)⟩;obtain⟨dst,op,type,pos,after,guard⟩:=o;simp only at X;subst X;have D:min n 64=n:=by omega
 have R:(binOp .shl ty (.int .i64 a) (.int .i64 (n:Int))).run P e.w=.ok (.int .i64 (a*2^n)) e.w:=by show(Op.shift .shl .i64 a .i64 (n:Int)).run P e.w=_;rw[shift_shl_any _ _ _ _ (Int.natCast_nonneg n)];show Result.ok (Value.int .i64 (IntKind.i64.wrap (a*2^min ((n:Int).toNat) 64))) e.w=_;rw[Int.toNat_natCast,D,xG (Int.mul_nonneg h0 (Int.le_of_lt (Int.pow_pos (by omega)))) hm]
 simp[execOp,bV,eR,eqGuard,R]
theorem CG{ty aa:TypeId}{x y:Operand}{a:Int}(n:Nat)(X:o.op=.binOp .shr ty x y aa)(T:ev S x=some (z a))(hy:ev S y=some (.p (.raw (.int .u64 (n:Int)))))(hn:n<=63):dm P o S B (z (a/2^n)) none:=by
 refine hZ λ ac e hs=>?_
 have bV:=cE (hs.1 x (by rw[X];simp[Op.operands]) _ T);have eR:=cE (hs.1 y (by rw[X];simp[Op.operands]) _ hy);refine⟨_,?_,.p (.raw _)⟩;obtain⟨dst,op,type,pos,after,guard⟩:=o;simp only at X;subst X;have D:min n 64=n:=by omega
 have R:(binOp .shr ty (.int .i64 a) (.int .u64 (n:Int))).run P e.w=.ok (.int .i64 (a/2^n)) e.w:=by show(Op.shift .shr .i64 a .u64 (n:Int)).run P e.w=_;rw[shift_shr_any _ _ _ _ (Int.natCast_nonneg n)];show Result.ok (Value.int .i64 (a/2^min ((n:Int).toNat) 64)) e.w=_;rw[Int.toNat_natCast,D]
 simp[execOp,bV,eR,eqGuard,R]
end
end Go.Proofs.YtcnefjfboagbmaaGreat
end
section
namespace Go.Proofs.YtcnefjfboagbmaaGreat
open Go.Proofs.Tryz
open Go.RowKit
section
variable{P:Program}{ah:Nat->Option TI}{Γ:bE}{o:Oper}{l0 l:List Oper}{Q:Exit->St->Prop}
variable{s:List (Nat×F)}{b:List (Nat×List F)}{g:List (Nat×Gr)}{t:Nat}{I:St}
def FC(w aH:World)(bz:Nat->Option Nat)(v:Value)(el sz n:Nat):Prop:=
 ∃ar bP,v=.slice ar n bP/\(bP=n\/∃k cur,ar=some ⟨k,0,none⟩/\w.heap.size<=k/\k<aH.heap.size/\bz k=some (n*sz)/\aH.heap[k]?=some (.cells cur el (0,0))/\cur.size=bP*sz)
def xJ(P:Program)(f:FuncId)(ds:List F)(el sz n:Nat)(ps:List Pl):Prop:=
 ∀(w:World)(cl:Nat->Option Nat)(vs:List Value),DReps (gl w cl) vs ds->
  Calls P f vs.toArray w (λ r aH=>∃v bz,r=.returned v/\Below w.heap.size w aH/\(∀k,k<w.heap.size->bz k=cl k)/\bt (gl aH bz) v (.p (.sl false n ps))/\FC w aH bz v el sz n)
theorem xJ.pure{f:FuncId}{ds:List F}{el sz n:Nat}{ps:List Pl}(h:xJ P f ds el sz n ps):aW P f ds (.p (.sl false n ps)):=λ w cl vs hv=>(h w cl vs hv).mono λ _ _⟨v,bz,u,D,K,h4,_⟩=>⟨v,bz,u,D,K,h4⟩
theorem bw.QE{e:ay}{a:Act}(L:bw Γ I e a){gn:Nat}(hg:Y I.g gn=none){el sz n k:Nat}{cur:Array Value}(nL:Γ.w0.heap.size<=k)(kV:k<e.w.heap.size)(pT:e.cl k=some (n*sz))(DP:e.gr k=none)(TM:∀b,e.bx b≠some k)(TN:e.w.heap[k]?=some (.cells cur el (0,0))):
 bw Γ ⟨I.s,I.b,(gn,⟨el,sz,n⟩)::I.g⟩ {e with gr:=λ j=>if j=k then some gn else e.gr j,gi:=λ h=>if h=gn then some ⟨el,sz,n⟩ else e.gi h} a/\Ends e {e with gr:=λ j=>if j=k then some gn else e.gr j,gi:=λ h=>if h=gn then some ⟨el,sz,n⟩ else e.gi h}:=by
 have fh:e.gi gn=none:=by rw[L.gs];exact hg
 have pd:∀k,e.gr k≠some gn:=λ k J=>by obtain⟨ak,_,h,_⟩:=L.env.gr k gn J;rw[fh] at h;cases h
 have A:Ends e {e with gr:=λ j=>if j=k then some gn else e.gr j,gi:=λ h=>if h=gn then some ⟨el,sz,n⟩ else e.gi h}:=by
  refine⟨λ _ _ _ u D=>⟨u,D⟩,λ _ _ h=>h,λ d9 ak h=>⟨ak,?_,rfl,rfl,Nat.le_refl _⟩,λ j d9 ak j0 u D K=>⟨?_,j0,K,rfl⟩⟩
  ·show(if d9=gn then _ else e.gi d9)=_;rw[if_neg (λ V=>by rw[V,fh] at h;cases h)];exact h
  ·show(if j=k then some gn else e.gr j)=_;rw[if_neg (λ V=>by rw[V,DP] at u;cases u)];exact u
 refine⟨⟨L.size,L.df,λ t d ht=>(L.bm t d ht).next A,λ b cs R=>(L.boxes b cs R).ends A rfl,L.dX,λ h=>?_,L.env.kept,L.env.cl,λ b j hj=>?_,L.env.inj,λ j d9 hj=>?_,L.env.kb⟩,A⟩
 ·show(if h=gn then _ else e.gi h)=_;simp only[cL]
  by_cases e1:h=gn
  ·subst e1;simp
  ·rw[if_neg e1,if_neg (λ V=>e1 V.symm)];exact L.gs h
 ·obtain⟨u,D,K,h4⟩:=L.env.bx b j hj;refine⟨u,D,K,?_⟩;show(if j=k then some gn else e.gr j)=none;rw[if_neg (λ V=>TM b (by rw[<-V];exact hj))];exact h4
 ·have fj:(if j=k then some gn else e.gr j)=some d9:=hj;split at fj
  ·rename_i lB;cases fj;exact⟨⟨el,sz,n⟩,cur,by show(if gn=gn then _ else _)=_;simp,by rw[lB];exact kV,.inl (by rw[lB];exact nL),by rw[lB];exact pT,by rw[lB];exact TN⟩
  ·obtain⟨ak,j0,u,D⟩:=L.env.gr j d9 fj;exact⟨ak,j0,by show(if d9=gn then _ else e.gi d9)=_;rw[if_neg (λ V=>pd j (by rw[<-V];exact fj))];exact u,D⟩
theorem bw.QD{e:ay}{a:Act}(L:bw Γ I e a){gn:Nat}(hg:Y I.g gn=none)(el sz n:Nat):
 bw Γ ⟨I.s,I.b,(gn,⟨el,sz,n⟩)::I.g⟩ {e with gi:=λ h=>if h=gn then some ⟨el,sz,n⟩ else e.gi h} a/\Ends e {e with gi:=λ h=>if h=gn then some ⟨el,sz,n⟩ else e.gi h}:=by
 have fh:e.gi gn=none:=by rw[L.gs];exact hg
 have pd:∀k,e.gr k≠some gn:=λ k J=>by obtain⟨ak,_,h,_⟩:=L.env.gr k gn J;rw[fh] at h;cases h
 have A:Ends e {e with gi:=λ h=>if h=gn then some ⟨el,sz,n⟩ else e.gi h}:=
  ⟨λ _ _ _ u D=>⟨u,D⟩,λ _ _ h=>h,λ d9 ak h=>⟨ak,by show(if d9=gn then _ else e.gi d9)=_;rw[if_neg (λ V=>by rw[V,fh] at h;cases h)];exact h,rfl,rfl,Nat.le_refl _⟩,λ _ _ _ cur u _ K=>⟨u,cur,K,rfl⟩⟩
 refine⟨⟨L.size,L.df,λ t d ht=>(L.bm t d ht).next A,λ b cs R=>(L.boxes b cs R).ends A rfl,L.dX,λ h=>?_,L.env.kept,L.env.cl,L.env.bx,L.env.inj,λ k d9 J=>?_,L.env.kb⟩,A⟩
 ·show(if h=gn then _ else e.gi h)=_;simp only[cL]
  by_cases e1:h=gn
  ·subst e1;simp
  ·rw[if_neg e1,if_neg (λ V=>e1 V.symm)];exact L.gs h
 ·obtain⟨ak,cur,u,D⟩:=L.env.gr k d9 J;exact⟨ak,cur,by show(if d9=gn then _ else e.gi d9)=_;rw[if_neg (λ V=>pd k (by rw[<-V];exact J))];exact u,D⟩
theorem CW{f:FuncId}(gn:Nat){el sz n:Nat}{ps:List Pl}{ds:List F}{xs:List Operand}{fb:Array TypeId}(hC:xJ P f ds el sz n ps)(X:o.op=.call {callee:=.value (.func f),args:=xs.toArray,argTypes:=fb})(hf:jj P f)(he:iv (Y s) xs F.low.jR=some ds)(hg:gd l0 o (Y s)=some true)(G:o.dst=some t)(M:Nat.blt t Γ.n=true)(wk:Y g gn=none)(cM:ps.length=n*sz)
 (h:bp P Γ l0 Q l ⟨(t,.aU gn n ps)::s,b,(gn,⟨el,sz,n⟩)::g⟩):bp P Γ l0 Q (o::l) ⟨s,b,g⟩:=by
 refine tR (I:=⟨s,b,g⟩) (bS:=⟨(t,.aU gn n ps)::s,b,(gn,⟨el,sz,n⟩)::g⟩) hg (λ a e L=>?_) h;have iR:=L.h1 o.op.operands;obtain⟨iK,u,D⟩:=rB (a:=a) (e:=e) xs _ ds (λ x T=>iR.1 x (by rw[X];simp[Op.operands,Call.operands,T])) he;have hv:=Iv u D;have e1:(execOp a.eval o).run P e.w=.ok (.enter f (xs.map a.eval).toArray) e.w:=by obtain⟨dst,op,type,pos,after,guard⟩:=o;simp only at X;subst X;rw[execOp_call_go,hf];simp
 unfold Oper.wp;rw[e1];refine(hC e.w e.cl _ hv).mono λ r aH hh=>?_
 obtain⟨v,bz,rfl,R,de,hr,ar,bP,rfl,qH⟩:=hh;have HD:jI e {e with w:=aH,cl:=bz}:=⟨R,λ k J=>de k J,rfl,rfl,rfl⟩;have cb:=L.grow HD;have qO:cV {e with w:=aH,cl:=bz} (.slice ar n bP) (.sl false n ps):=by cases hr with|p h=>exact cV.env (e:=gl aH bz) (V:={e with w:=aH,cl:=bz}) rfl rfl h
 have rQ:=oS (o:=o) G M;rcases qH with Hi|⟨k,cur,hA,k1,k2,k3,k4,k5⟩
 ·obtain⟨K,h4⟩:=cb.QD (gn:=gn) wk el sz n;have:=K.put rQ (v:=.slice ar n bP) (d:=.aU gn n ps) (.aU (qO.next h4) ⟨⟨el,sz,n⟩,ar,bP,by simp,rfl,Nat.le_refl _,cM,.inl Hi⟩);rw[G] at this⊢;exact⟨_,(by rfl),this⟩
 ·have q1:e.gr k=none:=by
   rcases iA:e.gr k with _|d9
   ·rfl
   ·obtain⟨_,_,_,bh,_⟩:=L.env.gr k d9 iA;omega
  have q2:∀b,e.bx b≠some k:=λ b Bk=>by have:=(L.env.bx b k Bk).1;omega
  obtain⟨K,h4⟩:=cb.QE (gn:=gn) wk (n:=n) (sz:=sz) (k:=k) (Nat.le_trans L.env.kept.size k1) k2 k3 q1 q2 k4;have:=K.put rQ (v:=.slice ar n bP) (d:=.aU gn n ps) (.aU (qO.next h4) ⟨⟨el,sz,n⟩,ar,bP,by simp,rfl,Nat.le_refl _,cM,.inr ⟨k,hA,⟨by simp,cur,k4,k5⟩⟩⟩);rw[G] at this⊢;exact⟨_,(by rfl),this⟩
def FB(t:Nat)(el sz n:Nat)(ps:List Pl):Exit->St->Prop:=λ ex I=>(ex=.normal\/ex=.ret)/\((∃g,Y I.s t=some (.aU g n ps)/\Y I.g g=some ⟨el,sz,n⟩)\/Y I.s t=some (.p (.sl true n ps)))
theorem A6{t el sz n g:Nat}{ps:List Pl}(h:Y I.s t=some (.aU g n ps))(hg:Y I.g g=some ⟨el,sz,n⟩):FB t el sz n ps .ret I:=⟨.inr rfl,.inl ⟨g,h,hg⟩⟩
theorem R4{t el sz n:Nat}{ps:List Pl}(h:Y I.s t=some (.p (.sl true n ps))):FB t el sz n ps .ret I:=⟨.inr rfl,.inr h⟩
theorem Lb{f:FuncId}{fn:Func}{c:Code}{ds:List F}{el sz m:Nat}{ps:List Pl}{t n:Nat}{s:List (Nat×F)}(hf:P.funcs[f]?=some fn)(R:fn.body=some c)(ic:fn.ntmps=n)(kY:fn.results=#[.tmp t])(hn:Nat.ble ds.length n=true)(hs:qy 0 ds some=some s)
 (h:∀w cl,aJ P ⟨n,w,cl,λ _=>False,[],[]⟩ c (FB t el sz m ps) ⟨s,[],[]⟩):xJ P f ds el sz m ps:=by
 subst ic;rw[yl] at hs;cases hs;have hn:=Nat.le_of_ble_eq_true hn;intro w cl vs hv;refine calls_of_wp hf R ?_;have M:vs.length=ds.length:=hv.1;have L:bw ⟨fn.ntmps,w,cl,λ _=>False,[],[]⟩ ⟨sG.go 0 ds,[],[]⟩ (gl w cl) {tmps:=vs.toArray++Array.replicate (fn.ntmps-vs.toArray.size) undef,defers:=[]}:=by
  refine⟨by simp;omega,rfl,λ t d0 ht=>?_,λ b cs R=>(by cases R),λ b _=>rfl,λ g=>rfl,⟨mZ.refl _ _,λ _ _ _=>rfl,λ b k J=>(by cases J),λ b c k J=>(by cases J),λ k g J=>(by cases J),λ b k J=>(by cases J)⟩⟩;obtain⟨_,D⟩:=AZ ds 0 t d0 ht;simp only[Nat.sub_zero] at D;obtain⟨v,K,h4⟩:=hv.get D;have gq:t<vs.length:=(List.getElem?_eq_some_iff.1 K).1;have:fK {tmps:=vs.toArray++Array.replicate (fn.ntmps-vs.toArray.size) undef,defers:=[]} t=v:=by
   unfold fK;simp only[Array.getD_eq_getD_getElem?];rw[Array.getElem?_append_left (by simpa using gq),List.getElem?_toArray,K]
   rfl
  rw[this];exact h4
 refine Code.wp_mono (λ ex bu aH hh=>?_) ((h w cl).run _ (gl w cl) L);obtain⟨bS,V,rfl,D,K,h4⟩:=hh;have Hf:Below w.heap.size w V.w:=⟨D.env.kept.os,D.env.kept.tape,D.env.kept.output,D.env.kept.size,λ k J=>D.env.kept.block k J (λ h=>h)⟩;have HX:(results fn bu.tmps).run P V.w=.ok (fK bu t) V.w:=by rw[zZ,kY];simp[Cv,fK]
 have hv:bt (gl V.w V.cl) (fK bu t) (.p (.sl false m ps))/\FC w V.w V.cl (fK bu t) el sz m:=by
  rcases h4 with⟨g,h5,h6⟩|h5
  ·have h7:=D.bm t _ h5;generalize fK bu t=v at h7;cases h7 with
   |aU hp ht=>obtain⟨ak,ar,bP,g1,g2,g3,g4,g5⟩:=ht;rw[D.gs,h6] at g1;cases g1;refine⟨.p (cV.env (e:=V) (V:=gl V.w V.cl) rfl rfl hp),ar,bP,g2,g5.imp id ?_⟩;rintro⟨k,rfl,q1,cur,q2,q3⟩;obtain⟨lO,j0,r1,r2,r3,r4,r5⟩:=D.env.gr k g q1;rw[D.gs,h6] at r1;cases r1;exact⟨k,cur,rfl,r3.elim id (λ hh=>hh.elim),r2,r4,q2,q3⟩
  ·have h7:=D.bm t _ h5;generalize fK bu t=v at h7;cases h7 with
   |p hp=>refine⟨.p (cV.env (e:=V) (V:=gl V.w V.cl) rfl rfl hp.low),?_⟩;obtain⟨ar,bP,g1,_,_,_,g5,_⟩:=pu hp;exact⟨ar,bP,g1,.inl (g5 rfl)⟩
 have j5:bu.defers=[]/\∃v,(results fn bu.tmps).run P V.w=.ok v V.w/\∃jh bz,Ending.returned v=.returned jh/\Below w.heap.size w V.w/\(∀k,k<w.heap.size->bz k=cl k)/\bt (gl V.w bz) jh (.p (.sl false m ps))/\FC w V.w bz jh el sz m:=
  ⟨D.df,_,HX,_,V.cl,rfl,Hf,λ k J=>D.env.cl k J (λ h=>h),hv.1,hv.2⟩
 rcases K with rfl|rfl
 ·exact j5
 ·exact j5
end
end Go.Proofs.YtcnefjfboagbmaaGreat
end
section
namespace Go.Proofs.YtcnefjfboagbmaaGreat
open Go.Proofs.Tryz
open Go.RowKit
section
variable{P:Program}{ah:Nat->Option TI}{S:Nat->Option F}{B:Nat->Option (List F)}{o:Oper}
theorem yV(hT:cR P ah){t el:TypeId}{x y:Operand}{n:Nat}{ps qs:List Pl}{k:IntKind}{i:Int}{z1 z2:Nat}{z3:Value}{j:TI}(X:o.op=.indexAddr t x y)(ht:ah t=some ⟨.array n el,z1,z2,z3⟩)(he:ah el=some j)
 (T:ev S x=some (.el ps))(hy:ev S y=some (.p (.raw (.int k i))))(h0:0<=i)(bh:i<n)(hq:j2 (i.toNat*j.sz) ps some=some qs):dm P o S B (.el qs) none:=by
 refine hZ λ a e hs=>?_
 have u:=hs.1 x (by rw[X];simp[Op.operands]) _ T;have D:=cE (hs.1 y (by rw[X];simp[Op.operands]) _ hy);obtain⟨bJ,bg⟩:=my hq;cases bg;generalize hv:a.eval x=vx at u;cases u with
 |el R=>
  rename_i kk of;obtain⟨d0,dI,J⟩:=hT.desc t _ ht;cases d0<;>simp only[jg,reduceCtorEq,TK.array.injEq] at J
  rw[J.1,J.2] at dI;refine⟨.pointer (some ⟨kk,of+i.toNat*j.sz,none⟩),?_,.el (R.part _ λ m q hm=>by rw[List.getElem?_drop] at hm;exact hm)⟩;obtain⟨dst,op,type,pos,after,guard⟩:=o;simp only at X;subst X;simp[execOp,Instr.indexAt,Instr.sureAddr,D,hv,asIntOf,run_underlying dI,h0,bh,run_sizeOf hT he,qq]
theorem ED{x y:Operand}{fb:Array TypeId}{a b:Int}(X:o.op=.call {callee:=.builtin .max,args:=#[x,y],argTypes:=fb})(T:ev S x=some (z a))(hy:ev S y=some (z b)):dm P o S B (z (if b>a then b else a)) none:=by
 refine hZ λ ac e hs=>?_
 have bV:=cE (hs.1 x (by rw[X];simp[Op.operands,Call.operands]) _ T);have eR:=cE (hs.1 y (by rw[X];simp[Op.operands,Call.operands]) _ hy);refine⟨_,?_,.p (.raw _)⟩;obtain⟨dst,op,type,pos,after,guard⟩:=o;simp only at X;subst X;simp only[execOp,resolve,invoke,builtin,Sem.run_bind,Sem.run_pure,Result.andThen_ok,List.map_toArray,List.map_cons,List.map_nil,bV,eR,run_max_int2]
end
end Go.Proofs.YtcnefjfboagbmaaGreat
end
section
namespace Go.Proofs.YtcnefjfboagbmaaGreat
open Go.Proofs.Tryz
open Go.RowKit
section
variable{P:Program}{ah:Nat->Option TI}
inductive AA:FrameMode->Value->FrameMode->Prop where
 |no:AA .returning .nilIface .returning
 |yes (v:Value):AA (.panicking [pe v]) v (.panicking [{v:=v,recovered:=true}])
theorem AA.Sh{aa oJ:FrameMode}{v:Value}(h:AA aa v oJ)(c:Frame)(cs:List Frame)(hu:c.mode=aa):(recoverD (c::cs)=none/\v=.nilIface/\oJ=aa)\/recoverD (c::cs)=some (v,{c with mode:=oJ}::cs):=by
 cases h with
 |no=>left;simp[recoverD,hu]
 |yes v=>right;simp[recoverD,hu]
theorem uU{f:FuncId}{fn:Func}{id:Nat}{o:Oper}{c:Code}{ds:List F}{aX:List Nat}{O:bH}{aE:bH->Prop}{n t:Nat}{s:List (Nat×F)}(hf:P.funcs[f]?=some fn)(R:fn.body=some (.seq (.region id #[o] false) c))(ic:fn.ntmps=n)(kY:fn.results.toList=[])(hn:Nat.ble ds.length n=true)(hs:qy 0 ds some=some s)(ni:jJ O aX)
 (X:∀(a:Act)(w:World),(execOp a.eval o).run P w=.ok .recover w)(hw:∀ts,Region.wanted o (yielded #[o] ts)=true)(iz:o.dst=some t)(M:Nat.blt t n=true){aa oJ:FrameMode}{v:Value}(hr:AA aa v oJ)
 (h:∀w cl own kf,aJ P ⟨n,w,cl,own,k8 kf aX,[]⟩ c (As ah [] aX λ _ ag=>aE ag) ⟨(t,.p (.raw v))::s,O,[]⟩){e:ay}{vs:List Value}(hI:fG O e)(hv:DReps e vs ds):
 CallsD P f vs.toArray aa e.w λ r u2 aH=>∃V ag,r=.returned (.tuple #[])/\u2=oJ/\V.w=aH/\fG ag V/\Left aX e V/\aE ag:=by
 subst ic;rw[yl] at hs;cases hs;have hn:=Nat.le_of_ble_eq_true hn;refine callsD_of_wpS hf R λ vM cs hu=>?_
 have L:=tg (fn:=fn) (f:=f) (aX:=aX) [] hn ni hI hv rfl;have cb:bw _ ⟨(t,.p (.raw v))::sG.go 0 ds,O,[]⟩ e _:=L.put (dst:=some t) (show Nat.blt t _=true from M) (bt.p (cV.raw v));have wz:∀aO,aO={vM with mode:=oJ}::cs->c.wpS P (bodyPostS P fn vM cs λ r u2 aH=>∃V ag,r=.returned (.tuple #[])/\u2=oJ/\V.w=aH/\fG ag V/\Left aX e V/\aE ag) (({tmps:=vs.toArray++Array.replicate (fn.ntmps-vs.toArray.size) undef,defers:=[]}:Act).put (some t) v) aO e.w:=by
  rintro aO rfl;refine wpS_of_wp (Code.wp_mono (λ ex bu aH hh=>?_) ((h e.w e.cl _ _).run _ e cb));obtain⟨bS,V,rfl,D,K,d,ag,h4,h5,h6,h7,h8⟩:=hh;have HX:(results fn bu.tmps).run P V.w=.ok (.tuple #[]) V.w:=by
   have:fn.results=#[]:=by cases qH:fn.results;rw[qH] at kY;simp at kY;rw[kY]
   rw[zZ,this];simp
  have j5:bu.defers=[]/\∃u2,({vM with mode:=oJ}::cs:List Frame)={vM with mode:=u2}::cs/\∃vv,(results fn bu.tmps).run P V.w=.ok vv V.w/\∃mz Kr,Ending.returned vv=.returned (.tuple #[])/\u2=oJ/\mz.w=V.w/\fG Kr mz/\Left aX e mz/\aE Kr:=
   ⟨D.df,oJ,rfl,_,HX,V.cut (aC ag) λ _=>false,ag,rfl,rfl,rfl,kB D h6,imp_left hI ni D h7,h8⟩
  rcases K with rfl|rfl
  ·exact j5
  ·exact j5
 refine wpS_seq (wpS_region ?_);show wpOpsS P #[o] _ [0] _ _ _;have cr:({vM with mode:=aa}:Frame)=vM:=by rw[<-hu]
 simp only[wpOpsS,List.getElem?_toArray,List.getElem?_cons_zero,hw,if_true,X];rcases hr.Sh vM cs hu with⟨q1,q2,q3⟩|q1
 ·rw[q1];subst q2;subst q3;show Code.wpS P c _ _ _ _;rw[iz];exact wz _ (by rw[cr])
 ·rw[q1];show Code.wpS P c _ _ _ _;rw[iz];exact wz _ rfl
end
end Go.Proofs.YtcnefjfboagbmaaGreat
end
section
namespace Go.Proofs.YtcnefjfboagbmaaGreat
open Go.Proofs.Tryz
open Go.RowKit
section
variable{P:Program}{ah:Nat->Option TI}{Γ:bE}{s U:List (Nat×F)}{b bj:bH}{g:List (Nat×Gr)}
theorem Ao{id:Nat}{o1 o2:Oper}{I:St}{e:ay}{a:Act}{fc:FuncId}{xs:List Operand}{ru:List F}{t:Nat}{fb:Array TypeId}(L:bw Γ I e a)(u:o1.op=.makeFunc (.func fc) #[] xs.toArray)(g1:gd [o1,o2] o1 (Y I.s)=some true)(d1:o1.dst=some t)(l1:Nat.blt t Γ.n=true)(he:iv (Y I.s) xs some=some ru)
 (D:o2.op=.defer {callee:=.value (.tmp t),args:=#[],argTypes:=fb})(g2:gd [o1,o2] o2 (Y (I.put (some t) (.fn (.func fc) [] ru)).s)=some true)(d2:o2.dst=none){Q:Exit->Act->World->Prop}
 (MX:List (Nat×Nat))(TP:∀b k,Y MX b=some k->e.bx b=some k)
 (h:∀(bu:Act)(cC:List Value),DReps e cC ru->bw {Γ with kb:=MX,dg:={target:=.fn (.func fc) cC.toArray,args:=#[]}::Γ.dg} (I.put (some t) (.fn (.func fc) [] ru)) e bu->Q .normal bu e.w):(Code.region id #[o1,o2] false).wp P Q a e.w:=by
 have iR:=L.h1 o1.op.operands;have hv:=A5 (a:=a) (e:=e) xs (λ x T=>iR.1 x (by rw[u];simp[Op.operands,T])) he;have G:bt e (.func (.func fc) #[] (xs.map a.eval).toArray) (.fn (.func fc) [] ru):=.fn (us:=[]) rfl hv.1 (λ i v d h=>by simp at h) hv.2;have cb:bw Γ (I.put (some t) (.fn (.func fc) [] ru)) e (a.put (some t) (.func (.func fc) #[] (xs.map a.eval).toArray)):=L.put (dst:=some t) (show Nat.blt t _=true from l1) G;refine wp_region_lit (l:=[o1,o2]) ?_;unfold wpList;rw[if_pos (kS L g1)];refine .inl ?_;have e1:(execOp a.eval o1).run P e.w=.ok (.value (.func (.func fc) #[] (xs.map a.eval).toArray)) e.w:=by obtain⟨dst,op,type,pos,after,guard⟩:=o1;simp only at u;subst u;simp[execOp,Instr.makeFunc]
 unfold Oper.wp;rw[e1,Oper.upon_value,d1];unfold wpList;rw[if_pos (kS cb g2)];refine .inl ?_;have ht:(a.put (some t) (.func (.func fc) #[] (xs.map a.eval).toArray)).eval (.tmp t)=.func (.func fc) #[] (xs.map a.eval).toArray:=by have hs:fK (a.put (some t) (.func (.func fc) #[] (xs.map a.eval).toArray)) t=_:=CI (by rw[L.size];simpa[Nat.blt_eq] using l1);exact hs
 have e2:(execOp (a.put (some t) (.func (.func fc) #[] (xs.map a.eval).toArray)).eval o2).run P e.w=.ok (.defer {target:=.fn (.func fc) (xs.map a.eval).toArray,args:=#[]}) e.w:=by obtain⟨dst,op,type,pos,after,guard⟩:=o2;simp only at D;subst D;simp[execOp,resolve,ht,Deferred.ofValue]
 unfold Oper.wp;rw[e2,Oper.upon_defer,d2];refine h _ (xs.map a.eval) hv ?_;refine⟨cb.size,?_,cb.bm,cb.boxes,cb.dX,cb.gs,⟨cb.env.kept,cb.env.cl,cb.env.bx,cb.env.inj,cb.env.gr,TP⟩⟩;show _::(a.put (some t) _).defers=_::Γ.dg;rw[cb.df]
theorem pF{I:St}(nm:Nat){cs aO:List F}(R:Y I.b nm=some cs)(G:cs.map (λ _=>F.any)=aO):bF Γ I ⟨I.s,(nm,aO)::I.b,I.g⟩:=by
 intro a e L;refine⟨e,rfl,L.size,L.df,L.bm,λ aa c hu=>?_,λ aa hu=>?_,L.gs,L.env⟩
 ·simp only[cL] at hu;split at hu
  ·rename_i kG;subst kG;cases hu;obtain⟨k,vs,el,u,D,K,h4⟩:=L.boxes _ _ R;refine⟨k,vs,el,u,D,by rw[<-G,List.length_map];exact K,λ i v d hv iz=>?_⟩;rw[<-G,List.getElem?_map] at iz;cases cr:cs[i]? with
   |none=>rw[cr] at iz;cases iz
   |some x=>rw[cr] at iz;cases iz;exact .any
  ·exact L.boxes aa c hu
 ·simp only[cL] at hu;split at hu
  ·cases hu
  ·exact L.dX aa hu
theorem eE{e V:ay}{v:Value}{nm o k:Nat}(h:bt e v (.ptr nm o))(u:e.bx nm=some k)(D:V.bx nm=some k):bt V v (.ptr nm o):=by
 cases h with
 |ptr J=>rw[u] at J;cases J;exact .ptr D
theorem p3{fn:Func}{e:ay}{a:Act}(L:bw Γ ⟨s,b,g⟩ e a){fc:FuncId}{cC:List Value}{ru:List F}{qt:bH}{Eo:List Nat}{aE:bH->Prop}{aa oJ:FrameMode}{Rf:Ending->World->Prop}(hf:jj P fc)(cS:DReps e cC ru)(aR:F.ok.ec (aC qt) (λ _=>false) ru=true)(hs:i3 ⟨s,b,g⟩ (aC qt) qt)(dv:qn Eo qt Γ.kb)
 (fV:kA (λ b=>!aC qt b||gJ Eo b) s (λ U=>kQ (aC qt) (λ b=>!aC qt b||gJ Eo b) b (λ bj=>some (U,bj)))=some (U,bj))(hu:aa≠.run)(tc:settle oJ=.returning)
 (de:∀(e0:ay)(vs:List Value),fG qt e0->DReps e0 vs ru->CallsD P fc vs.toArray aa e0.w λ r u2 aH=>∃V ag,r=.returned (.tuple #[])/\u2=oJ/\V.w=aH/\fG ag V/\Left Eo e0 V/\aE ag)(dh:∀ag,aE ag->jH qt b ag)
 (j5:∀ag V,aE ag->bw Γ ⟨U,ag++bj,g⟩ V a->∃v,(results fn a.tmps).run P V.w=.ok v V.w/\Rf (.returned v) V.w):
 Leaves P fn a.tmps Rf [{target:=.fn (.func fc) cC.toArray,args:=#[]}] aa e.w:=by
 rw[sD,sC] at fV;cases fV;refine leaves_cons (f:=fc) (args:=cC.toArray) hu ?_ ?_
 ·simp only[invoke];rw[hf];simp
 ·refine(de (e.cut (aC qt) λ _=>false) cC (kB L hs) ⟨cS.1,λ i v d u D=>(cS.2 i v d u D).cut (pp aR D)⟩).mono λ r u2 aH hh=>?_
  obtain⟨V,ag,rfl,rfl,rfl,hI,hL,hR⟩:=hh;obtain⟨u,_⟩:=L.after hI hL (λ n hn=>(dh ag hR).get hn) (λ n k u D=>dv.get u D);show Leaves P fn a.tmps Rf [] (settle u2) V.w;rw[tc];exact j5 ag (e.after V qt ag) hR u
end
end Go.Proofs.YtcnefjfboagbmaaGreat
end
section
namespace Go.Proofs.YtcnefjfboagbmaaGreat
open Go.Proofs.Tryz
open Go.RowKit
section
variable{P:Program}{ah:Nat->Option TI}{S:Nat->Option F}{B:Nat->Option (List F)}{o:Oper}
theorem Ej{ty aa:TypeId}{ms:Array (String×TypeId)}{x:Operand}(hu:P.underlying ty=some (.interface ms))(X:o.op=.binOp .eql ty x (.const .nilIface) aa)(T:ev S x=some (.p (.raw .nilIface))):dm P o S B (dB true) none:=by
 refine hZ λ ac e hs=>?_
 have bV:=cE (hs.1 x (by rw[X];simp[Op.operands]) _ T);refine⟨.bool true,?_,.p (.raw _)⟩;obtain⟨dst,op,type,pos,after,guard⟩:=o;simp only at X;subst X;have he:(Op.equal ty .nilIface .nilIface).run P e.w=.ok true e.w:=by
  show(Op.equalIn (9999+1) ty _ _).run P e.w=_;rw[Op.equalIn];simp only[Sem.run_bind,run_underlying hu,Result.andThen_ok]
  rfl
 have L:ac.eval (.const .nilIface)=.nilIface:=rfl;simp[execOp,bV,L,eqGuard,binOp,he]
theorem Ek{ty aa t0:TypeId}{v:Value}{ms:Array (String×TypeId)}{x:Operand}(hu:P.underlying ty=some (.interface ms))(X:o.op=.binOp .eql ty x (.const .nilIface) aa)(T:ev S x=some (.p (.raw (.iface t0 v)))):dm P o S B (dB false) none:=by
 refine hZ λ ac e hs=>?_
 have bV:=cE (hs.1 x (by rw[X];simp[Op.operands]) _ T);refine⟨.bool false,?_,.p (.raw _)⟩;obtain⟨dst,op,type,pos,after,guard⟩:=o;simp only at X;subst X;have he:(Op.equal ty (.iface t0 v) .nilIface).run P e.w=.ok false e.w:=by
  show(Op.equalIn (9999+1) ty _ _).run P e.w=_;rw[Op.equalIn];simp only[Sem.run_bind,run_underlying hu,Result.andThen_ok]
  rfl
 have L:ac.eval (.const .nilIface)=.nilIface:=rfl;simp[execOp,bV,L,eqGuard,binOp,he]
def Gz:Value->F
 |.agg cs=>.agg (cs.toList.map λ v=>.p (.raw v))
 |v=>.p (.raw v)
theorem RF(e:ay)(v:Value):bt e v (Gz v):=by
 unfold Gz;split
 ·rename_i cs;have:bt e (.agg cs.toList.toArray) (.agg (cs.toList.map λ v=>.p (.raw v))):=.agg (by simp) (λ i v d u D=>by
   rw[List.getElem?_map,u] at D;cases D;exact .p (.raw v))
  simpa using this
 ·exact .p (.raw _)
theorem C0(hT:cR P ah){ty xt:TypeId}{v:Value}{x:Operand}{i:TI}(X:o.op=.typeAssert x xt ty true)(ht:ah ty=some i)(J:i.k.known=true)(T:ev S x=some (.p (.raw (.iface ty v)))):dm P o S B (.bc [Gz v,dB true]) none:=by
 refine hZ λ ac e hs=>?_
 have bV:=cE (hs.1 x (by rw[X];simp[Op.operands]) _ T);obtain⟨dd,u,D⟩:=M4 hT ht J;refine⟨.tuple #[v,.bool true],?_,.bc (vs:=[v,.bool true]) rfl ?_⟩
 ·obtain⟨dst,op,type,pos,after,guard⟩:=o;simp only at X;subst X;simp only[execOp,Instr.typeAssert,Sem.run_bind,run_underlying u,Result.andThen_ok,bV];cases dd with
  |interface ms=>exact absurd rfl (D ms)
  |_=>simp
 ·intro i w d hw G
  match i,hw,G with
  |0,hw,G=>cases hw;cases G;exact RF e v
  |1,hw,G=>cases hw;cases G;exact .p (.raw _)
end
end Go.Proofs.YtcnefjfboagbmaaGreat
end
section
namespace Go.Proofs.YtcnefjfboagbmaaGreat
open Go.Proofs.Tryz
open Go.RowKit
section
variable{P:Program}{ah:Nat->Option TI}{Γ:bE}{S:Nat->Option F}{B:Nat->Option (List F)}{o:Oper}{l0 l:List Oper}{Q:Exit->St->Prop}
variable{s:List (Nat×F)}{b:List (Nat×List F)}{g:List (Nat×Gr)}{t:Nat}
theorem JK{aq dP:Type}:∀(ds rest:List dP)(k:List dP->Option aq),lm ds.length (ds++rest) k=k ds
 |[],rest,k=>rfl
 |x::ds,rest,k=>by
  show lm ds.length (ds++rest) (λ r=>k (x::r))=_;rw[JK ds rest]
theorem Va(hT:cR P ah){ty el:TypeId}{n z1 z2:Nat}{z3:Value}{j:TI}{x y:Operand}{ds:List F}{k:IntKind}{i:Int}(qs:List F)(X:o.op=.index ty x y)(ht:ah ty=some ⟨.array n el,z1,z2,z3⟩)(he:ah el=some j)(nH:j.k.agg=true)(T:ev S x=some (.agg ds))(hy:ev S y=some (.p (.raw (.int k i))))(h0:0<=i)(bh:i<n)(G:(ds.drop (i.toNat*j.sz)).take j.sz=qs):dm P o S B (.agg qs) none:=by
 refine hZ λ a e hs=>?_
 have u:=hs.1 x (by rw[X];simp[Op.operands]) _ T;have D:=cE (hs.1 y (by rw[X];simp[Op.operands]) _ hy);generalize dj:a.eval x=vx at u;cases u with
 |agg M hh=>
  rename_i vs;obtain⟨d0,dI,J⟩:=hT.desc ty _ ht;cases d0<;>simp only[jg,reduceCtorEq,TK.array.injEq] at J
  rw[J.1,J.2] at dI;have hr:=(DReps.drop ⟨M,hh⟩ (i.toNat*j.sz)).take j.sz;rw[G] at hr;refine⟨.agg ((vs.drop (i.toNat*j.sz)).take j.sz).toArray,?_,.agg hr.1 hr.2⟩;obtain⟨dst,op,type,pos,after,guard⟩:=o;simp only at X;subst X;simp[execOp,dj,D,Instr.index,asIntOf,run_underlying dI,h0,bh,run_sizeOf hT he,part,CB hT he,nH,List.extract_eq_take_drop]
theorem lF(hT:cR P ah){ty:TypeId}{x:Operand}{i:TI}{b of:Nat}{cs:List F}(ds rest:List F)(X:o.op=.load ty x)(ht:ah ty=some i)(nH:i.k.agg=true)(T:ev S x=some (.ptr b of))(R:B b=some cs)(ig:of<=cs.length)(G:cs.drop of=ds++rest)(M:ds.length=i.sz):dm P o S B (.agg ds) none:=by refine rn hT ?_;rw[X];simp only[ax,ht,T,R];rw[AV of cs _ ig,G];simp only[wT,nH,cond_true,<-M];rw[JK]
theorem F7(hT:cR P ah){ty:TypeId}{x y:Operand}{nm of:Nat}{cs:List F}{ds:List F}{i:TI}(aO:List F)(X:o.op=.store ty x y)(G:o.dst=none)(ht:ah ty=some i)(T:ev (Y s) x=some (.ptr nm of))(R:Y b nm=some cs)(hy:ev (Y s) y=some (.agg ds))
 (M:ds.all F.leaf=true)(hs:ds.length=i.sz)(hg:gd l0 o (Y s)=some true)(ig:of+ds.length<=cs.length)(cr:stored cs of ds=aO)(h:bp P Γ l0 Q l ⟨s,(nm,aO)::b,g⟩):bp P Γ l0 Q (o::l) ⟨s,b,g⟩:=by
 subst cr;have td:=JF (P:=P) (Γ:=Γ) (I:=⟨s,b,g⟩) hT X G ht T R hy M hs (by first|exact ig|(show _<=_;simp only[F.cells];omega)|omega);exact tR (I:=⟨s,b,g⟩) hg td h
theorem OG(a:Nat):∀m:Nat,List.range (a+m)=List.range a++(List.range m).map (a+·)
 |0=>by simp
 |m+1=>by
  rw[show a+(m+1)=(a+m)+1 by omega,List.range_succ,OG a m,List.range_succ,List.map_append,List.append_assoc]
  rfl
theorem Nu(aT:Array Value)(hz:0<aT.size):∀n:Nat,(List.range (n*aT.size)).map (λ j=>aT[j%aT.size]!)=(List.replicate n aT.toList).flatten
 |0=>by simp
 |n+1=>by
  rw[show(n+1)*aT.size=aT.size+n*aT.size by rw[Nat.add_mul];omega,OG,List.map_append,List.map_map,List.replicate_succ,List.flatten_cons,<-Nu aT hz n]
  congr 1
  ·apply List.ext_getElem
   ·simp
   ·intro j u D;simp only[List.length_map,List.length_range] at u;simp[Nat.mod_eq_of_lt u,u]
  ·apply List.map_congr_left;intro j _;simp[Function.comp]
theorem B9(hT:cR P ah)(nm:Nat){ty el:TypeId}{z1 z2:Nat}{z3:Value}{i:TI}{x y:Operand}{k jb:IntKind}{n m:Int}{c:Nat}(cs:List F)(X:o.op=.makeSlice ty x y)(ht:ah ty=some ⟨.slice el,z1,z2,z3⟩)(dR:ah el=some i)(gI:Nat.beq i.zero.cells.size i.sz=true)(nT:Nat.blt 0 i.sz=true)
 (T:ev S x=some (.p (.raw (.int k n))))(hy:ev S y=some (.p (.raw (.int jb m))))(hn:n=c)(hm:m=c)(R:c*i.bytes<=140737488355328)(fM:c<=maxLen)(cr:(List.replicate c (i.zero.cells.toList.map oo)).flatten=cs):dm P o S B (.arr nm 0 c c) (some (nm,cs)):=by
 subst hn;subst hm;subst cr;intro a e hs fy;have u:=cE (hs.1 x (by rw[X];simp[Op.operands]) _ T);have D:=cE (hs.1 y (by rw[X];simp[Op.operands]) _ hy);obtain⟨d0,dI,J⟩:=hT.desc ty _ ht;cases d0<;>simp only[jg,reduceCtorEq,TK.slice.injEq] at J
 rw[J] at dI;obtain⟨fN,lY,bT,fU,hz⟩:=hT.info _ i dR;have U0:=Nat.eq_of_beq_eq_true gI;have aas:0<i.sz:=by simpa[Nat.blt_eq] using nT
 have Hh:(fN.bytes:Int)*(c:Int)<=281474976710656:=by
  have:((c*i.bytes:Nat):Int)<=140737488355328:=by omega
  rw[Int.natCast_mul,Int.mul_comm] at this;rw[fU];omega
 have cG:=run_make (P:=P) e.w ty el fN i.zero dI lY hz k jb c c (Int.natCast_nonneg c) (by omega) Hh (by unfold maxLen at fM;omega);have T7:madeCells i.zero.cells (c*i.sz)=(List.replicate c i.zero.cells.toList).flatten.toArray:=by rw[<-Nu i.zero.cells (by omega) c,<-U0];apply Array.ext';simp[madeCells]
 rw[Int.toNat_natCast,bT,T7] at cG;unfold Oper.wp;have e1:(execOp a.eval o).run P e.w=.ok (.value (.slice (some ⟨e.w.heap.size,0,none⟩) c c)) (e.w.alloc (.cells (List.replicate c i.zero.cells.toList).flatten.toArray el)):=by obtain⟨dst,op,type,pos,after,guard⟩:=o;simp only at X;subst X;simp[execOp,u,D,cG]
 rw[e1];have hg:=ay.sr e (.cells (List.replicate c i.zero.cells.toList).flatten.toArray el) (some 0);have iw:(e.alloc (.cells (List.replicate c i.zero.cells.toList).flatten.toArray el) (some 0)).bx nm=none:=by rw[hg.bx];exact fy _ rfl
 refine⟨_,(e.alloc (.cells (List.replicate c i.zero.cells.toList).flatten.toArray el) (some 0)).ip nm e.w.heap.size,rfl,rfl,_,e.w.heap.size,hg,Nat.le_refl _,by simp[ay.alloc],by simp[ay.alloc],rfl,⟨e.w.heap.size,(List.replicate c i.zero.cells.toList).flatten,el,by simp[ay.ip],heap_alloc_new e.w _,?_⟩,.arr (by simp[ay.ip])⟩;have DW:(List.replicate c (i.zero.cells.toList.map oo)).flatten=((List.replicate c i.zero.cells.toList).flatten).map oo:=by rw[List.map_flatten,List.map_replicate]
 rw[DW];refine⟨by simp,λ j v d hv G=>?_⟩;rw[List.getElem?_map,hv] at G;cases G;exact De _ _
end
end Go.Proofs.YtcnefjfboagbmaaGreat
end
section
namespace Go.Proofs.YtcnefjfboagbmaaGreat
open Go.Proofs.Tryz
open Go.RowKit
def CU(E:Array MapEntry)(es:List Int):Prop:=E.toList.map (λ x=>(x.key,x.val))=es.map (λ n=>(Value.int .i64 n,Value.bool true))
theorem GH:∀(E:List MapEntry)(es:List Int)(n:Int)(i:Nat),E.map (λ x=>(x.key,x.val))=es.map (λ n=>(Value.int .i64 n,Value.bool true))->
 (n∉es/\Instr.findNow (.int .i64) (.int .i64 n) E i=some none)\/(n∈es/\∃j,Instr.findNow (.int .i64) (.int .i64 n) E i=some (some (j,.bool true)))
 |[],[],n,i,_=>.inl ⟨by simp,rfl⟩
 |[],_::_,n,i,h=>by simp at h
 |_::_,[],n,i,h=>by simp at h
 |x::E,m::es,n,i,h=>by
  simp only[List.map_cons,List.cons.injEq,Prod.mk.injEq] at h;obtain⟨⟨u,D⟩,K⟩:=h
  by_cases hn:n=m
  ·subst hn;exact .inr ⟨by simp,i,by simp[Instr.findNow,Instr.sameNow,u,D]⟩
  ·have hs:Instr.sameNow (.int .i64) (.int .i64 n) x.key=some false:=by
    rw[u];simp[Instr.sameNow,hn]
   rcases GH E es n (i+1) K with⟨h4,h5⟩|⟨h4,j,h5⟩
   ·exact .inl ⟨by simp[hn,h4],by simp[Instr.findNow,hs,h5]⟩
   ·exact .inr ⟨by simp[h4],j,by simp[Instr.findNow,hs,h5]⟩
structure mY(Γ ep:bE)(r:Nat)(es:List Int):Prop where
 kept:mZ Γ.own Γ.w0 ep.w0
 cl:∀k,k<Γ.w0.heap.size->¬Γ.own k->ep.jZ k=Γ.jZ k
 own:∀k,ep.own k->Γ.own k\/Γ.w0.heap.size<=k
 obj:∃E ck,ep.w0.heap[r]?=some (.map E ck)/\CU E es
 nr:¬ep.own r
 base:Γ.w0.heap.size<=r
section
variable{P:Program}{ah:Nat->Option TI}{n:Nat}{w0:World}{jZ:Nat->Option Nat}{own:Nat->Prop}{kb:List (Nat×Nat)}{dg:List Deferred}{r:Nat}
theorem mY.back{aH:World}{bz:Nat->Option Nat}{bZ:Nat->Prop}{es:List Int}(h:mY ⟨n,w0,jZ,own,kb,dg⟩ ⟨n,aH,bz,bZ,kb,dg⟩ r es){e:ay}(he:gx ⟨n,aH,bz,bZ,kb,dg⟩ e):gx ⟨n,w0,jZ,own,kb,dg⟩ e:=by
 have ie:∀k,k<w0.heap.size->¬own k->¬bZ k:=λ k J X gZ=>by
  rcases h.own k gZ with u|u
  ·exact X u
  ·exact absurd u (by simp only;omega)
 have bT:=h.kept.size;simp only at bT;have nP:∀k,aH.heap.size<=k\/bZ k->w0.heap.size<=k\/own k:=λ k J=>by
  rcases J with J|J
  ·exact .inl (Nat.le_trans bT J)
  ·exact(h.own k J).symm
 refine⟨⟨he.kept.os.trans h.kept.os,he.kept.tape.trans h.kept.tape,he.kept.output.trans h.kept.output,Nat.le_trans bT he.kept.size,λ k J X=>?_⟩,λ k J X=>?_,λ b k R=>?_,he.inj,λ k g hg=>?_,he.kb⟩
 ·exact(he.kept.block k (Nat.lt_of_lt_of_le J bT) (ie k J X)).trans (h.kept.block k J X)
 ·exact(he.cl k (Nat.lt_of_lt_of_le J bT) (ie k J X)).trans (h.cl k J X)
 ·obtain⟨u,D,K⟩:=he.bx b k R;exact⟨u,nP k D,K⟩
 ·obtain⟨ak,cur,u,D,K,h4⟩:=he.gr k g hg;exact⟨ak,cur,u,D,nP k K,h4⟩
theorem mY.om{aH:World}{bz:Nat->Option Nat}{bZ:Nat->Prop}{es:List Int}(h:mY ⟨n,w0,jZ,own,kb,dg⟩ ⟨n,aH,bz,bZ,kb,dg⟩ r es){I:St}{e:ay}{a:Act}(L:bw ⟨n,aH,bz,bZ,kb,dg⟩ I e a):bw ⟨n,w0,jZ,own,kb,dg⟩ I e a:=
 ⟨L.size,L.df,L.bm,L.boxes,L.dX,L.gs,h.back L.env⟩
theorem mY.now{aH:World}{bz:Nat->Option Nat}{bZ:Nat->Prop}{es:List Int}(h:mY ⟨n,w0,jZ,own,kb,dg⟩ ⟨n,aH,bz,bZ,kb,dg⟩ r es){e:ay}(he:gx ⟨n,aH,bz,bZ,kb,dg⟩ e):∃E ck,e.w.heap[r]?=some (.map E ck)/\CU E es:=by obtain⟨E,ck,u,D⟩:=h.obj;have hr:r<aH.heap.size:=qG u;exact⟨E,ck,(he.kept.block r hr h.nr).trans u,D⟩
theorem mY.next{aH:World}{bz:Nat->Option Nat}{bZ:Nat->Prop}{es A4:List Int}(h:mY ⟨n,w0,jZ,own,kb,dg⟩ ⟨n,aH,bz,bZ,kb,dg⟩ r es){I:St}{e:ay}{a:Act}(L:bw ⟨n,aH,bz,bZ,kb,dg⟩ I e a){E:Array MapEntry}{ck:Nat}(hm:CU E A4):
 ∃w2 m5 np,mY ⟨n,w0,jZ,own,kb,dg⟩ ⟨n,w2,m5,np,kb,dg⟩ r A4/\∃e2:ay,e2.w={e.w with heap:=e.w.heap.setIfInBounds r (.map E ck)}/\bw ⟨n,w2,m5,np,kb,dg⟩ I e2 a:=by
 obtain⟨aaA,Zw,nP,_⟩:=h.now L.env;have R:=h.back L.env;obtain⟨aaB,Zx,wu,_⟩:=h.obj;have kY:r<aH.heap.size:=qG wu;obtain⟨tc,gB⟩:=MapKept.heap_set (o':=.map E ck) nP;have yC:∀b k,e.bx b=some k->k≠r:=λ b k J he=>by
  subst he;rcases(L.env.bx b k J).2.1 with u|u
  ·exact absurd kY (Nat.not_lt.2 u)
  ·exact h.nr u
 have uq:∀k g,e.gr k=some g->k≠r:=λ k g J he=>by
  subst he;obtain⟨_,_,_,_,u,_⟩:=L.env.gr k g J;rcases u with u|u
  ·exact absurd kY (Nat.not_lt.2 u)
  ·exact h.nr u
 let w2:World:={e.w with heap:=e.w.heap.setIfInBounds r (.map E ck)}
 have wI:w2.heap.size=e.w.heap.size:=by simp[w2]
 let e2:ay:={e with w:=w2}
 have yD:∀b o v,e.w.cell? ⟨b,o,none⟩=some v->b≠r:=λ b o v hv he=>by
  subst he;simp[World.cell?,nP] at hv
 have A:Ends e e2:=by
  refine⟨λ b o v u D=>⟨u,?_⟩,λ _ _ h=>h,λ _ ak h=>⟨ak,h,rfl,rfl,Nat.le_refl _⟩,λ k g ak cur u D K=>⟨u,cur,?_,rfl⟩⟩
  ·rw[World.cell?_of_block (w:=e.w) (gB b (yD b o v D))];exact D
  ·show(e.w.heap.setIfInBounds r (.map E ck))[k]?=_;rw[gB k (uq k g u)];exact K
 refine⟨w2,e.cl,λ k=>k≠r/\(own k\/w0.heap.size<=k),⟨⟨R.kept.os,R.kept.tape,R.kept.output,by rw[wI];exact R.kept.size,λ k J X=>?_⟩,R.cl,λ k J=>J.2,⟨E,ck,tc,hm⟩,λ J=>J.1 rfl,h.base⟩,e2,rfl,⟨L.size,L.df,λ t d ht=>(L.bm t d ht).next A,λ b cs R=>?_,L.dX,L.gs,?_⟩⟩
 ·have wm:k≠r:=λ he=>by
   subst he;exact absurd J (Nat.not_lt.2 h.base)
  exact(gB k wm).trans (R.kept.block k J X)
 ·obtain⟨k,vs,el,u,D,K⟩:=L.boxes b cs R;exact⟨k,vs,el,u,(gB k (yC b k u)).trans D,K.next A⟩
 ·refine⟨mZ.refl _ _,λ _ _ _=>rfl,λ b k J=>?_,L.env.inj,λ k g hg=>?_,L.env.kb⟩
  ·obtain⟨u,D,K⟩:=R.bx b k J;exact⟨by show k<w2.heap.size;rw[wI];exact u,.inr ⟨yC b k J,D.symm⟩,K⟩
  ·obtain⟨ak,cur,u,D,K,h4,h5⟩:=R.gr k g hg;exact⟨ak,cur,u,by show k<w2.heap.size;rw[wI];exact D,.inr ⟨uq k g hg,K.symm⟩,h4,(gB k (uq k g hg)).trans h5⟩
def FI(n:Nat)(w0:World)(jZ:Nat->Option Nat)(own:Nat->Prop)(kb:List (Nat×Nat))(dg:List Deferred)(r:Nat)(Q:Exit->List Int->St->Prop):Exit->Act->World->Prop:=λ x a w=>∃aH bz bZ es I e,mY ⟨n,w0,jZ,own,kb,dg⟩ ⟨n,aH,bz,bZ,kb,dg⟩ r es/\e.w=w/\bw ⟨n,aH,bz,bZ,kb,dg⟩ I e a/\Q x es I
structure oO(P:Program)(Γ:bE)(r:Nat)(c:Code)(Q:Exit->List Int->St->Prop)(es:List Int)(I:St):Prop where
 run:∀aH bz bZ,mY Γ ⟨Γ.n,aH,bz,bZ,Γ.kb,Γ.dg⟩ r es->∀a e,bw ⟨Γ.n,aH,bz,bZ,Γ.kb,Γ.dg⟩ I e a->c.wp P (FI Γ.n Γ.w0 Γ.jZ Γ.own Γ.kb Γ.dg r Q) a e.w
variable{Q:Exit->List Int->St->Prop}{c x y:Code}{es:List Int}{I:St}{Γ:bE}
theorem nW(h:∀aH bz bZ,mY Γ ⟨Γ.n,aH,bz,bZ,Γ.kb,Γ.dg⟩ r es->aJ P ⟨Γ.n,aH,bz,bZ,Γ.kb,Γ.dg⟩ c (λ x bS=>Q x es bS) I):oO P Γ r c Q es I:=⟨λ aH bz bZ Z a e L=>Code.wp_mono (λ ex bu w1 hh=>by obtain⟨bS,V,u,D,K⟩:=hh;exact⟨aH,bz,bZ,es,bS,V,Z,u,D,K⟩) ((h aH bz bZ Z).run a e L)⟩
def Ez(bC:List Int->St->Prop)(Q:Exit->List Int->St->Prop):Exit->List Int->St->Prop
 |.normal,es,I=>bC es I
 |ex,es,I=>Q ex es I
theorem p9(h:oO P Γ r x (Ez (λ es I=>oO P Γ r y Q es I) Q) es I):oO P Γ r (.seq x y) Q es I:=⟨λ aH bz bZ Z a e L=>by
 refine wp_seq (Code.wp_mono (λ ex bu w1 hh=>?_) (h.run aH bz bZ Z a e L));obtain⟨w2,m5,np,t8,pC,e2,u,rfl,K,h4⟩:=hh;cases ex with
 |normal=>exact h4.run w2 m5 np u bu e2 K
 |_=>exact⟨w2,m5,np,t8,pC,e2,u,rfl,K,h4⟩⟩
def Ey(id:Nat)(Q:Exit->List Int->St->Prop):Exit->List Int->St->Prop
 |.exit nk,es,I=>if nk=id then Q .normal es I else Q (.exit nk) es I
 |ex,es,I=>Q ex es I
theorem zi{id:Nat}(h:oO P Γ r c (Ey id Q) es I):oO P Γ r (.block id c) Q es I:=⟨λ aH bz bZ Z a e L=>by
 refine wp_block (Code.wp_mono (λ ex bu w1 hh=>?_) (h.run aH bz bZ Z a e L));obtain⟨w2,m5,np,t8,pC,e2,u,rfl,K,h4⟩:=hh;cases ex with
 |exit nk=>
  simp only[Ey] at h4;simp only[Exit.inBlock];split
  ·rename_i rU;rw[if_pos rU] at h4;exact⟨w2,m5,np,t8,pC,e2,u,rfl,K,h4⟩
  ·rename_i rU;rw[if_neg rU] at h4;exact⟨w2,m5,np,t8,pC,e2,u,rfl,K,h4⟩
 |_=>exact⟨w2,m5,np,t8,pC,e2,u,rfl,K,h4⟩⟩
theorem ID{dE:Type}(ok:dE->Prop)(iX:dE->St)(aK:dE->List Int)(lM:dE->Nat)(i0:dE)(J:ok i0)(he:aK i0=es)(h0:∀aH bz bZ,bF ⟨Γ.n,aH,bz,bZ,Γ.kb,Γ.dg⟩ I (iX i0))
 (Cz:∀i,ok i->oO P Γ r c (Ez (λ A4 bS=>∃j,ok j/\lM j<lM i/\A4=aK j/\∀aH bz bZ,bF ⟨Γ.n,aH,bz,bZ,Γ.kb,Γ.dg⟩ bS (iX j)) Q) (aK i) (iX i)):oO P Γ r (.loop c) Q es I:=by
 refine⟨λ aH bz bZ Z a e L=>?_⟩;obtain⟨e0,u,D⟩:=h0 aH bz bZ a e L;rw[<-u];have key:∀n i,ok i->lM i<n->∀aH bz bZ,mY Γ ⟨Γ.n,aH,bz,bZ,Γ.kb,Γ.dg⟩ r (aK i)->∀a e,bw ⟨Γ.n,aH,bz,bZ,Γ.kb,Γ.dg⟩ (iX i) e a->Code.rounds P c (FI Γ.n Γ.w0 Γ.jZ Γ.own Γ.kb Γ.dg r Q) n a e.w:=by
  intro n;induction n with
  |zero=>intro i _ Z;omega
  |succ n ih=>
   intro i aR Z aH bz bZ hm a e L;rw[rounds_succ];refine Code.wp_mono (λ ex bu w1 hh=>?_) ((Cz i aR).run aH bz bZ hm a e L);obtain⟨w2,m5,np,t8,pC,e2,u,rfl,K,h4⟩:=hh;cases ex with
   |normal=>obtain⟨j,TF,hj,rfl,hg⟩:=h4;obtain⟨e3,h5,h6⟩:=hg w2 m5 np bu e2 K;show Code.rounds P c _ n bu e2.w;rw[<-h5];exact ih j TF (by omega) w2 m5 np u bu e3 h6
   |_=>exact⟨w2,m5,np,t8,pC,e2,u,rfl,K,h4⟩
 exact wp_loop_rounds (lM i0+1) (key _ i0 J (by omega) aH bz bZ (by rw[he];exact Z) a e0 D)
theorem F6{l0 l:List Oper}{Q:Exit->St->Prop}{o:Oper}{s:List (Nat×F)}{b:List (Nat×List F)}{g:List (Nat×Gr)}{t mt kt et:Nat}{aH:World}{bz:Nat->Option Nat}{bZ:Nat->Prop}{x y:Operand}{m:Int}{i:TI}(hT:cR P ah)(Z:mY ⟨n,w0,jZ,own,kb,dg⟩ ⟨n,aH,bz,bZ,kb,dg⟩ r es)
 (X:o.op=.lookup mt x y false)(hm:P.underlying mt=some (.map kt et))(lZ:P.underlying kt=some (.int .i64))(Hr:ah et=some i)(hz:i.zero=.bool false)(T:ev (Y s) x=some (.p (.raw (.map (some r)))))(hy:ev (Y s) y=some (z m))(hg:gd l0 o (Y s)=some true)(G:o.dst=some t)(M:Nat.blt t n=true)
 (h:bp P ⟨n,aH,bz,bZ,kb,dg⟩ l0 Q l ⟨(t,dB (decide (m∈es)))::s,b,g⟩):bp P ⟨n,aH,bz,bZ,kb,dg⟩ l0 Q (o::l) ⟨s,b,g⟩:=by
 refine tR (I:=⟨s,b,g⟩) hg (λ a e L=>?_) h;have hs:=L.h1 o.op.operands;have u:=cE (hs.1 x (by rw[X];simp[Op.operands]) _ T);have D:=cE (hs.1 y (by rw[X];simp[Op.operands]) _ hy);obtain⟨E,ck,K,h4⟩:=Z.now L.env;have J:MapKept.IsKey (.int .i64) (.int .i64 m):=rfl;have cG:(execOp a.eval o).run P e.w=.ok (.value (.bool (decide (m∈es)))) e.w:=by
  obtain⟨dst,op,type,pos,after,guard⟩:=o;simp only at X;subst X;rcases GH E.toList es m 0 h4 with⟨h5,h6⟩|⟨h5,j,h6⟩
  ·simp[execOp,Instr.lookup,u,D,run_underlying hm,MapKept.run_getObj_map K,MapKept.run_checkKey lZ J,MapKept.run_findKey lZ h6,Ab hT Hr,hz,h5]
  ·simp[execOp,Instr.lookup,u,D,run_underlying hm,MapKept.run_getObj_map K,MapKept.run_checkKey lZ J,MapKept.run_findKey lZ h6,h5]
 unfold Oper.wp;rw[cG];have:=L.put (dst:=o.dst) (v:=.bool (decide (m∈es))) (d:=dB (decide (m∈es))) (by rw[G];exact M) (.p (.raw _));rw[G] at this;exact⟨e,rfl,by rw[G];exact this⟩
structure xK(P:Program)(Γ:bE)(r:Nat)(l0:List Oper)(Q:Exit->List Int->St->Prop)(l:List Oper)(es:List Int)(I:St):Prop where
 run:∀aH bz bZ,mY Γ ⟨Γ.n,aH,bz,bZ,Γ.kb,Γ.dg⟩ r es->∀a e,bw ⟨Γ.n,aH,bz,bZ,Γ.kb,Γ.dg⟩ I e a->wpList P l0.toArray (FI Γ.n Γ.w0 Γ.jZ Γ.own Γ.kb Γ.dg r Q) l a e.w
theorem IE{id:Nat}{l:List Oper}(h:xK P Γ r l Q l es I):oO P Γ r (.region id l.toArray false) Q es I:=⟨λ aH bz bZ Z a e L=>wp_region_lit (h.run aH bz bZ Z a e L)⟩
variable{l0 l:List Oper}{o:Oper}
theorem Ix(h:Q .normal es I):xK P Γ r l0 Q [] es I:=⟨λ aH bz bZ Z _ e L=>⟨aH,bz,bZ,es,I,e,Z,rfl,L,h⟩⟩
theorem zb{s:List (Nat×F)}{b:List (Nat×List F)}{g:List (Nat×Gr)}{t:Nat}{d:F}(hT:cR P ah)(hq:ax ah (Y s) (Y b) o.op=some d)(hg:gd l0 o (Y s)=some true)(G:o.dst=some t)(M:Nat.blt t Γ.n=true)(h:xK P Γ r l0 Q l es ⟨(t,d)::s,b,g⟩):xK P Γ r l0 Q (o::l) es ⟨s,b,g⟩:=by refine⟨λ aH bz bZ Z a e L=>?_⟩;unfold wpList;rw[if_pos (kS L hg)];have b8:xM P ⟨Γ.n,aH,bz,bZ,Γ.kb,Γ.dg⟩ o ⟨s,b,g⟩ _:=dm.step (I:=⟨s,b,g⟩) (rn hT hq) (oS G M) (λ p hp=>by cases hp);refine .inl (vj (b8 a e L) λ bu w1 hh=>?_);obtain⟨V,rfl,ea⟩:=hh;rw[G] at ea;exact h.run aH bz bZ Z bu V ea
theorem Iy{s:List (Nat×F)}{b:List (Nat×List F)}{g:List (Nat×Gr)}{mt kt et:Nat}{x y aT:Operand}{m:Int}(X:o.op=.mapUpdate mt x y aT)(G:o.dst=none)(hm:P.underlying mt=some (.map kt et))(lZ:P.underlying kt=some (.int .i64))(T:ev (Y s) x=some (.p (.raw (.map (some r)))))(hy:ev (Y s) y=some (z m))(hz:ev (Y s) aT=some (dB true))(hg:gd l0 o (Y s)=some true)(hn:m∉es)
 (h:xK P Γ r l0 Q l (es++[m]) ⟨s,b,g⟩):xK P Γ r l0 Q (o::l) es ⟨s,b,g⟩:=by
 refine⟨λ aH bz bZ Z a e L=>?_⟩;obtain⟨n,w0,jZ,own,kb,dg⟩:=Γ;unfold wpList;rw[if_pos (kS L hg)];have hs:=L.h1 o.op.operands;have u:=cE (hs.1 x (by rw[X];simp[Op.operands]) _ T);have D:=cE (hs.1 y (by rw[X];simp[Op.operands]) _ hy);have bd:=cE (hs.1 aT (by rw[X];simp[Op.operands]) _ hz);obtain⟨E,ck,K,h4⟩:=Z.now L.env;have J:MapKept.IsKey (.int .i64) (.int .i64 m):=rfl;obtain⟨w2,m5,np,HE,e2,Ho,ez⟩:=Z.next L (A4:=es++[m]) (E:=E.push {key:=.int .i64 m,val:=.bool true,born:=ck}) (ck:=ck+1) (by
  unfold CU at h4⊢;simp[h4])
 have cG:(execOp a.eval o).run P e.w=.ok .skip {e.w with heap:=e.w.heap.setIfInBounds r (.map (E.push {key:=.int .i64 m,val:=.bool true,born:=ck}) (ck+1))}:=by
  obtain⟨dst,op,type,pos,after,guard⟩:=o;simp only at X;subst X;rcases GH E.toList es m 0 h4 with⟨h5,h6⟩|⟨h5,j,h6⟩
  ·simp[execOp,Instr.mapUpdate,u,D,bd,run_underlying hm,MapKept.run_getObj_map K,MapKept.run_checkKey lZ J,MapKept.run_findKey lZ h6,MapKept.run_setObj_map _ K]
  ·exact absurd h5 hn
 refine .inl ?_;unfold Oper.wp;rw[cG,<-Ho];have:=h.run w2 m5 np HE a e2 ez;show wpList P _ _ l (a.put o.dst undef) e2.w;rw[G];exact this
theorem Ge{id mt t1 t2:Nat}{o1 o2:Oper}{rest:Code}{Q:Exit->St->Prop}{s:List (Nat×F)}{b:List (Nat×List F)}{g:List (Nat×Gr)}(X:o1.op=.makeMap mt none)(i8:o1.guard=none)(kE:o1.dst=some t1)(i9:Nat.blt t1 Γ.n=true)(uv:o2.op=.assign (.tmp t1))(dS:o2.guard=none)(rP:o2.dst=some t2)(dz:Nat.blt t2 Γ.n=true)
 (h:∀r,oO P Γ r rest (λ x _ I=>Q x I) [] ⟨(t2,.p (.raw (.map (some r))))::(t1,.p (.raw (.map (some r))))::s,b,g⟩):aJ P Γ (.seq (.region id [o1,o2].toArray false) rest) Q ⟨s,b,g⟩:=by
 refine⟨λ a e L=>?_⟩;obtain⟨n,w0,jZ,own,kb,dg⟩:=Γ;refine wp_seq (wp_region_lit ?_);unfold wpList;rw[if_pos (by unfold Region.wanted;rw[i8])];refine .inl ?_;unfold Oper.wp;have cG:(execOp a.eval o1).run P e.w=.ok (.value (.map (some e.w.heap.size))) (e.w.alloc (.map #[] 0)):=by obtain⟨dst,op,type,pos,after,guard⟩:=o1;simp only at X;subst X;simp[execOp,Instr.makeMap]
 rw[cG];show wpList P _ _ [o2] (a.put o1.dst _) _;have gp:=ay.sr e (.map #[] 0) none;have cb:=(L.grow gp).put (dst:=o1.dst) (v:=.map (some e.w.heap.size)) (d:=.p (.raw (.map (some e.w.heap.size)))) (by rw[kE];exact i9) (.p (.raw _));rw[kE] at cb⊢;unfold wpList;rw[if_pos (by unfold Region.wanted;rw[dS])];refine .inl ?_;unfold Oper.wp;have iS:(a.put (some t1) (.map (some e.w.heap.size))).eval (.tmp t1)=.map (some e.w.heap.size):=cE ((cb.h1 #[.tmp t1]).1 (.tmp t1) (by simp) _ (by simp[ev,St.put,cL]));have UC:(execOp (a.put (some t1) (.map (some e.w.heap.size))).eval o2).run P (e.w.alloc (.map #[] 0))=.ok (.value (.map (some e.w.heap.size))) (e.w.alloc (.map #[] 0)):=by obtain⟨dst,op,type,pos,after,guard⟩:=o2;simp only at uv;subst uv;simp[execOp,iS]
 rw[UC];have ez:=cb.put (dst:=o2.dst) (v:=.map (some e.w.heap.size)) (d:=.p (.raw (.map (some e.w.heap.size)))) (by rw[rP];exact dz) (.p (.raw _));rw[rP] at ez;simp only[Oper.upon];rw[rP];have nj:(e.w.alloc (.map #[] 0)).heap[e.w.heap.size]?=some (.map #[] 0):=(MapKept.heap_alloc e.w _).1;have yC:∀b k,(e.alloc (.map #[] 0) none).bx b=some k->k≠e.w.heap.size:=λ b k J he=>by
  have:=(L.env.bx b k J).1;omega
 have uq:∀k g,(e.alloc (.map #[] 0) none).gr k=some g->k≠e.w.heap.size:=λ k g J he=>by
  obtain⟨_,_,_,u,_⟩:=L.env.gr k g J;omega
 have aR:gx ⟨n,w0,jZ,own,kb,dg⟩ (e.alloc (.map #[] 0) none):=ez.env;have Z:mY ⟨n,w0,jZ,own,kb,dg⟩ ⟨n,e.w.alloc (.map #[] 0),(e.alloc (.map #[] 0) none).cl,λ k=>k≠e.w.heap.size/\(own k\/w0.heap.size<=k),kb,dg⟩ e.w.heap.size []:=
  ⟨aR.kept,aR.cl,λ k J=>J.2,⟨#[],0,nj,rfl⟩,λ J=>J.1 rfl,L.env.kept.size⟩
 have ib:bw ⟨n,e.w.alloc (.map #[] 0),(e.alloc (.map #[] 0) none).cl,λ k=>k≠e.w.heap.size/\(own k\/w0.heap.size<=k),kb,dg⟩ ⟨(t2,.p (.raw (.map (some e.w.heap.size))))::(t1,.p (.raw (.map (some e.w.heap.size))))::s,b,g⟩ (e.alloc (.map #[] 0) none) ((a.put (some t1) (.map (some e.w.heap.size))).put (some t2) (.map (some e.w.heap.size))):=by
  refine⟨ez.size,ez.df,ez.bm,ez.boxes,ez.dX,ez.gs,⟨mZ.refl _ _,λ _ _ _=>rfl,λ b k J=>?_,aR.inj,λ k g hg=>?_,aR.kb⟩⟩
  ·obtain⟨u,D,K⟩:=aR.bx b k J;exact⟨u,.inr ⟨yC b k J,D.symm⟩,K⟩
  ·obtain⟨ak,cur,u,D,K,h4,h5⟩:=aR.gr k g hg;exact⟨ak,cur,u,D,.inr ⟨uq k g hg,K.symm⟩,h4,h5⟩
 refine Code.wp_mono (λ ex bu w1 hh=>?_) ((h e.w.heap.size).run _ _ _ Z _ _ ib);obtain⟨w2,m5,np,t8,pC,e2,k1,k2,k3,k4⟩:=hh;exact⟨pC,e2,k2,k1.om k3,k4⟩
theorem mc{bC:List Int->St->Prop}(h:bC es I):Ez bC Q .normal es I:=h
theorem p7{bC:List Int->St->Prop}{id:Nat}(h:Q (.exit id) es I):Ez bC Q (.exit id) es I:=h
theorem Iz{id:Nat}(h:Q .normal es I):Ey id Q .normal es I:=h
theorem zf{id:Nat}(h:Q .normal es I):Ey id Q (.exit id) es I:=by show(if id=id then _ else _);rw[if_pos rfl];exact h
end
end Go.Proofs.YtcnefjfboagbmaaGreat
end
section
namespace Go.Proofs.YtcnefjfboagbmaaGreat
open Go.Proofs.Tryz
open Go.RowKit
section
variable{P:Program}{ah:Nat->Option TI}{Γ:bE}{o:Oper}{l0 l:List Oper}
variable{s:List (Nat×F)}{b:List (Nat×List F)}{g:List (Nat×Gr)}{t:Nat}
variable{n:Nat}{B B0:List (Nat×List F)}{bC:St->Prop}{aI:List Nat}{aP:List (Nat×Nat)}{ix:Nat}
theorem C3{Q:Exit->St->Prop}{x y:Code}{I:St}(I0:St)(u:aJ P Γ x (λ ex bS=>ex=.normal/\bF Γ bS I0) I)(D:aJ P Γ y Q I0):aJ P Γ (.seq x y) Q I:=
 oQ (tS u λ ex bS h=>by
  obtain⟨rfl,hg⟩:=h;exact da hg D)
end
end Go.Proofs.YtcnefjfboagbmaaGreat
end
section
namespace Go.Proofs.YtcnefjfboagbmaaGreat
open Go.Proofs.Tryz
open Go.RowKit
section
variable{P:Program}{ah:Nat->Option TI}{S:Nat->Option F}{B:Nat->Option (List F)}{o:Oper}
theorem OT{t aa:TypeId}{x y:Operand}{a b:Int}(X:o.op=.binOp .rem t x y aa)(T:ev S x=some (z a))(hy:ev S y=some (z b))(u:0<b):dm P o S B (z (a.tmod b)) none:=by
 refine hZ λ ac e hs=>?_
 have bV:=cE (hs.1 x (by rw[X];simp[Op.operands]) _ T);have eR:=cE (hs.1 y (by rw[X];simp[Op.operands]) _ hy);refine⟨_,?_,.p (.raw _)⟩;obtain⟨dst,op,type,pos,after,guard⟩:=o;simp only at X;subst X;have R:¬b=0:=by omega
 simp[execOp,bV,eR,eqGuard,binOp,Op.intDiv,R]
theorem Y1(a b:Int)(R:0<b):(a.tmod b<0->a.tmod b+b=a%b)/\(¬a.tmod b<0->a.tmod b=a%b):=by
 have h:=Int.tmod_eq_emod (a:=a) (b:=b);have h0:=Int.emod_nonneg a (show b≠0 by omega);have u:=Int.emod_lt_of_pos a R;split at h
 ·omega
 ·rename_i hn;have cP:a%b≠0:=λ e=>hn (.inr (Int.dvd_of_emod_eq_zero e))
  omega
end
end Go.Proofs.YtcnefjfboagbmaaGreat
end
section
namespace Go.Proofs.YtcnefjfboagbmaaGreat
open Go.Proofs.Tryz
open Go.RowKit
section
variable{P:Program}{Γ:bE}{Q:Exit->St->Prop}
theorem P2{o:Oper}{a:Act}{w:World}{bC:Act->World->Prop}{Q iH:Exit->Act->World->Prop}(hq:∀ex a w,ex≠.normal->Q ex a w->iH ex a w)(h:o.wp P a w bC Q):o.wp P a w bC iH:=by
 unfold Oper.wp at*;generalize(execOp a.eval o).run P w=r at*;cases r with
 |ok n aH=>
  cases n<;>simp only[Oper.upon] at h⊢<;>first
   |exact h
   |exact Calls.mono h (λ e mn he=>by
    cases e with
    |returned v=>exact he
    |panicked ch=>exact hq _ _ _ (by simp) he
    |outgrown=>obtain⟨a2,w2,hh⟩:=he;exact⟨a2,w2,hq _ _ _ (by simp) hh⟩)
 |halt x aH=>cases x<;>simp only[Oper.upon] at h⊢<;>first|exact hq _ _ _ (by simp) h|exact h
theorem JS{ap:Array Oper}{i:Nat}{a:Act}{w:World}{bC:Act->World->Prop}{Q iH:Exit->Act->World->Prop}(hq:∀ex a w,ex≠.normal->Q ex a w->iH ex a w)(h:wpOp P ap Q i bC a w):wpOp P ap iH i bC a w:=by
 unfold wpOp at*;split
 ·rename_i X;simp only[X] at h;exact h
 ·rename_i o X;simp only[X] at h;split
  ·rename_i hw;simp only[hw,if_true] at h;rcases h with h|⟨u,a2,w2,D⟩
   ·exact .inl (P2 hq h)
   ·exact .inr ⟨u,a2,w2,hq _ _ _ (by simp) D⟩
  ·rename_i hw;simp only[hw] at h;exact h
theorem JR{ap:Array Oper}{Q iH:Exit->Act->World->Prop}(hn:∀a w,Q .normal a w->iH .normal a w)(hq:∀ex a w,ex≠.normal->Q ex a w->iH ex a w):∀{l:List Oper}{a:Act}{w:World},wpList P ap Q l a w->wpList P ap iH l a w
 |[],a,w,h=>hn a w h
 |o::l,a,w,h=>by
  unfold wpList at h⊢;split
  ·rename_i hw;rw[if_pos hw] at h;rcases h with h|⟨u,a2,w2,D⟩
   ·exact .inl (P2 hq (Oper.wp_mono (λ a w hh=>JR hn hq hh) h))
   ·exact .inr ⟨u,a2,w2,hq _ _ _ (by simp) D⟩
  ·rename_i hw;rw[if_neg hw] at h;exact JR hn hq h
def Fq(ap:Array Oper)(n m:Nat):Bool:=
 (List.range ap.size).all λ t=>decide (t<n)||(List.range (Nat.min t m)).all λ i=>match ap[t]? with
  |some o=>(o.after.any λ e=>Region.binds .any e&&e.on==i)||jd ap ap.size t i
  |none=>true
theorem PG{ap:Array Oper}{n m:Nat}(h:Fq ap n m=true){t i:Nat}{o:Oper}(ht:ap[t]?=some o)(hn:n<=t)(Z:i<t)(ZZ:i<m):(∃e∈o.after,Region.binds .any e=true/\e.on=i)\/jd ap ap.size t i=true:=by
 have gq:t<ap.size:=(Array.getElem?_eq_some_iff.1 ht).1;have u:=List.all_eq_true.1 h t (List.mem_range.2 gq);simp only[Bool.or_eq_true,decide_eq_true_eq] at u;have D:=u.resolve_left (by omega);have K:=List.all_eq_true.1 D i (List.mem_range.2 (by simp only[Nat.min_def];split<;>omega));rw[ht] at K;simp only[Bool.or_eq_true] at K;rcases K with K|K
 ·obtain⟨e,he,R⟩:=Array.any_eq_true'.1 K;simp only[Bool.and_eq_true,beq_iff_eq] at R;exact .inl ⟨e,he,R⟩
 ·exact .inr K
theorem Rd{ap:Array Oper}{n m:Nat}(h:Fq ap n m=true)(l7:n<=m):AJ ap n=true:=by
 refine List.all_eq_true.2 λ t ht=>?_
 by_cases hn:t<n
 ·simp[hn]
 ·simp only[Bool.or_eq_true,decide_eq_true_eq];refine .inr (List.all_eq_true.2 λ i Z=>?_);cases X:ap[t]? with
  |none=>rfl
  |some o=>
   have eP:i<n:=List.mem_range.1 Z;simp only[Bool.or_eq_true];rcases PG h X (by omega) (show i<t by omega) (by omega) with⟨e,he,u,D⟩|u
   ·refine .inl (Array.any_eq_true'.2 ⟨e,he,?_⟩);simp[u,D]
   ·exact .inr u
theorem Gk(ap:Array Oper):AJ ap ap.size=true/\sj ap ap.size=true:=by
 refine⟨List.all_eq_true.2 λ t ht=>?_,List.all_eq_true.2 λ t ht=>?_⟩
 ·simp[List.mem_range.1 ht]
 ·simp[List.mem_range.1 ht]
def Fb(P:Program)(ap:Array Oper)(m:Nat)(Q:Exit->Act->World->Prop):Exit->Act->World->Prop
 |.normal,a,w=>∀aD:Array Bool,aD.size=ap.size->(∀i,i<m->aD.getD i false=true)->(∀i,m<=i->i<ap.size->aD.getD i true=false)->wpAny P .any ap Q (ap.size-m) aD a w
 |ex,a,w=>Q ex a w
theorem P0{ap:Array Oper}{mm n m:Nat}(aR:oa ap mm)(hB:Fq ap n m=true)(hm:m<=ap.size){Q:Exit->Act->World->Prop}:∀(j k:Nat)(aD:Array Bool)(a:Act)(w:World),j+k=m->n<=k->aD.size=ap.size->
 (∀i,i<k->aD.getD i false=true)->(∀i,k<=i->i<ap.size->aD.getD i true=false)->wpList P ap (Fb P ap m Q) ((ap.toList.take m).drop k) a w->wpAny P .any ap Q (ap.size-k) aD a w
 |0,k,aD,a,w,hf,hn,hs,bh,gH,h=>by
  obtain rfl:k=m:=by omega
  rw[List.drop_eq_nil_of_le (by simp;omega)] at h;exact h aD hs bh gH
 |j+1,k,aD,a,w,hf,hn,hs,bh,gH,h=>by
  have mM:k<ap.size:=by omega
  have sV:ap[k]?=some ap[k]:=by simp[mM]
  have wm:k∈Region.ready .any ap aD:=mem_ready.2 ⟨gH k (Nat.le_refl _) mM,ap[k],sV,λ e he R=>bh _ (aR.back k ap[k] sV e he R)⟩;rw[show ap.size-k=(ap.size-(k+1))+1 by omega];refine⟨(λ h0=>by rw[h0] at wm;cases wm),λ i Z=>?_⟩;obtain⟨jw,o,X,dc⟩:=mem_ready.1 Z;have dw:i<ap.size:=(Array.getElem?_eq_some_iff.1 X).1;have By:=gH k (Nat.le_refl _) mM;have HF:i=k:=by
   rcases Nat.lt_trichotomy i k with u|u|u
   ·have:=bh i u;rw[(lV jw).1] at this;cases this
   ·exact u
   ·have de:∀(a:Nat)(o:Oper),ap[a]?=some o->aD.getD a false=true->∀x∈o.after,Region.binds .any x=true->aD.getD x.on false=true:=λ b ob R M x T wa=>by
     have LI:b<ap.size:=(Array.getElem?_eq_some_iff.1 R).1;have Bk:b<k:=by
      rcases Nat.lt_or_ge b k with D|D
      ·exact D
      ·have:=gH b D LI;rw[(lV this).1] at M;cases M
     exact bh _ (Nat.lt_trans (aR.back b ob R x T wa) Bk)
    rcases PG hB X (by omega) u (by omega) with⟨e,he,R,lE⟩|D
    ·have D:=dc e he R;rw[lE,(lV By).1] at D;cases D
    ·have K:=xp de _ _ _ o X dc D;rw[(lV By).1] at K;cases K
  subst HF;rw[sV] at X;cases X;rw[List.drop_eq_getElem_cons (by simp;omega)] at h;have bN:wpList P ap (Fb P ap m Q) (ap[i]::(ap.toList.take m).drop (i+1)) a w:=by simpa using h
  refine JS (Q:=Fb P ap m Q) (λ ex a w cP hh=>by cases ex<;>first|exact hh|exact absurd rfl cP) (wpOp_mono (λ bu aH hh=>?_) (P1 sV bN));refine P0 aR hB hm j (i+1) _ bu aH (by omega) (by omega) (by simpa using hs) (λ j hj=>?_) (λ j hj pb=>?_) hh
  ·by_cases e:i=j
   ·subst e;simp[hs,mM]
   ·rw[getD_set_ne false e];exact bh j (by omega)
  ·rw[getD_set_ne true (by omega)];exact gH j (by omega) pb
def wS(s:List (Nat×F)):List Oper->Bool
 |[]=>true
 |o::l=>(match o.dst with|some t=>(Y s t).isSome|none=>true)&&wS s l
theorem M3{s:List (Nat×F)}:∀{l:List Oper}{j:Nat}{t:Nat},wS s l=true->(l[j]?).bind (·.dst)=some t->∃d,Y s t=some d
 |[],j,t,_,h=>by simp at h
 |o::l,0,t,J,h=>by
  simp only[List.getElem?_cons_zero,Option.bind_some] at h;simp only[wS,h,Bool.and_eq_true,Option.isSome_iff_exists] at J;exact J.1
 |o::l,j+1,t,J,h=>by
  simp only[wS,Bool.and_eq_true] at J;exact M3 J.2 (by simpa using h)
section
variable{l:List Oper}{m:Nat}
theorem Px{bq:Nat->F}{S:Nat->Option F}(h:∀j t,j<m->(l[j]?).bind (·.dst)=some t->S t=some (bq j)):∀i,i<=m->dL l bq S i=S
 |0,_=>rfl
 |i+1,Z=>by
  funext t
  simp only[dL];split
  ·rename_i e;exact(h i t (by omega) e).symm
  ·rw[Px h i (by omega)]
theorem Py{bq oM:Nat->F}{S:Nat->Option F}(h0:dL l oM S m=S)(hF:∀i,oM (m+i)=bq i):∀i,dL l oM S (m+i)=dL (l.drop m) bq S i
 |0=>h0
 |i+1=>by
  funext t
  rw[show m+(i+1)=(m+i)+1 by omega];simp only[dL,Py h0 hF i,hF,List.getElem?_drop]
theorem Pn{N:Nat->Option (Nat×List F)}{B:Nat->Option (List F)}(h:∀j,j<m->N j=none):∀i,i<=m->dp N B i=B
 |0,_=>rfl
 |i+1,Z=>by simp only[dp,h i (by omega),Pn h i (by omega)];rfl
theorem Po{N jV:Nat->Option (Nat×List F)}{B:Nat->Option (List F)}(h0:dp jV B m=B):∀i,(∀j,j<i->jV (m+j)=N j)->dp jV B (m+i)=dp N B i
 |0,_=>h0
 |i+1,hN=>by
  rw[show m+(i+1)=(m+i)+1 by omega];simp only[dp,Po h0 i (λ j hj=>hN j (by omega)),hN i (by omega)]
theorem Ps{av:Nat->Option (Nat×Gr)}{ak:Nat->Option Gr}(h:∀j,j<m->av j=none):∀i,i<=m->dZ av ak i=ak
 |0,_=>rfl
 |i+1,Z=>by simp only[dZ,h i (by omega),Ps h i (by omega)];rfl
theorem Pt{av dF:Nat->Option (Nat×Gr)}{ak:Nat->Option Gr}(h0:dZ dF ak m=ak):∀i,(∀j,j<i->dF (m+j)=av j)->dZ dF ak (m+i)=dZ av ak i
 |0,_=>h0
 |i+1,hN=>by
  rw[show m+(i+1)=(m+i)+1 by omega];simp only[dZ,Pt h0 i (λ j hj=>hN j (by omega)),hN i (by omega)]
theorem Pq{bM:Nat->Bool}{N:Nat->Option (Nat×List F)}{aI:List Nat}(h:∀j,j<m->N j=none):∀i,i<=m->fz bM N aI i=aI
 |0,_=>rfl
 |i+1,Z=>by
  simp only[fz,h i (by omega),Pq h i (by omega),Cc];cases bM i<;>rfl
theorem Pr{bM qp:Nat->Bool}{N jV:Nat->Option (Nat×List F)}{aI:List Nat}(h0:fz qp jV aI m=aI):∀i,(∀j,j<i->jV (m+j)=N j/\qp (m+j)=bM j)->fz qp jV aI (m+i)=fz bM N aI i
 |0,_=>h0
 |i+1,hN=>by
  rw[show m+(i+1)=(m+i)+1 by omega];simp only[fz,Pr h0 i (λ j hj=>hN j (by omega)),(hN i (by omega)).1,(hN i (by omega)).2]
theorem JC{av:Nat->Option (Nat×Gr)}{aP:List (Nat×Nat)}(h:∀j,j<m->av j=none):∀i,i<=m->fF l av aP i=aP
 |0,_=>rfl
 |i+1,Z=>by simp only[fF,h i (by omega),sB,JC h i (by omega)]
theorem Pw{av dF:Nat->Option (Nat×Gr)}{aP:List (Nat×Nat)}(h0:fF l dF aP m=aP):∀i,(∀j,j<i->dF (m+j)=av j)->fF l dF aP (m+i)=fF (l.drop m) av aP i
 |0,_=>h0
 |i+1,hN=>by
  rw[show m+(i+1)=(m+i)+1 by omega];simp only[fF,Pw h0 i (λ j hj=>hN j (by omega)),hN i (by omega),List.getElem?_drop]
end
def BY(P:Program)(Γ:bE)(l l3:List Oper)(m:Nat)(Q:Exit->St->Prop):Exit->St->Prop
 |.normal,I=>∃B,tP I.b B/\wS I.s (l.take m)=true/\b9 P Γ.n l B I.b (Q .normal) m [] [] l3 I
 |ex,I=>Q ex I
theorem Vl{l:List Oper}{m:Nat}(kX:m<=l.length)(aR:oa l.toArray Γ.n){Q:Exit->St->Prop}{I:St}{e:ay}{a:Act}(L:bw Γ I e a)(h:BY P Γ l (l.drop m) m Q .normal I):Fb P l.toArray m (iZ Γ Q) .normal a e.w:=by
 obtain⟨B,m9,hK,hQ⟩:=h;intro aD hs i9 dz;obtain⟨bq,N,bM,av,ji,u,D,K,h4,h5⟩:=b9.extract (l.drop m) m [] [] I hQ;have DT:∀j,aD.getD j false=true->j<m:=λ j hj=>by
  rcases Nat.lt_or_ge j m with h6|h6
  ·exact h6
  ·rcases Nat.lt_or_ge j l.toArray.size with h7|h7
   ·have:=dz j h6 h7;rw[(lV this).1] at hj;cases hj
   ·have h8:aD[j]?=none:=Array.getElem?_eq_none (by omega);simp[h8] at hj
 let oM:Nat->F:=λ i=>if i<m then(match(l[i]?).bind (·.dst) with|some t=>(Y I.s t).getD .any|none=>.any) else bq (i-m)
 let jV:Nat->Option (Nat×List F):=λ i=>if m<=i/\i<l.length then N (i-m) else none
 let qp:Nat->Bool:=λ i=>bM (i-m)
 let dF:Nat->Option (Nat×Gr):=λ i=>if m<=i/\i<l.length then av (i-m) else none
 have nG:∀j,j<m->jV j=none:=λ j hj=>if_neg (by omega)
 have sK:∀j,j<m->dF j=none:=λ j hj=>if_neg (by omega)
 have lw:∀j,m+j<l.length->jV (m+j)=N j:=λ j hj=>by simp only[jV];rw[if_pos ⟨by omega,hj⟩,Nat.add_sub_cancel_left]
 have G5:∀j,m+j<l.length->dF (m+j)=av j:=λ j hj=>by simp only[dF];rw[if_pos ⟨by omega,hj⟩,Nat.add_sub_cancel_left]
 have Ly:∀j,qp (m+j)=bM j:=λ j=>by simp only[qp];rw[Nat.add_sub_cancel_left]
 have Ln:∀j,oM (m+j)=bq j:=λ j=>by simp only[oM];rw[if_neg (by omega),Nat.add_sub_cancel_left]
 have Lm:∀j t,j<m->(l[j]?).bind (·.dst)=some t->Y I.s t=some (oM j):=λ j t hj ht=>by
  obtain⟨d,G⟩:=M3 (l:=l.take m) (j:=j) hK (by rw[List.getElem?_take_of_lt hj];exact ht);simp only[oM];rw[if_pos hj,ht];simp only[G]
  rfl
 have eS:∀i,dL l oM (Y I.s) (m+i)=dL (l.drop m) bq (Y I.s) i:=Py (Px Lm m (Nat.le_refl _)) Ln;have eB:∀i,m+i<=l.length->dp jV (Y I.b) (m+i)=dp N (Y I.b) i:=λ i Z=>Po (Pn nG m (Nat.le_refl _)) i λ j hj=>lw j (by omega)
 have eG:∀i,m+i<=l.length->dZ dF (Y I.g) (m+i)=dZ av (Y I.g) i:=λ i Z=>Pt (Ps sK m (Nat.le_refl _)) i λ j hj=>G5 j (by omega)
 have eD:∀i,m+i<=l.length->fz qp jV [] (m+i)=fz bM N [] i:=λ i Z=>Pr (Pq nG m (Nat.le_refl _)) i λ j hj=>⟨lw j (by omega),Ly j⟩
 have eL:∀i,m+i<=l.length->fF l dF [] (m+i)=fF (l.drop m) av [] i:=λ i Z=>Pw (JC sK m (Nat.le_refl _)) i λ j hj=>G5 j (by omega)
 have bT:l.toArray.size=l.length:=by simp
 have rQ:m+(l.drop m).length=l.length:=by rw[List.length_drop];omega
 have jw:lL aD=l.toArray.size-m:=by
  have:=Ft aD.toList m (by simpa[hs] using kX) (λ i Z=>by
   have u:=i9 i Z;have dw:i<aD.size:=by rw[hs];omega
   simp[dw] at u⊢;exact u) (λ i Z M=>by
   have dw:i<aD.size:=by simpa using M
   have u:=dz i Z (by rw[<-hs];exact dw);simp[dw] at u⊢;exact u)
  simpa[lL,hs] using this
 refine An (P:=P) (Γ:=Γ) (I:=I) (ap:=l.toArray) (H:=l.toArray.size) (λ i=>decide (i<m)) (λ _=>false) (λ _=>true) aR (Gk _).1 (Nat.le_refl _) (bq:=oM) (N:=jV) (bM:=qp) (av:=dF) (B:=B) (a0:=a) (Q:=iZ Γ Q) (λ i Z=>if_neg (by omega)) (λ i Z=>if_neg (by omega)) (λ i Z=>nG i (by simpa using Z)) (λ i Z=>sK i (by simpa using Z)) (λ _ _ _=>.inl rfl) (.inr λ _=>rfl) (λ b cs=>m9.get)
  (λ i o Z X Mp _ _=>?_) (λ aD b V hv q2 q3 _=>?_) (λ _ _ _ _ _ h=>by cases h) _ aD a e jw.symm ?_ (λ t h6 h7=>absurd h7 (by omega)) (λ i Z=>i9 i (by simpa using Z)) (λ i Z=>by cases Z)
 ·have Mp:m<=i:=by have:=of_decide_eq_false Mp;omega
  obtain⟨j,rfl⟩:∃j,i=m+j:=⟨i-m,by omega⟩;have h6:=h5 j o (by rw[List.getElem?_drop];simpa using X);rw[<-eS,<-eB j (by omega),<-eG j (by omega),<-eD j (by omega),<-eL j (by omega),<-Ln,<-Ly,<-lw j (by omega),<-G5 j (by omega)] at h6;exact h6
 ·have R:bw Γ ji V b:=hv.om aR (by rw[K,bT,<-rQ];exact(eS _).symm) (by rw[h4,bT,<-rQ];exact(eB _ (by omega)).symm) (by rw[D,bT,<-rQ];exact(eG _ (by omega)).symm) q2 q3;exact Fv aR (Gk _).2 _ _ aD b V.w (by omega) (Nat.le_refl _) hv.kK q2 q3 (by rw[List.drop_eq_nil_of_le (by simp)];exact⟨ji,V,rfl,R,u⟩)
 ·refine⟨hs,L.size,L.df,λ i o Z M x T R=>i9 _ (Nat.lt_trans (aR.back i o Z x T R) (DT i M)),λ i o t Z M ht=>?_,λ t _=>rfl,L.bm,λ b cs R _=>L.boxes b cs R,λ i p M hp=>?_,λ b R _=>L.dX b R,λ g _=>L.gs g,λ i p M hp=>?_,L.env⟩
  ·exact L.bm t _ (Lm i t (DT i M) (by have:l[i]?=some o:=by simpa using Z
                                       rw[this];exact ht))
  ·rw[nG i (DT i M)] at hp;cases hp
  ·rw[sK i (DT i M)] at hp;cases hp
theorem Gf{I:St}(k m:Nat)(ws:List Nat){id:Nat}{l l1 l2 l3:List Oper}{B:List (Nat×List F)}(hs:lm k l (λ a=>j2 k l λ b=>lm (m-k) b λ c=>j2 m l λ d=>some (a,c,d))=some (l1,l2,l3))(hv:nz ws I.b some=some B)(hm:P.follows .mixedOrders=true)(hB:pq l.toArray Γ.n=true)(hT:Fq l.toArray k m=true)(HK:Nat.ble k m=true)(kX:Nat.ble m l.length=true)
 (h:b9 P Γ.n l B I.b (bp P Γ l (BY P Γ l l3 m Q) l2) 0 [] [] l1 I):aJ P Γ (.region id l.toArray true) Q I:=by
 obtain⟨nL,hs⟩:=qj hs;obtain⟨kV,hs⟩:=my hs;obtain⟨pT,hs⟩:=qj hs;obtain⟨DP,hs⟩:=my hs;cases hs;have HK:=Nat.le_of_ble_eq_true HK;have kX:=Nat.le_of_ble_eq_true kX;obtain⟨re,K,_,_,m9⟩:=xF _ _ _ _ hv;cases K;refine⟨λ a e L=>?_⟩;have aR:=E6 hB;obtain⟨bq,N,bM,av,ji,u,D,K,h4,h5⟩:=b9.extract (l.take k) 0 [] [] I h;have mM:(l.take k).length=k:=by rw[List.length_take];omega
 rw[mM] at D K h4;have qK:∀j,j<k->(l.take k)[j]?=l[j]?:=λ j hj=>by rw[List.getElem?_take_of_lt hj]
 have s9:(l.toArray.toList.take m).drop k=(l.drop k).take (m-k):=by simp[List.drop_take]
 have hN:∀i,i<=k->dp N (Y I.b) i=dp (λ i=>if i<k then N i else none) (Y I.b) i:=λ i Z=>Aj i λ j hj=>by rw[if_pos (by omega)]
 have hD:∀i,i<=k->fz bM N [] i=fz bM (λ i=>if i<k then N i else none) [] i:=λ i Z=>Jx i λ j hj=>⟨by rw[if_pos (by omega)],rfl⟩
 have hG:∀i,i<=k->dZ av (Y I.g) i=dZ (λ i=>if i<k then av i else none) (Y I.g) i:=λ i Z=>Fm i λ j hj=>by rw[if_pos (by omega)]
 have hL:∀i,i<=k->fF (l.take k) av [] i=fF l.toArray.toList (λ i=>if i<k then av i else none) [] i:=λ i Z=>JB i λ j hj=>⟨by rw[if_pos (by omega)],by simpa using qK j (by omega)⟩
 have:=An (P:=P) (Γ:=Γ) (I:=I) (ap:=l.toArray) (H:=k) (λ _=>false) (λ _=>false) (λ _=>true) aR (Rd hT HK) (by simp;omega) (bq:=bq) (N:=λ i=>if i<k then N i else none) (bM:=bM) (av:=λ i=>if i<k then av i else none) (B:=B) (a0:=a) (Q:=iZ Γ Q) (λ i Z=>if_neg (by omega)) (λ i Z=>if_neg (by omega)) (λ i Z=>by simp at Z) (λ i Z=>by simp at Z) (λ _ _ _=>.inl rfl) (.inr λ _=>rfl) (λ b cs=>m9.get)
  (λ i o Z X _ _ _=>by
   have h6:=h5 i o (by rw[qK i Z];simpa using X);rw[Nat.zero_add,hN i (by omega),hD i (by omega),hG i (by omega),hL i (by omega)] at h6;have e5:dL (l.take k) bq (Y I.s) i=dL l.toArray.toList bq (Y I.s) i:=CM i λ j hj=>by simpa using qK j (by omega)
   rw[e5] at h6
   simpa[Z] using h6)
  (λ aD b V hv q2 q3 _=>by
   have R:bw Γ ji V b:=hv.om aR (by rw[K];exact CM _ λ j hj=>by simpa using qK j hj) (by rw[h4];exact hN _ (Nat.le_refl _)) (by rw[D];exact hG _ (Nat.le_refl _)) q2 q3;refine P0 aR hT (by simp;omega) (m-k) k aD b V.w (by omega) (Nat.le_refl _) hv.kK q2 q3 ?_;rw[s9];have hr:=u.run b V R;refine JR (λ a2 w2 hh=>?_) (λ ex a2 w2 cP hh=>?_) hr
   ·obtain⟨pC,e2,rfl,ez,bg⟩:=hh;exact Vl kX aR ez bg
   ·obtain⟨pC,e2,rfl,ez,bg⟩:=hh;cases ex<;>first|exact absurd rfl cP|exact⟨pC,e2,rfl,ez,bg⟩) (λ _ _ _ _ _ h=>by cases h)
  l.toArray.size (Array.replicate l.toArray.size false) a {e with w:=e.w.drew} (Fu _).symm
  ?_ (λ t _ ht=>by have wJ:t<l.length:=by simpa using ht
                   simp[wJ]) (λ i Z=>by cases Z) (λ i Z=>by cases Z)
 ·exact wp_region_any hm this
 ·have hg:jI e {e with w:=e.w.drew}:=⟨(Below.refl _ _).drew,λ _ _=>rfl,rfl,rfl,rfl⟩;have ea:=L.grow hg;refine⟨by simp,L.size,L.df,λ i o _ M=>?_,λ i o t _ M=>?_,λ t _=>rfl,ea.bm,λ b cs R _=>ea.boxes b cs R,λ i p M=>?_,λ b R _=>ea.dX b R,λ g _=>ea.gs g,λ i p M=>?_,ea.env⟩
  all_goals(simp[Array.getElem?_replicate] at M;split at M<;>simp at M)
theorem M6{I:St}{l l3:List Oper}{m:Nat}{B:List (Nat×List F)}(hv:nz [] I.b some=some B)(J:wS I.s (l.take m)=true)(h:b9 P Γ.n l B I.b (Q .normal) m [] [] l3 I):BY P Γ l l3 m Q .normal I:=by obtain⟨re,K,_,_,m9⟩:=xF _ _ _ _ hv;cases K;exact⟨B,m9,J,h⟩
end
end Go.Proofs.YtcnefjfboagbmaaGreat
end
section
namespace Go.Proofs.YtcnefjfboagbmaaGreat
open Go.Proofs.Tryz
open Go.RowKit
theorem yZ{aq:Type}:∀(l m:List (Nat×aq))(n:Nat),Y (l++m) n=(Y l n).or (Y m n)
 |[],m,n=>rfl
 |(k,v)::l,m,n=>by
  rw[List.cons_append,cL,cL];split
  ·rfl
  ·exact yZ l m n
theorem M5{aq:Type}{l m:List (Nat×aq)}{n:Nat}(h:aC l n=false):Y (l++m) n=Y m n:=by
 rw[yZ];unfold aC at h;cases hh:Y l n with
 |none=>exact Option.none_or
 |some x=>rw[hh] at h;cases h
theorem If{aq:Type}{l m:List (Nat×aq)}{n:Nat}(h:Y (l++m) n=none):aC l n=false/\Y m n=none:=by
 rw[yZ] at h;unfold aC;cases hh:Y l n with
 |none=>rw[hh] at h;exact⟨rfl,h⟩
 |some x=>rw[hh] at h;cases h
section
variable{P:Program}{Γ:bE}{Q:Exit->St->Prop}
structure JT(Γ:bE)(e e2:ay)(v:Value)(d:F)(O:List (Nat×List F)):Prop where
 ends:Ends e e2
 ok:gx Γ e2
 bx:∀b,aC O b=false->e2.bx b=e.bx b
 gi:∀g,e2.gi g=e.gi g
 eh:∀b cs,gu e b cs->gu e2 b cs
 new:∀b cs,Y O b=some cs->gu e2 b cs
 rep:bt e2 v d
theorem Rx{e V:ay}{O:List (Nat×List F)}{v:Value}{d:F}(aR:gx Γ e)(dh:∀b,aC O b=true->e.bx b=none)(hI:fG O V)(hL:Left [] (e.cut (aC ([]:List (Nat×List F))) λ _=>false) V)(hr:bt V v d):JT Γ e (e.after V [] O) v d O:=by
 have ie:∀k,¬∃b,(e.cut (aC ([]:List (Nat×List F))) λ _=>false).bx b=some k:=by rintro k ⟨b,R⟩;have gy:(if aC ([]:List (Nat×List F)) b=true then e.bx b else none)=some k:=R;rw[show aC ([]:List (Nat×List F)) b=false from rfl,if_neg (by simp)] at gy;cases gy
 have rN:∀k,k<e.w.heap.size->V.w.heap[k]?=e.w.heap[k]?:=λ k J=>hL.kept.block k J (ie k)
 have de:∀k,k<e.w.heap.size->V.cl k=e.cl k:=λ k J=>hL.cl k J (ie k)
 have iy:∀b,(e.after V [] O).bx b=if aC O b=true then V.bx b else e.bx b:=λ b=>by
  show(if aC O b=true then V.bx b else if aC ([]:List (Nat×List F)) b=true then none else e.bx b)=_;rw[show aC ([]:List (Nat×List F)) b=false from rfl];simp
 have My:∀b k,e.bx b=some k->aC O b=false:=λ b k J=>by
  cases h:aC O b with
  |false=>rfl
  |true=>rw[dh b h] at J;cases J
 have nj:∀b k,V.bx b=some k->e.w.heap.size<=k/\k<V.w.heap.size/\V.cl k=some 0:=λ b k J=>by
  obtain⟨u,D⟩:=hI.bx b k J;rcases hL.bx b k J with K|K
  ·exact⟨K,u,D⟩
  ·exact absurd K (ie k)
 have A:Ends e (e.after V [] O):=by
  refine⟨λ b o v L hv=>?_,λ b k J=>?_,λ g ak hg=>⟨ak,hg,rfl,rfl,Nat.le_refl _⟩,λ k g ak cur u D K=>⟨u,cur,(rN k (qG K)).trans K,rfl⟩⟩
  ·have R:=Db hv;refine⟨λ n jt=>L n ?_,?_⟩
   ·rw[<-de b R];exact jt
   ·show V.w.cell? _=_;rw[World.cell?_of_block (w:=e.w) (rN b R)];exact hv
  ·rw[iy,My b k J];simpa using J
 have ui:Ends V (e.after V [] O):=by
  refine⟨λ _ _ _ u D=>⟨u,D⟩,λ b k J=>?_,λ g ak hg=>?_,λ k g ak cur hg=>?_⟩
  ·rw[iy,if_pos]
   ·exact J
   ·cases R:Y O b with
    |none=>rw[hI.dX b R] at J;cases J
    |some cs=>simp[aC,R]
  ·rw[hI.gi g] at hg;cases hg
  ·rw[hI.gr k] at hg;cases hg
 have bT:e.w.heap.size<=V.w.heap.size:=hL.kept.size;refine⟨A,⟨⟨hL.kept.os.trans aR.kept.os,hL.kept.tape.trans aR.kept.tape,hL.kept.output.trans aR.kept.output,Nat.le_trans aR.kept.size bT,λ k J X=>(rN k (Nat.lt_of_lt_of_le J aR.kept.size)).trans (aR.kept.block k J X)⟩,λ k J X=>(de k (Nat.lt_of_lt_of_le J aR.kept.size)).trans (aR.cl k J X),λ b k J=>?_,λ b c k u D=>?_,λ k g hg=>?_,λ b k J=>?_⟩,λ b R=>?_,λ g=>rfl,λ b cs R=>?_,λ b cs R=>?_,hr.next ui⟩
 ·rw[iy] at J;split at J
  ·obtain⟨u,D,K⟩:=nj b k J;refine⟨D,.inl (Nat.le_trans aR.kept.size u),K,?_⟩;show e.gr k=none;cases hg:e.gr k with
   |none=>rfl
   |some g=>obtain⟨_,_,_,h4,_⟩:=aR.gr k g hg;omega
  ·obtain⟨u,D,K,h4⟩:=aR.bx b k J;exact⟨Nat.lt_of_lt_of_le u bT,D,(de k u).trans K,h4⟩
 ·rw[iy] at u D;split at u<;>split at D
  ·exact hI.inj b c k u D
  ·have:=(nj b k u).1;have:=(aR.bx c k D).1;omega
  ·have:=(nj c k D).1;have:=(aR.bx b k u).1;omega
  ·exact aR.inj b c k u D
 ·obtain⟨ak,cur,u,D,K,h4,h5⟩:=aR.gr k g hg;exact⟨ak,cur,u,Nat.lt_of_lt_of_le D bT,K,(de k D).trans h4,(rN k D).trans h5⟩
 ·have:=aR.kb b k J;rw[iy,My b k this];simpa using this
 ·rw[iy,R];simp
 ·obtain⟨k,vs,el,u,D,K⟩:=R;exact⟨k,vs,el,A.bx b k u,(rN k (qG D)).trans D,K.next A⟩
 ·exact(hI.boxes b cs R).ends ui rfl
theorem kl.We{I:St}{ap:Array Oper}(aR:oa ap Γ.n){bq:Nat->F}{N:Nat->Option (Nat×List F)}{bM:Nat->Bool}{av:Nat->Option (Nat×Gr)}{a0:Act}{aD:Array Bool}{e V:ay}{a:Act}(h:kl Γ I ap bq N bM av a0 aD e a)
 {i:Nat}{o:Oper}(Z:ap[i]?=some o)(hr:i∈Region.ready .any ap aD){v:Value}{O:List (Nat×List F)}(hN:N i=none)(hM:av i=none)(hq:JT Γ e V v (bq i) O):
 kl Γ ⟨I.s,O++I.b,I.g⟩ ap bq N bM av a0 (aD.setIfInBounds i true) V (a.put o.dst v):=by
 obtain⟨jw,o',gZ,dc⟩:=mem_ready.1 hr;rw[Z] at gZ;cases gZ;obtain⟨jP,dw⟩:=lV jw;have A:=hq.ends;have split:∀j,(aD.setIfInBounds i true).getD j false=true->j=i\/aD.getD j false=true:=λ j hj=>by
  by_cases e:i=j
  ·exact .inl e.symm
  ·rw[getD_set_ne false e] at hj;exact .inr hj
 have qT:(aD.setIfInBounds i true).getD i false=true:=by simp[dw]
 refine⟨by simpa using h.kK,by rw[Fh];exact h.size,by rw[Dk];exact h.df,λ j oj hj M x T gy=>?_,λ j oj t hj M ht=>?_,λ t ht=>?_,λ t d ht=>(h.bm t d ht).next A,λ b cs R hn=>?_,λ j p M hp hn=>?_,λ b R hn=>?_,λ g hn=>by rw[hq.gi];exact h.gs g λ j p M hp=>hn j p (getD_set_true M) hp,λ j p M hp hn=>?_,hq.ok⟩
 ·rcases split j M with rfl|eJ
  ·rw[Z] at hj;cases hj;exact getD_set_true (dc x T gy)
  ·exact getD_set_true (h.closed j oj hj eJ x T gy)
 ·rcases split j M with rfl|eJ
  ·rw[Z] at hj;cases hj;rw[ht,CI (by rw[h.size];exact aR.lt _ _ _ Z ht)];exact hq.rep
  ·have cP:j≠i:=λ e=>by subst e;rw[jP] at eJ;cases eJ
   rw[xB (λ e=>aR.ne j i oj o t hj Z cP ht e)];exact(h.tq j oj t hj eJ ht).next A
 ·rw[xB (ht i o Z qT)];exact h.kept t λ j oj hj M=>ht j oj hj (getD_set_true M)
 ·have R:Y (O++I.b) b=some cs:=R;cases eP:aC O b with
  |false=>rw[M5 eP] at R;exact hq.eh b cs (h.boxes b cs R λ j p M hp=>hn j p (getD_set_true M) hp)
  |true=>
   have:Y O b=some cs:=by
    rw[yZ] at R;unfold aC at eP;cases hh:Y O b with
    |none=>rw[hh] at eP;cases eP
    |some x=>rw[hh] at R;exact R
   exact hq.new b cs this
 ·rcases split j M with rfl|eJ
  ·rw[hN] at hp;cases hp
  ·exact hq.eh p.1 p.2 (h.news j p eJ hp λ k q J dz bg=>hn k q J (getD_set_true dz) bg)
 ·obtain⟨u,D⟩:=If (show Y (O++I.b) b=none from R);rw[hq.bx b u];exact h.dX b D λ j p M wK hp=>hn j p (getD_set_true M) wK hp
 ·rw[hq.gi];rcases split j M with rfl|eJ
  ·rw[hM] at hp;cases hp
  ·exact h.gw j p eJ hp λ k q J dz bg=>hn k q J (getD_set_true dz) bg
structure JU(P:Program)(Γ:bE)(l:List Oper)(B:List (Nat×List F))(oc:Oper)(ix:Nat)(bC:St->Prop)(l2:List Oper)(I:St):Prop where
 out:∃(f:FuncId)(ds:List F)(aE:F->List (Nat×List F)->Prop)(d:F)(O:List (Nat×List F))(t:Nat)(xs:List Operand)(fb:Array TypeId),
  d8 P f [] ds [] aE/\(∀dH ag,aE dH ag->dH=d/\ag=O)/\oc.op=.call {callee:=.value (.func f),args:=xs.toArray,argTypes:=fb}/\jj P f/\iv (Y I.s) xs some=some ds/\F.ok.ec (aC ([]:List (Nat×List F))) (λ _=>false) ds=true/\gd l oc (Y I.s)=some true/\oc.dst=some t/\Nat.blt t Γ.n=true/\
  (∀b,aC O b=true->Y I.b b=none/\Y B b=none)/\b9 P Γ.n l B B bC ix [] [] l2 ⟨(t,d)::I.s,O++I.b,I.g⟩
def Ov(ap:Array Oper)(c k:Nat):Bool:=(List.range k).all λ i=>i==c||jd ap ap.size i c||match ap[i]? with
 |some o=>o.dst.isSome&&!sw o
 |none=>true
theorem Ox{ap:Array Oper}{c k i:Nat}{o:Oper}(h:Ov ap c k=true)(Z:i<k)(wl:i≠c)(X:ap[i]?=some o):jd ap ap.size i c=true\/(o.dst.isSome=true/\sw o=false):=by
 have u:=List.all_eq_true.1 h i (List.mem_range.2 Z);simp only[X,Bool.or_eq_true,beq_iff_eq,Bool.and_eq_true,Bool.not_eq_true'] at u;rcases u with(u|u)|u
 ·exact absurd u wl
 ·exact .inl u
 ·exact .inr u
theorem OK{ap:Array Oper}{m:Nat}(aR:oa ap m):∀(f t i:Nat),jd ap f t i=true->i<t
 |0,_,_,h=>by cases h
 |f+1,t,i,h=>by
  cases X:ap[t]? with
  |none=>simp[jd,X] at h
  |some o=>
   simp only[jd,X] at h;obtain⟨e,he,R⟩:=Array.any_eq_true'.1 h;simp only[Bool.and_eq_true,Bool.or_eq_true,beq_iff_eq] at R;have u:=aR.back t o X e he R.1;rcases R.2 with D|D
   ·omega
   ·have:=OK aR f e.on i D;omega
theorem Ex{l0:List Oper}{ix:Nat}{B:Nat->Option (List F)}{S:Nat->Option F}{Bi Bj:Nat->Option (List F)}{Gi Gj:Nat->Option Gr}{aI oL:List Nat}{aP Av:List (Nat×Nat)}{o:Oper}{d:F}{nb:Option (Nat×List F)}{aa:Bool}{m:Option (Nat×Gr)}(h:rk P l0 ix B B S Bi Gi aI aP o d nb aa m)(u:o.dst.isSome=true)(D:sw o=false)(hB:∀p,nb=some p->Bi p.1=none->Bj p.1=none):aa=false/\m=none/\rk P l0 ix B B S Bj Gj oL Av o d nb aa m:=by
 rcases h with⟨a1,a2,a3,a4,a5⟩|⟨a1,a2,a3,a4,a5⟩|⟨nm,cs,aO,_,G,_⟩|⟨g,ak,t,_,_,L,_⟩
 ·exact⟨a4,a5,.inl ⟨a1,a2,λ p hp=>⟨hB p hp (a3 p hp).1,(a3 p hp).2⟩,a4,a5⟩⟩
 ·exact⟨a4,a5,.inr (.inl ⟨a1,a2,a3,a4,a5⟩)⟩
 ·rw[G] at u;cases u
 ·rw[L] at D;cases D
end
theorem Fi{N:Nat->Option (Nat×List F)}{B:Nat->Option (List F)}{x:Nat}:∀i,B x=none->(∀j p,j<i->N j=some p->p.1≠x)->dp N B i x=none
 |0,h,_=>h
 |i+1,h,hn=>by
  simp only[dp,sk];split
  ·rename_i p hp;rw[if_neg (hn i p (Nat.lt_succ_self i) hp)];exact Fi i h λ j q hj hq=>hn j q (by omega) hq
  ·exact Fi i h λ j q hj hq=>hn j q (by omega) hq
theorem Jv{N:Nat->Option (Nat×List F)}{O b0:List (Nat×List F)}:∀i,(∀j p,j<i->N j=some p->aC O p.1=false)->∀x,dp N (Y (O++b0)) i x=(Y O x).or (dp N (Y b0) i x)
 |0,_,x=>yZ O b0 x
 |i+1,h,x=>by
  have ih:=Jv (N:=N) (O:=O) (b0:=b0) i (λ j p hj hp=>h j p (by omega) hp) x;simp only[dp,sk];cases hp:N i with
  |none=>exact ih
  |some p=>
   simp only
   by_cases T:p.1=x
   ·have R:=h i p (Nat.lt_succ_self i) hp;unfold aC at R;rw[T] at R;rw[if_pos T,if_pos T];cases J:Y O x with
    |none=>exact Option.none_or.symm
    |some y=>rw[J] at R;cases R
   ·rw[if_neg T,if_neg T];exact ih
theorem JD{l ik:List Oper}{bq oM:Nat->F}{S:Nat->Option F}:∀i,(∀j,j<i->l[j]?=ik[j]?/\bq j=oM j)->dL l bq S i=dL ik oM S i
 |0,_=>rfl
 |i+1,h=>by rw[dL,dL,JD i λ j hj=>h j (by omega),(h i (by omega)).1,(h i (by omega)).2]
theorem Jy{bM:Nat->Bool}{N:Nat->Option (Nat×List F)}{aI:List Nat}:∀i,(∀j,j<i->bM j=false)->fz bM N aI i=aI
 |0,_=>rfl
 |i+1,h=>by simp only[fz,h i (Nat.lt_succ_self i),cond_false,Jy i λ j hj=>h j (by omega)]
theorem U9(e:ay):fG [] (e.cut (aC ([]:List (Nat×List F))) λ _=>false):=by
 have R:∀b,(e.cut (aC ([]:List (Nat×List F))) λ _=>false).bx b=none:=λ b=>by
  show(if aC ([]:List (Nat×List F)) b=true then e.bx b else none)=none;rw[show aC ([]:List (Nat×List F)) b=false from rfl];simp
 refine⟨λ b cs h=>(by cases h),λ b _=>R b,λ g=>?_,λ k=>?_,λ b k J=>(by rw[R] at J;cases J),λ b c k J=>(by rw[R] at J;cases J)⟩
 ·show(if false=true then e.gi g else none)=none;simp
 ·show(match e.gr k with|some g=>if false=true then some g else none|none=>none)=none;cases e.gr k<;>simp
section
variable{P:Program}{Γ:bE}{Q:Exit->St->Prop}
theorem Q3{I:St}(c k:Nat){id:Nat}{l l1 l2 l3:List Oper}{oc:Oper}{B:List (Nat×List F)}(hs:lm c l (λ a=>j2 c l λ r=>match r with|o::mh=>lm (k-(c+1)) mh λ b=>j2 (k-(c+1)) mh λ d=>some (a,o,b,d)|[]=>none)=some (l1,oc,l2,l3))(hv:nz [] I.b some=some B)(hm:P.follows .mixedOrders=true)(hB:pq l.toArray Γ.n=true)(hT:sj l.toArray k=true)(hP:Ov l.toArray c k=true)(o6:Nat.blt c k=true)
 (h:b9 P Γ.n l B B (JU P Γ l B oc (c+1) (bp P Γ l Q l3) l2) 0 [] [] l1 I):aJ P Γ (.region id l.toArray true) Q I:=by
 obtain⟨nL,hs⟩:=qj hs;obtain⟨kV,hs⟩:=my hs;obtain⟨mh,oD,hs⟩:∃mh,l.drop c=oc::mh/\lm (k-(c+1)) mh (λ b=>j2 (k-(c+1)) mh λ d=>some (l.take c,oc,b,d))=some (l1,oc,l2,l3):=by
  cases G:l.drop c with
  |nil=>rw[G] at hs;cases hs
  |cons o mh=>rw[G] at hs;simp only at hs;obtain⟨u,D⟩:=qj hs;obtain⟨K,h4⟩:=my D;cases h4;exact⟨mh,rfl,hs⟩
 obtain⟨pT,hs⟩:=qj hs;obtain⟨DP,hs⟩:=my hs;cases hs;have o6:c<k:=by simpa using o6
 obtain⟨re,K,_,_,m9⟩:=xF _ _ _ _ hv;cases K;have M:l=l.take c++oc::mh:=by rw[<-oD,List.take_append_drop]
 have cg:l.length=c+1+mh.length:=by have:=congrArg List.length M;rw[List.length_append,List.length_cons,List.length_take] at this;omega
 have mM:k<=l.length:=by omega
 have bT:l.toArray.size=l.length:=by simp
 have g1:∀j,j<c->l[j]?=(l.take c)[j]?:=λ j hj=>by rw[List.getElem?_take_of_lt hj]
 have gc:l[c]?=some oc:=by
  have:(l.drop c)[0]?=some oc:=by rw[oD];rfl
  rw[List.getElem?_drop] at this;simpa using this
 have g2:∀j,j<k-(c+1)->l[c+1+j]?=(mh.take (k-(c+1)))[j]?:=λ j hj=>by
  rw[List.getElem?_take_of_lt hj];have:(l.drop c)[j+1]?=mh[j]?:=by rw[oD];rfl
  rw[List.getElem?_drop] at this;rw[<-this];congr 1;omega
 have Hn:l.toArray.toList.drop k=mh.drop (k-(c+1)):=by
  show l.drop k=_;rw[show k=c+(1+(k-(c+1))) by omega,<-List.drop_drop,oD,Nat.add_comm 1,List.drop_succ_cons]
  congr 1
  omega
 have i9:(l.take c).length=c:=by rw[List.length_take];omega
 have dz:(mh.take (k-(c+1))).length=k-(c+1):=by rw[List.length_take];omega
 have aR:=E6 hB;obtain⟨F1,N1,U1,M1,mX,hC,AW,vR,rz,Iw⟩:=b9.extract (l.take c) 0 [] [] I h;rw[i9] at AW vR rz;obtain⟨f,ds,aE,d,O,t,xs,fb,SA,hR,pY,Hp,SR,Uk,oy,lW,bh,qH,cG⟩:=hC.out;obtain⟨F2,N2,U2,M2,ji,hK,KO,KR,KN,VR⟩:=b9.extract (mh.take (k-(c+1))) (c+1) [] [] _ cG;rw[dz] at KO KR KN
 let bq:Nat->F:=λ i=>if i<c then F1 i else if i=c then d else F2 (i-(c+1))
 let N:Nat->Option (Nat×List F):=λ i=>if i<c then N1 i else if i=c then none else if i<k then N2 (i-(c+1)) else none
 let bM:Nat->Bool:=λ i=>if i<c then U1 i else if i=c then false else if i<k then U2 (i-(c+1)) else false
 let av:Nat->Option (Nat×Gr):=λ i=>if i<c then M1 i else if i=c then none else if i<k then M2 (i-(c+1)) else none
 have Ar:∀j,j<c->bq j=F1 j:=λ j hj=>if_pos hj
 have Fc:bq c=d:=by simp only[bq];rw[if_neg (Nat.lt_irrefl c)];simp
 have JW:∀j,bq (c+1+j)=F2 j:=λ j=>by simp only[bq];rw[if_neg (by omega),if_neg (by omega)];congr 1;omega
 have vp:∀j,j<c->N j=N1 j:=λ j hj=>if_pos hj
 have Nc:N c=none:=by simp only[N];rw[if_neg (Nat.lt_irrefl c)];simp
 have FJ:∀j,j<k-(c+1)->N (c+1+j)=N2 j:=λ j hj=>by simp only[N];rw[if_neg (by omega),if_neg (by omega),if_pos (by omega)];congr 1;omega
 have Nk:∀j,k<=j->N j=none:=λ j hj=>by simp only[N];rw[if_neg (by omega),if_neg (by omega),if_neg (by omega)]
 have J5:∀j,j<c->bM j=U1 j:=λ j hj=>if_pos hj
 have Uc:bM c=false:=by simp only[bM];rw[if_neg (Nat.lt_irrefl c)];simp
 have J6:∀j,j<k-(c+1)->bM (c+1+j)=U2 j:=λ j hj=>by simp only[bM];rw[if_neg (by omega),if_neg (by omega),if_pos (by omega)];congr 1;omega
 have FG:∀j,j<c->av j=M1 j:=λ j hj=>if_pos hj
 have Mc:av c=none:=by simp only[av];rw[if_neg (Nat.lt_irrefl c)];simp
 have FH:∀j,j<k-(c+1)->av (c+1+j)=M2 j:=λ j hj=>by simp only[av];rw[if_neg (by omega),if_neg (by omega),if_pos (by omega)];congr 1;omega
 have Mk:∀j,k<=j->av j=none:=λ j hj=>by simp only[av];rw[if_neg (by omega),if_neg (by omega),if_neg (by omega)]
 have Ot:∀i o,i<c->l[i]?=some o->o.dst.isSome=true/\sw o=false:=λ i o Z X=>by
  rcases Ox hP (show i<k by omega) (show i≠c by omega) (show l.toArray[i]?=some o by simpa using X) with u|u
  ·have:=OK aR _ _ _ u;omega
  ·exact u
 have nJ:∀i,i<l.length->∃o,l[i]?=some o:=λ i Z=>⟨l[i],List.getElem?_eq_getElem Z⟩
 have B8:∀i o,i<c->l[i]?=some o->rk P l i (Y B) (Y B) (dL (l.take c) F1 (Y I.s) i) (dp N1 (Y I.b) i) (dZ M1 (Y I.g) i) (fz U1 N1 [] i) (fF (l.take c) M1 [] i) o (F1 i) (N1 i) (U1 i) (M1 i):=λ i o Z X=>by
  have:=Iw i o (by rw[<-g1 i Z];exact X);rw[Nat.zero_add] at this;exact this
 have J7:∀j,j<c->U1 j=false/\M1 j=none:=λ j hj=>by
  obtain⟨o,X⟩:=nJ j (by omega);obtain⟨p1,p2⟩:=Ot j o hj X;have:=Ex (Bj:=dp N1 (Y I.b) j) (Gj:=dZ M1 (Y I.g) j) (oL:=[]) (Av:=[]) (B8 j o hj X) p1 p2 (λ p hp hh=>hh);exact⟨this.1,this.2.1⟩
 have fk:∀j p,j<c->N1 j=some p->aC O p.1=false:=λ j p hj hp=>by
  cases eP:aC O p.1 with
  |false=>rfl
  |true=>have h5:=(qH p.1 eP).1;rw[rz] at h5;exact absurd rfl ((py c h5).2 j p hj hp)
 have U3:∀b,aC O b=true->Y I.b b=none:=λ b R=>by
  have h5:=(qH b R).1;rw[rz] at h5;exact(py c h5).1
 have vS:∀i,i<=c->dL l bq (Y I.s) i=dL (l.take c) F1 (Y I.s) i:=λ i Z=>JD i λ j hj=>⟨g1 j (by omega),Ar j (by omega)⟩
 have KV:∀j,j<=k-(c+1)->dL l bq (Y I.s) (c+1+j)=dL (mh.take (k-(c+1))) F2 (Y ((t,d)::mX.s)) j:=by
  intro j;induction j with
  |zero=>
   intro _
   funext x
   show dL l bq (Y I.s) (c+1) x=Y ((t,d)::mX.s) x;simp only[dL,gc,Fc,Option.bind_some,lW,cL,vS c (Nat.le_refl _),<-vR,Option.some.injEq]
  |succ j ih=>
   intro hj;rw[show c+1+(j+1)=(c+1+j)+1 by omega]
   funext x
   simp only[dL,ih (by omega),g2 j (by omega),JW]
 have AX:∀i,i<=c->dp N (Y I.b) i=dp N1 (Y I.b) i:=λ i Z=>Aj i λ j hj=>vp j (by omega)
 have KW:∀i,i<=c->dp N (Y (O++I.b)) i=dp N1 (Y (O++I.b)) i:=λ i Z=>Aj i λ j hj=>vp j (by omega)
 have KS:∀j,j<=k-(c+1)->dp N (Y (O++I.b)) (c+1+j)=dp N2 (Y (O++mX.b)) j:=by
  intro j;induction j with
  |zero=>
   intro _
   funext x
   show dp N (Y (O++I.b)) (c+1) x=Y (O++mX.b) x;simp only[dp,Nc,sk];rw[KW c (Nat.le_refl _),Jv c fk x,yZ,rz]
  |succ j ih=>intro hj;rw[show c+1+(j+1)=(c+1+j)+1 by omega];simp only[dp,ih (by omega),FJ j (by omega)]
 have RP:∀i,i<=c->dZ av (Y I.g) i=dZ M1 (Y I.g) i:=λ i Z=>Fm i λ j hj=>FG j (by omega)
 have KU:∀j,j<=k-(c+1)->dZ av (Y I.g) (c+1+j)=dZ M2 (Y mX.g) j:=by
  intro j;induction j with
  |zero=>
   intro _;show dZ av (Y I.g) (c+1)=Y mX.g;simp only[dZ,Mc,RP c (Nat.le_refl _),AW]
   rfl
  |succ j ih=>intro hj;rw[show c+1+(j+1)=(c+1+j)+1 by omega];simp only[dZ,ih (by omega),FH j (by omega)]
 have RO:∀j,j<=k-(c+1)->fz bM N [] (c+1+j)=fz U2 N2 [] j:=by
  intro j;induction j with
  |zero=>
   intro _;exact Jy (c+1) λ j hj=>by
    by_cases Bv:j=c
    ·rw[Bv];exact Uc
    ·rw[J5 j (by omega)];exact(J7 j (by omega)).1
  |succ j ih=>intro hj;rw[show c+1+(j+1)=(c+1+j)+1 by omega];simp only[fz,ih (by omega),FJ j (by omega),J6 j (by omega)]
 have Qc:∀j,j<c+1->av j=none:=λ j hj=>by
  by_cases Bv:j=c
  ·rw[Bv];exact Mc
  ·rw[FG j (by omega)];exact(J7 j (by omega)).2
 have RQ:∀j,j<=k-(c+1)->fF l av [] (c+1+j)=fF (mh.take (k-(c+1))) M2 [] j:=by
  intro j;induction j with
  |zero=>intro _;exact JC Qc (c+1) (Nat.le_refl _)
  |succ j ih=>intro hj;rw[show c+1+(j+1)=(c+1+j)+1 by omega];simp only[fF,ih (by omega),g2 j (by omega),FH j (by omega)]
 have post:∀i o,i<k->l.toArray[i]?=some o->i≠c->rk P l.toArray.toList i (Y B) (Y B) (dL l.toArray.toList bq (Y I.s) i) (dp N (Y (O++I.b)) i) (dZ av (Y I.g) i) (fz bM N [] i) (fF l.toArray.toList av [] i) o (bq i) (N i) (bM i) (av i):=by
  intro i o Z X wl;have X:l[i]?=some o:=by simpa using X
  rcases Nat.lt_or_ge i c with h5|h5
  ·obtain⟨p1,p2⟩:=Ot i o h5 X;have:=(Ex (Bj:=dp N (Y (O++I.b)) i) (Gj:=dZ av (Y I.g) i) (oL:=fz bM N [] i) (Av:=fF l av [] i) (B8 i o h5 X) p1 p2 (λ p hp hh=>by
    rw[KW i (by omega),Jv i (λ j q hj hq=>fk j q (by omega) hq),hh];have:=fk i p h5 hp;unfold aC at this;cases J:Y O p.1 with
    |none=>rfl
    |some y=>rw[J] at this;cases this)).2.2
   rw[<-vS i (by omega),<-Ar i h5,<-vp i h5,<-J5 i h5,<-FG i h5] at this;exact this
  ·obtain⟨j,rfl⟩:∃j,i=c+1+j:=⟨i-(c+1),by omega⟩;have:=VR j o (by rw[<-g2 j (by omega)];exact X);rw[<-KV j (by omega),<-KS j (by omega),<-KU j (by omega),<-RO j (by omega),<-RQ j (by omega),<-JW,<-FJ j (by omega),<-J6 j (by omega),<-FH j (by omega)] at this;exact this
 let sd:Nat->Bool:=λ i=>decide (i<k)&&!(i==c)&&!(jd l.toArray l.toArray.size i c)
 have EN:∀i,sd i=true->i<k/\i≠c/\∀o,l.toArray[i]?=some o->o.dst.isSome=true/\sw o=false:=λ i Z=>by
  simp only[sd,Bool.and_eq_true,decide_eq_true_eq,Bool.not_eq_true',beq_eq_false_iff_ne] at Z;refine⟨Z.1.1,Z.1.2,λ o X=>?_⟩;rcases Ox hP Z.1.1 Z.1.2 X with u|u
  ·rw[Z.2] at u;cases u
  ·exact u
 have Xm:∀i,sd i=true->bM i=false/\av i=none:=λ i Z=>by
  obtain⟨u,D,K⟩:=EN i Z;obtain⟨o,X⟩:=nJ i (by omega);have gZ:l.toArray[i]?=some o:=by simpa using X
  obtain⟨p1,p2⟩:=K o gZ;have:=Ex (Bj:=dp N (Y (O++I.b)) i) (Gj:=dZ av (Y I.g) i) (oL:=[]) (Av:=[]) (post i o u gZ D) p1 p2 (λ p hp hh=>hh);exact⟨this.1,this.2.1⟩
 refine⟨λ a e L=>?_⟩;have:=An (P:=P) (Γ:=Γ) (I:=I) (ap:=l.toArray) (H:=k) (λ _=>false) (λ i=>i==c) sd aR (Gl hT) (by omega) (bq:=bq) (N:=N) (bM:=bM) (av:=av) (B:=B) (a0:=a) (Q:=iZ Γ Q) Nk Mk
  (λ i Z=>by rcases Z with Z|Z;·cases Z
             ·rw[show i=c by simpa using Z];exact Nc)
  (λ i Z=>by rcases Z with Z|Z;·cases Z
             ·rw[show i=c by simpa using Z];exact Mc)
  (λ i o X=>by
   by_cases wl:i=c
   ·exact .inr (.inl (by simp[wl]))
   ·by_cases qS:jd l.toArray l.toArray.size i c=true
    ·exact .inr (.inr ⟨c,by simp,qS⟩)
    ·have qS:jd l.toArray l.toArray.size i c=false:=by simpa using qS
     rcases Nat.lt_or_ge i k with h5|h5
     ·exact .inl (by
       show(decide (i<k)&&!(i==c)&&!(jd l.toArray l.toArray.size i c))=true;rw[qS];simp[h5,wl])
     ·exfalso;rcases JJ hT X h5 (show c<i by omega) with⟨x,T,R,lE⟩|⟨_,h6⟩
      ·rw[show l.toArray.size=(l.length-1)+1 by omega] at qS;simp only[jd,X] at qS;have:(o.after.any λ e=>Region.binds .any e&&(e.on==c||jd l.toArray (l.length-1) e.on c))=true:=Array.any_eq_true'.2 ⟨x,T,by simp[R,lE]⟩;rw[this] at qS;cases qS
      ·rw[qS] at h6;cases h6)
  (.inl Xm) (λ b cs=>m9.get)
  (λ i o Z X _ aao ww=>by
   obtain⟨u,D,K⟩:=EN i ww;obtain⟨p1,p2⟩:=K o X;have cM:=post i o u X D;have cM:=(Ex (Bj:=dp N (Y I.b) i) (Gj:=dZ av (Y I.g) i) (oL:=fz bM N [] i) (Av:=fF l.toArray.toList av [] i) cM p1 p2 (λ p hp hh=>by
    obtain⟨q1,q2⟩:=py i hh;exact Fi i (If q1).2 q2)).2.2
   rcases cM with⟨a1,a2,a3,a4,a5⟩|cM|⟨nm,cs,aO,_,G,_⟩|⟨g,ak,ki,_,_,de,_⟩
   ·refine .inl ⟨a1,.inl (by rcases a2 with a2|⟨_,a2⟩<;>exact a2),a3,a4,a5⟩
   ·exact .inr (.inl cM)
   ·rw[G] at p1;cases p1
   ·rw[de] at p2;cases p2)
  (λ aD b V hv q2 q3 q4=>by
   have u:=q2 c o6;rw[q4 c (by simp)] at u;cases u)
  (λ fuel aD bu V i Z qI hr cf gq _=>by
   obtain rfl:i=c:=by simpa using Z
   have X:l.toArray[i]?=some oc:=by simpa using gc
   have jw:=(mem_ready.1 hr).1;have b8:dL l.toArray.toList bq (Y I.s) i=Y mX.s:=by show dL l bq (Y I.s) i=_;rw[vS i (Nat.le_refl _),<-vR]
   have hw:=cf.wanted aR X hr (c:=true) (by rw[b8];exact oy);have iR:=cf.h1 aR X hr;rw[b8] at iR;have yN:∀x∈oc.op.operands,∀d,ev (Y mX.s) x=some d->bt V (bu.eval x) d:=λ x T d G=>by
    cases x with
    |tmp ki=>exact iR ki (List.mem_append_left _ (List.mem_filterMap.2 ⟨.tmp ki,by simpa using T,rfl⟩)) d G
    |const v=>simp only[ev,vK,Option.some.injEq] at G;subst G;exact vJ _ v
    |global g=>cases G
    |func m7=>simp only[ev,Option.some.injEq] at G;subst G;exact .fn (us:=[]) (vs:=[]) rfl rfl (λ i v d h=>by simp at h) (λ i v d h=>by simp at h)
   have hv:=A5 (a:=bu) (e:=V) xs (λ x T=>yN x (by rw[pY];simp[Op.operands,Call.operands,T])) SR;have dh:∀b,aC O b=true->V.bx b=none:=λ b R=>by
    refine cf.dX b (U3 b R) λ j p M hu hp he=>?_
    have pb:j<l.length:=by
     rcases Nat.lt_or_ge j l.length with h5|h5
     ·exact h5
     ·rw[Nk j (by omega)] at hp;cases hp
    have Bv:j≠i:=λ e5=>by rw[e5,Nc] at hp;cases hp
    have lB:j<k:=by
     rcases Nat.lt_or_ge j k with h5|h5
     ·exact h5
     ·rw[Nk j h5] at hp;cases hp
    obtain⟨oj,ii⟩:=nJ j pb;rcases post j oj lB (by simpa using ii) Bv with⟨_,_,a3,_,_⟩|⟨_,_,a3,_,_⟩|⟨_,_,_,_,_,_,_,_,_,_,_,a3,_⟩|⟨_,_,_,_,_,_,_,_,a3,_⟩
    ·have:=(If (py j (a3 p hp).1).1).1;rw[he,R] at this;cases this
    ·rw[a3] at hp;cases hp
    ·rw[hu] at a3;cases a3
    ·rw[a3] at hp;cases hp
   unfold wpOp;simp only[X];rw[if_pos hw];refine .inl ?_;unfold Oper.wp;have e1:(execOp bu.eval oc).run P V.w=.ok (.enter f (xs.map bu.eval).toArray) V.w:=by obtain⟨dst,op,type,pos,after,guard⟩:=oc;simp only at pY;subst pY;rw[execOp_call_go,Hp];simp
   rw[e1];refine Calls.mono (SA (V.cut (aC ([]:List (Nat×List F))) λ _=>false) (xs.map bu.eval) (U9 V) ⟨hv.1,λ i v d u D=>(hv.2 i v d u D).cut (pp Uk D)⟩) λ r aH hh=>?_
   obtain⟨v,dH,ag,e2,rfl,rfl,SJ,hI,UB,hL⟩:=hh;obtain⟨rfl,rfl⟩:=hR dH ag SJ;have MA:=Rx cf.env dh hI hL UB;rw[<-Fc] at MA;have nO:=cf.We aR X hr Nc Mc MA;have yG:fuel=lL (aD.setIfInBounds i true):=by have:=JP jw;omega
   have dw:=(lV jw).2;refine An (P:=P) (Γ:=Γ) (I:=⟨I.s,ag++I.b,I.g⟩) (ap:=l.toArray) (H:=k) (λ j=>j==i) (λ _=>false) (λ _=>true) aR (Gl hT) (by omega) (bq:=bq) (N:=N) (bM:=bM) (av:=av) (B:=B) (a0:=a) (Q:=iZ Γ Q) Nk Mk
    (λ j hj=>by rcases hj with hj|hj;·rw[show j=i by simpa using hj];exact Nc
                ·cases hj)
    (λ j hj=>by rcases hj with hj|hj;·rw[show j=i by simpa using hj];exact Mc
                ·cases hj)
    (λ _ _ _=>.inl rfl) (.inr λ _=>rfl)
    (λ b cs R=>by
     have u:=m9.get R;have:aC ag b=false:=by
      cases h5:aC ag b with
      |false=>rfl
      |true=>rw[(qH b h5).2] at R;cases R
     rw[M5 this];exact u)
    (λ j o hj ii pR _ _=>by
     have cM:=post j o hj ii (by simpa using pR);rcases cM with⟨a1,a2,a3,a4,a5⟩|cM|cM|cM
     ·exact .inl ⟨a1,.inl (by rcases a2 with a2|⟨_,a2⟩<;>exact a2),a3,a4,a5⟩
     ·exact .inr (.inl cM)
     ·exact .inr (.inr (.inl cM))
     ·exact .inr (.inr (.inr cM)))
    (λ aD b e3 hv q2 q3 _=>by
     have R:bw Γ ji e3 b:=hv.om aR (by rw[KR];have:=KV (k-(i+1)) (Nat.le_refl _);rw[show i+1+(k-(i+1))=k by omega] at this;exact this.symm) (by rw[KN];have:=KS (k-(i+1)) (Nat.le_refl _);rw[show i+1+(k-(i+1))=k by omega] at this;exact this.symm) (by rw[KO];have:=KU (k-(i+1)) (Nat.le_refl _);rw[show i+1+(k-(i+1))=k by omega] at this;exact this.symm) q2 q3;exact Fv aR hT _ _ aD b e3.w (by omega) (Nat.le_refl _) hv.kK q2 q3 (by rw[Hn];exact hK.run b e3 R))
    (λ _ _ _ _ _ h=>by cases h)
    fuel _ _ (V.after e2 [] ag) yG nO (λ ki u D=>by rw[getD_set_ne true (by omega)];exact gq ki u D) (λ j hj=>by rw[show j=i by simpa using hj];simp[dw]) (λ j hj=>by cases hj))
  l.toArray.size (Array.replicate l.toArray.size false) a {e with w:=e.w.drew} (Fu _).symm
  ?_ (λ t _ ht=>by have wJ:t<l.length:=by simpa using ht
                   simp[wJ]) (λ i Z=>by cases Z) (λ i Z=>by
   have:i=c:=by simpa using Z
   have de:c<l.length:=by omega
   simp[this,de])
 ·exact wp_region_any hm this
 ·have hg:jI e {e with w:=e.w.drew}:=⟨(Below.refl _ _).drew,λ _ _=>rfl,rfl,rfl,rfl⟩;have ea:=L.grow hg;refine⟨by simp,L.size,L.df,λ i o _ M=>?_,λ i o t _ M=>?_,λ t _=>rfl,ea.bm,λ b cs R _=>ea.boxes b cs R,λ i p M=>?_,λ b R _=>ea.dX b R,λ g _=>ea.gs g,λ i p M=>?_,ea.env⟩
  all_goals(simp[Array.getElem?_replicate] at M;split at M<;>simp at M)
def At(O b B:List (Nat×List F)):Prop:=match O with
 |[]=>True
 |p::l=>Y b p.1=none/\Y B p.1=none/\At l b B
theorem At.get{b B:List (Nat×List F)}:∀{O:List (Nat×List F)}(_:At O b B){x:Nat},aC O x=true->Y b x=none/\Y B x=none
 |[],_,x,h=>by cases h
 |(k,v)::l,hf,x,h=>by
  unfold aC at h;rw[cL] at h;split at h
  ·rename_i e;subst e;exact⟨hf.1,hf.2.1⟩
  ·exact At.get hf.2.2 h
theorem Rl{l l2:List Oper}{B:List (Nat×List F)}{oc:Oper}{ix:Nat}{bC:St->Prop}{s:List (Nat×F)}{b:List (Nat×List F)}{g:List (Nat×Gr)}{f:FuncId}{ds:List F}{aE:F->List (Nat×List F)->Prop}{d:F}{O:List (Nat×List F)}{t:Nat}{xs:List Operand}{fb:Array TypeId}(hC:d8 P f [] ds [] aE)(hR:∀dH ag,aE dH ag->dH=d/\ag=O)(X:oc.op=.call {callee:=.value (.func f),args:=xs.toArray,argTypes:=fb})(hf:jj P f)(he:iv (Y s) xs some=some ds)(aR:F.ok.ec (aC ([]:List (Nat×List F))) (λ _=>false) ds=true)(hg:gd l oc (Y s)=some true)(G:oc.dst=some t)(M:Nat.blt t Γ.n=true)(qH:At O b B)
 (h:b9 P Γ.n l B B bC ix [] [] l2 ⟨(t,d)::s,O++b,g⟩):JU P Γ l B oc ix bC l2 ⟨s,b,g⟩:=⟨f,ds,aE,d,O,t,xs,fb,hC,hR,X,hf,he,aR,hg,G,M,λ _ T=>qH.get T,h⟩
end
end Go.Proofs.YtcnefjfboagbmaaGreat
end
section
namespace Go.Proofs.YtcnefjfboagbmaaGreat
open Go.Proofs.Tryz
open Go.RowKit
section
variable{P:Program}{ah:Nat->Option TI}{Γ:bE}{I:St}
inductive AC(e:ay)(nm n c sz:Nat)(ps:List Pl):Value->Prop where
 |none (hn:n=0) (L:c=0) (cM:ps=[]):AC e nm n c sz ps (.slice none 0 0)
 |empty {ad:Addr} (hn:n=0) (L:c=0) (cM:ps=[]):AC e nm n c sz ps (.slice (some ad) 0 0)
 |some {k:Nat} {vs:List Value} {el:TypeId} (J:e.bx nm=some k) (hh:e.w.heap[k]?=some (.cells vs.toArray el (0,0))) (M:vs.length=c*sz) (hn:n<=c) (cM:ps.length=n*sz) (hr:∀(j:Nat) v x,vs[j]?=some v->ps[j]?=some x->cV e v x):AC e nm n c sz ps (.slice (some ⟨k,0,none⟩) n c)
theorem QR(hT:cR P ah){e:ay}{a:Act}(L:bw Γ I e a){ty:TypeId}{nm n m c el z1 z2 sz:Nat}{z3:Value}{ps qs:List Pl}{i:TI}{vx vy:Value}{t:TypeId}(ht:ah t=some ⟨.slice el,z1,z2,z3⟩)(dR:ah el=some i)(gI:i.zero.cells.size=sz)(Ec:i.sz=sz)(h0:0<sz)(dv:Y Γ.kb nm=none)
 (T:AC e nm n c sz ps vx)(jp:c<=maxLen)(eR:cV e vy (.sl false m qs))(hm:0<m)(dT:qs.length=m*sz)
 (fM:n+m<=maxLen)(fU:(n+m)*i.bytes<=140737488355328):∃v V aO bU,(Builtin.append_ #[t,t] ty #[vx,vy]).run P e.w=.ok v V.w/\aO.length=bU*sz/\bU<=maxLen/\n+m<=bU/\aO.take ((n+m)*sz)=(ps++qs).map F.p/\eN aO/\
  bw Γ ⟨qw (cj nm) I.s,(nm,aO)::hl (Nat.beq nm) (cj nm) I.b,I.g⟩ V a/\bt V v (.arr nm 0 (n+m) bU):=by
 obtain⟨d0,dI,J⟩:=hT.desc t _ ht;cases d0<;>simp only[jg,reduceCtorEq,TK.slice.injEq] at J
 rw[J] at dI;obtain⟨fN,lY,bT,rO,hz⟩:=hT.info _ i dR;rw[Ec] at bT;obtain⟨aF,kN,rfl,MK,MM,Lz,_,hY⟩:=pu eR;have BP:qs≠[]:=λ V=>by rw[V] at dT;simp only[List.length_nil] at dT;have:=Nat.mul_pos hm h0;omega
 rcases hY with hY|⟨yb,yo,rfl,Be⟩
 ·exact absurd hY BP
 obtain⟨us,qV,pk,kZ,tf⟩:=AM Be;have oF:us.length=m*fN.size:=by rw[qV,dT,bT]
 have l7:(n+m)*sz=n*sz+m*sz:=Nat.add_mul _ _ _;have te:us.length=m*sz:=by rw[qV,dT]
 have sQ:=L.forget nm dv;have BI:Y (hl (Nat.beq nm) (cj nm) I.b) nm=none:=by
  cases h:Y (hl (Nat.beq nm) (cj nm) I.b) nm with
  |none=>rfl
  |some cs=>have:=(yh h).1;simp at this
 have rS:∀(os:List Value),os.length=n*sz->ps.length=n*sz->(∀(j:Nat) v x,os[j]?=some v->ps[j]?=some x->cV e v x)->(c<n+m)->(Builtin.append_ #[t,t] ty #[vx,.slice (some ⟨yb,yo,none⟩) m kN]).run P e.w=.ok (.slice (some ⟨e.w.heap.size,0,none⟩) (n+m) (grownCap e.w (n+m) c el)) (e.w.drew.alloc (.cells (os.toArray++us.toArray++Builtin.zeroCells i.zero.cells (grownCap e.w (n+m) c el-(n+m))) el))->
  ∃v V aO bU,(Builtin.append_ #[t,t] ty #[vx,.slice (some ⟨yb,yo,none⟩) m kN]).run P e.w=.ok v V.w/\aO.length=bU*sz/\bU<=maxLen/\n+m<=bU/\aO.take ((n+m)*sz)=(ps++qs).map F.p/\eN aO/\
  bw Γ ⟨qw (cj nm) I.s,(nm,aO)::hl (Nat.beq nm) (cj nm) I.b,I.g⟩ V a/\bt V v (.arr nm 0 (n+m) bU):=by
  intro os iQ cM s0 bh cG;have gH:n+m<=grownCap e.w (n+m) c el:=grownCap_ge _ _ _ _;have nK:grownCap e.w (n+m) c el<=maxLen:=grownCap_le_maxLen _ _ _ _ fM;generalize grownCap e.w (n+m) c el=bP at gH nK cG
  let e1:=e.cut (cj nm) λ _=>true
  let io:List Value:=os++us++(Builtin.zeroCells i.zero.cells (bP-(n+m))).toList
  have s9:os.toArray++us.toArray++Builtin.zeroCells i.zero.cells (bP-(n+m))=io.toArray:=by apply Array.ext';simp[io]
  have cg:io.length=bP*sz:=by
   have:(Builtin.zeroCells i.zero.cells (bP-(n+m))).toList.length=(bP-(n+m))*sz:=by rw[Array.length_toList,size_zeroCells,gI]
   simp only[io,List.length_append,iQ,te,this];have:=Nat.mul_le_mul_right sz gH;rw[Nat.sub_mul];omega
  rw[s9] at cG
  let e2:ay:={e1 with w:=e.w.drew}
  have i8:jI e1 e2:=⟨(Below.refl _ _).drew,λ _ _=>rfl,rfl,rfl,rfl⟩;have dS:=ay.sr e2 (.cells io.toArray el) (some 0);have ez:=(sQ.grow i8).grow dS;have G3:Ends e1 (e2.alloc (.cells io.toArray el) (some 0)):=i8.ends.trans dS.ends;have nR:∀(j:Nat) v x,io[j]?=some v->(ps++qs)[j]?=some x->cV e1 v x:=by
   intro j v x hv T;rcases Nat.lt_or_ge j (n*sz) with hj|hj
   ·rw[List.getElem?_append_left (by omega)] at T;simp only[io,List.append_assoc] at hv;rw[List.getElem?_append_left (by omega)] at hv;exact(s0 j v x hv T).cut
   ·rw[List.getElem?_append_right (by omega),cM] at T;have HG:=(List.getElem?_eq_some_iff.1 T).1;simp only[io,List.append_assoc] at hv;rw[List.getElem?_append_right (by omega),iQ,List.getElem?_append_left (by omega)] at hv;exact(tf _ v x hv T).cut
  have bG:(ps++qs).length=(n+m)*sz:=by rw[List.length_append,cM,dT,l7]
  have sM:=EX (e:=e1) (vs:=io) (ps:=ps++qs) (by rw[bG,cg];exact Nat.mul_le_mul_right sz gH) nR;have iw:(e2.alloc (.cells io.toArray el) (some 0)).bx nm=none:=by show(if cj nm nm=true then e.bx nm else none)=none;simp[cj]
  have vZ:=sm (k:=e.w.heap.size) iw;have wj:=ez.Dx (b:=nm) (k:=e.w.heap.size) (cs:=(ps++qs).map F.p++List.replicate (io.length-(ps++qs).length) F.any) BI (by simp[ay.alloc,e2]) (.inl L.env.kept.size) (by simp[ay.alloc,e2]) (by
   show(e.cut (cj nm) λ _=>true).gr _=none;show(match e.gr e.w.heap.size with|some g=>if true=true then some g else none|none=>none)=none;cases hg:e.gr e.w.heap.size with
   |none=>rfl
   |some g=>obtain⟨_,_,_,K,_⟩:=L.env.gr _ g hg;omega) (λ x T=>by
   have fJ:(if cj nm x=true then e.bx x else none)=some e.w.heap.size:=T;split at fJ
   ·have:=(L.env.bx x _ fJ).1;omega
   ·cases fJ) ⟨e.w.heap.size,io,el,by simp[ay.ip],heap_alloc_new e2.w _,(sM.next G3).next vZ⟩
  refine⟨_,(e2.alloc (.cells io.toArray el) (some 0)).ip nm e.w.heap.size,_,bP,cG,?_,nK,gH,?_,EZ _ _,wj,.arr (by simp[ay.ip])⟩
  ·simp only[List.length_append,List.length_map,List.length_replicate,cg,cM,dT];have:=Nat.mul_le_mul_right sz gH;omega
  ·rw[<-bG,List.take_append_of_le_length (by simp),List.take_of_length_le (by simp)]
 cases T with
 |empty hn ho cM=>rename_i ad;subst hn;subst ho;subst cM;have cG:=run_append_grow (P:=P) e.w t ty el fN i.zero dI lY hz ad 0 0 [] (by simp) (λ j v hj=>by simp at hj) ⟨yb,yo,none⟩ m kN us oF pk (by omega) (by simp only[maxLen] at fM;omega) (growslice_fits (by omega) (by rw[rO];exact fU));exact rS [] (by simp) (by simp) (λ j v x hj=>by simp at hj) (by omega) cG
 |none hn ho cM=>subst hn;subst ho;subst cM;have cG:=run_append_nil (P:=P) e.w t ty el fN i.zero dI lY hz ⟨yb,yo,none⟩ m kN us oF pk hm (by simp only[maxLen] at fM;omega) (by rw[rO];simp only[Nat.zero_add] at fU;omega);exact rS [] (by simp) (by simp) (λ j v x hj=>by simp at hj) (by omega) (by simpa using cG)
 |some J hh M hn cM hr=>
  rename_i k vs oT
  by_cases oE:n+m<=c
  ·have cG:=O2 (P:=P) e.w t ty el oT fN dI lY k n c vs.toArray hh ⟨yb,yo,none⟩ m kN us oF pk kZ oE (by rw[bT,te];simp only[List.size_toArray,M];have:=Nat.mul_le_mul_right sz oE;omega);obtain⟨u,D,K,h4⟩:=L.env.bx nm k J
   let eV:=vs.take (n*sz)++us++vs.drop ((n+m)*sz)
   have eK:=Nat.mul_le_mul_right sz oE;have qW:(vs.toArray.toList.take (n*fN.size)++us++vs.toArray.toList.drop (n*fN.size+us.length))=eV:=by simp only[bT,te,eV,l7]
   rw[qW] at cG;have dh:∀x,(e.cut (cj nm) λ _=>true).bx x≠some k:=λ x T=>by
    have fJ:(if cj nm x=true then e.bx x else none)=some k:=T;split at fJ
    ·rename_i cP;exact IL cP (L.env.inj _ _ _ fJ J)
    ·cases fJ
   have sT:(e.cut (cj nm) λ _=>true).gr k=none:=by show(match e.gr k with|some g=>if true=true then some g else none|none=>none)=none;rw[h4]
   obtain⟨tc,A⟩:=sQ.O7 eV D K sT dh;have cg:eV.length=c*sz:=by simp only[eV,List.length_append,List.length_take,List.length_drop,te,M];omega
   have bG:(ps++qs).length=(n+m)*sz:=by rw[List.length_append,cM,dT,l7]
   have nR:∀(j:Nat) v x,eV[j]?=some v->(ps++qs)[j]?=some x->cV (e.cut (cj nm) λ _=>true) v x:=by
    intro j v x hv T;rcases Nat.lt_or_ge j (n*sz) with hj|hj
    ·rw[List.getElem?_append_left (by omega)] at T;simp only[eV,List.append_assoc] at hv;rw[List.getElem?_append_left (by simp only[List.length_take,M];omega),List.getElem?_take,if_pos hj] at hv;exact(hr j v x hv T).cut
    ·rw[List.getElem?_append_right (by omega),cM] at T;have HG:=(List.getElem?_eq_some_iff.1 T).1;simp only[eV,List.append_assoc] at hv;rw[List.getElem?_append_right (by simp only[List.length_take,M];omega),List.length_take,M,Nat.min_eq_left (by omega),List.getElem?_append_left (by omega)] at hv;exact(tf _ v x hv T).cut
   have sM:=EX (vs:=eV) (ps:=ps++qs) (by rw[bG,cg];exact eK) nR;have iw:(e.cut (cj nm) λ _=>true).bx nm=none:=by show(if cj nm nm=true then e.bx nm else none)=none;simp[cj]
   have vZ:=sm (e:={w:=(e.cut (cj nm) λ _=>true).w.setRow k eV.toArray,cl:=(e.cut (cj nm) λ _=>true).cl,bx:=(e.cut (cj nm) λ _=>true).bx,gr:=(e.cut (cj nm) λ _=>true).gr,gi:=(e.cut (cj nm) λ _=>true).gi}) (b:=nm) (k:=k) iw;have wj:=tc.Dx (b:=nm) (k:=k) (cs:=(ps++qs).map F.p++List.replicate (eV.length-(ps++qs).length) F.any) BI (by show k<(e.w.setRow k _).heap.size;rw[setRow_size];exact u) D K sT dh ⟨k,eV,oT,by simp[ay.ip],C7 hh,(sM.next A).next vZ⟩;refine⟨_,_,_,c,cG,?_,jp,oE,?_,EZ _ _,wj,.arr (by simp[ay.ip])⟩
   ·simp only[List.length_append,List.length_map,List.length_replicate,cg,cM,dT];omega
   ·rw[<-bG,List.take_append_of_le_length (by simp),List.take_of_length_le (by simp)]
  ·have cG:=run_append_grow (P:=P) e.w t ty el fN i.zero dI lY hz ⟨k,0,none⟩ n c (vs.take (n*sz)) (by rw[bT,List.length_take,M];have:=Nat.mul_le_mul_right sz hn;omega) (λ j v hj=>by
    rw[List.getElem?_take] at hj;split at hj
    ·rw[qq,cell_of_row e.w k (0+j) vs.toArray oT (0,0) hh];simpa using hj
    ·cases hj) ⟨yb,yo,none⟩ m kN us oF pk (by omega) (by simp only[maxLen] at fM;omega) (growslice_fits (by omega) (by rw[rO];exact fU))
   exact rS (vs.take (n*sz)) (by rw[List.length_take,M];have:=Nat.mul_le_mul_right sz hn;omega) cM (λ j v x hv T=>by
    rw[List.getElem?_take] at hv;split at hv
    ·exact hr j v x hv T
    ·cases hv) (by omega) cG
end
section
variable{P:Program}{ah:Nat->Option TI}{Γ:bE}{o:Oper}{l0 l:List Oper}{Q:Exit->St->Prop}
variable{s U:List (Nat×F)}{b bj:List (Nat×List F)}{g:List (Nat×Gr)}{t:Nat}
theorem Ki(hT:cR P ah)(nm:Nat){ty:TypeId}{x y:Operand}{n m c el z1 z2 sz:Nat}{z3:Value}{ps qs:List Pl}{dy:F}{i:TI}(X:o.op=.call {callee:=.builtin .append,args:=#[x,y],argTypes:=#[ty,ty]})(ht:ah ty=some ⟨.slice el,z1,z2,z3⟩)(dR:ah el=some i)(gI:Nat.beq i.zero.cells.size sz=true)(bT:Nat.beq i.sz sz=true)(h0:Nat.blt 0 sz=true)
 (hg:gd l0 o (Y s)=some true)(G:o.dst=some t)(M:Nat.blt t Γ.n=true)(dv:Y Γ.kb nm=none)(T:∀(a:Act)(e:ay),bw Γ ⟨s,b,g⟩ e a->AC e nm n c sz ps (a.eval x))(jp:c<=maxLen)(hy:ev (Y s) y=some dy)(kF:mj dy=some (m,qs))(hm:0<m)(dT:qs.length=m*sz)
 (fM:n+m<=maxLen)(fU:(n+m)*i.bytes<=140737488355328)(fV:kA (cj nm) s (λ U=>kQ (Nat.beq nm) (cj nm) b (λ bj=>some (U,bj)))=some (U,bj))
 (h:∀aO bU,aO.length=bU*sz->bU<=maxLen->n+m<=bU->aO.take ((n+m)*sz)=(ps++qs).map F.p->eN aO->bp P Γ l0 Q l ⟨(t,.arr nm 0 (n+m) bU)::U,(nm,aO)::bj,g⟩):bp P Γ l0 Q (o::l) ⟨s,b,g⟩:=by
 rw[sD,sC] at fV;cases fV;refine⟨λ a e L=>?_⟩;unfold wpList;rw[if_pos (kS L hg)];have iR:=L.h1 o.op.operands;have eR:=u7 (iR.1 y (by rw[X];simp[Op.operands,Call.operands]) _ hy) kF;obtain⟨v,V,aO,bU,cG,u,D,K,h4,bG,h5,h6⟩:=QR hT L (ty:=o.type) ht dR (Nat.eq_of_beq_eq_true gI) (Nat.eq_of_beq_eq_true bT) (by rw[Nat.blt_eq] at h0;exact h0) dv (T a e L) jp eR hm dT fM fU;refine .inl ?_;unfold Oper.wp;rw[O1 X cG];have:=(h5.put (dst:=o.dst) (oS G M) h6);rw[G] at this;show wpList P l0.toArray (iZ Γ Q) l (a.put o.dst v) V.w;rw[G];exact(h aO bU u D K h4 bG).run _ V this
theorem F5(hT:cR P ah){nm:Nat}{ty:TypeId}{x y:Operand}{n m c el z1 z2 sz:Nat}{z3:Value}{cs:List F}(ps:List Pl){qs:List Pl}{dy:F}{i:TI}(X:o.op=.call {callee:=.builtin .append,args:=#[x,y],argTypes:=#[ty,ty]})(ht:ah ty=some ⟨.slice el,z1,z2,z3⟩)(dR:ah el=some i)(gI:Nat.beq i.zero.cells.size sz=true)(bT:Nat.beq i.sz sz=true)(h0:Nat.blt 0 sz=true)
 (hg:gd l0 o (Y s)=some true)(G:o.dst=some t)(M:Nat.blt t Γ.n=true)(T:ev (Y s) x=some (.arr nm 0 n c))(dv:Y Γ.kb nm=none)(R:Y b nm=some cs)(hy:ev (Y s) y=some dy)(kF:mj dy=some (m,qs))(fV:kA (cj nm) s (λ U=>kQ (Nat.beq nm) (cj nm) b (λ bj=>some (U,bj)))=some (U,bj))
 (cr:cs.length=c*sz)(rZ:n<=c)(cM:ps.length=n*sz)(mP:cs.take (n*sz)=ps.map F.p)(jp:c<=maxLen)(hm:0<m)(dT:qs.length=m*sz)(fM:n+m<=maxLen)(fU:(n+m)*i.bytes<=140737488355328)
 (h:∀aO bU,aO.length=bU*sz->bU<=maxLen->n+m<=bU->aO.take ((n+m)*sz)=(ps++qs).map F.p->eN aO->bp P Γ l0 Q l ⟨(t,.arr nm 0 (n+m) bU)::U,(nm,aO)::bj,g⟩):bp P Γ l0 Q (o::l) ⟨s,b,g⟩:=by
 refine Ki hT nm X ht dR gI bT h0 hg G M dv (λ a e L=>?_) jp hy kF hm dT fM fU fV h;have bV:=(L.h1 o.op.operands).1 x (by rw[X];simp[Op.operands,Call.operands]) _ T;obtain⟨k,vs,oT,u,D,K⟩:=L.boxes nm cs R;generalize a.eval x=vx at bV;cases bV with
 |arr J=>rw[u] at J;cases J;exact .some u D (by rw[K.1,cr]) rZ cM (I1 K (by rw[cM];exact mP))
theorem F4(hT:cR P ah)(nm:Nat){ty:TypeId}{x y:Operand}{m el z1 z2 sz:Nat}{z3:Value}{qs:List Pl}{dy:F}{i:TI}(X:o.op=.call {callee:=.builtin .append,args:=#[x,y],argTypes:=#[ty,ty]})(ht:ah ty=some ⟨.slice el,z1,z2,z3⟩)(dR:ah el=some i)(gI:Nat.beq i.zero.cells.size sz=true)(bT:Nat.beq i.sz sz=true)(h0:Nat.blt 0 sz=true)
 (hg:gd l0 o (Y s)=some true)(G:o.dst=some t)(M:Nat.blt t Γ.n=true)(T:ev (Y s) x=some (.p (.sl true 0 [])))(dv:Y Γ.kb nm=none)(hy:ev (Y s) y=some dy)(kF:mj dy=some (m,qs))(fV:kA (cj nm) s (λ U=>kQ (Nat.beq nm) (cj nm) b (λ bj=>some (U,bj)))=some (U,bj))
 (hm:0<m)(dT:qs.length=m*sz)(fM:m<=maxLen)(fU:m*i.bytes<=140737488355328)
 (h:∀aO bU,aO.length=bU*sz->bU<=maxLen->m<=bU->aO.take (m*sz)=qs.map F.p->eN aO->bp P Γ l0 Q l ⟨(t,.arr nm 0 m bU)::U,(nm,aO)::bj,g⟩):bp P Γ l0 Q (o::l) ⟨s,b,g⟩:=by
 refine Ki hT nm (n:=0) (c:=0) (ps:=[]) X ht dR gI bT h0 hg G M dv (λ a e L=>?_) (Nat.zero_le _) hy kF hm dT (by omega) (by simpa using fU) fV (λ aO bU u D K h4 bG=>?_)
 ·have bV:=(L.h1 o.op.operands).1 x (by rw[X];simp[Op.operands,Call.operands]) _ T;generalize a.eval x=vx at bV;cases bV with
  |p u=>
   obtain⟨ar,bP,rfl,_,_,_,h5,_⟩:=pu u;have:=h5 rfl;subst this;cases ar with
   |none=>exact .none rfl rfl rfl
   |some ad=>exact .empty rfl rfl rfl
 ·simp only[Nat.zero_add,List.nil_append] at K h4⊢;exact h aO bU u D K h4 bG
end
end Go.Proofs.YtcnefjfboagbmaaGreat
end
section
namespace Go.Proofs.YtcnefjfboagbmaaGreat
open Go.Proofs.Tryz
open Go.RowKit
section
variable{P:Program}{ah:Nat->Option TI}{Γ:bE}
variable{s U:List (Nat×F)}{b bj:List (Nat×List F)}{g:List (Nat×Gr)}
end
end Go.Proofs.YtcnefjfboagbmaaGreat
end
section
namespace Go.Proofs.YtcnefjfboagbmaaGreat
open Go.Proofs.Tryz
open Go.ChangeShapes Go.WideShapes Go.ChangeAt Go.RowKit Go.Deep
abbrev m6(w:World):ay:=gl w (λ _=>none)
theorem Rp(w:World)(b o:Nat):(m6 w).mv b o:=λ k J=>by cases J
def dM(e:ay)(vs:List Value)(ps:List Pl):Prop:=vs.length=ps.length/\∀(i:Nat) v x,vs[i]?=some v->ps[i]?=some x->cV e v x/\lc v=true
theorem dM.nil(e:ay):dM e [] []:=⟨rfl,λ i v x h=>by simp at h⟩
theorem dM.cons{e:ay}{v:Value}{x:Pl}{vs:List Value}{ps:List Pl}(h:cV e v x)(M:lc v=true)(hs:dM e vs ps):dM e (v::vs) (x::ps):=by
 refine⟨by simp[hs.1],λ i aa y u D=>?_⟩;cases i with
 |zero=>simp at u D;subst u;subst D;exact⟨h,M⟩
 |succ i=>exact hs.2 i aa y (by simpa using u) (by simpa using D)
theorem dM.int{e:ay}{k:IntKind}{n:Int}{vs:List Value}{ps:List Pl}(hs:dM e vs ps):dM e (.int k n::vs) (.raw (.int k n)::ps):=.cons (.raw _) rfl hs
theorem dM.bool{e:ay}{b:Bool}{vs:List Value}{ps:List Pl}(hs:dM e vs ps):dM e (.bool b::vs) (.raw (.bool b)::ps):=.cons (.raw _) rfl hs
theorem dM.append{e:ay}{vs us:List Value}{ps qs:List Pl}(h:dM e vs ps)(bN:dM e us qs):dM e (vs++us) (ps++qs):=by
 refine⟨by simp[h.1,bN.1],λ i v d u D=>?_⟩;rcases Nat.lt_or_ge i vs.length with Z|Z
 ·rw[List.getElem?_append_left Z] at u;rw[List.getElem?_append_left (by rw[<-h.1];exact Z)] at D;exact h.2 i v d u D
 ·rw[List.getElem?_append_right Z] at u;rw[List.getElem?_append_right (by rw[<-h.1];exact Z),<-h.1] at D;exact bN.2 _ v d u D
section
variable{H:Type}{enc:TypeId×Value->H}{P:Program}{w:World}{base:Nat}{kh:Nat->Bool}{aM:Bool}
theorem XK{t e:TypeId}{len bP:Nat}(ht:P.underlying t=some (.slice e))(h:Read enc P w base kh aM t [.slice none len bP]):bP=0:=by
 obtain⟨m,y,h⟩:=h;rcases open_slice ht h with⟨e,_⟩|⟨a,len,bP,za,n,aI,Pl,e,R,M,hm,Mq,T,Z⟩
 ·simp at e;omega
 ·simp at e
theorem XM{aq:Type}{t e:TypeId}{sz:Nat}(f:aq->List Pl)(ok:aq->Prop)(bT:0<sz)(hf:∀x,(f x).length=sz)(ht:P.underlying t=some (.slice e))(L:P.cellsOf e=sz)
 (BJ:∀cs,cs.length=sz->Read enc P w base kh aM e cs->∃x,ok x/\dM (m6 w) cs (f x)){v:Value}(h:Read enc P w base kh aM t [v]):
 ∃l:List aq,(∀x∈l,ok x)/\l.length<=maxLen/\cV (m6 w) v (.sl false l.length (l.flatMap f))/\lc v=true:=by
 have h0:=h;obtain⟨ar,l0,bP,e1,M,hm,aR,yD⟩:=XL (e:=e) (sz:=sz) (aq:={p:List Value×aq//p.1.length=sz/\ok p.2/\dM (m6 w) p.1 (f p.2)}) (λ p=>p.1.1) (λ _=>True) bT (λ p=>p.2.1) ht L (λ cs cg hr=>by
  obtain⟨x,u,D⟩:=BJ cs cg hr;exact⟨⟨(cs,x),cg,u,D⟩,rfl,trivial⟩) h
 injection e1 with e1 _
 subst e1;have qK:∀(l:List {p:List Value×aq//p.1.length=sz/\ok p.2/\dM (m6 w) p.1 (f p.2)})(j:Nat)(q:Pl),((l.map λ p=>p.1.2).flatMap f)[j]?=some q->∃p,l[j/sz]?=some p/\(f p.1.2)[j%sz]?=some q:=by
  intro l;induction l with
  |nil=>intro j q h;simp at h
  |cons p l ih=>
   intro j q h;rw[List.map_cons,List.flatMap_cons] at h;rcases Nat.lt_or_ge j sz with hj|hj
   ·rw[List.getElem?_append_left (by rw[hf];exact hj)] at h;exact⟨p,by rw[Nat.div_eq_of_lt hj];rfl,by rw[Nat.mod_eq_of_lt hj];exact h⟩
   ·rw[List.getElem?_append_right (by rw[hf];exact hj),hf] at h;obtain⟨zo,u,D⟩:=ih _ q h;refine⟨zo,?_,by rw[Nat.mod_eq_sub_mod hj];exact D⟩;rw[Nat.div_eq_sub_div bT hj]
    simpa using u
 refine⟨l0.map λ p=>p.1.2,λ x T=>?_,by simp;omega,?_,rfl⟩
 ·obtain⟨p,_,rfl⟩:=List.mem_map.1 T;exact p.2.2.1
 ·rw[List.length_map];refine Ah M hm (λ V=>?_) (λ V=>by cases V) ?_
  ·subst V;exact XK ht h0
  ·rcases wn:l0 with _|⟨p,l1⟩
   ·exact .inl (by simp)
   ·right;rw[<-wn];obtain⟨b,o,hA,_,_⟩:=yD 0 p (by rw[wn];rfl);have dc:∀(j:Nat) q,((l0.map λ p=>p.1.2).flatMap f)[j]?=some q->∃aa,w.cell? ⟨b,o+j,none⟩=some aa/\lc aa=true/\cV (m6 w) aa q:=by
     intro j q hq;obtain⟨zo,u,D⟩:=qK l0 j q hq;obtain⟨bj,o',A9,_,ea⟩:=yD _ zo u;rw[hA] at A9;cases A9;have l5:j%sz<zo.1.1.length:=by rw[zo.2.1];exact Nat.mod_lt _ bT
     have hu:=ea (j%sz) _ (List.getElem?_eq_getElem l5);obtain⟨h5,h6⟩:=zo.2.2.2.2 (j%sz) _ q (List.getElem?_eq_getElem l5) D;have hj:j/sz*sz+j%sz=j:=by rw[Nat.mul_comm];exact Nat.div_add_mod j sz
     rw[hj] at hu;exact⟨_,hu,h6,h5⟩
    refine⟨b,o,hA,λ j=>(w.cell? ⟨b,o+j,none⟩).getD undef,λ j q hq=>?_⟩;obtain⟨aa,u,D,K⟩:=dc j q hq;have hg:(w.cell? ⟨b,o+j,none⟩).getD undef=aa:=by rw[u];rfl
    show _/\_=some ((w.cell? ⟨b,o+j,none⟩).getD undef)/\lc ((w.cell? ⟨b,o+j,none⟩).getD undef)=true/\cV _ ((w.cell? ⟨b,o+j,none⟩).getD undef) q;rw[hg];exact⟨Rp _ _ _,u,D,K⟩
theorem Kk{aq:Type}{t:TypeId}{fs:Array Field}{v:Value}{r:Reach}{b0:Nat}(f:aq->List Pl)(ok:aq->Prop)(hu:P.underlying t=some (.struct fs))(hv:Value.okWide P w r b0 t v)(h:Read enc P w base kh aM t v.cells.toList)
 (BJ:∀cs,cs.length=P.cellsOf t->Read enc P w base kh aM t cs->∃x,ok x/\dM (m6 w) cs (f x)):∃x,ok x/\bt (m6 w) v (.agg ((f x).map .p)):=by
 obtain⟨cs,rfl,cr⟩:=okWide_struct hu hv;obtain⟨x,u,D⟩:=BJ cs.toList (by simpa using cr) h;refine⟨x,u,?_⟩;have:bt (m6 w) (.agg cs.toList.toArray) (.agg ((f x).map .p)):=.agg (by simp[D.1]) (λ i aa d hu G=>by
  rw[List.getElem?_map] at G;rcases hp:(f x)[i]? with _|q
  ·rw[hp] at G;cases G
  ·rw[hp] at G;cases G;exact .p (D.2 i aa q hu hp).1)
 simpa using this
theorem run_law{P:Program}{f:FuncId}{ds:List F}(L:aW P f ds (dB true)){w:World}{vs:List Value}(h:DReps (m6 w) vs ds):Calls P f vs.toArray w λ e aH=>e=.returned (.bool true)/\Below w.heap.size w aH:=by
 refine(L w _ vs h).mono λ e aH hh=>?_
 obtain⟨v,bz,rfl,R,_,hr⟩:=hh;exact⟨by rw[cE hr],R⟩
end
end Go.Proofs.YtcnefjfboagbmaaGreat
end
namespace Go.Proofs.YtcnefjfboagbmaaGreat
open Go.Proofs.Tryz
open Go.RowKit
def PD:List (Nat×TI):=[
 (0,⟨.other,1,0,(Value.tuple #[])⟩),
 (1,⟨.other,1,8,Value.nilFunc⟩),
 (2,⟨(.int .i64),1,8,(Value.int IntKind.i64 0)⟩),
 (3,⟨(.int .i64),1,8,(Value.int IntKind.i64 0)⟩),
 (4,⟨.bool,1,1,(Value.bool false)⟩),
 (5,⟨(.int .u8),1,1,(Value.int IntKind.u8 0)⟩),
 (6,⟨(.int .u8),1,1,(Value.int IntKind.u8 0)⟩),
 (7,⟨(.struct [(2,0,1),(3,1,1),(4,2,1),(6,3,1)]),4,24,(Value.agg #[Value.int IntKind.i64 0,Value.int IntKind.i64 0,Value.bool false,Value.int IntKind.u8 0])⟩),
 (8,⟨(.struct [(2,0,1),(3,1,1),(4,2,1),(6,3,1)]),4,24,(Value.agg #[Value.int IntKind.i64 0,Value.int IntKind.i64 0,Value.bool false,Value.int IntKind.u8 0])⟩),
 (9,⟨.str,1,16,(Value.string {data:=#[]})⟩),
 (10,⟨.str,1,16,(Value.string {data:=#[]})⟩),
 (11,⟨.str,1,16,(Value.string {data:=#[]})⟩),
 (12,⟨(.int .u64),1,8,(Value.int IntKind.u64 0)⟩),
 (13,⟨(.struct [(9,0,1),(12,1,1)]),2,24,(Value.agg #[Value.string {data:=#[]},Value.int IntKind.u64 0])⟩),
 (14,⟨(.struct [(9,0,1),(12,1,1)]),2,24,(Value.agg #[Value.string {data:=#[]},Value.int IntKind.u64 0])⟩),
 (15,⟨.other,1,8,(Value.pointer none)⟩),
 (16,⟨.other,1,8,(Value.pointer none)⟩),
 (17,⟨.other,1,8,(Value.pointer none)⟩),
 (18,⟨(.struct [(17,0,1)]),1,8,(Value.agg #[Value.pointer none])⟩),
 (19,⟨(.struct [(17,0,1)]),1,8,(Value.agg #[Value.pointer none])⟩),
 (20,⟨.other,1,16,Value.nilIface⟩),
 (21,⟨(.int .i32),1,4,(Value.int IntKind.i32 0)⟩),
 (22,⟨(.struct [(3,0,1),(3,1,1),(3,2,1),(3,3,1),(3,4,1),(3,5,1),(3,6,1),(3,7,1),(3,8,1)]),9,72,(Value.agg #[Value.int IntKind.i64 0,Value.int IntKind.i64 0,Value.int IntKind.i64 0,Value.int IntKind.i64 0,Value.int IntKind.i64 0,Value.int IntKind.i64 0,Value.int IntKind.i64 0,Value.int IntKind.i64 0,Value.int IntKind.i64 0])⟩),
 (23,⟨(.struct [(3,0,1),(3,1,1),(3,2,1),(3,3,1),(3,4,1),(3,5,1),(3,6,1),(3,7,1),(3,8,1)]),9,72,(Value.agg #[Value.int IntKind.i64 0,Value.int IntKind.i64 0,Value.int IntKind.i64 0,Value.int IntKind.i64 0,Value.int IntKind.i64 0,Value.int IntKind.i64 0,Value.int IntKind.i64 0,Value.int IntKind.i64 0,Value.int IntKind.i64 0])⟩),
 (24,⟨(.struct [(23,0,9),(3,9,1),(3,10,1),(3,11,1),(3,12,1),(3,13,1),(3,14,1),(3,15,1),(3,16,1),(3,17,1),(3,18,1),(3,19,1),(3,20,1),(3,21,1),(3,22,1),(3,23,1),(3,24,1)]),25,200,(Value.agg #[Value.int IntKind.i64 0,Value.int IntKind.i64 0,Value.int IntKind.i64 0,Value.int IntKind.i64 0,Value.int IntKind.i64 0,Value.int IntKind.i64 0,Value.int IntKind.i64 0,Value.int IntKind.i64 0,Value.int IntKind.i64 0,Value.int IntKind.i64 0,Value.int IntKind.i64 0,Value.int IntKind.i64 0,Value.int IntKind.i64 0,Value.int IntKind.i64 0,Value.int IntKind.i64 0,Value.int IntKind.i64 0,Value.int IntKind.i64 0,Value.int IntKind.i64 0,Value.int IntKind.i64 0,Value.int IntKind.i64 0,Value.int IntKind.i64 0,Value.int IntKind.i64 0,Value.int IntKind.i64 0,Value.int IntKind.i64 0,Value.int IntKind.i64 0])⟩),
 (25,⟨(.struct [(23,0,9),(3,9,1),(3,10,1),(3,11,1),(3,12,1),(3,13,1),(3,14,1),(3,15,1),(3,16,1),(3,17,1),(3,18,1),(3,19,1),(3,20,1),(3,21,1),(3,22,1),(3,23,1),(3,24,1)]),25,200,(Value.agg #[Value.int IntKind.i64 0,Value.int IntKind.i64 0,Value.int IntKind.i64 0,Value.int IntKind.i64 0,Value.int IntKind.i64 0,Value.int IntKind.i64 0,Value.int IntKind.i64 0,Value.int IntKind.i64 0,Value.int IntKind.i64 0,Value.int IntKind.i64 0,Value.int IntKind.i64 0,Value.int IntKind.i64 0,Value.int IntKind.i64 0,Value.int IntKind.i64 0,Value.int IntKind.i64 0,Value.int IntKind.i64 0,Value.int IntKind.i64 0,Value.int IntKind.i64 0,Value.int IntKind.i64 0,Value.int IntKind.i64 0,Value.int IntKind.i64 0,Value.int IntKind.i64 0,Value.int IntKind.i64 0,Value.int IntKind.i64 0,Value.int IntKind.i64 0])⟩),
 (26,⟨(.slice 3),1,24,(Value.slice none 0 0)⟩),
 (27,⟨(.struct [(26,0,1)]),1,24,(Value.agg #[Value.slice none 0 0])⟩),
 (28,⟨(.struct [(26,0,1)]),1,24,(Value.agg #[Value.slice none 0 0])⟩),
 (29,⟨(.struct [(25,0,25),(28,25,1),(3,26,1),(3,27,1)]),28,240,(Value.agg #[Value.int IntKind.i64 0,Value.int IntKind.i64 0,Value.int IntKind.i64 0,Value.int IntKind.i64 0,Value.int IntKind.i64 0,Value.int IntKind.i64 0,Value.int IntKind.i64 0,Value.int IntKind.i64 0,Value.int IntKind.i64 0,Value.int IntKind.i64 0,Value.int IntKind.i64 0,Value.int IntKind.i64 0,Value.int IntKind.i64 0,Value.int IntKind.i64 0,Value.int IntKind.i64 0,Value.int IntKind.i64 0,Value.int IntKind.i64 0,Value.int IntKind.i64 0,Value.int IntKind.i64 0,Value.int IntKind.i64 0,Value.int IntKind.i64 0,Value.int IntKind.i64 0,Value.int IntKind.i64 0,Value.int IntKind.i64 0,Value.int IntKind.i64 0,Value.slice none 0 0,Value.int IntKind.i64 0,Value.int IntKind.i64 0])⟩),
 (30,⟨(.struct [(25,0,25),(28,25,1),(3,26,1),(3,27,1)]),28,240,(Value.agg #[Value.int IntKind.i64 0,Value.int IntKind.i64 0,Value.int IntKind.i64 0,Value.int IntKind.i64 0,Value.int IntKind.i64 0,Value.int IntKind.i64 0,Value.int IntKind.i64 0,Value.int IntKind.i64 0,Value.int IntKind.i64 0,Value.int IntKind.i64 0,Value.int IntKind.i64 0,Value.int IntKind.i64 0,Value.int IntKind.i64 0,Value.int IntKind.i64 0,Value.int IntKind.i64 0,Value.int IntKind.i64 0,Value.int IntKind.i64 0,Value.int IntKind.i64 0,Value.int IntKind.i64 0,Value.int IntKind.i64 0,Value.int IntKind.i64 0,Value.int IntKind.i64 0,Value.int IntKind.i64 0,Value.int IntKind.i64 0,Value.int IntKind.i64 0,Value.slice none 0 0,Value.int IntKind.i64 0,Value.int IntKind.i64 0])⟩),
 (31,⟨.other,1,8,Value.nilFunc⟩),
 (32,⟨.other,1,8,Value.nilFunc⟩),
 (33,⟨.other,1,8,Value.nilFunc⟩),
 (34,⟨(.slice 82),1,24,(Value.slice none 0 0)⟩),
 (35,⟨.other,1,8,Value.nilFunc⟩),
 (36,⟨.other,1,8,Value.nilFunc⟩),
 (37,⟨(.struct [(3,0,1),(26,1,1),(26,2,1)]),3,56,(Value.agg #[Value.int IntKind.i64 0,Value.slice none 0 0,Value.slice none 0 0])⟩),
 (38,⟨(.struct [(3,0,1),(26,1,1),(26,2,1)]),3,56,(Value.agg #[Value.int IntKind.i64 0,Value.slice none 0 0,Value.slice none 0 0])⟩),
 (39,⟨.other,1,8,Value.nilFunc⟩),
 (40,⟨.other,1,8,Value.nilFunc⟩),
 (41,⟨.other,1,8,Value.nilFunc⟩),
 (42,⟨.other,1,8,Value.nilFunc⟩),
 (43,⟨(.slice 63),1,24,(Value.slice none 0 0)⟩),
 (44,⟨(.slice 43),1,24,(Value.slice none 0 0)⟩),
 (45,⟨(.slice 5),1,24,(Value.slice none 0 0)⟩),
 (46,⟨(.struct [(44,0,1),(45,1,1)]),2,48,(Value.agg #[Value.slice none 0 0,Value.slice none 0 0])⟩),
 (47,⟨(.struct [(44,0,1),(45,1,1)]),2,48,(Value.agg #[Value.slice none 0 0,Value.slice none 0 0])⟩),
 (48,⟨.other,1,8,Value.nilFunc⟩),
 (49,⟨.other,1,8,Value.nilFunc⟩),
 (50,⟨.other,1,8,(Value.pointer none)⟩),
 (51,⟨.other,1,8,Value.nilFunc⟩),
 (52,⟨.other,1,8,Value.nilFunc⟩),
 (53,⟨(.slice 65),1,24,(Value.slice none 0 0)⟩),
 (54,⟨.other,1,8,Value.nilFunc⟩),
 (55,⟨(.slice 75),1,24,(Value.slice none 0 0)⟩),
 (56,⟨(.slice 26),1,24,(Value.slice none 0 0)⟩),
 (57,⟨(.slice 83),1,24,(Value.slice none 0 0)⟩),
 (58,⟨(.struct [(28,0,1),(3,1,1),(43,2,1),(55,3,1),(56,4,1),(26,5,1),(57,6,1),(53,7,1),(3,8,1),(4,9,1),(4,10,1)]),11,192,(Value.agg #[Value.slice none 0 0,Value.int IntKind.i64 0,Value.slice none 0 0,Value.slice none 0 0,Value.slice none 0 0,Value.slice none 0 0,Value.slice none 0 0,Value.slice none 0 0,Value.int IntKind.i64 0,Value.bool false,Value.bool false])⟩),
 (59,⟨(.struct [(28,0,1),(3,1,1),(43,2,1),(55,3,1),(56,4,1),(26,5,1),(57,6,1),(53,7,1),(3,8,1),(4,9,1),(4,10,1)]),11,192,(Value.agg #[Value.slice none 0 0,Value.int IntKind.i64 0,Value.slice none 0 0,Value.slice none 0 0,Value.slice none 0 0,Value.slice none 0 0,Value.slice none 0 0,Value.slice none 0 0,Value.int IntKind.i64 0,Value.bool false,Value.bool false])⟩),
 (60,⟨.other,1,0,(Value.tuple #[Value.agg #[Value.int IntKind.i64 0,Value.slice none 0 0,Value.slice none 0 0],Value.int IntKind.i64 0,Value.bool false])⟩),
 (61,⟨.other,1,8,Value.nilFunc⟩),
 (62,⟨(.struct [(3,0,1),(3,1,1),(3,2,1),(3,3,1)]),4,32,(Value.agg #[Value.int IntKind.i64 0,Value.int IntKind.i64 0,Value.int IntKind.i64 0,Value.int IntKind.i64 0])⟩),
 (63,⟨(.struct [(3,0,1),(3,1,1),(3,2,1),(3,3,1)]),4,32,(Value.agg #[Value.int IntKind.i64 0,Value.int IntKind.i64 0,Value.int IntKind.i64 0,Value.int IntKind.i64 0])⟩),
 (64,⟨(.struct [(3,0,1),(63,1,4),(3,5,1),(4,6,1),(3,7,1),(3,8,1),(3,9,1)]),10,80,(Value.agg #[Value.int IntKind.i64 0,Value.int IntKind.i64 0,Value.int IntKind.i64 0,Value.int IntKind.i64 0,Value.int IntKind.i64 0,Value.int IntKind.i64 0,Value.bool false,Value.int IntKind.i64 0,Value.int IntKind.i64 0,Value.int IntKind.i64 0])⟩),
 (65,⟨(.struct [(3,0,1),(63,1,4),(3,5,1),(4,6,1),(3,7,1),(3,8,1),(3,9,1)]),10,80,(Value.agg #[Value.int IntKind.i64 0,Value.int IntKind.i64 0,Value.int IntKind.i64 0,Value.int IntKind.i64 0,Value.int IntKind.i64 0,Value.int IntKind.i64 0,Value.bool false,Value.int IntKind.i64 0,Value.int IntKind.i64 0,Value.int IntKind.i64 0])⟩),
 (66,⟨.other,1,8,Value.nilFunc⟩),
 (67,⟨.other,1,8,Value.nilFunc⟩),
 (68,⟨.other,1,8,Value.nilFunc⟩),
 (69,⟨(.struct [(5,0,1),(5,1,1),(5,2,1),(45,3,1)]),4,32,(Value.agg #[Value.int IntKind.u8 0,Value.int IntKind.u8 0,Value.int IntKind.u8 0,Value.slice none 0 0])⟩),
 (70,⟨(.struct [(5,0,1),(5,1,1),(5,2,1),(45,3,1)]),4,32,(Value.agg #[Value.int IntKind.u8 0,Value.int IntKind.u8 0,Value.int IntKind.u8 0,Value.slice none 0 0])⟩),
 (71,⟨.other,1,8,Value.nilFunc⟩),
 (72,⟨(.int .i64),1,8,(Value.int IntKind.i64 0)⟩),
 (73,⟨.other,1,0,(Value.tuple #[Value.agg #[Value.int IntKind.i64 0,Value.int IntKind.i64 0,Value.int IntKind.i64 0,Value.int IntKind.i64 0,Value.int IntKind.i64 0,Value.int IntKind.i64 0,Value.int IntKind.i64 0,Value.int IntKind.i64 0,Value.int IntKind.i64 0,Value.int IntKind.i64 0,Value.int IntKind.i64 0,Value.int IntKind.i64 0,Value.int IntKind.i64 0,Value.int IntKind.i64 0,Value.int IntKind.i64 0,Value.int IntKind.i64 0,Value.int IntKind.i64 0,Value.int IntKind.i64 0,Value.int IntKind.i64 0,Value.int IntKind.i64 0,Value.int IntKind.i64 0,Value.int IntKind.i64 0,Value.int IntKind.i64 0,Value.int IntKind.i64 0,Value.int IntKind.i64 0],Value.int IntKind.i64 0])⟩),
 (74,⟨.other,1,8,Value.nilFunc⟩),
 (75,⟨(.slice 108),1,24,(Value.slice none 0 0)⟩),
 (76,⟨.other,1,0,(Value.tuple #[Value.agg #[Value.slice none 0 0],Value.slice none 0 0,Value.int IntKind.i64 0])⟩),
 (77,⟨.other,1,8,Value.nilFunc⟩),
 (78,⟨.other,1,8,Value.nilFunc⟩),
 (79,⟨.other,1,8,Value.nilFunc⟩),
 (80,⟨.other,1,8,Value.nilFunc⟩),
 (81,⟨(.struct [(3,0,1),(3,1,1),(3,2,1),(3,3,1)]),4,32,(Value.agg #[Value.int IntKind.i64 0,Value.int IntKind.i64 0,Value.int IntKind.i64 0,Value.int IntKind.i64 0])⟩),
 (82,⟨(.struct [(3,0,1),(3,1,1),(3,2,1),(3,3,1)]),4,32,(Value.agg #[Value.int IntKind.i64 0,Value.int IntKind.i64 0,Value.int IntKind.i64 0,Value.int IntKind.i64 0])⟩),
 (83,⟨(.slice 110),1,24,(Value.slice none 0 0)⟩),
 (84,⟨(.struct [(3,0,1),(4,1,1),(72,2,1),(3,3,1),(83,4,1)]),5,56,(Value.agg #[Value.int IntKind.i64 0,Value.bool false,Value.int IntKind.i64 0,Value.int IntKind.i64 0,Value.slice none 0 0])⟩),
 (85,⟨(.struct [(3,0,1),(4,1,1),(72,2,1),(3,3,1),(83,4,1)]),5,56,(Value.agg #[Value.int IntKind.i64 0,Value.bool false,Value.int IntKind.i64 0,Value.int IntKind.i64 0,Value.slice none 0 0])⟩),
 (86,⟨.other,1,0,(Value.tuple #[Value.agg #[Value.int IntKind.i64 0,Value.int IntKind.i64 0,Value.int IntKind.i64 0,Value.int IntKind.i64 0],Value.agg #[Value.int IntKind.i64 0,Value.bool false,Value.int IntKind.i64 0,Value.int IntKind.i64 0,Value.slice none 0 0],Value.bool false])⟩),
 (87,⟨.other,1,8,Value.nilFunc⟩),
 (88,⟨.other,1,8,Value.nilFunc⟩),
 (89,⟨.other,1,8,Value.nilFunc⟩),
 (90,⟨.other,1,8,Value.nilFunc⟩),
 (91,⟨.other,1,8,Value.nilFunc⟩),
 (92,⟨.other,1,8,Value.nilFunc⟩),
 (93,⟨(.struct [(3,0,1),(4,1,1),(3,2,1)]),3,24,(Value.agg #[Value.int IntKind.i64 0,Value.bool false,Value.int IntKind.i64 0])⟩),
 (94,⟨(.struct [(3,0,1),(4,1,1),(3,2,1)]),3,24,(Value.agg #[Value.int IntKind.i64 0,Value.bool false,Value.int IntKind.i64 0])⟩),
 (95,⟨.other,1,8,Value.nilFunc⟩),
 (96,⟨.other,1,8,Value.nilFunc⟩),
 (97,⟨.other,1,8,Value.nilFunc⟩),
 (98,⟨.other,1,8,Value.nilFunc⟩),
 (99,⟨.other,1,8,Value.nilFunc⟩),
 (100,⟨.other,1,8,Value.nilFunc⟩),
 (101,⟨.other,1,8,Value.nilFunc⟩),
 (102,⟨.other,1,8,Value.nilFunc⟩),
 (103,⟨.other,1,8,Value.nilFunc⟩),
 (104,⟨.other,1,8,Value.nilFunc⟩),
 (105,⟨.other,1,8,Value.nilFunc⟩),
 (106,⟨.other,1,8,Value.nilFunc⟩),
 (107,⟨(.struct [(3,0,1),(4,1,1)]),2,16,(Value.agg #[Value.int IntKind.i64 0,Value.bool false])⟩),
 (108,⟨(.struct [(3,0,1),(4,1,1)]),2,16,(Value.agg #[Value.int IntKind.i64 0,Value.bool false])⟩),
 (109,⟨.other,1,8,Value.nilFunc⟩),
 (110,⟨(.array 2 3),2,16,(Value.agg #[Value.int IntKind.i64 0,Value.int IntKind.i64 0])⟩),
 (111,⟨(.struct [(3,0,1),(3,1,1),(87,2,1)]),3,24,(Value.agg #[Value.int IntKind.i64 0,Value.int IntKind.i64 0,Value.nilFunc])⟩),
 (112,⟨(.struct [(3,0,1),(3,1,1),(87,2,1)]),3,24,(Value.agg #[Value.int IntKind.i64 0,Value.int IntKind.i64 0,Value.nilFunc])⟩),
 (113,⟨(.array 3 112),9,72,(Value.agg #[Value.int IntKind.i64 0,Value.int IntKind.i64 0,Value.nilFunc,Value.int IntKind.i64 0,Value.int IntKind.i64 0,Value.nilFunc,Value.int IntKind.i64 0,Value.int IntKind.i64 0,Value.nilFunc])⟩),
 (114,⟨.other,1,8,Value.nilFunc⟩),
 (115,⟨.other,1,8,Value.nilFunc⟩),
 (116,⟨.other,1,8,Value.nilFunc⟩),
 (117,⟨.other,1,8,Value.nilFunc⟩),
 (118,⟨.other,1,8,Value.nilFunc⟩),
 (119,⟨.other,1,8,Value.nilFunc⟩),
 (120,⟨.other,1,8,Value.nilFunc⟩),
 (121,⟨.other,1,8,Value.nilFunc⟩),
 (122,⟨.other,1,8,Value.nilFunc⟩),
 (123,⟨.other,1,8,Value.nilFunc⟩),
 (124,⟨(.int .u64),1,8,(Value.int IntKind.u64 0)⟩),
 (125,⟨.other,1,8,(Value.map none)⟩),
 (126,⟨.other,1,8,Value.nilFunc⟩),
 (127,⟨.other,1,8,Value.nilFunc⟩),
 (128,⟨.other,1,8,Value.nilFunc⟩),
 (129,⟨.other,1,8,Value.nilFunc⟩),
 (130,⟨.other,1,0,(Value.tuple #[Value.agg #[Value.slice none 0 0],Value.agg #[Value.int IntKind.i64 0,Value.bool false],Value.int IntKind.i64 0])⟩),
 (131,⟨.other,1,8,Value.nilFunc⟩),
 (132,⟨.other,1,8,Value.nilFunc⟩),
 (133,⟨.other,1,8,Value.nilFunc⟩),
 (134,⟨(.struct [(3,0,1),(3,1,1)]),2,16,(Value.agg #[Value.int IntKind.i64 0,Value.int IntKind.i64 0])⟩),
 (135,⟨(.struct [(3,0,1),(3,1,1)]),2,16,(Value.agg #[Value.int IntKind.i64 0,Value.int IntKind.i64 0])⟩),
 (136,⟨.other,1,8,Value.nilFunc⟩),
 (137,⟨.other,1,8,Value.nilFunc⟩),
 (138,⟨.other,1,8,(Value.pointer none)⟩),
 (139,⟨(.struct [(25,0,25),(3,25,1),(83,26,1),(3,27,1),(75,28,1),(3,29,1)]),30,272,(Value.agg #[Value.int IntKind.i64 0,Value.int IntKind.i64 0,Value.int IntKind.i64 0,Value.int IntKind.i64 0,Value.int IntKind.i64 0,Value.int IntKind.i64 0,Value.int IntKind.i64 0,Value.int IntKind.i64 0,Value.int IntKind.i64 0,Value.int IntKind.i64 0,Value.int IntKind.i64 0,Value.int IntKind.i64 0,Value.int IntKind.i64 0,Value.int IntKind.i64 0,Value.int IntKind.i64 0,Value.int IntKind.i64 0,Value.int IntKind.i64 0,Value.int IntKind.i64 0,Value.int IntKind.i64 0,Value.int IntKind.i64 0,Value.int IntKind.i64 0,Value.int IntKind.i64 0,Value.int IntKind.i64 0,Value.int IntKind.i64 0,Value.int IntKind.i64 0,Value.int IntKind.i64 0,Value.slice none 0 0,Value.int IntKind.i64 0,Value.slice none 0 0,Value.int IntKind.i64 0])⟩),
 (140,⟨(.struct [(25,0,25),(3,25,1),(83,26,1),(3,27,1),(75,28,1),(3,29,1)]),30,272,(Value.agg #[Value.int IntKind.i64 0,Value.int IntKind.i64 0,Value.int IntKind.i64 0,Value.int IntKind.i64 0,Value.int IntKind.i64 0,Value.int IntKind.i64 0,Value.int IntKind.i64 0,Value.int IntKind.i64 0,Value.int IntKind.i64 0,Value.int IntKind.i64 0,Value.int IntKind.i64 0,Value.int IntKind.i64 0,Value.int IntKind.i64 0,Value.int IntKind.i64 0,Value.int IntKind.i64 0,Value.int IntKind.i64 0,Value.int IntKind.i64 0,Value.int IntKind.i64 0,Value.int IntKind.i64 0,Value.int IntKind.i64 0,Value.int IntKind.i64 0,Value.int IntKind.i64 0,Value.int IntKind.i64 0,Value.int IntKind.i64 0,Value.int IntKind.i64 0,Value.int IntKind.i64 0,Value.slice none 0 0,Value.int IntKind.i64 0,Value.slice none 0 0,Value.int IntKind.i64 0])⟩),
 (141,⟨.other,1,8,Value.nilFunc⟩),
 (142,⟨.other,1,0,(Value.tuple #[Value.nilFunc,Value.bool false])⟩),
 (143,⟨.other,1,8,(Value.map none)⟩),
 (144,⟨.other,1,8,Value.nilFunc⟩),
 (145,⟨.other,1,8,Value.nilFunc⟩),
 (146,⟨.other,1,8,Value.nilFunc⟩),
 (147,⟨.other,1,8,Value.nilFunc⟩),
 (148,⟨.other,1,0,(Value.tuple #[Value.int IntKind.i64 0,Value.agg #[Value.int IntKind.i64 0,Value.bool false,Value.int IntKind.i64 0,Value.int IntKind.i64 0,Value.slice none 0 0]])⟩),
 (149,⟨.other,1,8,Value.nilFunc⟩),
 (150,⟨.other,1,0,(Value.tuple #[Value.agg #[Value.int IntKind.i64 0,Value.bool false,Value.int IntKind.i64 0,Value.int IntKind.i64 0,Value.slice none 0 0],Value.agg #[Value.int IntKind.i64 0,Value.int IntKind.i64 0,Value.int IntKind.i64 0,Value.int IntKind.i64 0]])⟩),
 (151,⟨.other,1,8,Value.nilFunc⟩),
 (152,⟨.other,1,8,Value.nilFunc⟩),
 (153,⟨.other,1,8,(Value.pointer none)⟩),
 (154,⟨.other,1,8,Value.nilFunc⟩),
 (155,⟨.other,1,8,Value.nilFunc⟩),
 (156,⟨.other,1,8,Value.nilFunc⟩),
 (157,⟨.other,1,8,(Value.pointer none)⟩),
 (158,⟨.other,1,8,Value.nilFunc⟩),
 (159,⟨.other,1,8,Value.nilFunc⟩),
 (160,⟨.other,1,8,Value.nilFunc⟩),
 (161,⟨.other,1,0,(Value.tuple #[Value.agg #[Value.int IntKind.i64 0,Value.bool false,Value.int IntKind.i64 0,Value.int IntKind.i64 0,Value.slice none 0 0],Value.bool false])⟩),
 (162,⟨(.slice 135),1,24,(Value.slice none 0 0)⟩),
 (163,⟨.other,1,8,Value.nilFunc⟩),
 (164,⟨.other,1,8,Value.nilFunc⟩),
 (165,⟨.other,1,8,Value.nilFunc⟩),
 (166,⟨(.struct [(82,0,4)]),4,32,(Value.agg #[Value.int IntKind.i64 0,Value.int IntKind.i64 0,Value.int IntKind.i64 0,Value.int IntKind.i64 0])⟩),
 (167,⟨(.struct [(82,0,4)]),4,32,(Value.agg #[Value.int IntKind.i64 0,Value.int IntKind.i64 0,Value.int IntKind.i64 0,Value.int IntKind.i64 0])⟩),
 (168,⟨.other,1,8,Value.nilFunc⟩),
 (169,⟨.other,1,8,Value.nilFunc⟩),
 (170,⟨(.array 3 3),3,24,(Value.agg #[Value.int IntKind.i64 0,Value.int IntKind.i64 0,Value.int IntKind.i64 0])⟩),
 (171,⟨(.struct [(25,0,25),(3,25,1),(83,26,1),(3,27,1),(170,28,3),(147,31,1)]),32,272,(Value.agg #[Value.int IntKind.i64 0,Value.int IntKind.i64 0,Value.int IntKind.i64 0,Value.int IntKind.i64 0,Value.int IntKind.i64 0,Value.int IntKind.i64 0,Value.int IntKind.i64 0,Value.int IntKind.i64 0,Value.int IntKind.i64 0,Value.int IntKind.i64 0,Value.int IntKind.i64 0,Value.int IntKind.i64 0,Value.int IntKind.i64 0,Value.int IntKind.i64 0,Value.int IntKind.i64 0,Value.int IntKind.i64 0,Value.int IntKind.i64 0,Value.int IntKind.i64 0,Value.int IntKind.i64 0,Value.int IntKind.i64 0,Value.int IntKind.i64 0,Value.int IntKind.i64 0,Value.int IntKind.i64 0,Value.int IntKind.i64 0,Value.int IntKind.i64 0,Value.int IntKind.i64 0,Value.slice none 0 0,Value.int IntKind.i64 0,Value.int IntKind.i64 0,Value.int IntKind.i64 0,Value.int IntKind.i64 0,Value.nilFunc])⟩),
 (172,⟨(.struct [(25,0,25),(3,25,1),(83,26,1),(3,27,1),(170,28,3),(147,31,1)]),32,272,(Value.agg #[Value.int IntKind.i64 0,Value.int IntKind.i64 0,Value.int IntKind.i64 0,Value.int IntKind.i64 0,Value.int IntKind.i64 0,Value.int IntKind.i64 0,Value.int IntKind.i64 0,Value.int IntKind.i64 0,Value.int IntKind.i64 0,Value.int IntKind.i64 0,Value.int IntKind.i64 0,Value.int IntKind.i64 0,Value.int IntKind.i64 0,Value.int IntKind.i64 0,Value.int IntKind.i64 0,Value.int IntKind.i64 0,Value.int IntKind.i64 0,Value.int IntKind.i64 0,Value.int IntKind.i64 0,Value.int IntKind.i64 0,Value.int IntKind.i64 0,Value.int IntKind.i64 0,Value.int IntKind.i64 0,Value.int IntKind.i64 0,Value.int IntKind.i64 0,Value.int IntKind.i64 0,Value.slice none 0 0,Value.int IntKind.i64 0,Value.int IntKind.i64 0,Value.int IntKind.i64 0,Value.int IntKind.i64 0,Value.nilFunc])⟩),
 (173,⟨(.struct [(82,0,4)]),4,32,(Value.agg #[Value.int IntKind.i64 0,Value.int IntKind.i64 0,Value.int IntKind.i64 0,Value.int IntKind.i64 0])⟩),
 (174,⟨(.struct [(82,0,4)]),4,32,(Value.agg #[Value.int IntKind.i64 0,Value.int IntKind.i64 0,Value.int IntKind.i64 0,Value.int IntKind.i64 0])⟩),
 (175,⟨.other,1,0,(Value.tuple #[Value.int IntKind.i64 0,Value.int IntKind.i64 0,Value.bool false])⟩),
 (176,⟨.other,1,8,Value.nilFunc⟩),
 (177,⟨.other,1,8,Value.nilFunc⟩),
 (178,⟨.other,1,8,Value.nilFunc⟩),
 (179,⟨.other,1,0,(Value.tuple #[Value.int IntKind.i64 0,Value.int IntKind.i64 0,Value.int IntKind.i64 0])⟩),
 (180,⟨.other,1,8,Value.nilFunc⟩),
 (181,⟨.other,1,8,Value.nilFunc⟩),
 (182,⟨(.struct [(25,0,25),(3,25,1),(83,26,1),(3,27,1),(170,28,3),(147,31,1)]),32,272,(Value.agg #[Value.int IntKind.i64 0,Value.int IntKind.i64 0,Value.int IntKind.i64 0,Value.int IntKind.i64 0,Value.int IntKind.i64 0,Value.int IntKind.i64 0,Value.int IntKind.i64 0,Value.int IntKind.i64 0,Value.int IntKind.i64 0,Value.int IntKind.i64 0,Value.int IntKind.i64 0,Value.int IntKind.i64 0,Value.int IntKind.i64 0,Value.int IntKind.i64 0,Value.int IntKind.i64 0,Value.int IntKind.i64 0,Value.int IntKind.i64 0,Value.int IntKind.i64 0,Value.int IntKind.i64 0,Value.int IntKind.i64 0,Value.int IntKind.i64 0,Value.int IntKind.i64 0,Value.int IntKind.i64 0,Value.int IntKind.i64 0,Value.int IntKind.i64 0,Value.int IntKind.i64 0,Value.slice none 0 0,Value.int IntKind.i64 0,Value.int IntKind.i64 0,Value.int IntKind.i64 0,Value.int IntKind.i64 0,Value.nilFunc])⟩),
 (183,⟨(.struct [(25,0,25),(3,25,1),(83,26,1),(3,27,1),(170,28,3),(147,31,1)]),32,272,(Value.agg #[Value.int IntKind.i64 0,Value.int IntKind.i64 0,Value.int IntKind.i64 0,Value.int IntKind.i64 0,Value.int IntKind.i64 0,Value.int IntKind.i64 0,Value.int IntKind.i64 0,Value.int IntKind.i64 0,Value.int IntKind.i64 0,Value.int IntKind.i64 0,Value.int IntKind.i64 0,Value.int IntKind.i64 0,Value.int IntKind.i64 0,Value.int IntKind.i64 0,Value.int IntKind.i64 0,Value.int IntKind.i64 0,Value.int IntKind.i64 0,Value.int IntKind.i64 0,Value.int IntKind.i64 0,Value.int IntKind.i64 0,Value.int IntKind.i64 0,Value.int IntKind.i64 0,Value.int IntKind.i64 0,Value.int IntKind.i64 0,Value.int IntKind.i64 0,Value.int IntKind.i64 0,Value.slice none 0 0,Value.int IntKind.i64 0,Value.int IntKind.i64 0,Value.int IntKind.i64 0,Value.int IntKind.i64 0,Value.nilFunc])⟩),
 (184,⟨(.struct [(82,0,4)]),4,32,(Value.agg #[Value.int IntKind.i64 0,Value.int IntKind.i64 0,Value.int IntKind.i64 0,Value.int IntKind.i64 0])⟩),
 (185,⟨(.struct [(82,0,4)]),4,32,(Value.agg #[Value.int IntKind.i64 0,Value.int IntKind.i64 0,Value.int IntKind.i64 0,Value.int IntKind.i64 0])⟩),
 (186,⟨.other,1,0,(Value.tuple #[Value.int IntKind.i64 0,Value.int IntKind.i64 0])⟩),
 (187,⟨.other,1,8,Value.nilFunc⟩),
 (188,⟨.other,1,8,Value.nilFunc⟩),
 (189,⟨.other,1,8,Value.nilFunc⟩),
 (190,⟨.other,1,8,(Value.pointer none)⟩),
 (191,⟨.other,1,8,(Value.pointer none)⟩),
 (192,⟨.other,1,8,Value.nilFunc⟩),
 (193,⟨(.struct [(4,0,1),(3,1,1),(3,2,1),(3,3,1),(3,4,1)]),5,40,(Value.agg #[Value.bool false,Value.int IntKind.i64 0,Value.int IntKind.i64 0,Value.int IntKind.i64 0,Value.int IntKind.i64 0])⟩),
 (194,⟨(.struct [(4,0,1),(3,1,1),(3,2,1),(3,3,1),(3,4,1)]),5,40,(Value.agg #[Value.bool false,Value.int IntKind.i64 0,Value.int IntKind.i64 0,Value.int IntKind.i64 0,Value.int IntKind.i64 0])⟩),
 (195,⟨(.struct [(191,0,1),(194,1,5),(3,6,1)]),7,56,(Value.agg #[Value.pointer none,Value.bool false,Value.int IntKind.i64 0,Value.int IntKind.i64 0,Value.int IntKind.i64 0,Value.int IntKind.i64 0,Value.int IntKind.i64 0])⟩),
 (196,⟨(.struct [(191,0,1),(194,1,5),(3,6,1)]),7,56,(Value.agg #[Value.pointer none,Value.bool false,Value.int IntKind.i64 0,Value.int IntKind.i64 0,Value.int IntKind.i64 0,Value.int IntKind.i64 0,Value.int IntKind.i64 0])⟩),
 (197,⟨.other,1,8,Value.nilFunc⟩),
 (198,⟨.other,1,8,Value.nilFunc⟩),
 (199,⟨.other,1,8,Value.nilFunc⟩),
 (200,⟨(.int .u32),1,4,(Value.int IntKind.u32 0)⟩),
 (201,⟨.other,1,8,Value.nilFunc⟩),
 (202,⟨(.int .u64),1,8,(Value.int IntKind.u64 0)⟩),
 (203,⟨(.struct [(25,0,25),(3,25,1),(83,26,1),(3,27,1),(170,28,3),(147,31,1)]),32,272,(Value.agg #[Value.int IntKind.i64 0,Value.int IntKind.i64 0,Value.int IntKind.i64 0,Value.int IntKind.i64 0,Value.int IntKind.i64 0,Value.int IntKind.i64 0,Value.int IntKind.i64 0,Value.int IntKind.i64 0,Value.int IntKind.i64 0,Value.int IntKind.i64 0,Value.int IntKind.i64 0,Value.int IntKind.i64 0,Value.int IntKind.i64 0,Value.int IntKind.i64 0,Value.int IntKind.i64 0,Value.int IntKind.i64 0,Value.int IntKind.i64 0,Value.int IntKind.i64 0,Value.int IntKind.i64 0,Value.int IntKind.i64 0,Value.int IntKind.i64 0,Value.int IntKind.i64 0,Value.int IntKind.i64 0,Value.int IntKind.i64 0,Value.int IntKind.i64 0,Value.int IntKind.i64 0,Value.slice none 0 0,Value.int IntKind.i64 0,Value.int IntKind.i64 0,Value.int IntKind.i64 0,Value.int IntKind.i64 0,Value.nilFunc])⟩),
 (204,⟨(.struct [(25,0,25),(3,25,1),(83,26,1),(3,27,1),(170,28,3),(147,31,1)]),32,272,(Value.agg #[Value.int IntKind.i64 0,Value.int IntKind.i64 0,Value.int IntKind.i64 0,Value.int IntKind.i64 0,Value.int IntKind.i64 0,Value.int IntKind.i64 0,Value.int IntKind.i64 0,Value.int IntKind.i64 0,Value.int IntKind.i64 0,Value.int IntKind.i64 0,Value.int IntKind.i64 0,Value.int IntKind.i64 0,Value.int IntKind.i64 0,Value.int IntKind.i64 0,Value.int IntKind.i64 0,Value.int IntKind.i64 0,Value.int IntKind.i64 0,Value.int IntKind.i64 0,Value.int IntKind.i64 0,Value.int IntKind.i64 0,Value.int IntKind.i64 0,Value.int IntKind.i64 0,Value.int IntKind.i64 0,Value.int IntKind.i64 0,Value.int IntKind.i64 0,Value.int IntKind.i64 0,Value.slice none 0 0,Value.int IntKind.i64 0,Value.int IntKind.i64 0,Value.int IntKind.i64 0,Value.int IntKind.i64 0,Value.nilFunc])⟩),
 (205,⟨(.struct [(82,0,4)]),4,32,(Value.agg #[Value.int IntKind.i64 0,Value.int IntKind.i64 0,Value.int IntKind.i64 0,Value.int IntKind.i64 0])⟩),
 (206,⟨(.struct [(82,0,4)]),4,32,(Value.agg #[Value.int IntKind.i64 0,Value.int IntKind.i64 0,Value.int IntKind.i64 0,Value.int IntKind.i64 0])⟩),
 (207,⟨.other,1,8,Value.nilFunc⟩),
 (208,⟨.other,1,8,Value.nilFunc⟩),
 (209,⟨(.struct [(17,0,1),(17,1,1),(17,2,1),(9,3,1)]),4,40,(Value.agg #[Value.pointer none,Value.pointer none,Value.pointer none,Value.string {data:=#[]}])⟩),
 (210,⟨(.struct [(17,0,1),(17,1,1),(17,2,1),(9,3,1)]),4,40,(Value.agg #[Value.pointer none,Value.pointer none,Value.pointer none,Value.string {data:=#[]}])⟩),
 (211,⟨(.array 0 16),0,0,(Value.agg #[])⟩),
 (212,⟨(.struct [(211,0,0)]),0,0,(Value.agg #[])⟩),
 (213,⟨(.struct [(211,0,0)]),0,0,(Value.agg #[])⟩),
 (214,⟨(.int .u8),1,1,(Value.int IntKind.u8 0)⟩),
 (215,⟨(.int .u8),1,1,(Value.int IntKind.u8 0)⟩),
 (216,⟨.other,1,8,Value.nilFunc⟩),
 (217,⟨.other,1,8,(Value.pointer none)⟩),
 (218,⟨(.int .i32),1,4,(Value.int IntKind.i32 0)⟩),
 (219,⟨(.int .i32),1,4,(Value.int IntKind.i32 0)⟩),
 (220,⟨(.struct [(12,0,1),(12,1,1),(200,2,1),(214,3,1),(5,4,1),(5,5,1),(215,6,1),(216,7,1),(217,8,1),(218,9,1),(219,10,1)]),11,48,(Value.agg #[Value.int IntKind.u64 0,Value.int IntKind.u64 0,Value.int IntKind.u32 0,Value.int IntKind.u8 0,Value.int IntKind.u8 0,Value.int IntKind.u8 0,Value.int IntKind.u8 0,Value.nilFunc,Value.pointer none,Value.int IntKind.i32 0,Value.int IntKind.i32 0])⟩),
 (221,⟨(.struct [(12,0,1),(12,1,1),(200,2,1),(214,3,1),(5,4,1),(5,5,1),(215,6,1),(216,7,1),(217,8,1),(218,9,1),(219,10,1)]),11,48,(Value.agg #[Value.int IntKind.u64 0,Value.int IntKind.u64 0,Value.int IntKind.u32 0,Value.int IntKind.u8 0,Value.int IntKind.u8 0,Value.int IntKind.u8 0,Value.int IntKind.u8 0,Value.nilFunc,Value.pointer none,Value.int IntKind.i32 0,Value.int IntKind.i32 0])⟩),
 (222,⟨.other,1,8,(Value.pointer none)⟩)]
def tb:Nat->Option TI:=Y PD
def JI(P:Program)(p:Nat×TI):Prop:=(P.underlying p.1).map (jg P)=some p.2.k/\(P.info? p.1).map (λ f=>(f.size,f.bytes,f.zero))=some (p.2.sz,p.2.bytes,some p.2.zero)
theorem YV{P:Program}:∀{l:List (Nat×TI)},(∀p∈l,JI P p)->cR P (Y l):=by
 intro l h;have key:∀(l:List (Nat×TI)),(∀p∈l,JI P p)->∀t i,Y l t=some i->JI P (t,i):=by
  intro l;induction l with
  |nil=>intro _ t i h;cases h
  |cons p l ih=>
   intro h t i Z;obtain⟨k,v⟩:=p;rw[cL] at Z;split at Z
   ·rename_i J;subst J;cases Z;exact h _ (by simp)
   ·exact ih (λ q hq=>h q (by simp[hq])) t i Z
 refine⟨λ t i Z=>?_,λ t i Z=>?_⟩
 ·obtain⟨u,_⟩:=key l h t i Z;simp only[Option.map_eq_some_iff] at u;exact u
 ·obtain⟨_,D⟩:=key l h t i Z;simp only[Option.map_eq_some_iff,Prod.mk.injEq] at D;obtain⟨f,K,h4,h5,h6⟩:=D;exact⟨f,K,h4,h5,h6⟩
theorem QJ{q:Nat×TI->Prop}{a:Nat×TI}{l:List (Nat×TI)}(h:q a)(M:∀p∈l,q p):∀p∈a::l,q p:=λ p hp=>by
 rcases List.mem_cons.1 hp with rfl|hp
 ·exact h
 ·exact M p hp
set_option maxRecDepth 100000 in
theorem aw:cR prog tb:=YV (by
 unfold PD
 repeat refine QJ ⟨by kernel_rfl,by kernel_rfl⟩ ?_
 exact λ p hp=>absurd hp List.not_mem_nil)
section
variable{P:Program}{Γ:bE}{I:St}{Q:Exit->St->Prop}{bC:St->Prop}{x y c:Code}{id nk:Nat}{aT:Operand}{tt:Bool}{ae aF:Prop}
theorem zA(h:aJ P Γ x (ql (aJ P Γ y Q) Q) I):aJ P Γ (.seq x y) Q I:=oQ h
theorem zB{l:List Oper}(h:bp P Γ l Q l I):aJ P Γ (.region id l.toArray false) Q I:=tT h
theorem zC(h:aJ P Γ c (oR id Q) I):aJ P Γ (.block id c) Q I:=QW h
theorem zD(h:Q .normal I):aJ P Γ .skip Q I:=C5 h
theorem zE(h:aJ P Γ c (Ae Q) I):aJ P Γ (.scope c) Q I:=Q6 h
theorem zF(h:Q .normal I):aJ P Γ (.label id) Q I:=Q1 h
theorem zG(h:Q .normal I):Ae Q .normal I:=h
theorem zH(h:Q .ret I):Ae Q .ret I:=h
theorem zI(h:Q (.exit id) I):Ae Q (.exit id) I:=h
theorem zJ(h:Q .ret I):aJ P Γ .ret Q I:=Q5 h
theorem zK(h:Q (.exit id) I):aJ P Γ (.exit id) Q I:=QZ h
theorem zL(h:CK tt (aJ P Γ x Q I) (aJ P Γ y Q I))(hz:ev (Y I.s) aT=some (.p (.raw (.bool tt))):=by exact rfl):aJ P Γ (.cond aT x y) Q I:=Gd hz h
theorem zM(h:bC I):ql bC Q .normal I:=h
theorem zN(h:Q .ret I):ql bC Q .ret I:=h
theorem zO(h:Q (.exit id) I):ql bC Q (.exit id) I:=h
theorem zP(h:Q .normal I):oR id Q .normal I:=h
theorem zQ(h:Q .ret I):oR id Q .ret I:=h
theorem zR(h:Q .normal I):oR id Q (.exit id) I:=Xw h
theorem zS(h:Q (.exit nk) I)(cP:(nk==id)=false:=by exact rfl):oR id Q (.exit nk) I:=Xx cP h
theorem zT(h:ae)(R:tt=true:=by with_reducible exact rfl):CK tt ae aF:=by subst R;exact Gn h
theorem zU(h:aF)(R:tt=false:=by with_reducible exact rfl):CK tt ae aF:=by subst R;exact AP h
theorem zV(h:aF)(R:tt=!true:=by with_reducible exact rfl):CK tt ae aF:=by subst R;exact AP h
theorem zW(h:ae)(R:tt=!false:=by with_reducible exact rfl):CK tt ae aF:=by subst R;exact Gn h
theorem zX{bn:St}(hs:vB I bn bn.s:=by(repeat(first|exact trivial|refine⟨⟨rfl,rfl⟩,?_⟩)))(R:vw I bn bn.b:=by(repeat(first|exact trivial|refine⟨⟨rfl,rfl⟩,?_⟩)))(hg:vz I bn.g:=by(repeat(first|exact trivial|refine⟨rfl,?_⟩)))(dv:vA bn Γ.kb:=by(repeat(first|exact trivial|refine⟨rfl,?_⟩))):bF Γ I bn:=dO hs R hg dv
end
section
variable{Γ:bE}{o:Oper}{l0 l:List Oper}{Q:Exit->St->Prop}{s:List (Nat×F)}{b:List (Nat×List F)}{g:List (Nat×Gr)}{t t1 aa nm:Nat}{i:TI}{x y:Operand}{p q:Int}{d:F}{cs aO:List F}
theorem z0(h:bp prog Γ l0 Q l ⟨(t,z (p+q))::s,b,g⟩)(X:o.op=.binOp .add t1 x y aa:=by exact rfl)(ht:tb t1=some i:=by exact rfl)(T:ev (Y s) x=some (z p):=by exact rfl)(hy:ev (Y s) y=some (z q):=by exact rfl)(u:-9223372036854775808<=p+q:=by omega)(D:p+q<=9223372036854775807:=by omega)(hg:gd l0 o (Y s)=some true:=by exact rfl)(G:o.dst=some t:=by exact rfl)(M:Nat.blt t Γ.n=true:=by exact rfl):bp prog Γ l0 Q (o::l) ⟨s,b,g⟩:=
 bf (Kb aw X ht T hy u D) hg G M h
theorem z1(h:bp prog Γ l0 Q l ⟨(t,z (p-q))::s,b,g⟩)(X:o.op=.binOp .sub t1 x y aa:=by exact rfl)(ht:tb t1=some i:=by exact rfl)(T:ev (Y s) x=some (z p):=by exact rfl)(hy:ev (Y s) y=some (z q):=by exact rfl)(u:-9223372036854775808<=p-q:=by omega)(D:p-q<=9223372036854775807:=by omega)(hg:gd l0 o (Y s)=some true:=by exact rfl)(G:o.dst=some t:=by exact rfl)(M:Nat.blt t Γ.n=true:=by exact rfl):bp prog Γ l0 Q (o::l) ⟨s,b,g⟩:=
 bf (PC aw X ht T hy u D) hg G M h
theorem z2(h:bp prog Γ l0 Q l ⟨(t,d)::s,b,g⟩)(hq:ax tb (Y s) (Y b) o.op=some d:=by exact rfl)(hg:gd l0 o (Y s)=some true:=by exact rfl)(G:o.dst=some t:=by exact rfl)(M:Nat.blt t Γ.n=true:=by exact rfl):bp prog Γ l0 Q (o::l) ⟨s,b,g⟩:=mq aw hq hg G M h
theorem z3(h:bp prog Γ l0 Q l ⟨(t,.p (.raw undef))::s,b,g⟩)(hg:gd l0 o (Y s)=some false:=by exact rfl)(G:o.dst=some t:=by exact rfl)(M:Nat.blt t Γ.n=true:=by exact rfl):bp prog Γ l0 Q (o::l) ⟨s,b,g⟩:=Qs hg G M h
theorem z4{I:St}(h:Q .normal I):bp prog Γ l0 Q [] I:=jK h
theorem z5{of:Nat}{dy:F}(h:bp prog Γ l0 Q l ⟨s,(nm,aO)::b,g⟩)(X:o.op=.store t1 x y:=by exact rfl)(G:o.dst=none:=by exact rfl)(ht:tb t1=some i:=by exact rfl)(T:ev (Y s) x=some (.ptr nm of):=by exact rfl)(R:Y b nm=some cs:=by exact rfl)(hy:ev (Y s) y=some dy:=by exact rfl)
 (M:sb dy=true:=by exact rfl)(bT:Nat.beq dy.cells.length i.sz=true:=by exact rfl)(b8:rd cs of dy some=some aO:=by exact rfl)(hg:gd l0 o (Y s)=some true:=by exact rfl):bp prog Γ l0 Q (o::l) ⟨s,b,g⟩:=Qt aw X G ht T R hy M bT b8 hg h
theorem z6{hE:Array (Nat×Operand)}(h:bp prog Γ l0 Q l ⟨(t,d)::s,b,g⟩)(X:o.op=.build t1 hE:=by exact rfl)(hp:sH (Y s) hE.toList (C9 tb t1)=some d:=by exact rfl)(hz:(match tb t1 with|some i=>j9 (kP i.zero)|none=>false)=true:=by exact rfl)(hg:gd l0 o (Y s)=some true:=by exact rfl)(G:o.dst=some t:=by exact rfl)(M:Nat.blt t Γ.n=true:=by exact rfl):bp prog Γ l0 Q (o::l) ⟨s,b,g⟩:=
 bf (ya aw X hp hz) hg G M h
theorem z7{len:Nat}{hE:Array (Nat×Operand)}{ps:List Pl}(h:bp prog Γ l0 Q l ⟨(t,.p (.sl true len ps))::s,b,g⟩)(X:o.op=.buildSlice t1 len hE:=by exact rfl)(hp:sH (Y s) hE.toList (Da tb t1 len)=some ps:=by exact rfl)(hg:gd l0 o (Y s)=some true:=by exact rfl)(G:o.dst=some t:=by exact rfl)(M:Nat.blt t Γ.n=true:=by exact rfl):bp prog Γ l0 Q (o::l) ⟨s,b,g⟩:=
 bf (Ks aw X hp) hg G M h
theorem z8{dx:F}(h:bp prog Γ l0 Q l ⟨(t,.ptr nm 0)::s,(nm,cs)::b,g⟩)(X:o.op=.box t1 x:=by exact rfl)(l7:tv 0 b some=some nm:=by exact rfl)(T:ev (Y s) x=some dx:=by exact rfl)(J:j9 dx=true:=by exact rfl)(cr:lR dx some=some cs:=by exact rfl)(hg:gd l0 o (Y s)=some true:=by exact rfl)(G:o.dst=some t:=by exact rfl)(M:Nat.blt t Γ.n=true:=by exact rfl)(hf:Y b nm=none:=by exact rfl):bp prog Γ l0 Q (o::l) ⟨s,b,g⟩:=
 Qo X l7 T J cr hg G M hf h
theorem z9(h:bp prog Γ l0 Q l ⟨(t,.ptr nm 0)::s,(nm,cs)::b,g⟩)(X:o.op=.alloc t1:=by exact rfl)(l7:tv 0 b some=some nm:=by exact rfl)(ht:tb t1=some i:=by exact rfl)(J:j9 (kP i.zero)=true:=by exact rfl)(cr:pK i.zero (λ d=>lR d some)=some cs:=by exact rfl)(hg:gd l0 o (Y s)=some true:=by exact rfl)(G:o.dst=some t:=by exact rfl)(M:Nat.blt t Γ.n=true:=by exact rfl)(hf:Y b nm=none:=by exact rfl):bp prog Γ l0 Q (o::l) ⟨s,b,g⟩:=
 Qr aw X l7 ht J cr hg G M hf h
end
section
variable{n:Nat}{B B0:List (Nat×List F)}{bC:St->Prop}{aI:List Nat}{aP:List (Nat×Nat)}{ix:Nat}{o:Oper}{l0 l:List Oper}{s:List (Nat×F)}{b:List (Nat×List F)}{g:List (Nat×Gr)}{t t1 aa nm:Nat}{i:TI}{x y:Operand}{p q:Int}{d:F}{cs aO:List F}
theorem w0(h:b9 prog n l0 B B0 bC (ix+1) aI aP l ⟨(t,z (p+q))::s,b,g⟩)(X:o.op=.binOp .add t1 x y aa:=by exact rfl)(ht:tb t1=some i:=by exact rfl)(T:ev (Y s) x=some (z p):=by exact rfl)(hy:ev (Y s) y=some (z q):=by exact rfl)(u:-9223372036854775808<=p+q:=by omega)(D:p+q<=9223372036854775807:=by omega)(hg:gd l0 o (Y s)=some true:=by exact rfl)(G:o.dst=some t:=by exact rfl):b9 prog n l0 B B0 bC ix aI aP (o::l) ⟨s,b,g⟩:=
 cD (Kb aw X ht T hy u D) hg G h
theorem w1(h:b9 prog n l0 B B0 bC (ix+1) aI aP l ⟨(t,z (p-q))::s,b,g⟩)(X:o.op=.binOp .sub t1 x y aa:=by exact rfl)(ht:tb t1=some i:=by exact rfl)(T:ev (Y s) x=some (z p):=by exact rfl)(hy:ev (Y s) y=some (z q):=by exact rfl)(u:-9223372036854775808<=p-q:=by omega)(D:p-q<=9223372036854775807:=by omega)(hg:gd l0 o (Y s)=some true:=by exact rfl)(G:o.dst=some t:=by exact rfl):b9 prog n l0 B B0 bC ix aI aP (o::l) ⟨s,b,g⟩:=
 cD (PC aw X ht T hy u D) hg G h
theorem w2{of:Nat}{dy:F}(h:b9 prog n l0 B B0 bC (ix+1) (nm::aI) aP l ⟨s,(nm,aO)::b,g⟩)(X:o.op=.store t1 x y:=by exact rfl)(G:o.dst=none:=by exact rfl)(ht:tb t1=some i:=by exact rfl)(T:ev (Y s) x=some (.ptr nm of):=by exact rfl)(R:Y b nm=some cs:=by exact rfl)(hy:ev (Y s) y=some dy:=by exact rfl)
 (M:sb dy=true:=by exact rfl)(bT:Nat.beq dy.cells.length i.sz=true:=by exact rfl)(b8:rd cs of dy some=some aO:=by exact rfl)(hg:gd l0 o (Y s)=some true:=by exact rfl)(hB:Y B nm=none:=by exact rfl)(hD:aI.contains nm=false:=by exact rfl):b9 prog n l0 B B0 bC ix aI aP (o::l) ⟨s,b,g⟩:=sf aw X G ht T R hy M bT b8 hg hB (.inl hD) h
theorem wL{of:Nat}{dy:F}(h:b9 prog n l0 B B0 bC (ix+1) (nm::aI) aP l ⟨s,(nm,aO)::b,g⟩)(X:o.op=.store t1 x y:=by exact rfl)(G:o.dst=none:=by exact rfl)(ht:tb t1=some i:=by exact rfl)(T:ev (Y s) x=some (.ptr nm of):=by exact rfl)(R:Y b nm=some cs:=by exact rfl)(hy:ev (Y s) y=some dy:=by exact rfl)
 (M:sb dy=true:=by exact rfl)(bT:Nat.beq dy.cells.length i.sz=true:=by exact rfl)(b8:rd cs of dy some=some aO:=by exact rfl)(hg:gd l0 o (Y s)=some true:=by exact rfl)(hB:Y B nm=none:=by exact rfl)(hD:BZ l0 o ix=true:=by kernel_rfl):b9 prog n l0 B B0 bC ix aI aP (o::l) ⟨s,b,g⟩:=sf aw X G ht T R hy M bT b8 hg hB (.inr hD) h
theorem w3(h:b9 prog n l0 B B0 bC (ix+1) aI aP l ⟨(t,d)::s,b,g⟩)(hq:ax tb (Y s) (Y B) o.op=some d:=by exact rfl)(hg:gd l0 o (Y s)=some true:=by exact rfl)(G:o.dst=some t:=by exact rfl):b9 prog n l0 B B0 bC ix aI aP (o::l) ⟨s,b,g⟩:=Cp aw hq hg G h
theorem w4(h:b9 prog n l0 B B0 bC (ix+1) aI aP l ⟨(t,.p (.raw undef))::s,b,g⟩)(hg:gd l0 o (Y s)=some false:=by exact rfl)(G:o.dst=some t:=by exact rfl):b9 prog n l0 B B0 bC ix aI aP (o::l) ⟨s,b,g⟩:=XF hg G h
theorem w5(h:bC ⟨s,b,g⟩):b9 prog n l0 B B0 bC ix aI aP [] ⟨s,b,g⟩:=h
theorem w6{hE:Array (Nat×Operand)}(h:b9 prog n l0 B B0 bC (ix+1) aI aP l ⟨(t,d)::s,b,g⟩)(X:o.op=.build t1 hE:=by exact rfl)(hp:sH (Y s) hE.toList (C9 tb t1)=some d:=by exact rfl)(hz:(match tb t1 with|some i=>j9 (kP i.zero)|none=>false)=true:=by exact rfl)(hg:gd l0 o (Y s)=some true:=by exact rfl)(G:o.dst=some t:=by exact rfl):b9 prog n l0 B B0 bC ix aI aP (o::l) ⟨s,b,g⟩:=
 cD (ya aw X hp hz) hg G h
theorem w7{len:Nat}{hE:Array (Nat×Operand)}{ps:List Pl}(h:b9 prog n l0 B B0 bC (ix+1) aI aP l ⟨(t,.p (.sl true len ps))::s,b,g⟩)(X:o.op=.buildSlice t1 len hE:=by exact rfl)(hp:sH (Y s) hE.toList (Da tb t1 len)=some ps:=by exact rfl)(hg:gd l0 o (Y s)=some true:=by exact rfl)(G:o.dst=some t:=by exact rfl):b9 prog n l0 B B0 bC ix aI aP (o::l) ⟨s,b,g⟩:=
 cD (Ks aw X hp) hg G h
theorem w8{dx:F}(h:b9 prog n l0 B B0 bC (ix+1) aI aP l ⟨(t,.ptr nm 0)::s,(nm,cs)::b,g⟩)(X:o.op=.box t1 x:=by exact rfl)(l7:tv 0 b some=some nm:=by exact rfl)(T:ev (Y s) x=some dx:=by exact rfl)(J:j9 dx=true:=by exact rfl)(cr:lR dx some=some cs:=by exact rfl)(hg:gd l0 o (Y s)=some true:=by exact rfl)(G:o.dst=some t:=by exact rfl)(hf:Y b nm=none:=by exact rfl)(ow:Y B nm=none:=by exact rfl):b9 prog n l0 B B0 bC ix aI aP (o::l) ⟨s,b,g⟩:=
 XD X l7 T J cr hg G hf ow h
theorem w9(h:b9 prog n l0 B B0 bC (ix+1) aI aP l ⟨(t,.ptr nm 0)::s,(nm,cs)::b,g⟩)(X:o.op=.alloc t1:=by exact rfl)(l7:tv 0 b some=some nm:=by exact rfl)(ht:tb t1=some i:=by exact rfl)(J:j9 (kP i.zero)=true:=by exact rfl)(cr:pK i.zero (λ d=>lR d some)=some cs:=by exact rfl)(hg:gd l0 o (Y s)=some true:=by exact rfl)(G:o.dst=some t:=by exact rfl)(hf:Y b nm=none:=by exact rfl)(ow:Y B nm=none:=by exact rfl):b9 prog n l0 B B0 bC ix aI aP (o::l) ⟨s,b,g⟩:=
 XE aw X l7 ht J cr hg G hf ow h
end
section
structure oN(aF:Prop):Prop where
 out:aF
variable{ae aF:Prop}
theorem gG(h:aF)(e:oN aF->ae:=by intro h;(repeat(first|refine z0 ?_|refine z1 ?_|refine z2 ?_|refine z3 ?_|refine z4 ?_|refine z5 ?_|refine z6 ?_|refine z7 ?_|refine z8 ?_|refine z9 ?_));exact h.out):ae:=e ⟨h⟩
theorem gm(h:aF)(e:oN aF->ae:=by intro h;(repeat(first|refine zA ?_|refine zB ?_|refine zC ?_|refine zD ?_|refine zE ?_|refine zF ?_|refine zG ?_|refine zH ?_|refine zI ?_|refine zJ ?_|refine zK ?_|refine zL ?_|refine zT ?_|refine zU ?_|refine zV ?_|refine zW ?_|refine zM ?_|refine zN ?_|refine zO ?_|refine zP ?_|refine zQ ?_|refine zR ?_|refine zS ?_));exact h.out):ae:=e ⟨h⟩
theorem go(h:aF)(e:oN aF->ae:=by intro h;(repeat(first|refine zA ?_|refine zB ?_|refine zC ?_|refine zD ?_|refine zE ?_|refine zF ?_|refine zG ?_|refine zH ?_|refine zI ?_|refine zJ ?_|refine zK ?_|refine zL ?_|refine zT ?_|refine zU ?_|refine zV ?_|refine zW ?_|refine zM ?_|refine zN ?_|refine zO ?_|refine zP ?_|refine zQ ?_|refine zR ?_|refine zS ?_|refine z0 ?_|refine z1 ?_|refine z2 ?_|refine z3 ?_|refine z4 ?_|refine z5 ?_|refine z6 ?_|refine z7 ?_|refine z8 ?_|refine z9 ?_));exact h.out):ae:=e ⟨h⟩
theorem A7(h:aF)(e:oN aF->ae:=by intro h;(repeat(first|refine zA ?_|refine zB ?_|refine zC ?_|refine zD ?_|refine zE ?_|refine zF ?_|refine zG ?_|refine zH ?_|refine zI ?_|refine zJ ?_|refine zK ?_|refine zL ?_|refine zT ?_|refine zU ?_|refine zV ?_|refine zW ?_|refine zM ?_|refine zN ?_|refine zO ?_|refine zP ?_|refine zQ ?_|refine zR ?_|refine zS ?_|refine bf (Gt aw rfl rfl rfl rfl (by omega) (by omega)) rfl rfl rfl ?_|refine bf (X8 rfl rfl rfl (by omega) (by omega)) rfl rfl rfl ?_|refine z0 ?_|refine z1 ?_|refine z2 ?_|refine z3 ?_|refine z4 ?_|refine z5 ?_|refine z6 ?_|refine z7 ?_|refine z8 ?_|refine z9 ?_));exact h.out):ae:=e ⟨h⟩
theorem ba(h:aF)(e:oN aF->ae:=by intro h;(repeat(first|refine w0 ?_|refine w1 ?_|refine w2 ?_|refine w3 ?_|refine w4 ?_|refine w5 ?_|refine w6 ?_|refine w7 ?_|refine w8 ?_|refine w9 ?_));exact h.out):ae:=e ⟨h⟩
end
section
variable{P:Program}{ah:Nat->Option TI}{Γ:bE}{I:St}{o:Oper}{l0 l:List Oper}{Q:Exit->St->Prop}
variable{s U:List (Nat×F)}{b bj:List (Nat×List F)}{g:List (Nat×Gr)}{t:Nat}{d:F}{f:FuncId}{aX:List Nat}{ds:List F}{O:bH}{aE:F->bH->Prop}{ae:Value->bH->Prop}{rs:List ResultVar}{n:Nat}{fn:Func}{c:Code}
theorem fP{v:Value}(ag:bH)(hX:ae v ag)(D:i3 I (aC ag) ag:=by(repeat(first|exact trivial|refine⟨⟨rfl,rfl⟩,?_⟩)))(K:jJ ag aX:=by(repeat(first|exact trivial|refine⟨rfl,?_⟩))):vn ah rs aX aE ae (.panic [pe v]) I:=R6 ag D K hX
theorem sX(hf:prog.funcs[f]?=some fn)(ic:fn.ntmps=n)(h:∀w cl own kf,aJ prog ⟨n,w,cl,own,k8 kf aX,[]⟩ c (vn tb rs aX aE ae) ⟨s,O,[]⟩)(R:fn.body=some c:=by exact rfl)(kY:fn.results.toList=rs:=by exact rfl)(hn:Nat.ble ds.length n=true:=by exact rfl)(hs:qy 0 ds some=some s:=by exact rfl)(ni:jJ O aX:=by(repeat(first|exact trivial|refine⟨rfl,?_⟩))):fu prog f aX ds O aE ae:=
 U7 aw hf R ic kY hn hs ni h
end
section
variable{ae aF:Prop}
theorem gP(h:aF)(e:oN aF->ae:=by intro h;(repeat(first|refine XC ?_|refine Xy ?_|refine XB ?_|refine XA ?_|refine Xz ?_));exact h.out):ae:=e ⟨h⟩
end
theorem rA(f:Nat)(h:(match prog.funcs[f]? with|some fn=>!(fn.name== "runtime.NumGoroutine")&&!fn.body.isNone|none=>false)=true):jj prog f:=by
 intro args w;split at h
 ·rename_i fn hf;simp only[Bool.and_eq_true,Bool.not_eq_true',beq_eq_false_iff_ne,ne_eq,Option.isNone_eq_false_iff] at h;obtain⟨u,D⟩:=h;obtain⟨c,L⟩:=Option.isSome_iff_exists.1 D;simp[callFunc,hf,u,L]
 ·cases h
section
variable{ae:Prop}
theorem Ac(e:ae:=by(repeat(first|exact trivial|refine⟨⟨rfl,rfl⟩,?_⟩|refine⟨rfl,?_⟩))):ae:=e
theorem yY(e:ae:=by(repeat(first|exact trivial|refine⟨.inr rfl,?_⟩|refine⟨.inl rfl,?_⟩))):ae:=e
theorem rF(e:ae:=by(first|(rintro d O ⟨r,U,_,_,_,_,_,_,rfl,rfl⟩)|(rintro d O ⟨m7,U,_,_,_,_,_,rfl,rfl⟩)|(rintro d O ⟨x,U,_,_,_,_,rfl,rfl⟩)|(rintro d O ⟨x,U,_,_,_,rfl,rfl⟩)|(rintro d O ⟨x,U,m7,_,_,rfl,rfl⟩)|(rintro d O ⟨x,U,_,_,rfl,rfl⟩)|(rintro d O ⟨a,U,m7,_,rfl,rfl⟩)|(rintro d O ⟨a,U,_,rfl,rfl⟩)|(rintro d O ⟨rfl,rfl⟩));(repeat(first|exact trivial|refine⟨.inl rfl,?_⟩|refine⟨.inr rfl,?_⟩))):ae:=e
theorem Oz(e:ae:=by(first|rintro v O ⟨a,U,h,rfl,rfl⟩|rintro v O ⟨a,U,m7,h,rfl,rfl⟩);refine gP ?_;first|exact fP _ ⟨a,U,by rw[<-A];exact bl h,rfl,rfl⟩|exact fP _ ⟨a,U,_,by rw[<-A];exact bl h,rfl,rfl⟩|exact fP _ ⟨a,U,m7,by rw[<-A];exact bl h,rfl,rfl⟩|exact fP _ ⟨a,U,A.symm.trans h,rfl,rfl⟩|exact fP _ ⟨a,U,m7,A.symm.trans h,rfl,rfl⟩|exact fP _ ⟨a,U,by rw[<-A];exact h,rfl,rfl⟩):ae:=e
end
section
variable{Γ:bE}{I:St}{o:Oper}{l0 l:List Oper}{Q:Exit->St->Prop}{bC:St->Prop}
variable{s U:List (Nat×F)}{b bj:List (Nat×List F)}{g:List (Nat×Gr)}{t t1:Nat}{d:F}{f:FuncId}{aX:List Nat}{ds first cC:List F}{O:bH}{aE:F->bH->Prop}{ae:Value->bH->Prop}{rs:List ResultVar}{n:Nat}{fn:Func}{c:Code}{xs:List Operand}{fb:Array TypeId}{fo:Operand}
variable{B B0:List (Nat×List F)}{aI:List Nat}{aP:List (Nat×Nat)}{ix:Nat}
def rf(l0:List Oper)(o:Oper)(s:List (Nat×F))(fo:Operand)(xs:List Operand)(fb:Array TypeId)(t n:Nat):Prop:=o.op=.call {callee:=.value fo,args:=xs.toArray,argTypes:=fb}/\gd l0 o (Y s)=some true/\o.dst=some t/\Nat.blt t n=true
def xN(Γ:bE)(s U:List (Nat×F))(b bj:List (Nat×List F))(g:List (Nat×Gr))(O:bH)(aX:List Nat)(ds:List F):Prop:=F.ok.ec (aC O) (λ _=>false) ds=true/\i3 ⟨s,b,g⟩ (aC O) O/\qn aX O Γ.kb/\kA (λ b=>!aC O b||gJ aX b) s (λ U=>kQ (aC O) (λ b=>!aC O b||gJ aX b) b (λ bj=>some (U,bj)))=some (U,bj)
theorem cA(hC:aW prog f ds d)(h:bp prog Γ l0 Q l ⟨(t,d)::s,b,g⟩)(c:rf l0 o s (.func f) xs fb t Γ.n:=by exact⟨rfl,rfl,rfl,rfl⟩)(hf:jj prog f:=by exact rA _ (by kernel_rfl))(T:iv (Y s) xs F.low.jR=some ds:=by exact rfl):bp prog Γ l0 Q (o::l) ⟨s,b,g⟩:=bf (Ku hC c.1 hf T) c.2.1 c.2.2.1 c.2.2.2 h
theorem cQ(hC:aW prog f ds d)(h:b9 prog n l0 B B0 bC (ix+1) aI aP l ⟨(t,d)::s,b,g⟩)(c:rf l0 o s (.func f) xs fb t (t+1):=by exact⟨rfl,rfl,rfl,by simp⟩)(hf:jj prog f:=by exact rA _ (by kernel_rfl))(T:iv (Y s) xs F.low.jR=some ds:=by exact rfl):b9 prog n l0 B B0 bC ix aI aP (o::l) ⟨s,b,g⟩:=cD (Ku hC c.1 hf T) c.2.1 c.2.2.1 h
theorem lA(hC:aW prog f ds d)(h:bp prog Γ l0 Q l ⟨(t,d)::s,b,g⟩)(c:rf l0 o s (.func f) xs fb t Γ.n:=by exact⟨rfl,rfl,rfl,rfl⟩)(hf:jj prog f:=by exact rA _ (by kernel_rfl))(T:iv (Y s) xs (λ iK=>B3 (Y b) iK some)=some ds:=by exact rfl)(hr:zx d=true:=by exact rfl):bp prog Γ l0 Q (o::l) ⟨s,b,g⟩:=bf (Ni hC c.1 hf T hr) c.2.1 c.2.2.1 c.2.2.2 h
theorem lQ(hC:aW prog f ds d)(h:b9 prog n l0 B B0 bC (ix+1) aI aP l ⟨(t,d)::s,b,g⟩)(c:rf l0 o s (.func f) xs fb t (t+1):=by exact⟨rfl,rfl,rfl,by simp⟩)(hf:jj prog f:=by exact rA _ (by kernel_rfl))(T:iv (Y s) xs (λ iK=>B3 (Y B) iK some)=some ds:=by exact rfl)(hr:zx d=true:=by exact rfl):b9 prog n l0 B B0 bC ix aI aP (o::l) ⟨s,b,g⟩:=cD (Ni hC c.1 hf T hr) c.2.1 c.2.2.1 h
theorem cI(hC:d8 prog f aX ds O aE)(h:∀d ag,aE d ag->bp prog Γ l0 Q l ⟨(t,d)::U,ag++bj,g⟩)(c:rf l0 o s (.func f) xs fb t Γ.n:=by exact⟨rfl,rfl,rfl,rfl⟩)(hf:jj prog f:=by exact rA _ (by kernel_rfl))(he:iv (Y s) xs some=some ds:=by exact rfl)(k:xN Γ s U b bj g O aX ds:=by exact⟨rfl,Ac,yY,rfl⟩)(dh:∀d ag,aE d ag->jH O b ag:=by exact rF):bp prog Γ l0 Q (o::l) ⟨s,b,g⟩:=gk hC c.1 hf he k.1 k.2.1 k.2.2.1 c.2.1 c.2.2.1 c.2.2.2 k.2.2.2 dh h
theorem vI(hC:d8 prog f aX ds O aE)(h:∀d ag,aE d ag->bp prog Γ l0 Q l ⟨(t,d)::U,ag++bj,g⟩)(c:rf l0 o s fo xs fb t Γ.n:=by exact⟨rfl,rfl,rfl,rfl⟩)(hf:jj prog f:=by exact rA _ (by kernel_rfl))(sO:ev (Y s) fo=some (.fn (.func f) first cC):=by exact rfl)(he:(iv (Y s) xs λ iK=>lP first iK λ r=>lP r cC some)=some ds:=by exact rfl)(k:xN Γ s U b bj g O aX ds:=by exact⟨rfl,Ac,yY,rfl⟩)(dh:∀d ag,aE d ag->jH O b ag:=by exact rF):bp prog Γ l0 Q (o::l) ⟨s,b,g⟩:=vC hC c.1 hf sO he k.1 k.2.1 k.2.2.1 c.2.1 c.2.2.1 c.2.2.2 k.2.2.2 dh h
theorem vX(hC:fu prog f aX ds O aE ae)(T:∀v ag,ae v ag->Q (.panic [pe v]) ⟨U,ag++bj,g⟩)(h:∀d ag,aE d ag->bp prog Γ l0 Q l ⟨(t,d)::U,ag++bj,g⟩)(c:rf l0 o s fo xs fb t Γ.n:=by exact⟨rfl,rfl,rfl,rfl⟩)(hf:jj prog f:=by exact rA _ (by kernel_rfl))(sO:ev (Y s) fo=some (.fn (.func f) first cC):=by exact rfl)(he:(iv (Y s) xs λ iK=>lP first iK λ r=>lP r cC some)=some ds:=by exact rfl)(k:xN Γ s U b bj g O aX ds:=by exact⟨rfl,Ac,yY,rfl⟩)(dh:∀d ag,aE d ag->jH O b ag:=by exact rF)(o8:∀v ag,ae v ag->jH O b ag:=by exact rF):bp prog Γ l0 Q (o::l) ⟨s,b,g⟩:=J9 hC c.1 hf sO he k.1 k.2.1 k.2.2.1 c.2.1 c.2.2.1 c.2.2.2 k.2.2.2 dh o8 T h
theorem xX(hC:fu prog f aX ds O aE ae)(T:∀v ag,ae v ag->Q (.panic [pe v]) ⟨U,ag++bj,g⟩)(h:∀d ag,aE d ag->bp prog Γ l0 Q l ⟨(t,d)::U,ag++bj,g⟩)(c:rf l0 o s (.func f) xs fb t Γ.n:=by exact⟨rfl,rfl,rfl,rfl⟩)(hf:jj prog f:=by exact rA _ (by kernel_rfl))(he:iv (Y s) xs some=some ds:=by exact rfl)(k:xN Γ s U b bj g O aX ds:=by exact⟨rfl,Ac,yY,rfl⟩)(dh:∀d ag,aE d ag->jH O b ag:=by exact rF)(o8:∀v ag,ae v ag->jH O b ag:=by exact rF):bp prog Γ l0 Q (o::l) ⟨s,b,g⟩:=Qp hC c.1 hf he k.1 k.2.1 k.2.2.1 c.2.1 c.2.2.1 c.2.2.2 k.2.2.2 dh o8 T h
theorem xP(hC:fu prog f aX ds O aE ae)(h:∀d ag,aE d ag->bp prog Γ l0 Q l ⟨(t,d)::U,ag++bj,g⟩)(c:rf l0 o s (.func f) xs fb t Γ.n:=by exact⟨rfl,rfl,rfl,rfl⟩)(hf:jj prog f:=by exact rA _ (by kernel_rfl))(he:iv (Y s) xs some=some ds:=by exact rfl)(k:xN Γ s U b bj g O aX ds:=by exact⟨rfl,Ac,yY,rfl⟩)(T:∀v ag,ae v ag->Q (.panic [pe v]) ⟨U,ag++bj,g⟩:=by exact Oz)(dh:∀d ag,aE d ag->jH O b ag:=by exact rF)(o8:∀v ag,ae v ag->jH O b ag:=by exact rF):bp prog Γ l0 Q (o::l) ⟨s,b,g⟩:=xX hC T h c hf he k dh o8
theorem vP(hC:fu prog f aX ds O aE ae)(h:∀d ag,aE d ag->bp prog Γ l0 Q l ⟨(t,d)::U,ag++bj,g⟩)(c:rf l0 o s fo xs fb t Γ.n:=by exact⟨rfl,rfl,rfl,rfl⟩)(hf:jj prog f:=by exact rA _ (by kernel_rfl))(sO:ev (Y s) fo=some (.fn (.func f) first cC):=by exact rfl)(he:(iv (Y s) xs λ iK=>lP first iK λ r=>lP r cC some)=some ds:=by exact rfl)(k:xN Γ s U b bj g O aX ds:=by exact⟨rfl,Ac,yY,rfl⟩)(T:∀v ag,ae v ag->Q (.panic [pe v]) ⟨U,ag++bj,g⟩:=by exact Oz)(dh:∀d ag,aE d ag->jH O b ag:=by exact rF)(o8:∀v ag,ae v ag->jH O b ag:=by exact rF):bp prog Γ l0 Q (o::l) ⟨s,b,g⟩:=vX hC T h c hf sO he k dh o8
theorem fX{ex:Exit}(ag:bH)(hR:aE d ag)(he:ex=.ret\/ex=.normal:=by first|exact .inl rfl|exact .inr rfl)(h:sg tb I rs=some d:=by exact rfl)(u:d.ok (aC ag) (λ _=>false)=true:=by exact rfl)(D:i3 I (aC ag) ag:=by(repeat(first|exact trivial|refine⟨⟨rfl,rfl⟩,?_⟩)))(K:jJ ag aX:=by(repeat(first|exact trivial|refine⟨rfl,?_⟩))):vn tb rs aX aE ae ex I:=by
 rcases he with rfl|rfl
 ·exact R7 ag h u D K hR
 ·exact R5 ag h u D K hR
theorem bA{x:Operand}{dx:F}{cs:List F}(nm:Nat)(h:bp prog Γ l0 Q l ⟨(t,.ptr nm 0)::s,(nm,cs)::b,g⟩)(X:o.op=.box t1 x:=by exact rfl)(T:ev (Y s) x=some dx:=by exact rfl)(J:j9 dx=true:=by exact rfl)(cr:lR dx some=some cs:=by exact rfl)(hg:gd l0 o (Y s)=some true:=by exact rfl)(G:o.dst=some t:=by exact rfl)(M:Nat.blt t Γ.n=true:=by exact rfl)(hf:Y b nm=none:=by exact rfl):bp prog Γ l0 Q (o::l) ⟨s,b,g⟩:=xQ (C8 nm X T J cr) hg G M hf h
theorem nA{i:TI}{cs:List F}(nm:Nat)(h:bp prog Γ l0 Q l ⟨(t,.ptr nm 0)::s,(nm,cs)::b,g⟩)(X:o.op=.alloc t1:=by exact rfl)(T:tb t1=some i:=by exact rfl)(J:j9 (kP i.zero)=true:=by exact rfl)(cr:pK i.zero (λ d=>lR d some)=some cs:=by exact rfl)(hg:gd l0 o (Y s)=some true:=by exact rfl)(G:o.dst=some t:=by exact rfl)(M:Nat.blt t Γ.n=true:=by exact rfl)(hf:Y b nm=none:=by exact rfl):bp prog Γ l0 Q (o::l) ⟨s,b,g⟩:=xQ (tQ aw nm X T J cr) hg G M hf h
theorem dW{l1 l2:List Oper}{id:Nat}(k:Nat)(ws:List Nat)(h:b9 prog Γ.n l B I.b (bp prog Γ l Q l2) 0 [] [] l1 I)(hs:(lm k l λ a=>j2 k l λ b=>some (a,b))=some (l1,l2):=by exact rfl)(hv:nz ws I.b some=some B:=by exact rfl)(hm:prog.follows .mixedOrders=true:=by kernel_rfl)(hB:pq l.toArray Γ.n=true:=by kernel_rfl)(hT:sj l.toArray k=true:=by kernel_rfl):aJ prog Γ (.region id l.toArray true) Q I:=Ko k ws hs hv hm hB hT h
theorem dQ{id:Nat}(ws:List Nat)(h:b9 prog Γ.n l B I.b (Q .normal) 0 [] [] l I)(hv:nz ws I.b some=some B:=by exact rfl)(hm:prog.follows .mixedOrders=true:=by kernel_rfl)(hB:pq l.toArray Γ.n=true:=by kernel_rfl):aJ prog Γ (.region id l.toArray true) Q I:=Kn ws hv hm hB h
theorem gW{aF:Prop}{l1 l2:List Oper}{id:Nat}(k:Nat)(ws:List Nat)(h:aF)(hs:(lm k l λ a=>j2 k l λ b=>some (a,b))=some (l1,l2):=by exact rfl)(hv:nz ws I.b some=some B:=by exact rfl)(hm:prog.follows .mixedOrders=true:=by kernel_rfl)(hB:pq l.toArray Γ.n=true:=by kernel_rfl)(hT:sj l.toArray k=true:=by kernel_rfl)(e:oN aF->b9 prog Γ.n l B I.b (bp prog Γ l Q l2) 0 [] [] l1 I:=by intro h;refine ba ?_;exact h.out):aJ prog Γ (.region id l.toArray true) Q I:=Ko k ws hs hv hm hB hT (e ⟨h⟩)
theorem gD{aF:Prop}{id:Nat}(ws:List Nat)(h:aF)(hv:nz ws I.b some=some B:=by exact rfl)(hm:prog.follows .mixedOrders=true:=by kernel_rfl)(hB:pq l.toArray Γ.n=true:=by kernel_rfl)(e:oN aF->b9 prog Γ.n l B I.b (Q .normal) 0 [] [] l I:=by intro h;refine ba ?_;exact h.out):aJ prog Γ (.region id l.toArray true) Q I:=Kn ws hv hm hB (e ⟨h⟩)
theorem ai{el ty:TypeId}{x y:Operand}{z1 z2:Nat}{z3:Value}{j:TI}{k:IntKind}{i:Int}{dx:F}{m:Nat}{ps:List Pl}(qs:List Pl)(hm:∀(m:Nat)(q:Pl),qs[m]?=some q->ps[i.toNat*j.sz+m]?=some q)(h:bp prog Γ l0 Q l ⟨(t,.el qs)::s,b,g⟩)(X:o.op=.indexAddr ty x y:=by exact rfl)(qC:tb ty=some ⟨.slice el,z1,z2,z3⟩:=by exact rfl)(o4:tb el=some j:=by exact rfl)(T:ev (Y s) x=some dx:=by exact rfl)(iS:mj dx=some (m,ps):=by exact rfl)(hy:ev (Y s) y=some (.p (.raw (.int k i))):=by exact rfl)(h0:0<=i:=by first|omega|(simp;done)|(simp;omega))(u:i<m:=by first|omega|(simp;done)|(simp;omega))(hq:qs≠[]:=by first|(simp;done)|exact List.cons_ne_nil _ _)(hg:gd l0 o (Y s)=some true:=by exact rfl)(G:o.dst=some t:=by exact rfl)(M:Nat.blt t Γ.n=true:=by exact rfl):bp prog Γ l0 Q (o::l) ⟨s,b,g⟩:=bf (MR aw qs X qC o4 T iS hy h0 u hq hm) hg G M h
theorem aj{el ty:TypeId}{x y:Operand}{z1 z2:Nat}{z3:Value}{j:TI}{k:IntKind}{i:Int}{nm m c:Nat}(p q:Nat)(h:bp prog Γ l0 Q l ⟨(t,.ptr nm p)::s,b,g⟩)(X:o.op=.indexAddr ty x y:=by exact rfl)(qC:tb ty=some ⟨.slice el,z1,z2,z3⟩:=by exact rfl)(o4:tb el=some j:=by exact rfl)(T:ev (Y s) x=some (.arr nm 0 m c):=by exact rfl)(hy:ev (Y s) y=some (.p (.raw (.int k i))):=by exact rfl)(h0:0<=i:=by omega)(u:i<m:=by omega)(hg:gd l0 o (Y s)=some true:=by exact rfl)(G:o.dst=some t:=by exact rfl)(M:Nat.blt t Γ.n=true:=by exact rfl)(hq:j.sz=q:=by exact rfl)(hp:p=i.toNat*q:=by omega):bp prog Γ l0 Q (o::l) ⟨s,b,g⟩:=bf (ja aw X qC o4 T hy h0 u (by rw[hq];exact hp)) hg G M h
theorem ri{el ty:TypeId}{x y:Operand}{z1 z2:Nat}{z3:Value}{j:TI}{k:IntKind}{i:Int}{dx:F}{m:Nat}{ps:List Pl}(qs:List Pl)(hm:∀(m:Nat)(q:Pl),qs[m]?=some q->ps[i.toNat*j.sz+m]?=some q)(h:b9 prog n l0 B B0 bC (ix+1) aI aP l ⟨(t,.el qs)::s,b,g⟩)(X:o.op=.indexAddr ty x y:=by exact rfl)(qC:tb ty=some ⟨.slice el,z1,z2,z3⟩:=by exact rfl)(o4:tb el=some j:=by exact rfl)(T:ev (Y s) x=some dx:=by exact rfl)(iS:mj dx=some (m,ps):=by exact rfl)(hy:ev (Y s) y=some (.p (.raw (.int k i))):=by exact rfl)(h0:0<=i:=by first|omega|(simp;done)|(simp;omega))(u:i<m:=by first|omega|(simp;done)|(simp;omega))(hq:qs≠[]:=by first|(simp;done)|exact List.cons_ne_nil _ _)(hg:gd l0 o (Y s)=some true:=by exact rfl)(G:o.dst=some t:=by exact rfl):b9 prog n l0 B B0 bC ix aI aP (o::l) ⟨s,b,g⟩:=cD (MR aw qs X qC o4 T iS hy h0 u hq hm) hg G h
theorem rj{el ty:TypeId}{x y:Operand}{z1 z2:Nat}{z3:Value}{j:TI}{k:IntKind}{i:Int}{nm m c:Nat}(p q:Nat)(h:b9 prog n l0 B B0 bC (ix+1) aI aP l ⟨(t,.ptr nm p)::s,b,g⟩)(X:o.op=.indexAddr ty x y:=by exact rfl)(qC:tb ty=some ⟨.slice el,z1,z2,z3⟩:=by exact rfl)(o4:tb el=some j:=by exact rfl)(T:ev (Y s) x=some (.arr nm 0 m c):=by exact rfl)(hy:ev (Y s) y=some (.p (.raw (.int k i))):=by exact rfl)(h0:0<=i:=by omega)(u:i<m:=by omega)(hg:gd l0 o (Y s)=some true:=by exact rfl)(G:o.dst=some t:=by exact rfl)(hq:j.sz=q:=by exact rfl)(hp:p=i.toNat*q:=by omega):b9 prog n l0 B B0 bC ix aI aP (o::l) ⟨s,b,g⟩:=cD (ja aw X qC o4 T hy h0 u (by rw[hq];exact hp)) hg G h
theorem pA{ty el:TypeId}{x y:Operand}{gn n1 m z1 z2:Nat}{z3:Value}{ps qs:List Pl}{dy:F}{i:TI}(cg:qs.length=m*i.sz)(h:bp prog Γ l0 Q l ⟨(t,.aU gn (n1+m) (ps++qs))::s,b,(gn,⟨el,i.sz,n1+m⟩)::g⟩)(X:o.op=.call {callee:=.builtin .append,args:=#[x,y],argTypes:=#[ty,ty]}:=by exact rfl)(qC:tb ty=some ⟨.slice el,z1,z2,z3⟩:=by exact rfl)(o4:tb el=some i:=by exact rfl)(hz:Nat.beq i.zero.cells.size i.sz=true:=by exact rfl)(hp:Nat.blt 0 i.sz=true:=by exact rfl)(hg:gd l0 o (Y s)=some true:=by exact rfl)(G:o.dst=some t:=by exact rfl)(M:Nat.blt t Γ.n=true:=by exact rfl)(T:ev (Y s) x=some (.aU gn n1 ps):=by exact rfl)(hG:Y g gn=some ⟨el,i.sz,n1⟩:=by exact rfl)(hy:ev (Y s) y=some dy:=by exact rfl)(iS:mj dy=some (m,qs):=by exact rfl)(Ub:n1+m<=maxLen:=by unfold maxLen;first|omega|(simp;omega))(R:(n1+m)*i.bytes<=140737488355328:=by show(_+_)*(_:Nat)<=_;first|(simp only[];omega)|omega|(simp;omega)):bp prog Γ l0 Q (o::l) ⟨s,b,g⟩:=ln aw X qC o4 hz hp hg G M T hG hy iS cg Ub R h
theorem sP(hf:prog.funcs[f]?=some fn)(ic:fn.ntmps=n)(h:∀w cl,aJ prog ⟨n,w,cl,λ _=>False,[],[]⟩ c (Fin tb rs d) ⟨s,[],[]⟩)(R:fn.body=some c:=by exact rfl)(kY:fn.results.toList=rs:=by exact rfl)(hn:Nat.ble ds.length n=true:=by exact rfl)(hs:qy 0 ds some=some s:=by exact rfl):aW prog f ds d:=Xn aw hf R ic kY hn hs h
theorem sI(hf:prog.funcs[f]?=some fn)(ic:fn.ntmps=n)(h:∀w cl own kf,aJ prog ⟨n,w,cl,own,k8 kf aX,[]⟩ c (As tb rs aX aE) ⟨s,O,[]⟩)(R:fn.body=some c:=by exact rfl)(kY:fn.results.toList=rs:=by exact rfl)(hn:Nat.ble ds.length n=true:=by exact rfl)(hs:qy 0 ds some=some s:=by exact rfl)(ni:jJ O aX:=by(repeat(first|exact trivial|refine⟨rfl,?_⟩))):d8 prog f aX ds O aE:=U8 aw hf R ic kY hn hs ni h
end
section
variable{ae aF:Prop}
theorem dt(h:aF)(e:oN aF->ae:=by intro h;(first|refine K5 rfl ?_|refine R8 rfl ?_);exact h.out):ae:=e ⟨h⟩
theorem gA{f:FuncId}{ds:List F}{d:F}(hC:aW prog f ds d)(h:aF)(e:aW prog f ds d->oN aF->ae:=by intro hC h;refine go ?_;refine cA hC ?_;refine go ?_;exact h.out):ae:=e hC ⟨h⟩
theorem gQ{f:FuncId}{ds:List F}{d:F}(hC:aW prog f ds d)(h:aF)(e:aW prog f ds d->oN aF->ae:=by intro hC h;refine ba ?_;refine cQ hC ?_;refine ba ?_;exact h.out):ae:=e hC ⟨h⟩
theorem gf(h:aF)(e:oN aF->ae:=by intro h;refine go ?_;refine dt ?_;exact h.out):ae:=e ⟨h⟩
theorem qg(h:aF)(e:oN aF->ae:=by intro h;refine ba ?_;refine go ?_;exact h.out):ae:=e ⟨h⟩
end
end Go.Proofs.YtcnefjfboagbmaaGreat
