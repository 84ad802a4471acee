/- Contracts of functions that write, panic, recover; sets told by maps; how arguments are opened. -/
import Derived.Test.YtcnefjfboagbmaaGreatLA
import Derived.Recover
import Derived.MapKept
import Derived.ChangeKeysEq
import Derived.Test.YtcnefjfboagbmaaGreatRows
section
namespace Go.Proofs.YtcnefjfboagbmaaGreat
open Go.Proofs.Tryz
open Go.RowKit
section
variable{P:Program}{ap:Nat->Option TI}{Γ:bN}{M:St}
def l7:K->K
 |.aW _ n ps=>.p (.sl false n ps)
 |.p x=>.p (zZ x)
 |d=>d
theorem LR{e:aC}{v:Value}{d:K}(h:bz e v d):bz e v (l7 d):=by
 cases h with
 |p h=>exact .p h.low
 |aW h _=>exact .p h
 |agg U h=>exact .agg U h
 |bd U h=>exact .bd U h
 |ptr h=>exact .ptr h
 |el h=>exact .el h
 |arr h=>exact .arr h
 |fn a b c d=>exact .fn a b c d
 |any=>exact .any
theorem B3(t:Nat){d d9:K}(ht:kv M.s t=some d)(D:l7 d=d9):bY Γ M ⟨(t,d9)::M.s,M.b,M.g⟩:=by
 intro a e L;refine⟨e,rfl,L.size,L.df,λ u c hu=>?_,L.boxes,L.eE,L.gs,L.env⟩;simp only[da] at hu;split at hu
 ·rename_i l6;subst l6;cases hu;rw[<-D];exact LR (L.bU _ _ ht)
 ·exact L.bU u c hu
theorem q6(nm:Nat){cs aS:List K}(Z:kv M.b nm=some cs)(D:cs.map l7=aS):bY Γ M ⟨M.s,(nm,aS)::M.b,M.g⟩:=by
 intro a e L;refine⟨e,rfl,L.size,L.df,L.bU,λ u c hu=>?_,λ u hu=>?_,L.gs,L.env⟩
 ·simp only[da] at hu;split at hu
  ·rename_i l6;subst l6;cases hu;obtain⟨k,vs,el,A,F,O,h4⟩:=L.boxes _ _ Z;refine⟨k,vs,el,A,F,by rw[<-D,List.length_map];exact O,λ i v d hv gu=>?_⟩;rw[<-D,List.getElem?_map] at gu;cases cR:cs[i]? with
   |none=>rw[cR] at gu;cases gu
   |some x=>rw[cR] at gu;cases gu;exact LR (h4 i v x hv cR)
  ·exact L.boxes u c hu
 ·simp only[da] at hu;split at hu
  ·cases hu
  ·exact L.eE u hu
end
end Go.Proofs.YtcnefjfboagbmaaGreat
end
section
namespace Go.Proofs.YtcnefjfboagbmaaGreat
open Go.Proofs.Tryz
open Go.RowKit
section
variable{P:Program}{ap:Nat->Option TI}{Γ:bN}{M cb bb:St}{o:Oper}{l0 l:List Oper}{Q:Exit->St->Prop}
variable{s aa:List (Nat×K)}{b bf:List (Nat×List K)}{g:List (Nat×Gr)}{t:Nat}{d:K}
abbrev pe(v:Value):PanicEntry:={v:=v,recovered:=false}
abbrev bJ:=List (Nat×List K)
def fM(P:Program)(f:FuncId)(aV:List Nat)(ds:List K)(Y:bJ)(aO:K->bJ->Prop)(X:Value->bJ->Prop):Prop:=
 ∀(e:aC)(vs:List Value),fY Y e->DReps e vs ds->
  Calls P f vs.toArray e.w (λ r aM=>(∃v d aq ab,r=.returned v/\ab.w=aM/\aO d aq/\fY aq ab/\bz ab v d/\Left aV e ab)\/∃v aq ab,r=.panicked [pe v]/\ab.w=aM/\X v aq/\fY aq ab/\Left aV e ab)
theorem eI.x{f:FuncId}{aV:List Nat}{ds:List K}{Y:bJ}{aO:K->bJ->Prop}{X:Value->bJ->Prop}(h:eI P f aV ds Y aO):fM P f aV ds Y aO X:=λ e vs A F=>(h e vs A F).mono λ _ _ hh=>.inl hh
theorem fM.c{f:FuncId}{aV:List Nat}{ds:List K}{Y:bJ}{aO:K->bJ->Prop}(h:fM P f aV ds Y aO λ _ _=>False):eI P f aV ds Y aO:=λ e vs A F=>(h e vs A F).mono λ _ _ hh=>hh.elim id λ⟨_,_,_,_,_,T,_⟩=>T.elim
theorem RC{f:FuncId}{aV:List Nat}{ds:List K}{Y:bJ}{aO:K->bJ->Prop}{X:Value->bJ->Prop}(hC:fM P f aV ds Y aO X){e:aC}{a:Act}(L:bu Γ ⟨s,b,g⟩ e a){vs:List Value}(hv:DReps e vs ds)(aT:K.ok.eR (aI Y) (λ _=>false) ds=true)(hs:jN ⟨s,b,g⟩ (aI Y) Y)(dV:sA aV Y Γ.kb)
 (D:o.dst=some t)(U:Nat.blt t Γ.n=true)(gG:lS (λ b=>!aI Y b||ir aV b) s (λ aa=>me (aI Y) (λ b=>!aI Y b||ir aV b) b (λ bf=>some (aa,bf)))=some (aa,bf))
 (dC:∀d aq,aO d aq->kH Y b aq)(qP:∀v aq,X v aq->kH Y b aq){js:Exit->Act->World->Prop}:
 Calls P f vs.toArray e.w λ
  |.returned v,nN=>∃d aq ab,aO d aq/\ab.w=nN/\bu Γ ⟨(t,d)::aa,aq++bf,g⟩ ab (a.put o.dst v)
  |.panicked ch,nN=>∃v aq ab,ch=[pe v]/\X v aq/\ab.w=nN/\bu Γ ⟨aa,aq++bf,g⟩ ab a
  |.outgrown,_=>LetsOut js:=by
 rw[u9,u7] at gG;cases gG;refine(hC (e.cut (aI Y) λ _=>false) vs (lT L hs) ⟨hv.1,λ i v d A F=>(hv.2 i v d A F).cut (q7 aT F)⟩).mono λ r aM hh=>?_
 rcases hh with⟨v,d,aq,ab,rfl,rfl,hR,hI,hr,hL⟩|⟨v,aq,ab,rfl,rfl,hX,hI,hL⟩
 ·obtain⟨A,F⟩:=L.after hI hL (λ n hn=>(dC d aq hR).get hn) (λ n k A F=>dV.get A F);refine⟨d,aq,e.after ab Y aq,hR,rfl,?_⟩;have:=A.put (dst:=o.dst) (qD D U) (hr.next F);rw[D] at this⊢;exact this
 ·obtain⟨A,_⟩:=L.after hI hL (λ n hn=>(qP v aq hX).get hn) (λ n k A F=>dV.get A F);exact⟨v,aq,e.after ab Y aq,rfl,hX,rfl,A⟩
theorem OQ{f:FuncId}{aO:K->bJ->Prop}{X:Value->bJ->Prop}(hg:gd l0 o (kv s)=some true)(c8:∀(a:Act)(e:aC),bu Γ ⟨s,b,g⟩ e a->∃vs:List Value,(execOp a.eval o).run P e.w=.ok (.enter f vs.toArray) e.w/\∀js:Exit->Act->World->Prop,Calls P f vs.toArray e.w λ
 |.returned v,nN=>∃d aq ab,aO d aq/\ab.w=nN/\bu Γ ⟨(t,d)::aa,aq++bf,g⟩ ab (a.put o.dst v)
 |.panicked ch,nN=>∃v aq ab,ch=[pe v]/\X v aq/\ab.w=nN/\bu Γ ⟨aa,aq++bf,g⟩ ab a
 |.outgrown,_=>LetsOut js)
 (h:∀d aq,aO d aq->bq P Γ l0 Q l ⟨(t,d)::aa,aq++bf,g⟩)(T:∀v aq,X v aq->Q (.panic [pe v]) ⟨aa,aq++bf,g⟩):bq P Γ l0 Q (o::l) ⟨s,b,g⟩:=by
 refine⟨λ a e L=>?_⟩;unfold wpList;rw[if_pos (mf L hg)];refine .inl ?_;obtain⟨vs,e1,hC⟩:=c8 a e L;unfold Oper.wp;rw[e1];refine(hC (jM Γ Q)).mono λ r aM hh=>?_
 cases r with
 |returned v=>obtain⟨d,aq,ab,hR,rfl,dR⟩:=hh;exact(h d aq hR).run _ ab dR
 |panicked ch=>obtain⟨v,aq,ab,rfl,hX,rfl,dR⟩:=hh;exact⟨_,ab,rfl,dR,T v aq hX⟩
 |outgrown=>exact hh
theorem VB{f:FuncId}{aV:List Nat}{ds:List K}{Y:bJ}{aO:K->bJ->Prop}{X:Value->bJ->Prop}{xs:List Operand}{fB:Array TypeId}(hC:fM P f aV ds Y aO X)(ho:o.op=.call {callee:=.value (.func f),args:=xs.toArray,argTypes:=fB})(hf:ke P f)(he:jc (kv s) xs some=some ds)(aT:K.ok.eR (aI Y) (λ _=>false) ds=true)(hs:jN ⟨s,b,g⟩ (aI Y) Y)(dV:sA aV Y Γ.kb)
 (hg:gd l0 o (kv s)=some true)(D:o.dst=some t)(U:Nat.blt t Γ.n=true)(gG:lS (λ b=>!aI Y b||ir aV b) s (λ aa=>me (aI Y) (λ b=>!aI Y b||ir aV b) b (λ bf=>some (aa,bf)))=some (aa,bf))
 (dC:∀d aq,aO d aq->kH Y b aq)(qP:∀v aq,X v aq->kH Y b aq)(T:∀v aq,X v aq->Q (.panic [pe v]) ⟨aa,aq++bf,g⟩)(h:∀d aq,aO d aq->bq P Γ l0 Q l ⟨(t,d)::aa,aq++bf,g⟩):bq P Γ l0 Q (o::l) ⟨s,b,g⟩:=by
 refine OQ (f:=f) hg (λ a e L=>?_) h T;have jC:=L.iP o.op.operands;have hv:=Dv (a:=a) (e:=e) xs (λ x T=>jC.1 x (by rw[ho];simp[Op.operands,Call.operands,T])) he;refine⟨xs.map a.eval,?_,λ js=>RC hC L hv aT hs dV D U gG dC qP⟩;obtain⟨dst,op,type,pos,after,guard⟩:=o;simp only at ho;subst ho;rw[execOp_call_go,hf];simp
theorem Om{f:FuncId}{aV:List Nat}{ds first c7:List K}{Y:bJ}{aO:K->bJ->Prop}{X:Value->bJ->Prop}{fo:Operand}{xs:List Operand}{fB:Array TypeId}(hC:fM P f aV ds Y aO X)(ho:o.op=.call {callee:=.value fo,args:=xs.toArray,argTypes:=fB})(hf:ke P f)(vp:ev (kv s) fo=some (.fn (.func f) first c7))(he:jc (kv s) xs (λ jx=>m8 first jx λ r=>m8 r c7 some)=some ds)(aT:K.ok.eR (aI Y) (λ _=>false) ds=true)(hs:jN ⟨s,b,g⟩ (aI Y) Y)(dV:sA aV Y Γ.kb)
 (hg:gd l0 o (kv s)=some true)(D:o.dst=some t)(U:Nat.blt t Γ.n=true)(gG:lS (λ b=>!aI Y b||ir aV b) s (λ aa=>me (aI Y) (λ b=>!aI Y b||ir aV b) b (λ bf=>some (aa,bf)))=some (aa,bf))
 (dC:∀d aq,aO d aq->kH Y b aq)(qP:∀v aq,X v aq->kH Y b aq)(T:∀v aq,X v aq->Q (.panic [pe v]) ⟨aa,aq++bf,g⟩)(h:∀d aq,aO d aq->bq P Γ l0 Q l ⟨(t,d)::aa,aq++bf,g⟩):bq P Γ l0 Q (o::l) ⟨s,b,g⟩:=by
 refine OQ (f:=f) hg (λ a e L=>?_) h T;have jC:=L.iP o.op.operands;obtain⟨jx,hr,n4⟩:=tW (a:=a) (e:=e) xs _ ds (λ x T=>jC.1 x (by rw[ho];simp[Op.operands,Call.operands,T])) he;rw[rC,rC] at n4;cases n4;have xp:=jC.1 fo (by rw[ho];simp[Op.operands,Call.operands]) _ vp;generalize dG:a.eval fo=gv at xp;cases xp with
 |fn jU dX A F=>rename_i us vs;have dF:DReps e (us++xs.map a.eval++vs) (first++jx++c7):=(DReps.append ⟨jU,A⟩ hr).append ⟨dX,F⟩;refine⟨us++xs.map a.eval++vs,?_,λ js=>RC hC L dF aT hs dV D U gG dC qP⟩;obtain⟨dst,op,type,pos,after,guard⟩:=o;simp only at ho;subst ho;simp only[execOp,resolve,dG,Deferred.ofValue,Sem.run_bind,Sem.run_pure,Result.andThen_ok,invoke];rw[hf];simp
def yh(ap:Nat->Option TI)(rs:List ResultVar)(aV:List Nat)(aO:K->bJ->Prop)(X:Value->bJ->Prop):Exit->St->Prop
 |.normal,M|.ret,M=>∃d aq,uK ap M rs=some d/\d.ok (aI aq) (λ _=>false)=true/\jN M (aI aq) aq/\kK aq aV/\aO d aq
 |.panic ch,M=>∃v aq,ch=[pe v]/\jN M (aI aq) aq/\kK aq aV/\X v aq
 |_,_=>False
theorem XJ{rs:List ResultVar}{aV:List Nat}{aO:K->bJ->Prop}{X:Value->bJ->Prop}(aq:bJ)(h:uK ap M rs=some d)(A:d.ok (aI aq) (λ _=>false)=true)(F:jN M (aI aq) aq)(O:kK aq aV)(hR:aO d aq):yh ap rs aV aO X .ret M:=⟨d,aq,h,A,F,O,hR⟩
theorem XH{rs:List ResultVar}{aV:List Nat}{aO:K->bJ->Prop}{X:Value->bJ->Prop}(aq:bJ)(h:uK ap M rs=some d)(A:d.ok (aI aq) (λ _=>false)=true)(F:jN M (aI aq) aq)(O:kK aq aV)(hR:aO d aq):yh ap rs aV aO X .normal M:=⟨d,aq,h,A,F,O,hR⟩
theorem XI{rs:List ResultVar}{aV:List Nat}{aO:K->bJ->Prop}{X:Value->bJ->Prop}{v:Value}(aq:bJ)(F:jN M (aI aq) aq)(O:kK aq aV)(hX:X v aq):yh ap rs aV aO X (.panic [pe v]) M:=⟨v,aq,rfl,F,O,hX⟩
theorem adW{aG:St->Prop}{ch:List PanicEntry}(h:Q (.panic ch) M):su aG Q (.panic ch) M:=h
theorem adU{id:Nat}{ch:List PanicEntry}(h:Q (.panic ch) M):qB id Q (.panic ch) M:=h
theorem adV{ch:List PanicEntry}(h:Q (.panic ch) M):CB Q (.panic ch) M:=h
theorem vS{f:FuncId}{fn:Func}{ds:List K}{aV:List Nat}{Y:bJ}(dn:List Deferred)(hn:ds.length<=fn.ntmps)(oO:kK Y aV){e:aC}{vs:List Value}(hI:fY Y e)(hv:DReps e vs ds)(_:f=f):
 bu ⟨fn.ntmps,e.w,e.cl,λ k=>∃b,e.bx b=some k,mp (λ b=>(e.bx b).getD 0) aV,dn⟩ ⟨vd.go 0 ds,Y,[]⟩ e {tmps:=vs.toArray++Array.replicate (fn.ntmps-vs.toArray.size) undef,defers:=dn}:=by
 have U:vs.length=ds.length:=hv.1;refine⟨by simp;omega,rfl,λ t d0 ht=>?_,hI.boxes,hI.eE,λ g=>by rw[hI.gi];rfl,⟨oz.refl _ _,λ _ _ _=>rfl,λ b k J=>⟨(hI.bx b k J).1,.inr ⟨b,J⟩,(hI.bx b k J).2,hI.gr k⟩,hI.inj,λ k g J=>(by rw[hI.gr] at J;cases J),λ b k J=>?_⟩⟩
 ·obtain⟨_,F⟩:=Dt ds 0 t d0 ht;simp only[Nat.sub_zero] at F;obtain⟨v,O,h4⟩:=hv.get F;have gV:t<vs.length:=(List.getElem?_eq_some_iff.1 O).1;have:gq {tmps:=vs.toArray++Array.replicate (fn.ntmps-vs.toArray.size) undef,defers:=dn} t=v:=by
   unfold gq;simp only[Array.getD_eq_getD_getElem?];rw[Array.getElem?_append_left (by simpa using gV),List.getElem?_toArray,O]
   rfl
  rw[this];exact h4
 ·obtain⟨A,F⟩:=BV J;rw[F];have aU:=oO.get A;obtain⟨cs,cR⟩:=Option.isSome_iff_exists.1 aU;obtain⟨iG,_,_,O,_⟩:=hI.boxes b cs cR;rw[O];rfl
theorem imp_left{aV:List Nat}{Y aq:bJ}{n:Nat}{dn:List Deferred}{e ab:aC}{a:Act}(hI:fY Y e)(oO:kK Y aV)(L:bu ⟨n,e.w,e.cl,λ k=>∃b,e.bx b=some k,mp (λ b=>(e.bx b).getD 0) aV,dn⟩ M ab a)(h7:kK aq aV):Left aV e (ab.cut (aI aq) λ _=>false):=by
 refine⟨L.env.kept,L.env.cl,λ b k J=>?_,λ b Z=>?_⟩
 ·have dI:(if aI aq b=true then ab.bx b else none)=some k:=J;split at dI
  ·exact(L.env.bx b k dI).2.1
  ·cases dI
 ·show(if aI aq b=true then ab.bx b else none)=_;have aU:=oO.get Z;obtain⟨cs,cR⟩:=Option.isSome_iff_exists.1 aU;obtain⟨iG,_,_,O,_⟩:=hI.boxes b cs cR;rw[if_pos (h7.get Z),L.env.kb b _ (zx Z),O];rfl
theorem aaZ(hT:di P ap){f:FuncId}{fn:Func}{c:Code}{ds:List K}{aV:List Nat}{Y:bJ}{aO:K->bJ->Prop}{X:Value->bJ->Prop}{rs:List ResultVar}{n:Nat}{s:List (Nat×K)}(hf:P.funcs[f]?=some fn)(Z:fn.body=some c)(iX:fn.ntmps=n)(mm:fn.results.toList=rs)(hn:Nat.ble ds.length n=true)(hs:sL 0 ds some=some s)(oO:kK Y aV)
 (h:∀w cl own kf,aP P ⟨n,w,cl,own,mp kf aV,[]⟩ c (yh ap rs aV aO X) ⟨s,Y,[]⟩):fM P f aV ds Y aO X:=by
 subst iX;subst mm;rw[Be] at hs;cases hs;have hn:=Nat.le_of_ble_eq_true hn;intro e vs hI hv;refine calls_of_wp hf Z ?_;have L:=vS (fn:=fn) (f:=f) (aV:=aV) [] hn oO hI hv rfl;refine Code.wp_mono (λ ex bs aM hh=>?_) ((h e.w e.cl _ _).run _ e L);obtain⟨cb,ab,rfl,F,O⟩:=hh;have Rl:(∃d aq,uK ap cb fn.results.toList=some d/\d.ok (aI aq) (λ _=>false)=true/\jN cb (aI aq) aq/\kK aq aV/\aO d aq)->bs.defers=[]/\∃v,(results fn bs.tmps).run P ab.w=.ok v ab.w/\((∃ij d aq nZ,Ending.returned v=.returned ij/\nZ.w=ab.w/\aO d aq/\fY aq nZ/\bz nZ ij d/\Left aV e nZ)\/∃ij aq nZ,Ending.returned v=.panicked [pe ij]/\nZ.w=ab.w/\X ij aq/\fY aq nZ/\Left aV e nZ):=by rintro⟨d,aq,h4,h5,h6,h7,h8⟩;obtain⟨v,hr,hv⟩:=pJ hT F h4;exact⟨F.df,v,hr,.inl ⟨v,d,aq,ab.cut (aI aq) λ _=>false,rfl,rfl,h8,lT F h6,hv.cut h5,imp_left hI oO F h7⟩⟩
 cases ex with
 |normal=>exact Rl O
 |ret=>exact Rl O
 |panic ch=>obtain⟨v,aq,rfl,h6,h7,h8⟩:=O;exact⟨F.df,.inr ⟨v,aq,ab.cut (aI aq) λ _=>false,rfl,rfl,h8,lT F h6,imp_left hI oO F h7⟩⟩
 |exit id=>exact O.elim
 |goto l=>exact O.elim
 |outgrown=>exact O.elim
def Cu:K->Option Value
 |.p (.raw v)=>some v
 |_=>none
def Au{av:Type}:List K->(List Value->Option av)->Option av
 |[],k=>k []
 |d::l,k=>match Cu d with
  |some v=>Au l λ r=>k (v::r)
  |none=>none
def E8:K->Option Value
 |.agg ds=>Au ds λ vs=>some (.agg vs.toArray)
 |d=>Cu d
theorem MC{e:aC}{v u:Value}{d:K}(h:bz e v d)(D:Cu d=some u):v=u:=by
 unfold Cu at D;split at D
 ·cases D;exact dh h
 ·cases D
theorem TF{av:Type}{e:aC}:∀{ds:List K}{vs:List Value}{k:List Value->Option av}{r:av},DReps e vs ds->Au ds k=some r->k vs=some r
 |[],vs,k,r,hv,h=>by
  have:vs=[]:=List.eq_nil_of_length_eq_zero hv.1;subst this;exact h
 |d::ds,vs,k,r,hv,h=>by
  obtain⟨v,eY,rfl,A,F⟩:=hv.yd;simp only[Au] at h;split at h
  ·rename_i u hu;have:=MC A hu;subst this;exact TF (k:=λ r=>k (v::r)) F h
  ·cases h
theorem ad1{e:aC}{v u:Value}{d:K}(h:bz e v d)(D:E8 d=some u):v=u:=by
 unfold E8 at D;split at D
 ·cases h with
  |agg U hh=>rename_i vs;have:=TF (e:=e) (vs:=vs) ⟨U,hh⟩ D;cases this;rfl
 ·exact MC h D
def TK.known:TK->Bool
 |.other=>false
 |_=>true
theorem RT(hT:di P ap){ty:TypeId}{i:TI}(ht:ap ty=some i)(J:i.k.known=true):∃dd,P.underlying ty=some dd/\∀ms,dd≠.interface ms:=by obtain⟨dd,A,F⟩:=hT.desc ty i ht;refine⟨dd,A,λ ms e=>?_⟩;subst e;rw[<-F] at J;cases J
theorem ED(hT:di P ap){S:Nat->Option K}{B:Nat->Option (List K)}{ty:TypeId}{x:Operand}{i:TI}{dx:K}{v:Value}(ho:o.op=.makeInterface ty x)(ht:ap ty=some i)(J:i.k.known=true)(T:ev S x=some dx)(hv:E8 dx=some v):dN P o S B (.p (.raw (.iface ty v))) none:=by
 refine jp λ a e hs=>⟨_,?_,.p (.raw _)⟩
 have cj:=ad1 (hs.1 x (by rw[ho];simp[Op.operands]) _ T) hv;obtain⟨dd,A,F⟩:=RT hT ht J;obtain⟨dst,op,type,pos,after,guard⟩:=o;simp only at ho;subst ho;simp only[execOp,Instr.makeInterface,Sem.run_bind,run_underlying A,Result.andThen_ok,cj];cases dd with
 |interface ms=>exact absurd rfl (F ms)
 |_=>rfl
theorem C7{x:Operand}{ty:TypeId}{v:Value}(ho:o.op=.panic x)(T:ev (kv s) x=some (.p (.raw (.iface ty v))))(hg:gd l0 o (kv s)=some true)(h:Q (.panic [pe (.iface ty v)]) ⟨s,b,g⟩):bq P Γ l0 Q (o::l) ⟨s,b,g⟩:=by
 refine⟨λ a e L=>?_⟩;unfold wpList;rw[if_pos (mf L hg)];refine .inl ?_;have cj:=Pv L T;have e1:(execOp a.eval o).run P e.w=.halt (.panic (.iface ty v)) e.w:=by
  obtain⟨dst,op,type,pos,after,guard⟩:=o;simp only at ho;subst ho;simp only[execOp,Instr.panic,cj]
  rfl
 unfold Oper.wp;rw[e1];exact⟨_,e,rfl,L,h⟩
end
end Go.Proofs.YtcnefjfboagbmaaGreat
end
section
namespace Go.Proofs.YtcnefjfboagbmaaGreat
open Go.Proofs.Tryz
open Go.RowKit
section
variable{P:Program}{ap:Nat->Option TI}{Γ:bN}{S:Nat->Option K}{B:Nat->Option (List K)}{o:Oper}
def H8{av:Type}:List K->(List Pl->Option av)->Option av
 |.p x::l,k=>bif x.lf then H8 l λ r=>k (x::r) else k []
 |_,k=>k []
theorem Tk{av:Type}:∀{l:List K}{k:List Pl->Option av}{r:av},H8 l k=some r->∃ps,k ps=some r/\∀(i:Nat) x,ps[i]?=some x->l[i]?=some (.p x)/\x.lf=true
 |[],k,r,h=>⟨[],h,λ i x T=>by simp at T⟩
 |d::l,k,r,h=>by
  cases d with
  |p x=>
   simp only[H8] at h;cases T:x.lf with
   |false=>rw[T] at h;exact⟨[],h,λ i x T=>by simp at T⟩
   |true=>
    rw[T] at h;obtain⟨ps,A,F⟩:=Tk (l:=l) (k:=λ r=>k (x::r)) h;refine⟨x::ps,A,λ i y hy=>?_⟩;cases i with
    |zero=>simp at hy;subst hy;exact⟨rfl,T⟩
    |succ i=>simpa using F i y (by simpa using hy)
  |_=>exact⟨[],h,λ i x T=>by simp at T⟩
def HG{av:Type}(B:Nat->Option (List K))(d:K)(k:K->Option av):Option av:=match d with
 |.ptr b o=>match B b with
  |some cs=>la o cs λ r=>H8 r λ ps=>k (.el ps)
  |none=>none
 |d=>d.to k
def HH{av:Type}(B:Nat->Option (List K)):List K->(List K->Option av)->Option av
 |[],k=>k []
 |d::l,k=>HG B d λ x=>HH B l λ r=>k (x::r)
def LJ{av:Type}(B:Nat->Option (List K))(d:K)(k:K->Option av):Option av:=match d with
 |.fn f first c7=>HH B first λ a=>HH B c7 λ c=>k (.fn f a c)
 |d=>HG B d k
def EK{av:Type}(B:Nat->Option (List K)):List K->(List K->Option av)->Option av
 |[],k=>k []
 |d::l,k=>LJ B d λ x=>EK B l λ r=>k (x::r)
open Classical in
noncomputable def aC.oh(e:aC):Nat->Option Nat:=λ k=>if∃b,e.bx b=some k then none else e.cl k
theorem Sc{e:aC}{b o:Nat}(h:e.nW b o):(hb e.w e.oh).nW b o:=by
 intro k J;have dI:e.oh b=some k:=J;unfold aC.oh at dI;split at dI
 ·cases dI
 ·exact h k dI
theorem abo{e:aC}{b k o:Nat}(h:e.bx b=some k):(hb e.w e.oh).nW k o:=by intro m hm;have rS:e.oh k=some m:=hm;unfold aC.oh at rS;rw[if_pos ⟨b,h⟩] at rS;cases rS
theorem dm.oh{e:aC}{v:Value}{x:Pl}(h:dm e v x):dm (hb e.w e.oh) v x:=by
 induction h with
 |raw v=>exact .raw v
 |sl f A F O h4 h5 h6 ih=>refine .sl f A F O h4 (λ i x T=>?_) ih;obtain⟨b,o,hA,L,hv,U⟩:=h5 i x T;exact⟨b,o,hA,Sc L,hv,U⟩
theorem abp(e:aC):Ends (hb e.w e.cl) (hb e.w e.oh):=
 ⟨λ b o v A F=>⟨Sc (e:=e) A,F⟩,λ _ _ h=>(by cases h),λ _ _ h=>(by cases h),λ _ _ _ _ h=>(by cases h)⟩
theorem R9{av:Type}{e:aC}(hB:∀b cs,B b=some cs->h1 e b cs){v:Value}{d:K}{k:K->Option av}{r:av}(h:bz e v d)(J:HG B d k=some r):∃d9,bz (hb e.w e.oh) v d9/\k d9=some r:=by
 have ZM:d.to k=some r->∃d9,bz (hb e.w e.oh) v d9/\k d9=some r:=λ J=>by
  rw[HJ] at J;obtain⟨d9,A,F⟩:=Option.bind_eq_some_iff.1 J;exact⟨d9,(HK h d9 A).next (abp e),F⟩
 unfold HG at J;split at J
 ·rename_i nm of;split at J
  ·rename_i cs cR;obtain⟨A,F⟩:=nY J;obtain⟨ps,O,h4⟩:=Tk F;refine⟨.el ps,?_,O⟩;cases h with
   |ptr jd=>
    obtain⟨kk,vs,el,b1,b2,b3⟩:=hB nm cs cR;rw[jd] at b1;cases b1;refine .el ⟨λ i=>(vs[of+i]?).getD undef,λ i x T=>?_⟩;obtain⟨h5,h6⟩:=h4 i x T;rw[List.getElem?_drop] at h5;obtain⟨u,h7,h8⟩:=b3.get h5;have hp:dm e u x:=by cases h8 with|p h=>exact h
    have hg:(vs[of+i]?).getD undef=u:=by rw[h7];rfl
    refine⟨abo jd,?_,?_,?_⟩
    ·show e.w.cell? _=some ((vs[of+i]?).getD undef);rw[cell_of_row e.w _ (of+i) _ el (0,0) b2,List.getElem?_toArray,hg,h7]
    ·show mr ((vs[of+i]?).getD undef)=true;rw[hg];exact LK hp h6
    ·show dm _ ((vs[of+i]?).getD undef) x;rw[hg];exact hp.oh
  ·cases J
 ·exact ZM J
theorem LI{av:Type}{e:aC}(hB:∀b cs,B b=some cs->h1 e b cs):∀{ds:List K}{vs:List Value}{k:List K->Option av}{r:av},DReps e vs ds->HH B ds k=some r->∃iA,DReps (hb e.w e.oh) vs iA/\k iA=some r
 |[],vs,k,r,h,J=>by
  have:vs=[]:=List.eq_nil_of_length_eq_zero h.1;subst this;exact⟨[],DReps.nil _,J⟩
 |d::ds,vs,k,r,h,J=>by
  obtain⟨v,eY,rfl,A,F⟩:=h.yd;obtain⟨d9,q1,q2⟩:=R9 hB A J;obtain⟨iA,q3,q4⟩:=LI hB F q2;exact⟨d9::iA,q3.cons q1,q4⟩
theorem abn{av:Type}{e:aC}(hB:∀b cs,B b=some cs->h1 e b cs){v:Value}{d:K}{k:K->Option av}{r:av}(h:bz e v d)(J:LJ B d k=some r):∃d9,bz (hb e.w e.oh) v d9/\k d9=some r:=by
 unfold LJ at J;split at J
 ·cases h with
  |fn a1 a2 a3 a4=>rename_i us vs;obtain⟨iA,q1,q2⟩:=LI hB (vs:=us) ⟨a1,a3⟩ J;obtain⟨aS,q3,q4⟩:=LI hB (vs:=vs) ⟨a2,a4⟩ q2;exact⟨_,.fn q1.1 q3.1 q1.2 q3.2,q4⟩
 ·exact R9 hB h J
theorem Sb{av:Type}{e:aC}(hB:∀b cs,B b=some cs->h1 e b cs):∀{ds:List K}{vs:List Value}{k:List K->Option av}{r:av},DReps e vs ds->EK B ds k=some r->∃iA,DReps (hb e.w e.oh) vs iA/\k iA=some r
 |[],vs,k,r,h,J=>by
  have:vs=[]:=List.eq_nil_of_length_eq_zero h.1;subst this;exact⟨[],DReps.nil _,J⟩
 |d::ds,vs,k,r,h,J=>by
  obtain⟨v,eY,rfl,A,F⟩:=h.yd;obtain⟨d9,q1,q2⟩:=abn hB A J;obtain⟨iA,q3,q4⟩:=Sb hB F q2;exact⟨d9::iA,q3.cons q1,q4⟩
def Ct:K->Bool
 |.bd ds=>(Au ds λ _=>some ()).isSome
 |d=>(E8 d).isSome
theorem MD{av:Type}{e ab:aC}:∀{ds:List K}{vs:List Value}{k:List Value->Option av}{r:av},DReps e vs ds->Au ds k=some r->DReps ab vs ds
 |[],vs,k,r,h,_=>by
  have:vs=[]:=List.eq_nil_of_length_eq_zero h.1;subst this;exact DReps.nil _
 |d::ds,vs,k,r,h,J=>by
  obtain⟨v,eY,rfl,A,F⟩:=h.yd;simp only[Au] at J;split at J
  ·rename_i u hu;refine(MD F J).cons ?_;unfold Cu at hu;split at hu
   ·cases hu;rw[dh A];exact .p (.raw _)
   ·cases hu
  ·cases J
theorem ad0{e ab:aC}{v:Value}{d:K}(h:bz e v d)(D:Ct d=true):bz ab v d:=by
 unfold Ct at D;split at D
 ·obtain⟨r,hr⟩:=Option.isSome_iff_exists.1 D;cases h with
  |bd U hh=>exact .bd U (MD (e:=e) ⟨U,hh⟩ hr).2
 ·obtain⟨u,hu⟩:=Option.isSome_iff_exists.1 D;unfold E8 at hu;split at hu
  ·cases h with
   |agg U hh=>exact .agg U (MD (e:=e) ⟨U,hh⟩ hu).2
  ·have:=MC h hu;subst this;unfold Cu at hu;split at hu
   ·cases hu;exact .p (.raw _)
   ·cases hu
theorem abm{f:FuncId}{ds:List K}{d:K}(hC:bc P f ds d)(D:Ct d=true){e:aC}{vs:List Value}(hv:DReps (hb e.w e.oh) vs ds){a:Act}{o:Oper}:
 Calls P f vs.toArray e.w λ
  |.returned v,nN=>∃ij ab,a.put o.dst v=a.put o.dst ij/\ab.w=nN/\pa e ab ij d none
  |.panicked _,_=>False
  |.outgrown,_=>LetsOut (λ _ _ _=>False):=by
 refine(hC e.w e.oh vs hv).mono λ r aM hh=>?_
 obtain⟨v,bv,rfl,Z,_,hr⟩:=hh;exact⟨v,{e with w:=aM,cl:=λ k=>if k<e.w.heap.size then e.cl k else bv k},rfl,rfl,⟨Z,λ k J=>if_pos J,rfl,rfl,rfl⟩,ad0 hr D⟩
theorem Sa{f:FuncId}{xs:List Operand}{fB:Array TypeId}{ds:List K}{d:K}(hC:bc P f ds d)(ho:o.op=.call {callee:=.value (.func f),args:=xs.toArray,argTypes:=fB})(hf:ke P f)(he:jc S xs (λ jx=>EK B jx some)=some ds)(D:Ct d=true):dN P o S B d none:=by
 intro a e hs _;obtain⟨jx,A,F⟩:=tW (a:=a) (e:=e) xs _ ds (λ x T=>hs.1 x (by rw[ho];simp[Op.operands,Call.operands,T])) he;obtain⟨iA,O,h4⟩:=Sb hs.2 A F;cases h4;unfold Oper.wp;have e1:(execOp a.eval o).run P e.w=.ok (.enter f (xs.map a.eval).toArray) e.w:=by obtain⟨dst,op,type,pos,after,guard⟩:=o;simp only at ho;subst ho;rw[execOp_call_go,hf];simp
 rw[e1];exact abm hC D O
end
end Go.Proofs.YtcnefjfboagbmaaGreat
end
section
namespace Go.Proofs.YtcnefjfboagbmaaGreat
open Go.Proofs.Tryz
open Go.RowKit
section
variable{P:Program}{ap:Nat->Option TI}{S:Nat->Option K}{B:Nat->Option (List K)}{o:Oper}
theorem AL{n:Int}(h0:0<=n)(h:n<9223372036854775808):IntKind.i64.wrap n=n:=eU (by omega) (by omega)
theorem Ox(a:Int)(b:Nat)(Z:b<=62):IntKind.i64.wrap (((BitVec.ofInt 64 a&&&BitVec.ofInt 64 (2^b-1:Int)).toNat:Nat):Int)=a%2^b:=by
 have hp:(2:Int)^b-1=((2^b-1:Nat):Int):=by
  have:=Nat.one_le_two_pow (n:=b);rw[Int.ofNat_sub this]
  norm_cast
 have bm:(2:Nat)^b<=2^62:=Nat.pow_le_pow_right (by omega) Z;have A:(BitVec.ofInt 64 a&&&BitVec.ofInt 64 (2^b-1:Int)).toNat=(a%18446744073709551616).toNat%2^b:=by
  rw[hp,BitVec.toNat_and,BitVec.toNat_ofInt,BitVec.ofInt_natCast,BitVec.toNat_ofNat,Nat.mod_eq_of_lt (a:=2^b-1) (by omega),Nat.and_two_pow_sub_one_eq_mod]
  rfl
 rw[A];have F:(((a%18446744073709551616).toNat%2^b:Nat):Int)=a%2^b:=by
  rw[Int.natCast_emod,Int.toNat_of_nonneg (Int.emod_nonneg _ (by decide))];have D:((2^b:Nat):Int)∣18446744073709551616:=by
   have:(2:Nat)^b∣2^64:=Nat.pow_dvd_pow 2 (by omega);have Yc:(18446744073709551616:Int)=((2^64:Nat):Int):=by decide
   rw[Yc];exact Int.natCast_dvd_natCast.2 this
  rw[Int.emod_emod_of_dvd _ D]
  norm_cast
 rw[F];have rT:(0:Int)<2^b:=Int.pow_pos (by omega);have O:a%2^b<2^b:=Int.emod_lt_of_pos _ rT;have h4:(2:Int)^b<=4611686018427387904:=by
  have h5:((2^b:Nat):Int)<=((2^62:Nat):Int):=Int.ofNat_le.2 bm;have h6:((2^62:Nat):Int)=4611686018427387904:=by decide
  rw[h6,Int.natCast_pow] at h5;exact h5
 exact AL (Int.emod_nonneg _ (by omega)) (by omega)
theorem SZ{a q:Int}{k:Nat}(h0:0<=a)(A:a<2^k)(hq:0<=q)(L:a+2^k*q<9223372036854775808):IntKind.i64.wrap (((BitVec.ofInt 64 a|||BitVec.ofInt 64 (2^k*q:Int)).toNat:Nat):Int)=a+2^k*q:=by
 obtain⟨a,rfl⟩:=Int.eq_ofNat_of_zero_le h0;obtain⟨q,rfl⟩:=Int.eq_ofNat_of_zero_le hq;have e1:(2:Int)^k*(q:Int)=((2^k*q:Nat):Int):=by rw[Int.natCast_mul,Int.natCast_pow];rfl
 have aU:a<2^k:=Int.ofNat_lt.1 (by rw[Int.natCast_pow];exact A);rw[e1] at L⊢;have O:a+2^k*q=(a|||2^k*q):=by rw[Nat.or_comm,<-Nat.two_pow_add_eq_or_of_lt aU,Nat.add_comm]
 generalize 2^k*q=m at L O⊢;have F:(BitVec.ofInt 64 (a:Int)|||BitVec.ofInt 64 (m:Int)).toNat=a+m:=by rw[BitVec.toNat_or,BitVec.ofInt_natCast,BitVec.ofInt_natCast,BitVec.toNat_ofNat,BitVec.toNat_ofNat,Nat.mod_eq_of_lt (by omega),Nat.mod_eq_of_lt (by omega),O]
 rw[F,Int.natCast_add];exact AL (by omega) L
theorem Cj{ty u:TypeId}{x y:Operand}{a c:Int}(k:Nat)(q:Int)(ho:o.op=.binOp .or ty x y u)(T:ev S x=some (E a))(hy:ev S y=some (E c))(YN:c=2^k*q)(h0:0<=a)(A:a<2^k)(hq:0<=q)(L:a+c<9223372036854775808):dN P o S B (E (a+c)) none:=by
 subst YN;refine jp λ ac e hs=>?_
 have cj:=dh (hs.1 x (by rw[ho];simp[Op.operands]) _ T);have fw:=dh (hs.1 y (by rw[ho];simp[Op.operands]) _ hy);refine⟨_,?_,.p (.raw _)⟩;obtain⟨dst,op,type,pos,after,guard⟩:=o;simp only at ho;subst ho;have Z:(binOp .or ty (.int .i64 a) (.int .i64 (2^k*q:Int))).run P e.w=.ok (.int .i64 (a+2^k*q)) e.w:=by rw[<-SZ h0 A hq L];rfl
 simp[execOp,cj,fw,eqGuard,Z]
theorem wo{ty u:TypeId}{x y:Operand}{a i:Int}(n:Nat)(ho:o.op=.binOp .shl ty x y u)(T:ev S x=some (E a))(hy:ev S y=some (E i))(hi:i=n)(hn:n<=62)(h0:0<=a)(hm:a*2^n<9223372036854775808):dN P o S B (E (a*2^n)) none:=by
 subst hi;refine jp λ ac e hs=>?_
 have cj:=dh (hs.1 x (by rw[ho];simp[Op.operands]) _ T);have fw:=dh (hs.1 y (by rw[ho];simp[Op.operands]) _ hy);refine⟨_,?_,.p (.raw _)⟩;obtain⟨dst,op,type,pos,after,guard⟩:=o;simp only at ho;subst ho;have F:min n 64=n:=by omega
 have Z:(binOp .shl ty (.int .i64 a) (.int .i64 (n:Int))).run P e.w=.ok (.int .i64 (a*2^n)) e.w:=by show(Op.shift .shl .i64 a .i64 (n:Int)).run P e.w=_;rw[shift_shl_any _ _ _ _ (Int.natCast_nonneg n)];show Result.ok (Value.int .i64 (IntKind.i64.wrap (a*2^min ((n:Int).toNat) 64))) e.w=_;rw[Int.toNat_natCast,F,AL (Int.mul_nonneg h0 (Int.le_of_lt (Int.pow_pos (by omega)))) hm]
 simp[execOp,cj,fw,eqGuard,Z]
theorem Fq{ty u:TypeId}{x y:Operand}{a:Int}(n:Nat)(ho:o.op=.binOp .shr ty x y u)(T:ev S x=some (E a))(hy:ev S y=some (.p (.raw (.int .u64 (n:Int)))))(hn:n<=63):dN P o S B (E (a/2^n)) none:=by
 refine jp λ ac e hs=>?_
 have cj:=dh (hs.1 x (by rw[ho];simp[Op.operands]) _ T);have fw:=dh (hs.1 y (by rw[ho];simp[Op.operands]) _ hy);refine⟨_,?_,.p (.raw _)⟩;obtain⟨dst,op,type,pos,after,guard⟩:=o;simp only at ho;subst ho;have F:min n 64=n:=by omega
 have Z:(binOp .shr ty (.int .i64 a) (.int .u64 (n:Int))).run P e.w=.ok (.int .i64 (a/2^n)) e.w:=by show(Op.shift .shr .i64 a .u64 (n:Int)).run P e.w=_;rw[shift_shr_any _ _ _ _ (Int.natCast_nonneg n)];show Result.ok (Value.int .i64 (a/2^min ((n:Int).toNat) 64)) e.w=_;rw[Int.toNat_natCast,F]
 simp[execOp,cj,fw,eqGuard,Z]
end
end Go.Proofs.YtcnefjfboagbmaaGreat
end
section
namespace Go.Proofs.YtcnefjfboagbmaaGreat
open Go.Proofs.Tryz
open Go.RowKit
section
variable{P:Program}{ap:Nat->Option TI}{Γ:bN}{o:Oper}{l0 l:List Oper}{Q:Exit->St->Prop}
variable{s:List (Nat×K)}{b:List (Nat×List K)}{g:List (Nat×Gr)}{t:Nat}{M:St}
def IL(w aM:World)(bv:Nat->Option Nat)(v:Value)(el sz n:Nat):Prop:=
 ∃am bS,v=.slice am n bS/\(bS=n\/∃k cur,am=some ⟨k,0,none⟩/\w.heap.size<=k/\k<aM.heap.size/\bv k=some (n*sz)/\aM.heap[k]?=some (.cells cur el (0,0))/\cur.size=bS*sz)
def CU(P:Program)(f:FuncId)(ds:List K)(el sz n:Nat)(ps:List Pl):Prop:=
 ∀(w:World)(cl:Nat->Option Nat)(vs:List Value),DReps (hb w cl) vs ds->
  Calls P f vs.toArray w (λ r aM=>∃v bv,r=.returned v/\Below w.heap.size w aM/\(∀k,k<w.heap.size->bv k=cl k)/\bz (hb aM bv) v (.p (.sl false n ps))/\IL w aM bv v el sz n)
theorem CU.pure{f:FuncId}{ds:List K}{el sz n:Nat}{ps:List Pl}(h:CU P f ds el sz n ps):bc P f ds (.p (.sl false n ps)):=λ w cl vs hv=>(h w cl vs hv).mono λ _ _⟨v,bv,A,F,O,h4,_⟩=>⟨v,bv,A,F,O,h4⟩
theorem bu.VT{e:aC}{a:Act}(L:bu Γ M e a){gn:Nat}(hg:kv M.g gn=none){el sz n k:Nat}{cur:Array Value}(oN:Γ.w0.heap.size<=k)(hk:k<e.w.heap.size)(rP:e.cl k=some (n*sz))(KO:e.gr k=none)(Zx:∀b,e.bx b≠some k)(Zy:e.w.heap[k]?=some (.cells cur el (0,0))):
 bu Γ ⟨M.s,M.b,(gn,⟨el,sz,n⟩)::M.g⟩ {e with gr:=λ j=>if j=k then some gn else e.gr j,gi:=λ h=>if h=gn then some ⟨el,sz,n⟩ else e.gi h} a/\Ends e {e with gr:=λ j=>if j=k then some gn else e.gr j,gi:=λ h=>if h=gn then some ⟨el,sz,n⟩ else e.gi h}:=by
 have fH:e.gi gn=none:=by rw[L.gs];exact hg
 have qV:∀k,e.gr k≠some gn:=λ k J=>by obtain⟨au,_,h,_⟩:=L.env.gr k gn J;rw[fH] at h;cases h
 have I:Ends e {e with gr:=λ j=>if j=k then some gn else e.gr j,gi:=λ h=>if h=gn then some ⟨el,sz,n⟩ else e.gi h}:=by
  refine⟨λ _ _ _ A F=>⟨A,F⟩,λ _ _ h=>h,λ bF au h=>⟨au,?_,rfl,rfl,Nat.le_refl _⟩,λ j bF au iT A F O=>⟨?_,iT,O,rfl⟩⟩
  ·show(if bF=gn then _ else e.gi bF)=_;rw[if_neg (λ ab=>by rw[ab,fH] at h;cases h)];exact h
  ·show(if j=k then some gn else e.gr j)=_;rw[if_neg (λ ab=>by rw[ab,KO] at A;cases A)];exact A
 refine⟨⟨L.size,L.df,λ t d ht=>(L.bU t d ht).next I,λ b cs Z=>(L.boxes b cs Z).ends I rfl,L.eE,λ h=>?_,L.env.kept,L.env.cl,λ b j hj=>?_,L.env.inj,λ j bF hj=>?_,L.env.kb⟩,I⟩
 ·show(if h=gn then _ else e.gi h)=_;simp only[da]
  by_cases e1:h=gn
  ·subst e1;simp
  ·rw[if_neg e1,if_neg (λ ab=>e1 ab.symm)];exact L.gs h
 ·obtain⟨A,F,O,h4⟩:=L.env.bx b j hj;refine⟨A,F,O,?_⟩;show(if j=k then some gn else e.gr j)=none;rw[if_neg (λ ab=>Zx b (by rw[<-ab];exact hj))];exact h4
 ·have fI:(if j=k then some gn else e.gr j)=some bF:=hj;split at fI
  ·rename_i mN;cases fI;exact⟨⟨el,sz,n⟩,cur,by show(if gn=gn then _ else _)=_;simp,by rw[mN];exact hk,.inl (by rw[mN];exact oN),by rw[mN];exact rP,by rw[mN];exact Zy⟩
  ·obtain⟨au,iT,A,F⟩:=L.env.gr j bF fI;exact⟨au,iT,by show(if bF=gn then _ else e.gi bF)=_;rw[if_neg (λ ab=>qV j (by rw[<-ab];exact fI))];exact A,F⟩
theorem bu.VS{e:aC}{a:Act}(L:bu Γ M e a){gn:Nat}(hg:kv M.g gn=none)(el sz n:Nat):
 bu Γ ⟨M.s,M.b,(gn,⟨el,sz,n⟩)::M.g⟩ {e with gi:=λ h=>if h=gn then some ⟨el,sz,n⟩ else e.gi h} a/\Ends e {e with gi:=λ h=>if h=gn then some ⟨el,sz,n⟩ else e.gi h}:=by
 have fH:e.gi gn=none:=by rw[L.gs];exact hg
 have qV:∀k,e.gr k≠some gn:=λ k J=>by obtain⟨au,_,h,_⟩:=L.env.gr k gn J;rw[fH] at h;cases h
 have I:Ends e {e with gi:=λ h=>if h=gn then some ⟨el,sz,n⟩ else e.gi h}:=
  ⟨λ _ _ _ A F=>⟨A,F⟩,λ _ _ h=>h,λ bF au h=>⟨au,by show(if bF=gn then _ else e.gi bF)=_;rw[if_neg (λ ab=>by rw[ab,fH] at h;cases h)];exact h,rfl,rfl,Nat.le_refl _⟩,λ _ _ _ cur A _ O=>⟨A,cur,O,rfl⟩⟩
 refine⟨⟨L.size,L.df,λ t d ht=>(L.bU t d ht).next I,λ b cs Z=>(L.boxes b cs Z).ends I rfl,L.eE,λ h=>?_,L.env.kept,L.env.cl,L.env.bx,L.env.inj,λ k bF J=>?_,L.env.kb⟩,I⟩
 ·show(if h=gn then _ else e.gi h)=_;simp only[da]
  by_cases e1:h=gn
  ·subst e1;simp
  ·rw[if_neg e1,if_neg (λ ab=>e1 ab.symm)];exact L.gs h
 ·obtain⟨au,cur,A,F⟩:=L.env.gr k bF J;exact⟨au,cur,by show(if bF=gn then _ else e.gi bF)=_;rw[if_neg (λ ab=>qV k (by rw[<-ab];exact J))];exact A,F⟩
theorem Jb{f:FuncId}(gn:Nat){el sz n:Nat}{ps:List Pl}{ds:List K}{xs:List Operand}{fB:Array TypeId}(hC:CU P f ds el sz n ps)(ho:o.op=.call {callee:=.value (.func f),args:=xs.toArray,argTypes:=fB})(hf:ke P f)(he:jc (kv s) xs K.low.kS=some ds)(hg:gd l0 o (kv s)=some true)(D:o.dst=some t)(U:Nat.blt t Γ.n=true)(y0:kv g gn=none)(db:ps.length=n*sz)
 (h:bq P Γ l0 Q l ⟨(t,.aW gn n ps)::s,b,(gn,⟨el,sz,n⟩)::g⟩):bq P Γ l0 Q (o::l) ⟨s,b,g⟩:=by
 refine wI (M:=⟨s,b,g⟩) (cb:=⟨(t,.aW gn n ps)::s,b,(gn,⟨el,sz,n⟩)::g⟩) hg (λ a e L=>?_) h;have jC:=L.iP o.op.operands;obtain⟨jx,A,F⟩:=tW (a:=a) (e:=e) xs _ ds (λ x T=>jC.1 x (by rw[ho];simp[Op.operands,Call.operands,T])) he;have hv:=LS A F;have e1:(execOp a.eval o).run P e.w=.ok (.enter f (xs.map a.eval).toArray) e.w:=by obtain⟨dst,op,type,pos,after,guard⟩:=o;simp only at ho;subst ho;rw[execOp_call_go,hf];simp
 unfold Oper.wp;rw[e1];refine(hC e.w e.cl _ hv).mono λ r aM hh=>?_
 obtain⟨v,bv,rfl,Z,ea,hr,am,bS,rfl,po⟩:=hh;have KG:kI e {e with w:=aM,cl:=bv}:=⟨Z,λ k J=>ea k J,rfl,rfl,rfl⟩;have cM:=L.grow KG;have ta:dm {e with w:=aM,cl:=bv} (.slice am n bS) (.sl false n ps):=by cases hr with|p h=>exact dm.env (e:=hb aM bv) (ab:={e with w:=aM,cl:=bv}) rfl rfl h
 have ug:=qD (o:=o) D U;rcases po with Km|⟨k,cur,hA,k1,k2,k3,k4,k5⟩
 ·obtain⟨O,h4⟩:=cM.VS (gn:=gn) y0 el sz n;have:=O.put ug (v:=.slice am n bS) (d:=.aW gn n ps) (.aW (ta.next h4) ⟨⟨el,sz,n⟩,am,bS,by simp,rfl,Nat.le_refl _,db,.inl Km⟩);rw[D] at this⊢;exact⟨_,(by rfl),this⟩
 ·have q1:e.gr k=none:=by
   rcases je:e.gr k with _|bF
   ·rfl
   ·obtain⟨_,_,_,bm,_⟩:=L.env.gr k bF je;omega
  have q2:∀b,e.bx b≠some k:=λ b DU=>by have:=(L.env.bx b k DU).1;omega
  obtain⟨O,h4⟩:=cM.VT (gn:=gn) y0 (n:=n) (sz:=sz) (k:=k) (Nat.le_trans L.env.kept.size k1) k2 k3 q1 q2 k4;have:=O.put ug (v:=.slice am n bS) (d:=.aW gn n ps) (.aW (ta.next h4) ⟨⟨el,sz,n⟩,am,bS,by simp,rfl,Nat.le_refl _,db,.inr ⟨k,hA,⟨by simp,cur,k4,k5⟩⟩⟩);rw[D] at this⊢;exact⟨_,(by rfl),this⟩
def IK(t:Nat)(el sz n:Nat)(ps:List Pl):Exit->St->Prop:=λ ex M=>(ex=.normal\/ex=.ret)/\((∃g,kv M.s t=some (.aW g n ps)/\kv M.g g=some ⟨el,sz,n⟩)\/kv M.s t=some (.p (.sl true n ps)))
theorem XG{t el sz n g:Nat}{ps:List Pl}(h:kv M.s t=some (.aW g n ps))(hg:kv M.g g=some ⟨el,sz,n⟩):IK t el sz n ps .ret M:=⟨.inr rfl,.inl ⟨g,h,hg⟩⟩
theorem XF{t el sz n:Nat}{ps:List Pl}(h:kv M.s t=some (.p (.sl true n ps))):IK t el sz n ps .ret M:=⟨.inr rfl,.inr h⟩
theorem XP{f:FuncId}{fn:Func}{c:Code}{ds:List K}{el sz m:Nat}{ps:List Pl}{t n:Nat}{s:List (Nat×K)}(hf:P.funcs[f]?=some fn)(Z:fn.body=some c)(iX:fn.ntmps=n)(mm:fn.results=#[.tmp t])(hn:Nat.ble ds.length n=true)(hs:sL 0 ds some=some s)
 (h:∀w cl,aP P ⟨n,w,cl,λ _=>False,[],[]⟩ c (IK t el sz m ps) ⟨s,[],[]⟩):CU P f ds el sz m ps:=by
 subst iX;rw[Be] at hs;cases hs;have hn:=Nat.le_of_ble_eq_true hn;intro w cl vs hv;refine calls_of_wp hf Z ?_;have U:vs.length=ds.length:=hv.1;have L:bu ⟨fn.ntmps,w,cl,λ _=>False,[],[]⟩ ⟨vd.go 0 ds,[],[]⟩ (hb w cl) {tmps:=vs.toArray++Array.replicate (fn.ntmps-vs.toArray.size) undef,defers:=[]}:=by
  refine⟨by simp;omega,rfl,λ t d0 ht=>?_,λ b cs Z=>(by cases Z),λ b _=>rfl,λ g=>rfl,⟨oz.refl _ _,λ _ _ _=>rfl,λ b k J=>(by cases J),λ b c k J=>(by cases J),λ k g J=>(by cases J),λ b k J=>(by cases J)⟩⟩;obtain⟨_,F⟩:=Dt ds 0 t d0 ht;simp only[Nat.sub_zero] at F;obtain⟨v,O,h4⟩:=hv.get F;have gV:t<vs.length:=(List.getElem?_eq_some_iff.1 O).1;have:gq {tmps:=vs.toArray++Array.replicate (fn.ntmps-vs.toArray.size) undef,defers:=[]} t=v:=by
   unfold gq;simp only[Array.getD_eq_getD_getElem?];rw[Array.getElem?_append_left (by simpa using gV),List.getElem?_toArray,O]
   rfl
  rw[this];exact h4
 refine Code.wp_mono (λ ex bs aM hh=>?_) ((h w cl).run _ (hb w cl) L);obtain⟨cb,ab,rfl,F,O,h4⟩:=hh;have Kk:Below w.heap.size w ab.w:=⟨F.env.kept.os,F.env.kept.tape,F.env.kept.output,F.env.kept.size,λ k J=>F.env.kept.block k J (λ h=>h)⟩;have La:(results fn bs.tmps).run P ab.w=.ok (gq bs t) ab.w:=by rw[Cy,mm];simp[Fe,gq]
 have hv:bz (hb ab.w ab.cl) (gq bs t) (.p (.sl false m ps))/\IL w ab.w ab.cl (gq bs t) el sz m:=by
  rcases h4 with⟨g,h5,h6⟩|h5
  ·have h7:=F.bU t _ h5;generalize gq bs t=v at h7;cases h7 with
   |aW hp ht=>obtain⟨au,am,bS,g1,g2,g3,g4,g5⟩:=ht;rw[F.gs,h6] at g1;cases g1;refine⟨.p (dm.env (e:=ab) (ab:=hb ab.w ab.cl) rfl rfl hp),am,bS,g2,g5.imp id ?_⟩;rintro⟨k,rfl,q1,cur,q2,q3⟩;obtain⟨m7,iT,r1,r2,r3,r4,r5⟩:=F.env.gr k g q1;rw[F.gs,h6] at r1;cases r1;exact⟨k,cur,rfl,r3.elim id (λ hh=>hh.elim),r2,r4,q2,q3⟩
  ·have h7:=F.bU t _ h5;generalize gq bs t=v at h7;cases h7 with
   |p hp=>refine⟨.p (dm.env (e:=ab) (ab:=hb ab.w ab.cl) rfl rfl hp.low),?_⟩;obtain⟨am,bS,g1,_,_,_,g5,_⟩:=rf hp;exact⟨am,bS,g1,.inl (g5 rfl)⟩
 have lh:bs.defers=[]/\∃v,(results fn bs.tmps).run P ab.w=.ok v ab.w/\∃ij bv,Ending.returned v=.returned ij/\Below w.heap.size w ab.w/\(∀k,k<w.heap.size->bv k=cl k)/\bz (hb ab.w bv) ij (.p (.sl false m ps))/\IL w ab.w bv ij el sz m:=
  ⟨F.df,_,La,_,ab.cl,rfl,Kk,λ k J=>F.env.cl k J (λ h=>h),hv.1,hv.2⟩
 rcases O with rfl|rfl
 ·exact lh
 ·exact lh
end
end Go.Proofs.YtcnefjfboagbmaaGreat
end
section
namespace Go.Proofs.YtcnefjfboagbmaaGreat
open Go.Proofs.Tryz
open Go.RowKit
section
variable{P:Program}{ap:Nat->Option TI}{S:Nat->Option K}{B:Nat->Option (List K)}{o:Oper}
theorem Ls(hT:di P ap){t el:TypeId}{x y:Operand}{n:Nat}{ps qs:List Pl}{k:IntKind}{i:Int}{z1 z2:Nat}{z3:Value}{j:TI}(ho:o.op=.indexAddr t x y)(ht:ap t=some ⟨.array n el,z1,z2,z3⟩)(he:ap el=some j)
 (T:ev S x=some (.el ps))(hy:ev S y=some (.p (.raw (.int k i))))(h0:0<=i)(bm:i<n)(hq:la (i.toNat*j.sz) ps some=some qs):dN P o S B (.el qs) none:=by
 refine jp λ a e hs=>?_
 have A:=hs.1 x (by rw[ho];simp[Op.operands]) _ T;have F:=dh (hs.1 y (by rw[ho];simp[Op.operands]) _ hy);obtain⟨bO,bg⟩:=nY hq;cases bg;generalize hv:a.eval x=vx at A;cases A with
 |el Z=>
  rename_i kk of;obtain⟨d0,ec,J⟩:=hT.desc t _ ht;cases d0<;>simp only[jI,reduceCtorEq,TK.array.injEq] at J
  rw[J.1,J.2] at ec;refine⟨.pointer (some ⟨kk,of+i.toNat*j.sz,none⟩),?_,.el (Z.part _ λ m q hm=>by rw[List.getElem?_drop] at hm;exact hm)⟩;obtain⟨dst,op,type,pos,after,guard⟩:=o;simp only at ho;subst ho;simp[execOp,Instr.indexAt,Instr.sureAddr,F,hv,asIntOf,run_underlying ec,h0,bm,run_sizeOf hT he,sC]
theorem HR{x y:Operand}{fB:Array TypeId}{a b:Int}(ho:o.op=.call {callee:=.builtin .max,args:=#[x,y],argTypes:=fB})(T:ev S x=some (E a))(hy:ev S y=some (E b)):dN P o S B (E (if b>a then b else a)) none:=by
 refine jp λ ac e hs=>?_
 have cj:=dh (hs.1 x (by rw[ho];simp[Op.operands,Call.operands]) _ T);have fw:=dh (hs.1 y (by rw[ho];simp[Op.operands,Call.operands]) _ hy);refine⟨_,?_,.p (.raw _)⟩;obtain⟨dst,op,type,pos,after,guard⟩:=o;simp only at ho;subst ho;simp only[execOp,resolve,invoke,builtin,Sem.run_bind,Sem.run_pure,Result.andThen_ok,List.map_toArray,List.map_cons,List.map_nil,cj,fw,run_max_int2]
end
end Go.Proofs.YtcnefjfboagbmaaGreat
end
section
namespace Go.Proofs.YtcnefjfboagbmaaGreat
open Go.Proofs.Tryz
open Go.RowKit
section
variable{P:Program}{ap:Nat->Option TI}
inductive C4:FrameMode->Value->FrameMode->Prop where
 |no:C4 .returning .nilIface .returning
 |yes (v:Value):C4 (.panicking [pe v]) v (.panicking [{v:=v,recovered:=true}])
theorem C4.XW{u qq:FrameMode}{v:Value}(h:C4 u v qq)(c:Frame)(cs:List Frame)(hu:c.mode=u):(recoverD (c::cs)=none/\v=.nilIface/\qq=u)\/recoverD (c::cs)=some (v,{c with mode:=qq}::cs):=by
 cases h with
 |no=>left;simp[recoverD,hu]
 |yes v=>right;simp[recoverD,hu]
theorem xQ{f:FuncId}{fn:Func}{id:Nat}{o:Oper}{c:Code}{ds:List K}{aV:List Nat}{Y:bJ}{aO:bJ->Prop}{n t:Nat}{s:List (Nat×K)}(hf:P.funcs[f]?=some fn)(Z:fn.body=some (.seq (.region id #[o] false) c))(iX:fn.ntmps=n)(mm:fn.results.toList=[])(hn:Nat.ble ds.length n=true)(hs:sL 0 ds some=some s)(oO:kK Y aV)
 (ho:∀(a:Act)(w:World),(execOp a.eval o).run P w=.ok .recover w)(hw:∀afz,Region.wanted o (yielded #[o] afz)=true)(gu:o.dst=some t)(U:Nat.blt t n=true){u qq:FrameMode}{v:Value}(hr:C4 u v qq)
 (h:∀w cl own kf,aP P ⟨n,w,cl,own,mp kf aV,[]⟩ c (CS ap [] aV λ _ aq=>aO aq) ⟨(t,.p (.raw v))::s,Y,[]⟩){e:aC}{vs:List Value}(hI:fY Y e)(hv:DReps e vs ds):
 CallsD P f vs.toArray u e.w λ r u2 aM=>∃ab aq,r=.returned (.tuple #[])/\u2=qq/\ab.w=aM/\fY aq ab/\Left aV e ab/\aO aq:=by
 subst iX;rw[Be] at hs;cases hs;have hn:=Nat.le_of_ble_eq_true hn;refine callsD_of_wpS hf Z λ yx cs hu=>?_
 have L:=vS (fn:=fn) (f:=f) (aV:=aV) [] hn oO hI hv rfl;have cM:bu _ ⟨(t,.p (.raw v))::vd.go 0 ds,Y,[]⟩ e _:=L.put (dst:=some t) (show Nat.blt t _=true from U) (bz.p (dm.raw v));have Ey:∀aS,aS={yx with mode:=qq}::cs->c.wpS P (bodyPostS P fn yx cs λ r u2 aM=>∃ab aq,r=.returned (.tuple #[])/\u2=qq/\ab.w=aM/\fY aq ab/\Left aV e ab/\aO aq) (({tmps:=vs.toArray++Array.replicate (fn.ntmps-vs.toArray.size) undef,defers:=[]}:Act).put (some t) v) aS e.w:=by
  rintro aS rfl;refine wpS_of_wp (Code.wp_mono (λ ex bs aM hh=>?_) ((h e.w e.cl _ _).run _ e cM));obtain⟨cb,ab,rfl,F,O,d,aq,h4,h5,h6,h7,h8⟩:=hh;have La:(results fn bs.tmps).run P ab.w=.ok (.tuple #[]) ab.w:=by
   have:fn.results=#[]:=by cases po:fn.results;rw[po] at mm;simp at mm;rw[mm]
   rw[Cy,this];simp
  have lh:bs.defers=[]/\∃u2,({yx with mode:=qq}::cs:List Frame)={yx with mode:=u2}::cs/\∃vv,(results fn bs.tmps).run P ab.w=.ok vv ab.w/\∃nZ ON,Ending.returned vv=.returned (.tuple #[])/\u2=qq/\nZ.w=ab.w/\fY ON nZ/\Left aV e nZ/\aO ON:=
   ⟨F.df,qq,rfl,_,La,ab.cut (aI aq) λ _=>false,aq,rfl,rfl,rfl,lT F h6,imp_left hI oO F h7,h8⟩
  rcases O with rfl|rfl
  ·exact lh
  ·exact lh
 refine wpS_seq (wpS_region ?_);show wpOpsS P #[o] _ [0] _ _ _;have cR:({yx with mode:=u}:Frame)=yx:=by rw[<-hu]
 simp only[wpOpsS,List.getElem?_toArray,List.getElem?_cons_zero,hw,if_true,ho];rcases hr.XW yx cs hu with⟨q1,q2,q3⟩|q1
 ·rw[q1];subst q2;subst q3;show Code.wpS P c _ _ _ _;rw[gu];exact Ey _ (by rw[cR])
 ·rw[q1];show Code.wpS P c _ _ _ _;rw[gu];exact Ey _ rfl
end
end Go.Proofs.YtcnefjfboagbmaaGreat
end
section
namespace Go.Proofs.YtcnefjfboagbmaaGreat
open Go.Proofs.Tryz
open Go.RowKit
section
variable{P:Program}{ap:Nat->Option TI}{Γ:bN}{s aa:List (Nat×K)}{b bf:bJ}{g:List (Nat×Gr)}
theorem CL{id:Nat}{o1 o2:Oper}{M:St}{e:aC}{a:Act}{fc:FuncId}{xs:List Operand}{tS:List K}{t:Nat}{fB:Array TypeId}(L:bu Γ M e a)(A:o1.op=.makeFunc (.func fc) #[] xs.toArray)(g1:gd [o1,o2] o1 (kv M.s)=some true)(d1:o1.dst=some t)(l1:Nat.blt t Γ.n=true)(he:jc (kv M.s) xs some=some tS)
 (F:o2.op=.defer {callee:=.value (.tmp t),args:=#[],argTypes:=fB})(g2:gd [o1,o2] o2 (kv (M.put (some t) (.fn (.func fc) [] tS)).s)=some true)(d2:o2.dst=none){Q:Exit->Act->World->Prop}
 (RQ:List (Nat×Nat))(ZA:∀b k,kv RQ b=some k->e.bx b=some k)
 (h:∀(bs:Act)(c7:List Value),DReps e c7 tS->bu {Γ with kb:=RQ,dz:={target:=.fn (.func fc) c7.toArray,args:=#[]}::Γ.dz} (M.put (some t) (.fn (.func fc) [] tS)) e bs->Q .normal bs e.w):(Code.region id #[o1,o2] false).wp P Q a e.w:=by
 have jC:=L.iP o1.op.operands;have hv:=Dv (a:=a) (e:=e) xs (λ x T=>jC.1 x (by rw[A];simp[Op.operands,T])) he;have D:bz e (.func (.func fc) #[] (xs.map a.eval).toArray) (.fn (.func fc) [] tS):=.fn (us:=[]) rfl hv.1 (λ i v d h=>by simp at h) hv.2;have cM:bu Γ (M.put (some t) (.fn (.func fc) [] tS)) e (a.put (some t) (.func (.func fc) #[] (xs.map a.eval).toArray)):=L.put (dst:=some t) (show Nat.blt t _=true from l1) D;refine wp_region_lit (l:=[o1,o2]) ?_;unfold wpList;rw[if_pos (mf L g1)];refine .inl ?_;have e1:(execOp a.eval o1).run P e.w=.ok (.value (.func (.func fc) #[] (xs.map a.eval).toArray)) e.w:=by obtain⟨dst,op,type,pos,after,guard⟩:=o1;simp only at A;subst A;simp[execOp,Instr.makeFunc]
 unfold Oper.wp;rw[e1,Oper.upon_value,d1];unfold wpList;rw[if_pos (mf cM g2)];refine .inl ?_;have ht:(a.put (some t) (.func (.func fc) #[] (xs.map a.eval).toArray)).eval (.tmp t)=.func (.func fc) #[] (xs.map a.eval).toArray:=by have hs:gq (a.put (some t) (.func (.func fc) #[] (xs.map a.eval).toArray)) t=_:=Fs (by rw[L.size];simpa[Nat.blt_eq] using l1);exact hs
 have e2:(execOp (a.put (some t) (.func (.func fc) #[] (xs.map a.eval).toArray)).eval o2).run P e.w=.ok (.defer {target:=.fn (.func fc) (xs.map a.eval).toArray,args:=#[]}) e.w:=by obtain⟨dst,op,type,pos,after,guard⟩:=o2;simp only at F;subst F;simp[execOp,resolve,ht,Deferred.ofValue]
 unfold Oper.wp;rw[e2,Oper.upon_defer,d2];refine h _ (xs.map a.eval) hv ?_;refine⟨cM.size,?_,cM.bU,cM.boxes,cM.eE,cM.gs,⟨cM.env.kept,cM.env.cl,cM.env.bx,cM.env.inj,cM.env.gr,ZA⟩⟩;show _::(a.put (some t) _).defers=_::Γ.dz;rw[cM.df]
theorem rB{M:St}(nm:Nat){cs aS:List K}(Z:kv M.b nm=some cs)(D:cs.map (λ _=>K.any)=aS):bY Γ M ⟨M.s,(nm,aS)::M.b,M.g⟩:=by
 intro a e L;refine⟨e,rfl,L.size,L.df,L.bU,λ u c hu=>?_,λ u hu=>?_,L.gs,L.env⟩
 ·simp only[da] at hu;split at hu
  ·rename_i l6;subst l6;cases hu;obtain⟨k,vs,el,A,F,O,h4⟩:=L.boxes _ _ Z;refine⟨k,vs,el,A,F,by rw[<-D,List.length_map];exact O,λ i v d hv gu=>?_⟩;rw[<-D,List.getElem?_map] at gu;cases cR:cs[i]? with
   |none=>rw[cR] at gu;cases gu
   |some x=>rw[cR] at gu;cases gu;exact .any
  ·exact L.boxes u c hu
 ·simp only[da] at hu;split at hu
  ·cases hu
  ·exact L.eE u hu
theorem fa{e ab:aC}{v:Value}{nm o k:Nat}(h:bz e v (.ptr nm o))(A:e.bx nm=some k)(F:ab.bx nm=some k):bz ab v (.ptr nm o):=by
 cases h with
 |ptr J=>rw[A] at J;cases J;exact .ptr F
theorem rX{fn:Func}{e:aC}{a:Act}(L:bu Γ ⟨s,b,g⟩ e a){fc:FuncId}{c7:List Value}{tS:List K}{sE:bJ}{Hz:List Nat}{aO:bJ->Prop}{u qq:FrameMode}{Rf:Ending->World->Prop}(hf:ke P fc)(dj:DReps e c7 tS)(aT:K.ok.eR (aI sE) (λ _=>false) tS=true)(hs:jN ⟨s,b,g⟩ (aI sE) sE)(dV:sA Hz sE Γ.kb)
 (gG:lS (λ b=>!aI sE b||ir Hz b) s (λ aa=>me (aI sE) (λ b=>!aI sE b||ir Hz b) b (λ bf=>some (aa,bf)))=some (aa,bf))(hu:u≠.run)(qW:settle qq=.returning)
 (ea:∀(e0:aC)(vs:List Value),fY sE e0->DReps e0 vs tS->CallsD P fc vs.toArray u e0.w λ r u2 aM=>∃ab aq,r=.returned (.tuple #[])/\u2=qq/\ab.w=aM/\fY aq ab/\Left Hz e0 ab/\aO aq)(dC:∀aq,aO aq->kH sE b aq)
 (lh:∀aq ab,aO aq->bu Γ ⟨aa,aq++bf,g⟩ ab a->∃v,(results fn a.tmps).run P ab.w=.ok v ab.w/\Rf (.returned v) ab.w):
 Leaves P fn a.tmps Rf [{target:=.fn (.func fc) c7.toArray,args:=#[]}] u e.w:=by
 rw[u9,u7] at gG;cases gG;refine leaves_cons (f:=fc) (args:=c7.toArray) hu ?_ ?_
 ·simp only[invoke];rw[hf];simp
 ·refine(ea (e.cut (aI sE) λ _=>false) c7 (lT L hs) ⟨dj.1,λ i v d A F=>(dj.2 i v d A F).cut (q7 aT F)⟩).mono λ r u2 aM hh=>?_
  obtain⟨ab,aq,rfl,rfl,rfl,hI,hL,hR⟩:=hh;obtain⟨A,_⟩:=L.after hI hL (λ n hn=>(dC aq hR).get hn) (λ n k A F=>dV.get A F);show Leaves P fn a.tmps Rf [] (settle u2) ab.w;rw[qW];exact lh aq (e.after ab sE aq) hR A
end
end Go.Proofs.YtcnefjfboagbmaaGreat
end
section
namespace Go.Proofs.YtcnefjfboagbmaaGreat
open Go.Proofs.Tryz
open Go.RowKit
section
variable{P:Program}{ap:Nat->Option TI}{S:Nat->Option K}{B:Nat->Option (List K)}{o:Oper}
theorem Hw{ty u:TypeId}{ms:Array (String×TypeId)}{x:Operand}(hu:P.underlying ty=some (.interface ms))(ho:o.op=.binOp .eql ty x (.const .nilIface) u)(T:ev S x=some (.p (.raw .nilIface))):dN P o S B (dB true) none:=by
 refine jp λ ac e hs=>?_
 have cj:=dh (hs.1 x (by rw[ho];simp[Op.operands]) _ T);refine⟨.bool true,?_,.p (.raw _)⟩;obtain⟨dst,op,type,pos,after,guard⟩:=o;simp only at ho;subst ho;have he:(Op.equal ty .nilIface .nilIface).run P e.w=.ok true e.w:=by
  show(Op.equalIn (9999+1) ty _ _).run P e.w=_;rw[Op.equalIn];simp only[Sem.run_bind,run_underlying hu,Result.andThen_ok]
  rfl
 have L:ac.eval (.const .nilIface)=.nilIface:=rfl;simp[execOp,cj,L,eqGuard,binOp,he]
theorem Hx{ty u t0:TypeId}{v:Value}{ms:Array (String×TypeId)}{x:Operand}(hu:P.underlying ty=some (.interface ms))(ho:o.op=.binOp .eql ty x (.const .nilIface) u)(T:ev S x=some (.p (.raw (.iface t0 v)))):dN P o S B (dB false) none:=by
 refine jp λ ac e hs=>?_
 have cj:=dh (hs.1 x (by rw[ho];simp[Op.operands]) _ T);refine⟨.bool false,?_,.p (.raw _)⟩;obtain⟨dst,op,type,pos,after,guard⟩:=o;simp only at ho;subst ho;have he:(Op.equal ty (.iface t0 v) .nilIface).run P e.w=.ok false e.w:=by
  show(Op.equalIn (9999+1) ty _ _).run P e.w=_;rw[Op.equalIn];simp only[Sem.run_bind,run_underlying hu,Result.andThen_ok]
  rfl
 have L:ac.eval (.const .nilIface)=.nilIface:=rfl;simp[execOp,cj,L,eqGuard,binOp,he]
def JE:Value->K
 |.agg cs=>.agg (cs.toList.map λ v=>.p (.raw v))
 |v=>.p (.raw v)
theorem Xb(e:aC)(v:Value):bz e v (JE v):=by
 unfold JE;split
 ·rename_i cs;have:bz e (.agg cs.toList.toArray) (.agg (cs.toList.map λ v=>.p (.raw v))):=.agg (by simp) (λ i v d A F=>by
   rw[List.getElem?_map,A] at F;cases F;exact .p (.raw v))
  simpa using this
 ·exact .p (.raw _)
theorem FQ(hT:di P ap){ty afW:TypeId}{v:Value}{x:Operand}{i:TI}(ho:o.op=.typeAssert x afW ty true)(ht:ap ty=some i)(J:i.k.known=true)(T:ev S x=some (.p (.raw (.iface ty v)))):dN P o S B (.bd [JE v,dB true]) none:=by
 refine jp λ ac e hs=>?_
 have cj:=dh (hs.1 x (by rw[ho];simp[Op.operands]) _ T);obtain⟨dd,A,F⟩:=RT hT ht J;refine⟨.tuple #[v,.bool true],?_,.bd (vs:=[v,.bool true]) rfl ?_⟩
 ·obtain⟨dst,op,type,pos,after,guard⟩:=o;simp only at ho;subst ho;simp only[execOp,Instr.typeAssert,Sem.run_bind,run_underlying A,Result.andThen_ok,cj];cases dd with
  |interface ms=>exact absurd rfl (F ms)
  |_=>simp
 ·intro i w d hw D
  match i,hw,D with
  |0,hw,D=>cases hw;cases D;exact Xb e v
  |1,hw,D=>cases hw;cases D;exact .p (.raw _)
end
end Go.Proofs.YtcnefjfboagbmaaGreat
end
section
namespace Go.Proofs.YtcnefjfboagbmaaGreat
open Go.Proofs.Tryz
open Go.RowKit
section
variable{P:Program}{ap:Nat->Option TI}{Γ:bN}{S:Nat->Option K}{B:Nat->Option (List K)}{o:Oper}{l0 l:List Oper}{Q:Exit->St->Prop}
variable{s:List (Nat×K)}{b:List (Nat×List K)}{g:List (Nat×Gr)}{t:Nat}
theorem NB{av ei:Type}:∀(ds rest:List ei)(k:List ei->Option av),mD ds.length (ds++rest) k=k ds
 |[],rest,k=>rfl
 |x::ds,rest,k=>by
  show mD ds.length (ds++rest) (λ r=>k (x::r))=_;rw[NB ds rest]
theorem aa2(hT:di P ap){ty el:TypeId}{n z1 z2:Nat}{z3:Value}{j:TI}{x y:Operand}{ds:List K}{k:IntKind}{i:Int}(qs:List K)(ho:o.op=.index ty x y)(ht:ap ty=some ⟨.array n el,z1,z2,z3⟩)(he:ap el=some j)(pj:j.k.agg=true)(T:ev S x=some (.agg ds))(hy:ev S y=some (.p (.raw (.int k i))))(h0:0<=i)(bm:i<n)(D:(ds.drop (i.toNat*j.sz)).take j.sz=qs):dN P o S B (.agg qs) none:=by
 refine jp λ a e hs=>?_
 have A:=hs.1 x (by rw[ho];simp[Op.operands]) _ T;have F:=dh (hs.1 y (by rw[ho];simp[Op.operands]) _ hy);generalize dG:a.eval x=vx at A;cases A with
 |agg U hh=>
  rename_i vs;obtain⟨d0,ec,J⟩:=hT.desc ty _ ht;cases d0<;>simp only[jI,reduceCtorEq,TK.array.injEq] at J
  rw[J.1,J.2] at ec;have hr:=(DReps.drop ⟨U,hh⟩ (i.toNat*j.sz)).take j.sz;rw[D] at hr;refine⟨.agg ((vs.drop (i.toNat*j.sz)).take j.sz).toArray,?_,.agg hr.1 hr.2⟩;obtain⟨dst,op,type,pos,after,guard⟩:=o;simp only at ho;subst ho;simp[execOp,dG,F,Instr.index,asIntOf,run_underlying ec,h0,bm,run_sizeOf hT he,part,Fm hT he,pj,List.extract_eq_take_drop]
theorem mQ(hT:di P ap){ty:TypeId}{x:Operand}{i:TI}{b of:Nat}{cs:List K}(ds rest:List K)(ho:o.op=.load ty x)(ht:ap ty=some i)(pj:i.k.agg=true)(T:ev S x=some (.ptr b of))(Z:B b=some cs)(oQ:of<=cs.length)(D:cs.drop of=ds++rest)(U:ds.length=i.sz):dN P o S B (.agg ds) none:=by refine tN hT ?_;rw[ho];simp only[ax,ht,T,Z];rw[Do of cs _ oQ,D];simp only[zY,pj,cond_true,<-U];rw[NB]
theorem Jd(hT:di P ap){ty:TypeId}{x y:Operand}{nm of:Nat}{cs:List K}{ds:List K}{i:TI}(aS:List K)(ho:o.op=.store ty x y)(D:o.dst=none)(ht:ap ty=some i)(T:ev (kv s) x=some (.ptr nm of))(Z:kv b nm=some cs)(hy:ev (kv s) y=some (.agg ds))
 (U:ds.all K.leaf=true)(hs:ds.length=i.sz)(hg:gd l0 o (kv s)=some true)(oQ:of+ds.length<=cs.length)(cR:stored cs of ds=aS)(h:bq P Γ l0 Q l ⟨s,(nm,aS)::b,g⟩):bq P Γ l0 Q (o::l) ⟨s,b,g⟩:=by
 subst cR;have vL:=Nu (P:=P) (Γ:=Γ) (M:=⟨s,b,g⟩) hT ho D ht T Z hy U hs (by first|exact oQ|(show _<=_;simp only[K.cells];omega)|omega);exact wI (M:=⟨s,b,g⟩) hg vL h
theorem TE(a:Nat):∀m:Nat,List.range (a+m)=List.range a++(List.range m).map (a+·)
 |0=>by simp
 |m+1=>by
  rw[show a+(m+1)=(a+m)+1 by omega,List.range_succ,TE a m,List.range_succ,List.map_append,List.append_assoc]
  rfl
theorem Sn(z:Array Value)(hz:0<z.size):∀n:Nat,(List.range (n*z.size)).map (λ j=>z[j%z.size]!)=(List.replicate n z.toList).flatten
 |0=>by simp
 |n+1=>by
  rw[show(n+1)*z.size=z.size+n*z.size by rw[Nat.add_mul];omega,TE,List.map_append,List.map_map,List.replicate_succ,List.flatten_cons,<-Sn z hz n]
  congr 1
  ·apply List.ext_getElem
   ·simp
   ·intro j A F;simp only[List.length_map,List.length_range] at A;simp[Nat.mod_eq_of_lt A,A]
  ·apply List.map_congr_left;intro j _;simp[Function.comp]
theorem EQ(hT:di P ap)(nm:Nat){ty el:TypeId}{z1 z2:Nat}{z3:Value}{i:TI}{x y:Operand}{k iG:IntKind}{n m:Int}{c:Nat}(cs:List K)(ho:o.op=.makeSlice ty x y)(ht:ap ty=some ⟨.slice el,z1,z2,z3⟩)(ek:ap el=some i)(gX:Nat.beq i.zero.cells.size i.sz=true)(py:Nat.blt 0 i.sz=true)
 (T:ev S x=some (.p (.raw (.int k n))))(hy:ev S y=some (.p (.raw (.int iG m))))(hn:n=c)(hm:m=c)(Z:c*i.bytes<=140737488355328)(gt:c<=maxLen)(cR:(List.replicate c (i.zero.cells.toList.map pV)).flatten=cs):dN P o S B (.arr nm 0 c c) (some (nm,cs)):=by
 subst hn;subst hm;subst cR;intro a e hs eo;have A:=dh (hs.1 x (by rw[ho];simp[Op.operands]) _ T);have F:=dh (hs.1 y (by rw[ho];simp[Op.operands]) _ hy);obtain⟨d0,ec,J⟩:=hT.desc ty _ ht;cases d0<;>simp only[jI,reduceCtorEq,TK.slice.injEq] at J
 rw[J] at ec;obtain⟨gy,nn,ci,gF,hz⟩:=hT.info _ i ek;have aaR:=Nat.eq_of_beq_eq_true gX;have ahx:0<i.sz:=by simpa[Nat.blt_eq] using py
 have Kl:(gy.bytes:Int)*(c:Int)<=281474976710656:=by
  have:((c*i.bytes:Nat):Int)<=140737488355328:=by omega
  rw[Int.natCast_mul,Int.mul_comm] at this;rw[gF];omega
 have c8:=run_make (P:=P) e.w ty el gy i.zero ec nn hz k iG c c (Int.natCast_nonneg c) (by omega) Kl (by unfold maxLen at gt;omega);have ZT:madeCells i.zero.cells (c*i.sz)=(List.replicate c i.zero.cells.toList).flatten.toArray:=by rw[<-Sn i.zero.cells (by omega) c,<-aaR];apply Array.ext';simp[madeCells]
 rw[Int.toNat_natCast,ci,ZT] at c8;unfold Oper.wp;have e1:(execOp a.eval o).run P e.w=.ok (.value (.slice (some ⟨e.w.heap.size,0,none⟩) c c)) (e.w.alloc (.cells (List.replicate c i.zero.cells.toList).flatten.toArray el)):=by obtain⟨dst,op,type,pos,after,guard⟩:=o;simp only at ho;subst ho;simp[execOp,A,F,c8]
 rw[e1];have hg:=aC.tM e (.cells (List.replicate c i.zero.cells.toList).flatten.toArray el) (some 0);have iC:(e.alloc (.cells (List.replicate c i.zero.cells.toList).flatten.toArray el) (some 0)).bx nm=none:=by rw[hg.bx];exact eo _ rfl
 refine⟨_,(e.alloc (.cells (List.replicate c i.zero.cells.toList).flatten.toArray el) (some 0)).iz nm e.w.heap.size,rfl,rfl,_,e.w.heap.size,hg,Nat.le_refl _,by simp[aC.alloc],by simp[aC.alloc],rfl,⟨e.w.heap.size,(List.replicate c i.zero.cells.toList).flatten,el,by simp[aC.iz],heap_alloc_new e.w _,?_⟩,.arr (by simp[aC.iz])⟩;have Hb:(List.replicate c (i.zero.cells.toList.map pV)).flatten=((List.replicate c i.zero.cells.toList).flatten).map pV:=by rw[List.map_flatten,List.map_replicate]
 rw[Hb];refine⟨by simp,λ j v d hv D=>?_⟩;rw[List.getElem?_map,hv] at D;cases D;exact Gc _ _
end
end Go.Proofs.YtcnefjfboagbmaaGreat
end
section
namespace Go.Proofs.YtcnefjfboagbmaaGreat
open Go.Proofs.Tryz
open Go.RowKit
def FL(G:Array MapEntry)(es:List Int):Prop:=G.toList.map (λ x=>(x.key,x.val))=es.map (λ n=>(Value.int .i64 n,Value.bool true))
theorem JN:∀(G:List MapEntry)(es:List Int)(n:Int)(i:Nat),G.map (λ x=>(x.key,x.val))=es.map (λ n=>(Value.int .i64 n,Value.bool true))->
 (n∉es/\Instr.findNow (.int .i64) (.int .i64 n) G i=some none)\/(n∈es/\∃j,Instr.findNow (.int .i64) (.int .i64 n) G i=some (some (j,.bool true)))
 |[],[],n,i,_=>.inl ⟨by simp,rfl⟩
 |[],_::_,n,i,h=>by simp at h
 |_::_,[],n,i,h=>by simp at h
 |x::G,m::es,n,i,h=>by
  simp only[List.map_cons,List.cons.injEq,Prod.mk.injEq] at h;obtain⟨⟨A,F⟩,O⟩:=h
  by_cases hn:n=m
  ·subst hn;exact .inr ⟨by simp,i,by simp[Instr.findNow,Instr.sameNow,A,F]⟩
  ·have hs:Instr.sameNow (.int .i64) (.int .i64 n) x.key=some false:=by
    rw[A];simp[Instr.sameNow,hn]
   rcases JN G es n (i+1) O with⟨h4,h5⟩|⟨h4,j,h5⟩
   ·exact .inl ⟨by simp[hn,h4],by simp[Instr.findNow,hs,h5]⟩
   ·exact .inr ⟨by simp[h4],j,by simp[Instr.findNow,hs,h5]⟩
structure oy(Γ fg:bN)(r:Nat)(es:List Int):Prop where
 kept:oz Γ.own Γ.w0 fg.w0
 cl:∀k,k<Γ.w0.heap.size->¬Γ.own k->fg.k9 k=Γ.k9 k
 own:∀k,fg.own k->Γ.own k\/Γ.w0.heap.size<=k
 obj:∃G ck,fg.w0.heap[r]?=some (.map G ck)/\FL G es
 nr:¬fg.own r
 base:Γ.w0.heap.size<=r
section
variable{P:Program}{ap:Nat->Option TI}{n:Nat}{w0:World}{k9:Nat->Option Nat}{own:Nat->Prop}{kb:List (Nat×Nat)}{dz:List Deferred}{r:Nat}
theorem oy.back{aM:World}{bv:Nat->Option Nat}{cw:Nat->Prop}{es:List Int}(h:oy ⟨n,w0,k9,own,kb,dz⟩ ⟨n,aM,bv,cw,kb,dz⟩ r es){e:aC}(he:h2 ⟨n,aM,bv,cw,kb,dz⟩ e):h2 ⟨n,w0,k9,own,kb,dz⟩ e:=by
 have fz:∀k,k<w0.heap.size->¬own k->¬cw k:=λ k J ho hl=>by
  rcases h.own k hl with A|A
  ·exact ho A
  ·exact absurd A (by simp only;omega)
 have ci:=h.kept.size;simp only at ci;have pq:∀k,aM.heap.size<=k\/cw k->w0.heap.size<=k\/own k:=λ k J=>by
  rcases J with J|J
  ·exact .inl (Nat.le_trans ci J)
  ·exact(h.own k J).symm
 refine⟨⟨he.kept.os.trans h.kept.os,he.kept.tape.trans h.kept.tape,he.kept.output.trans h.kept.output,Nat.le_trans ci he.kept.size,λ k J ho=>?_⟩,λ k J ho=>?_,λ b k Z=>?_,he.inj,λ k g hg=>?_,he.kb⟩
 ·exact(he.kept.block k (Nat.lt_of_lt_of_le J ci) (fz k J ho)).trans (h.kept.block k J ho)
 ·exact(he.cl k (Nat.lt_of_lt_of_le J ci) (fz k J ho)).trans (h.cl k J ho)
 ·obtain⟨A,F,O⟩:=he.bx b k Z;exact⟨A,pq k F,O⟩
 ·obtain⟨au,cur,A,F,O,h4⟩:=he.gr k g hg;exact⟨au,cur,A,F,pq k O,h4⟩
theorem oy.pU{aM:World}{bv:Nat->Option Nat}{cw:Nat->Prop}{es:List Int}(h:oy ⟨n,w0,k9,own,kb,dz⟩ ⟨n,aM,bv,cw,kb,dz⟩ r es){M:St}{e:aC}{a:Act}(L:bu ⟨n,aM,bv,cw,kb,dz⟩ M e a):bu ⟨n,w0,k9,own,kb,dz⟩ M e a:=
 ⟨L.size,L.df,L.bU,L.boxes,L.eE,L.gs,h.back L.env⟩
theorem oy.now{aM:World}{bv:Nat->Option Nat}{cw:Nat->Prop}{es:List Int}(h:oy ⟨n,w0,k9,own,kb,dz⟩ ⟨n,aM,bv,cw,kb,dz⟩ r es){e:aC}(he:h2 ⟨n,aM,bv,cw,kb,dz⟩ e):∃G ck,e.w.heap[r]?=some (.map G ck)/\FL G es:=by obtain⟨G,ck,A,F⟩:=h.obj;have hr:r<aM.heap.size:=sU A;exact⟨G,ck,(he.kept.block r hr h.nr).trans A,F⟩
theorem oy.next{aM:World}{bv:Nat->Option Nat}{cw:Nat->Prop}{es Du:List Int}(h:oy ⟨n,w0,k9,own,kb,dz⟩ ⟨n,aM,bv,cw,kb,dz⟩ r es){M:St}{e:aC}{a:Act}(L:bu ⟨n,aM,bv,cw,kb,dz⟩ M e a){G:Array MapEntry}{ck:Nat}(hm:FL G Du):
 ∃w2 oF oV,oy ⟨n,w0,k9,own,kb,dz⟩ ⟨n,w2,oF,oV,kb,dz⟩ r Du/\∃e2:aC,e2.w={e.w with heap:=e.w.heap.setIfInBounds r (.map G ck)}/\bu ⟨n,w2,oF,oV,kb,dz⟩ M e2 a:=by
 obtain⟨ahI,agq,pq,_⟩:=h.now L.env;have Z:=h.back L.env;obtain⟨ahJ,agr,y7,_⟩:=h.obj;have mm:r<aM.heap.size:=sU y7;obtain⟨qW,ib⟩:=MapKept.heap_set (o':=.map G ck) pq;have BA:∀b k,e.bx b=some k->k≠r:=λ b k J he=>by
  subst he;rcases(L.env.bx b k J).2.1 with A|A
  ·exact absurd mm (Nat.not_lt.2 A)
  ·exact h.nr A
 have xo:∀k g,e.gr k=some g->k≠r:=λ k g J he=>by
  subst he;obtain⟨_,_,_,_,A,_⟩:=L.env.gr k g J;rcases A with A|A
  ·exact absurd mm (Nat.not_lt.2 A)
  ·exact h.nr A
 let w2:World:={e.w with heap:=e.w.heap.setIfInBounds r (.map G ck)}
 have zm:w2.heap.size=e.w.heap.size:=by simp[w2]
 let e2:aC:={e with w:=w2}
 have xh:∀b o v,e.w.cell? ⟨b,o,none⟩=some v->b≠r:=λ b o v hv he=>by
  subst he;simp[World.cell?,pq] at hv
 have I:Ends e e2:=by
  refine⟨λ b o v A F=>⟨A,?_⟩,λ _ _ h=>h,λ _ au h=>⟨au,h,rfl,rfl,Nat.le_refl _⟩,λ k g au cur A F O=>⟨A,cur,?_,rfl⟩⟩
  ·rw[World.cell?_of_block (w:=e.w) (ib b (xh b o v F))];exact F
  ·show(e.w.heap.setIfInBounds r (.map G ck))[k]?=_;rw[ib k (xo k g A)];exact O
 refine⟨w2,e.cl,λ k=>k≠r/\(own k\/w0.heap.size<=k),⟨⟨Z.kept.os,Z.kept.tape,Z.kept.output,by rw[zm];exact Z.kept.size,λ k J ho=>?_⟩,Z.cl,λ k J=>J.2,⟨G,ck,qW,hm⟩,λ J=>J.1 rfl,h.base⟩,e2,rfl,⟨L.size,L.df,λ t d ht=>(L.bU t d ht).next I,λ b cs Z=>?_,L.eE,L.gs,?_⟩⟩
 ·have y3:k≠r:=λ he=>by
   subst he;exact absurd J (Nat.not_lt.2 h.base)
  exact(ib k y3).trans (Z.kept.block k J ho)
 ·obtain⟨k,vs,el,A,F,O⟩:=L.boxes b cs Z;exact⟨k,vs,el,A,(ib k (BA b k A)).trans F,O.next I⟩
 ·refine⟨oz.refl _ _,λ _ _ _=>rfl,λ b k J=>?_,L.env.inj,λ k g hg=>?_,L.env.kb⟩
  ·obtain⟨A,F,O⟩:=Z.bx b k J;exact⟨by show k<w2.heap.size;rw[zm];exact A,.inr ⟨BA b k J,F.symm⟩,O⟩
  ·obtain⟨au,cur,A,F,O,h4,h5⟩:=Z.gr k g hg;exact⟨au,cur,A,by show k<w2.heap.size;rw[zm];exact F,.inr ⟨xo k g hg,O.symm⟩,h4,(ib k (xo k g hg)).trans h5⟩
def IS(n:Nat)(w0:World)(k9:Nat->Option Nat)(own:Nat->Prop)(kb:List (Nat×Nat))(dz:List Deferred)(r:Nat)(Q:Exit->List Int->St->Prop):Exit->Act->World->Prop:=λ x a w=>∃aM bv cw es M e,oy ⟨n,w0,k9,own,kb,dz⟩ ⟨n,aM,bv,cw,kb,dz⟩ r es/\e.w=w/\bu ⟨n,aM,bv,cw,kb,dz⟩ M e a/\Q x es M
structure qv(P:Program)(Γ:bN)(r:Nat)(c:Code)(Q:Exit->List Int->St->Prop)(es:List Int)(M:St):Prop where
 run:∀aM bv cw,oy Γ ⟨Γ.n,aM,bv,cw,Γ.kb,Γ.dz⟩ r es->∀a e,bu ⟨Γ.n,aM,bv,cw,Γ.kb,Γ.dz⟩ M e a->c.wp P (IS Γ.n Γ.w0 Γ.k9 Γ.own Γ.kb Γ.dz r Q) a e.w
variable{Q:Exit->List Int->St->Prop}{c x y:Code}{es:List Int}{M:St}{Γ:bN}
theorem pD(h:∀aM bv cw,oy Γ ⟨Γ.n,aM,bv,cw,Γ.kb,Γ.dz⟩ r es->aP P ⟨Γ.n,aM,bv,cw,Γ.kb,Γ.dz⟩ c (λ x cb=>Q x es cb) M):qv P Γ r c Q es M:=⟨λ aM bv cw hi a e L=>Code.wp_mono (λ ex bs w1 hh=>by obtain⟨cb,ab,A,F,O⟩:=hh;exact⟨aM,bv,cw,es,cb,ab,hi,A,F,O⟩) ((h aM bv cw hi).run a e L)⟩
def HN(aG:List Int->St->Prop)(Q:Exit->List Int->St->Prop):Exit->List Int->St->Prop
 |.normal,es,M=>aG es M
 |ex,es,M=>Q ex es M
theorem r6(h:qv P Γ r x (HN (λ es M=>qv P Γ r y Q es M) Q) es M):qv P Γ r (.seq x y) Q es M:=⟨λ aM bv cw hi a e L=>by
 refine wp_seq (Code.wp_mono (λ ex bs w1 hh=>?_) (h.run aM bv cw hi a e L));obtain⟨w2,oF,oV,wV,rz,e2,A,rfl,O,h4⟩:=hh;cases ex with
 |normal=>exact h4.run w2 oF oV A bs e2 O
 |_=>exact⟨w2,oF,oV,wV,rz,e2,A,rfl,O,h4⟩⟩
def HM(id:Nat)(Q:Exit->List Int->St->Prop):Exit->List Int->St->Prop
 |.exit oS,es,M=>if oS=id then Q .normal es M else Q (.exit oS) es M
 |ex,es,M=>Q ex es M
theorem Cf{id:Nat}(h:qv P Γ r c (HM id Q) es M):qv P Γ r (.block id c) Q es M:=⟨λ aM bv cw hi a e L=>by
 refine wp_block (Code.wp_mono (λ ex bs w1 hh=>?_) (h.run aM bv cw hi a e L));obtain⟨w2,oF,oV,wV,rz,e2,A,rfl,O,h4⟩:=hh;cases ex with
 |exit oS=>
  simp only[HM] at h4;simp only[Exit.inBlock];split
  ·rename_i p7;rw[if_pos p7] at h4;exact⟨w2,oF,oV,wV,rz,e2,A,rfl,O,h4⟩
  ·rename_i p7;rw[if_neg p7] at h4;exact⟨w2,oF,oV,wV,rz,e2,A,rfl,O,h4⟩
 |_=>exact⟨w2,oF,oV,wV,rz,e2,A,rfl,O,h4⟩⟩
theorem LZ{d7:Type}(ok:d7->Prop)(jK:d7->St)(aQ:d7->List Int)(m5:d7->Nat)(i0:d7)(J:ok i0)(he:aQ i0=es)(h0:∀aM bv cw,bY ⟨Γ.n,aM,bv,cw,Γ.kb,Γ.dz⟩ M (jK i0))
 (Fi:∀i,ok i->qv P Γ r c (HN (λ Du cb=>∃j,ok j/\m5 j<m5 i/\Du=aQ j/\∀aM bv cw,bY ⟨Γ.n,aM,bv,cw,Γ.kb,Γ.dz⟩ cb (jK j)) Q) (aQ i) (jK i)):qv P Γ r (.loop c) Q es M:=by
 refine⟨λ aM bv cw hi a e L=>?_⟩;obtain⟨e0,A,F⟩:=h0 aM bv cw a e L;rw[<-A];have key:∀n i,ok i->m5 i<n->∀aM bv cw,oy Γ ⟨Γ.n,aM,bv,cw,Γ.kb,Γ.dz⟩ r (aQ i)->∀a e,bu ⟨Γ.n,aM,bv,cw,Γ.kb,Γ.dz⟩ (jK i) e a->Code.rounds P c (IS Γ.n Γ.w0 Γ.k9 Γ.own Γ.kb Γ.dz r Q) n a e.w:=by
  intro n;induction n with
  |zero=>intro i _ hi;omega
  |succ n ih=>
   intro i aT hi aM bv cw hm a e L;rw[rounds_succ];refine Code.wp_mono (λ ex bs w1 hh=>?_) ((Fi i aT).run aM bv cw hm a e L);obtain⟨w2,oF,oV,wV,rz,e2,A,rfl,O,h4⟩:=hh;cases ex with
   |normal=>obtain⟨j,Zs,hj,rfl,hg⟩:=h4;obtain⟨e3,h5,h6⟩:=hg w2 oF oV bs e2 O;show Code.rounds P c _ n bs e2.w;rw[<-h5];exact ih j Zs (by omega) w2 oF oV A bs e3 h6
   |_=>exact⟨w2,oF,oV,wV,rz,e2,A,rfl,O,h4⟩
 exact wp_loop_rounds (m5 i0+1) (key _ i0 J (by omega) aM bv cw (by rw[he];exact hi) a e0 F)
theorem Jc{l0 l:List Oper}{Q:Exit->St->Prop}{o:Oper}{s:List (Nat×K)}{b:List (Nat×List K)}{g:List (Nat×Gr)}{t mt kt et:Nat}{aM:World}{bv:Nat->Option Nat}{cw:Nat->Prop}{x y:Operand}{m:Int}{i:TI}(hT:di P ap)(hi:oy ⟨n,w0,k9,own,kb,dz⟩ ⟨n,aM,bv,cw,kb,dz⟩ r es)
 (ho:o.op=.lookup mt x y false)(hm:P.underlying mt=some (.map kt et))(nq:P.underlying kt=some (.int .i64))(Kt:ap et=some i)(hz:i.zero=.bool false)(T:ev (kv s) x=some (.p (.raw (.map (some r)))))(hy:ev (kv s) y=some (E m))(hg:gd l0 o (kv s)=some true)(D:o.dst=some t)(U:Nat.blt t n=true)
 (h:bq P ⟨n,aM,bv,cw,kb,dz⟩ l0 Q l ⟨(t,dB (decide (m∈es)))::s,b,g⟩):bq P ⟨n,aM,bv,cw,kb,dz⟩ l0 Q (o::l) ⟨s,b,g⟩:=by
 refine wI (M:=⟨s,b,g⟩) hg (λ a e L=>?_) h;have hs:=L.iP o.op.operands;have A:=dh (hs.1 x (by rw[ho];simp[Op.operands]) _ T);have F:=dh (hs.1 y (by rw[ho];simp[Op.operands]) _ hy);obtain⟨G,ck,O,h4⟩:=hi.now L.env;have J:MapKept.IsKey (.int .i64) (.int .i64 m):=rfl;have c8:(execOp a.eval o).run P e.w=.ok (.value (.bool (decide (m∈es)))) e.w:=by
  obtain⟨dst,op,type,pos,after,guard⟩:=o;simp only at ho;subst ho;rcases JN G.toList es m 0 h4 with⟨h5,h6⟩|⟨h5,j,h6⟩
  ·simp[execOp,Instr.lookup,A,F,run_underlying hm,MapKept.run_getObj_map O,MapKept.run_checkKey nq J,MapKept.run_findKey nq h6,Az hT Kt,hz,h5]
  ·simp[execOp,Instr.lookup,A,F,run_underlying hm,MapKept.run_getObj_map O,MapKept.run_checkKey nq J,MapKept.run_findKey nq h6,h5]
 unfold Oper.wp;rw[c8];have:=L.put (dst:=o.dst) (v:=.bool (decide (m∈es))) (d:=dB (decide (m∈es))) (by rw[D];exact U) (.p (.raw _));rw[D] at this;exact⟨e,rfl,by rw[D];exact this⟩
structure AO(P:Program)(Γ:bN)(r:Nat)(l0:List Oper)(Q:Exit->List Int->St->Prop)(l:List Oper)(es:List Int)(M:St):Prop where
 run:∀aM bv cw,oy Γ ⟨Γ.n,aM,bv,cw,Γ.kb,Γ.dz⟩ r es->∀a e,bu ⟨Γ.n,aM,bv,cw,Γ.kb,Γ.dz⟩ M e a->wpList P l0.toArray (IS Γ.n Γ.w0 Γ.k9 Γ.own Γ.kb Γ.dz r Q) l a e.w
theorem L0{id:Nat}{l:List Oper}(h:AO P Γ r l Q l es M):qv P Γ r (.region id l.toArray false) Q es M:=⟨λ aM bv cw hi a e L=>wp_region_lit (h.run aM bv cw hi a e L)⟩
variable{l0 l:List Oper}{o:Oper}
theorem LV(h:Q .normal es M):AO P Γ r l0 Q [] es M:=⟨λ aM bv cw hi _ e L=>⟨aM,bv,cw,es,M,e,hi,rfl,L,h⟩⟩
theorem B8{s:List (Nat×K)}{b:List (Nat×List K)}{g:List (Nat×Gr)}{t:Nat}{d:K}(hT:di P ap)(hq:ax ap (kv s) (kv b) o.op=some d)(hg:gd l0 o (kv s)=some true)(D:o.dst=some t)(U:Nat.blt t Γ.n=true)(h:AO P Γ r l0 Q l es ⟨(t,d)::s,b,g⟩):AO P Γ r l0 Q (o::l) es ⟨s,b,g⟩:=by refine⟨λ aM bv cw hi a e L=>?_⟩;unfold wpList;rw[if_pos (mf L hg)];have cF:AP P ⟨Γ.n,aM,bv,cw,Γ.kb,Γ.dz⟩ o ⟨s,b,g⟩ _:=dN.step (M:=⟨s,b,g⟩) (tN hT hq) (qD D U) (λ p hp=>by cases hp);refine .inl (yg (cF a e L) λ bs w1 hh=>?_);obtain⟨ab,rfl,dR⟩:=hh;rw[D] at dR;exact h.run aM bv cw hi bs ab dR
theorem LW{s:List (Nat×K)}{b:List (Nat×List K)}{g:List (Nat×Gr)}{mt kt et:Nat}{x y z:Operand}{m:Int}(ho:o.op=.mapUpdate mt x y z)(D:o.dst=none)(hm:P.underlying mt=some (.map kt et))(nq:P.underlying kt=some (.int .i64))(T:ev (kv s) x=some (.p (.raw (.map (some r)))))(hy:ev (kv s) y=some (E m))(hz:ev (kv s) z=some (dB true))(hg:gd l0 o (kv s)=some true)(hn:m∉es)
 (h:AO P Γ r l0 Q l (es++[m]) ⟨s,b,g⟩):AO P Γ r l0 Q (o::l) es ⟨s,b,g⟩:=by
 refine⟨λ aM bv cw hi a e L=>?_⟩;obtain⟨n,w0,k9,own,kb,dz⟩:=Γ;unfold wpList;rw[if_pos (mf L hg)];have hs:=L.iP o.op.operands;have A:=dh (hs.1 x (by rw[ho];simp[Op.operands]) _ T);have F:=dh (hs.1 y (by rw[ho];simp[Op.operands]) _ hy);have bB:=dh (hs.1 z (by rw[ho];simp[Op.operands]) _ hz);obtain⟨G,ck,O,h4⟩:=hi.now L.env;have J:MapKept.IsKey (.int .i64) (.int .i64 m):=rfl;obtain⟨w2,oF,oV,KI,e2,Kr,e9⟩:=hi.next L (Du:=es++[m]) (G:=G.push {key:=.int .i64 m,val:=.bool true,born:=ck}) (ck:=ck+1) (by
  unfold FL at h4⊢;simp[h4])
 have c8:(execOp a.eval o).run P e.w=.ok .skip {e.w with heap:=e.w.heap.setIfInBounds r (.map (G.push {key:=.int .i64 m,val:=.bool true,born:=ck}) (ck+1))}:=by
  obtain⟨dst,op,type,pos,after,guard⟩:=o;simp only at ho;subst ho;rcases JN G.toList es m 0 h4 with⟨h5,h6⟩|⟨h5,j,h6⟩
  ·simp[execOp,Instr.mapUpdate,A,F,bB,run_underlying hm,MapKept.run_getObj_map O,MapKept.run_checkKey nq J,MapKept.run_findKey nq h6,MapKept.run_setObj_map _ O]
  ·exact absurd h5 hn
 refine .inl ?_;unfold Oper.wp;rw[c8,<-Kr];have:=h.run w2 oF oV KI a e2 e9;show wpList P _ _ l (a.put o.dst undef) e2.w;rw[D];exact this
theorem Jh{id mt t1 t2:Nat}{o1 o2:Oper}{rest:Code}{Q:Exit->St->Prop}{s:List (Nat×K)}{b:List (Nat×List K)}{g:List (Nat×Gr)}(ho:o1.op=.makeMap mt none)(jT:o1.guard=none)(mL:o1.dst=some t1)(jU:Nat.blt t1 Γ.n=true)(xt:o2.op=.assign (.tmp t1))(d4:o2.guard=none)(xj:o2.dst=some t2)(dX:Nat.blt t2 Γ.n=true)
 (h:∀r,qv P Γ r rest (λ x _ M=>Q x M) [] ⟨(t2,.p (.raw (.map (some r))))::(t1,.p (.raw (.map (some r))))::s,b,g⟩):aP P Γ (.seq (.region id [o1,o2].toArray false) rest) Q ⟨s,b,g⟩:=by
 refine⟨λ a e L=>?_⟩;obtain⟨n,w0,k9,own,kb,dz⟩:=Γ;refine wp_seq (wp_region_lit ?_);unfold wpList;rw[if_pos (by unfold Region.wanted;rw[jT])];refine .inl ?_;unfold Oper.wp;have c8:(execOp a.eval o1).run P e.w=.ok (.value (.map (some e.w.heap.size))) (e.w.alloc (.map #[] 0)):=by obtain⟨dst,op,type,pos,after,guard⟩:=o1;simp only at ho;subst ho;simp[execOp,Instr.makeMap]
 rw[c8];show wpList P _ _ [o2] (a.put o1.dst _) _;have hc:=aC.tM e (.map #[] 0) none;have cM:=(L.grow hc).put (dst:=o1.dst) (v:=.map (some e.w.heap.size)) (d:=.p (.raw (.map (some e.w.heap.size)))) (by rw[mL];exact jU) (.p (.raw _));rw[mL] at cM⊢;unfold wpList;rw[if_pos (by unfold Region.wanted;rw[d4])];refine .inl ?_;unfold Oper.wp;have jD:(a.put (some t1) (.map (some e.w.heap.size))).eval (.tmp t1)=.map (some e.w.heap.size):=dh ((cM.iP #[.tmp t1]).1 (.tmp t1) (by simp) _ (by simp[ev,St.put,da]));have BN:(execOp (a.put (some t1) (.map (some e.w.heap.size))).eval o2).run P (e.w.alloc (.map #[] 0))=.ok (.value (.map (some e.w.heap.size))) (e.w.alloc (.map #[] 0)):=by obtain⟨dst,op,type,pos,after,guard⟩:=o2;simp only at xt;subst xt;simp[execOp,jD]
 rw[BN];have e9:=cM.put (dst:=o2.dst) (v:=.map (some e.w.heap.size)) (d:=.p (.raw (.map (some e.w.heap.size)))) (by rw[xj];exact dX) (.p (.raw _));rw[xj] at e9;simp only[Oper.upon];rw[xj];have kP:(e.w.alloc (.map #[] 0)).heap[e.w.heap.size]?=some (.map #[] 0):=(MapKept.heap_alloc e.w _).1;have BA:∀b k,(e.alloc (.map #[] 0) none).bx b=some k->k≠e.w.heap.size:=λ b k J he=>by
  have:=(L.env.bx b k J).1;omega
 have xo:∀k g,(e.alloc (.map #[] 0) none).gr k=some g->k≠e.w.heap.size:=λ k g J he=>by
  obtain⟨_,_,_,A,_⟩:=L.env.gr k g J;omega
 have aT:h2 ⟨n,w0,k9,own,kb,dz⟩ (e.alloc (.map #[] 0) none):=e9.env;have hi:oy ⟨n,w0,k9,own,kb,dz⟩ ⟨n,e.w.alloc (.map #[] 0),(e.alloc (.map #[] 0) none).cl,λ k=>k≠e.w.heap.size/\(own k\/w0.heap.size<=k),kb,dz⟩ e.w.heap.size []:=
  ⟨aT.kept,aT.cl,λ k J=>J.2,⟨#[],0,kP,rfl⟩,λ J=>J.1 rfl,L.env.kept.size⟩
 have iW:bu ⟨n,e.w.alloc (.map #[] 0),(e.alloc (.map #[] 0) none).cl,λ k=>k≠e.w.heap.size/\(own k\/w0.heap.size<=k),kb,dz⟩ ⟨(t2,.p (.raw (.map (some e.w.heap.size))))::(t1,.p (.raw (.map (some e.w.heap.size))))::s,b,g⟩ (e.alloc (.map #[] 0) none) ((a.put (some t1) (.map (some e.w.heap.size))).put (some t2) (.map (some e.w.heap.size))):=by
  refine⟨e9.size,e9.df,e9.bU,e9.boxes,e9.eE,e9.gs,⟨oz.refl _ _,λ _ _ _=>rfl,λ b k J=>?_,aT.inj,λ k g hg=>?_,aT.kb⟩⟩
  ·obtain⟨A,F,O⟩:=aT.bx b k J;exact⟨A,.inr ⟨BA b k J,F.symm⟩,O⟩
  ·obtain⟨au,cur,A,F,O,h4,h5⟩:=aT.gr k g hg;exact⟨au,cur,A,F,.inr ⟨xo k g hg,O.symm⟩,h4,h5⟩
 refine Code.wp_mono (λ ex bs w1 hh=>?_) ((h e.w.heap.size).run _ _ _ hi _ _ iW);obtain⟨w2,oF,oV,wV,rz,e2,k1,k2,k3,k4⟩:=hh;exact⟨rz,e2,k2,k1.pU k3,k4⟩
theorem nF{aG:List Int->St->Prop}(h:aG es M):HN aG Q .normal es M:=h
theorem rZ{aG:List Int->St->Prop}{id:Nat}(h:Q (.exit id) es M):HN aG Q (.exit id) es M:=h
theorem LX{id:Nat}(h:Q .normal es M):HM id Q .normal es M:=h
theorem Cb{id:Nat}(h:Q .normal es M):HM id Q (.exit id) es M:=by show(if id=id then _ else _);rw[if_pos rfl];exact h
end
end Go.Proofs.YtcnefjfboagbmaaGreat
end
section
namespace Go.Proofs.YtcnefjfboagbmaaGreat
open Go.Proofs.Tryz
open Go.RowKit
section
variable{P:Program}{ap:Nat->Option TI}{Γ:bN}{o:Oper}{l0 l:List Oper}
variable{s:List (Nat×K)}{b:List (Nat×List K)}{g:List (Nat×Gr)}{t:Nat}
variable{n:Nat}{B B0:List (Nat×List K)}{aG:St->Prop}{ay:List Nat}{aE:List (Nat×Nat)}{ix:Nat}
theorem FR{Q:Exit->St->Prop}{x y:Code}{M:St}(I0:St)(A:aP P Γ x (λ ex cb=>ex=.normal/\bY Γ cb I0) M)(F:aP P Γ y Q I0):aP P Γ (.seq x y) Q M:=
 qA (wM A λ ex cb h=>by
  obtain⟨rfl,hg⟩:=h;exact ey hg F)
end
end Go.Proofs.YtcnefjfboagbmaaGreat
end
section
namespace Go.Proofs.YtcnefjfboagbmaaGreat
open Go.Proofs.Tryz
open Go.RowKit
section
variable{P:Program}{ap:Nat->Option TI}{S:Nat->Option K}{B:Nat->Option (List K)}{o:Oper}
theorem aen{t u:TypeId}{x y:Operand}{a b:Int}(ho:o.op=.binOp .rem t x y u)(T:ev S x=some (E a))(hy:ev S y=some (E b))(A:0<b):dN P o S B (E (a.tmod b)) none:=by
 refine jp λ ac e hs=>?_
 have cj:=dh (hs.1 x (by rw[ho];simp[Op.operands]) _ T);have fw:=dh (hs.1 y (by rw[ho];simp[Op.operands]) _ hy);refine⟨_,?_,.p (.raw _)⟩;obtain⟨dst,op,type,pos,after,guard⟩:=o;simp only at ho;subst ho;have Z:¬b=0:=by omega
 simp[execOp,cj,fw,eqGuard,binOp,Op.intDiv,Z]
theorem afs(a b:Int)(Z:0<b):(a.tmod b<0->a.tmod b+b=a%b)/\(¬a.tmod b<0->a.tmod b=a%b):=by
 have h:=Int.tmod_eq_emod (a:=a) (b:=b);have h0:=Int.emod_nonneg a (show b≠0 by omega);have A:=Int.emod_lt_of_pos a Z;split at h
 ·omega
 ·rename_i hn;have b9:a%b≠0:=λ e=>hn (.inr (Int.dvd_of_emod_eq_zero e))
  omega
end
end Go.Proofs.YtcnefjfboagbmaaGreat
end
section
namespace Go.Proofs.YtcnefjfboagbmaaGreat
open Go.Proofs.Tryz
open Go.RowKit
section
variable{P:Program}{Γ:bN}{Q:Exit->St->Prop}
theorem Vd{o:Oper}{a:Act}{w:World}{aG:Act->World->Prop}{Q js:Exit->Act->World->Prop}(hq:∀ex a w,ex≠.normal->Q ex a w->js ex a w)(h:o.wp P a w aG Q):o.wp P a w aG js:=by
 unfold Oper.wp at*;generalize(execOp a.eval o).run P w=r at*;cases r with
 |ok n aM=>
  cases n<;>simp only[Oper.upon] at h⊢<;>first
   |exact h
   |exact Calls.mono h (λ e nN he=>by
    cases e with
    |returned v=>exact he
    |panicked ch=>exact hq _ _ _ (by simp) he
    |outgrown=>obtain⟨a2,w2,hh⟩:=he;exact⟨a2,w2,hq _ _ _ (by simp) hh⟩)
 |halt x aM=>cases x<;>simp only[Oper.upon] at h⊢<;>first|exact hq _ _ _ (by simp) h|exact h
theorem NQ{ops:Array Oper}{i:Nat}{a:Act}{w:World}{aG:Act->World->Prop}{Q js:Exit->Act->World->Prop}(hq:∀ex a w,ex≠.normal->Q ex a w->js ex a w)(h:wpOp P ops Q i aG a w):wpOp P ops js i aG a w:=by
 unfold wpOp at*;split
 ·rename_i ho;simp only[ho] at h;exact h
 ·rename_i o ho;simp only[ho] at h;split
  ·rename_i hw;simp only[hw,if_true] at h;rcases h with h|⟨A,a2,w2,F⟩
   ·exact .inl (Vd hq h)
   ·exact .inr ⟨A,a2,w2,hq _ _ _ (by simp) F⟩
  ·rename_i hw;simp only[hw] at h;exact h
theorem NP{ops:Array Oper}{Q js:Exit->Act->World->Prop}(hn:∀a w,Q .normal a w->js .normal a w)(hq:∀ex a w,ex≠.normal->Q ex a w->js ex a w):∀{l:List Oper}{a:Act}{w:World},wpList P ops Q l a w->wpList P ops js l a w
 |[],a,w,h=>hn a w h
 |o::l,a,w,h=>by
  unfold wpList at h⊢;split
  ·rename_i hw;rw[if_pos hw] at h;rcases h with h|⟨A,a2,w2,F⟩
   ·exact .inl (Vd hq (Oper.wp_mono (λ a w hh=>NP hn hq hh) h))
   ·exact .inr ⟨A,a2,w2,hq _ _ _ (by simp) F⟩
  ·rename_i hw;rw[if_neg hw] at h;exact NP hn hq h
def Iv(ops:Array Oper)(n m:Nat):Bool:=
 (List.range ops.size).all λ t=>decide (t<n)||(List.range (Nat.min t m)).all λ i=>match ops[t]? with
  |some o=>(o.after.any λ e=>Region.binds .any e&&e.on==i)||j3 ops ops.size t i
  |none=>true
theorem UL{ops:Array Oper}{n m:Nat}(h:Iv ops n m=true){t i:Nat}{o:Oper}(ht:ops[t]?=some o)(hn:n<=t)(hi:i<t)(ag0:i<m):(∃e∈o.after,Region.binds .any e=true/\e.on=i)\/j3 ops ops.size t i=true:=by
 have gV:t<ops.size:=(Array.getElem?_eq_some_iff.1 ht).1;have A:=List.all_eq_true.1 h t (List.mem_range.2 gV);simp only[Bool.or_eq_true,decide_eq_true_eq] at A;have F:=A.resolve_left (by omega);have O:=List.all_eq_true.1 F i (List.mem_range.2 (by simp only[Nat.min_def];split<;>omega));rw[ht] at O;simp only[Bool.or_eq_true] at O;rcases O with O|O
 ·obtain⟨e,he,Z⟩:=Array.any_eq_true'.1 O;simp only[Bool.and_eq_true,beq_iff_eq] at Z;exact .inl ⟨e,he,Z⟩
 ·exact .inr O
theorem WE{ops:Array Oper}{n m:Nat}(h:Iv ops n m=true)(ny:n<=m):Dd ops n=true:=by
 refine List.all_eq_true.2 λ t ht=>?_
 by_cases hn:t<n
 ·simp[hn]
 ·simp only[Bool.or_eq_true,decide_eq_true_eq];refine .inr (List.all_eq_true.2 λ i hi=>?_);cases ho:ops[t]? with
  |none=>rfl
  |some o=>
   have dH:i<n:=List.mem_range.1 hi;simp only[Bool.or_eq_true];rcases UL h ho (by omega) (show i<t by omega) (by omega) with⟨e,he,A,F⟩|A
   ·refine .inl (Array.any_eq_true'.2 ⟨e,he,?_⟩);simp[A,F]
   ·exact .inr A
theorem Jl(ops:Array Oper):Dd ops ops.size=true/\uN ops ops.size=true:=by
 refine⟨List.all_eq_true.2 λ t ht=>?_,List.all_eq_true.2 λ t ht=>?_⟩
 ·simp[List.mem_range.1 ht]
 ·simp[List.mem_range.1 ht]
def Ih(P:Program)(ops:Array Oper)(m:Nat)(Q:Exit->Act->World->Prop):Exit->Act->World->Prop
 |.normal,a,w=>∀aJ:Array Bool,aJ.size=ops.size->(∀i,i<m->aJ.getD i false=true)->(∀i,m<=i->i<ops.size->aJ.getD i true=false)->wpAny P .any ops Q (ops.size-m) aJ a w
 |ex,a,w=>Q ex a w
theorem Vb{ops:Array Oper}{abR n m:Nat}(aT:pO ops abR)(hB:Iv ops n m=true)(hm:m<=ops.size){Q:Exit->Act->World->Prop}:∀(j k:Nat)(aJ:Array Bool)(a:Act)(w:World),j+k=m->n<=k->aJ.size=ops.size->
 (∀i,i<k->aJ.getD i false=true)->(∀i,k<=i->i<ops.size->aJ.getD i true=false)->wpList P ops (Ih P ops m Q) ((ops.toList.take m).drop k) a w->wpAny P .any ops Q (ops.size-k) aJ a w
 |0,k,aJ,a,w,hf,hn,hs,bm,iq,h=>by
  obtain rfl:k=m:=by omega
  rw[List.drop_eq_nil_of_le (by simp;omega)] at h;exact h aJ hs bm iq
 |j+1,k,aJ,a,w,hf,hn,hs,bm,iq,h=>by
  have gH:k<ops.size:=by omega
  have vA:ops[k]?=some ops[k]:=by simp[gH]
  have y3:k∈Region.ready .any ops aJ:=mem_ready.2 ⟨iq k (Nat.le_refl _) gH,ops[k],vA,λ e he Z=>bm _ (aT.back k ops[k] vA e he Z)⟩;rw[show ops.size-k=(ops.size-(k+1))+1 by omega];refine⟨(λ h0=>by rw[h0] at y3;cases y3),λ i hi=>?_⟩;obtain⟨kx,o,ho,dF⟩:=mem_ready.1 hi;have dT:i<ops.size:=(Array.getElem?_eq_some_iff.1 ho).1;have Ec:=iq k (Nat.le_refl _) gH;have KJ:i=k:=by
   rcases Nat.lt_trichotomy i k with A|A|A
   ·have:=bm i A;rw[(ng kx).1] at this;cases this
   ·exact A
   ·have ea:∀(a:Nat)(o:Oper),ops[a]?=some o->aJ.getD a false=true->∀x∈o.after,Region.binds .any x=true->aJ.getD x.on false=true:=λ b ob Z U x T vl=>by
     have Qi:b<ops.size:=(Array.getElem?_eq_some_iff.1 Z).1;have DU:b<k:=by
      rcases Nat.lt_or_ge b k with F|F
      ·exact F
      ·have:=iq b F Qi;rw[(ng this).1] at U;cases U
     exact bm _ (Nat.lt_trans (aT.back b ob Z x T vl) DU)
    rcases UL hB ho (by omega) A (by omega) with⟨e,he,Z,mP⟩|F
    ·have F:=dF e he Z;rw[mP,(ng Ec).1] at F;cases F
    ·have O:=Av ea _ _ _ o ho dF F;rw[(ng Ec).1] at O;cases O
  subst KJ;rw[vA] at ho;cases ho;rw[List.drop_eq_getElem_cons (by simp;omega)] at h;have bQ:wpList P ops (Ih P ops m Q) (ops[i]::(ops.toList.take m).drop (i+1)) a w:=by simpa using h
  refine NQ (Q:=Ih P ops m Q) (λ ex a w b9 hh=>by cases ex<;>first|exact hh|exact absurd rfl b9) (wpOp_mono (λ bs aM hh=>?_) (Vc vA bQ));refine Vb aT hB hm j (i+1) _ bs aM (by omega) (by omega) (by simpa using hs) (λ j hj=>?_) (λ j hj qT=>?_) hh
  ·by_cases e:i=j
   ·subst e;simp[hs,gH]
   ·rw[getD_set_ne false e];exact bm j (by omega)
  ·rw[getD_set_ne true (by omega)];exact iq j (by omega) qT
def zz(s:List (Nat×K)):List Oper->Bool
 |[]=>true
 |o::l=>(match o.dst with|some t=>(kv s t).isSome|none=>true)&&zz s l
theorem RS{s:List (Nat×K)}:∀{l:List Oper}{j:Nat}{t:Nat},zz s l=true->(l[j]?).bind (·.dst)=some t->∃d,kv s t=some d
 |[],j,t,_,h=>by simp at h
 |o::l,0,t,J,h=>by
  simp only[List.getElem?_cons_zero,Option.bind_some] at h;simp only[zz,h,Bool.and_eq_true,Option.isSome_iff_exists] at J;exact J.1
 |o::l,j+1,t,J,h=>by
  simp only[zz,Bool.and_eq_true] at J;exact RS J.2 (by simpa using h)
section
variable{l:List Oper}{m:Nat}
theorem UA{aA:Nat->K}{S:Nat->Option K}(h:∀j t,j<m->(l[j]?).bind (·.dst)=some t->S t=some (aA j)):∀i,i<=m->ed l aA S i=S
 |0,_=>rfl
 |i+1,hi=>by
  funext t
  simp only[ed];split
  ·rename_i e;exact(h i t (by omega) e).symm
  ·rw[UA h i (by omega)]
theorem UB{aA d8:Nat->K}{S:Nat->Option K}(h0:ed l d8 S m=S)(hF:∀i,d8 (m+i)=aA i):∀i,ed l d8 S (m+i)=ed (l.drop m) aA S i
 |0=>h0
 |i+1=>by
  funext t
  rw[show m+(i+1)=(m+i)+1 by omega];simp only[ed,UB h0 hF i,hF,List.getElem?_drop]
theorem Uq{N:Nat->Option (Nat×List K)}{B:Nat->Option (List K)}(h:∀j,j<m->N j=none):∀i,i<=m->dM N B i=B
 |0,_=>rfl
 |i+1,hi=>by simp only[dM,h i (by omega),Uq h i (by omega)];rfl
theorem Ur{N kY:Nat->Option (Nat×List K)}{B:Nat->Option (List K)}(h0:dM kY B m=B):∀i,(∀j,j<i->kY (m+j)=N j)->dM kY B (m+i)=dM N B i
 |0,_=>h0
 |i+1,hN=>by
  rw[show m+(i+1)=(m+i)+1 by omega];simp only[dM,Ur h0 i (λ j hj=>hN j (by omega)),hN i (by omega)]
theorem Uv{ak:Nat->Option (Nat×Gr)}{au:Nat->Option Gr}(h:∀j,j<m->ak j=none):∀i,i<=m->eH ak au i=au
 |0,_=>rfl
 |i+1,hi=>by simp only[eH,h i (by omega),Uv h i (by omega)];rfl
theorem Uw{ak dZ:Nat->Option (Nat×Gr)}{au:Nat->Option Gr}(h0:eH dZ au m=au):∀i,(∀j,j<i->dZ (m+j)=ak j)->eH dZ au (m+i)=eH ak au i
 |0,_=>h0
 |i+1,hN=>by
  rw[show m+(i+1)=(m+i)+1 by omega];simp only[eH,Uw h0 i (λ j hj=>hN j (by omega)),hN i (by omega)]
theorem Ut{bP:Nat->Bool}{N:Nat->Option (Nat×List K)}{ay:List Nat}(h:∀j,j<m->N j=none):∀i,i<=m->fR bP N ay i=ay
 |0,_=>rfl
 |i+1,hi=>by
  simp only[fR,h i (by omega),Ut h i (by omega),ET];cases bP i<;>rfl
theorem Uu{bP sB:Nat->Bool}{N kY:Nat->Option (Nat×List K)}{ay:List Nat}(h0:fR sB kY ay m=ay):∀i,(∀j,j<i->kY (m+j)=N j/\sB (m+j)=bP j)->fR sB kY ay (m+i)=fR bP N ay i
 |0,_=>h0
 |i+1,hN=>by
  rw[show m+(i+1)=(m+i)+1 by omega];simp only[fR,Uu h0 i (λ j hj=>hN j (by omega)),(hN i (by omega)).1,(hN i (by omega)).2]
theorem Nr{ak:Nat->Option (Nat×Gr)}{aE:List (Nat×Nat)}(h:∀j,j<m->ak j=none):∀i,i<=m->fW l ak aE i=aE
 |0,_=>rfl
 |i+1,hi=>by simp only[fW,h i (by omega),u6,Nr h i (by omega)]
theorem Uz{ak dZ:Nat->Option (Nat×Gr)}{aE:List (Nat×Nat)}(h0:fW l dZ aE m=aE):∀i,(∀j,j<i->dZ (m+j)=ak j)->fW l dZ aE (m+i)=fW (l.drop m) ak aE i
 |0,_=>h0
 |i+1,hN=>by
  rw[show m+(i+1)=(m+i)+1 by omega];simp only[fW,Uz h0 i (λ j hj=>hN j (by omega)),hN i (by omega),List.getElem?_drop]
end
def HC(P:Program)(Γ:bN)(l l3:List Oper)(m:Nat)(Q:Exit->St->Prop):Exit->St->Prop
 |.normal,M=>∃B,wD M.b B/\zz M.s (l.take m)=true/\cJ P Γ.n l B M.b (Q .normal) m [] [] l3 M
 |ex,M=>Q ex M
theorem abb{l:List Oper}{m:Nat}(nv:m<=l.length)(aT:pO l.toArray Γ.n){Q:Exit->St->Prop}{M:St}{e:aC}{a:Act}(L:bu Γ M e a)(h:HC P Γ l (l.drop m) m Q .normal M):Ih P l.toArray m (jM Γ Q) .normal a e.w:=by
 obtain⟨B,oJ,hK,hQ⟩:=h;intro aJ hs jU dX;obtain⟨aA,N,bP,ak,kc,A,F,O,h4,h5⟩:=cJ.extract (l.drop m) m [] [] M hQ;have G9:∀j,aJ.getD j false=true->j<m:=λ j hj=>by
  rcases Nat.lt_or_ge j m with h6|h6
  ·exact h6
  ·rcases Nat.lt_or_ge j l.toArray.size with h7|h7
   ·have:=dX j h6 h7;rw[(ng this).1] at hj;cases hj
   ·have h8:aJ[j]?=none:=Array.getElem?_eq_none (by omega);simp[h8] at hj
 let d8:Nat->K:=λ i=>if i<m then(match(l[i]?).bind (·.dst) with|some t=>(kv M.s t).getD .any|none=>.any) else aA (i-m)
 let kY:Nat->Option (Nat×List K):=λ i=>if m<=i/\i<l.length then N (i-m) else none
 let sB:Nat->Bool:=λ i=>bP (i-m)
 let dZ:Nat->Option (Nat×Gr):=λ i=>if m<=i/\i<l.length then ak (i-m) else none
 have pi:∀j,j<m->kY j=none:=λ j hj=>if_neg (by omega)
 have vi:∀j,j<m->dZ j=none:=λ j hj=>if_neg (by omega)
 have sQ:∀j,m+j<l.length->kY (m+j)=N j:=λ j hj=>by simp only[kY];rw[if_pos ⟨by omega,hj⟩,Nat.add_sub_cancel_left]
 have Ka:∀j,m+j<l.length->dZ (m+j)=ak j:=λ j hj=>by simp only[dZ];rw[if_pos ⟨by omega,hj⟩,Nat.add_sub_cancel_left]
 have Qc:∀j,sB (m+j)=bP j:=λ j=>by simp only[sB];rw[Nat.add_sub_cancel_left]
 have PX:∀j,d8 (m+j)=aA j:=λ j=>by simp only[d8];rw[if_neg (by omega),Nat.add_sub_cancel_left]
 have J8:∀j t,j<m->(l[j]?).bind (·.dst)=some t->kv M.s t=some (d8 j):=λ j t hj ht=>by
  obtain⟨d,D⟩:=RS (l:=l.take m) (j:=j) hK (by rw[List.getElem?_take_of_lt hj];exact ht);simp only[d8];rw[if_pos hj,ht];simp only[D]
  rfl
 have eS:∀i,ed l d8 (kv M.s) (m+i)=ed (l.drop m) aA (kv M.s) i:=UB (UA J8 m (Nat.le_refl _)) PX;have eB:∀i,m+i<=l.length->dM kY (kv M.b) (m+i)=dM N (kv M.b) i:=λ i hi=>Ur (Uq pi m (Nat.le_refl _)) i λ j hj=>sQ j (by omega)
 have eG:∀i,m+i<=l.length->eH dZ (kv M.g) (m+i)=eH ak (kv M.g) i:=λ i hi=>Uw (Uv vi m (Nat.le_refl _)) i λ j hj=>Ka j (by omega)
 have eD:∀i,m+i<=l.length->fR sB kY [] (m+i)=fR bP N [] i:=λ i hi=>Uu (Ut pi m (Nat.le_refl _)) i λ j hj=>⟨sQ j (by omega),Qc j⟩
 have eL:∀i,m+i<=l.length->fW l dZ [] (m+i)=fW (l.drop m) ak [] i:=λ i hi=>Uz (Nr vi m (Nat.le_refl _)) i λ j hj=>Ka j (by omega)
 have ci:l.toArray.size=l.length:=by simp
 have ug:m+(l.drop m).length=l.length:=by rw[List.length_drop];omega
 have kx:mZ aJ=l.toArray.size-m:=by
  have:=IB aJ.toList m (by simpa[hs] using nv) (λ i hi=>by
   have A:=jU i hi;have dT:i<aJ.size:=by rw[hs];omega
   simp[dT] at A⊢;exact A) (λ i hi U=>by
   have dT:i<aJ.size:=by simpa using U
   have A:=dX i hi (by rw[<-hs];exact dT);simp[dT] at A⊢;exact A)
  simpa[mZ,hs] using this
 refine CJ (P:=P) (Γ:=Γ) (M:=M) (ops:=l.toArray) (H:=l.toArray.size) (λ i=>decide (i<m)) (λ _=>false) (λ _=>true) aT (Jl _).1 (Nat.le_refl _) (aA:=d8) (N:=kY) (bP:=sB) (ak:=dZ) (B:=B) (a0:=a) (Q:=jM Γ Q) (λ i hi=>if_neg (by omega)) (λ i hi=>if_neg (by omega)) (λ i hi=>pi i (by simpa using hi)) (λ i hi=>vi i (by simpa using hi)) (λ _ _ _=>.inl rfl) (.inr λ _=>rfl) (λ b cs=>oJ.get)
  (λ i o hi ho oP _ _=>?_) (λ aJ b ab hv q2 q3 _=>?_) (λ _ _ _ _ _ h=>by cases h) _ aJ a e kx.symm ?_ (λ t h6 h7=>absurd h7 (by omega)) (λ i hi=>jU i (by simpa using hi)) (λ i hi=>by cases hi)
 ·have oP:m<=i:=by have:=of_decide_eq_false oP;omega
  obtain⟨j,rfl⟩:∃j,i=m+j:=⟨i-m,by omega⟩;have h6:=h5 j o (by rw[List.getElem?_drop];simpa using ho);rw[<-eS,<-eB j (by omega),<-eG j (by omega),<-eD j (by omega),<-eL j (by omega),<-PX,<-Qc,<-sQ j (by omega),<-Ka j (by omega)] at h6;exact h6
 ·have Z:bu Γ kc ab b:=hv.pU aT (by rw[O,ci,<-ug];exact(eS _).symm) (by rw[h4,ci,<-ug];exact(eB _ (by omega)).symm) (by rw[F,ci,<-ug];exact(eG _ (by omega)).symm) q2 q3;exact IE aT (Jl _).2 _ _ aJ b ab.w (by omega) (Nat.le_refl _) hv.l8 q2 q3 (by rw[List.drop_eq_nil_of_le (by simp)];exact⟨kc,ab,rfl,Z,A⟩)
 ·refine⟨hs,L.size,L.df,λ i o hi U x T Z=>jU _ (Nat.lt_trans (aT.back i o hi x T Z) (G9 i U)),λ i o t hi U ht=>?_,λ t _=>rfl,L.bU,λ b cs Z _=>L.boxes b cs Z,λ i p U hp=>?_,λ b Z _=>L.eE b Z,λ g _=>L.gs g,λ i p U hp=>?_,L.env⟩
  ·exact L.bU t _ (J8 i t (G9 i U) (by have:l[i]?=some o:=by simpa using hi
                                       rw[this];exact ht))
  ·rw[pi i (G9 i U)] at hp;cases hp
  ·rw[vi i (G9 i U)] at hp;cases hp
theorem Ji{M:St}(k m:Nat)(ws:List Nat){id:Nat}{l l1 l2 l3:List Oper}{B:List (Nat×List K)}(hs:mD k l (λ a=>la k l λ b=>mD (m-k) b λ c=>la m l λ d=>some (a,c,d))=some (l1,l2,l3))(hv:oZ ws M.b some=some B)(hm:P.follows .mixedOrders=true)(hB:ra l.toArray Γ.n=true)(hT:Iv l.toArray k m=true)(KQ:Nat.ble k m=true)(nv:Nat.ble m l.length=true)
 (h:cJ P Γ.n l B M.b (bq P Γ l (HC P Γ l l3 m Q) l2) 0 [] [] l1 M):aP P Γ (.region id l.toArray true) Q M:=by
 obtain⟨oN,hs⟩:=sq hs;obtain⟨hk,hs⟩:=nY hs;obtain⟨rP,hs⟩:=sq hs;obtain⟨KO,hs⟩:=nY hs;cases hs;have KQ:=Nat.le_of_ble_eq_true KQ;have nv:=Nat.le_of_ble_eq_true nv;obtain⟨o4,O,_,_,oJ⟩:=AK _ _ _ _ hv;cases O;refine⟨λ a e L=>?_⟩;have aT:=If hB;obtain⟨aA,N,bP,ak,kc,A,F,O,h4,h5⟩:=cJ.extract (l.take k) 0 [] [] M h;have gH:(l.take k).length=k:=by rw[List.length_take];omega
 rw[gH] at F O h4;have nl:∀j,j<k->(l.take k)[j]?=l[j]?:=λ j hj=>by rw[List.getElem?_take_of_lt hj]
 have rU:(l.toArray.toList.take m).drop k=(l.drop k).take (m-k):=by simp[List.drop_take]
 have hN:∀i,i<=k->dM N (kv M.b) i=dM (λ i=>if i<k then N i else none) (kv M.b) i:=λ i hi=>CI i λ j hj=>by rw[if_pos (by omega)]
 have hD:∀i,i<=k->fR bP N [] i=fR bP (λ i=>if i<k then N i else none) [] i:=λ i hi=>Ni i λ j hj=>⟨by rw[if_pos (by omega)],rfl⟩
 have hG:∀i,i<=k->eH ak (kv M.g) i=eH (λ i=>if i<k then ak i else none) (kv M.g) i:=λ i hi=>Ir i λ j hj=>by rw[if_pos (by omega)]
 have hL:∀i,i<=k->fW (l.take k) ak [] i=fW l.toArray.toList (λ i=>if i<k then ak i else none) [] i:=λ i hi=>Nq i λ j hj=>⟨by rw[if_pos (by omega)],by simpa using nl j (by omega)⟩
 have:=CJ (P:=P) (Γ:=Γ) (M:=M) (ops:=l.toArray) (H:=k) (λ _=>false) (λ _=>false) (λ _=>true) aT (WE hT KQ) (by simp;omega) (aA:=aA) (N:=λ i=>if i<k then N i else none) (bP:=bP) (ak:=λ i=>if i<k then ak i else none) (B:=B) (a0:=a) (Q:=jM Γ Q) (λ i hi=>if_neg (by omega)) (λ i hi=>if_neg (by omega)) (λ i hi=>by simp at hi) (λ i hi=>by simp at hi) (λ _ _ _=>.inl rfl) (.inr λ _=>rfl) (λ b cs=>oJ.get)
  (λ i o hi ho _ _ _=>by
   have h6:=h5 i o (by rw[nl i hi];simpa using ho);rw[Nat.zero_add,hN i (by omega),hD i (by omega),hG i (by omega),hL i (by omega)] at h6;have e5:ed (l.take k) aA (kv M.s) i=ed l.toArray.toList aA (kv M.s) i:=Fv i λ j hj=>by simpa using nl j (by omega)
   rw[e5] at h6
   simpa[hi] using h6)
  (λ aJ b ab hv q2 q3 _=>by
   have Z:bu Γ kc ab b:=hv.pU aT (by rw[O];exact Fv _ λ j hj=>by simpa using nl j hj) (by rw[h4];exact hN _ (Nat.le_refl _)) (by rw[F];exact hG _ (Nat.le_refl _)) q2 q3;refine Vb aT hT (by simp;omega) (m-k) k aJ b ab.w (by omega) (Nat.le_refl _) hv.l8 q2 q3 ?_;rw[rU];have hr:=A.run b ab Z;refine NP (λ a2 w2 hh=>?_) (λ ex a2 w2 b9 hh=>?_) hr
   ·obtain⟨rz,e2,rfl,e9,bg⟩:=hh;exact abb nv aT e9 bg
   ·obtain⟨rz,e2,rfl,e9,bg⟩:=hh;cases ex<;>first|exact absurd rfl b9|exact⟨rz,e2,rfl,e9,bg⟩) (λ _ _ _ _ _ h=>by cases h)
  l.toArray.size (Array.replicate l.toArray.size false) a {e with w:=e.w.drew} (IC _).symm
  ?_ (λ t _ ht=>by have zn:t<l.length:=by simpa using ht
                   simp[zn]) (λ i hi=>by cases hi) (λ i hi=>by cases hi)
 ·exact wp_region_any hm this
 ·have hg:kI e {e with w:=e.w.drew}:=⟨(Below.refl _ _).drew,λ _ _=>rfl,rfl,rfl,rfl⟩;have dR:=L.grow hg;refine⟨by simp,L.size,L.df,λ i o _ U=>?_,λ i o t _ U=>?_,λ t _=>rfl,dR.bU,λ b cs Z _=>dR.boxes b cs Z,λ i p U=>?_,λ b Z _=>dR.eE b Z,λ g _=>dR.gs g,λ i p U=>?_,dR.env⟩
  all_goals(simp[Array.getElem?_replicate] at U;split at U<;>simp at U)
theorem RX{M:St}{l l3:List Oper}{m:Nat}{B:List (Nat×List K)}(hv:oZ [] M.b some=some B)(J:zz M.s (l.take m)=true)(h:cJ P Γ.n l B M.b (Q .normal) m [] [] l3 M):HC P Γ l l3 m Q .normal M:=by obtain⟨o4,O,_,_,oJ⟩:=AK _ _ _ _ hv;cases O;exact⟨B,oJ,J,h⟩
end
end Go.Proofs.YtcnefjfboagbmaaGreat
end
section
namespace Go.Proofs.YtcnefjfboagbmaaGreat
open Go.Proofs.Tryz
open Go.RowKit
theorem BY{av:Type}:∀(l m:List (Nat×av))(n:Nat),kv (l++m) n=(kv l n).or (kv m n)
 |[],m,n=>rfl
 |(k,v)::l,m,n=>by
  rw[List.cons_append,da,da];split
  ·rfl
  ·exact BY l m n
theorem RU{av:Type}{l m:List (Nat×av)}{n:Nat}(h:aI l n=false):kv (l++m) n=kv m n:=by
 rw[BY];unfold aI at h;cases hh:kv l n with
 |none=>exact Option.none_or
 |some x=>rw[hh] at h;cases h
theorem LC{av:Type}{l m:List (Nat×av)}{n:Nat}(h:kv (l++m) n=none):aI l n=false/\kv m n=none:=by
 rw[BY] at h;unfold aI;cases hh:kv l n with
 |none=>rw[hh] at h;exact⟨rfl,h⟩
 |some x=>rw[hh] at h;cases h
section
variable{P:Program}{Γ:bN}{Q:Exit->St->Prop}
structure NX(Γ:bN)(e e2:aC)(v:Value)(d:K)(Y:List (Nat×List K)):Prop where
 ends:Ends e e2
 ok:h2 Γ e2
 bx:∀b,aI Y b=false->e2.bx b=e.bx b
 gi:∀g,e2.gi g=e.gi g
 dg:∀b cs,h1 e b cs->h1 e2 b cs
 new:∀b cs,kv Y b=some cs->h1 e2 b cs
 rep:bz e2 v d
theorem W4{e ab:aC}{Y:List (Nat×List K)}{v:Value}{d:K}(aT:h2 Γ e)(dC:∀b,aI Y b=true->e.bx b=none)(hI:fY Y ab)(hL:Left [] (e.cut (aI ([]:List (Nat×List K))) λ _=>false) ab)(hr:bz ab v d):NX Γ e (e.after ab [] Y) v d Y:=by
 have fz:∀k,¬∃b,(e.cut (aI ([]:List (Nat×List K))) λ _=>false).bx b=some k:=by rintro k ⟨b,Z⟩;have ia:(if aI ([]:List (Nat×List K)) b=true then e.bx b else none)=some k:=Z;rw[show aI ([]:List (Nat×List K)) b=false from rfl,if_neg (by simp)] at ia;cases ia
 have Bz:∀k,k<e.w.heap.size->ab.w.heap[k]?=e.w.heap[k]?:=λ k J=>hL.kept.block k J (fz k)
 have ea:∀k,k<e.w.heap.size->ab.cl k=e.cl k:=λ k J=>hL.cl k J (fz k)
 have jd:∀b,(e.after ab [] Y).bx b=if aI Y b=true then ab.bx b else e.bx b:=λ b=>by
  show(if aI Y b=true then ab.bx b else if aI ([]:List (Nat×List K)) b=true then none else e.bx b)=_;rw[show aI ([]:List (Nat×List K)) b=false from rfl];simp
 have Rd:∀b k,e.bx b=some k->aI Y b=false:=λ b k J=>by
  cases h:aI Y b with
  |false=>rfl
  |true=>rw[dC b h] at J;cases J
 have kP:∀b k,ab.bx b=some k->e.w.heap.size<=k/\k<ab.w.heap.size/\ab.cl k=some 0:=λ b k J=>by
  obtain⟨A,F⟩:=hI.bx b k J;rcases hL.bx b k J with O|O
  ·exact⟨O,A,F⟩
  ·exact absurd O (fz k)
 have I:Ends e (e.after ab [] Y):=by
  refine⟨λ b o v L hv=>?_,λ b k J=>?_,λ g au hg=>⟨au,hg,rfl,rfl,Nat.le_refl _⟩,λ k g au cur A F O=>⟨A,cur,(Bz k (sU O)).trans O,rfl⟩⟩
  ·have Z:=F6 hv;refine⟨λ n lD=>L n ?_,?_⟩
   ·rw[<-ea b Z];exact lD
   ·show ab.w.cell? _=_;rw[World.cell?_of_block (w:=e.w) (Bz b Z)];exact hv
  ·rw[jd,Rd b k J];simpa using J
 have xe:Ends ab (e.after ab [] Y):=by
  refine⟨λ _ _ _ A F=>⟨A,F⟩,λ b k J=>?_,λ g au hg=>?_,λ k g au cur hg=>?_⟩
  ·rw[jd,if_pos]
   ·exact J
   ·cases Z:kv Y b with
    |none=>rw[hI.eE b Z] at J;cases J
    |some cs=>simp[aI,Z]
  ·rw[hI.gi g] at hg;cases hg
  ·rw[hI.gr k] at hg;cases hg
 have ci:e.w.heap.size<=ab.w.heap.size:=hL.kept.size;refine⟨I,⟨⟨hL.kept.os.trans aT.kept.os,hL.kept.tape.trans aT.kept.tape,hL.kept.output.trans aT.kept.output,Nat.le_trans aT.kept.size ci,λ k J ho=>(Bz k (Nat.lt_of_lt_of_le J aT.kept.size)).trans (aT.kept.block k J ho)⟩,λ k J ho=>(ea k (Nat.lt_of_lt_of_le J aT.kept.size)).trans (aT.cl k J ho),λ b k J=>?_,λ b c k A F=>?_,λ k g hg=>?_,λ b k J=>?_⟩,λ b Z=>?_,λ g=>rfl,λ b cs Z=>?_,λ b cs Z=>?_,hr.next xe⟩
 ·rw[jd] at J;split at J
  ·obtain⟨A,F,O⟩:=kP b k J;refine⟨F,.inl (Nat.le_trans aT.kept.size A),O,?_⟩;show e.gr k=none;cases hg:e.gr k with
   |none=>rfl
   |some g=>obtain⟨_,_,_,h4,_⟩:=aT.gr k g hg;omega
  ·obtain⟨A,F,O,h4⟩:=aT.bx b k J;exact⟨Nat.lt_of_lt_of_le A ci,F,(ea k A).trans O,h4⟩
 ·rw[jd] at A F;split at A<;>split at F
  ·exact hI.inj b c k A F
  ·have:=(kP b k A).1;have:=(aT.bx c k F).1;omega
  ·have:=(kP c k F).1;have:=(aT.bx b k A).1;omega
  ·exact aT.inj b c k A F
 ·obtain⟨au,cur,A,F,O,h4,h5⟩:=aT.gr k g hg;exact⟨au,cur,A,Nat.lt_of_lt_of_le F ci,O,(ea k F).trans h4,(Bz k F).trans h5⟩
 ·have:=aT.kb b k J;rw[jd,Rd b k this];simpa using this
 ·rw[jd,Z];simp
 ·obtain⟨k,vs,el,A,F,O⟩:=Z;exact⟨k,vs,el,I.bx b k A,(Bz k (sU F)).trans F,O.next I⟩
 ·exact(hI.boxes b cs Z).ends xe rfl
theorem lv.ab3{M:St}{ops:Array Oper}(aT:pO ops Γ.n){aA:Nat->K}{N:Nat->Option (Nat×List K)}{bP:Nat->Bool}{ak:Nat->Option (Nat×Gr)}{a0:Act}{aJ:Array Bool}{e ab:aC}{a:Act}(h:lv Γ M ops aA N bP ak a0 aJ e a)
 {i:Nat}{o:Oper}(hi:ops[i]?=some o)(hr:i∈Region.ready .any ops aJ){v:Value}{Y:List (Nat×List K)}(hN:N i=none)(hM:ak i=none)(hq:NX Γ e ab v (aA i) Y):
 lv Γ ⟨M.s,Y++M.b,M.g⟩ ops aA N bP ak a0 (aJ.setIfInBounds i true) ab (a.put o.dst v):=by
 obtain⟨kx,o',hl,dF⟩:=mem_ready.1 hr;rw[hi] at hl;cases hl;obtain⟨kR,dT⟩:=ng kx;have I:=hq.ends;have split:∀j,(aJ.setIfInBounds i true).getD j false=true->j=i\/aJ.getD j false=true:=λ j hj=>by
  by_cases e:i=j
  ·exact .inl e.symm
  ·rw[getD_set_ne false e] at hj;exact .inr hj
 have tg:(aJ.setIfInBounds i true).getD i false=true:=by simp[dT]
 refine⟨by simpa using h.l8,by rw[Io];exact h.size,by rw[Gk];exact h.df,λ j oj hj U x T ia=>?_,λ j oj t hj U ht=>?_,λ t ht=>?_,λ t d ht=>(h.bU t d ht).next I,λ b cs Z hn=>?_,λ j p U hp hn=>?_,λ b Z hn=>?_,λ g hn=>by rw[hq.gi];exact h.gs g λ j p U hp=>hn j p (getD_set_true U) hp,λ j p U hp hn=>?_,hq.ok⟩
 ·rcases split j U with rfl|fq
  ·rw[hi] at hj;cases hj;exact getD_set_true (dF x T ia)
  ·exact getD_set_true (h.closed j oj hj fq x T ia)
 ·rcases split j U with rfl|fq
  ·rw[hi] at hj;cases hj;rw[ht,Fs (by rw[h.size];exact aT.lt _ _ _ hi ht)];exact hq.rep
  ·have b9:j≠i:=λ e=>by subst e;rw[kR] at fq;cases fq
   rw[AG (λ e=>aT.ne j i oj o t hj hi b9 ht e)];exact(h.vV j oj t hj fq ht).next I
 ·rw[AG (ht i o hi tg)];exact h.kept t λ j oj hj U=>ht j oj hj (getD_set_true U)
 ·have Z:kv (Y++M.b) b=some cs:=Z;cases dH:aI Y b with
  |false=>rw[RU dH] at Z;exact hq.dg b cs (h.boxes b cs Z λ j p U hp=>hn j p (getD_set_true U) hp)
  |true=>
   have:kv Y b=some cs:=by
    rw[BY] at Z;unfold aI at dH;cases hh:kv Y b with
    |none=>rw[hh] at dH;cases dH
    |some x=>rw[hh] at Z;exact Z
   exact hq.new b cs this
 ·rcases split j U with rfl|fq
  ·rw[hN] at hp;cases hp
  ·exact hq.dg p.1 p.2 (h.news j p fq hp λ k q J dX bg=>hn k q J (getD_set_true dX) bg)
 ·obtain⟨A,F⟩:=LC (show kv (Y++M.b) b=none from Z);rw[hq.bx b A];exact h.eE b F λ j p U zo hp=>hn j p (getD_set_true U) zo hp
 ·rw[hq.gi];rcases split j U with rfl|fq
  ·rw[hM] at hp;cases hp
  ·exact h.gw j p fq hp λ k q J dX bg=>hn k q J (getD_set_true dX) bg
structure NY(P:Program)(Γ:bN)(l:List Oper)(B:List (Nat×List K))(oc:Oper)(ix:Nat)(aG:St->Prop)(l2:List Oper)(M:St):Prop where
 out:∃(f:FuncId)(ds:List K)(aO:K->List (Nat×List K)->Prop)(d:K)(Y:List (Nat×List K))(t:Nat)(xs:List Operand)(fB:Array TypeId),
  eI P f [] ds [] aO/\(∀d9 aq,aO d9 aq->d9=d/\aq=Y)/\oc.op=.call {callee:=.value (.func f),args:=xs.toArray,argTypes:=fB}/\ke P f/\jc (kv M.s) xs some=some ds/\K.ok.eR (aI ([]:List (Nat×List K))) (λ _=>false) ds=true/\gd l oc (kv M.s)=some true/\oc.dst=some t/\Nat.blt t Γ.n=true/\
  (∀b,aI Y b=true->kv M.b b=none/\kv B b=none)/\cJ P Γ.n l B B aG ix [] [] l2 ⟨(t,d)::M.s,Y++M.b,M.g⟩
def Tp(ops:Array Oper)(c k:Nat):Bool:=(List.range k).all λ i=>i==c||j3 ops ops.size i c||match ops[i]? with
 |some o=>o.dst.isSome&&!uY o
 |none=>true
theorem Tr{ops:Array Oper}{c k i:Nat}{o:Oper}(h:Tp ops c k=true)(hi:i<k)(y2:i≠c)(ho:ops[i]?=some o):j3 ops ops.size i c=true\/(o.dst.isSome=true/\uY o=false):=by
 have A:=List.all_eq_true.1 h i (List.mem_range.2 hi);simp only[ho,Bool.or_eq_true,beq_iff_eq,Bool.and_eq_true,Bool.not_eq_true'] at A;rcases A with(A|A)|A
 ·exact absurd A y2
 ·exact .inl A
 ·exact .inr A
theorem TG{ops:Array Oper}{m:Nat}(aT:pO ops m):∀(f t i:Nat),j3 ops f t i=true->i<t
 |0,_,_,h=>by cases h
 |f+1,t,i,h=>by
  cases ho:ops[t]? with
  |none=>simp[j3,ho] at h
  |some o=>
   simp only[j3,ho] at h;obtain⟨e,he,Z⟩:=Array.any_eq_true'.1 h;simp only[Bool.and_eq_true,Bool.or_eq_true,beq_iff_eq] at Z;have A:=aT.back t o ho e he Z.1;rcases Z.2 with F|F
   ·omega
   ·have:=TG aT f e.on i F;omega
theorem HL{l0:List Oper}{ix:Nat}{B:Nat->Option (List K)}{S:Nat->Option K}{Bi Bj:Nat->Option (List K)}{Gi Gj:Nat->Option Gr}{ay ox:List Nat}{aE yi:List (Nat×Nat)}{o:Oper}{d:K}{nb:Option (Nat×List K)}{u:Bool}{m:Option (Nat×Gr)}(h:tJ P l0 ix B B S Bi Gi ay aE o d nb u m)(A:o.dst.isSome=true)(F:uY o=false)(hB:∀p,nb=some p->Bi p.1=none->Bj p.1=none):u=false/\m=none/\tJ P l0 ix B B S Bj Gj ox yi o d nb u m:=by
 rcases h with⟨a1,a2,a3,a4,a5⟩|⟨a1,a2,a3,a4,a5⟩|⟨nm,cs,aS,_,D,_⟩|⟨g,au,t,_,_,L,_⟩
 ·exact⟨a4,a5,.inl ⟨a1,a2,λ p hp=>⟨hB p hp (a3 p hp).1,(a3 p hp).2⟩,a4,a5⟩⟩
 ·exact⟨a4,a5,.inr (.inl ⟨a1,a2,a3,a4,a5⟩)⟩
 ·rw[D] at A;cases A
 ·rw[L] at F;cases F
end
theorem Ip{N:Nat->Option (Nat×List K)}{B:Nat->Option (List K)}{x:Nat}:∀i,B x=none->(∀j p,j<i->N j=some p->p.1≠x)->dM N B i x=none
 |0,h,_=>h
 |i+1,h,hn=>by
  simp only[dM,uP];split
  ·rename_i p hp;rw[if_neg (hn i p (Nat.lt_succ_self i) hp)];exact Ip i h λ j q hj hq=>hn j q (by omega) hq
  ·exact Ip i h λ j q hj hq=>hn j q (by omega) hq
theorem Ng{N:Nat->Option (Nat×List K)}{Y b0:List (Nat×List K)}:∀i,(∀j p,j<i->N j=some p->aI Y p.1=false)->∀x,dM N (kv (Y++b0)) i x=(kv Y x).or (dM N (kv b0) i x)
 |0,_,x=>BY Y b0 x
 |i+1,h,x=>by
  have ih:=Ng (N:=N) (Y:=Y) (b0:=b0) i (λ j p hj hp=>h j p (by omega) hp) x;simp only[dM,uP];cases hp:N i with
  |none=>exact ih
  |some p=>
   simp only
   by_cases T:p.1=x
   ·have Z:=h i p (Nat.lt_succ_self i) hp;unfold aI at Z;rw[T] at Z;rw[if_pos T,if_pos T];cases J:kv Y x with
    |none=>exact Option.none_or.symm
    |some y=>rw[J] at Z;cases Z
   ·rw[if_neg T,if_neg T];exact ih
theorem Ns{l iM:List Oper}{aA d8:Nat->K}{S:Nat->Option K}:∀i,(∀j,j<i->l[j]?=iM[j]?/\aA j=d8 j)->ed l aA S i=ed iM d8 S i
 |0,_=>rfl
 |i+1,h=>by rw[ed,ed,Ns i λ j hj=>h j (by omega),(h i (by omega)).1,(h i (by omega)).2]
theorem Nl{bP:Nat->Bool}{N:Nat->Option (Nat×List K)}{ay:List Nat}:∀i,(∀j,j<i->bP j=false)->fR bP N ay i=ay
 |0,_=>rfl
 |i+1,h=>by simp only[fR,h i (Nat.lt_succ_self i),cond_false,Nl i λ j hj=>h j (by omega)]
theorem aa1(e:aC):fY [] (e.cut (aI ([]:List (Nat×List K))) λ _=>false):=by
 have Z:∀b,(e.cut (aI ([]:List (Nat×List K))) λ _=>false).bx b=none:=λ b=>by
  show(if aI ([]:List (Nat×List K)) b=true then e.bx b else none)=none;rw[show aI ([]:List (Nat×List K)) b=false from rfl];simp
 refine⟨λ b cs h=>(by cases h),λ b _=>Z b,λ g=>?_,λ k=>?_,λ b k J=>(by rw[Z] at J;cases J),λ b c k J=>(by rw[Z] at J;cases J)⟩
 ·show(if false=true then e.gi g else none)=none;simp
 ·show(match e.gr k with|some g=>if false=true then some g else none|none=>none)=none;cases e.gr k<;>simp
section
variable{P:Program}{Γ:bN}{Q:Exit->St->Prop}
theorem Wu{M:St}(c k:Nat){id:Nat}{l l1 l2 l3:List Oper}{oc:Oper}{B:List (Nat×List K)}(hs:mD c l (λ a=>la c l λ r=>match r with|o::mA=>mD (k-(c+1)) mA λ b=>la (k-(c+1)) mA λ d=>some (a,o,b,d)|[]=>none)=some (l1,oc,l2,l3))(hv:oZ [] M.b some=some B)(hm:P.follows .mixedOrders=true)(hB:ra l.toArray Γ.n=true)(hT:uN l.toArray k=true)(hP:Tp l.toArray c k=true)(vm:Nat.blt c k=true)
 (h:cJ P Γ.n l B B (NY P Γ l B oc (c+1) (bq P Γ l Q l3) l2) 0 [] [] l1 M):aP P Γ (.region id l.toArray true) Q M:=by
 obtain⟨oN,hs⟩:=sq hs;obtain⟨hk,hs⟩:=nY hs;obtain⟨mA,qd,hs⟩:∃mA,l.drop c=oc::mA/\mD (k-(c+1)) mA (λ b=>la (k-(c+1)) mA λ d=>some (l.take c,oc,b,d))=some (l1,oc,l2,l3):=by
  cases D:l.drop c with
  |nil=>rw[D] at hs;cases hs
  |cons o mA=>rw[D] at hs;simp only at hs;obtain⟨A,F⟩:=sq hs;obtain⟨O,h4⟩:=nY F;cases h4;exact⟨mA,rfl,hs⟩
 obtain⟨rP,hs⟩:=sq hs;obtain⟨KO,hs⟩:=nY hs;cases hs;have vm:c<k:=by simpa using vm
 obtain⟨o4,O,_,_,oJ⟩:=AK _ _ _ _ hv;cases O;have U:l=l.take c++oc::mA:=by rw[<-qd,List.take_append_drop]
 have cD:l.length=c+1+mA.length:=by have:=congrArg List.length U;rw[List.length_append,List.length_cons,List.length_take] at this;omega
 have gH:k<=l.length:=by omega
 have ci:l.toArray.size=l.length:=by simp
 have g1:∀j,j<c->l[j]?=(l.take c)[j]?:=λ j hj=>by rw[List.getElem?_take_of_lt hj]
 have gc:l[c]?=some oc:=by
  have:(l.drop c)[0]?=some oc:=by rw[qd];rfl
  rw[List.getElem?_drop] at this;simpa using this
 have g2:∀j,j<k-(c+1)->l[c+1+j]?=(mA.take (k-(c+1)))[j]?:=λ j hj=>by
  rw[List.getElem?_take_of_lt hj];have:(l.drop c)[j+1]?=mA[j]?:=by rw[qd];rfl
  rw[List.getElem?_drop] at this;rw[<-this];congr 1;omega
 have Kq:l.toArray.toList.drop k=mA.drop (k-(c+1)):=by
  show l.drop k=_;rw[show k=c+(1+(k-(c+1))) by omega,<-List.drop_drop,qd,Nat.add_comm 1,List.drop_succ_cons]
  congr 1
  omega
 have jU:(l.take c).length=c:=by rw[List.length_take];omega
 have dX:(mA.take (k-(c+1))).length=k-(c+1):=by rw[List.length_take];omega
 have aT:=If hB;obtain⟨F1,N1,U1,M1,ow,hC,Dp,yB,tT,LU⟩:=cJ.extract (l.take c) 0 [] [] M h;rw[jU] at Dp yB tT;obtain⟨f,ds,aO,d,Y,t,xs,fB,Yj,hR,jg,DY,YD,Z7,p6,nj,bm,po,c8⟩:=hC.out;obtain⟨F2,N2,U2,M2,kc,hK,Pk,Pn,Pj,abE⟩:=cJ.extract (mA.take (k-(c+1))) (c+1) [] [] _ c8;rw[dX] at Pk Pn Pj
 let aA:Nat->K:=λ i=>if i<c then F1 i else if i=c then d else F2 (i-(c+1))
 let N:Nat->Option (Nat×List K):=λ i=>if i<c then N1 i else if i=c then none else if i<k then N2 (i-(c+1)) else none
 let bP:Nat->Bool:=λ i=>if i<c then U1 i else if i=c then false else if i<k then U2 (i-(c+1)) else false
 let ak:Nat->Option (Nat×Gr):=λ i=>if i<c then M1 i else if i=c then none else if i<k then M2 (i-(c+1)) else none
 have CR:∀j,j<c->aA j=F1 j:=λ j hj=>if_pos hj
 have Fc:aA c=d:=by simp only[aA];rw[if_neg (Nat.lt_irrefl c)];simp
 have N0:∀j,aA (c+1+j)=F2 j:=λ j=>by simp only[aA];rw[if_neg (by omega),if_neg (by omega)];congr 1;omega
 have yj:∀j,j<c->N j=N1 j:=λ j hj=>if_pos hj
 have Nc:N c=none:=by simp only[N];rw[if_neg (Nat.lt_irrefl c)];simp
 have IT:∀j,j<k-(c+1)->N (c+1+j)=N2 j:=λ j hj=>by simp only[N];rw[if_neg (by omega),if_neg (by omega),if_pos (by omega)];congr 1;omega
 have Nk:∀j,k<=j->N j=none:=λ j hj=>by simp only[N];rw[if_neg (by omega),if_neg (by omega),if_neg (by omega)]
 have Ob:∀j,j<c->bP j=U1 j:=λ j hj=>if_pos hj
 have Uc:bP c=false:=by simp only[bP];rw[if_neg (Nat.lt_irrefl c)];simp
 have Oc:∀j,j<k-(c+1)->bP (c+1+j)=U2 j:=λ j hj=>by simp only[bP];rw[if_neg (by omega),if_neg (by omega),if_pos (by omega)];congr 1;omega
 have IQ:∀j,j<c->ak j=M1 j:=λ j hj=>if_pos hj
 have Mc:ak c=none:=by simp only[ak];rw[if_neg (Nat.lt_irrefl c)];simp
 have IR:∀j,j<k-(c+1)->ak (c+1+j)=M2 j:=λ j hj=>by simp only[ak];rw[if_neg (by omega),if_neg (by omega),if_pos (by omega)];congr 1;omega
 have Mk:∀j,k<=j->ak j=none:=λ j hj=>by simp only[ak];rw[if_neg (by omega),if_neg (by omega),if_neg (by omega)]
 have Tm:∀i o,i<c->l[i]?=some o->o.dst.isSome=true/\uY o=false:=λ i o hi ho=>by
  rcases Tr hP (show i<k by omega) (show i≠c by omega) (show l.toArray[i]?=some o by simpa using ho) with A|A
  ·have:=TG aT _ _ _ A;omega
  ·exact A
 have pm:∀i,i<l.length->∃o,l[i]?=some o:=λ i hi=>⟨l[i],List.getElem?_eq_getElem hi⟩
 have EP:∀i o,i<c->l[i]?=some o->tJ P l i (kv B) (kv B) (ed (l.take c) F1 (kv M.s) i) (dM N1 (kv M.b) i) (eH M1 (kv M.g) i) (fR U1 N1 [] i) (fW (l.take c) M1 [] i) o (F1 i) (N1 i) (U1 i) (M1 i):=λ i o hi ho=>by
  have:=LU i o (by rw[<-g1 i hi];exact ho);rw[Nat.zero_add] at this;exact this
 have Od:∀j,j<c->U1 j=false/\M1 j=none:=λ j hj=>by
  obtain⟨o,ho⟩:=pm j (by omega);obtain⟨p1,p2⟩:=Tm j o hj ho;have:=HL (Bj:=dM N1 (kv M.b) j) (Gj:=eH M1 (kv M.g) j) (ox:=[]) (yi:=[]) (EP j o hj ho) p1 p2 (λ p hp hh=>hh);exact⟨this.1,this.2.1⟩
 have gp:∀j p,j<c->N1 j=some p->aI Y p.1=false:=λ j p hj hp=>by
  cases dH:aI Y p.1 with
  |false=>rfl
  |true=>have h5:=(po p.1 dH).1;rw[tT] at h5;exact absurd rfl ((rp c h5).2 j p hj hp)
 have aaS:∀b,aI Y b=true->kv M.b b=none:=λ b Z=>by
  have h5:=(po b Z).1;rw[tT] at h5;exact(rp c h5).1
 have yC:∀i,i<=c->ed l aA (kv M.s) i=ed (l.take c) F1 (kv M.s) i:=λ i hi=>Ns i λ j hj=>⟨g1 j (by omega),CR j (by omega)⟩
 have Pq:∀j,j<=k-(c+1)->ed l aA (kv M.s) (c+1+j)=ed (mA.take (k-(c+1))) F2 (kv ((t,d)::ow.s)) j:=by
  intro j;induction j with
  |zero=>
   intro _
   funext x
   show ed l aA (kv M.s) (c+1) x=kv ((t,d)::ow.s) x;simp only[ed,gc,Fc,Option.bind_some,nj,da,yC c (Nat.le_refl _),<-yB,Option.some.injEq]
  |succ j ih=>
   intro hj;rw[show c+1+(j+1)=(c+1+j)+1 by omega]
   funext x
   simp only[ed,ih (by omega),g2 j (by omega),N0]
 have Dr:∀i,i<=c->dM N (kv M.b) i=dM N1 (kv M.b) i:=λ i hi=>CI i λ j hj=>yj j (by omega)
 have Ps:∀i,i<=c->dM N (kv (Y++M.b)) i=dM N1 (kv (Y++M.b)) i:=λ i hi=>CI i λ j hj=>yj j (by omega)
 have Po:∀j,j<=k-(c+1)->dM N (kv (Y++M.b)) (c+1+j)=dM N2 (kv (Y++ow.b)) j:=by
  intro j;induction j with
  |zero=>
   intro _
   funext x
   show dM N (kv (Y++M.b)) (c+1) x=kv (Y++ow.b) x;simp only[dM,Nc,uP];rw[Ps c (Nat.le_refl _),Ng c gp x,BY,tT]
  |succ j ih=>intro hj;rw[show c+1+(j+1)=(c+1+j)+1 by omega];simp only[dM,ih (by omega),IT j (by omega)]
 have Xn:∀i,i<=c->eH ak (kv M.g) i=eH M1 (kv M.g) i:=λ i hi=>Ir i λ j hj=>IQ j (by omega)
 have Pp:∀j,j<=k-(c+1)->eH ak (kv M.g) (c+1+j)=eH M2 (kv ow.g) j:=by
  intro j;induction j with
  |zero=>
   intro _;show eH ak (kv M.g) (c+1)=kv ow.g;simp only[eH,Mc,Xn c (Nat.le_refl _),Dp]
   rfl
  |succ j ih=>intro hj;rw[show c+1+(j+1)=(c+1+j)+1 by omega];simp only[eH,ih (by omega),IR j (by omega)]
 have Xm:∀j,j<=k-(c+1)->fR bP N [] (c+1+j)=fR U2 N2 [] j:=by
  intro j;induction j with
  |zero=>
   intro _;exact Nl (c+1) λ j hj=>by
    by_cases D8:j=c
    ·rw[D8];exact Uc
    ·rw[Ob j (by omega)];exact(Od j (by omega)).1
  |succ j ih=>intro hj;rw[show c+1+(j+1)=(c+1+j)+1 by omega];simp only[fR,ih (by omega),IT j (by omega),Oc j (by omega)]
 have Vm:∀j,j<c+1->ak j=none:=λ j hj=>by
  by_cases D8:j=c
  ·rw[D8];exact Mc
  ·rw[IQ j (by omega)];exact(Od j (by omega)).2
 have Xo:∀j,j<=k-(c+1)->fW l ak [] (c+1+j)=fW (mA.take (k-(c+1))) M2 [] j:=by
  intro j;induction j with
  |zero=>intro _;exact Nr Vm (c+1) (Nat.le_refl _)
  |succ j ih=>intro hj;rw[show c+1+(j+1)=(c+1+j)+1 by omega];simp only[fW,ih (by omega),g2 j (by omega),IR j (by omega)]
 have post:∀i o,i<k->l.toArray[i]?=some o->i≠c->tJ P l.toArray.toList i (kv B) (kv B) (ed l.toArray.toList aA (kv M.s) i) (dM N (kv (Y++M.b)) i) (eH ak (kv M.g) i) (fR bP N [] i) (fW l.toArray.toList ak [] i) o (aA i) (N i) (bP i) (ak i):=by
  intro i o hi ho y2;have ho:l[i]?=some o:=by simpa using ho
  rcases Nat.lt_or_ge i c with h5|h5
  ·obtain⟨p1,p2⟩:=Tm i o h5 ho;have:=(HL (Bj:=dM N (kv (Y++M.b)) i) (Gj:=eH ak (kv M.g) i) (ox:=fR bP N [] i) (yi:=fW l ak [] i) (EP i o h5 ho) p1 p2 (λ p hp hh=>by
    rw[Ps i (by omega),Ng i (λ j q hj hq=>gp j q (by omega) hq),hh];have:=gp i p h5 hp;unfold aI at this;cases J:kv Y p.1 with
    |none=>rfl
    |some y=>rw[J] at this;cases this)).2.2
   rw[<-yC i (by omega),<-CR i h5,<-yj i h5,<-Ob i h5,<-IQ i h5] at this;exact this
  ·obtain⟨j,rfl⟩:∃j,i=c+1+j:=⟨i-(c+1),by omega⟩;have:=abE j o (by rw[<-g2 j (by omega)];exact ho);rw[<-Pq j (by omega),<-Po j (by omega),<-Pp j (by omega),<-Xm j (by omega),<-Xo j (by omega),<-N0,<-IT j (by omega),<-Oc j (by omega),<-IR j (by omega)] at this;exact this
 let uC:Nat->Bool:=λ i=>decide (i<k)&&!(i==c)&&!(j3 l.toArray l.toArray.size i c)
 have HY:∀i,uC i=true->i<k/\i≠c/\∀o,l.toArray[i]?=some o->o.dst.isSome=true/\uY o=false:=λ i hi=>by
  simp only[uC,Bool.and_eq_true,decide_eq_true_eq,Bool.not_eq_true',beq_eq_false_iff_ne] at hi;refine⟨hi.1.1,hi.1.2,λ o ho=>?_⟩;rcases Tr hP hi.1.1 hi.1.2 ho with A|A
  ·rw[hi.2] at A;cases A
  ·exact A
 have adG:∀i,uC i=true->bP i=false/\ak i=none:=λ i hi=>by
  obtain⟨A,F,O⟩:=HY i hi;obtain⟨o,ho⟩:=pm i (by omega);have hl:l.toArray[i]?=some o:=by simpa using ho
  obtain⟨p1,p2⟩:=O o hl;have:=HL (Bj:=dM N (kv (Y++M.b)) i) (Gj:=eH ak (kv M.g) i) (ox:=[]) (yi:=[]) (post i o A hl F) p1 p2 (λ p hp hh=>hh);exact⟨this.1,this.2.1⟩
 refine⟨λ a e L=>?_⟩;have:=CJ (P:=P) (Γ:=Γ) (M:=M) (ops:=l.toArray) (H:=k) (λ _=>false) (λ i=>i==c) uC aT (Jm hT) (by omega) (aA:=aA) (N:=N) (bP:=bP) (ak:=ak) (B:=B) (a0:=a) (Q:=jM Γ Q) Nk Mk
  (λ i hi=>by rcases hi with hi|hi;·cases hi
              ·rw[show i=c by simpa using hi];exact Nc)
  (λ i hi=>by rcases hi with hi|hi;·cases hi
              ·rw[show i=c by simpa using hi];exact Mc)
  (λ i o ho=>by
   by_cases y2:i=c
   ·exact .inr (.inl (by simp[y2]))
   ·by_cases te:j3 l.toArray l.toArray.size i c=true
    ·exact .inr (.inr ⟨c,by simp,te⟩)
    ·have te:j3 l.toArray l.toArray.size i c=false:=by simpa using te
     rcases Nat.lt_or_ge i k with h5|h5
     ·exact .inl (by
       show(decide (i<k)&&!(i==c)&&!(j3 l.toArray l.toArray.size i c))=true;rw[te];simp[h5,y2])
     ·exfalso;rcases NA hT ho h5 (show c<i by omega) with⟨x,T,Z,mP⟩|⟨_,h6⟩
      ·rw[show l.toArray.size=(l.length-1)+1 by omega] at te;simp only[j3,ho] at te;have:(o.after.any λ e=>Region.binds .any e&&(e.on==c||j3 l.toArray (l.length-1) e.on c))=true:=Array.any_eq_true'.2 ⟨x,T,by simp[Z,mP]⟩;rw[this] at te;cases te
      ·rw[te] at h6;cases h6)
  (.inl adG) (λ b cs=>oJ.get)
  (λ i o hi ho _ ahs y9=>by
   obtain⟨A,F,O⟩:=HY i y9;obtain⟨p1,p2⟩:=O o ho;have db:=post i o A ho F;have db:=(HL (Bj:=dM N (kv M.b) i) (Gj:=eH ak (kv M.g) i) (ox:=fR bP N [] i) (yi:=fW l.toArray.toList ak [] i) db p1 p2 (λ p hp hh=>by
    obtain⟨q1,q2⟩:=rp i hh;exact Ip i (LC q1).2 q2)).2.2
   rcases db with⟨a1,a2,a3,a4,a5⟩|db|⟨nm,cs,aS,_,D,_⟩|⟨g,au,iJ,_,_,ea,_⟩
   ·refine .inl ⟨a1,.inl (by rcases a2 with a2|⟨_,a2⟩<;>exact a2),a3,a4,a5⟩
   ·exact .inr (.inl db)
   ·rw[D] at p1;cases p1
   ·rw[ea] at p2;cases p2)
  (λ aJ b ab hv q2 q3 q4=>by
   have A:=q2 c vm;rw[q4 c (by simp)] at A;cases A)
  (λ fuel aJ bs ab i hi sW hr cB gV _=>by
   obtain rfl:i=c:=by simpa using hi
   have ho:l.toArray[i]?=some oc:=by simpa using gc
   have kx:=(mem_ready.1 hr).1;have cF:ed l.toArray.toList aA (kv M.s) i=kv ow.s:=by show ed l aA (kv M.s) i=_;rw[yC i (Nat.le_refl _),<-yB]
   have hw:=cB.wanted aT ho hr (c:=true) (by rw[cF];exact p6);have jC:=cB.iP aT ho hr;rw[cF] at jC;have BK:∀x∈oc.op.operands,∀d,ev (kv ow.s) x=some d->bz ab (bs.eval x) d:=λ x T d D=>by
    cases x with
    |tmp iJ=>exact jC iJ (List.mem_append_left _ (List.mem_filterMap.2 ⟨.tmp iJ,by simpa using T,rfl⟩)) d D
    |const v=>simp only[ev,wR,Option.some.injEq] at D;subst D;exact wQ _ v
    |global g=>cases D
    |func oG=>simp only[ev,Option.some.injEq] at D;subst D;exact .fn (us:=[]) (vs:=[]) rfl rfl (λ i v d h=>by simp at h) (λ i v d h=>by simp at h)
   have hv:=Dv (a:=bs) (e:=ab) xs (λ x T=>BK x (by rw[jg];simp[Op.operands,Call.operands,T])) YD;have dC:∀b,aI Y b=true->ab.bx b=none:=λ b Z=>by
    refine cB.eE b (aaS b Z) λ j p U hu hp he=>?_
    have qT:j<l.length:=by
     rcases Nat.lt_or_ge j l.length with h5|h5
     ·exact h5
     ·rw[Nk j (by omega)] at hp;cases hp
    have D8:j≠i:=λ e5=>by rw[e5,Nc] at hp;cases hp
    have mN:j<k:=by
     rcases Nat.lt_or_ge j k with h5|h5
     ·exact h5
     ·rw[Nk j h5] at hp;cases hp
    obtain⟨oj,iY⟩:=pm j qT;rcases post j oj mN (by simpa using iY) D8 with⟨_,_,a3,_,_⟩|⟨_,_,a3,_,_⟩|⟨_,_,_,_,_,_,_,_,_,_,_,a3,_⟩|⟨_,_,_,_,_,_,_,_,a3,_⟩
    ·have:=(LC (rp j (a3 p hp).1).1).1;rw[he,Z] at this;cases this
    ·rw[a3] at hp;cases hp
    ·rw[hu] at a3;cases a3
    ·rw[a3] at hp;cases hp
   unfold wpOp;simp only[ho];rw[if_pos hw];refine .inl ?_;unfold Oper.wp;have e1:(execOp bs.eval oc).run P ab.w=.ok (.enter f (xs.map bs.eval).toArray) ab.w:=by obtain⟨dst,op,type,pos,after,guard⟩:=oc;simp only at jg;subst jg;rw[execOp_call_go,DY];simp
   rw[e1];refine Calls.mono (Yj (ab.cut (aI ([]:List (Nat×List K))) λ _=>false) (xs.map bs.eval) (aa1 ab) ⟨hv.1,λ i v d A F=>(hv.2 i v d A F).cut (q7 Z7 F)⟩) λ r aM hh=>?_
   obtain⟨v,d9,aq,e2,rfl,rfl,Yp,hI,aan,hL⟩:=hh;obtain⟨rfl,rfl⟩:=hR d9 aq Yp;have Ri:=W4 cB.env dC hI hL aan;rw[<-Fc] at Ri;have vE:=cB.ab3 aT ho hr Nc Mc Ri;have BD:fuel=mZ (aJ.setIfInBounds i true):=by have:=NL kx;omega
   have dT:=(ng kx).2;refine CJ (P:=P) (Γ:=Γ) (M:=⟨M.s,aq++M.b,M.g⟩) (ops:=l.toArray) (H:=k) (λ j=>j==i) (λ _=>false) (λ _=>true) aT (Jm hT) (by omega) (aA:=aA) (N:=N) (bP:=bP) (ak:=ak) (B:=B) (a0:=a) (Q:=jM Γ Q) Nk Mk
    (λ j hj=>by rcases hj with hj|hj;·rw[show j=i by simpa using hj];exact Nc
                ·cases hj)
    (λ j hj=>by rcases hj with hj|hj;·rw[show j=i by simpa using hj];exact Mc
                ·cases hj)
    (λ _ _ _=>.inl rfl) (.inr λ _=>rfl)
    (λ b cs Z=>by
     have A:=oJ.get Z;have:aI aq b=false:=by
      cases h5:aI aq b with
      |false=>rfl
      |true=>rw[(po b h5).2] at Z;cases Z
     rw[RU this];exact A)
    (λ j o hj iY rN _ _=>by
     have db:=post j o hj iY (by simpa using rN);rcases db with⟨a1,a2,a3,a4,a5⟩|db|db|db
     ·exact .inl ⟨a1,.inl (by rcases a2 with a2|⟨_,a2⟩<;>exact a2),a3,a4,a5⟩
     ·exact .inr (.inl db)
     ·exact .inr (.inr (.inl db))
     ·exact .inr (.inr (.inr db)))
    (λ aJ b e3 hv q2 q3 _=>by
     have Z:bu Γ kc e3 b:=hv.pU aT (by rw[Pn];have:=Pq (k-(i+1)) (Nat.le_refl _);rw[show i+1+(k-(i+1))=k by omega] at this;exact this.symm) (by rw[Pj];have:=Po (k-(i+1)) (Nat.le_refl _);rw[show i+1+(k-(i+1))=k by omega] at this;exact this.symm) (by rw[Pk];have:=Pp (k-(i+1)) (Nat.le_refl _);rw[show i+1+(k-(i+1))=k by omega] at this;exact this.symm) q2 q3;exact IE aT hT _ _ aJ b e3.w (by omega) (Nat.le_refl _) hv.l8 q2 q3 (by rw[Kq];exact hK.run b e3 Z))
    (λ _ _ _ _ _ h=>by cases h)
    fuel _ _ (ab.after e2 [] aq) BD vE (λ iJ A F=>by rw[getD_set_ne true (by omega)];exact gV iJ A F) (λ j hj=>by rw[show j=i by simpa using hj];simp[dT]) (λ j hj=>by cases hj))
  l.toArray.size (Array.replicate l.toArray.size false) a {e with w:=e.w.drew} (IC _).symm
  ?_ (λ t _ ht=>by have zn:t<l.length:=by simpa using ht
                   simp[zn]) (λ i hi=>by cases hi) (λ i hi=>by
   have:i=c:=by simpa using hi
   have ea:c<l.length:=by omega
   simp[this,ea])
 ·exact wp_region_any hm this
 ·have hg:kI e {e with w:=e.w.drew}:=⟨(Below.refl _ _).drew,λ _ _=>rfl,rfl,rfl,rfl⟩;have dR:=L.grow hg;refine⟨by simp,L.size,L.df,λ i o _ U=>?_,λ i o t _ U=>?_,λ t _=>rfl,dR.bU,λ b cs Z _=>dR.boxes b cs Z,λ i p U=>?_,λ b Z _=>dR.eE b Z,λ g _=>dR.gs g,λ i p U=>?_,dR.env⟩
  all_goals(simp[Array.getElem?_replicate] at U;split at U<;>simp at U)
def CT(Y b B:List (Nat×List K)):Prop:=match Y with
 |[]=>True
 |p::l=>kv b p.1=none/\kv B p.1=none/\CT l b B
theorem CT.get{b B:List (Nat×List K)}:∀{Y:List (Nat×List K)}(_:CT Y b B){x:Nat},aI Y x=true->kv b x=none/\kv B x=none
 |[],_,x,h=>by cases h
 |(k,v)::l,hf,x,h=>by
  unfold aI at h;rw[da] at h;split at h
  ·rename_i e;subst e;exact⟨hf.1,hf.2.1⟩
  ·exact CT.get hf.2.2 h
theorem WL{l l2:List Oper}{B:List (Nat×List K)}{oc:Oper}{ix:Nat}{aG:St->Prop}{s:List (Nat×K)}{b:List (Nat×List K)}{g:List (Nat×Gr)}{f:FuncId}{ds:List K}{aO:K->List (Nat×List K)->Prop}{d:K}{Y:List (Nat×List K)}{t:Nat}{xs:List Operand}{fB:Array TypeId}(hC:eI P f [] ds [] aO)(hR:∀d9 aq,aO d9 aq->d9=d/\aq=Y)(ho:oc.op=.call {callee:=.value (.func f),args:=xs.toArray,argTypes:=fB})(hf:ke P f)(he:jc (kv s) xs some=some ds)(aT:K.ok.eR (aI ([]:List (Nat×List K))) (λ _=>false) ds=true)(hg:gd l oc (kv s)=some true)(D:oc.dst=some t)(U:Nat.blt t Γ.n=true)(po:CT Y b B)
 (h:cJ P Γ.n l B B aG ix [] [] l2 ⟨(t,d)::s,Y++b,g⟩):NY P Γ l B oc ix aG l2 ⟨s,b,g⟩:=⟨f,ds,aO,d,Y,t,xs,fB,hC,hR,ho,hf,he,aT,hg,D,U,λ _ T=>po.get T,h⟩
end
end Go.Proofs.YtcnefjfboagbmaaGreat
end
section
namespace Go.Proofs.YtcnefjfboagbmaaGreat
open Go.Proofs.Tryz
open Go.RowKit
section
variable{P:Program}{ap:Nat->Option TI}{Γ:bN}{M:St}
inductive C6(e:aC)(nm n c sz:Nat)(ps:List Pl):Value->Prop where
 |none (hn:n=0) (L:c=0) (db:ps=[]):C6 e nm n c sz ps (.slice none 0 0)
 |empty {ad:Addr} (hn:n=0) (L:c=0) (db:ps=[]):C6 e nm n c sz ps (.slice (some ad) 0 0)
 |some {k:Nat} {vs:List Value} {el:TypeId} (J:e.bx nm=some k) (hh:e.w.heap[k]?=some (.cells vs.toArray el (0,0))) (U:vs.length=c*sz) (hn:n<=c) (db:ps.length=n*sz) (hr:∀(j:Nat) v x,vs[j]?=some v->ps[j]?=some x->dm e v x):C6 e nm n c sz ps (.slice (some ⟨k,0,none⟩) n c)
theorem V9(hT:di P ap){e:aC}{a:Act}(L:bu Γ M e a){ty:TypeId}{nm n m c el z1 z2 sz:Nat}{z3:Value}{ps qs:List Pl}{i:TI}{vx vy:Value}{t:TypeId}(ht:ap t=some ⟨.slice el,z1,z2,z3⟩)(ek:ap el=some i)(gX:i.zero.cells.size=sz)(Hn:i.sz=sz)(h0:0<sz)(dV:kv Γ.kb nm=none)
 (T:C6 e nm n c sz ps vx)(lc:c<=maxLen)(fw:dm e vy (.sl false m qs))(hm:0<m)(d6:qs.length=m*sz)
 (gt:n+m<=maxLen)(gF:(n+m)*i.bytes<=140737488355328):∃v ab aS cg,(Builtin.append_ #[t,t] ty #[vx,vy]).run P e.w=.ok v ab.w/\aS.length=cg*sz/\cg<=maxLen/\n+m<=cg/\aS.take ((n+m)*sz)=(ps++qs).map K.p/\fy aS/\
  bu Γ ⟨sG (cU nm) M.s,(nm,aS)::iL (Nat.beq nm) (cU nm) M.b,M.g⟩ ab a/\bz ab v (.arr nm 0 (n+m) cg):=by
 obtain⟨d0,ec,J⟩:=hT.desc t _ ht;cases d0<;>simp only[jI,reduceCtorEq,TK.slice.injEq] at J
 rw[J] at ec;obtain⟨gy,nn,ci,uf,hz⟩:=hT.info _ i ek;rw[Hn] at ci;obtain⟨aH,md,rfl,Rx,Rz,Qd,_,hY⟩:=rf fw;have Ex:qs≠[]:=λ ab=>by rw[ab] at d6;simp only[List.length_nil] at d6;have:=Nat.mul_pos hm h0;omega
 rcases hY with hY|⟨yb,yo,rfl,DI⟩
 ·exact absurd hY Ex
 obtain⟨us,tm,qX,mo,vN⟩:=Dh DI;have qf:us.length=m*gy.size:=by rw[tm,d6,ci]
 have ny:(n+m)*sz=n*sz+m*sz:=Nat.add_mul _ _ _;have vM:us.length=m*sz:=by rw[tm,d6]
 have vq:=L.forget nm dV;have Er:kv (iL (Nat.beq nm) (cU nm) M.b) nm=none:=by
  cases h:kv (iL (Nat.beq nm) (cU nm) M.b) nm with
  |none=>rfl
  |some cs=>have:=(Ba h).1;simp at this
 have uh:∀(os:List Value),os.length=n*sz->ps.length=n*sz->(∀(j:Nat) v x,os[j]?=some v->ps[j]?=some x->dm e v x)->(c<n+m)->(Builtin.append_ #[t,t] ty #[vx,.slice (some ⟨yb,yo,none⟩) m md]).run P e.w=.ok (.slice (some ⟨e.w.heap.size,0,none⟩) (n+m) (grownCap e.w (n+m) c el)) (e.w.drew.alloc (.cells (os.toArray++us.toArray++Builtin.zeroCells i.zero.cells (grownCap e.w (n+m) c el-(n+m))) el))->
  ∃v ab aS cg,(Builtin.append_ #[t,t] ty #[vx,.slice (some ⟨yb,yo,none⟩) m md]).run P e.w=.ok v ab.w/\aS.length=cg*sz/\cg<=maxLen/\n+m<=cg/\aS.take ((n+m)*sz)=(ps++qs).map K.p/\fy aS/\
  bu Γ ⟨sG (cU nm) M.s,(nm,aS)::iL (Nat.beq nm) (cU nm) M.b,M.g⟩ ab a/\bz ab v (.arr nm 0 (n+m) cg):=by
  intro os jB db vG bm c8;have iq:n+m<=grownCap e.w (n+m) c el:=grownCap_ge _ _ _ _;have pp:grownCap e.w (n+m) c el<=maxLen:=grownCap_le_maxLen _ _ _ _ gt;generalize grownCap e.w (n+m) c el=bS at iq pp c8
  let e1:=e.cut (cU nm) λ _=>true
  let i7:List Value:=os++us++(Builtin.zeroCells i.zero.cells (bS-(n+m))).toList
  have rU:os.toArray++us.toArray++Builtin.zeroCells i.zero.cells (bS-(n+m))=i7.toArray:=by apply Array.ext';simp[i7]
  have cD:i7.length=bS*sz:=by
   have:(Builtin.zeroCells i.zero.cells (bS-(n+m))).toList.length=(bS-(n+m))*sz:=by rw[Array.length_toList,size_zeroCells,gX]
   simp only[i7,List.length_append,jB,vM,this];have:=Nat.mul_le_mul_right sz iq;rw[Nat.sub_mul];omega
  rw[rU] at c8
  let e2:aC:={e1 with w:=e.w.drew}
  have jT:kI e1 e2:=⟨(Below.refl _ _).drew,λ _ _=>rfl,rfl,rfl,rfl⟩;have d4:=aC.tM e2 (.cells i7.toArray el) (some 0);have e9:=(vq.grow jT).grow d4;have mI:Ends e1 (e2.alloc (.cells i7.toArray el) (some 0)):=jT.ends.trans d4.ends;have px:∀(j:Nat) v x,i7[j]?=some v->(ps++qs)[j]?=some x->dm e1 v x:=by
   intro j v x hv T;rcases Nat.lt_or_ge j (n*sz) with hj|hj
   ·rw[List.getElem?_append_left (by omega)] at T;simp only[i7,List.append_assoc] at hv;rw[List.getElem?_append_left (by omega)] at hv;exact(vG j v x hv T).cut
   ·rw[List.getElem?_append_right (by omega),db] at T;have KM:=(List.getElem?_eq_some_iff.1 T).1;simp only[i7,List.append_assoc] at hv;rw[List.getElem?_append_right (by omega),jB,List.getElem?_append_left (by omega)] at hv;exact(vN _ v x hv T).cut
  have bH:(ps++qs).length=(n+m)*sz:=by rw[List.length_append,db,d6,ny]
  have vk:=H5 (e:=e1) (vs:=i7) (ps:=ps++qs) (by rw[bH,cD];exact Nat.mul_le_mul_right sz iq) px;have iC:(e2.alloc (.cells i7.toArray el) (some 0)).bx nm=none:=by show(if cU nm nm=true then e.bx nm else none)=none;simp[cU]
  have yL:=tE (k:=e.w.heap.size) iC;have yZ:=e9.GD (b:=nm) (k:=e.w.heap.size) (cs:=(ps++qs).map K.p++List.replicate (i7.length-(ps++qs).length) K.any) Er (by simp[aC.alloc,e2]) (.inl L.env.kept.size) (by simp[aC.alloc,e2]) (by
   show(e.cut (cU nm) λ _=>true).gr _=none;show(match e.gr e.w.heap.size with|some g=>if true=true then some g else none|none=>none)=none;cases hg:e.gr e.w.heap.size with
   |none=>rfl
   |some g=>obtain⟨_,_,_,O,_⟩:=L.env.gr _ g hg;omega) (λ x T=>by
   have eA:(if cU nm x=true then e.bx x else none)=some e.w.heap.size:=T;split at eA
   ·have:=(L.env.bx x _ eA).1;omega
   ·cases eA) ⟨e.w.heap.size,i7,el,by simp[aC.iz],heap_alloc_new e2.w _,(vk.next mI).next yL⟩
  refine⟨_,(e2.alloc (.cells i7.toArray el) (some 0)).iz nm e.w.heap.size,_,bS,c8,?_,pp,iq,?_,H7 _ _,yZ,.arr (by simp[aC.iz])⟩
  ·simp only[List.length_append,List.length_map,List.length_replicate,cD,db,d6];have:=Nat.mul_le_mul_right sz iq;omega
  ·rw[<-bH,List.take_append_of_le_length (by simp),List.take_of_length_le (by simp)]
 cases T with
 |empty hn ip db=>rename_i ad;subst hn;subst ip;subst db;have c8:=run_append_grow (P:=P) e.w t ty el gy i.zero ec nn hz ad 0 0 [] (by simp) (λ j v hj=>by simp at hj) ⟨yb,yo,none⟩ m md us qf qX (by omega) (by simp only[maxLen] at gt;omega) (growslice_fits (by omega) (by rw[uf];exact gF));exact uh [] (by simp) (by simp) (λ j v x hj=>by simp at hj) (by omega) c8
 |none hn ip db=>subst hn;subst ip;subst db;have c8:=run_append_nil (P:=P) e.w t ty el gy i.zero ec nn hz ⟨yb,yo,none⟩ m md us qf qX hm (by simp only[maxLen] at gt;omega) (by rw[uf];simp only[Nat.zero_add] at gF;omega);exact uh [] (by simp) (by simp) (λ j v x hj=>by simp at hj) (by omega) (by simpa using c8)
 |some J hh U hn db hr=>
  rename_i k vs qE
  by_cases qe:n+m<=c
  ·have c8:=T1 (P:=P) e.w t ty el qE gy ec nn k n c vs.toArray hh ⟨yb,yo,none⟩ m md us qf qX mo qe (by rw[ci,vM];simp only[List.size_toArray,U];have:=Nat.mul_le_mul_right sz qe;omega);obtain⟨A,F,O,h4⟩:=L.env.bx nm k J
   let eY:=vs.take (n*sz)++us++vs.drop ((n+m)*sz)
   have fj:=Nat.mul_le_mul_right sz qe;have oR:(vs.toArray.toList.take (n*gy.size)++us++vs.toArray.toList.drop (n*gy.size+us.length))=eY:=by simp only[ci,vM,eY,ny]
   rw[oR] at c8;have dC:∀x,(e.cut (cU nm) λ _=>true).bx x≠some k:=λ x T=>by
    have eA:(if cU nm x=true then e.bx x else none)=some k:=T;split at eA
    ·rename_i b9;exact L5 b9 (L.env.inj _ _ _ eA J)
    ·cases eA
   have vw:(e.cut (cU nm) λ _=>true).gr k=none:=by show(match e.gr k with|some g=>if true=true then some g else none|none=>none)=none;rw[h4]
   obtain⟨qW,I⟩:=vq.Uf eY F O vw dC;have cD:eY.length=c*sz:=by simp only[eY,List.length_append,List.length_take,List.length_drop,vM,U];omega
   have bH:(ps++qs).length=(n+m)*sz:=by rw[List.length_append,db,d6,ny]
   have px:∀(j:Nat) v x,eY[j]?=some v->(ps++qs)[j]?=some x->dm (e.cut (cU nm) λ _=>true) v x:=by
    intro j v x hv T;rcases Nat.lt_or_ge j (n*sz) with hj|hj
    ·rw[List.getElem?_append_left (by omega)] at T;simp only[eY,List.append_assoc] at hv;rw[List.getElem?_append_left (by simp only[List.length_take,U];omega),List.getElem?_take,if_pos hj] at hv;exact(hr j v x hv T).cut
    ·rw[List.getElem?_append_right (by omega),db] at T;have KM:=(List.getElem?_eq_some_iff.1 T).1;simp only[eY,List.append_assoc] at hv;rw[List.getElem?_append_right (by simp only[List.length_take,U];omega),List.length_take,U,Nat.min_eq_left (by omega),List.getElem?_append_left (by omega)] at hv;exact(vN _ v x hv T).cut
   have vk:=H5 (vs:=eY) (ps:=ps++qs) (by rw[bH,cD];exact fj) px;have iC:(e.cut (cU nm) λ _=>true).bx nm=none:=by show(if cU nm nm=true then e.bx nm else none)=none;simp[cU]
   have yL:=tE (e:={w:=(e.cut (cU nm) λ _=>true).w.setRow k eY.toArray,cl:=(e.cut (cU nm) λ _=>true).cl,bx:=(e.cut (cU nm) λ _=>true).bx,gr:=(e.cut (cU nm) λ _=>true).gr,gi:=(e.cut (cU nm) λ _=>true).gi}) (b:=nm) (k:=k) iC;have yZ:=qW.GD (b:=nm) (k:=k) (cs:=(ps++qs).map K.p++List.replicate (eY.length-(ps++qs).length) K.any) Er (by show k<(e.w.setRow k _).heap.size;rw[setRow_size];exact A) F O vw dC ⟨k,eY,qE,by simp[aC.iz],FX hh,(vk.next I).next yL⟩;refine⟨_,_,_,c,c8,?_,lc,qe,?_,H7 _ _,yZ,.arr (by simp[aC.iz])⟩
   ·simp only[List.length_append,List.length_map,List.length_replicate,cD,db,d6];omega
   ·rw[<-bH,List.take_append_of_le_length (by simp),List.take_of_length_le (by simp)]
  ·have c8:=run_append_grow (P:=P) e.w t ty el gy i.zero ec nn hz ⟨k,0,none⟩ n c (vs.take (n*sz)) (by rw[ci,List.length_take,U];have:=Nat.mul_le_mul_right sz hn;omega) (λ j v hj=>by
    rw[List.getElem?_take] at hj;split at hj
    ·rw[sC,cell_of_row e.w k (0+j) vs.toArray qE (0,0) hh];simpa using hj
    ·cases hj) ⟨yb,yo,none⟩ m md us qf qX (by omega) (by simp only[maxLen] at gt;omega) (growslice_fits (by omega) (by rw[uf];exact gF))
   exact uh (vs.take (n*sz)) (by rw[List.length_take,U];have:=Nat.mul_le_mul_right sz hn;omega) db (λ j v x hv T=>by
    rw[List.getElem?_take] at hv;split at hv
    ·exact hr j v x hv T
    ·cases hv) (by omega) c8
end
section
variable{P:Program}{ap:Nat->Option TI}{Γ:bN}{o:Oper}{l0 l:List Oper}{Q:Exit->St->Prop}
variable{s aa:List (Nat×K)}{b bf:List (Nat×List K)}{g:List (Nat×Gr)}{t:Nat}
theorem OA(hT:di P ap)(nm:Nat){ty:TypeId}{x y:Operand}{n m c el z1 z2 sz:Nat}{z3:Value}{ps qs:List Pl}{dy:K}{i:TI}(ho:o.op=.call {callee:=.builtin .append,args:=#[x,y],argTypes:=#[ty,ty]})(ht:ap ty=some ⟨.slice el,z1,z2,z3⟩)(ek:ap el=some i)(gX:Nat.beq i.zero.cells.size sz=true)(ci:Nat.beq i.sz sz=true)(h0:Nat.blt 0 sz=true)
 (hg:gd l0 o (kv s)=some true)(D:o.dst=some t)(U:Nat.blt t Γ.n=true)(dV:kv Γ.kb nm=none)(T:∀(a:Act)(e:aC),bu Γ ⟨s,b,g⟩ e a->C6 e nm n c sz ps (a.eval x))(lc:c<=maxLen)(hy:ev (kv s) y=some dy)(lZ:nK dy=some (m,qs))(hm:0<m)(d6:qs.length=m*sz)
 (gt:n+m<=maxLen)(gF:(n+m)*i.bytes<=140737488355328)(gG:lS (cU nm) s (λ aa=>me (Nat.beq nm) (cU nm) b (λ bf=>some (aa,bf)))=some (aa,bf))
 (h:∀aS cg,aS.length=cg*sz->cg<=maxLen->n+m<=cg->aS.take ((n+m)*sz)=(ps++qs).map K.p->fy aS->bq P Γ l0 Q l ⟨(t,.arr nm 0 (n+m) cg)::aa,(nm,aS)::bf,g⟩):bq P Γ l0 Q (o::l) ⟨s,b,g⟩:=by
 rw[u9,u7] at gG;cases gG;refine⟨λ a e L=>?_⟩;unfold wpList;rw[if_pos (mf L hg)];have jC:=L.iP o.op.operands;have fw:=x3 (jC.1 y (by rw[ho];simp[Op.operands,Call.operands]) _ hy) lZ;obtain⟨v,ab,aS,cg,c8,A,F,O,h4,bH,h5,h6⟩:=V9 hT L (ty:=o.type) ht ek (Nat.eq_of_beq_eq_true gX) (Nat.eq_of_beq_eq_true ci) (by rw[Nat.blt_eq] at h0;exact h0) dV (T a e L) lc fw hm d6 gt gF;refine .inl ?_;unfold Oper.wp;rw[TZ ho c8];have:=(h5.put (dst:=o.dst) (qD D U) h6);rw[D] at this;show wpList P l0.toArray (jM Γ Q) l (a.put o.dst v) ab.w;rw[D];exact(h aS cg A F O h4 bH).run _ ab this
theorem Ja(hT:di P ap){nm:Nat}{ty:TypeId}{x y:Operand}{n m c el z1 z2 sz:Nat}{z3:Value}{cs:List K}(ps:List Pl){qs:List Pl}{dy:K}{i:TI}(ho:o.op=.call {callee:=.builtin .append,args:=#[x,y],argTypes:=#[ty,ty]})(ht:ap ty=some ⟨.slice el,z1,z2,z3⟩)(ek:ap el=some i)(gX:Nat.beq i.zero.cells.size sz=true)(ci:Nat.beq i.sz sz=true)(h0:Nat.blt 0 sz=true)
 (hg:gd l0 o (kv s)=some true)(D:o.dst=some t)(U:Nat.blt t Γ.n=true)(T:ev (kv s) x=some (.arr nm 0 n c))(dV:kv Γ.kb nm=none)(Z:kv b nm=some cs)(hy:ev (kv s) y=some dy)(lZ:nK dy=some (m,qs))(gG:lS (cU nm) s (λ aa=>me (Nat.beq nm) (cU nm) b (λ bf=>some (aa,bf)))=some (aa,bf))
 (cR:cs.length=c*sz)(uq:n<=c)(db:ps.length=n*sz)(pz:cs.take (n*sz)=ps.map K.p)(lc:c<=maxLen)(hm:0<m)(d6:qs.length=m*sz)(gt:n+m<=maxLen)(gF:(n+m)*i.bytes<=140737488355328)
 (h:∀aS cg,aS.length=cg*sz->cg<=maxLen->n+m<=cg->aS.take ((n+m)*sz)=(ps++qs).map K.p->fy aS->bq P Γ l0 Q l ⟨(t,.arr nm 0 (n+m) cg)::aa,(nm,aS)::bf,g⟩):bq P Γ l0 Q (o::l) ⟨s,b,g⟩:=by
 refine OA hT nm ho ht ek gX ci h0 hg D U dV (λ a e L=>?_) lc hy lZ hm d6 gt gF gG h;have cj:=(L.iP o.op.operands).1 x (by rw[ho];simp[Op.operands,Call.operands]) _ T;obtain⟨k,vs,qE,A,F,O⟩:=L.boxes nm cs Z;generalize a.eval x=vx at cj;cases cj with
 |arr J=>rw[A] at J;cases J;exact .some A F (by rw[O.1,cR]) uq db (Mq O (by rw[db];exact pz))
theorem I9(hT:di P ap)(nm:Nat){ty:TypeId}{x y:Operand}{m el z1 z2 sz:Nat}{z3:Value}{qs:List Pl}{dy:K}{i:TI}(ho:o.op=.call {callee:=.builtin .append,args:=#[x,y],argTypes:=#[ty,ty]})(ht:ap ty=some ⟨.slice el,z1,z2,z3⟩)(ek:ap el=some i)(gX:Nat.beq i.zero.cells.size sz=true)(ci:Nat.beq i.sz sz=true)(h0:Nat.blt 0 sz=true)
 (hg:gd l0 o (kv s)=some true)(D:o.dst=some t)(U:Nat.blt t Γ.n=true)(T:ev (kv s) x=some (.p (.sl true 0 [])))(dV:kv Γ.kb nm=none)(hy:ev (kv s) y=some dy)(lZ:nK dy=some (m,qs))(gG:lS (cU nm) s (λ aa=>me (Nat.beq nm) (cU nm) b (λ bf=>some (aa,bf)))=some (aa,bf))
 (hm:0<m)(d6:qs.length=m*sz)(gt:m<=maxLen)(gF:m*i.bytes<=140737488355328)
 (h:∀aS cg,aS.length=cg*sz->cg<=maxLen->m<=cg->aS.take (m*sz)=qs.map K.p->fy aS->bq P Γ l0 Q l ⟨(t,.arr nm 0 m cg)::aa,(nm,aS)::bf,g⟩):bq P Γ l0 Q (o::l) ⟨s,b,g⟩:=by
 refine OA hT nm (n:=0) (c:=0) (ps:=[]) ho ht ek gX ci h0 hg D U dV (λ a e L=>?_) (Nat.zero_le _) hy lZ hm d6 (by omega) (by simpa using gF) gG (λ aS cg A F O h4 bH=>?_)
 ·have cj:=(L.iP o.op.operands).1 x (by rw[ho];simp[Op.operands,Call.operands]) _ T;generalize a.eval x=vx at cj;cases cj with
  |p A=>
   obtain⟨am,bS,rfl,_,_,_,h5,_⟩:=rf A;have:=h5 rfl;subst this;cases am with
   |none=>exact .none rfl rfl rfl
   |some ad=>exact .empty rfl rfl rfl
 ·simp only[Nat.zero_add,List.nil_append] at O h4⊢;exact h aS cg A F O h4 bH
end
end Go.Proofs.YtcnefjfboagbmaaGreat
end
section
namespace Go.Proofs.YtcnefjfboagbmaaGreat
open Go.Proofs.Tryz
open Go.RowKit
section
variable{P:Program}{ap:Nat->Option TI}{Γ:bN}
variable{s aa:List (Nat×K)}{b bf:List (Nat×List K)}{g:List (Nat×Gr)}
end
end Go.Proofs.YtcnefjfboagbmaaGreat
end
section
namespace Go.Proofs.YtcnefjfboagbmaaGreat
open Go.Proofs.Tryz
open Go.ChangeShapes Go.WideShapes Go.ChangeAt Go.RowKit Go.Deep
abbrev rG(w:World):aC:=hb w (λ _=>none)
theorem WX(w:World)(b o:Nat):(rG w).nW b o:=λ k J=>by cases J
def jL(e:aC)(vs:List Value)(ps:List Pl):Prop:=vs.length=ps.length/\∀(i:Nat) v x,vs[i]?=some v->ps[i]?=some x->dm e v x/\mr v=true
theorem jL.nil(e:aC):jL e [] []:=⟨rfl,λ i v x h=>by simp at h⟩
theorem jL.cons{e:aC}{v:Value}{x:Pl}{vs:List Value}{ps:List Pl}(h:dm e v x)(U:mr v=true)(hs:jL e vs ps):jL e (v::vs) (x::ps):=by
 refine⟨by simp[hs.1],λ i u y A F=>?_⟩;cases i with
 |zero=>simp at A F;subst A;subst F;exact⟨h,U⟩
 |succ i=>exact hs.2 i u y (by simpa using A) (by simpa using F)
theorem jL.int{e:aC}{k:IntKind}{n:Int}{vs:List Value}{ps:List Pl}(hs:jL e vs ps):jL e (.int k n::vs) (.raw (.int k n)::ps):=.cons (.raw _) rfl hs
theorem jL.bool{e:aC}{b:Bool}{vs:List Value}{ps:List Pl}(hs:jL e vs ps):jL e (.bool b::vs) (.raw (.bool b)::ps):=.cons (.raw _) rfl hs
theorem jL.append{e:aC}{vs us:List Value}{ps qs:List Pl}(h:jL e vs ps)(bQ:jL e us qs):jL e (vs++us) (ps++qs):=by
 refine⟨by simp[h.1,bQ.1],λ i v d A F=>?_⟩;rcases Nat.lt_or_ge i vs.length with hi|hi
 ·rw[List.getElem?_append_left hi] at A;rw[List.getElem?_append_left (by rw[<-h.1];exact hi)] at F;exact h.2 i v d A F
 ·rw[List.getElem?_append_right hi] at A;rw[List.getElem?_append_right (by rw[<-h.1];exact hi),<-h.1] at F;exact bQ.2 _ v d A F
section
variable{H:Type}{enc:TypeId×Value->H}{P:Program}{w:World}{base:Nat}{mW:Nat->Bool}{aw:Bool}
theorem ad3{t e:TypeId}{len bS:Nat}(ht:P.underlying t=some (.slice e))(h:Read enc P w base mW aw t [.slice none len bS]):bS=0:=by
 obtain⟨m,y,h⟩:=h;rcases open_slice ht h with⟨e,_⟩|⟨a,len,bS,B7,n,ay,Pl,e,Z,U,hm,Q4,T,hi⟩
 ·simp at e;omega
 ·simp at e
theorem ad5{av:Type}{t e:TypeId}{sz:Nat}(f:av->List Pl)(ok:av->Prop)(ci:0<sz)(hf:∀x,(f x).length=sz)(ht:P.underlying t=some (.slice e))(L:P.cellsOf e=sz)
 (Et:∀cs,cs.length=sz->Read enc P w base mW aw e cs->∃x,ok x/\jL (rG w) cs (f x)){v:Value}(h:Read enc P w base mW aw t [v]):
 ∃l:List av,(∀x∈l,ok x)/\l.length<=maxLen/\dm (rG w) v (.sl false l.length (l.flatMap f))/\mr v=true:=by
 have h0:=h;obtain⟨am,l0,bS,e1,U,hm,aT,xh⟩:=ad4 (e:=e) (sz:=sz) (av:={p:List Value×av//p.1.length=sz/\ok p.2/\jL (rG w) p.1 (f p.2)}) (λ p=>p.1.1) (λ _=>True) ci (λ p=>p.2.1) ht L (λ cs cD hr=>by
  obtain⟨x,A,F⟩:=Et cs cD hr;exact⟨⟨(cs,x),cD,A,F⟩,rfl,trivial⟩) h
 injection e1 with e1 _
 subst e1;have nl:∀(l:List {p:List Value×av//p.1.length=sz/\ok p.2/\jL (rG w) p.1 (f p.2)})(j:Nat)(q:Pl),((l.map λ p=>p.1.2).flatMap f)[j]?=some q->∃p,l[j/sz]?=some p/\(f p.1.2)[j%sz]?=some q:=by
  intro l;induction l with
  |nil=>intro j q h;simp at h
  |cons p l ih=>
   intro j q h;rw[List.map_cons,List.flatMap_cons] at h;rcases Nat.lt_or_ge j sz with hj|hj
   ·rw[List.getElem?_append_left (by rw[hf];exact hj)] at h;exact⟨p,by rw[Nat.div_eq_of_lt hj];rfl,by rw[Nat.mod_eq_of_lt hj];exact h⟩
   ·rw[List.getElem?_append_right (by rw[hf];exact hj),hf] at h;obtain⟨Ck,A,F⟩:=ih _ q h;refine⟨Ck,?_,by rw[Nat.mod_eq_sub_mod hj];exact F⟩;rw[Nat.div_eq_sub_div ci hj]
    simpa using A
 refine⟨l0.map λ p=>p.1.2,λ x T=>?_,by simp;omega,?_,rfl⟩
 ·obtain⟨p,_,rfl⟩:=List.mem_map.1 T;exact p.2.2.1
 ·rw[List.length_map];refine CH U hm (λ ab=>?_) (λ ab=>by cases ab) ?_
  ·subst ab;exact ad3 ht h0
  ·rcases vB:l0 with _|⟨p,l1⟩
   ·exact .inl (by simp)
   ·right;rw[<-vB];obtain⟨b,o,hA,_,_⟩:=xh 0 p (by rw[vB];rfl);have dF:∀(j:Nat) q,((l0.map λ p=>p.1.2).flatMap f)[j]?=some q->∃u,w.cell? ⟨b,o+j,none⟩=some u/\mr u=true/\dm (rG w) u q:=by
     intro j q hq;obtain⟨Ck,A,F⟩:=nl l0 j q hq;obtain⟨bf,o',DC,_,dR⟩:=xh _ Ck A;rw[hA] at DC;cases DC;have rS:j%sz<Ck.1.1.length:=by rw[Ck.2.1];exact Nat.mod_lt _ ci
     have hu:=dR (j%sz) _ (List.getElem?_eq_getElem rS);obtain⟨h5,h6⟩:=Ck.2.2.2.2 (j%sz) _ q (List.getElem?_eq_getElem rS) F;have hj:j/sz*sz+j%sz=j:=by rw[Nat.mul_comm];exact Nat.div_add_mod j sz
     rw[hj] at hu;exact⟨_,hu,h6,h5⟩
    refine⟨b,o,hA,λ j=>(w.cell? ⟨b,o+j,none⟩).getD undef,λ j q hq=>?_⟩;obtain⟨u,A,F,O⟩:=dF j q hq;have hg:(w.cell? ⟨b,o+j,none⟩).getD undef=u:=by rw[A];rfl
    show _/\_=some ((w.cell? ⟨b,o+j,none⟩).getD undef)/\mr ((w.cell? ⟨b,o+j,none⟩).getD undef)=true/\dm _ ((w.cell? ⟨b,o+j,none⟩).getD undef) q;rw[hg];exact⟨WX _ _ _,A,F,O⟩
theorem Wd{av:Type}{t:TypeId}{fs:Array Field}{v:Value}{r:Reach}{b0:Nat}(f:av->List Pl)(ok:av->Prop)(hu:P.underlying t=some (.struct fs))(hv:Value.okWide P w r b0 t v)(h:Read enc P w base mW aw t v.cells.toList)
 (Et:∀cs,cs.length=P.cellsOf t->Read enc P w base mW aw t cs->∃x,ok x/\jL (rG w) cs (f x)):∃x,ok x/\bz (rG w) v (.agg ((f x).map .p)):=by
 obtain⟨cs,rfl,cR⟩:=okWide_struct hu hv;obtain⟨x,A,F⟩:=Et cs.toList (by simpa using cR) h;refine⟨x,A,?_⟩;have:bz (rG w) (.agg cs.toList.toArray) (.agg ((f x).map .p)):=.agg (by simp[F.1]) (λ i u d hu D=>by
  rw[List.getElem?_map] at D;rcases hp:(f x)[i]? with _|q
  ·rw[hp] at D;cases D
  ·rw[hp] at D;cases D;exact .p (F.2 i u q hu hp).1)
 simpa using this
theorem run_law{P:Program}{f:FuncId}{ds:List K}(L:bc P f ds (dB true)){w:World}{vs:List Value}(h:DReps (rG w) vs ds):Calls P f vs.toArray w λ e aM=>e=.returned (.bool true)/\Below w.heap.size w aM:=by
 refine(L w _ vs h).mono λ e aM hh=>?_
 obtain⟨v,bv,rfl,Z,_,hr⟩:=hh;exact⟨by rw[dh hr],Z⟩
end
end Go.Proofs.YtcnefjfboagbmaaGreat
end
namespace Go.Proofs.YtcnefjfboagbmaaGreat
open Go.Proofs.Tryz
open Go.RowKit
def UI:List (Nat×TI):=[
 (0,⟨.other,1,0,(Value.tuple #[])⟩),
 (1,⟨.other,1,8,Value.nilFunc⟩),
 (2,⟨(.int .i64),1,8,(Value.int IntKind.i64 0)⟩),
 (3,⟨(.int .i64),1,8,(Value.int IntKind.i64 0)⟩),
 (4,⟨.bool,1,1,(Value.bool false)⟩),
 (5,⟨(.int .u8),1,1,(Value.int IntKind.u8 0)⟩),
 (6,⟨(.int .u8),1,1,(Value.int IntKind.u8 0)⟩),
 (7,⟨(.struct [(2,0,1),(3,1,1),(4,2,1),(6,3,1)]),4,24,(Value.agg #[Value.int IntKind.i64 0,Value.int IntKind.i64 0,Value.bool false,Value.int IntKind.u8 0])⟩),
 (8,⟨(.struct [(2,0,1),(3,1,1),(4,2,1),(6,3,1)]),4,24,(Value.agg #[Value.int IntKind.i64 0,Value.int IntKind.i64 0,Value.bool false,Value.int IntKind.u8 0])⟩),
 (9,⟨.str,1,16,(Value.string {data:=#[]})⟩),
 (10,⟨.str,1,16,(Value.string {data:=#[]})⟩),
 (11,⟨.str,1,16,(Value.string {data:=#[]})⟩),
 (12,⟨(.int .u64),1,8,(Value.int IntKind.u64 0)⟩),
 (13,⟨(.struct [(9,0,1),(12,1,1)]),2,24,(Value.agg #[Value.string {data:=#[]},Value.int IntKind.u64 0])⟩),
 (14,⟨(.struct [(9,0,1),(12,1,1)]),2,24,(Value.agg #[Value.string {data:=#[]},Value.int IntKind.u64 0])⟩),
 (15,⟨.other,1,8,(Value.pointer none)⟩),
 (16,⟨.other,1,8,(Value.pointer none)⟩),
 (17,⟨.other,1,8,(Value.pointer none)⟩),
 (18,⟨(.struct [(17,0,1)]),1,8,(Value.agg #[Value.pointer none])⟩),
 (19,⟨(.struct [(17,0,1)]),1,8,(Value.agg #[Value.pointer none])⟩),
 (20,⟨.other,1,16,Value.nilIface⟩),
 (21,⟨(.int .i32),1,4,(Value.int IntKind.i32 0)⟩),
 (22,⟨(.struct [(3,0,1),(3,1,1),(3,2,1),(3,3,1),(3,4,1),(3,5,1),(3,6,1),(3,7,1),(3,8,1)]),9,72,(Value.agg #[Value.int IntKind.i64 0,Value.int IntKind.i64 0,Value.int IntKind.i64 0,Value.int IntKind.i64 0,Value.int IntKind.i64 0,Value.int IntKind.i64 0,Value.int IntKind.i64 0,Value.int IntKind.i64 0,Value.int IntKind.i64 0])⟩),
 (23,⟨(.struct [(3,0,1),(3,1,1),(3,2,1),(3,3,1),(3,4,1),(3,5,1),(3,6,1),(3,7,1),(3,8,1)]),9,72,(Value.agg #[Value.int IntKind.i64 0,Value.int IntKind.i64 0,Value.int IntKind.i64 0,Value.int IntKind.i64 0,Value.int IntKind.i64 0,Value.int IntKind.i64 0,Value.int IntKind.i64 0,Value.int IntKind.i64 0,Value.int IntKind.i64 0])⟩),
 (24,⟨(.struct [(23,0,9),(3,9,1),(3,10,1),(3,11,1),(3,12,1),(3,13,1),(3,14,1),(3,15,1),(3,16,1),(3,17,1),(3,18,1),(3,19,1),(3,20,1),(3,21,1),(3,22,1),(3,23,1),(3,24,1)]),25,200,(Value.agg #[Value.int IntKind.i64 0,Value.int IntKind.i64 0,Value.int IntKind.i64 0,Value.int IntKind.i64 0,Value.int IntKind.i64 0,Value.int IntKind.i64 0,Value.int IntKind.i64 0,Value.int IntKind.i64 0,Value.int IntKind.i64 0,Value.int IntKind.i64 0,Value.int IntKind.i64 0,Value.int IntKind.i64 0,Value.int IntKind.i64 0,Value.int IntKind.i64 0,Value.int IntKind.i64 0,Value.int IntKind.i64 0,Value.int IntKind.i64 0,Value.int IntKind.i64 0,Value.int IntKind.i64 0,Value.int IntKind.i64 0,Value.int IntKind.i64 0,Value.int IntKind.i64 0,Value.int IntKind.i64 0,Value.int IntKind.i64 0,Value.int IntKind.i64 0])⟩),
 (25,⟨(.struct [(23,0,9),(3,9,1),(3,10,1),(3,11,1),(3,12,1),(3,13,1),(3,14,1),(3,15,1),(3,16,1),(3,17,1),(3,18,1),(3,19,1),(3,20,1),(3,21,1),(3,22,1),(3,23,1),(3,24,1)]),25,200,(Value.agg #[Value.int IntKind.i64 0,Value.int IntKind.i64 0,Value.int IntKind.i64 0,Value.int IntKind.i64 0,Value.int IntKind.i64 0,Value.int IntKind.i64 0,Value.int IntKind.i64 0,Value.int IntKind.i64 0,Value.int IntKind.i64 0,Value.int IntKind.i64 0,Value.int IntKind.i64 0,Value.int IntKind.i64 0,Value.int IntKind.i64 0,Value.int IntKind.i64 0,Value.int IntKind.i64 0,Value.int IntKind.i64 0,Value.int IntKind.i64 0,Value.int IntKind.i64 0,Value.int IntKind.i64 0,Value.int IntKind.i64 0,Value.int IntKind.i64 0,Value.int IntKind.i64 0,Value.int IntKind.i64 0,Value.int IntKind.i64 0,Value.int IntKind.i64 0])⟩),
 (26,⟨(.slice 3),1,24,(Value.slice none 0 0)⟩),
 (27,⟨(.struct [(26,0,1)]),1,24,(Value.agg #[Value.slice none 0 0])⟩),
 (28,⟨(.struct [(26,0,1)]),1,24,(Value.agg #[Value.slice none 0 0])⟩),
 (29,⟨(.struct [(25,0,25),(28,25,1),(3,26,1),(3,27,1)]),28,240,(Value.agg #[Value.int IntKind.i64 0,Value.int IntKind.i64 0,Value.int IntKind.i64 0,Value.int IntKind.i64 0,Value.int IntKind.i64 0,Value.int IntKind.i64 0,Value.int IntKind.i64 0,Value.int IntKind.i64 0,Value.int IntKind.i64 0,Value.int IntKind.i64 0,Value.int IntKind.i64 0,Value.int IntKind.i64 0,Value.int IntKind.i64 0,Value.int IntKind.i64 0,Value.int IntKind.i64 0,Value.int IntKind.i64 0,Value.int IntKind.i64 0,Value.int IntKind.i64 0,Value.int IntKind.i64 0,Value.int IntKind.i64 0,Value.int IntKind.i64 0,Value.int IntKind.i64 0,Value.int IntKind.i64 0,Value.int IntKind.i64 0,Value.int IntKind.i64 0,Value.slice none 0 0,Value.int IntKind.i64 0,Value.int IntKind.i64 0])⟩),
 (30,⟨(.struct [(25,0,25),(28,25,1),(3,26,1),(3,27,1)]),28,240,(Value.agg #[Value.int IntKind.i64 0,Value.int IntKind.i64 0,Value.int IntKind.i64 0,Value.int IntKind.i64 0,Value.int IntKind.i64 0,Value.int IntKind.i64 0,Value.int IntKind.i64 0,Value.int IntKind.i64 0,Value.int IntKind.i64 0,Value.int IntKind.i64 0,Value.int IntKind.i64 0,Value.int IntKind.i64 0,Value.int IntKind.i64 0,Value.int IntKind.i64 0,Value.int IntKind.i64 0,Value.int IntKind.i64 0,Value.int IntKind.i64 0,Value.int IntKind.i64 0,Value.int IntKind.i64 0,Value.int IntKind.i64 0,Value.int IntKind.i64 0,Value.int IntKind.i64 0,Value.int IntKind.i64 0,Value.int IntKind.i64 0,Value.int IntKind.i64 0,Value.slice none 0 0,Value.int IntKind.i64 0,Value.int IntKind.i64 0])⟩),
 (31,⟨.other,1,8,Value.nilFunc⟩),
 (32,⟨.other,1,8,Value.nilFunc⟩),
 (33,⟨.other,1,8,Value.nilFunc⟩),
 (34,⟨(.slice 82),1,24,(Value.slice none 0 0)⟩),
 (35,⟨.other,1,8,Value.nilFunc⟩),
 (36,⟨.other,1,8,Value.nilFunc⟩),
 (37,⟨(.struct [(3,0,1),(26,1,1),(26,2,1)]),3,56,(Value.agg #[Value.int IntKind.i64 0,Value.slice none 0 0,Value.slice none 0 0])⟩),
 (38,⟨(.struct [(3,0,1),(26,1,1),(26,2,1)]),3,56,(Value.agg #[Value.int IntKind.i64 0,Value.slice none 0 0,Value.slice none 0 0])⟩),
 (39,⟨.other,1,8,Value.nilFunc⟩),
 (40,⟨.other,1,8,Value.nilFunc⟩),
 (41,⟨.other,1,8,Value.nilFunc⟩),
 (42,⟨.other,1,8,Value.nilFunc⟩),
 (43,⟨(.slice 63),1,24,(Value.slice none 0 0)⟩),
 (44,⟨(.slice 43),1,24,(Value.slice none 0 0)⟩),
 (45,⟨(.slice 5),1,24,(Value.slice none 0 0)⟩),
 (46,⟨(.struct [(44,0,1),(45,1,1)]),2,48,(Value.agg #[Value.slice none 0 0,Value.slice none 0 0])⟩),
 (47,⟨(.struct [(44,0,1),(45,1,1)]),2,48,(Value.agg #[Value.slice none 0 0,Value.slice none 0 0])⟩),
 (48,⟨.other,1,8,Value.nilFunc⟩),
 (49,⟨.other,1,8,Value.nilFunc⟩),
 (50,⟨.other,1,8,(Value.pointer none)⟩),
 (51,⟨.other,1,8,Value.nilFunc⟩),
 (52,⟨.other,1,8,Value.nilFunc⟩),
 (53,⟨(.slice 65),1,24,(Value.slice none 0 0)⟩),
 (54,⟨.other,1,8,Value.nilFunc⟩),
 (55,⟨(.slice 75),1,24,(Value.slice none 0 0)⟩),
 (56,⟨(.slice 26),1,24,(Value.slice none 0 0)⟩),
 (57,⟨(.slice 83),1,24,(Value.slice none 0 0)⟩),
 (58,⟨(.struct [(28,0,1),(3,1,1),(43,2,1),(55,3,1),(56,4,1),(26,5,1),(57,6,1),(53,7,1),(3,8,1),(4,9,1),(4,10,1)]),11,192,(Value.agg #[Value.slice none 0 0,Value.int IntKind.i64 0,Value.slice none 0 0,Value.slice none 0 0,Value.slice none 0 0,Value.slice none 0 0,Value.slice none 0 0,Value.slice none 0 0,Value.int IntKind.i64 0,Value.bool false,Value.bool false])⟩),
 (59,⟨(.struct [(28,0,1),(3,1,1),(43,2,1),(55,3,1),(56,4,1),(26,5,1),(57,6,1),(53,7,1),(3,8,1),(4,9,1),(4,10,1)]),11,192,(Value.agg #[Value.slice none 0 0,Value.int IntKind.i64 0,Value.slice none 0 0,Value.slice none 0 0,Value.slice none 0 0,Value.slice none 0 0,Value.slice none 0 0,Value.slice none 0 0,Value.int IntKind.i64 0,Value.bool false,Value.bool false])⟩),
 (60,⟨.other,1,0,(Value.tuple #[Value.agg #[Value.int IntKind.i64 0,Value.slice none 0 0,Value.slice none 0 0],Value.int IntKind.i64 0,Value.bool false])⟩),
 (61,⟨.other,1,8,Value.nilFunc⟩),
 (62,⟨(.struct [(3,0,1),(3,1,1),(3,2,1),(3,3,1)]),4,32,(Value.agg #[Value.int IntKind.i64 0,Value.int IntKind.i64 0,Value.int IntKind.i64 0,Value.int IntKind.i64 0])⟩),
 (63,⟨(.struct [(3,0,1),(3,1,1),(3,2,1),(3,3,1)]),4,32,(Value.agg #[Value.int IntKind.i64 0,Value.int IntKind.i64 0,Value.int IntKind.i64 0,Value.int IntKind.i64 0])⟩),
 (64,⟨(.struct [(3,0,1),(63,1,4),(3,5,1),(4,6,1),(3,7,1),(3,8,1),(3,9,1)]),10,80,(Value.agg #[Value.int IntKind.i64 0,Value.int IntKind.i64 0,Value.int IntKind.i64 0,Value.int IntKind.i64 0,Value.int IntKind.i64 0,Value.int IntKind.i64 0,Value.bool false,Value.int IntKind.i64 0,Value.int IntKind.i64 0,Value.int IntKind.i64 0])⟩),
 (65,⟨(.struct [(3,0,1),(63,1,4),(3,5,1),(4,6,1),(3,7,1),(3,8,1),(3,9,1)]),10,80,(Value.agg #[Value.int IntKind.i64 0,Value.int IntKind.i64 0,Value.int IntKind.i64 0,Value.int IntKind.i64 0,Value.int IntKind.i64 0,Value.int IntKind.i64 0,Value.bool false,Value.int IntKind.i64 0,Value.int IntKind.i64 0,Value.int IntKind.i64 0])⟩),
 (66,⟨.other,1,8,Value.nilFunc⟩),
 (67,⟨.other,1,8,Value.nilFunc⟩),
 (68,⟨.other,1,8,Value.nilFunc⟩),
 (69,⟨(.struct [(5,0,1),(5,1,1),(5,2,1),(45,3,1)]),4,32,(Value.agg #[Value.int IntKind.u8 0,Value.int IntKind.u8 0,Value.int IntKind.u8 0,Value.slice none 0 0])⟩),
 (70,⟨(.struct [(5,0,1),(5,1,1),(5,2,1),(45,3,1)]),4,32,(Value.agg #[Value.int IntKind.u8 0,Value.int IntKind.u8 0,Value.int IntKind.u8 0,Value.slice none 0 0])⟩),
 (71,⟨.other,1,8,Value.nilFunc⟩),
 (72,⟨(.int .i64),1,8,(Value.int IntKind.i64 0)⟩),
 (73,⟨.other,1,0,(Value.tuple #[Value.agg #[Value.int IntKind.i64 0,Value.int IntKind.i64 0,Value.int IntKind.i64 0,Value.int IntKind.i64 0,Value.int IntKind.i64 0,Value.int IntKind.i64 0,Value.int IntKind.i64 0,Value.int IntKind.i64 0,Value.int IntKind.i64 0,Value.int IntKind.i64 0,Value.int IntKind.i64 0,Value.int IntKind.i64 0,Value.int IntKind.i64 0,Value.int IntKind.i64 0,Value.int IntKind.i64 0,Value.int IntKind.i64 0,Value.int IntKind.i64 0,Value.int IntKind.i64 0,Value.int IntKind.i64 0,Value.int IntKind.i64 0,Value.int IntKind.i64 0,Value.int IntKind.i64 0,Value.int IntKind.i64 0,Value.int IntKind.i64 0,Value.int IntKind.i64 0],Value.int IntKind.i64 0])⟩),
 (74,⟨.other,1,8,Value.nilFunc⟩),
 (75,⟨(.slice 108),1,24,(Value.slice none 0 0)⟩),
 (76,⟨.other,1,0,(Value.tuple #[Value.agg #[Value.slice none 0 0],Value.slice none 0 0,Value.int IntKind.i64 0])⟩),
 (77,⟨.other,1,8,Value.nilFunc⟩),
 (78,⟨.other,1,8,Value.nilFunc⟩),
 (79,⟨.other,1,8,Value.nilFunc⟩),
 (80,⟨.other,1,8,Value.nilFunc⟩),
 (81,⟨(.struct [(3,0,1),(3,1,1),(3,2,1),(3,3,1)]),4,32,(Value.agg #[Value.int IntKind.i64 0,Value.int IntKind.i64 0,Value.int IntKind.i64 0,Value.int IntKind.i64 0])⟩),
 (82,⟨(.struct [(3,0,1),(3,1,1),(3,2,1),(3,3,1)]),4,32,(Value.agg #[Value.int IntKind.i64 0,Value.int IntKind.i64 0,Value.int IntKind.i64 0,Value.int IntKind.i64 0])⟩),
 (83,⟨(.slice 110),1,24,(Value.slice none 0 0)⟩),
 (84,⟨(.struct [(3,0,1),(4,1,1),(72,2,1),(3,3,1),(83,4,1)]),5,56,(Value.agg #[Value.int IntKind.i64 0,Value.bool false,Value.int IntKind.i64 0,Value.int IntKind.i64 0,Value.slice none 0 0])⟩),
 (85,⟨(.struct [(3,0,1),(4,1,1),(72,2,1),(3,3,1),(83,4,1)]),5,56,(Value.agg #[Value.int IntKind.i64 0,Value.bool false,Value.int IntKind.i64 0,Value.int IntKind.i64 0,Value.slice none 0 0])⟩),
 (86,⟨.other,1,0,(Value.tuple #[Value.agg #[Value.int IntKind.i64 0,Value.int IntKind.i64 0,Value.int IntKind.i64 0,Value.int IntKind.i64 0],Value.agg #[Value.int IntKind.i64 0,Value.bool false,Value.int IntKind.i64 0,Value.int IntKind.i64 0,Value.slice none 0 0],Value.bool false])⟩),
 (87,⟨.other,1,8,Value.nilFunc⟩),
 (88,⟨.other,1,8,Value.nilFunc⟩),
 (89,⟨.other,1,8,Value.nilFunc⟩),
 (90,⟨.other,1,8,Value.nilFunc⟩),
 (91,⟨.other,1,8,Value.nilFunc⟩),
 (92,⟨.other,1,8,Value.nilFunc⟩),
 (93,⟨(.struct [(3,0,1),(4,1,1),(3,2,1)]),3,24,(Value.agg #[Value.int IntKind.i64 0,Value.bool false,Value.int IntKind.i64 0])⟩),
 (94,⟨(.struct [(3,0,1),(4,1,1),(3,2,1)]),3,24,(Value.agg #[Value.int IntKind.i64 0,Value.bool false,Value.int IntKind.i64 0])⟩),
 (95,⟨.other,1,8,Value.nilFunc⟩),
 (96,⟨.other,1,8,Value.nilFunc⟩),
 (97,⟨.other,1,8,Value.nilFunc⟩),
 (98,⟨.other,1,8,Value.nilFunc⟩),
 (99,⟨.other,1,8,Value.nilFunc⟩),
 (100,⟨.other,1,8,Value.nilFunc⟩),
 (101,⟨.other,1,8,Value.nilFunc⟩),
 (102,⟨.other,1,8,Value.nilFunc⟩),
 (103,⟨.other,1,8,Value.nilFunc⟩),
 (104,⟨.other,1,8,Value.nilFunc⟩),
 (105,⟨.other,1,8,Value.nilFunc⟩),
 (106,⟨.other,1,8,Value.nilFunc⟩),
 (107,⟨(.struct [(3,0,1),(4,1,1)]),2,16,(Value.agg #[Value.int IntKind.i64 0,Value.bool false])⟩),
 (108,⟨(.struct [(3,0,1),(4,1,1)]),2,16,(Value.agg #[Value.int IntKind.i64 0,Value.bool false])⟩),
 (109,⟨.other,1,8,Value.nilFunc⟩),
 (110,⟨(.array 2 3),2,16,(Value.agg #[Value.int IntKind.i64 0,Value.int IntKind.i64 0])⟩),
 (111,⟨(.struct [(3,0,1),(3,1,1),(87,2,1)]),3,24,(Value.agg #[Value.int IntKind.i64 0,Value.int IntKind.i64 0,Value.nilFunc])⟩),
 (112,⟨(.struct [(3,0,1),(3,1,1),(87,2,1)]),3,24,(Value.agg #[Value.int IntKind.i64 0,Value.int IntKind.i64 0,Value.nilFunc])⟩),
 (113,⟨(.array 3 112),9,72,(Value.agg #[Value.int IntKind.i64 0,Value.int IntKind.i64 0,Value.nilFunc,Value.int IntKind.i64 0,Value.int IntKind.i64 0,Value.nilFunc,Value.int IntKind.i64 0,Value.int IntKind.i64 0,Value.nilFunc])⟩),
 (114,⟨.other,1,8,Value.nilFunc⟩),
 (115,⟨.other,1,8,Value.nilFunc⟩),
 (116,⟨.other,1,8,Value.nilFunc⟩),
 (117,⟨.other,1,8,Value.nilFunc⟩),
 (118,⟨.other,1,8,Value.nilFunc⟩),
 (119,⟨.other,1,8,Value.nilFunc⟩),
 (120,⟨.other,1,8,Value.nilFunc⟩),
 (121,⟨.other,1,8,Value.nilFunc⟩),
 (122,⟨.other,1,8,Value.nilFunc⟩),
 (123,⟨.other,1,8,Value.nilFunc⟩),
 (124,⟨(.int .u64),1,8,(Value.int IntKind.u64 0)⟩),
 (125,⟨.other,1,8,(Value.map none)⟩),
 (126,⟨.other,1,8,Value.nilFunc⟩),
 (127,⟨.other,1,8,Value.nilFunc⟩),
 (128,⟨.other,1,8,Value.nilFunc⟩),
 (129,⟨.other,1,8,Value.nilFunc⟩),
 (130,⟨.other,1,0,(Value.tuple #[Value.agg #[Value.slice none 0 0],Value.agg #[Value.int IntKind.i64 0,Value.bool false],Value.int IntKind.i64 0])⟩),
 (131,⟨.other,1,8,Value.nilFunc⟩),
 (132,⟨.other,1,8,Value.nilFunc⟩),
 (133,⟨.other,1,8,Value.nilFunc⟩),
 (134,⟨(.struct [(3,0,1),(3,1,1)]),2,16,(Value.agg #[Value.int IntKind.i64 0,Value.int IntKind.i64 0])⟩),
 (135,⟨(.struct [(3,0,1),(3,1,1)]),2,16,(Value.agg #[Value.int IntKind.i64 0,Value.int IntKind.i64 0])⟩),
 (136,⟨.other,1,8,Value.nilFunc⟩),
 (137,⟨.other,1,8,Value.nilFunc⟩),
 (138,⟨.other,1,8,(Value.pointer none)⟩),
 (139,⟨(.struct [(25,0,25),(3,25,1),(83,26,1),(3,27,1),(75,28,1),(3,29,1)]),30,272,(Value.agg #[Value.int IntKind.i64 0,Value.int IntKind.i64 0,Value.int IntKind.i64 0,Value.int IntKind.i64 0,Value.int IntKind.i64 0,Value.int IntKind.i64 0,Value.int IntKind.i64 0,Value.int IntKind.i64 0,Value.int IntKind.i64 0,Value.int IntKind.i64 0,Value.int IntKind.i64 0,Value.int IntKind.i64 0,Value.int IntKind.i64 0,Value.int IntKind.i64 0,Value.int IntKind.i64 0,Value.int IntKind.i64 0,Value.int IntKind.i64 0,Value.int IntKind.i64 0,Value.int IntKind.i64 0,Value.int IntKind.i64 0,Value.int IntKind.i64 0,Value.int IntKind.i64 0,Value.int IntKind.i64 0,Value.int IntKind.i64 0,Value.int IntKind.i64 0,Value.int IntKind.i64 0,Value.slice none 0 0,Value.int IntKind.i64 0,Value.slice none 0 0,Value.int IntKind.i64 0])⟩),
 (140,⟨(.struct [(25,0,25),(3,25,1),(83,26,1),(3,27,1),(75,28,1),(3,29,1)]),30,272,(Value.agg #[Value.int IntKind.i64 0,Value.int IntKind.i64 0,Value.int IntKind.i64 0,Value.int IntKind.i64 0,Value.int IntKind.i64 0,Value.int IntKind.i64 0,Value.int IntKind.i64 0,Value.int IntKind.i64 0,Value.int IntKind.i64 0,Value.int IntKind.i64 0,Value.int IntKind.i64 0,Value.int IntKind.i64 0,Value.int IntKind.i64 0,Value.int IntKind.i64 0,Value.int IntKind.i64 0,Value.int IntKind.i64 0,Value.int IntKind.i64 0,Value.int IntKind.i64 0,Value.int IntKind.i64 0,Value.int IntKind.i64 0,Value.int IntKind.i64 0,Value.int IntKind.i64 0,Value.int IntKind.i64 0,Value.int IntKind.i64 0,Value.int IntKind.i64 0,Value.int IntKind.i64 0,Value.slice none 0 0,Value.int IntKind.i64 0,Value.slice none 0 0,Value.int IntKind.i64 0])⟩),
 (141,⟨.other,1,8,Value.nilFunc⟩),
 (142,⟨.other,1,0,(Value.tuple #[Value.nilFunc,Value.bool false])⟩),
 (143,⟨.other,1,8,(Value.map none)⟩),
 (144,⟨.other,1,8,Value.nilFunc⟩),
 (145,⟨.other,1,8,Value.nilFunc⟩),
 (146,⟨.other,1,8,Value.nilFunc⟩),
 (147,⟨.other,1,8,Value.nilFunc⟩),
 (148,⟨.other,1,0,(Value.tuple #[Value.int IntKind.i64 0,Value.agg #[Value.int IntKind.i64 0,Value.bool false,Value.int IntKind.i64 0,Value.int IntKind.i64 0,Value.slice none 0 0]])⟩),
 (149,⟨.other,1,8,Value.nilFunc⟩),
 (150,⟨.other,1,0,(Value.tuple #[Value.agg #[Value.int IntKind.i64 0,Value.bool false,Value.int IntKind.i64 0,Value.int IntKind.i64 0,Value.slice none 0 0],Value.agg #[Value.int IntKind.i64 0,Value.int IntKind.i64 0,Value.int IntKind.i64 0,Value.int IntKind.i64 0]])⟩),
 (151,⟨.other,1,8,Value.nilFunc⟩),
 (152,⟨.other,1,8,Value.nilFunc⟩),
 (153,⟨.other,1,8,(Value.pointer none)⟩),
 (154,⟨.other,1,8,Value.nilFunc⟩),
 (155,⟨.other,1,8,Value.nilFunc⟩),
 (156,⟨.other,1,8,Value.nilFunc⟩),
 (157,⟨.other,1,8,(Value.pointer none)⟩),
 (158,⟨.other,1,8,Value.nilFunc⟩),
 (159,⟨.other,1,8,Value.nilFunc⟩),
 (160,⟨.other,1,8,Value.nilFunc⟩),
 (161,⟨.other,1,0,(Value.tuple #[Value.agg #[Value.int IntKind.i64 0,Value.bool false,Value.int IntKind.i64 0,Value.int IntKind.i64 0,Value.slice none 0 0],Value.bool false])⟩),
 (162,⟨(.slice 135),1,24,(Value.slice none 0 0)⟩),
 (163,⟨.other,1,8,Value.nilFunc⟩),
 (164,⟨.other,1,8,Value.nilFunc⟩),
 (165,⟨.other,1,8,Value.nilFunc⟩),
 (166,⟨(.struct [(82,0,4)]),4,32,(Value.agg #[Value.int IntKind.i64 0,Value.int IntKind.i64 0,Value.int IntKind.i64 0,Value.int IntKind.i64 0])⟩),
 (167,⟨(.struct [(82,0,4)]),4,32,(Value.agg #[Value.int IntKind.i64 0,Value.int IntKind.i64 0,Value.int IntKind.i64 0,Value.int IntKind.i64 0])⟩),
 (168,⟨.other,1,8,Value.nilFunc⟩),
 (169,⟨.other,1,8,Value.nilFunc⟩),
 (170,⟨(.array 3 3),3,24,(Value.agg #[Value.int IntKind.i64 0,Value.int IntKind.i64 0,Value.int IntKind.i64 0])⟩),
 (171,⟨(.struct [(25,0,25),(3,25,1),(83,26,1),(3,27,1),(170,28,3),(147,31,1)]),32,272,(Value.agg #[Value.int IntKind.i64 0,Value.int IntKind.i64 0,Value.int IntKind.i64 0,Value.int IntKind.i64 0,Value.int IntKind.i64 0,Value.int IntKind.i64 0,Value.int IntKind.i64 0,Value.int IntKind.i64 0,Value.int IntKind.i64 0,Value.int IntKind.i64 0,Value.int IntKind.i64 0,Value.int IntKind.i64 0,Value.int IntKind.i64 0,Value.int IntKind.i64 0,Value.int IntKind.i64 0,Value.int IntKind.i64 0,Value.int IntKind.i64 0,Value.int IntKind.i64 0,Value.int IntKind.i64 0,Value.int IntKind.i64 0,Value.int IntKind.i64 0,Value.int IntKind.i64 0,Value.int IntKind.i64 0,Value.int IntKind.i64 0,Value.int IntKind.i64 0,Value.int IntKind.i64 0,Value.slice none 0 0,Value.int IntKind.i64 0,Value.int IntKind.i64 0,Value.int IntKind.i64 0,Value.int IntKind.i64 0,Value.nilFunc])⟩),
 (172,⟨(.struct [(25,0,25),(3,25,1),(83,26,1),(3,27,1),(170,28,3),(147,31,1)]),32,272,(Value.agg #[Value.int IntKind.i64 0,Value.int IntKind.i64 0,Value.int IntKind.i64 0,Value.int IntKind.i64 0,Value.int IntKind.i64 0,Value.int IntKind.i64 0,Value.int IntKind.i64 0,Value.int IntKind.i64 0,Value.int IntKind.i64 0,Value.int IntKind.i64 0,Value.int IntKind.i64 0,Value.int IntKind.i64 0,Value.int IntKind.i64 0,Value.int IntKind.i64 0,Value.int IntKind.i64 0,Value.int IntKind.i64 0,Value.int IntKind.i64 0,Value.int IntKind.i64 0,Value.int IntKind.i64 0,Value.int IntKind.i64 0,Value.int IntKind.i64 0,Value.int IntKind.i64 0,Value.int IntKind.i64 0,Value.int IntKind.i64 0,Value.int IntKind.i64 0,Value.int IntKind.i64 0,Value.slice none 0 0,Value.int IntKind.i64 0,Value.int IntKind.i64 0,Value.int IntKind.i64 0,Value.int IntKind.i64 0,Value.nilFunc])⟩),
 (173,⟨(.struct [(82,0,4)]),4,32,(Value.agg #[Value.int IntKind.i64 0,Value.int IntKind.i64 0,Value.int IntKind.i64 0,Value.int IntKind.i64 0])⟩),
 (174,⟨(.struct [(82,0,4)]),4,32,(Value.agg #[Value.int IntKind.i64 0,Value.int IntKind.i64 0,Value.int IntKind.i64 0,Value.int IntKind.i64 0])⟩),
 (175,⟨.other,1,0,(Value.tuple #[Value.int IntKind.i64 0,Value.int IntKind.i64 0,Value.bool false])⟩),
 (176,⟨.other,1,8,Value.nilFunc⟩),
 (177,⟨.other,1,8,Value.nilFunc⟩),
 (178,⟨.other,1,8,Value.nilFunc⟩),
 (179,⟨.other,1,0,(Value.tuple #[Value.int IntKind.i64 0,Value.int IntKind.i64 0,Value.int IntKind.i64 0])⟩),
 (180,⟨.other,1,8,Value.nilFunc⟩),
 (181,⟨.other,1,8,Value.nilFunc⟩),
 (182,⟨(.struct [(25,0,25),(3,25,1),(83,26,1),(3,27,1),(170,28,3),(147,31,1)]),32,272,(Value.agg #[Value.int IntKind.i64 0,Value.int IntKind.i64 0,Value.int IntKind.i64 0,Value.int IntKind.i64 0,Value.int IntKind.i64 0,Value.int IntKind.i64 0,Value.int IntKind.i64 0,Value.int IntKind.i64 0,Value.int IntKind.i64 0,Value.int IntKind.i64 0,Value.int IntKind.i64 0,Value.int IntKind.i64 0,Value.int IntKind.i64 0,Value.int IntKind.i64 0,Value.int IntKind.i64 0,Value.int IntKind.i64 0,Value.int IntKind.i64 0,Value.int IntKind.i64 0,Value.int IntKind.i64 0,Value.int IntKind.i64 0,Value.int IntKind.i64 0,Value.int IntKind.i64 0,Value.int IntKind.i64 0,Value.int IntKind.i64 0,Value.int IntKind.i64 0,Value.int IntKind.i64 0,Value.slice none 0 0,Value.int IntKind.i64 0,Value.int IntKind.i64 0,Value.int IntKind.i64 0,Value.int IntKind.i64 0,Value.nilFunc])⟩),
 (183,⟨(.struct [(25,0,25),(3,25,1),(83,26,1),(3,27,1),(170,28,3),(147,31,1)]),32,272,(Value.agg #[Value.int IntKind.i64 0,Value.int IntKind.i64 0,Value.int IntKind.i64 0,Value.int IntKind.i64 0,Value.int IntKind.i64 0,Value.int IntKind.i64 0,Value.int IntKind.i64 0,Value.int IntKind.i64 0,Value.int IntKind.i64 0,Value.int IntKind.i64 0,Value.int IntKind.i64 0,Value.int IntKind.i64 0,Value.int IntKind.i64 0,Value.int IntKind.i64 0,Value.int IntKind.i64 0,Value.int IntKind.i64 0,Value.int IntKind.i64 0,Value.int IntKind.i64 0,Value.int IntKind.i64 0,Value.int IntKind.i64 0,Value.int IntKind.i64 0,Value.int IntKind.i64 0,Value.int IntKind.i64 0,Value.int IntKind.i64 0,Value.int IntKind.i64 0,Value.int IntKind.i64 0,Value.slice none 0 0,Value.int IntKind.i64 0,Value.int IntKind.i64 0,Value.int IntKind.i64 0,Value.int IntKind.i64 0,Value.nilFunc])⟩),
 (184,⟨(.struct [(82,0,4)]),4,32,(Value.agg #[Value.int IntKind.i64 0,Value.int IntKind.i64 0,Value.int IntKind.i64 0,Value.int IntKind.i64 0])⟩),
 (185,⟨(.struct [(82,0,4)]),4,32,(Value.agg #[Value.int IntKind.i64 0,Value.int IntKind.i64 0,Value.int IntKind.i64 0,Value.int IntKind.i64 0])⟩),
 (186,⟨.other,1,0,(Value.tuple #[Value.int IntKind.i64 0,Value.int IntKind.i64 0])⟩),
 (187,⟨.other,1,8,Value.nilFunc⟩),
 (188,⟨.other,1,8,Value.nilFunc⟩),
 (189,⟨.other,1,8,Value.nilFunc⟩),
 (190,⟨.other,1,8,(Value.pointer none)⟩),
 (191,⟨.other,1,8,(Value.pointer none)⟩),
 (192,⟨.other,1,8,Value.nilFunc⟩),
 (193,⟨(.struct [(4,0,1),(3,1,1),(3,2,1),(3,3,1),(3,4,1)]),5,40,(Value.agg #[Value.bool false,Value.int IntKind.i64 0,Value.int IntKind.i64 0,Value.int IntKind.i64 0,Value.int IntKind.i64 0])⟩),
 (194,⟨(.struct [(4,0,1),(3,1,1),(3,2,1),(3,3,1),(3,4,1)]),5,40,(Value.agg #[Value.bool false,Value.int IntKind.i64 0,Value.int IntKind.i64 0,Value.int IntKind.i64 0,Value.int IntKind.i64 0])⟩),
 (195,⟨(.struct [(191,0,1),(194,1,5),(3,6,1)]),7,56,(Value.agg #[Value.pointer none,Value.bool false,Value.int IntKind.i64 0,Value.int IntKind.i64 0,Value.int IntKind.i64 0,Value.int IntKind.i64 0,Value.int IntKind.i64 0])⟩),
 (196,⟨(.struct [(191,0,1),(194,1,5),(3,6,1)]),7,56,(Value.agg #[Value.pointer none,Value.bool false,Value.int IntKind.i64 0,Value.int IntKind.i64 0,Value.int IntKind.i64 0,Value.int IntKind.i64 0,Value.int IntKind.i64 0])⟩),
 (197,⟨.other,1,8,Value.nilFunc⟩),
 (198,⟨.other,1,8,Value.nilFunc⟩),
 (199,⟨.other,1,8,Value.nilFunc⟩),
 (200,⟨(.int .u32),1,4,(Value.int IntKind.u32 0)⟩),
 (201,⟨.other,1,8,Value.nilFunc⟩),
 (202,⟨(.int .u64),1,8,(Value.int IntKind.u64 0)⟩),
 (203,⟨(.struct [(25,0,25),(3,25,1),(83,26,1),(3,27,1),(170,28,3),(147,31,1)]),32,272,(Value.agg #[Value.int IntKind.i64 0,Value.int IntKind.i64 0,Value.int IntKind.i64 0,Value.int IntKind.i64 0,Value.int IntKind.i64 0,Value.int IntKind.i64 0,Value.int IntKind.i64 0,Value.int IntKind.i64 0,Value.int IntKind.i64 0,Value.int IntKind.i64 0,Value.int IntKind.i64 0,Value.int IntKind.i64 0,Value.int IntKind.i64 0,Value.int IntKind.i64 0,Value.int IntKind.i64 0,Value.int IntKind.i64 0,Value.int IntKind.i64 0,Value.int IntKind.i64 0,Value.int IntKind.i64 0,Value.int IntKind.i64 0,Value.int IntKind.i64 0,Value.int IntKind.i64 0,Value.int IntKind.i64 0,Value.int IntKind.i64 0,Value.int IntKind.i64 0,Value.int IntKind.i64 0,Value.slice none 0 0,Value.int IntKind.i64 0,Value.int IntKind.i64 0,Value.int IntKind.i64 0,Value.int IntKind.i64 0,Value.nilFunc])⟩),
 (204,⟨(.struct [(25,0,25),(3,25,1),(83,26,1),(3,27,1),(170,28,3),(147,31,1)]),32,272,(Value.agg #[Value.int IntKind.i64 0,Value.int IntKind.i64 0,Value.int IntKind.i64 0,Value.int IntKind.i64 0,Value.int IntKind.i64 0,Value.int IntKind.i64 0,Value.int IntKind.i64 0,Value.int IntKind.i64 0,Value.int IntKind.i64 0,Value.int IntKind.i64 0,Value.int IntKind.i64 0,Value.int IntKind.i64 0,Value.int IntKind.i64 0,Value.int IntKind.i64 0,Value.int IntKind.i64 0,Value.int IntKind.i64 0,Value.int IntKind.i64 0,Value.int IntKind.i64 0,Value.int IntKind.i64 0,Value.int IntKind.i64 0,Value.int IntKind.i64 0,Value.int IntKind.i64 0,Value.int IntKind.i64 0,Value.int IntKind.i64 0,Value.int IntKind.i64 0,Value.int IntKind.i64 0,Value.slice none 0 0,Value.int IntKind.i64 0,Value.int IntKind.i64 0,Value.int IntKind.i64 0,Value.int IntKind.i64 0,Value.nilFunc])⟩),
 (205,⟨(.struct [(82,0,4)]),4,32,(Value.agg #[Value.int IntKind.i64 0,Value.int IntKind.i64 0,Value.int IntKind.i64 0,Value.int IntKind.i64 0])⟩),
 (206,⟨(.struct [(82,0,4)]),4,32,(Value.agg #[Value.int IntKind.i64 0,Value.int IntKind.i64 0,Value.int IntKind.i64 0,Value.int IntKind.i64 0])⟩),
 (207,⟨.other,1,8,Value.nilFunc⟩),
 (208,⟨.other,1,8,Value.nilFunc⟩),
 (209,⟨(.struct [(17,0,1),(17,1,1),(17,2,1),(9,3,1)]),4,40,(Value.agg #[Value.pointer none,Value.pointer none,Value.pointer none,Value.string {data:=#[]}])⟩),
 (210,⟨(.struct [(17,0,1),(17,1,1),(17,2,1),(9,3,1)]),4,40,(Value.agg #[Value.pointer none,Value.pointer none,Value.pointer none,Value.string {data:=#[]}])⟩),
 (211,⟨(.array 0 16),0,0,(Value.agg #[])⟩),
 (212,⟨(.struct [(211,0,0)]),0,0,(Value.agg #[])⟩),
 (213,⟨(.struct [(211,0,0)]),0,0,(Value.agg #[])⟩),
 (214,⟨(.int .u8),1,1,(Value.int IntKind.u8 0)⟩),
 (215,⟨(.int .u8),1,1,(Value.int IntKind.u8 0)⟩),
 (216,⟨.other,1,8,Value.nilFunc⟩),
 (217,⟨.other,1,8,(Value.pointer none)⟩),
 (218,⟨(.int .i32),1,4,(Value.int IntKind.i32 0)⟩),
 (219,⟨(.int .i32),1,4,(Value.int IntKind.i32 0)⟩),
 (220,⟨(.struct [(12,0,1),(12,1,1),(200,2,1),(214,3,1),(5,4,1),(5,5,1),(215,6,1),(216,7,1),(217,8,1),(218,9,1),(219,10,1)]),11,48,(Value.agg #[Value.int IntKind.u64 0,Value.int IntKind.u64 0,Value.int IntKind.u32 0,Value.int IntKind.u8 0,Value.int IntKind.u8 0,Value.int IntKind.u8 0,Value.int IntKind.u8 0,Value.nilFunc,Value.pointer none,Value.int IntKind.i32 0,Value.int IntKind.i32 0])⟩),
 (221,⟨(.struct [(12,0,1),(12,1,1),(200,2,1),(214,3,1),(5,4,1),(5,5,1),(215,6,1),(216,7,1),(217,8,1),(218,9,1),(219,10,1)]),11,48,(Value.agg #[Value.int IntKind.u64 0,Value.int IntKind.u64 0,Value.int IntKind.u32 0,Value.int IntKind.u8 0,Value.int IntKind.u8 0,Value.int IntKind.u8 0,Value.int IntKind.u8 0,Value.nilFunc,Value.pointer none,Value.int IntKind.i32 0,Value.int IntKind.i32 0])⟩),
 (222,⟨.other,1,8,(Value.pointer none)⟩)]
def tb:Nat->Option TI:=kv UI
def Nz(P:Program)(p:Nat×TI):Prop:=(P.underlying p.1).map (jI P)=some p.2.k/\(P.info? p.1).map (λ f=>(f.size,f.bytes,f.zero))=some (p.2.sz,p.2.bytes,some p.2.zero)
theorem afo{P:Program}:∀{l:List (Nat×TI)},(∀p∈l,Nz P p)->di P (kv l):=by
 intro l h;have key:∀(l:List (Nat×TI)),(∀p∈l,Nz P p)->∀t i,kv l t=some i->Nz P (t,i):=by
  intro l;induction l with
  |nil=>intro _ t i h;cases h
  |cons p l ih=>
   intro h t i hi;obtain⟨k,v⟩:=p;rw[da] at hi;split at hi
   ·rename_i J;subst J;cases hi;exact h _ (by simp)
   ·exact ih (λ q hq=>h q (by simp[hq])) t i hi
 refine⟨λ t i hi=>?_,λ t i hi=>?_⟩
 ·obtain⟨A,_⟩:=key l h t i hi;simp only[Option.map_eq_some_iff] at A;exact A
 ·obtain⟨_,F⟩:=key l h t i hi;simp only[Option.map_eq_some_iff,Prod.mk.injEq] at F;obtain⟨f,O,h4,h5,h6⟩:=F;exact⟨f,O,h4,h5,h6⟩
theorem VY{q:Nat×TI->Prop}{a:Nat×TI}{l:List (Nat×TI)}(h:q a)(U:∀p∈l,q p):∀p∈a::l,q p:=λ p hp=>by
 rcases List.mem_cons.1 hp with rfl|hp
 ·exact h
 ·exact U p hp
set_option maxRecDepth 100000 in
theorem aD:di prog tb:=afo (by
 unfold UI
 repeat refine VY ⟨by kernel_rfl,by kernel_rfl⟩ ?_
 exact λ p hp=>absurd hp List.not_mem_nil)
section
variable{P:Program}{Γ:bN}{M:St}{Q:Exit->St->Prop}{aG:St->Prop}{x y c:Code}{id oS:Nat}{z:Operand}{tt:Bool}{X aH:Prop}
theorem zA(h:aP P Γ x (su (aP P Γ y Q) Q) M):aP P Γ (.seq x y) Q M:=qA h
theorem zB{l:List Oper}(h:bq P Γ l Q l M):aP P Γ (.region id l.toArray false) Q M:=wN h
theorem zC(h:aP P Γ c (qB id Q) M):aP P Γ (.block id c) Q M:=Wm h
theorem zD(h:Q .normal M):aP P Γ .skip Q M:=FT h
theorem zE(h:aP P Γ c (CB Q) M):aP P Γ (.scope c) Q M:=Wx h
theorem zF(h:Q .normal M):aP P Γ (.label id) Q M:=Wr h
theorem zG(h:Q .normal M):CB Q .normal M:=h
theorem zH(h:Q .ret M):CB Q .ret M:=h
theorem zI(h:Q (.exit id) M):CB Q (.exit id) M:=h
theorem zJ(h:Q .ret M):aP P Γ .ret Q M:=Ww h
theorem zK(h:Q (.exit id) M):aP P Γ (.exit id) Q M:=Wp h
theorem zL(h:CK tt (aP P Γ x Q M) (aP P Γ y Q M))(hz:ev (kv M.s) z=some (.p (.raw (.bool tt))):=by exact rfl):aP P Γ (.cond z x y) Q M:=Jg hz h
theorem zM(h:aG M):su aG Q .normal M:=h
theorem zN(h:Q .ret M):su aG Q .ret M:=h
theorem zO(h:Q (.exit id) M):su aG Q (.exit id) M:=h
theorem zP(h:Q .normal M):qB id Q .normal M:=h
theorem zQ(h:Q .ret M):qB id Q .ret M:=h
theorem zR(h:Q .normal M):qB id Q (.exit id) M:=adS h
theorem zS(h:Q (.exit oS) M)(b9:(oS==id)=false:=by exact rfl):qB id Q (.exit oS) M:=adT b9 h
theorem zT(h:X)(Z:tt=true:=by with_reducible exact rfl):CK tt X aH:=by subst Z;exact Jt h
theorem zU(h:aH)(Z:tt=false:=by with_reducible exact rfl):CK tt X aH:=by subst Z;exact Dk h
theorem zV(h:aH)(Z:tt=!true:=by with_reducible exact rfl):CK tt X aH:=by subst Z;exact Dk h
theorem zW(h:X)(Z:tt=!false:=by with_reducible exact rfl):CK tt X aH:=by subst Z;exact Jt h
theorem zX{bb:St}(hs:wG M bb bb.s:=by(repeat(first|exact trivial|refine⟨⟨rfl,rfl⟩,?_⟩)))(Z:wz M bb bb.b:=by(repeat(first|exact trivial|refine⟨⟨rfl,rfl⟩,?_⟩)))(hg:wE M bb.g:=by(repeat(first|exact trivial|refine⟨rfl,?_⟩)))(dV:wF bb Γ.kb:=by(repeat(first|exact trivial|refine⟨rfl,?_⟩))):bY Γ M bb:=e7 hs Z hg dV
end
section
variable{Γ:bN}{o:Oper}{l0 l:List Oper}{Q:Exit->St->Prop}{s:List (Nat×K)}{b:List (Nat×List K)}{g:List (Nat×Gr)}{t t1 u nm:Nat}{i:TI}{x y:Operand}{p q:Int}{d:K}{cs aS:List K}
theorem z0(h:bq prog Γ l0 Q l ⟨(t,E (p+q))::s,b,g⟩)(ho:o.op=.binOp .add t1 x y u:=by exact rfl)(ht:tb t1=some i:=by exact rfl)(T:ev (kv s) x=some (E p):=by exact rfl)(hy:ev (kv s) y=some (E q):=by exact rfl)(A:-9223372036854775808<=p+q:=by omega)(F:p+q<=9223372036854775807:=by omega)(hg:gd l0 o (kv s)=some true:=by exact rfl)(D:o.dst=some t:=by exact rfl)(U:Nat.blt t Γ.n=true:=by exact rfl):bq prog Γ l0 Q (o::l) ⟨s,b,g⟩:=
 bh (Oq aD ho ht T hy A F) hg D U h
theorem z1(h:bq prog Γ l0 Q l ⟨(t,E (p-q))::s,b,g⟩)(ho:o.op=.binOp .sub t1 x y u:=by exact rfl)(ht:tb t1=some i:=by exact rfl)(T:ev (kv s) x=some (E p):=by exact rfl)(hy:ev (kv s) y=some (E q):=by exact rfl)(A:-9223372036854775808<=p-q:=by omega)(F:p-q<=9223372036854775807:=by omega)(hg:gd l0 o (kv s)=some true:=by exact rfl)(D:o.dst=some t:=by exact rfl)(U:Nat.blt t Γ.n=true:=by exact rfl):bq prog Γ l0 Q (o::l) ⟨s,b,g⟩:=
 bh (UG aD ho ht T hy A F) hg D U h
theorem z2(h:bq prog Γ l0 Q l ⟨(t,d)::s,b,g⟩)(hq:ax tb (kv s) (kv b) o.op=some d:=by exact rfl)(hg:gd l0 o (kv s)=some true:=by exact rfl)(D:o.dst=some t:=by exact rfl)(U:Nat.blt t Γ.n=true:=by exact rfl):bq prog Γ l0 Q (o::l) ⟨s,b,g⟩:=nP aD hq hg D U h
theorem z3(h:bq prog Γ l0 Q l ⟨(t,.p (.raw undef))::s,b,g⟩)(hg:gd l0 o (kv s)=some false:=by exact rfl)(D:o.dst=some t:=by exact rfl)(U:Nat.blt t Γ.n=true:=by exact rfl):bq prog Γ l0 Q (o::l) ⟨s,b,g⟩:=VE hg D U h
theorem z4{M:St}(h:Q .normal M):bq prog Γ l0 Q [] M:=kM h
theorem z5{of:Nat}{dy:K}(h:bq prog Γ l0 Q l ⟨s,(nm,aS)::b,g⟩)(ho:o.op=.store t1 x y:=by exact rfl)(D:o.dst=none:=by exact rfl)(ht:tb t1=some i:=by exact rfl)(T:ev (kv s) x=some (.ptr nm of):=by exact rfl)(Z:kv b nm=some cs:=by exact rfl)(hy:ev (kv s) y=some dy:=by exact rfl)
 (U:ux dy=true:=by exact rfl)(ci:Nat.beq dy.cells.length i.sz=true:=by exact rfl)(cF:tD cs of dy some=some aS:=by exact rfl)(hg:gd l0 o (kv s)=some true:=by exact rfl):bq prog Γ l0 Q (o::l) ⟨s,b,g⟩:=VF aD ho D ht T Z hy U ci cF hg h
theorem z6{gI:Array (Nat×Operand)}(h:bq prog Γ l0 Q l ⟨(t,d)::s,b,g⟩)(ho:o.op=.build t1 gI:=by exact rfl)(hp:tV (kv s) gI.toList (FZ tb t1)=some d:=by exact rfl)(hz:(match tb t1 with|some i=>kE (ki i.zero)|none=>false)=true:=by exact rfl)(hg:gd l0 o (kv s)=some true:=by exact rfl)(D:o.dst=some t:=by exact rfl)(U:Nat.blt t Γ.n=true:=by exact rfl):bq prog Γ l0 Q (o::l) ⟨s,b,g⟩:=
 bh (A4 aD ho hp hz) hg D U h
theorem z7{len:Nat}{gI:Array (Nat×Operand)}{ps:List Pl}(h:bq prog Γ l0 Q l ⟨(t,.p (.sl true len ps))::s,b,g⟩)(ho:o.op=.buildSlice t1 len gI:=by exact rfl)(hp:tV (kv s) gI.toList (F0 tb t1 len)=some ps:=by exact rfl)(hg:gd l0 o (kv s)=some true:=by exact rfl)(D:o.dst=some t:=by exact rfl)(U:Nat.blt t Γ.n=true:=by exact rfl):bq prog Γ l0 Q (o::l) ⟨s,b,g⟩:=
 bh (OP aD ho hp) hg D U h
theorem z8{dx:K}(h:bq prog Γ l0 Q l ⟨(t,.ptr nm 0)::s,(nm,cs)::b,g⟩)(ho:o.op=.box t1 x:=by exact rfl)(ny:vZ 0 b some=some nm:=by exact rfl)(T:ev (kv s) x=some dx:=by exact rfl)(J:kE dx=true:=by exact rfl)(cR:mE dx some=some cs:=by exact rfl)(hg:gd l0 o (kv s)=some true:=by exact rfl)(D:o.dst=some t:=by exact rfl)(U:Nat.blt t Γ.n=true:=by exact rfl)(hf:kv b nm=none:=by exact rfl):bq prog Γ l0 Q (o::l) ⟨s,b,g⟩:=
 VA ho ny T J cR hg D U hf h
theorem z9(h:bq prog Γ l0 Q l ⟨(t,.ptr nm 0)::s,(nm,cs)::b,g⟩)(ho:o.op=.alloc t1:=by exact rfl)(ny:vZ 0 b some=some nm:=by exact rfl)(ht:tb t1=some i:=by exact rfl)(J:kE (ki i.zero)=true:=by exact rfl)(cR:qC i.zero (λ d=>mE d some)=some cs:=by exact rfl)(hg:gd l0 o (kv s)=some true:=by exact rfl)(D:o.dst=some t:=by exact rfl)(U:Nat.blt t Γ.n=true:=by exact rfl)(hf:kv b nm=none:=by exact rfl):bq prog Γ l0 Q (o::l) ⟨s,b,g⟩:=
 VD aD ho ny ht J cR hg D U hf h
end
section
variable{n:Nat}{B B0:List (Nat×List K)}{aG:St->Prop}{ay:List Nat}{aE:List (Nat×Nat)}{ix:Nat}{o:Oper}{l0 l:List Oper}{s:List (Nat×K)}{b:List (Nat×List K)}{g:List (Nat×Gr)}{t t1 u nm:Nat}{i:TI}{x y:Operand}{p q:Int}{d:K}{cs aS:List K}
theorem w0(h:cJ prog n l0 B B0 aG (ix+1) ay aE l ⟨(t,E (p+q))::s,b,g⟩)(ho:o.op=.binOp .add t1 x y u:=by exact rfl)(ht:tb t1=some i:=by exact rfl)(T:ev (kv s) x=some (E p):=by exact rfl)(hy:ev (kv s) y=some (E q):=by exact rfl)(A:-9223372036854775808<=p+q:=by omega)(F:p+q<=9223372036854775807:=by omega)(hg:gd l0 o (kv s)=some true:=by exact rfl)(D:o.dst=some t:=by exact rfl):cJ prog n l0 B B0 aG ix ay aE (o::l) ⟨s,b,g⟩:=
 cV (Oq aD ho ht T hy A F) hg D h
theorem w1(h:cJ prog n l0 B B0 aG (ix+1) ay aE l ⟨(t,E (p-q))::s,b,g⟩)(ho:o.op=.binOp .sub t1 x y u:=by exact rfl)(ht:tb t1=some i:=by exact rfl)(T:ev (kv s) x=some (E p):=by exact rfl)(hy:ev (kv s) y=some (E q):=by exact rfl)(A:-9223372036854775808<=p-q:=by omega)(F:p-q<=9223372036854775807:=by omega)(hg:gd l0 o (kv s)=some true:=by exact rfl)(D:o.dst=some t:=by exact rfl):cJ prog n l0 B B0 aG ix ay aE (o::l) ⟨s,b,g⟩:=
 cV (UG aD ho ht T hy A F) hg D h
theorem w2{of:Nat}{dy:K}(h:cJ prog n l0 B B0 aG (ix+1) (nm::ay) aE l ⟨s,(nm,aS)::b,g⟩)(ho:o.op=.store t1 x y:=by exact rfl)(D:o.dst=none:=by exact rfl)(ht:tb t1=some i:=by exact rfl)(T:ev (kv s) x=some (.ptr nm of):=by exact rfl)(Z:kv b nm=some cs:=by exact rfl)(hy:ev (kv s) y=some dy:=by exact rfl)
 (U:ux dy=true:=by exact rfl)(ci:Nat.beq dy.cells.length i.sz=true:=by exact rfl)(cF:tD cs of dy some=some aS:=by exact rfl)(hg:gd l0 o (kv s)=some true:=by exact rfl)(hB:kv B nm=none:=by exact rfl)(hD:ay.contains nm=false:=by exact rfl):cJ prog n l0 B B0 aG ix ay aE (o::l) ⟨s,b,g⟩:=uJ aD ho D ht T Z hy U ci cF hg hB (.inl hD) h
theorem wL{of:Nat}{dy:K}(h:cJ prog n l0 B B0 aG (ix+1) (nm::ay) aE l ⟨s,(nm,aS)::b,g⟩)(ho:o.op=.store t1 x y:=by exact rfl)(D:o.dst=none:=by exact rfl)(ht:tb t1=some i:=by exact rfl)(T:ev (kv s) x=some (.ptr nm of):=by exact rfl)(Z:kv b nm=some cs:=by exact rfl)(hy:ev (kv s) y=some dy:=by exact rfl)
 (U:ux dy=true:=by exact rfl)(ci:Nat.beq dy.cells.length i.sz=true:=by exact rfl)(cF:tD cs of dy some=some aS:=by exact rfl)(hg:gd l0 o (kv s)=some true:=by exact rfl)(hB:kv B nm=none:=by exact rfl)(hD:EI l0 o ix=true:=by kernel_rfl):cJ prog n l0 B B0 aG ix ay aE (o::l) ⟨s,b,g⟩:=uJ aD ho D ht T Z hy U ci cF hg hB (.inr hD) h
theorem w3(h:cJ prog n l0 B B0 aG (ix+1) ay aE l ⟨(t,d)::s,b,g⟩)(hq:ax tb (kv s) (kv B) o.op=some d:=by exact rfl)(hg:gd l0 o (kv s)=some true:=by exact rfl)(D:o.dst=some t:=by exact rfl):cJ prog n l0 B B0 aG ix ay aE (o::l) ⟨s,b,g⟩:=E7 aD hq hg D h
theorem afP(h:cJ prog n l0 B B0 aG (ix+1) ay aE l ⟨(t,.p (.raw undef))::s,b,g⟩)(hg:gd l0 o (kv s)=some false:=by exact rfl)(D:o.dst=some t:=by exact rfl):cJ prog n l0 B B0 aG ix ay aE (o::l) ⟨s,b,g⟩:=adZ hg D h
theorem w5(h:aG ⟨s,b,g⟩):cJ prog n l0 B B0 aG ix ay aE [] ⟨s,b,g⟩:=h
theorem w6{gI:Array (Nat×Operand)}(h:cJ prog n l0 B B0 aG (ix+1) ay aE l ⟨(t,d)::s,b,g⟩)(ho:o.op=.build t1 gI:=by exact rfl)(hp:tV (kv s) gI.toList (FZ tb t1)=some d:=by exact rfl)(hz:(match tb t1 with|some i=>kE (ki i.zero)|none=>false)=true:=by exact rfl)(hg:gd l0 o (kv s)=some true:=by exact rfl)(D:o.dst=some t:=by exact rfl):cJ prog n l0 B B0 aG ix ay aE (o::l) ⟨s,b,g⟩:=
 cV (A4 aD ho hp hz) hg D h
theorem afQ{len:Nat}{gI:Array (Nat×Operand)}{ps:List Pl}(h:cJ prog n l0 B B0 aG (ix+1) ay aE l ⟨(t,.p (.sl true len ps))::s,b,g⟩)(ho:o.op=.buildSlice t1 len gI:=by exact rfl)(hp:tV (kv s) gI.toList (F0 tb t1 len)=some ps:=by exact rfl)(hg:gd l0 o (kv s)=some true:=by exact rfl)(D:o.dst=some t:=by exact rfl):cJ prog n l0 B B0 aG ix ay aE (o::l) ⟨s,b,g⟩:=
 cV (OP aD ho hp) hg D h
theorem afR{dx:K}(h:cJ prog n l0 B B0 aG (ix+1) ay aE l ⟨(t,.ptr nm 0)::s,(nm,cs)::b,g⟩)(ho:o.op=.box t1 x:=by exact rfl)(ny:vZ 0 b some=some nm:=by exact rfl)(T:ev (kv s) x=some dx:=by exact rfl)(J:kE dx=true:=by exact rfl)(cR:mE dx some=some cs:=by exact rfl)(hg:gd l0 o (kv s)=some true:=by exact rfl)(D:o.dst=some t:=by exact rfl)(hf:kv b nm=none:=by exact rfl)(p5:kv B nm=none:=by exact rfl):cJ prog n l0 B B0 aG ix ay aE (o::l) ⟨s,b,g⟩:=
 adX ho ny T J cR hg D hf p5 h
theorem afS(h:cJ prog n l0 B B0 aG (ix+1) ay aE l ⟨(t,.ptr nm 0)::s,(nm,cs)::b,g⟩)(ho:o.op=.alloc t1:=by exact rfl)(ny:vZ 0 b some=some nm:=by exact rfl)(ht:tb t1=some i:=by exact rfl)(J:kE (ki i.zero)=true:=by exact rfl)(cR:qC i.zero (λ d=>mE d some)=some cs:=by exact rfl)(hg:gd l0 o (kv s)=some true:=by exact rfl)(D:o.dst=some t:=by exact rfl)(hf:kv b nm=none:=by exact rfl)(p5:kv B nm=none:=by exact rfl):cJ prog n l0 B B0 aG ix ay aE (o::l) ⟨s,b,g⟩:=
 adY aD ho ny ht J cR hg D hf p5 h
end
section
structure qu(aH:Prop):Prop where
 out:aH
variable{X aH:Prop}
theorem im(h:aH)(e:qu aH->X:=by intro h;(repeat(first|refine z0 ?_|refine z1 ?_|refine z2 ?_|refine z3 ?_|refine z4 ?_|refine z5 ?_|refine z6 ?_|refine z7 ?_|refine z8 ?_|refine z9 ?_));exact h.out):X:=e ⟨h⟩
theorem gE(h:aH)(e:qu aH->X:=by intro h;(repeat(first|refine zA ?_|refine zB ?_|refine zC ?_|refine zD ?_|refine zE ?_|refine zF ?_|refine zG ?_|refine zH ?_|refine zI ?_|refine zJ ?_|refine zK ?_|refine zL ?_|refine zT ?_|refine zU ?_|refine zV ?_|refine zW ?_|refine zM ?_|refine zN ?_|refine zO ?_|refine zP ?_|refine zQ ?_|refine zR ?_|refine zS ?_));exact h.out):X:=e ⟨h⟩
theorem go(h:aH)(e:qu aH->X:=by intro h;(repeat(first|refine zA ?_|refine zB ?_|refine zC ?_|refine zD ?_|refine zE ?_|refine zF ?_|refine zG ?_|refine zH ?_|refine zI ?_|refine zJ ?_|refine zK ?_|refine zL ?_|refine zT ?_|refine zU ?_|refine zV ?_|refine zW ?_|refine zM ?_|refine zN ?_|refine zO ?_|refine zP ?_|refine zQ ?_|refine zR ?_|refine zS ?_|refine z0 ?_|refine z1 ?_|refine z2 ?_|refine z3 ?_|refine z4 ?_|refine z5 ?_|refine z6 ?_|refine z7 ?_|refine z8 ?_|refine z9 ?_));exact h.out):X:=e ⟨h⟩
theorem t8(h:aH)(e:qu aH->X:=by intro h;(repeat(first|refine zA ?_|refine zB ?_|refine zC ?_|refine zD ?_|refine zE ?_|refine zF ?_|refine zG ?_|refine zH ?_|refine zI ?_|refine zJ ?_|refine zK ?_|refine zL ?_|refine zT ?_|refine zU ?_|refine zV ?_|refine zW ?_|refine zM ?_|refine zN ?_|refine zO ?_|refine zP ?_|refine zQ ?_|refine zR ?_|refine zS ?_|refine bh (Jy aD rfl rfl rfl rfl (by omega) (by omega)) rfl rfl rfl ?_|refine bh (aeo rfl rfl rfl (by omega) (by omega)) rfl rfl rfl ?_|refine z0 ?_|refine z1 ?_|refine z2 ?_|refine z3 ?_|refine z4 ?_|refine z5 ?_|refine z6 ?_|refine z7 ?_|refine z8 ?_|refine z9 ?_));exact h.out):X:=e ⟨h⟩
theorem br(h:aH)(e:qu aH->X:=by intro h;(repeat(first|refine w0 ?_|refine w1 ?_|refine w2 ?_|refine w3 ?_|refine afP ?_|refine w5 ?_|refine w6 ?_|refine afQ ?_|refine afR ?_|refine afS ?_));exact h.out):X:=e ⟨h⟩
end
section
variable{P:Program}{ap:Nat->Option TI}{Γ:bN}{M:St}{o:Oper}{l0 l:List Oper}{Q:Exit->St->Prop}
variable{s aa:List (Nat×K)}{b bf:List (Nat×List K)}{g:List (Nat×Gr)}{t:Nat}{d:K}{f:FuncId}{aV:List Nat}{ds:List K}{Y:bJ}{aO:K->bJ->Prop}{X:Value->bJ->Prop}{rs:List ResultVar}{n:Nat}{fn:Func}{c:Code}
theorem fP{v:Value}(aq:bJ)(hX:X v aq)(F:jN M (aI aq) aq:=by(repeat(first|exact trivial|refine⟨⟨rfl,rfl⟩,?_⟩)))(O:kK aq aV:=by(repeat(first|exact trivial|refine⟨rfl,?_⟩))):yh ap rs aV aO X (.panic [pe v]) M:=XI aq F O hX
theorem sX(hf:prog.funcs[f]?=some fn)(iX:fn.ntmps=n)(h:∀w cl own kf,aP prog ⟨n,w,cl,own,mp kf aV,[]⟩ c (yh tb rs aV aO X) ⟨s,Y,[]⟩)(Z:fn.body=some c:=by exact rfl)(mm:fn.results.toList=rs:=by exact rfl)(hn:Nat.ble ds.length n=true:=by exact rfl)(hs:sL 0 ds some=some s:=by exact rfl)(oO:kK Y aV:=by(repeat(first|exact trivial|refine⟨rfl,?_⟩))):fM prog f aV ds Y aO X:=
 aaZ aD hf Z iX mm hn hs oO h
end
section
variable{X aH:Prop}
theorem gP(h:aH)(e:qu aH->X:=by intro h;(repeat(first|refine adW ?_|refine adU ?_|refine adV ?_|refine ahO ?_|refine ahN ?_));exact h.out):X:=e ⟨h⟩
end
theorem tU(f:Nat)(h:(match prog.funcs[f]? with|some fn=>!(fn.name== "runtime.NumGoroutine")&&!fn.body.isNone|none=>false)=true):ke prog f:=by
 intro args w;split at h
 ·rename_i fn hf;simp only[Bool.and_eq_true,Bool.not_eq_true',beq_eq_false_iff_ne,ne_eq,Option.isNone_eq_false_iff] at h;obtain⟨A,F⟩:=h;obtain⟨c,L⟩:=Option.isSome_iff_exists.1 F;simp[callFunc,hf,A,L]
 ·cases h
section
variable{X:Prop}
theorem Cz(e:X:=by(repeat(first|exact trivial|refine⟨⟨rfl,rfl⟩,?_⟩|refine⟨rfl,?_⟩))):X:=e
theorem BW(e:X:=by(repeat(first|exact trivial|refine⟨.inr rfl,?_⟩|refine⟨.inl rfl,?_⟩))):X:=e
theorem t6(e:X:=by(first|(rintro d Y ⟨r,aa,_,_,_,_,_,_,rfl,rfl⟩)|(rintro d Y ⟨oG,aa,_,_,_,_,_,rfl,rfl⟩)|(rintro d Y ⟨x,aa,_,_,_,_,rfl,rfl⟩)|(rintro d Y ⟨x,aa,_,_,_,rfl,rfl⟩)|(rintro d Y ⟨x,aa,oG,_,_,rfl,rfl⟩)|(rintro d Y ⟨x,aa,_,_,rfl,rfl⟩)|(rintro d Y ⟨a,aa,oG,_,rfl,rfl⟩)|(rintro d Y ⟨a,aa,_,rfl,rfl⟩)|(rintro d Y ⟨rfl,rfl⟩));(repeat(first|exact trivial|refine⟨.inl rfl,?_⟩|refine⟨.inr rfl,?_⟩))):X:=e
theorem Tv(e:X:=by(first|rintro v Y ⟨a,aa,h,rfl,rfl⟩|rintro v Y ⟨a,aa,oG,h,rfl,rfl⟩);refine gP ?_;first|exact fP _ ⟨a,aa,by rw[<-I];exact bj h,rfl,rfl⟩|exact fP _ ⟨a,aa,_,by rw[<-I];exact bj h,rfl,rfl⟩|exact fP _ ⟨a,aa,oG,by rw[<-I];exact bj h,rfl,rfl⟩|exact fP _ ⟨a,aa,I.symm.trans h,rfl,rfl⟩|exact fP _ ⟨a,aa,oG,I.symm.trans h,rfl,rfl⟩|exact fP _ ⟨a,aa,by rw[<-I];exact h,rfl,rfl⟩):X:=e
end
section
variable{Γ:bN}{M:St}{o:Oper}{l0 l:List Oper}{Q:Exit->St->Prop}{aG:St->Prop}
variable{s aa:List (Nat×K)}{b bf:List (Nat×List K)}{g:List (Nat×Gr)}{t t1:Nat}{d:K}{f:FuncId}{aV:List Nat}{ds first c7:List K}{Y:bJ}{aO:K->bJ->Prop}{X:Value->bJ->Prop}{rs:List ResultVar}{n:Nat}{fn:Func}{c:Code}{xs:List Operand}{fB:Array TypeId}{fo:Operand}
variable{B B0:List (Nat×List K)}{ay:List Nat}{aE:List (Nat×Nat)}{ix:Nat}
def tF(l0:List Oper)(o:Oper)(s:List (Nat×K))(fo:Operand)(xs:List Operand)(fB:Array TypeId)(t n:Nat):Prop:=o.op=.call {callee:=.value fo,args:=xs.toArray,argTypes:=fB}/\gd l0 o (kv s)=some true/\o.dst=some t/\Nat.blt t n=true
def AQ(Γ:bN)(s aa:List (Nat×K))(b bf:List (Nat×List K))(g:List (Nat×Gr))(Y:bJ)(aV:List Nat)(ds:List K):Prop:=K.ok.eR (aI Y) (λ _=>false) ds=true/\jN ⟨s,b,g⟩ (aI Y) Y/\sA aV Y Γ.kb/\lS (λ b=>!aI Y b||ir aV b) s (λ aa=>me (aI Y) (λ b=>!aI Y b||ir aV b) b (λ bf=>some (aa,bf)))=some (aa,bf)
theorem cA(hC:bc prog f ds d)(h:bq prog Γ l0 Q l ⟨(t,d)::s,b,g⟩)(c:tF l0 o s (.func f) xs fB t Γ.n:=by exact⟨rfl,rfl,rfl,rfl⟩)(hf:ke prog f:=by exact tU _ (by kernel_rfl))(T:jc (kv s) xs K.low.kS=some ds:=by exact rfl):bq prog Γ l0 Q (o::l) ⟨s,b,g⟩:=bh (OR hC c.1 hf T) c.2.1 c.2.2.1 c.2.2.2 h
theorem cQ(hC:bc prog f ds d)(h:cJ prog n l0 B B0 aG (ix+1) ay aE l ⟨(t,d)::s,b,g⟩)(c:tF l0 o s (.func f) xs fB t (t+1):=by exact⟨rfl,rfl,rfl,by simp⟩)(hf:ke prog f:=by exact tU _ (by kernel_rfl))(T:jc (kv s) xs K.low.kS=some ds:=by exact rfl):cJ prog n l0 B B0 aG ix ay aE (o::l) ⟨s,b,g⟩:=cV (OR hC c.1 hf T) c.2.1 c.2.2.1 h
theorem lA(hC:bc prog f ds d)(h:bq prog Γ l0 Q l ⟨(t,d)::s,b,g⟩)(c:tF l0 o s (.func f) xs fB t Γ.n:=by exact⟨rfl,rfl,rfl,rfl⟩)(hf:ke prog f:=by exact tU _ (by kernel_rfl))(T:jc (kv s) xs (λ jx=>EK (kv b) jx some)=some ds:=by exact rfl)(hr:Ct d=true:=by exact rfl):bq prog Γ l0 Q (o::l) ⟨s,b,g⟩:=bh (Sa hC c.1 hf T hr) c.2.1 c.2.2.1 c.2.2.2 h
theorem lQ(hC:bc prog f ds d)(h:cJ prog n l0 B B0 aG (ix+1) ay aE l ⟨(t,d)::s,b,g⟩)(c:tF l0 o s (.func f) xs fB t (t+1):=by exact⟨rfl,rfl,rfl,by simp⟩)(hf:ke prog f:=by exact tU _ (by kernel_rfl))(T:jc (kv s) xs (λ jx=>EK (kv B) jx some)=some ds:=by exact rfl)(hr:Ct d=true:=by exact rfl):cJ prog n l0 B B0 aG ix ay aE (o::l) ⟨s,b,g⟩:=cV (Sa hC c.1 hf T hr) c.2.1 c.2.2.1 h
theorem cI(hC:eI prog f aV ds Y aO)(h:∀d aq,aO d aq->bq prog Γ l0 Q l ⟨(t,d)::aa,aq++bf,g⟩)(c:tF l0 o s (.func f) xs fB t Γ.n:=by exact⟨rfl,rfl,rfl,rfl⟩)(hf:ke prog f:=by exact tU _ (by kernel_rfl))(he:jc (kv s) xs some=some ds:=by exact rfl)(k:AQ Γ s aa b bf g Y aV ds:=by exact⟨rfl,Cz,BW,rfl⟩)(dC:∀d aq,aO d aq->kH Y b aq:=by exact t6):bq prog Γ l0 Q (o::l) ⟨s,b,g⟩:=il hC c.1 hf he k.1 k.2.1 k.2.2.1 c.2.1 c.2.2.1 c.2.2.2 k.2.2.2 dC h
theorem vI(hC:eI prog f aV ds Y aO)(h:∀d aq,aO d aq->bq prog Γ l0 Q l ⟨(t,d)::aa,aq++bf,g⟩)(c:tF l0 o s fo xs fB t Γ.n:=by exact⟨rfl,rfl,rfl,rfl⟩)(hf:ke prog f:=by exact tU _ (by kernel_rfl))(vp:ev (kv s) fo=some (.fn (.func f) first c7):=by exact rfl)(he:(jc (kv s) xs λ jx=>m8 first jx λ r=>m8 r c7 some)=some ds:=by exact rfl)(k:AQ Γ s aa b bf g Y aV ds:=by exact⟨rfl,Cz,BW,rfl⟩)(dC:∀d aq,aO d aq->kH Y b aq:=by exact t6):bq prog Γ l0 Q (o::l) ⟨s,b,g⟩:=yp hC c.1 hf vp he k.1 k.2.1 k.2.2.1 c.2.1 c.2.2.1 c.2.2.2 k.2.2.2 dC h
theorem vX(hC:fM prog f aV ds Y aO X)(T:∀v aq,X v aq->Q (.panic [pe v]) ⟨aa,aq++bf,g⟩)(h:∀d aq,aO d aq->bq prog Γ l0 Q l ⟨(t,d)::aa,aq++bf,g⟩)(c:tF l0 o s fo xs fB t Γ.n:=by exact⟨rfl,rfl,rfl,rfl⟩)(hf:ke prog f:=by exact tU _ (by kernel_rfl))(vp:ev (kv s) fo=some (.fn (.func f) first c7):=by exact rfl)(he:(jc (kv s) xs λ jx=>m8 first jx λ r=>m8 r c7 some)=some ds:=by exact rfl)(k:AQ Γ s aa b bf g Y aV ds:=by exact⟨rfl,Cz,BW,rfl⟩)(dC:∀d aq,aO d aq->kH Y b aq:=by exact t6)(qP:∀v aq,X v aq->kH Y b aq:=by exact t6):bq prog Γ l0 Q (o::l) ⟨s,b,g⟩:=Om hC c.1 hf vp he k.1 k.2.1 k.2.2.1 c.2.1 c.2.2.1 c.2.2.2 k.2.2.2 dC qP T h
theorem xX(hC:fM prog f aV ds Y aO X)(T:∀v aq,X v aq->Q (.panic [pe v]) ⟨aa,aq++bf,g⟩)(h:∀d aq,aO d aq->bq prog Γ l0 Q l ⟨(t,d)::aa,aq++bf,g⟩)(c:tF l0 o s (.func f) xs fB t Γ.n:=by exact⟨rfl,rfl,rfl,rfl⟩)(hf:ke prog f:=by exact tU _ (by kernel_rfl))(he:jc (kv s) xs some=some ds:=by exact rfl)(k:AQ Γ s aa b bf g Y aV ds:=by exact⟨rfl,Cz,BW,rfl⟩)(dC:∀d aq,aO d aq->kH Y b aq:=by exact t6)(qP:∀v aq,X v aq->kH Y b aq:=by exact t6):bq prog Γ l0 Q (o::l) ⟨s,b,g⟩:=VB hC c.1 hf he k.1 k.2.1 k.2.2.1 c.2.1 c.2.2.1 c.2.2.2 k.2.2.2 dC qP T h
theorem xP(hC:fM prog f aV ds Y aO X)(h:∀d aq,aO d aq->bq prog Γ l0 Q l ⟨(t,d)::aa,aq++bf,g⟩)(c:tF l0 o s (.func f) xs fB t Γ.n:=by exact⟨rfl,rfl,rfl,rfl⟩)(hf:ke prog f:=by exact tU _ (by kernel_rfl))(he:jc (kv s) xs some=some ds:=by exact rfl)(k:AQ Γ s aa b bf g Y aV ds:=by exact⟨rfl,Cz,BW,rfl⟩)(T:∀v aq,X v aq->Q (.panic [pe v]) ⟨aa,aq++bf,g⟩:=by exact Tv)(dC:∀d aq,aO d aq->kH Y b aq:=by exact t6)(qP:∀v aq,X v aq->kH Y b aq:=by exact t6):bq prog Γ l0 Q (o::l) ⟨s,b,g⟩:=xX hC T h c hf he k dC qP
theorem vP(hC:fM prog f aV ds Y aO X)(h:∀d aq,aO d aq->bq prog Γ l0 Q l ⟨(t,d)::aa,aq++bf,g⟩)(c:tF l0 o s fo xs fB t Γ.n:=by exact⟨rfl,rfl,rfl,rfl⟩)(hf:ke prog f:=by exact tU _ (by kernel_rfl))(vp:ev (kv s) fo=some (.fn (.func f) first c7):=by exact rfl)(he:(jc (kv s) xs λ jx=>m8 first jx λ r=>m8 r c7 some)=some ds:=by exact rfl)(k:AQ Γ s aa b bf g Y aV ds:=by exact⟨rfl,Cz,BW,rfl⟩)(T:∀v aq,X v aq->Q (.panic [pe v]) ⟨aa,aq++bf,g⟩:=by exact Tv)(dC:∀d aq,aO d aq->kH Y b aq:=by exact t6)(qP:∀v aq,X v aq->kH Y b aq:=by exact t6):bq prog Γ l0 Q (o::l) ⟨s,b,g⟩:=vX hC T h c hf vp he k dC qP
theorem fX{ex:Exit}(aq:bJ)(hR:aO d aq)(he:ex=.ret\/ex=.normal:=by first|exact .inl rfl|exact .inr rfl)(h:uK tb M rs=some d:=by exact rfl)(A:d.ok (aI aq) (λ _=>false)=true:=by exact rfl)(F:jN M (aI aq) aq:=by(repeat(first|exact trivial|refine⟨⟨rfl,rfl⟩,?_⟩)))(O:kK aq aV:=by(repeat(first|exact trivial|refine⟨rfl,?_⟩))):yh tb rs aV aO X ex M:=by
 rcases he with rfl|rfl
 ·exact XJ aq h A F O hR
 ·exact XH aq h A F O hR
theorem bA{x:Operand}{dx:K}{cs:List K}(nm:Nat)(h:bq prog Γ l0 Q l ⟨(t,.ptr nm 0)::s,(nm,cs)::b,g⟩)(ho:o.op=.box t1 x:=by exact rfl)(T:ev (kv s) x=some dx:=by exact rfl)(J:kE dx=true:=by exact rfl)(cR:mE dx some=some cs:=by exact rfl)(hg:gd l0 o (kv s)=some true:=by exact rfl)(D:o.dst=some t:=by exact rfl)(U:Nat.blt t Γ.n=true:=by exact rfl)(hf:kv b nm=none:=by exact rfl):bq prog Γ l0 Q (o::l) ⟨s,b,g⟩:=yn (FY nm ho T J cR) hg D U hf h
theorem nA{i:TI}{cs:List K}(nm:Nat)(h:bq prog Γ l0 Q l ⟨(t,.ptr nm 0)::s,(nm,cs)::b,g⟩)(ho:o.op=.alloc t1:=by exact rfl)(T:tb t1=some i:=by exact rfl)(J:kE (ki i.zero)=true:=by exact rfl)(cR:qC i.zero (λ d=>mE d some)=some cs:=by exact rfl)(hg:gd l0 o (kv s)=some true:=by exact rfl)(D:o.dst=some t:=by exact rfl)(U:Nat.blt t Γ.n=true:=by exact rfl)(hf:kv b nm=none:=by exact rfl):bq prog Γ l0 Q (o::l) ⟨s,b,g⟩:=yn (wH aD nm ho T J cR) hg D U hf h
theorem dW{l1 l2:List Oper}{id:Nat}(k:Nat)(ws:List Nat)(h:cJ prog Γ.n l B M.b (bq prog Γ l Q l2) 0 [] [] l1 M)(hs:(mD k l λ a=>la k l λ b=>some (a,b))=some (l1,l2):=by exact rfl)(hv:oZ ws M.b some=some B:=by exact rfl)(hm:prog.follows .mixedOrders=true:=by kernel_rfl)(hB:ra l.toArray Γ.n=true:=by kernel_rfl)(hT:uN l.toArray k=true:=by kernel_rfl):aP prog Γ (.region id l.toArray true) Q M:=OI k ws hs hv hm hB hT h
theorem dQ{id:Nat}(ws:List Nat)(h:cJ prog Γ.n l B M.b (Q .normal) 0 [] [] l M)(hv:oZ ws M.b some=some B:=by exact rfl)(hm:prog.follows .mixedOrders=true:=by kernel_rfl)(hB:ra l.toArray Γ.n=true:=by kernel_rfl):aP prog Γ (.region id l.toArray true) Q M:=OH ws hv hm hB h
theorem gW{aH:Prop}{l1 l2:List Oper}{id:Nat}(k:Nat)(ws:List Nat)(h:aH)(hs:(mD k l λ a=>la k l λ b=>some (a,b))=some (l1,l2):=by exact rfl)(hv:oZ ws M.b some=some B:=by exact rfl)(hm:prog.follows .mixedOrders=true:=by kernel_rfl)(hB:ra l.toArray Γ.n=true:=by kernel_rfl)(hT:uN l.toArray k=true:=by kernel_rfl)(e:qu aH->cJ prog Γ.n l B M.b (bq prog Γ l Q l2) 0 [] [] l1 M:=by intro h;refine br ?_;exact h.out):aP prog Γ (.region id l.toArray true) Q M:=OI k ws hs hv hm hB hT (e ⟨h⟩)
theorem gD{aH:Prop}{id:Nat}(ws:List Nat)(h:aH)(hv:oZ ws M.b some=some B:=by exact rfl)(hm:prog.follows .mixedOrders=true:=by kernel_rfl)(hB:ra l.toArray Γ.n=true:=by kernel_rfl)(e:qu aH->cJ prog Γ.n l B M.b (Q .normal) 0 [] [] l M:=by intro h;refine br ?_;exact h.out):aP prog Γ (.region id l.toArray true) Q M:=OH ws hv hm hB (e ⟨h⟩)
theorem ai{el ty:TypeId}{x y:Operand}{z1 z2:Nat}{z3:Value}{j:TI}{k:IntKind}{i:Int}{dx:K}{m:Nat}{ps:List Pl}(qs:List Pl)(hm:∀(m:Nat)(q:Pl),qs[m]?=some q->ps[i.toNat*j.sz+m]?=some q)(h:bq prog Γ l0 Q l ⟨(t,.el qs)::s,b,g⟩)(ho:o.op=.indexAddr ty x y:=by exact rfl)(sR:tb ty=some ⟨.slice el,z1,z2,z3⟩:=by exact rfl)(qL:tb el=some j:=by exact rfl)(T:ev (kv s) x=some dx:=by exact rfl)(jD:nK dx=some (m,ps):=by exact rfl)(hy:ev (kv s) y=some (.p (.raw (.int k i))):=by exact rfl)(h0:0<=i:=by first|omega|(simp;done)|(simp;omega))(A:i<m:=by first|omega|(simp;done)|(simp;omega))(hq:qs≠[]:=by first|(simp;done)|exact List.cons_ne_nil _ _)(hg:gd l0 o (kv s)=some true:=by exact rfl)(D:o.dst=some t:=by exact rfl)(U:Nat.blt t Γ.n=true:=by exact rfl):bq prog Γ l0 Q (o::l) ⟨s,b,g⟩:=bh (RG aD qs ho sR qL T jD hy h0 A hq hm) hg D U h
theorem aj{el ty:TypeId}{x y:Operand}{z1 z2:Nat}{z3:Value}{j:TI}{k:IntKind}{i:Int}{nm m c:Nat}(p q:Nat)(h:bq prog Γ l0 Q l ⟨(t,.ptr nm p)::s,b,g⟩)(ho:o.op=.indexAddr ty x y:=by exact rfl)(sR:tb ty=some ⟨.slice el,z1,z2,z3⟩:=by exact rfl)(qL:tb el=some j:=by exact rfl)(T:ev (kv s) x=some (.arr nm 0 m c):=by exact rfl)(hy:ev (kv s) y=some (.p (.raw (.int k i))):=by exact rfl)(h0:0<=i:=by omega)(A:i<m:=by omega)(hg:gd l0 o (kv s)=some true:=by exact rfl)(D:o.dst=some t:=by exact rfl)(U:Nat.blt t Γ.n=true:=by exact rfl)(hq:j.sz=q:=by exact rfl)(hp:p=i.toNat*q:=by omega):bq prog Γ l0 Q (o::l) ⟨s,b,g⟩:=bh (iu aD ho sR qL T hy h0 A (by rw[hq];exact hp)) hg D U h
theorem ri{el ty:TypeId}{x y:Operand}{z1 z2:Nat}{z3:Value}{j:TI}{k:IntKind}{i:Int}{dx:K}{m:Nat}{ps:List Pl}(qs:List Pl)(hm:∀(m:Nat)(q:Pl),qs[m]?=some q->ps[i.toNat*j.sz+m]?=some q)(h:cJ prog n l0 B B0 aG (ix+1) ay aE l ⟨(t,.el qs)::s,b,g⟩)(ho:o.op=.indexAddr ty x y:=by exact rfl)(sR:tb ty=some ⟨.slice el,z1,z2,z3⟩:=by exact rfl)(qL:tb el=some j:=by exact rfl)(T:ev (kv s) x=some dx:=by exact rfl)(jD:nK dx=some (m,ps):=by exact rfl)(hy:ev (kv s) y=some (.p (.raw (.int k i))):=by exact rfl)(h0:0<=i:=by first|omega|(simp;done)|(simp;omega))(A:i<m:=by first|omega|(simp;done)|(simp;omega))(hq:qs≠[]:=by first|(simp;done)|exact List.cons_ne_nil _ _)(hg:gd l0 o (kv s)=some true:=by exact rfl)(D:o.dst=some t:=by exact rfl):cJ prog n l0 B B0 aG ix ay aE (o::l) ⟨s,b,g⟩:=cV (RG aD qs ho sR qL T jD hy h0 A hq hm) hg D h
theorem rj{el ty:TypeId}{x y:Operand}{z1 z2:Nat}{z3:Value}{j:TI}{k:IntKind}{i:Int}{nm m c:Nat}(p q:Nat)(h:cJ prog n l0 B B0 aG (ix+1) ay aE l ⟨(t,.ptr nm p)::s,b,g⟩)(ho:o.op=.indexAddr ty x y:=by exact rfl)(sR:tb ty=some ⟨.slice el,z1,z2,z3⟩:=by exact rfl)(qL:tb el=some j:=by exact rfl)(T:ev (kv s) x=some (.arr nm 0 m c):=by exact rfl)(hy:ev (kv s) y=some (.p (.raw (.int k i))):=by exact rfl)(h0:0<=i:=by omega)(A:i<m:=by omega)(hg:gd l0 o (kv s)=some true:=by exact rfl)(D:o.dst=some t:=by exact rfl)(hq:j.sz=q:=by exact rfl)(hp:p=i.toNat*q:=by omega):cJ prog n l0 B B0 aG ix ay aE (o::l) ⟨s,b,g⟩:=cV (iu aD ho sR qL T hy h0 A (by rw[hq];exact hp)) hg D h
theorem pA{ty el:TypeId}{x y:Operand}{gn n1 m z1 z2:Nat}{z3:Value}{ps qs:List Pl}{dy:K}{i:TI}(cD:qs.length=m*i.sz)(h:bq prog Γ l0 Q l ⟨(t,.aW gn (n1+m) (ps++qs))::s,b,(gn,⟨el,i.sz,n1+m⟩)::g⟩)(ho:o.op=.call {callee:=.builtin .append,args:=#[x,y],argTypes:=#[ty,ty]}:=by exact rfl)(sR:tb ty=some ⟨.slice el,z1,z2,z3⟩:=by exact rfl)(qL:tb el=some i:=by exact rfl)(hz:Nat.beq i.zero.cells.size i.sz=true:=by exact rfl)(hp:Nat.blt 0 i.sz=true:=by exact rfl)(hg:gd l0 o (kv s)=some true:=by exact rfl)(D:o.dst=some t:=by exact rfl)(U:Nat.blt t Γ.n=true:=by exact rfl)(T:ev (kv s) x=some (.aW gn n1 ps):=by exact rfl)(hG:kv g gn=some ⟨el,i.sz,n1⟩:=by exact rfl)(hy:ev (kv s) y=some dy:=by exact rfl)(jD:nK dy=some (m,qs):=by exact rfl)(ZW:n1+m<=maxLen:=by unfold maxLen;first|omega|(simp;omega))(Z:(n1+m)*i.bytes<=140737488355328:=by show(_+_)*(_:Nat)<=_;first|(simp only[];omega)|omega|(simp;omega)):bq prog Γ l0 Q (o::l) ⟨s,b,g⟩:=oE aD ho sR qL hz hp hg D U T hG hy jD cD ZW Z h
theorem sP(hf:prog.funcs[f]?=some fn)(iX:fn.ntmps=n)(h:∀w cl,aP prog ⟨n,w,cl,λ _=>False,[],[]⟩ c (Fin tb rs d) ⟨s,[],[]⟩)(Z:fn.body=some c:=by exact rfl)(mm:fn.results.toList=rs:=by exact rfl)(hn:Nat.ble ds.length n=true:=by exact rfl)(hs:sL 0 ds some=some s:=by exact rfl):bc prog f ds d:=adH aD hf Z iX mm hn hs h
theorem sI(hf:prog.funcs[f]?=some fn)(iX:fn.ntmps=n)(h:∀w cl own kf,aP prog ⟨n,w,cl,own,mp kf aV,[]⟩ c (CS tb rs aV aO) ⟨s,Y,[]⟩)(Z:fn.body=some c:=by exact rfl)(mm:fn.results.toList=rs:=by exact rfl)(hn:Nat.ble ds.length n=true:=by exact rfl)(hs:sL 0 ds some=some s:=by exact rfl)(oO:kK Y aV:=by(repeat(first|exact trivial|refine⟨rfl,?_⟩))):eI prog f aV ds Y aO:=aa0 aD hf Z iX mm hn hs oO h
end
section
variable{X aH:Prop}
theorem ez(h:aH)(e:qu aH->X:=by intro h;(first|refine Pz rfl ?_|refine XK rfl ?_);exact h.out):X:=e ⟨h⟩
theorem gA{f:FuncId}{ds:List K}{d:K}(hC:bc prog f ds d)(h:aH)(e:bc prog f ds d->qu aH->X:=by intro hC h;refine go ?_;refine cA hC ?_;refine go ?_;exact h.out):X:=e hC ⟨h⟩
theorem gQ{f:FuncId}{ds:List K}{d:K}(hC:bc prog f ds d)(h:aH)(e:bc prog f ds d->qu aH->X:=by intro hC h;refine br ?_;refine cQ hC ?_;refine br ?_;exact h.out):X:=e hC ⟨h⟩
theorem gf(h:aH)(e:qu aH->X:=by intro h;refine go ?_;refine ez ?_;exact h.out):X:=e ⟨h⟩
theorem qg(h:aH)(e:qu aH->X:=by intro h;refine br ?_;refine go ?_;exact h.out):X:=e ⟨h⟩
end
end Go.Proofs.YtcnefjfboagbmaaGreat
