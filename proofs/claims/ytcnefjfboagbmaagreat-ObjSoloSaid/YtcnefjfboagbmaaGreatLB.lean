/- Contracts of functions that write, panic, recover; sets told by maps; how arguments are opened. -/
import Derived.Test.YtcnefjfboagbmaaGreatLA
import Derived.Recover
import Derived.MapKept
import Derived.ChangeKeysEq
import Derived.Test.YtcnefjfboagbmaaGreatRows
section
namespace Go.Proofs.YtcnefjfboagbmaaGreat
open Go.Proofs.Tryz
open Go.RowKit
section
variable{P:Program}{ae:Nat->Option TI}{Γ:bI}{J:St}
def lF:G->G
 |.aW _ n ps=>.p (.sl false n ps)
 |.p x=>.p (yG x)
 |d=>d
theorem KW{e:aA}{v:Value}{d:G}(h:bD e v d):bD e v (lF d):=by
 cases h with
 |p h=>exact .p h.low
 |aW h _=>exact .p h
 |agg R h=>exact .agg R h
 |bg R h=>exact .bg R h
 |ptr h=>exact .ptr h
 |el h=>exact .el h
 |arr h=>exact .arr h
 |fn a b c d=>exact .fn a b c d
 |any=>exact .any
theorem AY(t:Nat){d dR:G}(ht:kv J.s t=some d)(F:lF d=dR):bN Γ J ⟨(t,dR)::J.s,J.b,J.g⟩:=by
 intro a e L;refine⟨e,rfl,L.size,L.df,λ af c hu=>?_,L.boxes,L.ei,L.gs,L.env⟩;simp only[cM] at hu;split at hu
 ·rename_i lE;subst lE;cases hu;rw[<-F];exact KW (L.bP _ _ ht)
 ·exact L.bP af c hu
theorem qC(nm:Nat){cs aO:List G}(T:kv J.b nm=some cs)(F:cs.map lF=aO):bN Γ J ⟨J.s,(nm,aO)::J.b,J.g⟩:=by
 intro a e L;refine⟨e,rfl,L.size,L.df,L.bP,λ af c hu=>?_,λ af hu=>?_,L.gs,L.env⟩
 ·simp only[cM] at hu;split at hu
  ·rename_i lE;subst lE;cases hu;obtain⟨k,vs,el,h1,A,K,h4⟩:=L.boxes _ _ T;refine⟨k,vs,el,h1,A,by rw[<-F,List.length_map];exact K,λ i v d hv i9=>?_⟩;rw[<-F,List.getElem?_map] at i9;cases cH:cs[i]? with
   |none=>rw[cH] at i9;cases i9
   |some x=>rw[cH] at i9;cases i9;exact KW (h4 i v x hv cH)
  ·exact L.boxes af c hu
 ·simp only[cM] at hu;split at hu
  ·cases hu
  ·exact L.ei af hu
end
end Go.Proofs.YtcnefjfboagbmaaGreat
end
section
namespace Go.Proofs.YtcnefjfboagbmaaGreat
open Go.Proofs.Tryz
open Go.RowKit
section
variable{P:Program}{ae:Nat->Option TI}{Γ:bI}{J bU bc:St}{o:Oper}{l0 l:List Oper}{Q:Exit->St->Prop}
variable{s M:List (Nat×G)}{b bj:List (Nat×List G)}{g:List (Nat×Gr)}{t:Nat}{d:G}
abbrev pe(v:Value):PanicEntry:={v:=v,recovered:=false}
abbrev bE:=List (Nat×List G)
def fI(P:Program)(f:FuncId)(aU:List Nat)(ds:List G)(U:bE)(al:G->bE->Prop)(aa:Value->bE->Prop):Prop:=
 ∀(e:aA)(vs:List Value),fR U e->DReps e vs ds->
  Calls P f vs.toArray e.w (λ r aI=>(∃v d aq Y,r=.returned v/\Y.w=aI/\al d aq/\fR aq Y/\bD Y v d/\Left aU e Y)\/∃v aq Y,r=.panicked [pe v]/\Y.w=aI/\aa v aq/\fR aq Y/\Left aU e Y)
theorem eo.x{f:FuncId}{aU:List Nat}{ds:List G}{U:bE}{al:G->bE->Prop}{aa:Value->bE->Prop}(h:eo P f aU ds U al):fI P f aU ds U al aa:=λ e vs h1 A=>(h e vs h1 A).mono λ _ _ hh=>.inl hh
theorem fI.c{f:FuncId}{aU:List Nat}{ds:List G}{U:bE}{al:G->bE->Prop}(h:fI P f aU ds U al λ _ _=>False):eo P f aU ds U al:=λ e vs h1 A=>(h e vs h1 A).mono λ _ _ hh=>hh.elim id λ⟨_,_,_,_,_,O,_⟩=>O.elim
theorem QB{f:FuncId}{aU:List Nat}{ds:List G}{U:bE}{al:G->bE->Prop}{aa:Value->bE->Prop}(hC:fI P f aU ds U al aa){e:aA}{a:Act}(L:bu Γ ⟨s,b,g⟩ e a){vs:List Value}(hv:DReps e vs ds)(aQ:G.ok.eA (aF U) (λ _=>false) ds=true)(hs:js ⟨s,b,g⟩ (aF U) U)(dI:rI aU U Γ.kb)
 (F:o.dst=some t)(R:Nat.blt t Γ.n=true)(gx:lx (λ b=>!aF U b||ie aU b) s (λ M=>lL (aF U) (λ b=>!aF U b||ie aU b) b (λ bj=>some (M,bj)))=some (M,bj))
 (dm:∀d aq,al d aq->ke U b aq)(qu:∀v aq,aa v aq->ke U b aq){d9:Exit->Act->World->Prop}:
 Calls P f vs.toArray e.w λ
  |.returned v,nk=>∃d aq Y,al d aq/\Y.w=nk/\bu Γ ⟨(t,d)::M,aq++bj,g⟩ Y (a.put o.dst v)
  |.panicked ch,nk=>∃v aq Y,ch=[pe v]/\aa v aq/\Y.w=nk/\bu Γ ⟨M,aq++bj,g⟩ Y a
  |.outgrown,_=>LetsOut d9:=by
 rw[um,ul] at gx;cases gx;refine(hC (e.cut (aF U) λ _=>false) vs (ly L hs) ⟨hv.1,λ i v d h1 A=>(hv.2 i v d h1 A).cut (qD aQ A)⟩).mono λ r aI hh=>?_
 rcases hh with⟨v,d,aq,Y,rfl,rfl,hR,hI,hr,Z⟩|⟨v,aq,Y,rfl,rfl,hX,hI,Z⟩
 ·obtain⟨h1,A⟩:=L.after hI Z (λ n hn=>(dm d aq hR).get hn) (λ n k h1 A=>dI.get h1 A);refine⟨d,aq,e.after Y U aq,hR,rfl,?_⟩;have:=h1.put (dst:=o.dst) (qk F R) (hr.next A);rw[F] at this⊢;exact this
 ·obtain⟨h1,_⟩:=L.after hI Z (λ n hn=>(qu v aq hX).get hn) (λ n k h1 A=>dI.get h1 A);exact⟨v,aq,e.after Y U aq,rfl,hX,rfl,h1⟩
theorem Ny{f:FuncId}{al:G->bE->Prop}{aa:Value->bE->Prop}(hg:gd l0 o (kv s)=some true)(cJ:∀(a:Act)(e:aA),bu Γ ⟨s,b,g⟩ e a->∃vs:List Value,(execOp a.eval o).run P e.w=.ok (.enter f vs.toArray) e.w/\∀d9:Exit->Act->World->Prop,Calls P f vs.toArray e.w λ
 |.returned v,nk=>∃d aq Y,al d aq/\Y.w=nk/\bu Γ ⟨(t,d)::M,aq++bj,g⟩ Y (a.put o.dst v)
 |.panicked ch,nk=>∃v aq Y,ch=[pe v]/\aa v aq/\Y.w=nk/\bu Γ ⟨M,aq++bj,g⟩ Y a
 |.outgrown,_=>LetsOut d9)
 (h:∀d aq,al d aq->bp P Γ l0 Q l ⟨(t,d)::M,aq++bj,g⟩)(O:∀v aq,aa v aq->Q (.panic [pe v]) ⟨M,aq++bj,g⟩):bp P Γ l0 Q (o::l) ⟨s,b,g⟩:=by
 refine⟨λ a e L=>?_⟩;unfold wpList;rw[if_pos (lN L hg)];refine .inl ?_;obtain⟨vs,e1,hC⟩:=cJ a e L;unfold Oper.wp;rw[e1];refine(hC (jr Γ Q)).mono λ r aI hh=>?_
 cases r with
 |returned v=>obtain⟨d,aq,Y,hR,rfl,ey⟩:=hh;exact(h d aq hR).run _ Y ey
 |panicked ch=>obtain⟨v,aq,Y,rfl,hX,rfl,ey⟩:=hh;exact⟨_,Y,rfl,ey,O v aq hX⟩
 |outgrown=>exact hh
theorem T4{f:FuncId}{aU:List Nat}{ds:List G}{U:bE}{al:G->bE->Prop}{aa:Value->bE->Prop}{xs:List Operand}{fx:Array TypeId}(hC:fI P f aU ds U al aa)(ho:o.op=.call {callee:=.value (.func f),args:=xs.toArray,argTypes:=fx})(hf:jN P f)(he:i5 (kv s) xs some=some ds)(aQ:G.ok.eA (aF U) (λ _=>false) ds=true)(hs:js ⟨s,b,g⟩ (aF U) U)(dI:rI aU U Γ.kb)
 (hg:gd l0 o (kv s)=some true)(F:o.dst=some t)(R:Nat.blt t Γ.n=true)(gx:lx (λ b=>!aF U b||ie aU b) s (λ M=>lL (aF U) (λ b=>!aF U b||ie aU b) b (λ bj=>some (M,bj)))=some (M,bj))
 (dm:∀d aq,al d aq->ke U b aq)(qu:∀v aq,aa v aq->ke U b aq)(O:∀v aq,aa v aq->Q (.panic [pe v]) ⟨M,aq++bj,g⟩)(h:∀d aq,al d aq->bp P Γ l0 Q l ⟨(t,d)::M,aq++bj,g⟩):bp P Γ l0 Q (o::l) ⟨s,b,g⟩:=by
 refine Ny (f:=f) hg (λ a e L=>?_) h O;have jn:=L.iI o.op.operands;have hv:=CB (a:=a) (e:=e) xs (λ x O=>jn.1 x (by rw[ho];simp[Op.operands,Call.operands,O])) he;refine⟨xs.map a.eval,?_,λ d9=>QB hC L hv aQ hs dI F R gx dm qu⟩;obtain⟨dst,op,type,pos,after,guard⟩:=o;simp only at ho;subst ho;rw[execOp_call_go,hf];simp
theorem MW{f:FuncId}{aU:List Nat}{ds first cG:List G}{U:bE}{al:G->bE->Prop}{aa:Value->bE->Prop}{fo:Operand}{xs:List Operand}{fx:Array TypeId}(hC:fI P f aU ds U al aa)(ho:o.op=.call {callee:=.value fo,args:=xs.toArray,argTypes:=fx})(hf:jN P f)(uy:ev (kv s) fo=some (.fn (.func f) first cG))(he:i5 (kv s) xs (λ jm=>mE first jm λ r=>mE r cG some)=some ds)(aQ:G.ok.eA (aF U) (λ _=>false) ds=true)(hs:js ⟨s,b,g⟩ (aF U) U)(dI:rI aU U Γ.kb)
 (hg:gd l0 o (kv s)=some true)(F:o.dst=some t)(R:Nat.blt t Γ.n=true)(gx:lx (λ b=>!aF U b||ie aU b) s (λ M=>lL (aF U) (λ b=>!aF U b||ie aU b) b (λ bj=>some (M,bj)))=some (M,bj))
 (dm:∀d aq,al d aq->ke U b aq)(qu:∀v aq,aa v aq->ke U b aq)(O:∀v aq,aa v aq->Q (.panic [pe v]) ⟨M,aq++bj,g⟩)(h:∀d aq,al d aq->bp P Γ l0 Q l ⟨(t,d)::M,aq++bj,g⟩):bp P Γ l0 Q (o::l) ⟨s,b,g⟩:=by
 refine Ny (f:=f) hg (λ a e L=>?_) h O;have jn:=L.iI o.op.operands;obtain⟨jm,hr,nB⟩:=td (a:=a) (e:=e) xs _ ds (λ x O=>jn.1 x (by rw[ho];simp[Op.operands,Call.operands,O])) he;rw[qO,qO] at nB;cases nB;have wq:=jn.1 fo (by rw[ho];simp[Op.operands,Call.operands]) _ uy;generalize dk:a.eval fo=gv at wq;cases wq with
 |fn ia dJ h1 A=>rename_i us vs;have cT:DReps e (us++xs.map a.eval++vs) (first++jm++cG):=(DReps.append ⟨ia,h1⟩ hr).append ⟨dJ,A⟩;refine⟨us++xs.map a.eval++vs,?_,λ d9=>QB hC L cT aQ hs dI F R gx dm qu⟩;obtain⟨dst,op,type,pos,after,guard⟩:=o;simp only at ho;subst ho;simp only[execOp,resolve,dk,Deferred.ofValue,Sem.run_bind,Sem.run_pure,Result.andThen_ok,invoke];rw[hf];simp
def xn(ae:Nat->Option TI)(rs:List ResultVar)(aU:List Nat)(al:G->bE->Prop)(aa:Value->bE->Prop):Exit->St->Prop
 |.normal,J|.ret,J=>∃d aq,tX ae J rs=some d/\d.ok (aF aq) (λ _=>false)=true/\js J (aF aq) aq/\ki aq aU/\al d aq
 |.panic ch,J=>∃v aq,ch=[pe v]/\js J (aF aq) aq/\ki aq aU/\aa v aq
 |_,_=>False
theorem Wr{rs:List ResultVar}{aU:List Nat}{al:G->bE->Prop}{aa:Value->bE->Prop}(aq:bE)(h:tX ae J rs=some d)(h1:d.ok (aF aq) (λ _=>false)=true)(A:js J (aF aq) aq)(K:ki aq aU)(hR:al d aq):xn ae rs aU al aa .ret J:=⟨d,aq,h,h1,A,K,hR⟩
theorem Wp{rs:List ResultVar}{aU:List Nat}{al:G->bE->Prop}{aa:Value->bE->Prop}(aq:bE)(h:tX ae J rs=some d)(h1:d.ok (aF aq) (λ _=>false)=true)(A:js J (aF aq) aq)(K:ki aq aU)(hR:al d aq):xn ae rs aU al aa .normal J:=⟨d,aq,h,h1,A,K,hR⟩
theorem Wq{rs:List ResultVar}{aU:List Nat}{al:G->bE->Prop}{aa:Value->bE->Prop}{v:Value}(aq:bE)(A:js J (aF aq) aq)(K:ki aq aU)(hX:aa v aq):xn ae rs aU al aa (.panic [pe v]) J:=⟨v,aq,rfl,A,K,hX⟩
theorem acg{aL:St->Prop}{ch:List PanicEntry}(h:Q (.panic ch) J):rG aL Q (.panic ch) J:=h
theorem ace{id:Nat}{ch:List PanicEntry}(h:Q (.panic ch) J):qi id Q (.panic ch) J:=h
theorem acf{ch:List PanicEntry}(h:Q (.panic ch) J):BA Q (.panic ch) J:=h
theorem uT{f:FuncId}{fn:Func}{ds:List G}{aU:List Nat}{U:bE}(dn:List Deferred)(hn:ds.length<=fn.ntmps)(nZ:ki U aU){e:aA}{vs:List Value}(hI:fR U e)(hv:DReps e vs ds)(_:f=f):
 bu ⟨fn.ntmps,e.w,e.cl,λ k=>∃b,e.bx b=some k,lW (λ b=>(e.bx b).getD 0) aU,dn⟩ ⟨uo.go 0 ds,U,[]⟩ e {tmps:=vs.toArray++Array.replicate (fn.ntmps-vs.toArray.size) undef,defers:=dn}:=by
 have R:vs.length=ds.length:=hv.1;refine⟨by simp;omega,rfl,λ t d0 ht=>?_,hI.boxes,hI.ei,λ g=>by rw[hI.gi];rfl,⟨nQ.refl _ _,λ _ _ _=>rfl,λ b k I=>⟨(hI.bx b k I).1,.inr ⟨b,I⟩,(hI.bx b k I).2,hI.gr k⟩,hI.inj,λ k g I=>(by rw[hI.gr] at I;cases I),λ b k I=>?_⟩⟩
 ·obtain⟨_,A⟩:=Cz ds 0 t d0 ht;simp only[Nat.sub_zero] at A;obtain⟨v,K,h4⟩:=hv.get A;have gz:t<vs.length:=(List.getElem?_eq_some_iff.1 K).1;have:fZ {tmps:=vs.toArray++Array.replicate (fn.ntmps-vs.toArray.size) undef,defers:=dn} t=v:=by
   unfold fZ;simp only[Array.getD_eq_getD_getElem?];rw[Array.getElem?_append_left (by simpa using gz),List.getElem?_toArray,K]
   rfl
  rw[this];exact h4
 ·obtain⟨h1,A⟩:=AU I;rw[A];have aP:=nZ.get h1;obtain⟨cs,cH⟩:=Option.isSome_iff_exists.1 aP;obtain⟨jd,_,_,K,_⟩:=hI.boxes b cs cH;rw[K];rfl
theorem imp_left{aU:List Nat}{U aq:bE}{n:Nat}{dn:List Deferred}{e Y:aA}{a:Act}(hI:fR U e)(nZ:ki U aU)(L:bu ⟨n,e.w,e.cl,λ k=>∃b,e.bx b=some k,lW (λ b=>(e.bx b).getD 0) aU,dn⟩ J Y a)(h7:ki aq aU):Left aU e (Y.cut (aF aq) λ _=>false):=by
 refine⟨L.env.kept,L.env.cl,λ b k I=>?_,λ b T=>?_⟩
 ·have dv:(if aF aq b=true then Y.bx b else none)=some k:=I;split at dv
  ·exact(L.env.bx b k dv).2.1
  ·cases dv
 ·show(if aF aq b=true then Y.bx b else none)=_;have aP:=nZ.get T;obtain⟨cs,cH⟩:=Option.isSome_iff_exists.1 aP;obtain⟨jd,_,_,K,_⟩:=hI.boxes b cs cH;rw[if_pos (h7.get T),L.env.kb b _ (yA T),K];rfl
theorem ZI(hT:cW P ae){f:FuncId}{fn:Func}{c:Code}{ds:List G}{aU:List Nat}{U:bE}{al:G->bE->Prop}{aa:Value->bE->Prop}{rs:List ResultVar}{n:Nat}{s:List (Nat×G)}(hf:P.funcs[f]?=some fn)(T:fn.body=some c)(iu:fn.ntmps=n)(lU:fn.results.toList=rs)(hn:Nat.ble ds.length n=true)(hs:rV 0 ds some=some s)(nZ:ki U aU)
 (h:∀w cl own kf,aK P ⟨n,w,cl,own,lW kf aU,[]⟩ c (xn ae rs aU al aa) ⟨s,U,[]⟩):fI P f aU ds U al aa:=by
 subst iu;subst lU;rw[zz] at hs;cases hs;have hn:=Nat.le_of_ble_eq_true hn;intro e vs hI hv;refine calls_of_wp hf T ?_;have L:=uT (fn:=fn) (f:=f) (aU:=aU) [] hn nZ hI hv rfl;refine Code.wp_mono (λ ex br aI hh=>?_) ((h e.w e.cl _ _).run _ e L);obtain⟨bU,Y,rfl,A,K⟩:=hh;have Qj:(∃d aq,tX ae bU fn.results.toList=some d/\d.ok (aF aq) (λ _=>false)=true/\js bU (aF aq) aq/\ki aq aU/\al d aq)->br.defers=[]/\∃v,(results fn br.tmps).run P Y.w=.ok v Y.w/\((∃kY d aq nu,Ending.returned v=.returned kY/\nu.w=Y.w/\al d aq/\fR aq nu/\bD nu kY d/\Left aU e nu)\/∃kY aq nu,Ending.returned v=.panicked [pe kY]/\nu.w=Y.w/\aa kY aq/\fR aq nu/\Left aU e nu):=by rintro⟨d,aq,h4,h5,h6,h7,h8⟩;obtain⟨v,hr,hv⟩:=pd hT A h4;exact⟨A.df,v,hr,.inl ⟨v,d,aq,Y.cut (aF aq) λ _=>false,rfl,rfl,h8,ly A h6,hv.cut h5,imp_left hI nZ A h7⟩⟩
 cases ex with
 |normal=>exact Qj K
 |ret=>exact Qj K
 |panic ch=>obtain⟨v,aq,rfl,h6,h7,h8⟩:=K;exact⟨A.df,.inr ⟨v,aq,Y.cut (aF aq) λ _=>false,rfl,rfl,h8,ly A h6,imp_left hI nZ A h7⟩⟩
 |exit id=>exact K.elim
 |goto l=>exact K.elim
 |outgrown=>exact K.elim
def Bv:G->Option Value
 |.p (.raw v)=>some v
 |_=>none
def yT{ar:Type}:List G->(List Value->Option ar)->Option ar
 |[],k=>k []
 |d::l,k=>match Bv d with
  |some v=>yT l λ r=>k (v::r)
  |none=>none
def Ec:G->Option Value
 |.agg ds=>yT ds λ vs=>some (.agg vs.toArray)
 |d=>Bv d
theorem LG{e:aA}{v af:Value}{d:G}(h:bD e v d)(F:Bv d=some af):v=af:=by
 unfold Bv at F;split at F
 ·cases F;exact cR h
 ·cases F
theorem Sl{ar:Type}{e:aA}:∀{ds:List G}{vs:List Value}{k:List Value->Option ar}{r:ar},DReps e vs ds->yT ds k=some r->k vs=some r
 |[],vs,k,r,hv,h=>by
  have:vs=[]:=List.eq_nil_of_length_eq_zero hv.1;subst this;exact h
 |d::ds,vs,k,r,hv,h=>by
  obtain⟨v,fh,rfl,h1,A⟩:=hv.xi;simp only[yT] at h;split at h
  ·rename_i af hu;have:=LG h1 hu;subst this;exact Sl (k:=λ r=>k (v::r)) A h
  ·cases h
theorem acn{e:aA}{v af:Value}{d:G}(h:bD e v d)(F:Ec d=some af):v=af:=by
 unfold Ec at F;split at F
 ·cases h with
  |agg R hh=>rename_i vs;have:=Sl (e:=e) (vs:=vs) ⟨R,hh⟩ F;cases this;rfl
 ·exact LG h F
def TK.known:TK->Bool
 |.other=>false
 |_=>true
theorem QQ(hT:cW P ae){ty:TypeId}{i:TI}(ht:ae ty=some i)(I:i.k.known=true):∃dd,P.underlying ty=some dd/\∀ms,dd≠.interface ms:=by obtain⟨dd,h1,A⟩:=hT.desc ty i ht;refine⟨dd,h1,λ ms e=>?_⟩;subst e;rw[<-A] at I;cases I
theorem DH(hT:cW P ae){S:Nat->Option G}{B:Nat->Option (List G)}{ty:TypeId}{x:Operand}{i:TI}{dx:G}{v:Value}(ho:o.op=.makeInterface ty x)(ht:ae ty=some i)(I:i.k.known=true)(O:ev S x=some dx)(hv:Ec dx=some v):dH P o S B (.p (.raw (.iface ty v))) none:=by
 refine jh λ a e hs=>⟨_,?_,.p (.raw _)⟩
 have bO:=acn (hs.1 x (by rw[ho];simp[Op.operands]) _ O) hv;obtain⟨dd,h1,A⟩:=QQ hT ht I;obtain⟨dst,op,type,pos,after,guard⟩:=o;simp only at ho;subst ho;simp only[execOp,Instr.makeInterface,Sem.run_bind,run_underlying h1,Result.andThen_ok,bO];cases dd with
 |interface ms=>exact absurd rfl (A ms)
 |_=>rfl
theorem Cb{x:Operand}{ty:TypeId}{v:Value}(ho:o.op=.panic x)(O:ev (kv s) x=some (.p (.raw (.iface ty v))))(hg:gd l0 o (kv s)=some true)(h:Q (.panic [pe (.iface ty v)]) ⟨s,b,g⟩):bp P Γ l0 Q (o::l) ⟨s,b,g⟩:=by
 refine⟨λ a e L=>?_⟩;unfold wpList;rw[if_pos (lN L hg)];refine .inl ?_;have bO:=N4 L O;have e1:(execOp a.eval o).run P e.w=.halt (.panic (.iface ty v)) e.w:=by
  obtain⟨dst,op,type,pos,after,guard⟩:=o;simp only at ho;subst ho;simp only[execOp,Instr.panic,bO]
  rfl
 unfold Oper.wp;rw[e1];exact⟨_,e,rfl,L,h⟩
end
end Go.Proofs.YtcnefjfboagbmaaGreat
end
section
namespace Go.Proofs.YtcnefjfboagbmaaGreat
open Go.Proofs.Tryz
open Go.RowKit
section
variable{P:Program}{ae:Nat->Option TI}{Γ:bI}{S:Nat->Option G}{B:Nat->Option (List G)}{o:Oper}
def Hc{ar:Type}:List G->(List Pl->Option ar)->Option ar
 |.p x::l,k=>bif x.lf then Hc l λ r=>k (x::r) else k []
 |_,k=>k []
theorem RZ{ar:Type}:∀{l:List G}{k:List Pl->Option ar}{r:ar},Hc l k=some r->∃ps,k ps=some r/\∀(i:Nat) x,ps[i]?=some x->l[i]?=some (.p x)/\x.lf=true
 |[],k,r,h=>⟨[],h,λ i x O=>by simp at O⟩
 |d::l,k,r,h=>by
  cases d with
  |p x=>
   simp only[Hc] at h;cases O:x.lf with
   |false=>rw[O] at h;exact⟨[],h,λ i x O=>by simp at O⟩
   |true=>
    rw[O] at h;obtain⟨ps,h1,A⟩:=RZ (l:=l) (k:=λ r=>k (x::r)) h;refine⟨x::ps,h1,λ i y hy=>?_⟩;cases i with
    |zero=>simp at hy;subst hy;exact⟨rfl,O⟩
    |succ i=>simpa using A i y (by simpa using hy)
  |_=>exact⟨[],h,λ i x O=>by simp at O⟩
def GD{ar:Type}(B:Nat->Option (List G))(d:G)(k:G->Option ar):Option ar:=match d with
 |.ptr b o=>match B b with
  |some cs=>kN o cs λ r=>Hc r λ ps=>k (.el ps)
  |none=>none
 |d=>d.sC k
def GF{ar:Type}(B:Nat->Option (List G)):List G->(List G->Option ar)->Option ar
 |[],k=>k []
 |d::l,k=>GD B d λ x=>GF B l λ r=>k (x::r)
def KO{ar:Type}(B:Nat->Option (List G))(d:G)(k:G->Option ar):Option ar:=match d with
 |.fn f first cG=>GF B first λ a=>GF B cG λ c=>k (.fn f a c)
 |d=>GD B d k
def DP{ar:Type}(B:Nat->Option (List G)):List G->(List G->Option ar)->Option ar
 |[],k=>k []
 |d::l,k=>KO B d λ x=>DP B l λ r=>k (x::r)
open Classical in
noncomputable def aA.nH(e:aA):Nat->Option Nat:=λ k=>if∃b,e.bx b=some k then none else e.cl k
theorem Q5{e:aA}{b o:Nat}(h:e.np b o):(gR e.w e.nH).np b o:=by
 intro k I;have dv:e.nH b=some k:=I;unfold aA.nH at dv;split at dv
 ·cases dv
 ·exact h k dv
theorem Z8{e:aA}{b k o:Nat}(h:e.bx b=some k):(gR e.w e.nH).np k o:=by intro m hm;have rc:e.nH k=some m:=hm;unfold aA.nH at rc;rw[if_pos ⟨b,h⟩] at rc;cases rc
theorem db.nH{e:aA}{v:Value}{x:Pl}(h:db e v x):db (gR e.w e.nH) v x:=by
 induction h with
 |raw v=>exact .raw v
 |sl f h1 A K h4 h5 h6 ih=>refine .sl f h1 A K h4 (λ i x O=>?_) ih;obtain⟨b,o,hA,L,hv,R⟩:=h5 i x O;exact⟨b,o,hA,Q5 L,hv,R⟩
theorem Z9(e:aA):Ends (gR e.w e.cl) (gR e.w e.nH):=
 ⟨λ b o v h1 A=>⟨Q5 (e:=e) h1,A⟩,λ _ _ h=>(by cases h),λ _ _ h=>(by cases h),λ _ _ _ _ h=>(by cases h)⟩
theorem Q2{ar:Type}{e:aA}(hB:∀b cs,B b=some cs->hc e b cs){v:Value}{d:G}{k:G->Option ar}{r:ar}(h:bD e v d)(I:GD B d k=some r):∃dR,bD (gR e.w e.nH) v dR/\k dR=some r:=by
 have PT:d.sC k=some r->∃dR,bD (gR e.w e.nH) v dR/\k dR=some r:=λ I=>by
  rw[GH] at I;obtain⟨dR,h1,A⟩:=Option.bind_eq_some_iff.1 I;exact⟨dR,(GI h dR h1).next (Z9 e),A⟩
 unfold GD at I;split at I
 ·rename_i nm of;split at I
  ·rename_i cs cH;obtain⟨h1,A⟩:=nt I;obtain⟨ps,K,h4⟩:=RZ A;refine⟨.el ps,?_,K⟩;cases h with
   |ptr i8=>
    obtain⟨kk,vs,el,b1,b2,b3⟩:=hB nm cs cH;rw[i8] at b1;cases b1;refine .el ⟨λ i=>(vs[of+i]?).getD undef,λ i x O=>?_⟩;obtain⟨h5,h6⟩:=h4 i x O;rw[List.getElem?_drop] at h5;obtain⟨af,h7,h8⟩:=b3.get h5;have hp:db e af x:=by cases h8 with|p h=>exact h
    have hg:(vs[of+i]?).getD undef=af:=by rw[h7];rfl
    refine⟨Z8 i8,?_,?_,?_⟩
    ·show e.w.cell? _=some ((vs[of+i]?).getD undef);rw[cell_of_row e.w _ (of+i) _ el (0,0) b2,List.getElem?_toArray,hg,h7]
    ·show lX ((vs[of+i]?).getD undef)=true;rw[hg];exact KP hp h6
    ·show db _ ((vs[of+i]?).getD undef) x;rw[hg];exact hp.nH
  ·cases I
 ·exact PT I
theorem KN{ar:Type}{e:aA}(hB:∀b cs,B b=some cs->hc e b cs):∀{ds:List G}{vs:List Value}{k:List G->Option ar}{r:ar},DReps e vs ds->GF B ds k=some r->∃ik,DReps (gR e.w e.nH) vs ik/\k ik=some r
 |[],vs,k,r,h,I=>by
  have:vs=[]:=List.eq_nil_of_length_eq_zero h.1;subst this;exact⟨[],DReps.nil _,I⟩
 |d::ds,vs,k,r,h,I=>by
  obtain⟨v,fh,rfl,h1,A⟩:=h.xi;obtain⟨dR,q1,q2⟩:=Q2 hB h1 I;obtain⟨ik,q3,q4⟩:=KN hB A q2;exact⟨dR::ik,q3.cons q1,q4⟩
theorem Z7{ar:Type}{e:aA}(hB:∀b cs,B b=some cs->hc e b cs){v:Value}{d:G}{k:G->Option ar}{r:ar}(h:bD e v d)(I:KO B d k=some r):∃dR,bD (gR e.w e.nH) v dR/\k dR=some r:=by
 unfold KO at I;split at I
 ·cases h with
  |fn a1 a2 a3 a4=>rename_i us vs;obtain⟨ik,q1,q2⟩:=KN hB (vs:=us) ⟨a1,a3⟩ I;obtain⟨aO,q3,q4⟩:=KN hB (vs:=vs) ⟨a2,a4⟩ q2;exact⟨_,.fn q1.1 q3.1 q1.2 q3.2,q4⟩
 ·exact Q2 hB h I
theorem Q4{ar:Type}{e:aA}(hB:∀b cs,B b=some cs->hc e b cs):∀{ds:List G}{vs:List Value}{k:List G->Option ar}{r:ar},DReps e vs ds->DP B ds k=some r->∃ik,DReps (gR e.w e.nH) vs ik/\k ik=some r
 |[],vs,k,r,h,I=>by
  have:vs=[]:=List.eq_nil_of_length_eq_zero h.1;subst this;exact⟨[],DReps.nil _,I⟩
 |d::ds,vs,k,r,h,I=>by
  obtain⟨v,fh,rfl,h1,A⟩:=h.xi;obtain⟨dR,q1,q2⟩:=Z7 hB h1 I;obtain⟨ik,q3,q4⟩:=Q4 hB A q2;exact⟨dR::ik,q3.cons q1,q4⟩
def Bu:G->Bool
 |.bg ds=>(yT ds λ _=>some ()).isSome
 |d=>(Ec d).isSome
theorem LH{ar:Type}{e Y:aA}:∀{ds:List G}{vs:List Value}{k:List Value->Option ar}{r:ar},DReps e vs ds->yT ds k=some r->DReps Y vs ds
 |[],vs,k,r,h,_=>by
  have:vs=[]:=List.eq_nil_of_length_eq_zero h.1;subst this;exact DReps.nil _
 |d::ds,vs,k,r,h,I=>by
  obtain⟨v,fh,rfl,h1,A⟩:=h.xi;simp only[yT] at I;split at I
  ·rename_i af hu;refine(LH A I).cons ?_;unfold Bv at hu;split at hu
   ·cases hu;rw[cR h1];exact .p (.raw _)
   ·cases hu
  ·cases I
theorem acm{e Y:aA}{v:Value}{d:G}(h:bD e v d)(F:Bu d=true):bD Y v d:=by
 unfold Bu at F;split at F
 ·obtain⟨r,hr⟩:=Option.isSome_iff_exists.1 F;cases h with
  |bg R hh=>exact .bg R (LH (e:=e) ⟨R,hh⟩ hr).2
 ·obtain⟨af,hu⟩:=Option.isSome_iff_exists.1 F;unfold Ec at hu;split at hu
  ·cases h with
   |agg R hh=>exact .agg R (LH (e:=e) ⟨R,hh⟩ hu).2
  ·have:=LG h hu;subst this;unfold Bv at hu;split at hu
   ·cases hu;exact .p (.raw _)
   ·cases hu
theorem Z6{f:FuncId}{ds:List G}{d:G}(hC:aX P f ds d)(F:Bu d=true){e:aA}{vs:List Value}(hv:DReps (gR e.w e.nH) vs ds){a:Act}{o:Oper}:
 Calls P f vs.toArray e.w λ
  |.returned v,nk=>∃kY Y,a.put o.dst v=a.put o.dst kY/\Y.w=nk/\oJ e Y kY d none
  |.panicked _,_=>False
  |.outgrown,_=>LetsOut (λ _ _ _=>False):=by
 refine(hC e.w e.nH vs hv).mono λ r aI hh=>?_
 obtain⟨v,bz,rfl,T,_,hr⟩:=hh;exact⟨v,{e with w:=aI,cl:=λ k=>if k<e.w.heap.size then e.cl k else bz k},rfl,rfl,⟨T,λ k I=>if_pos I,rfl,rfl,rfl⟩,acm hr F⟩
theorem Q3{f:FuncId}{xs:List Operand}{fx:Array TypeId}{ds:List G}{d:G}(hC:aX P f ds d)(ho:o.op=.call {callee:=.value (.func f),args:=xs.toArray,argTypes:=fx})(hf:jN P f)(he:i5 S xs (λ jm=>DP B jm some)=some ds)(F:Bu d=true):dH P o S B d none:=by
 intro a e hs _;obtain⟨jm,h1,A⟩:=td (a:=a) (e:=e) xs _ ds (λ x O=>hs.1 x (by rw[ho];simp[Op.operands,Call.operands,O])) he;obtain⟨ik,K,h4⟩:=Q4 hs.2 h1 A;cases h4;unfold Oper.wp;have e1:(execOp a.eval o).run P e.w=.ok (.enter f (xs.map a.eval).toArray) e.w:=by obtain⟨dst,op,type,pos,after,guard⟩:=o;simp only at ho;subst ho;rw[execOp_call_go,hf];simp
 rw[e1];exact Z6 hC F K
end
end Go.Proofs.YtcnefjfboagbmaaGreat
end
section
namespace Go.Proofs.YtcnefjfboagbmaaGreat
open Go.Proofs.Tryz
open Go.RowKit
section
variable{P:Program}{ae:Nat->Option TI}{S:Nat->Option G}{B:Nat->Option (List G)}{o:Oper}
theorem y8{n:Int}(h0:0<=n)(h:n<9223372036854775808):IntKind.i64.wrap n=n:=eI (by omega) (by omega)
theorem M8(a:Int)(b:Nat)(T:b<=62):IntKind.i64.wrap (((BitVec.ofInt 64 a&&&BitVec.ofInt 64 (2^b-1:Int)).toNat:Nat):Int)=a%2^b:=by
 have hp:(2:Int)^b-1=((2^b-1:Nat):Int):=by
  have:=Nat.one_le_two_pow (n:=b);rw[Int.ofNat_sub this]
  norm_cast
 have ba:(2:Nat)^b<=2^62:=Nat.pow_le_pow_right (by omega) T;have h1:(BitVec.ofInt 64 a&&&BitVec.ofInt 64 (2^b-1:Int)).toNat=(a%18446744073709551616).toNat%2^b:=by
  rw[hp,BitVec.toNat_and,BitVec.toNat_ofInt,BitVec.ofInt_natCast,BitVec.toNat_ofNat,Nat.mod_eq_of_lt (a:=2^b-1) (by omega),Nat.and_two_pow_sub_one_eq_mod]
  rfl
 rw[h1];have A:(((a%18446744073709551616).toNat%2^b:Nat):Int)=a%2^b:=by
  rw[Int.natCast_emod,Int.toNat_of_nonneg (Int.emod_nonneg _ (by decide))];have F:((2^b:Nat):Int)∣18446744073709551616:=by
   have:(2:Nat)^b∣2^64:=Nat.pow_dvd_pow 2 (by omega);have WT:(18446744073709551616:Int)=((2^64:Nat):Int):=by decide
   rw[WT];exact Int.natCast_dvd_natCast.2 this
  rw[Int.emod_emod_of_dvd _ F]
  norm_cast
 rw[A];have rf:(0:Int)<2^b:=Int.pow_pos (by omega);have K:a%2^b<2^b:=Int.emod_lt_of_pos _ rf;have h4:(2:Int)^b<=4611686018427387904:=by
  have h5:((2^b:Nat):Int)<=((2^62:Nat):Int):=Int.ofNat_le.2 ba;have h6:((2^62:Nat):Int)=4611686018427387904:=by decide
  rw[h6,Int.natCast_pow] at h5;exact h5
 exact y8 (Int.emod_nonneg _ (by omega)) (by omega)
theorem RF{a q:Int}{k:Nat}(h0:0<=a)(h1:a<2^k)(hq:0<=q)(L:a+2^k*q<9223372036854775808):IntKind.i64.wrap (((BitVec.ofInt 64 a|||BitVec.ofInt 64 (2^k*q:Int)).toNat:Nat):Int)=a+2^k*q:=by
 obtain⟨a,rfl⟩:=Int.eq_ofNat_of_zero_le h0;obtain⟨q,rfl⟩:=Int.eq_ofNat_of_zero_le hq;have e1:(2:Int)^k*(q:Int)=((2^k*q:Nat):Int):=by rw[Int.natCast_mul,Int.natCast_pow];rfl
 have aP:a<2^k:=Int.ofNat_lt.1 (by rw[Int.natCast_pow];exact h1);rw[e1] at L⊢;have K:a+2^k*q=(a|||2^k*q):=by rw[Nat.or_comm,<-Nat.two_pow_add_eq_or_of_lt aP,Nat.add_comm]
 generalize 2^k*q=m at L K⊢;have A:(BitVec.ofInt 64 (a:Int)|||BitVec.ofInt 64 (m:Int)).toNat=a+m:=by rw[BitVec.toNat_or,BitVec.ofInt_natCast,BitVec.ofInt_natCast,BitVec.toNat_ofNat,BitVec.toNat_ofNat,Nat.mod_eq_of_lt (by omega),Nat.mod_eq_of_lt (by omega),K]
 rw[A,Int.natCast_add];exact y8 (by omega) L
theorem Bh{ty af:TypeId}{x y:Operand}{a c:Int}(k:Nat)(q:Int)(ho:o.op=.binOp .or ty x y af)(O:ev S x=some (u a))(hy:ev S y=some (u c))(XF:c=2^k*q)(h0:0<=a)(h1:a<2^k)(hq:0<=q)(L:a+c<9223372036854775808):dH P o S B (u (a+c)) none:=by
 subst XF;refine jh λ ac e hs=>?_
 have bO:=cR (hs.1 x (by rw[ho];simp[Op.operands]) _ O);have ff:=cR (hs.1 y (by rw[ho];simp[Op.operands]) _ hy);refine⟨_,?_,.p (.raw _)⟩;obtain⟨dst,op,type,pos,after,guard⟩:=o;simp only at ho;subst ho;have T:(binOp .or ty (.int .i64 a) (.int .i64 (2^k*q:Int))).run P e.w=.ok (.int .i64 (a+2^k*q)) e.w:=by rw[<-RF h0 h1 hq L];rfl
 simp[execOp,bO,ff,eqGuard,T]
theorem vp{ty af:TypeId}{x y:Operand}{a i:Int}(n:Nat)(ho:o.op=.binOp .shl ty x y af)(O:ev S x=some (u a))(hy:ev S y=some (u i))(X:i=n)(hn:n<=62)(h0:0<=a)(hm:a*2^n<9223372036854775808):dH P o S B (u (a*2^n)) none:=by
 subst X;refine jh λ ac e hs=>?_
 have bO:=cR (hs.1 x (by rw[ho];simp[Op.operands]) _ O);have ff:=cR (hs.1 y (by rw[ho];simp[Op.operands]) _ hy);refine⟨_,?_,.p (.raw _)⟩;obtain⟨dst,op,type,pos,after,guard⟩:=o;simp only at ho;subst ho;have A:min n 64=n:=by omega
 have T:(binOp .shl ty (.int .i64 a) (.int .i64 (n:Int))).run P e.w=.ok (.int .i64 (a*2^n)) e.w:=by show(Op.shift .shl .i64 a .i64 (n:Int)).run P e.w=_;rw[shift_shl_any _ _ _ _ (Int.natCast_nonneg n)];show Result.ok (Value.int .i64 (IntKind.i64.wrap (a*2^min ((n:Int).toNat) 64))) e.w=_;rw[Int.toNat_natCast,A,y8 (Int.mul_nonneg h0 (Int.le_of_lt (Int.pow_pos (by omega)))) hm]
 simp[execOp,bO,ff,eqGuard,T]
theorem Es{ty af:TypeId}{x y:Operand}{a:Int}(n:Nat)(ho:o.op=.binOp .shr ty x y af)(O:ev S x=some (u a))(hy:ev S y=some (.p (.raw (.int .u64 (n:Int)))))(hn:n<=63):dH P o S B (u (a/2^n)) none:=by
 refine jh λ ac e hs=>?_
 have bO:=cR (hs.1 x (by rw[ho];simp[Op.operands]) _ O);have ff:=cR (hs.1 y (by rw[ho];simp[Op.operands]) _ hy);refine⟨_,?_,.p (.raw _)⟩;obtain⟨dst,op,type,pos,after,guard⟩:=o;simp only at ho;subst ho;have A:min n 64=n:=by omega
 have T:(binOp .shr ty (.int .i64 a) (.int .u64 (n:Int))).run P e.w=.ok (.int .i64 (a/2^n)) e.w:=by show(Op.shift .shr .i64 a .u64 (n:Int)).run P e.w=_;rw[shift_shr_any _ _ _ _ (Int.natCast_nonneg n)];show Result.ok (Value.int .i64 (a/2^min ((n:Int).toNat) 64)) e.w=_;rw[Int.toNat_natCast,A]
 simp[execOp,bO,ff,eqGuard,T]
end
end Go.Proofs.YtcnefjfboagbmaaGreat
end
section
namespace Go.Proofs.YtcnefjfboagbmaaGreat
open Go.Proofs.Tryz
open Go.RowKit
section
variable{P:Program}{ae:Nat->Option TI}{Γ:bI}{o:Oper}{l0 l:List Oper}{Q:Exit->St->Prop}
variable{s:List (Nat×G)}{b:List (Nat×List G)}{g:List (Nat×Gr)}{t:Nat}{J:St}
def HT(w aI:World)(bz:Nat->Option Nat)(v:Value)(el sz n:Nat):Prop:=
 ∃ab bK,v=.slice ab n bK/\(bK=n\/∃k cur,ab=some ⟨k,0,none⟩/\w.heap.size<=k/\k<aI.heap.size/\bz k=some (n*sz)/\aI.heap[k]?=some (.cells cur el (0,0))/\cur.size=bK*sz)
def BV(P:Program)(f:FuncId)(ds:List G)(el sz n:Nat)(ps:List Pl):Prop:=
 ∀(w:World)(cl:Nat->Option Nat)(vs:List Value),DReps (gR w cl) vs ds->
  Calls P f vs.toArray w (λ r aI=>∃v bz,r=.returned v/\Below w.heap.size w aI/\(∀k,k<w.heap.size->bz k=cl k)/\bD (gR aI bz) v (.p (.sl false n ps))/\HT w aI bz v el sz n)
theorem BV.pure{f:FuncId}{ds:List G}{el sz n:Nat}{ps:List Pl}(h:BV P f ds el sz n ps):aX P f ds (.p (.sl false n ps)):=λ w cl vs hv=>(h w cl vs hv).mono λ _ _⟨v,bz,h1,A,K,h4,_⟩=>⟨v,bz,h1,A,K,h4⟩
theorem bu.Um{e:aA}{a:Act}(L:bu Γ J e a){gn:Nat}(hg:kv J.g gn=none){el sz n k:Nat}{cur:Array Value}(pD:Γ.w0.heap.size<=k)(mR:k<e.w.heap.size)(mS:e.cl k=some (n*sz))(x5:e.gr k=none)(Yn:∀b,e.bx b≠some k)(FT:e.w.heap[k]?=some (.cells cur el (0,0))):
 bu Γ ⟨J.s,J.b,(gn,⟨el,sz,n⟩)::J.g⟩ {e with gr:=λ j=>if j=k then some gn else e.gr j,gi:=λ h=>if h=gn then some ⟨el,sz,n⟩ else e.gi h} a/\Ends e {e with gr:=λ j=>if j=k then some gn else e.gr j,gi:=λ h=>if h=gn then some ⟨el,sz,n⟩ else e.gi h}:=by
 have fC:e.gi gn=none:=by rw[L.gs];exact hg
 have qx:∀k,e.gr k≠some gn:=λ k I=>by obtain⟨au,_,h,_⟩:=L.env.gr k gn I;rw[fC] at h;cases h
 have E:Ends e {e with gr:=λ j=>if j=k then some gn else e.gr j,gi:=λ h=>if h=gn then some ⟨el,sz,n⟩ else e.gi h}:=by
  refine⟨λ _ _ _ h1 A=>⟨h1,A⟩,λ _ _ h=>h,λ dS au h=>⟨au,?_,rfl,rfl,Nat.le_refl _⟩,λ j dS au kL h1 A K=>⟨?_,kL,K,rfl⟩⟩
  ·show(if dS=gn then _ else e.gi dS)=_;rw[if_neg (λ Y=>by rw[Y,fC] at h;cases h)];exact h
  ·show(if j=k then some gn else e.gr j)=_;rw[if_neg (λ Y=>by rw[Y,x5] at h1;cases h1)];exact h1
 refine⟨⟨L.size,L.df,λ t d ht=>(L.bP t d ht).next E,λ b cs T=>(L.boxes b cs T).ends E rfl,L.ei,λ h=>?_,L.env.kept,L.env.cl,λ b j hj=>?_,L.env.inj,λ j dS hj=>?_,L.env.kb⟩,E⟩
 ·show(if h=gn then _ else e.gi h)=_;simp only[cM]
  by_cases e1:h=gn
  ·subst e1;simp
  ·rw[if_neg e1,if_neg (λ Y=>e1 Y.symm)];exact L.gs h
 ·obtain⟨h1,A,K,h4⟩:=L.env.bx b j hj;refine⟨h1,A,K,?_⟩;show(if j=k then some gn else e.gr j)=none;rw[if_neg (λ Y=>Yn b (by rw[<-Y];exact hj))];exact h4
 ·have eF:(if j=k then some gn else e.gr j)=some dS:=hj;split at eF
  ·rename_i mf;cases eF;exact⟨⟨el,sz,n⟩,cur,by show(if gn=gn then _ else _)=_;simp,by rw[mf];exact mR,.inl (by rw[mf];exact pD),by rw[mf];exact mS,by rw[mf];exact FT⟩
  ·obtain⟨au,kL,h1,A⟩:=L.env.gr j dS eF;exact⟨au,kL,by show(if dS=gn then _ else e.gi dS)=_;rw[if_neg (λ Y=>qx j (by rw[<-Y];exact eF))];exact h1,A⟩
theorem bu.Ul{e:aA}{a:Act}(L:bu Γ J e a){gn:Nat}(hg:kv J.g gn=none)(el sz n:Nat):
 bu Γ ⟨J.s,J.b,(gn,⟨el,sz,n⟩)::J.g⟩ {e with gi:=λ h=>if h=gn then some ⟨el,sz,n⟩ else e.gi h} a/\Ends e {e with gi:=λ h=>if h=gn then some ⟨el,sz,n⟩ else e.gi h}:=by
 have fC:e.gi gn=none:=by rw[L.gs];exact hg
 have qx:∀k,e.gr k≠some gn:=λ k I=>by obtain⟨au,_,h,_⟩:=L.env.gr k gn I;rw[fC] at h;cases h
 have E:Ends e {e with gi:=λ h=>if h=gn then some ⟨el,sz,n⟩ else e.gi h}:=
  ⟨λ _ _ _ h1 A=>⟨h1,A⟩,λ _ _ h=>h,λ dS au h=>⟨au,by show(if dS=gn then _ else e.gi dS)=_;rw[if_neg (λ Y=>by rw[Y,fC] at h;cases h)];exact h,rfl,rfl,Nat.le_refl _⟩,λ _ _ _ cur h1 _ K=>⟨h1,cur,K,rfl⟩⟩
 refine⟨⟨L.size,L.df,λ t d ht=>(L.bP t d ht).next E,λ b cs T=>(L.boxes b cs T).ends E rfl,L.ei,λ h=>?_,L.env.kept,L.env.cl,L.env.bx,L.env.inj,λ k dS I=>?_,L.env.kb⟩,E⟩
 ·show(if h=gn then _ else e.gi h)=_;simp only[cM]
  by_cases e1:h=gn
  ·subst e1;simp
  ·rw[if_neg e1,if_neg (λ Y=>e1 Y.symm)];exact L.gs h
 ·obtain⟨au,cur,h1,A⟩:=L.env.gr k dS I;exact⟨au,cur,by show(if dS=gn then _ else e.gi dS)=_;rw[if_neg (λ Y=>qx k (by rw[<-Y];exact I))];exact h1,A⟩
theorem Ih{f:FuncId}(gn:Nat){el sz n:Nat}{ps:List Pl}{ds:List G}{xs:List Operand}{fx:Array TypeId}(hC:BV P f ds el sz n ps)(ho:o.op=.call {callee:=.value (.func f),args:=xs.toArray,argTypes:=fx})(hf:jN P f)(he:i5 (kv s) xs G.low.kA=some ds)(hg:gd l0 o (kv s)=some true)(F:o.dst=some t)(R:Nat.blt t Γ.n=true)(x2:kv g gn=none)(cO:ps.length=n*sz)
 (h:bp P Γ l0 Q l ⟨(t,.aW gn n ps)::s,b,(gn,⟨el,sz,n⟩)::g⟩):bp P Γ l0 Q (o::l) ⟨s,b,g⟩:=by
 refine vG (J:=⟨s,b,g⟩) (bU:=⟨(t,.aW gn n ps)::s,b,(gn,⟨el,sz,n⟩)::g⟩) hg (λ a e L=>?_) h;have jn:=L.iI o.op.operands;obtain⟨jm,h1,A⟩:=td (a:=a) (e:=e) xs _ ds (λ x O=>jn.1 x (by rw[ho];simp[Op.operands,Call.operands,O])) he;have hv:=KX h1 A;have e1:(execOp a.eval o).run P e.w=.ok (.enter f (xs.map a.eval).toArray) e.w:=by obtain⟨dst,op,type,pos,after,guard⟩:=o;simp only at ho;subst ho;rw[execOp_call_go,hf];simp
 unfold Oper.wp;rw[e1];refine(hC e.w e.cl _ hv).mono λ r aI hh=>?_
 obtain⟨v,bz,rfl,T,dT,hr,ab,bK,rfl,se⟩:=hh;have JR:kg e {e with w:=aI,cl:=bz}:=⟨T,λ k I=>dT k I,rfl,rfl,rfl⟩;have bR:=L.grow JR;have mX:db {e with w:=aI,cl:=bz} (.slice ab n bK) (.sl false n ps):=by cases hr with|p h=>exact db.env (e:=gR aI bz) (Y:={e with w:=aI,cl:=bz}) rfl rfl h
 have tz:=qk (o:=o) F R;rcases se with Jz|⟨k,cur,hA,k1,k2,k3,k4,k5⟩
 ·obtain⟨K,h4⟩:=bR.Ul (gn:=gn) x2 el sz n;have:=K.put tz (v:=.slice ab n bK) (d:=.aW gn n ps) (.aW (mX.next h4) ⟨⟨el,sz,n⟩,ab,bK,by simp,rfl,Nat.le_refl _,cO,.inl Jz⟩);rw[F] at this⊢;exact⟨_,(by rfl),this⟩
 ·have q1:e.gr k=none:=by
   rcases ja:e.gr k with _|dS
   ·rfl
   ·obtain⟨_,_,_,ba,_⟩:=L.env.gr k dS ja;omega
  have q2:∀b,e.bx b≠some k:=λ b nz=>by have:=(L.env.bx b k nz).1;omega
  obtain⟨K,h4⟩:=bR.Um (gn:=gn) x2 (n:=n) (sz:=sz) (k:=k) (Nat.le_trans L.env.kept.size k1) k2 k3 q1 q2 k4;have:=K.put tz (v:=.slice ab n bK) (d:=.aW gn n ps) (.aW (mX.next h4) ⟨⟨el,sz,n⟩,ab,bK,by simp,rfl,Nat.le_refl _,cO,.inr ⟨k,hA,⟨by simp,cur,k4,k5⟩⟩⟩);rw[F] at this⊢;exact⟨_,(by rfl),this⟩
def HS(t:Nat)(el sz n:Nat)(ps:List Pl):Exit->St->Prop:=λ ex J=>(ex=.normal\/ex=.ret)/\((∃g,kv J.s t=some (.aW g n ps)/\kv J.g g=some ⟨el,sz,n⟩)\/kv J.s t=some (.p (.sl true n ps)))
theorem Wo{t el sz n g:Nat}{ps:List Pl}(h:kv J.s t=some (.aW g n ps))(hg:kv J.g g=some ⟨el,sz,n⟩):HS t el sz n ps .ret J:=⟨.inr rfl,.inl ⟨g,h,hg⟩⟩
theorem Wn{t el sz n:Nat}{ps:List Pl}(h:kv J.s t=some (.p (.sl true n ps))):HS t el sz n ps .ret J:=⟨.inr rfl,.inr h⟩
theorem WC{f:FuncId}{fn:Func}{c:Code}{ds:List G}{el sz m:Nat}{ps:List Pl}{t n:Nat}{s:List (Nat×G)}(hf:P.funcs[f]?=some fn)(T:fn.body=some c)(iu:fn.ntmps=n)(lU:fn.results=#[.tmp t])(hn:Nat.ble ds.length n=true)(hs:rV 0 ds some=some s)
 (h:∀w cl,aK P ⟨n,w,cl,λ _=>False,[],[]⟩ c (HS t el sz m ps) ⟨s,[],[]⟩):BV P f ds el sz m ps:=by
 subst iu;rw[zz] at hs;cases hs;have hn:=Nat.le_of_ble_eq_true hn;intro w cl vs hv;refine calls_of_wp hf T ?_;have R:vs.length=ds.length:=hv.1;have L:bu ⟨fn.ntmps,w,cl,λ _=>False,[],[]⟩ ⟨uo.go 0 ds,[],[]⟩ (gR w cl) {tmps:=vs.toArray++Array.replicate (fn.ntmps-vs.toArray.size) undef,defers:=[]}:=by
  refine⟨by simp;omega,rfl,λ t d0 ht=>?_,λ b cs T=>(by cases T),λ b _=>rfl,λ g=>rfl,⟨nQ.refl _ _,λ _ _ _=>rfl,λ b k I=>(by cases I),λ b c k I=>(by cases I),λ k g I=>(by cases I),λ b k I=>(by cases I)⟩⟩;obtain⟨_,A⟩:=Cz ds 0 t d0 ht;simp only[Nat.sub_zero] at A;obtain⟨v,K,h4⟩:=hv.get A;have gz:t<vs.length:=(List.getElem?_eq_some_iff.1 K).1;have:fZ {tmps:=vs.toArray++Array.replicate (fn.ntmps-vs.toArray.size) undef,defers:=[]} t=v:=by
   unfold fZ;simp only[Array.getD_eq_getD_getElem?];rw[Array.getElem?_append_left (by simpa using gz),List.getElem?_toArray,K]
   rfl
  rw[this];exact h4
 refine Code.wp_mono (λ ex br aI hh=>?_) ((h w cl).run _ (gR w cl) L);obtain⟨bU,Y,rfl,A,K,h4⟩:=hh;have Jx:Below w.heap.size w Y.w:=⟨A.env.kept.os,A.env.kept.tape,A.env.kept.output,A.env.kept.size,λ k I=>A.env.kept.block k I (λ h=>h)⟩;have Kk:(results fn br.tmps).run P Y.w=.ok (fZ br t) Y.w:=by rw[Bx,lU];simp[Eh,fZ]
 have hv:bD (gR Y.w Y.cl) (fZ br t) (.p (.sl false m ps))/\HT w Y.w Y.cl (fZ br t) el sz m:=by
  rcases h4 with⟨g,h5,h6⟩|h5
  ·have h7:=A.bP t _ h5;generalize fZ br t=v at h7;cases h7 with
   |aW hp ht=>obtain⟨au,ab,bK,g1,g2,g3,g4,g5⟩:=ht;rw[A.gs,h6] at g1;cases g1;refine⟨.p (db.env (e:=Y) (Y:=gR Y.w Y.cl) rfl rfl hp),ab,bK,g2,g5.imp id ?_⟩;rintro⟨k,rfl,q1,cur,q2,q3⟩;obtain⟨mD,kL,r1,r2,r3,r4,r5⟩:=A.env.gr k g q1;rw[A.gs,h6] at r1;cases r1;exact⟨k,cur,rfl,r3.elim id (λ hh=>hh.elim),r2,r4,q2,q3⟩
  ·have h7:=A.bP t _ h5;generalize fZ br t=v at h7;cases h7 with
   |p hp=>refine⟨.p (db.env (e:=Y) (Y:=gR Y.w Y.cl) rfl rfl hp.low),?_⟩;obtain⟨ab,bK,g1,_,_,_,g5,_⟩:=qH hp;exact⟨ab,bK,g1,.inl (g5 rfl)⟩
 have kR:br.defers=[]/\∃v,(results fn br.tmps).run P Y.w=.ok v Y.w/\∃kY bz,Ending.returned v=.returned kY/\Below w.heap.size w Y.w/\(∀k,k<w.heap.size->bz k=cl k)/\bD (gR Y.w bz) kY (.p (.sl false m ps))/\HT w Y.w bz kY el sz m:=
  ⟨A.df,_,Kk,_,Y.cl,rfl,Jx,λ k I=>A.env.cl k I (λ h=>h),hv.1,hv.2⟩
 rcases K with rfl|rfl
 ·exact kR
 ·exact kR
end
end Go.Proofs.YtcnefjfboagbmaaGreat
end
section
namespace Go.Proofs.YtcnefjfboagbmaaGreat
open Go.Proofs.Tryz
open Go.RowKit
section
variable{P:Program}{ae:Nat->Option TI}{S:Nat->Option G}{B:Nat->Option (List G)}{o:Oper}
theorem KA(hT:cW P ae){t el:TypeId}{x y:Operand}{n:Nat}{ps qs:List Pl}{k:IntKind}{i:Int}{z1 z2:Nat}{z3:Value}{j:TI}(ho:o.op=.indexAddr t x y)(ht:ae t=some ⟨.array n el,z1,z2,z3⟩)(he:ae el=some j)
 (O:ev S x=some (.el ps))(hy:ev S y=some (.p (.raw (.int k i))))(h0:0<=i)(ba:i<n)(hq:kN (i.toNat*j.sz) ps some=some qs):dH P o S B (.el qs) none:=by
 refine jh λ a e hs=>?_
 have h1:=hs.1 x (by rw[ho];simp[Op.operands]) _ O;have A:=cR (hs.1 y (by rw[ho];simp[Op.operands]) _ hy);obtain⟨bG,bm⟩:=nt hq;cases bm;generalize hv:a.eval x=vx at h1;cases h1 with
 |el T=>
  rename_i kk of;obtain⟨d0,dV,I⟩:=hT.desc t _ ht;cases d0<;>simp only[jJ,reduceCtorEq,TK.array.injEq] at I
  rw[I.1,I.2] at dV;refine⟨.pointer (some ⟨kk,of+i.toNat*j.sz,none⟩),?_,.el (T.part _ λ m q hm=>by rw[List.getElem?_drop] at hm;exact hm)⟩;obtain⟨dst,op,type,pos,after,guard⟩:=o;simp only at ho;subst ho;simp[execOp,Instr.indexAt,Instr.sureAddr,A,hv,asIntOf,run_underlying dV,h0,ba,run_sizeOf hT he,rM]
theorem GO{x y:Operand}{fx:Array TypeId}{a b:Int}(ho:o.op=.call {callee:=.builtin .max,args:=#[x,y],argTypes:=fx})(O:ev S x=some (u a))(hy:ev S y=some (u b)):dH P o S B (u (if b>a then b else a)) none:=by
 refine jh λ ac e hs=>?_
 have bO:=cR (hs.1 x (by rw[ho];simp[Op.operands,Call.operands]) _ O);have ff:=cR (hs.1 y (by rw[ho];simp[Op.operands,Call.operands]) _ hy);refine⟨_,?_,.p (.raw _)⟩;obtain⟨dst,op,type,pos,after,guard⟩:=o;simp only at ho;subst ho;simp only[execOp,resolve,invoke,builtin,Sem.run_bind,Sem.run_pure,Result.andThen_ok,List.map_toArray,List.map_cons,List.map_nil,bO,ff,run_max_int2]
end
end Go.Proofs.YtcnefjfboagbmaaGreat
end
section
namespace Go.Proofs.YtcnefjfboagbmaaGreat
open Go.Proofs.Tryz
open Go.RowKit
section
variable{P:Program}{ae:Nat->Option TI}
inductive B5:FrameMode->Value->FrameMode->Prop where
 |no:B5 .returning .nilIface .returning
 |yes (v:Value):B5 (.panicking [pe v]) v (.panicking [{v:=v,recovered:=true}])
theorem B5.WK{af pV:FrameMode}{v:Value}(h:B5 af v pV)(c:Frame)(cs:List Frame)(hu:c.mode=af):(recoverD (c::cs)=none/\v=.nilIface/\pV=af)\/recoverD (c::cs)=some (v,{c with mode:=pV}::cs):=by
 cases h with
 |no=>left;simp[recoverD,hu]
 |yes v=>right;simp[recoverD,hu]
theorem wY{f:FuncId}{fn:Func}{id:Nat}{o:Oper}{c:Code}{ds:List G}{aU:List Nat}{U:bE}{al:bE->Prop}{n t:Nat}{s:List (Nat×G)}(hf:P.funcs[f]?=some fn)(T:fn.body=some (.seq (.region id #[o] false) c))(iu:fn.ntmps=n)(lU:fn.results.toList=[])(hn:Nat.ble ds.length n=true)(hs:rV 0 ds some=some s)(nZ:ki U aU)
 (ho:∀(a:Act)(w:World),(execOp a.eval o).run P w=.ok .recover w)(hw:∀ad0,Region.wanted o (yielded #[o] ad0)=true)(i9:o.dst=some t)(R:Nat.blt t n=true){af pV:FrameMode}{v:Value}(hr:B5 af v pV)
 (h:∀w cl own kf,aK P ⟨n,w,cl,own,lW kf aU,[]⟩ c (BS ae [] aU λ _ aq=>al aq) ⟨(t,.p (.raw v))::s,U,[]⟩){e:aA}{vs:List Value}(hI:fR U e)(hv:DReps e vs ds):
 CallsD P f vs.toArray af e.w λ r u2 aI=>∃Y aq,r=.returned (.tuple #[])/\u2=pV/\Y.w=aI/\fR aq Y/\Left aU e Y/\al aq:=by
 subst iu;rw[zz] at hs;cases hs;have hn:=Nat.le_of_ble_eq_true hn;refine callsD_of_wpS hf T λ xC cs hu=>?_
 have L:=uT (fn:=fn) (f:=f) (aU:=aU) [] hn nZ hI hv rfl;have bR:bu _ ⟨(t,.p (.raw v))::uo.go 0 ds,U,[]⟩ e _:=L.put (dst:=some t) (show Nat.blt t _=true from R) (bD.p (db.raw v));have Dy:∀aO,aO={xC with mode:=pV}::cs->c.wpS P (bodyPostS P fn xC cs λ r u2 aI=>∃Y aq,r=.returned (.tuple #[])/\u2=pV/\Y.w=aI/\fR aq Y/\Left aU e Y/\al aq) (({tmps:=vs.toArray++Array.replicate (fn.ntmps-vs.toArray.size) undef,defers:=[]}:Act).put (some t) v) aO e.w:=by
  rintro aO rfl;refine wpS_of_wp (Code.wp_mono (λ ex br aI hh=>?_) ((h e.w e.cl _ _).run _ e bR));obtain⟨bU,Y,rfl,A,K,d,aq,h4,h5,h6,h7,h8⟩:=hh;have Kk:(results fn br.tmps).run P Y.w=.ok (.tuple #[]) Y.w:=by
   have:fn.results=#[]:=by cases se:fn.results;rw[se] at lU;simp at lU;rw[lU]
   rw[Bx,this];simp
  have kR:br.defers=[]/\∃u2,({xC with mode:=pV}::cs:List Frame)={xC with mode:=u2}::cs/\∃vv,(results fn br.tmps).run P Y.w=.ok vv Y.w/\∃nu Nv,Ending.returned vv=.returned (.tuple #[])/\u2=pV/\nu.w=Y.w/\fR Nv nu/\Left aU e nu/\al Nv:=
   ⟨A.df,pV,rfl,_,Kk,Y.cut (aF aq) λ _=>false,aq,rfl,rfl,rfl,ly A h6,imp_left hI nZ A h7,h8⟩
  rcases K with rfl|rfl
  ·exact kR
  ·exact kR
 refine wpS_seq (wpS_region ?_);show wpOpsS P #[o] _ [0] _ _ _;have cH:({xC with mode:=af}:Frame)=xC:=by rw[<-hu]
 simp only[wpOpsS,List.getElem?_toArray,List.getElem?_cons_zero,hw,if_true,ho];rcases hr.WK xC cs hu with⟨q1,q2,q3⟩|q1
 ·rw[q1];subst q2;subst q3;show Code.wpS P c _ _ _ _;rw[i9];exact Dy _ (by rw[cH])
 ·rw[q1];show Code.wpS P c _ _ _ _;rw[i9];exact Dy _ rfl
end
end Go.Proofs.YtcnefjfboagbmaaGreat
end
section
namespace Go.Proofs.YtcnefjfboagbmaaGreat
open Go.Proofs.Tryz
open Go.RowKit
section
variable{P:Program}{ae:Nat->Option TI}{Γ:bI}{s M:List (Nat×G)}{b bj:bE}{g:List (Nat×Gr)}
theorem BJ{id:Nat}{o1 o2:Oper}{J:St}{e:aA}{a:Act}{fc:FuncId}{xs:List Operand}{s9:List G}{t:Nat}{fx:Array TypeId}(L:bu Γ J e a)(h1:o1.op=.makeFunc (.func fc) #[] xs.toArray)(g1:gd [o1,o2] o1 (kv J.s)=some true)(d1:o1.dst=some t)(l1:Nat.blt t Γ.n=true)(he:i5 (kv J.s) xs some=some s9)
 (A:o2.op=.defer {callee:=.value (.tmp t),args:=#[],argTypes:=fx})(g2:gd [o1,o2] o2 (kv (J.put (some t) (.fn (.func fc) [] s9)).s)=some true)(d2:o2.dst=none){Q:Exit->Act->World->Prop}
 (QN:List (Nat×Nat))(Yp:∀b k,kv QN b=some k->e.bx b=some k)
 (h:∀(br:Act)(cG:List Value),DReps e cG s9->bu {Γ with kb:=QN,dl:={target:=.fn (.func fc) cG.toArray,args:=#[]}::Γ.dl} (J.put (some t) (.fn (.func fc) [] s9)) e br->Q .normal br e.w):(Code.region id #[o1,o2] false).wp P Q a e.w:=by
 have jn:=L.iI o1.op.operands;have hv:=CB (a:=a) (e:=e) xs (λ x O=>jn.1 x (by rw[h1];simp[Op.operands,O])) he;have F:bD e (.func (.func fc) #[] (xs.map a.eval).toArray) (.fn (.func fc) [] s9):=.fn (us:=[]) rfl hv.1 (λ i v d h=>by simp at h) hv.2;have bR:bu Γ (J.put (some t) (.fn (.func fc) [] s9)) e (a.put (some t) (.func (.func fc) #[] (xs.map a.eval).toArray)):=L.put (dst:=some t) (show Nat.blt t _=true from l1) F;refine wp_region_lit (l:=[o1,o2]) ?_;unfold wpList;rw[if_pos (lN L g1)];refine .inl ?_;have e1:(execOp a.eval o1).run P e.w=.ok (.value (.func (.func fc) #[] (xs.map a.eval).toArray)) e.w:=by obtain⟨dst,op,type,pos,after,guard⟩:=o1;simp only at h1;subst h1;simp[execOp,Instr.makeFunc]
 unfold Oper.wp;rw[e1,Oper.upon_value,d1];unfold wpList;rw[if_pos (lN bR g2)];refine .inl ?_;have ht:(a.put (some t) (.func (.func fc) #[] (xs.map a.eval).toArray)).eval (.tmp t)=.func (.func fc) #[] (xs.map a.eval).toArray:=by have hs:fZ (a.put (some t) (.func (.func fc) #[] (xs.map a.eval).toArray)) t=_:=Eu (by rw[L.size];simpa[Nat.blt_eq] using l1);exact hs
 have e2:(execOp (a.put (some t) (.func (.func fc) #[] (xs.map a.eval).toArray)).eval o2).run P e.w=.ok (.defer {target:=.fn (.func fc) (xs.map a.eval).toArray,args:=#[]}) e.w:=by obtain⟨dst,op,type,pos,after,guard⟩:=o2;simp only at A;subst A;simp[execOp,resolve,ht,Deferred.ofValue]
 unfold Oper.wp;rw[e2,Oper.upon_defer,d2];refine h _ (xs.map a.eval) hv ?_;refine⟨bR.size,?_,bR.bP,bR.boxes,bR.ei,bR.gs,⟨bR.env.kept,bR.env.cl,bR.env.bx,bR.env.inj,bR.env.gr,Yp⟩⟩;show _::(a.put (some t) _).defers=_::Γ.dl;rw[bR.df]
theorem qN{J:St}(nm:Nat){cs aO:List G}(T:kv J.b nm=some cs)(F:cs.map (λ _=>G.any)=aO):bN Γ J ⟨J.s,(nm,aO)::J.b,J.g⟩:=by
 intro a e L;refine⟨e,rfl,L.size,L.df,L.bP,λ af c hu=>?_,λ af hu=>?_,L.gs,L.env⟩
 ·simp only[cM] at hu;split at hu
  ·rename_i lE;subst lE;cases hu;obtain⟨k,vs,el,h1,A,K,h4⟩:=L.boxes _ _ T;refine⟨k,vs,el,h1,A,by rw[<-F,List.length_map];exact K,λ i v d hv i9=>?_⟩;rw[<-F,List.getElem?_map] at i9;cases cH:cs[i]? with
   |none=>rw[cH] at i9;cases i9
   |some x=>rw[cH] at i9;cases i9;exact .any
  ·exact L.boxes af c hu
 ·simp only[cM] at hu;split at hu
  ·cases hu
  ·exact L.ei af hu
theorem eU{e Y:aA}{v:Value}{nm o k:Nat}(h:bD e v (.ptr nm o))(h1:e.bx nm=some k)(A:Y.bx nm=some k):bD Y v (.ptr nm o):=by
 cases h with
 |ptr I=>rw[h1] at I;cases I;exact .ptr A
theorem rh{fn:Func}{e:aA}{a:Act}(L:bu Γ ⟨s,b,g⟩ e a){fc:FuncId}{cG:List Value}{s9:List G}{rN:bE}{Gw:List Nat}{al:bE->Prop}{af pV:FrameMode}{Rf:Ending->World->Prop}(hf:jN P fc)(cY:DReps e cG s9)(aQ:G.ok.eA (aF rN) (λ _=>false) s9=true)(hs:js ⟨s,b,g⟩ (aF rN) rN)(dI:rI Gw rN Γ.kb)
 (gx:lx (λ b=>!aF rN b||ie Gw b) s (λ M=>lL (aF rN) (λ b=>!aF rN b||ie Gw b) b (λ bj=>some (M,bj)))=some (M,bj))(hu:af≠.run)(oZ:settle pV=.returning)
 (dT:∀(e0:aA)(vs:List Value),fR rN e0->DReps e0 vs s9->CallsD P fc vs.toArray af e0.w λ r u2 aI=>∃Y aq,r=.returned (.tuple #[])/\u2=pV/\Y.w=aI/\fR aq Y/\Left Gw e0 Y/\al aq)(dm:∀aq,al aq->ke rN b aq)
 (kR:∀aq Y,al aq->bu Γ ⟨M,aq++bj,g⟩ Y a->∃v,(results fn a.tmps).run P Y.w=.ok v Y.w/\Rf (.returned v) Y.w):
 Leaves P fn a.tmps Rf [{target:=.fn (.func fc) cG.toArray,args:=#[]}] af e.w:=by
 rw[um,ul] at gx;cases gx;refine leaves_cons (f:=fc) (args:=cG.toArray) hu ?_ ?_
 ·simp only[invoke];rw[hf];simp
 ·refine(dT (e.cut (aF rN) λ _=>false) cG (ly L hs) ⟨cY.1,λ i v d h1 A=>(cY.2 i v d h1 A).cut (qD aQ A)⟩).mono λ r u2 aI hh=>?_
  obtain⟨Y,aq,rfl,rfl,rfl,hI,Z,hR⟩:=hh;obtain⟨h1,_⟩:=L.after hI Z (λ n hn=>(dm aq hR).get hn) (λ n k h1 A=>dI.get h1 A);show Leaves P fn a.tmps Rf [] (settle u2) Y.w;rw[oZ];exact kR aq (e.after Y rN aq) hR h1
end
end Go.Proofs.YtcnefjfboagbmaaGreat
end
section
namespace Go.Proofs.YtcnefjfboagbmaaGreat
open Go.Proofs.Tryz
open Go.RowKit
section
variable{P:Program}{ae:Nat->Option TI}{S:Nat->Option G}{B:Nat->Option (List G)}{o:Oper}
theorem Gt{ty af:TypeId}{ms:Array (String×TypeId)}{x:Operand}(hu:P.underlying ty=some (.interface ms))(ho:o.op=.binOp .eql ty x (.const .nilIface) af)(O:ev S x=some (.p (.raw .nilIface))):dH P o S B (dB true) none:=by
 refine jh λ ac e hs=>?_
 have bO:=cR (hs.1 x (by rw[ho];simp[Op.operands]) _ O);refine⟨.bool true,?_,.p (.raw _)⟩;obtain⟨dst,op,type,pos,after,guard⟩:=o;simp only at ho;subst ho;have he:(Op.equal ty .nilIface .nilIface).run P e.w=.ok true e.w:=by
  show(Op.equalIn (9999+1) ty _ _).run P e.w=_;rw[Op.equalIn];simp only[Sem.run_bind,run_underlying hu,Result.andThen_ok]
  rfl
 have L:ac.eval (.const .nilIface)=.nilIface:=rfl;simp[execOp,bO,L,eqGuard,binOp,he]
theorem Gu{ty af t0:TypeId}{v:Value}{ms:Array (String×TypeId)}{x:Operand}(hu:P.underlying ty=some (.interface ms))(ho:o.op=.binOp .eql ty x (.const .nilIface) af)(O:ev S x=some (.p (.raw (.iface t0 v)))):dH P o S B (dB false) none:=by
 refine jh λ ac e hs=>?_
 have bO:=cR (hs.1 x (by rw[ho];simp[Op.operands]) _ O);refine⟨.bool false,?_,.p (.raw _)⟩;obtain⟨dst,op,type,pos,after,guard⟩:=o;simp only at ho;subst ho;have he:(Op.equal ty (.iface t0 v) .nilIface).run P e.w=.ok false e.w:=by
  show(Op.equalIn (9999+1) ty _ _).run P e.w=_;rw[Op.equalIn];simp only[Sem.run_bind,run_underlying hu,Result.andThen_ok]
  rfl
 have L:ac.eval (.const .nilIface)=.nilIface:=rfl;simp[execOp,bO,L,eqGuard,binOp,he]
def IN:Value->G
 |.agg cs=>.agg (cs.toList.map λ v=>.p (.raw v))
 |v=>.p (.raw v)
theorem VC(e:aA)(v:Value):bD e v (IN v):=by
 unfold IN;split
 ·rename_i cs;have:bD e (.agg cs.toList.toArray) (.agg (cs.toList.map λ v=>.p (.raw v))):=.agg (by simp) (λ i v d h1 A=>by
   rw[List.getElem?_map,h1] at A;cases A;exact .p (.raw v))
  simpa using this
 ·exact .p (.raw _)
theorem EP(hT:cW P ae){ty aeo:TypeId}{v:Value}{x:Operand}{i:TI}(ho:o.op=.typeAssert x aeo ty true)(ht:ae ty=some i)(I:i.k.known=true)(O:ev S x=some (.p (.raw (.iface ty v)))):dH P o S B (.bg [IN v,dB true]) none:=by
 refine jh λ ac e hs=>?_
 have bO:=cR (hs.1 x (by rw[ho];simp[Op.operands]) _ O);obtain⟨dd,h1,A⟩:=QQ hT ht I;refine⟨.tuple #[v,.bool true],?_,.bg (vs:=[v,.bool true]) rfl ?_⟩
 ·obtain⟨dst,op,type,pos,after,guard⟩:=o;simp only at ho;subst ho;simp only[execOp,Instr.typeAssert,Sem.run_bind,run_underlying h1,Result.andThen_ok,bO];cases dd with
  |interface ms=>exact absurd rfl (A ms)
  |_=>simp
 ·intro i w d hw F
  match i,hw,F with
  |0,hw,F=>cases hw;cases F;exact VC e v
  |1,hw,F=>cases hw;cases F;exact .p (.raw _)
end
end Go.Proofs.YtcnefjfboagbmaaGreat
end
section
namespace Go.Proofs.YtcnefjfboagbmaaGreat
open Go.Proofs.Tryz
open Go.RowKit
section
variable{P:Program}{ae:Nat->Option TI}{Γ:bI}{S:Nat->Option G}{B:Nat->Option (List G)}{o:Oper}{l0 l:List Oper}{Q:Exit->St->Prop}
variable{s:List (Nat×G)}{b:List (Nat×List G)}{g:List (Nat×Gr)}{t:Nat}
theorem Mr{ar dh:Type}:∀(ds rest:List dh)(k:List dh->Option ar),l5 ds.length (ds++rest) k=k ds
 |[],rest,k=>rfl
 |x::ds,rest,k=>by
  show l5 ds.length (ds++rest) (λ r=>k (x::r))=_;rw[Mr ds rest]
theorem ZL(hT:cW P ae){ty el:TypeId}{n z1 z2:Nat}{z3:Value}{j:TI}{x y:Operand}{ds:List G}{k:IntKind}{i:Int}(qs:List G)(ho:o.op=.index ty x y)(ht:ae ty=some ⟨.array n el,z1,z2,z3⟩)(he:ae el=some j)(oQ:j.k.agg=true)(O:ev S x=some (.agg ds))(hy:ev S y=some (.p (.raw (.int k i))))(h0:0<=i)(ba:i<n)(F:(ds.drop (i.toNat*j.sz)).take j.sz=qs):dH P o S B (.agg qs) none:=by
 refine jh λ a e hs=>?_
 have h1:=hs.1 x (by rw[ho];simp[Op.operands]) _ O;have A:=cR (hs.1 y (by rw[ho];simp[Op.operands]) _ hy);generalize dk:a.eval x=vx at h1;cases h1 with
 |agg R hh=>
  rename_i vs;obtain⟨d0,dV,I⟩:=hT.desc ty _ ht;cases d0<;>simp only[jJ,reduceCtorEq,TK.array.injEq] at I
  rw[I.1,I.2] at dV;have hr:=(DReps.drop ⟨R,hh⟩ (i.toNat*j.sz)).take j.sz;rw[F] at hr;refine⟨.agg ((vs.drop (i.toNat*j.sz)).take j.sz).toArray,?_,.agg hr.1 hr.2⟩;obtain⟨dst,op,type,pos,after,guard⟩:=o;simp only at ho;subst ho;simp[execOp,dk,A,Instr.index,asIntOf,run_underlying dV,h0,ba,run_sizeOf hT he,part,Eo hT he,oQ,List.extract_eq_take_drop]
theorem mq(hT:cW P ae){ty:TypeId}{x:Operand}{i:TI}{b of:Nat}{cs:List G}(ds rest:List G)(ho:o.op=.load ty x)(ht:ae ty=some i)(oQ:i.k.agg=true)(O:ev S x=some (.ptr b of))(T:B b=some cs)(gy:of<=cs.length)(F:cs.drop of=ds++rest)(R:ds.length=i.sz):dH P o S B (.agg ds) none:=by refine sW hT ?_;rw[ho];simp only[ax,ht,O,T];rw[Cu of cs _ gy,F];simp only[yF,oQ,cond_true,<-R];rw[Mr]
theorem Ij(hT:cW P ae){ty:TypeId}{x y:Operand}{nm of:Nat}{cs:List G}{ds:List G}{i:TI}(aO:List G)(ho:o.op=.store ty x y)(F:o.dst=none)(ht:ae ty=some i)(O:ev (kv s) x=some (.ptr nm of))(T:kv b nm=some cs)(hy:ev (kv s) y=some (.agg ds))
 (R:ds.all G.leaf=true)(hs:ds.length=i.sz)(hg:gd l0 o (kv s)=some true)(gy:of+ds.length<=cs.length)(cH:stored cs of ds=aO)(h:bp P Γ l0 Q l ⟨s,(nm,aO)::b,g⟩):bp P Γ l0 Q (o::l) ⟨s,b,g⟩:=by
 subst cH;have uO:=Ml (P:=P) (Γ:=Γ) (J:=⟨s,b,g⟩) hT ho F ht O T hy R hs (by first|exact gy|(show _<=_;simp only[G.cells];omega)|omega);exact vG (J:=⟨s,b,g⟩) hg uO h
theorem Sk(a:Nat):∀m:Nat,List.range (a+m)=List.range a++(List.range m).map (a+·)
 |0=>by simp
 |m+1=>by
  rw[show a+(m+1)=(a+m)+1 by omega,List.range_succ,Sk a m,List.range_succ,List.map_append,List.append_assoc]
  rfl
theorem Rd(z:Array Value)(hz:0<z.size):∀n:Nat,(List.range (n*z.size)).map (λ j=>z[j%z.size]!)=(List.replicate n z.toList).flatten
 |0=>by simp
 |n+1=>by
  rw[show(n+1)*z.size=z.size+n*z.size by rw[Nat.add_mul];omega,Sk,List.map_append,List.map_map,List.replicate_succ,List.flatten_cons,<-Rd z hz n]
  congr 1
  ·apply List.ext_getElem
   ·simp
   ·intro j h1 A;simp only[List.length_map,List.length_range] at h1;simp[Nat.mod_eq_of_lt h1,h1]
  ·apply List.map_congr_left;intro j _;simp[Function.comp]
theorem DW(hT:cW P ae)(nm:Nat){ty el:TypeId}{z1 z2:Nat}{z3:Value}{i:TI}{x y:Operand}{k jd:IntKind}{n m:Int}{c:Nat}(cs:List G)(ho:o.op=.makeSlice ty x y)(ht:ae ty=some ⟨.slice el,z1,z2,z3⟩)(ec:ae el=some i)(ic:Nat.beq i.zero.cells.size i.sz=true)(o5:Nat.blt 0 i.sz=true)
 (O:ev S x=some (.p (.raw (.int k n))))(hy:ev S y=some (.p (.raw (.int jd m))))(hn:n=c)(hm:m=c)(T:c*i.bytes<=140737488355328)(gh:c<=maxLen)(cH:(List.replicate c (i.zero.cells.toList.map qQ)).flatten=cs):dH P o S B (.arr nm 0 c c) (some (nm,cs)):=by
 subst hn;subst hm;subst cH;intro a e hs fK;have h1:=cR (hs.1 x (by rw[ho];simp[Op.operands]) _ O);have A:=cR (hs.1 y (by rw[ho];simp[Op.operands]) _ hy);obtain⟨d0,dV,I⟩:=hT.desc ty _ ht;cases d0<;>simp only[jJ,reduceCtorEq,TK.slice.injEq] at I
 rw[I] at dV;obtain⟨gj,mQ,bQ,gu,hz⟩:=hT.info _ i ec;have ZD:=Nat.eq_of_beq_eq_true ic;have afO:0<i.sz:=by simpa[Nat.blt_eq] using o5
 have Jy:(gj.bytes:Int)*(c:Int)<=281474976710656:=by
  have:((c*i.bytes:Nat):Int)<=140737488355328:=by omega
  rw[Int.natCast_mul,Int.mul_comm] at this;rw[gu];omega
 have cJ:=run_make (P:=P) e.w ty el gj i.zero dV mQ hz k jd c c (Int.natCast_nonneg c) (by omega) Jy (by unfold maxLen at gh;omega);have YD:madeCells i.zero.cells (c*i.sz)=(List.replicate c i.zero.cells.toList).flatten.toArray:=by rw[<-Rd i.zero.cells (by omega) c,<-ZD];apply Array.ext';simp[madeCells]
 rw[Int.toNat_natCast,bQ,YD] at cJ;unfold Oper.wp;have e1:(execOp a.eval o).run P e.w=.ok (.value (.slice (some ⟨e.w.heap.size,0,none⟩) c c)) (e.w.alloc (.cells (List.replicate c i.zero.cells.toList).flatten.toArray el)):=by obtain⟨dst,op,type,pos,after,guard⟩:=o;simp only at ho;subst ho;simp[execOp,h1,A,cJ]
 rw[e1];have hg:=aA.ud e (.cells (List.replicate c i.zero.cells.toList).flatten.toArray el) (some 0);have i7:(e.alloc (.cells (List.replicate c i.zero.cells.toList).flatten.toArray el) (some 0)).bx nm=none:=by rw[hg.bx];exact fK _ rfl
 refine⟨_,(e.alloc (.cells (List.replicate c i.zero.cells.toList).flatten.toArray el) (some 0)).iX nm e.w.heap.size,rfl,rfl,_,e.w.heap.size,hg,Nat.le_refl _,by simp[aA.alloc],by simp[aA.alloc],rfl,⟨e.w.heap.size,(List.replicate c i.zero.cells.toList).flatten,el,by simp[aA.iX],heap_alloc_new e.w _,?_⟩,.arr (by simp[aA.iX])⟩;have FZ:(List.replicate c (i.zero.cells.toList.map qQ)).flatten=((List.replicate c i.zero.cells.toList).flatten).map qQ:=by rw[List.map_flatten,List.map_replicate]
 rw[FZ];refine⟨by simp,λ j v d hv F=>?_⟩;rw[List.getElem?_map,hv] at F;cases F;exact E3 _ _
end
end Go.Proofs.YtcnefjfboagbmaaGreat
end
section
namespace Go.Proofs.YtcnefjfboagbmaaGreat
open Go.Proofs.Tryz
open Go.RowKit
def EK(D:Array MapEntry)(es:List Int):Prop:=D.toList.map (λ x=>(x.key,x.val))=es.map (λ n=>(Value.int .i64 n,Value.bool true))
theorem IZ:∀(D:List MapEntry)(es:List Int)(n:Int)(i:Nat),D.map (λ x=>(x.key,x.val))=es.map (λ n=>(Value.int .i64 n,Value.bool true))->
 (n∉es/\Instr.findNow (.int .i64) (.int .i64 n) D i=some none)\/(n∈es/\∃j,Instr.findNow (.int .i64) (.int .i64 n) D i=some (some (j,.bool true)))
 |[],[],n,i,_=>.inl ⟨by simp,rfl⟩
 |[],_::_,n,i,h=>by simp at h
 |_::_,[],n,i,h=>by simp at h
 |x::D,m::es,n,i,h=>by
  simp only[List.map_cons,List.cons.injEq,Prod.mk.injEq] at h;obtain⟨⟨h1,A⟩,K⟩:=h
  by_cases hn:n=m
  ·subst hn;exact .inr ⟨by simp,i,by simp[Instr.findNow,Instr.sameNow,h1,A]⟩
  ·have hs:Instr.sameNow (.int .i64) (.int .i64 n) x.key=some false:=by
    rw[h1];simp[Instr.sameNow,hn]
   rcases IZ D es n (i+1) K with⟨h4,h5⟩|⟨h4,j,h5⟩
   ·exact .inl ⟨by simp[hn,h4],by simp[Instr.findNow,hs,h5]⟩
   ·exact .inr ⟨by simp[h4],j,by simp[Instr.findNow,hs,h5]⟩
structure nO(Γ eY:bI)(r:Nat)(es:List Int):Prop where
 kept:nQ Γ.own Γ.w0 eY.w0
 cl:∀k,k<Γ.w0.heap.size->¬Γ.own k->eY.kK k=Γ.kK k
 own:∀k,eY.own k->Γ.own k\/Γ.w0.heap.size<=k
 obj:∃D ck,eY.w0.heap[r]?=some (.map D ck)/\EK D es
 nr:¬eY.own r
 base:Γ.w0.heap.size<=r
section
variable{P:Program}{ae:Nat->Option TI}{n:Nat}{w0:World}{kK:Nat->Option Nat}{own:Nat->Prop}{kb:List (Nat×Nat)}{dl:List Deferred}{r:Nat}
theorem nO.back{aI:World}{bz:Nat->Option Nat}{cb:Nat->Prop}{es:List Int}(h:nO ⟨n,w0,kK,own,kb,dl⟩ ⟨n,aI,bz,cb,kb,dl⟩ r es){e:aA}(he:hd ⟨n,aI,bz,cb,kb,dl⟩ e):hd ⟨n,w0,kK,own,kb,dl⟩ e:=by
 have gV:∀k,k<w0.heap.size->¬own k->¬cb k:=λ k I ho gI=>by
  rcases h.own k gI with h1|h1
  ·exact ho h1
  ·exact absurd h1 (by simp only;omega)
 have bQ:=h.kept.size;simp only at bQ;have oV:∀k,aI.heap.size<=k\/cb k->w0.heap.size<=k\/own k:=λ k I=>by
  rcases I with I|I
  ·exact .inl (Nat.le_trans bQ I)
  ·exact(h.own k I).symm
 refine⟨⟨he.kept.os.trans h.kept.os,he.kept.tape.trans h.kept.tape,he.kept.output.trans h.kept.output,Nat.le_trans bQ he.kept.size,λ k I ho=>?_⟩,λ k I ho=>?_,λ b k T=>?_,he.inj,λ k g hg=>?_,he.kb⟩
 ·exact(he.kept.block k (Nat.lt_of_lt_of_le I bQ) (gV k I ho)).trans (h.kept.block k I ho)
 ·exact(he.cl k (Nat.lt_of_lt_of_le I bQ) (gV k I ho)).trans (h.cl k I ho)
 ·obtain⟨h1,A,K⟩:=he.bx b k T;exact⟨h1,oV k A,K⟩
 ·obtain⟨au,cur,h1,A,K,h4⟩:=he.gr k g hg;exact⟨au,cur,h1,A,oV k K,h4⟩
theorem nO.pr{aI:World}{bz:Nat->Option Nat}{cb:Nat->Prop}{es:List Int}(h:nO ⟨n,w0,kK,own,kb,dl⟩ ⟨n,aI,bz,cb,kb,dl⟩ r es){J:St}{e:aA}{a:Act}(L:bu ⟨n,aI,bz,cb,kb,dl⟩ J e a):bu ⟨n,w0,kK,own,kb,dl⟩ J e a:=
 ⟨L.size,L.df,L.bP,L.boxes,L.ei,L.gs,h.back L.env⟩
theorem nO.now{aI:World}{bz:Nat->Option Nat}{cb:Nat->Prop}{es:List Int}(h:nO ⟨n,w0,kK,own,kb,dl⟩ ⟨n,aI,bz,cb,kb,dl⟩ r es){e:aA}(he:hd ⟨n,aI,bz,cb,kb,dl⟩ e):∃D ck,e.w.heap[r]?=some (.map D ck)/\EK D es:=by obtain⟨D,ck,h1,A⟩:=h.obj;have hr:r<aI.heap.size:=sd h1;exact⟨D,ck,(he.kept.block r hr h.nr).trans h1,A⟩
theorem nO.next{aI:World}{bz:Nat->Option Nat}{cb:Nat->Prop}{es CA:List Int}(h:nO ⟨n,w0,kK,own,kb,dl⟩ ⟨n,aI,bz,cb,kb,dl⟩ r es){J:St}{e:aA}{a:Act}(L:bu ⟨n,aI,bz,cb,kb,dl⟩ J e a){D:Array MapEntry}{ck:Nat}(hm:EK D CA):
 ∃w2 nT ou,nO ⟨n,w0,kK,own,kb,dl⟩ ⟨n,w2,nT,ou,kb,dl⟩ r CA/\∃e2:aA,e2.w={e.w with heap:=e.w.heap.setIfInBounds r (.map D ck)}/\bu ⟨n,w2,nT,ou,kb,dl⟩ J e2 a:=by
 obtain⟨afT,aeP,oV,_⟩:=h.now L.env;have T:=h.back L.env;obtain⟨afU,aeQ,yh,_⟩:=h.obj;have lU:r<aI.heap.size:=sd yh;obtain⟨oZ,hk⟩:=MapKept.heap_set (o':=.map D ck) oV;have Av:∀b k,e.bx b=some k->k≠r:=λ b k I he=>by
  subst he;rcases(L.env.bx b k I).2.1 with h1|h1
  ·exact absurd lU (Nat.not_lt.2 h1)
  ·exact h.nr h1
 have wo:∀k g,e.gr k=some g->k≠r:=λ k g I he=>by
  subst he;obtain⟨_,_,_,_,h1,_⟩:=L.env.gr k g I;rcases h1 with h1|h1
  ·exact absurd lU (Nat.not_lt.2 h1)
  ·exact h.nr h1
 let w2:World:={e.w with heap:=e.w.heap.setIfInBounds r (.map D ck)}
 have yt:w2.heap.size=e.w.heap.size:=by simp[w2]
 let e2:aA:={e with w:=w2}
 have Aw:∀b o v,e.w.cell? ⟨b,o,none⟩=some v->b≠r:=λ b o v hv he=>by
  subst he;simp[World.cell?,oV] at hv
 have E:Ends e e2:=by
  refine⟨λ b o v h1 A=>⟨h1,?_⟩,λ _ _ h=>h,λ _ au h=>⟨au,h,rfl,rfl,Nat.le_refl _⟩,λ k g au cur h1 A K=>⟨h1,cur,?_,rfl⟩⟩
  ·rw[World.cell?_of_block (w:=e.w) (hk b (Aw b o v A))];exact A
  ·show(e.w.heap.setIfInBounds r (.map D ck))[k]?=_;rw[hk k (wo k g h1)];exact K
 refine⟨w2,e.cl,λ k=>k≠r/\(own k\/w0.heap.size<=k),⟨⟨T.kept.os,T.kept.tape,T.kept.output,by rw[yt];exact T.kept.size,λ k I ho=>?_⟩,T.cl,λ k I=>I.2,⟨D,ck,oZ,hm⟩,λ I=>I.1 rfl,h.base⟩,e2,rfl,⟨L.size,L.df,λ t d ht=>(L.bP t d ht).next E,λ b cs T=>?_,L.ei,L.gs,?_⟩⟩
 ·have x6:k≠r:=λ he=>by
   subst he;exact absurd I (Nat.not_lt.2 h.base)
  exact(hk k x6).trans (T.kept.block k I ho)
 ·obtain⟨k,vs,el,h1,A,K⟩:=L.boxes b cs T;exact⟨k,vs,el,h1,(hk k (Av b k h1)).trans A,K.next E⟩
 ·refine⟨nQ.refl _ _,λ _ _ _=>rfl,λ b k I=>?_,L.env.inj,λ k g hg=>?_,L.env.kb⟩
  ·obtain⟨h1,A,K⟩:=T.bx b k I;exact⟨by show k<w2.heap.size;rw[yt];exact h1,.inr ⟨Av b k I,A.symm⟩,K⟩
  ·obtain⟨au,cur,h1,A,K,h4,h5⟩:=T.gr k g hg;exact⟨au,cur,h1,by show k<w2.heap.size;rw[yt];exact A,.inr ⟨wo k g hg,K.symm⟩,h4,(hk k (wo k g hg)).trans h5⟩
def HY(n:Nat)(w0:World)(kK:Nat->Option Nat)(own:Nat->Prop)(kb:List (Nat×Nat))(dl:List Deferred)(r:Nat)(Q:Exit->List Int->St->Prop):Exit->Act->World->Prop:=λ x a w=>∃aI bz cb es J e,nO ⟨n,w0,kK,own,kb,dl⟩ ⟨n,aI,bz,cb,kb,dl⟩ r es/\e.w=w/\bu ⟨n,aI,bz,cb,kb,dl⟩ J e a/\Q x es J
structure p4(P:Program)(Γ:bI)(r:Nat)(c:Code)(Q:Exit->List Int->St->Prop)(es:List Int)(J:St):Prop where
 run:∀aI bz cb,nO Γ ⟨Γ.n,aI,bz,cb,Γ.kb,Γ.dl⟩ r es->∀a e,bu ⟨Γ.n,aI,bz,cb,Γ.kb,Γ.dl⟩ J e a->c.wp P (HY Γ.n Γ.w0 Γ.kK Γ.own Γ.kb Γ.dl r Q) a e.w
variable{Q:Exit->List Int->St->Prop}{c x y:Code}{es:List Int}{J:St}{Γ:bI}
theorem o8(h:∀aI bz cb,nO Γ ⟨Γ.n,aI,bz,cb,Γ.kb,Γ.dl⟩ r es->aK P ⟨Γ.n,aI,bz,cb,Γ.kb,Γ.dl⟩ c (λ x bU=>Q x es bU) J):p4 P Γ r c Q es J:=⟨λ aI bz cb X a e L=>Code.wp_mono (λ ex br w1 hh=>by obtain⟨bU,Y,h1,A,K⟩:=hh;exact⟨aI,bz,cb,es,bU,Y,X,h1,A,K⟩) ((h aI bz cb X).run a e L)⟩
def GL(aL:List Int->St->Prop)(Q:Exit->List Int->St->Prop):Exit->List Int->St->Prop
 |.normal,es,J=>aL es J
 |ex,es,J=>Q ex es J
theorem rl(h:p4 P Γ r x (GL (λ es J=>p4 P Γ r y Q es J) Q) es J):p4 P Γ r (.seq x y) Q es J:=⟨λ aI bz cb X a e L=>by
 refine wp_seq (Code.wp_mono (λ ex br w1 hh=>?_) (h.run aI bz cb X a e L));obtain⟨w2,nT,ou,vY,qL,e2,h1,rfl,K,h4⟩:=hh;cases ex with
 |normal=>exact h4.run w2 nT ou h1 br e2 K
 |_=>exact⟨w2,nT,ou,vY,qL,e2,h1,rfl,K,h4⟩⟩
def GK(id:Nat)(Q:Exit->List Int->St->Prop):Exit->List Int->St->Prop
 |.exit oa,es,J=>if oa=id then Q .normal es J else Q (.exit oa) es J
 |ex,es,J=>Q ex es J
theorem Bd{id:Nat}(h:p4 P Γ r c (GK id Q) es J):p4 P Γ r (.block id c) Q es J:=⟨λ aI bz cb X a e L=>by
 refine wp_block (Code.wp_mono (λ ex br w1 hh=>?_) (h.run aI bz cb X a e L));obtain⟨w2,nT,ou,vY,qL,e2,h1,rfl,K,h4⟩:=hh;cases ex with
 |exit oa=>
  simp only[GK] at h4;simp only[Exit.inBlock];split
  ·rename_i wu;rw[if_pos wu] at h4;exact⟨w2,nT,ou,vY,qL,e2,h1,rfl,K,h4⟩
  ·rename_i wu;rw[if_neg wu] at h4;exact⟨w2,nT,ou,vY,qL,e2,h1,rfl,K,h4⟩
 |_=>exact⟨w2,nT,ou,vY,qL,e2,h1,rfl,K,h4⟩⟩
theorem K3{dM:Type}(ok:dM->Prop)(jq:dM->St)(aJ:dM->List Int)(mB:dM->Nat)(i0:dM)(I:ok i0)(he:aJ i0=es)(h0:∀aI bz cb,bN ⟨Γ.n,aI,bz,cb,Γ.kb,Γ.dl⟩ J (jq i0))
 (El:∀i,ok i->p4 P Γ r c (GL (λ CA bU=>∃j,ok j/\mB j<mB i/\CA=aJ j/\∀aI bz cb,bN ⟨Γ.n,aI,bz,cb,Γ.kb,Γ.dl⟩ bU (jq j)) Q) (aJ i) (jq i)):p4 P Γ r (.loop c) Q es J:=by
 refine⟨λ aI bz cb X a e L=>?_⟩;obtain⟨e0,h1,A⟩:=h0 aI bz cb a e L;rw[<-h1];have key:∀n i,ok i->mB i<n->∀aI bz cb,nO Γ ⟨Γ.n,aI,bz,cb,Γ.kb,Γ.dl⟩ r (aJ i)->∀a e,bu ⟨Γ.n,aI,bz,cb,Γ.kb,Γ.dl⟩ (jq i) e a->Code.rounds P c (HY Γ.n Γ.w0 Γ.kK Γ.own Γ.kb Γ.dl r Q) n a e.w:=by
  intro n;induction n with
  |zero=>intro i _ X;omega
  |succ n ih=>
   intro i aQ X aI bz cb hm a e L;rw[rounds_succ];refine Code.wp_mono (λ ex br w1 hh=>?_) ((El i aQ).run aI bz cb hm a e L);obtain⟨w2,nT,ou,vY,qL,e2,h1,rfl,K,h4⟩:=hh;cases ex with
   |normal=>obtain⟨j,Yj,hj,rfl,hg⟩:=h4;obtain⟨e3,h5,h6⟩:=hg w2 nT ou br e2 K;show Code.rounds P c _ n br e2.w;rw[<-h5];exact ih j Yj (by omega) w2 nT ou h1 br e3 h6
   |_=>exact⟨w2,nT,ou,vY,qL,e2,h1,rfl,K,h4⟩
 exact wp_loop_rounds (mB i0+1) (key _ i0 I (by omega) aI bz cb (by rw[he];exact X) a e0 A)
theorem Ii{l0 l:List Oper}{Q:Exit->St->Prop}{o:Oper}{s:List (Nat×G)}{b:List (Nat×List G)}{g:List (Nat×Gr)}{t mt kt et:Nat}{aI:World}{bz:Nat->Option Nat}{cb:Nat->Prop}{x y:Operand}{m:Int}{i:TI}(hT:cW P ae)(X:nO ⟨n,w0,kK,own,kb,dl⟩ ⟨n,aI,bz,cb,kb,dl⟩ r es)
 (ho:o.op=.lookup mt x y false)(hm:P.underlying mt=some (.map kt et))(mT:P.underlying kt=some (.int .i64))(JF:ae et=some i)(hz:i.zero=.bool false)(O:ev (kv s) x=some (.p (.raw (.map (some r)))))(hy:ev (kv s) y=some (u m))(hg:gd l0 o (kv s)=some true)(F:o.dst=some t)(R:Nat.blt t n=true)
 (h:bp P ⟨n,aI,bz,cb,kb,dl⟩ l0 Q l ⟨(t,dB (decide (m∈es)))::s,b,g⟩):bp P ⟨n,aI,bz,cb,kb,dl⟩ l0 Q (o::l) ⟨s,b,g⟩:=by
 refine vG (J:=⟨s,b,g⟩) hg (λ a e L=>?_) h;have hs:=L.iI o.op.operands;have h1:=cR (hs.1 x (by rw[ho];simp[Op.operands]) _ O);have A:=cR (hs.1 y (by rw[ho];simp[Op.operands]) _ hy);obtain⟨D,ck,K,h4⟩:=X.now L.env;have I:MapKept.IsKey (.int .i64) (.int .i64 m):=rfl;have cJ:(execOp a.eval o).run P e.w=.ok (.value (.bool (decide (m∈es)))) e.w:=by
  obtain⟨dst,op,type,pos,after,guard⟩:=o;simp only at ho;subst ho;rcases IZ D.toList es m 0 h4 with⟨h5,h6⟩|⟨h5,j,h6⟩
  ·simp[execOp,Instr.lookup,h1,A,run_underlying hm,MapKept.run_getObj_map K,MapKept.run_checkKey mT I,MapKept.run_findKey mT h6,By hT JF,hz,h5]
  ·simp[execOp,Instr.lookup,h1,A,run_underlying hm,MapKept.run_getObj_map K,MapKept.run_checkKey mT I,MapKept.run_findKey mT h6,h5]
 unfold Oper.wp;rw[cJ];have:=L.put (dst:=o.dst) (v:=.bool (decide (m∈es))) (d:=dB (decide (m∈es))) (by rw[F];exact R) (.p (.raw _));rw[F] at this;exact⟨e,rfl,by rw[F];exact this⟩
structure zb(P:Program)(Γ:bI)(r:Nat)(l0:List Oper)(Q:Exit->List Int->St->Prop)(l:List Oper)(es:List Int)(J:St):Prop where
 run:∀aI bz cb,nO Γ ⟨Γ.n,aI,bz,cb,Γ.kb,Γ.dl⟩ r es->∀a e,bu ⟨Γ.n,aI,bz,cb,Γ.kb,Γ.dl⟩ J e a->wpList P l0.toArray (HY Γ.n Γ.w0 Γ.kK Γ.own Γ.kb Γ.dl r Q) l a e.w
theorem K4{id:Nat}{l:List Oper}(h:zb P Γ r l Q l es J):p4 P Γ r (.region id l.toArray false) Q es J:=⟨λ aI bz cb X a e L=>wp_region_lit (h.run aI bz cb X a e L)⟩
variable{l0 l:List Oper}{o:Oper}
theorem KZ(h:Q .normal es J):zb P Γ r l0 Q [] es J:=⟨λ aI bz cb X _ e L=>⟨aI,bz,cb,es,J,e,X,rfl,L,h⟩⟩
theorem A8{s:List (Nat×G)}{b:List (Nat×List G)}{g:List (Nat×Gr)}{t:Nat}{d:G}(hT:cW P ae)(hq:ax ae (kv s) (kv b) o.op=some d)(hg:gd l0 o (kv s)=some true)(F:o.dst=some t)(R:Nat.blt t Γ.n=true)(h:zb P Γ r l0 Q l es ⟨(t,d)::s,b,g⟩):zb P Γ r l0 Q (o::l) es ⟨s,b,g⟩:=by refine⟨λ aI bz cb X a e L=>?_⟩;unfold wpList;rw[if_pos (lN L hg)];have dg:zd P ⟨Γ.n,aI,bz,cb,Γ.kb,Γ.dl⟩ o ⟨s,b,g⟩ _:=dH.step (J:=⟨s,b,g⟩) (sW hT hq) (qk F R) (λ p hp=>by cases hp);refine .inl (xk (dg a e L) λ br w1 hh=>?_);obtain⟨Y,rfl,ey⟩:=hh;rw[F] at ey;exact h.run aI bz cb X br Y ey
theorem K0{s:List (Nat×G)}{b:List (Nat×List G)}{g:List (Nat×Gr)}{mt kt et:Nat}{x y z:Operand}{m:Int}(ho:o.op=.mapUpdate mt x y z)(F:o.dst=none)(hm:P.underlying mt=some (.map kt et))(mT:P.underlying kt=some (.int .i64))(O:ev (kv s) x=some (.p (.raw (.map (some r)))))(hy:ev (kv s) y=some (u m))(hz:ev (kv s) z=some (dB true))(hg:gd l0 o (kv s)=some true)(hn:m∉es)
 (h:zb P Γ r l0 Q l (es++[m]) ⟨s,b,g⟩):zb P Γ r l0 Q (o::l) es ⟨s,b,g⟩:=by
 refine⟨λ aI bz cb X a e L=>?_⟩;obtain⟨n,w0,kK,own,kb,dl⟩:=Γ;unfold wpList;rw[if_pos (lN L hg)];have hs:=L.iI o.op.operands;have h1:=cR (hs.1 x (by rw[ho];simp[Op.operands]) _ O);have A:=cR (hs.1 y (by rw[ho];simp[Op.operands]) _ hy);have bs:=cR (hs.1 z (by rw[ho];simp[Op.operands]) _ hz);obtain⟨D,ck,K,h4⟩:=X.now L.env;have I:MapKept.IsKey (.int .i64) (.int .i64 m):=rfl;obtain⟨w2,nT,ou,JS,e2,CX,eE⟩:=X.next L (CA:=es++[m]) (D:=D.push {key:=.int .i64 m,val:=.bool true,born:=ck}) (ck:=ck+1) (by
  unfold EK at h4⊢;simp[h4])
 have cJ:(execOp a.eval o).run P e.w=.ok .skip {e.w with heap:=e.w.heap.setIfInBounds r (.map (D.push {key:=.int .i64 m,val:=.bool true,born:=ck}) (ck+1))}:=by
  obtain⟨dst,op,type,pos,after,guard⟩:=o;simp only at ho;subst ho;rcases IZ D.toList es m 0 h4 with⟨h5,h6⟩|⟨h5,j,h6⟩
  ·simp[execOp,Instr.mapUpdate,h1,A,bs,run_underlying hm,MapKept.run_getObj_map K,MapKept.run_checkKey mT I,MapKept.run_findKey mT h6,MapKept.run_setObj_map _ K]
  ·exact absurd h5 hn
 refine .inl ?_;unfold Oper.wp;rw[cJ,<-CX];have:=h.run w2 nT ou JS a e2 eE;show wpList P _ _ l (a.put o.dst undef) e2.w;rw[F];exact this
theorem Iq{id mt t1 t2:Nat}{o1 o2:Oper}{rest:Code}{Q:Exit->St->Prop}{s:List (Nat×G)}{b:List (Nat×List G)}{g:List (Nat×Gr)}(ho:o1.op=.makeMap mt none)(ip:o1.guard=none)(kr:o1.dst=some t1)(ia:Nat.blt t1 Γ.n=true)(ww:o2.op=.assign (.tmp t1))(de:o2.guard=none)(oS:o2.dst=some t2)(dJ:Nat.blt t2 Γ.n=true)
 (h:∀r,p4 P Γ r rest (λ x _ J=>Q x J) [] ⟨(t2,.p (.raw (.map (some r))))::(t1,.p (.raw (.map (some r))))::s,b,g⟩):aK P Γ (.seq (.region id [o1,o2].toArray false) rest) Q ⟨s,b,g⟩:=by
 refine⟨λ a e L=>?_⟩;obtain⟨n,w0,kK,own,kb,dl⟩:=Γ;refine wp_seq (wp_region_lit ?_);unfold wpList;rw[if_pos (by unfold Region.wanted;rw[ip])];refine .inl ?_;unfold Oper.wp;have cJ:(execOp a.eval o1).run P e.w=.ok (.value (.map (some e.w.heap.size))) (e.w.alloc (.map #[] 0)):=by obtain⟨dst,op,type,pos,after,guard⟩:=o1;simp only at ho;subst ho;simp[execOp,Instr.makeMap]
 rw[cJ];show wpList P _ _ [o2] (a.put o1.dst _) _;have gT:=aA.ud e (.map #[] 0) none;have bR:=(L.grow gT).put (dst:=o1.dst) (v:=.map (some e.w.heap.size)) (d:=.p (.raw (.map (some e.w.heap.size)))) (by rw[kr];exact ia) (.p (.raw _));rw[kr] at bR⊢;unfold wpList;rw[if_pos (by unfold Region.wanted;rw[de])];refine .inl ?_;unfold Oper.wp;have jx:(a.put (some t1) (.map (some e.w.heap.size))).eval (.tmp t1)=.map (some e.w.heap.size):=cR ((bR.iI #[.tmp t1]).1 (.tmp t1) (by simp) _ (by simp[ev,St.put,cM]));have Y7:(execOp (a.put (some t1) (.map (some e.w.heap.size))).eval o2).run P (e.w.alloc (.map #[] 0))=.ok (.value (.map (some e.w.heap.size))) (e.w.alloc (.map #[] 0)):=by obtain⟨dst,op,type,pos,after,guard⟩:=o2;simp only at ww;subst ww;simp[execOp,jx]
 rw[Y7];have eE:=bR.put (dst:=o2.dst) (v:=.map (some e.w.heap.size)) (d:=.p (.raw (.map (some e.w.heap.size)))) (by rw[oS];exact dJ) (.p (.raw _));rw[oS] at eE;simp only[Oper.upon];rw[oS];have lT:(e.w.alloc (.map #[] 0)).heap[e.w.heap.size]?=some (.map #[] 0):=(MapKept.heap_alloc e.w _).1;have Av:∀b k,(e.alloc (.map #[] 0) none).bx b=some k->k≠e.w.heap.size:=λ b k I he=>by
  have:=(L.env.bx b k I).1;omega
 have wo:∀k g,(e.alloc (.map #[] 0) none).gr k=some g->k≠e.w.heap.size:=λ k g I he=>by
  obtain⟨_,_,_,h1,_⟩:=L.env.gr k g I;omega
 have aQ:hd ⟨n,w0,kK,own,kb,dl⟩ (e.alloc (.map #[] 0) none):=eE.env;have X:nO ⟨n,w0,kK,own,kb,dl⟩ ⟨n,e.w.alloc (.map #[] 0),(e.alloc (.map #[] 0) none).cl,λ k=>k≠e.w.heap.size/\(own k\/w0.heap.size<=k),kb,dl⟩ e.w.heap.size []:=
  ⟨aQ.kept,aQ.cl,λ k I=>I.2,⟨#[],0,lT,rfl⟩,λ I=>I.1 rfl,L.env.kept.size⟩
 have io:bu ⟨n,e.w.alloc (.map #[] 0),(e.alloc (.map #[] 0) none).cl,λ k=>k≠e.w.heap.size/\(own k\/w0.heap.size<=k),kb,dl⟩ ⟨(t2,.p (.raw (.map (some e.w.heap.size))))::(t1,.p (.raw (.map (some e.w.heap.size))))::s,b,g⟩ (e.alloc (.map #[] 0) none) ((a.put (some t1) (.map (some e.w.heap.size))).put (some t2) (.map (some e.w.heap.size))):=by
  refine⟨eE.size,eE.df,eE.bP,eE.boxes,eE.ei,eE.gs,⟨nQ.refl _ _,λ _ _ _=>rfl,λ b k I=>?_,aQ.inj,λ k g hg=>?_,aQ.kb⟩⟩
  ·obtain⟨h1,A,K⟩:=aQ.bx b k I;exact⟨h1,.inr ⟨Av b k I,A.symm⟩,K⟩
  ·obtain⟨au,cur,h1,A,K,h4,h5⟩:=aQ.gr k g hg;exact⟨au,cur,h1,A,.inr ⟨wo k g hg,K.symm⟩,h4,h5⟩
 refine Code.wp_mono (λ ex br w1 hh=>?_) ((h e.w.heap.size).run _ _ _ X _ _ io);obtain⟨w2,nT,ou,vY,qL,e2,k1,k2,k3,k4⟩:=hh;exact⟨qL,e2,k2,k1.pr k3,k4⟩
theorem m7{aL:List Int->St->Prop}(h:aL es J):GL aL Q .normal es J:=h
theorem rk{aL:List Int->St->Prop}{id:Nat}(h:Q (.exit id) es J):GL aL Q (.exit id) es J:=h
theorem K2{id:Nat}(h:Q .normal es J):GK id Q .normal es J:=h
theorem Ba{id:Nat}(h:Q .normal es J):GK id Q (.exit id) es J:=by show(if id=id then _ else _);rw[if_pos rfl];exact h
end
end Go.Proofs.YtcnefjfboagbmaaGreat
end
section
namespace Go.Proofs.YtcnefjfboagbmaaGreat
open Go.Proofs.Tryz
open Go.RowKit
section
variable{P:Program}{ae:Nat->Option TI}{Γ:bI}{o:Oper}{l0 l:List Oper}
variable{s:List (Nat×G)}{b:List (Nat×List G)}{g:List (Nat×Gr)}{t:Nat}
variable{n:Nat}{B B0:List (Nat×List G)}{aL:St->Prop}{aH:List Nat}{aC:List (Nat×Nat)}{ix:Nat}
theorem EQ{Q:Exit->St->Prop}{x y:Code}{J:St}(I0:St)(h1:aK P Γ x (λ ex bU=>ex=.normal/\bN Γ bU I0) J)(A:aK P Γ y Q I0):aK P Γ (.seq x y) Q J:=
 qa (vK h1 λ ex bU h=>by
  obtain⟨rfl,hg⟩:=h;exact dO hg A)
end
end Go.Proofs.YtcnefjfboagbmaaGreat
end
section
namespace Go.Proofs.YtcnefjfboagbmaaGreat
open Go.Proofs.Tryz
open Go.RowKit
section
variable{P:Program}{ae:Nat->Option TI}{S:Nat->Option G}{B:Nat->Option (List G)}{o:Oper}
theorem acN{t af:TypeId}{x y:Operand}{a b:Int}(ho:o.op=.binOp .rem t x y af)(O:ev S x=some (u a))(hy:ev S y=some (u b))(h1:0<b):dH P o S B (u (a.tmod b)) none:=by
 refine jh λ ac e hs=>?_
 have bO:=cR (hs.1 x (by rw[ho];simp[Op.operands]) _ O);have ff:=cR (hs.1 y (by rw[ho];simp[Op.operands]) _ hy);refine⟨_,?_,.p (.raw _)⟩;obtain⟨dst,op,type,pos,after,guard⟩:=o;simp only at ho;subst ho;have T:¬b=0:=by omega
 simp[execOp,bO,ff,eqGuard,binOp,Op.intDiv,T]
theorem adW(a b:Int)(T:0<b):(a.tmod b<0->a.tmod b+b=a%b)/\(¬a.tmod b<0->a.tmod b=a%b):=by
 have h:=Int.tmod_eq_emod (a:=a) (b:=b);have h0:=Int.emod_nonneg a (show b≠0 by omega);have h1:=Int.emod_lt_of_pos a T;split at h
 ·omega
 ·rename_i hn;have cE:a%b≠0:=λ e=>hn (.inr (Int.dvd_of_emod_eq_zero e))
  omega
end
end Go.Proofs.YtcnefjfboagbmaaGreat
end
section
namespace Go.Proofs.YtcnefjfboagbmaaGreat
open Go.Proofs.Tryz
open Go.RowKit
section
variable{P:Program}{Γ:bI}{Q:Exit->St->Prop}
theorem TC{o:Oper}{a:Act}{w:World}{aL:Act->World->Prop}{Q d9:Exit->Act->World->Prop}(hq:∀ex a w,ex≠.normal->Q ex a w->d9 ex a w)(h:o.wp P a w aL Q):o.wp P a w aL d9:=by
 unfold Oper.wp at*;generalize(execOp a.eval o).run P w=r at*;cases r with
 |ok n aI=>
  cases n<;>simp only[Oper.upon] at h⊢<;>first
   |exact h
   |exact Calls.mono h (λ e nk he=>by
    cases e with
    |returned v=>exact he
    |panicked ch=>exact hq _ _ _ (by simp) he
    |outgrown=>obtain⟨a2,w2,hh⟩:=he;exact⟨a2,w2,hq _ _ _ (by simp) hh⟩)
 |halt x aI=>cases x<;>simp only[Oper.upon] at h⊢<;>first|exact hq _ _ _ (by simp) h|exact h
theorem Mz{ops:Array Oper}{i:Nat}{a:Act}{w:World}{aL:Act->World->Prop}{Q d9:Exit->Act->World->Prop}(hq:∀ex a w,ex≠.normal->Q ex a w->d9 ex a w)(h:wpOp P ops Q i aL a w):wpOp P ops d9 i aL a w:=by
 unfold wpOp at*;split
 ·rename_i ho;simp only[ho] at h;exact h
 ·rename_i o ho;simp only[ho] at h;split
  ·rename_i hw;simp only[hw,if_true] at h;rcases h with h|⟨h1,a2,w2,A⟩
   ·exact .inl (TC hq h)
   ·exact .inr ⟨h1,a2,w2,hq _ _ _ (by simp) A⟩
  ·rename_i hw;simp only[hw] at h;exact h
theorem My{ops:Array Oper}{Q d9:Exit->Act->World->Prop}(hn:∀a w,Q .normal a w->d9 .normal a w)(hq:∀ex a w,ex≠.normal->Q ex a w->d9 ex a w):∀{l:List Oper}{a:Act}{w:World},wpList P ops Q l a w->wpList P ops d9 l a w
 |[],a,w,h=>hn a w h
 |o::l,a,w,h=>by
  unfold wpList at h⊢;split
  ·rename_i hw;rw[if_pos hw] at h;rcases h with h|⟨h1,a2,w2,A⟩
   ·exact .inl (TC hq (Oper.wp_mono (λ a w hh=>My hn hq hh) h))
   ·exact .inr ⟨h1,a2,w2,hq _ _ _ (by simp) A⟩
  ·rename_i hw;rw[if_neg hw] at h;exact My hn hq h
def HD(ops:Array Oper)(n m:Nat):Bool:=
 (List.range ops.size).all λ t=>decide (t<n)||(List.range (Nat.min t m)).all λ i=>match ops[t]? with
  |some o=>(o.after.any λ e=>Region.binds .any e&&e.on==i)||jD ops ops.size t i
  |none=>true
theorem Td{ops:Array Oper}{n m:Nat}(h:HD ops n m=true){t i:Nat}{o:Oper}(ht:ops[t]?=some o)(hn:n<=t)(X:i<t)(afm:i<m):(∃e∈o.after,Region.binds .any e=true/\e.on=i)\/jD ops ops.size t i=true:=by
 have gz:t<ops.size:=(Array.getElem?_eq_some_iff.1 ht).1;have h1:=List.all_eq_true.1 h t (List.mem_range.2 gz);simp only[Bool.or_eq_true,decide_eq_true_eq] at h1;have A:=h1.resolve_left (by omega);have K:=List.all_eq_true.1 A i (List.mem_range.2 (by simp only[Nat.min_def];split<;>omega));rw[ht] at K;simp only[Bool.or_eq_true] at K;rcases K with K|K
 ·obtain⟨e,he,T⟩:=Array.any_eq_true'.1 K;simp only[Bool.and_eq_true,beq_iff_eq] at T;exact .inl ⟨e,he,T⟩
 ·exact .inr K
theorem U4{ops:Array Oper}{n m:Nat}(h:HD ops n m=true)(mW:n<=m):Cg ops n=true:=by
 refine List.all_eq_true.2 λ t ht=>?_
 by_cases hn:t<n
 ·simp[hn]
 ·simp only[Bool.or_eq_true,decide_eq_true_eq];refine .inr (List.all_eq_true.2 λ i X=>?_);cases ho:ops[t]? with
  |none=>rfl
  |some o=>
   have dz:i<n:=List.mem_range.1 X;simp only[Bool.or_eq_true];rcases Td h ho (by omega) (show i<t by omega) (by omega) with⟨e,he,h1,A⟩|h1
   ·refine .inl (Array.any_eq_true'.2 ⟨e,he,?_⟩);simp[h1,A]
   ·exact .inr h1
theorem Iu(ops:Array Oper):Cg ops ops.size=true/\tZ ops ops.size=true:=by
 refine⟨List.all_eq_true.2 λ t ht=>?_,List.all_eq_true.2 λ t ht=>?_⟩
 ·simp[List.mem_range.1 ht]
 ·simp[List.mem_range.1 ht]
def Hr(P:Program)(ops:Array Oper)(m:Nat)(Q:Exit->Act->World->Prop):Exit->Act->World->Prop
 |.normal,a,w=>∀aG:Array Bool,aG.size=ops.size->(∀i,i<m->aG.getD i false=true)->(∀i,m<=i->i<ops.size->aG.getD i true=false)->wpAny P .any ops Q (ops.size-m) aG a w
 |ex,a,w=>Q ex a w
theorem TA{ops:Array Oper}{aaC n m:Nat}(aQ:pj ops aaC)(hB:HD ops n m=true)(hm:m<=ops.size){Q:Exit->Act->World->Prop}:∀(j k:Nat)(aG:Array Bool)(a:Act)(w:World),j+k=m->n<=k->aG.size=ops.size->
 (∀i,i<k->aG.getD i false=true)->(∀i,k<=i->i<ops.size->aG.getD i true=false)->wpList P ops (Hr P ops m Q) ((ops.toList.take m).drop k) a w->wpAny P .any ops Q (ops.size-k) aG a w
 |0,k,aG,a,w,hf,hn,hs,ba,fB,h=>by
  obtain rfl:k=m:=by omega
  rw[List.drop_eq_nil_of_le (by simp;omega)] at h;exact h aG hs ba fB
 |j+1,k,aG,a,w,hf,hn,hs,ba,fB,h=>by
  have mj:k<ops.size:=by omega
  have uF:ops[k]?=some ops[k]:=by simp[mj]
  have x6:k∈Region.ready .any ops aG:=mem_ready.2 ⟨fB k (Nat.le_refl _) mj,ops[k],uF,λ e he T=>ba _ (aQ.back k ops[k] uF e he T)⟩;rw[show ops.size-k=(ops.size-(k+1))+1 by omega];refine⟨(λ h0=>by rw[h0] at x6;cases x6),λ i X=>?_⟩;obtain⟨jY,o,ho,cT⟩:=mem_ready.1 X;have du:i<ops.size:=(Array.getElem?_eq_some_iff.1 ho).1;have Db:=fB k (Nat.le_refl _) mj;have JU:i=k:=by
   rcases Nat.lt_trichotomy i k with h1|h1|h1
   ·have:=ba i h1;rw[(mL jY).1] at this;cases this
   ·exact h1
   ·have dT:∀(a:Nat)(o:Oper),ops[a]?=some o->aG.getD a false=true->∀x∈o.after,Region.binds .any x=true->aG.getD x.on false=true:=λ b ob T R x O xU=>by
     have O4:b<ops.size:=(Array.getElem?_eq_some_iff.1 T).1;have nz:b<k:=by
      rcases Nat.lt_or_ge b k with A|A
      ·exact A
      ·have:=fB b A O4;rw[(mL this).1] at R;cases R
     exact ba _ (Nat.lt_trans (aQ.back b ob T x O xU) nz)
    rcases Td hB ho (by omega) h1 (by omega) with⟨e,he,T,mm⟩|A
    ·have A:=cT e he T;rw[mm,(mL Db).1] at A;cases A
    ·have K:=yU dT _ _ _ o ho cT A;rw[(mL Db).1] at K;cases K
  subst JU;rw[uF] at ho;cases ho;rw[List.drop_eq_getElem_cons (by simp;omega)] at h;have bL:wpList P ops (Hr P ops m Q) (ops[i]::(ops.toList.take m).drop (i+1)) a w:=by simpa using h
  refine Mz (Q:=Hr P ops m Q) (λ ex a w cE hh=>by cases ex<;>first|exact hh|exact absurd rfl cE) (wpOp_mono (λ br aI hh=>?_) (TB uF bL));refine TA aQ hB hm j (i+1) _ br aI (by omega) (by omega) (by simpa using hs) (λ j hj=>?_) (λ j hj qw=>?_) hh
  ·by_cases e:i=j
   ·subst e;simp[hs,mj]
   ·rw[getD_set_ne false e];exact ba j (by omega)
  ·rw[getD_set_ne true (by omega)];exact fB j (by omega) qw
def yD(s:List (Nat×G)):List Oper->Bool
 |[]=>true
 |o::l=>(match o.dst with|some t=>(kv s t).isSome|none=>true)&&yD s l
theorem QP{s:List (Nat×G)}:∀{l:List Oper}{j:Nat}{t:Nat},yD s l=true->(l[j]?).bind (·.dst)=some t->∃d,kv s t=some d
 |[],j,t,_,h=>by simp at h
 |o::l,0,t,I,h=>by
  simp only[List.getElem?_cons_zero,Option.bind_some] at h;simp only[yD,h,Bool.and_eq_true,Option.isSome_iff_exists] at I;exact I.1
 |o::l,j+1,t,I,h=>by
  simp only[yD,Bool.and_eq_true] at I;exact QP I.2 (by simpa using h)
section
variable{l:List Oper}{m:Nat}
theorem S4{am:Nat->G}{S:Nat->Option G}(h:∀j t,j<m->(l[j]?).bind (·.dst)=some t->S t=some (am j)):∀i,i<=m->dY l am S i=S
 |0,_=>rfl
 |i+1,X=>by
  funext t
  simp only[dY];split
  ·rename_i e;exact(h i t (by omega) e).symm
  ·rw[S4 h i (by omega)]
theorem S5{am bV:Nat->G}{S:Nat->Option G}(h0:dY l bV S m=S)(hF:∀i,bV (m+i)=am i):∀i,dY l bV S (m+i)=dY (l.drop m) am S i
 |0=>h0
 |i+1=>by
  funext t
  rw[show m+(i+1)=(m+i)+1 by omega];simp only[dY,S5 h0 hF i,hF,List.getElem?_drop]
theorem SQ{N:Nat->Option (Nat×List G)}{B:Nat->Option (List G)}(h:∀j,j<m->N j=none):∀i,i<=m->dC N B i=B
 |0,_=>rfl
 |i+1,X=>by simp only[dC,h i (by omega),SQ h i (by omega)];rfl
theorem SR{N kH:Nat->Option (Nat×List G)}{B:Nat->Option (List G)}(h0:dC kH B m=B):∀i,(∀j,j<i->kH (m+j)=N j)->dC kH B (m+i)=dC N B i
 |0,_=>h0
 |i+1,hN=>by
  rw[show m+(i+1)=(m+i)+1 by omega];simp only[dC,SR h0 i (λ j hj=>hN j (by omega)),hN i (by omega)]
theorem SW{av:Nat->Option (Nat×Gr)}{au:Nat->Option Gr}(h:∀j,j<m->av j=none):∀i,i<=m->ej av au i=au
 |0,_=>rfl
 |i+1,X=>by simp only[ej,h i (by omega),SW h i (by omega)];rfl
theorem SX{av dN:Nat->Option (Nat×Gr)}{au:Nat->Option Gr}(h0:ej dN au m=au):∀i,(∀j,j<i->dN (m+j)=av j)->ej dN au (m+i)=ej av au i
 |0,_=>h0
 |i+1,hN=>by
  rw[show m+(i+1)=(m+i)+1 by omega];simp only[ej,SX h0 i (λ j hj=>hN j (by omega)),hN i (by omega)]
theorem SU{bJ:Nat->Bool}{N:Nat->Option (Nat×List G)}{aH:List Nat}(h:∀j,j<m->N j=none):∀i,i<=m->fL bJ N aH i=aH
 |0,_=>rfl
 |i+1,X=>by
  simp only[fL,h i (by omega),SU h i (by omega),DY];cases bJ i<;>rfl
theorem SV{bJ rK:Nat->Bool}{N kH:Nat->Option (Nat×List G)}{aH:List Nat}(h0:fL rK kH aH m=aH):∀i,(∀j,j<i->kH (m+j)=N j/\rK (m+j)=bJ j)->fL rK kH aH (m+i)=fL bJ N aH i
 |0,_=>h0
 |i+1,hN=>by
  rw[show m+(i+1)=(m+i)+1 by omega];simp only[fL,SV h0 i (λ j hj=>hN j (by omega)),(hN i (by omega)).1,(hN i (by omega)).2]
theorem Mg{av:Nat->Option (Nat×Gr)}{aC:List (Nat×Nat)}(h:∀j,j<m->av j=none):∀i,i<=m->fQ l av aC i=aC
 |0,_=>rfl
 |i+1,X=>by simp only[fQ,h i (by omega),uk,Mg h i (by omega)]
theorem S3{av dN:Nat->Option (Nat×Gr)}{aC:List (Nat×Nat)}(h0:fQ l dN aC m=aC):∀i,(∀j,j<i->dN (m+j)=av j)->fQ l dN aC (m+i)=fQ (l.drop m) av aC i
 |0,_=>h0
 |i+1,hN=>by
  rw[show m+(i+1)=(m+i)+1 by omega];simp only[fQ,S3 h0 i (λ j hj=>hN j (by omega)),hN i (by omega),List.getElem?_drop]
end
def Gy(P:Program)(Γ:bI)(l l3:List Oper)(m:Nat)(Q:Exit->St->Prop):Exit->St->Prop
 |.normal,J=>∃B,vA J.b B/\yD J.s (l.take m)=true/\cq P Γ.n l B J.b (Q .normal) m [] [] l3 J
 |ex,J=>Q ex J
theorem ZR{l:List Oper}{m:Nat}(mV:m<=l.length)(aQ:pj l.toArray Γ.n){Q:Exit->St->Prop}{J:St}{e:aA}{a:Act}(L:bu Γ J e a)(h:Gy P Γ l (l.drop m) m Q .normal J):Hr P l.toArray m (jr Γ Q) .normal a e.w:=by
 obtain⟨B,i6,hK,hQ⟩:=h;intro aG hs ia dJ;obtain⟨am,N,bJ,av,jL,h1,A,K,h4,h5⟩:=cq.extract (l.drop m) m [] [] J hQ;have x9:∀j,aG.getD j false=true->j<m:=λ j hj=>by
  rcases Nat.lt_or_ge j m with h6|h6
  ·exact h6
  ·rcases Nat.lt_or_ge j l.toArray.size with h7|h7
   ·have:=dJ j h6 h7;rw[(mL this).1] at hj;cases hj
   ·have h8:aG[j]?=none:=Array.getElem?_eq_none (by omega);simp[h8] at hj
 let bV:Nat->G:=λ i=>if i<m then(match(l[i]?).bind (·.dst) with|some t=>(kv J.s t).getD .any|none=>.any) else am (i-m)
 let kH:Nat->Option (Nat×List G):=λ i=>if m<=i/\i<l.length then N (i-m) else none
 let rK:Nat->Bool:=λ i=>bJ (i-m)
 let dN:Nat->Option (Nat×Gr):=λ i=>if m<=i/\i<l.length then av (i-m) else none
 have oO:∀j,j<m->kH j=none:=λ j hj=>if_neg (by omega)
 have ut:∀j,j<m->dN j=none:=λ j hj=>if_neg (by omega)
 have r6:∀j,m+j<l.length->kH (m+j)=N j:=λ j hj=>by simp only[kH];rw[if_pos ⟨by omega,hj⟩,Nat.add_sub_cancel_left]
 have Jl:∀j,m+j<l.length->dN (m+j)=av j:=λ j hj=>by simp only[dN];rw[if_pos ⟨by omega,hj⟩,Nat.add_sub_cancel_left]
 have OY:∀j,rK (m+j)=bJ j:=λ j=>by simp only[rK];rw[Nat.add_sub_cancel_left]
 have OH:∀j,bV (m+j)=am j:=λ j=>by simp only[bV];rw[if_neg (by omega),Nat.add_sub_cancel_left]
 have CH:∀j t,j<m->(l[j]?).bind (·.dst)=some t->kv J.s t=some (bV j):=λ j t hj ht=>by
  obtain⟨d,F⟩:=QP (l:=l.take m) (j:=j) hK (by rw[List.getElem?_take_of_lt hj];exact ht);simp only[bV];rw[if_pos hj,ht];simp only[F]
  rfl
 have eS:∀i,dY l bV (kv J.s) (m+i)=dY (l.drop m) am (kv J.s) i:=S5 (S4 CH m (Nat.le_refl _)) OH;have eB:∀i,m+i<=l.length->dC kH (kv J.b) (m+i)=dC N (kv J.b) i:=λ i X=>SR (SQ oO m (Nat.le_refl _)) i λ j hj=>r6 j (by omega)
 have eG:∀i,m+i<=l.length->ej dN (kv J.g) (m+i)=ej av (kv J.g) i:=λ i X=>SX (SW ut m (Nat.le_refl _)) i λ j hj=>Jl j (by omega)
 have eD:∀i,m+i<=l.length->fL rK kH [] (m+i)=fL bJ N [] i:=λ i X=>SV (SU oO m (Nat.le_refl _)) i λ j hj=>⟨r6 j (by omega),OY j⟩
 have eL:∀i,m+i<=l.length->fQ l dN [] (m+i)=fQ (l.drop m) av [] i:=λ i X=>S3 (Mg ut m (Nat.le_refl _)) i λ j hj=>Jl j (by omega)
 have bQ:l.toArray.size=l.length:=by simp
 have tz:m+(l.drop m).length=l.length:=by rw[List.length_drop];omega
 have jY:mA aG=l.toArray.size-m:=by
  have:=HI aG.toList m (by simpa[hs] using mV) (λ i X=>by
   have h1:=ia i X;have du:i<aG.size:=by rw[hs];omega
   simp[du] at h1⊢;exact h1) (λ i X R=>by
   have du:i<aG.size:=by simpa using R
   have h1:=dJ i X (by rw[<-hs];exact du);simp[du] at h1⊢;exact h1)
  simpa[mA,hs] using this
 refine BI (P:=P) (Γ:=Γ) (J:=J) (ops:=l.toArray) (H:=l.toArray.size) (λ i=>decide (i<m)) (λ _=>false) (λ _=>true) aQ (Iu _).1 (Nat.le_refl _) (am:=bV) (N:=kH) (bJ:=rK) (av:=dN) (B:=B) (a0:=a) (Q:=jr Γ Q) (λ i X=>if_neg (by omega)) (λ i X=>if_neg (by omega)) (λ i X=>oO i (by simpa using X)) (λ i X=>ut i (by simpa using X)) (λ _ _ _=>.inl rfl) (.inr λ _=>rfl) (λ b cs=>i6.get)
  (λ i o X ho yd _ _=>?_) (λ aG b Y hv q2 q3 _=>?_) (λ _ _ _ _ _ h=>by cases h) _ aG a e jY.symm ?_ (λ t h6 h7=>absurd h7 (by omega)) (λ i X=>ia i (by simpa using X)) (λ i X=>by cases X)
 ·have yd:m<=i:=by have:=of_decide_eq_false yd;omega
  obtain⟨j,rfl⟩:∃j,i=m+j:=⟨i-m,by omega⟩;have h6:=h5 j o (by rw[List.getElem?_drop];simpa using ho);rw[<-eS,<-eB j (by omega),<-eG j (by omega),<-eD j (by omega),<-eL j (by omega),<-OH,<-OY,<-r6 j (by omega),<-Jl j (by omega)] at h6;exact h6
 ·have T:bu Γ jL Y b:=hv.pr aQ (by rw[K,bQ,<-tz];exact(eS _).symm) (by rw[h4,bQ,<-tz];exact(eB _ (by omega)).symm) (by rw[A,bQ,<-tz];exact(eG _ (by omega)).symm) q2 q3;exact HK aQ (Iu _).2 _ _ aG b Y.w (by omega) (Nat.le_refl _) hv.lG q2 q3 (by rw[List.drop_eq_nil_of_le (by simp)];exact⟨jL,Y,rfl,T,h1⟩)
 ·refine⟨hs,L.size,L.df,λ i o X R x O T=>ia _ (Nat.lt_trans (aQ.back i o X x O T) (x9 i R)),λ i o t X R ht=>?_,λ t _=>rfl,L.bP,λ b cs T _=>L.boxes b cs T,λ i p R hp=>?_,λ b T _=>L.ei b T,λ g _=>L.gs g,λ i p R hp=>?_,L.env⟩
  ·exact L.bP t _ (CH i t (x9 i R) (by have:l[i]?=some o:=by simpa using X
                                       rw[this];exact ht))
  ·rw[oO i (x9 i R)] at hp;cases hp
  ·rw[ut i (x9 i R)] at hp;cases hp
theorem Ir{J:St}(k m:Nat)(ws:List Nat){id:Nat}{l l1 l2 l3:List Oper}{B:List (Nat×List G)}(hs:l5 k l (λ a=>kN k l λ b=>l5 (m-k) b λ c=>kN m l λ d=>some (a,c,d))=some (l1,l2,l3))(hv:oE ws J.b some=some B)(hm:P.follows .mixedOrders=true)(hB:qF l.toArray Γ.n=true)(hT:HD l.toArray k m=true)(JZ:Nat.ble k m=true)(mV:Nat.ble m l.length=true)
 (h:cq P Γ.n l B J.b (bp P Γ l (Gy P Γ l l3 m Q) l2) 0 [] [] l1 J):aK P Γ (.region id l.toArray true) Q J:=by
 obtain⟨pD,hs⟩:=rF hs;obtain⟨mR,hs⟩:=nt hs;obtain⟨mS,hs⟩:=rF hs;obtain⟨x5,hs⟩:=nt hs;cases hs;have JZ:=Nat.le_of_ble_eq_true JZ;have mV:=Nat.le_of_ble_eq_true mV;obtain⟨j9,K,_,_,i6⟩:=y6 _ _ _ _ hv;cases K;refine⟨λ a e L=>?_⟩;have aQ:=Hn hB;obtain⟨am,N,bJ,av,jL,h1,A,K,h4,h5⟩:=cq.extract (l.take k) 0 [] [] J h;have mj:(l.take k).length=k:=by rw[List.length_take];omega
 rw[mj] at A K h4;have nD:∀j,j<k->(l.take k)[j]?=l[j]?:=λ j hj=>by rw[List.getElem?_take_of_lt hj]
 have su:(l.toArray.toList.take m).drop k=(l.drop k).take (m-k):=by simp[List.drop_take]
 have hN:∀i,i<=k->dC N (kv J.b) i=dC (λ i=>if i<k then N i else none) (kv J.b) i:=λ i X=>BF i λ j hj=>by rw[if_pos (by omega)]
 have hD:∀i,i<=k->fL bJ N [] i=fL bJ (λ i=>if i<k then N i else none) [] i:=λ i X=>Ma i λ j hj=>⟨by rw[if_pos (by omega)],rfl⟩
 have hG:∀i,i<=k->ej av (kv J.g) i=ej (λ i=>if i<k then av i else none) (kv J.g) i:=λ i X=>HA i λ j hj=>by rw[if_pos (by omega)]
 have Z:∀i,i<=k->fQ (l.take k) av [] i=fQ l.toArray.toList (λ i=>if i<k then av i else none) [] i:=λ i X=>Mf i λ j hj=>⟨by rw[if_pos (by omega)],by simpa using nD j (by omega)⟩
 have:=BI (P:=P) (Γ:=Γ) (J:=J) (ops:=l.toArray) (H:=k) (λ _=>false) (λ _=>false) (λ _=>true) aQ (U4 hT JZ) (by simp;omega) (am:=am) (N:=λ i=>if i<k then N i else none) (bJ:=bJ) (av:=λ i=>if i<k then av i else none) (B:=B) (a0:=a) (Q:=jr Γ Q) (λ i X=>if_neg (by omega)) (λ i X=>if_neg (by omega)) (λ i X=>by simp at X) (λ i X=>by simp at X) (λ _ _ _=>.inl rfl) (.inr λ _=>rfl) (λ b cs=>i6.get)
  (λ i o X ho _ _ _=>by
   have h6:=h5 i o (by rw[nD i X];simpa using ho);rw[Nat.zero_add,hN i (by omega),hD i (by omega),hG i (by omega),Z i (by omega)] at h6;have e5:dY (l.take k) am (kv J.s) i=dY l.toArray.toList am (kv J.s) i:=Ex i λ j hj=>by simpa using nD j (by omega)
   rw[e5] at h6
   simpa[X] using h6)
  (λ aG b Y hv q2 q3 _=>by
   have T:bu Γ jL Y b:=hv.pr aQ (by rw[K];exact Ex _ λ j hj=>by simpa using nD j hj) (by rw[h4];exact hN _ (Nat.le_refl _)) (by rw[A];exact hG _ (Nat.le_refl _)) q2 q3;refine TA aQ hT (by simp;omega) (m-k) k aG b Y.w (by omega) (Nat.le_refl _) hv.lG q2 q3 ?_;rw[su];have hr:=h1.run b Y T;refine My (λ a2 w2 hh=>?_) (λ ex a2 w2 cE hh=>?_) hr
   ·obtain⟨qL,e2,rfl,eE,bm⟩:=hh;exact ZR mV aQ eE bm
   ·obtain⟨qL,e2,rfl,eE,bm⟩:=hh;cases ex<;>first|exact absurd rfl cE|exact⟨qL,e2,rfl,eE,bm⟩) (λ _ _ _ _ _ h=>by cases h)
  l.toArray.size (Array.replicate l.toArray.size false) a {e with w:=e.w.drew} (HJ _).symm
  ?_ (λ t _ ht=>by have yu:t<l.length:=by simpa using ht
                   simp[yu]) (λ i X=>by cases X) (λ i X=>by cases X)
 ·exact wp_region_any hm this
 ·have hg:kg e {e with w:=e.w.drew}:=⟨(Below.refl _ _).drew,λ _ _=>rfl,rfl,rfl,rfl⟩;have ey:=L.grow hg;refine⟨by simp,L.size,L.df,λ i o _ R=>?_,λ i o t _ R=>?_,λ t _=>rfl,ey.bP,λ b cs T _=>ey.boxes b cs T,λ i p R=>?_,λ b T _=>ey.ei b T,λ g _=>ey.gs g,λ i p R=>?_,ey.env⟩
  all_goals(simp[Array.getElem?_replicate] at R;split at R<;>simp at R)
theorem QT{J:St}{l l3:List Oper}{m:Nat}{B:List (Nat×List G)}(hv:oE [] J.b some=some B)(I:yD J.s (l.take m)=true)(h:cq P Γ.n l B J.b (Q .normal) m [] [] l3 J):Gy P Γ l l3 m Q .normal J:=by obtain⟨j9,K,_,_,i6⟩:=y6 _ _ _ _ hv;cases K;exact⟨B,i6,I,h⟩
end
end Go.Proofs.YtcnefjfboagbmaaGreat
end
section
namespace Go.Proofs.YtcnefjfboagbmaaGreat
open Go.Proofs.Tryz
open Go.RowKit
theorem AW{ar:Type}:∀(l m:List (Nat×ar))(n:Nat),kv (l++m) n=(kv l n).or (kv m n)
 |[],m,n=>rfl
 |(k,v)::l,m,n=>by
  rw[List.cons_append,cM,cM];split
  ·rfl
  ·exact AW l m n
theorem QR{ar:Type}{l m:List (Nat×ar)}{n:Nat}(h:aF l n=false):kv (l++m) n=kv m n:=by
 rw[AW];unfold aF at h;cases hh:kv l n with
 |none=>exact Option.none_or
 |some x=>rw[hh] at h;cases h
theorem KE{ar:Type}{l m:List (Nat×ar)}{n:Nat}(h:kv (l++m) n=none):aF l n=false/\kv m n=none:=by
 rw[AW] at h;unfold aF;cases hh:kv l n with
 |none=>rw[hh] at h;exact⟨rfl,h⟩
 |some x=>rw[hh] at h;cases h
section
variable{P:Program}{Γ:bI}{Q:Exit->St->Prop}
structure MA(Γ:bI)(e e2:aA)(v:Value)(d:G)(U:List (Nat×List G)):Prop where
 ends:Ends e e2
 ok:hd Γ e2
 bx:∀b,aF U b=false->e2.bx b=e.bx b
 gi:∀g,e2.gi g=e.gi g
 fz:∀b cs,hc e b cs->hc e2 b cs
 new:∀b cs,kv U b=some cs->hc e2 b cs
 rep:bD e2 v d
theorem Vs{e Y:aA}{U:List (Nat×List G)}{v:Value}{d:G}(aQ:hd Γ e)(dm:∀b,aF U b=true->e.bx b=none)(hI:fR U Y)(Z:Left [] (e.cut (aF ([]:List (Nat×List G))) λ _=>false) Y)(hr:bD Y v d):MA Γ e (e.after Y [] U) v d U:=by
 have gV:∀k,¬∃b,(e.cut (aF ([]:List (Nat×List G))) λ _=>false).bx b=some k:=by rintro k ⟨b,T⟩;have eC:(if aF ([]:List (Nat×List G)) b=true then e.bx b else none)=some k:=T;rw[show aF ([]:List (Nat×List G)) b=false from rfl,if_neg (by simp)] at eC;cases eC
 have xV:∀k,k<e.w.heap.size->Y.w.heap[k]?=e.w.heap[k]?:=λ k I=>Z.kept.block k I (gV k)
 have dT:∀k,k<e.w.heap.size->Y.cl k=e.cl k:=λ k I=>Z.cl k I (gV k)
 have i8:∀b,(e.after Y [] U).bx b=if aF U b=true then Y.bx b else e.bx b:=λ b=>by
  show(if aF U b=true then Y.bx b else if aF ([]:List (Nat×List G)) b=true then none else e.bx b)=_;rw[show aF ([]:List (Nat×List G)) b=false from rfl];simp
 have Qc:∀b k,e.bx b=some k->aF U b=false:=λ b k I=>by
  cases h:aF U b with
  |false=>rfl
  |true=>rw[dm b h] at I;cases I
 have lT:∀b k,Y.bx b=some k->e.w.heap.size<=k/\k<Y.w.heap.size/\Y.cl k=some 0:=λ b k I=>by
  obtain⟨h1,A⟩:=hI.bx b k I;rcases Z.bx b k I with K|K
  ·exact⟨K,h1,A⟩
  ·exact absurd K (gV k)
 have E:Ends e (e.after Y [] U):=by
  refine⟨λ b o v L hv=>?_,λ b k I=>?_,λ g au hg=>⟨au,hg,rfl,rfl,Nat.le_refl _⟩,λ k g au cur h1 A K=>⟨h1,cur,(xV k (sd K)).trans K,rfl⟩⟩
  ·have T:=EZ hv;refine⟨λ n lh=>L n ?_,?_⟩
   ·rw[<-dT b T];exact lh
   ·show Y.w.cell? _=_;rw[World.cell?_of_block (w:=e.w) (xV b T)];exact hv
  ·rw[i8,Qc b k I];simpa using I
 have wd:Ends Y (e.after Y [] U):=by
  refine⟨λ _ _ _ h1 A=>⟨h1,A⟩,λ b k I=>?_,λ g au hg=>?_,λ k g au cur hg=>?_⟩
  ·rw[i8,if_pos]
   ·exact I
   ·cases T:kv U b with
    |none=>rw[hI.ei b T] at I;cases I
    |some cs=>simp[aF,T]
  ·rw[hI.gi g] at hg;cases hg
  ·rw[hI.gr k] at hg;cases hg
 have bQ:e.w.heap.size<=Y.w.heap.size:=Z.kept.size;refine⟨E,⟨⟨Z.kept.os.trans aQ.kept.os,Z.kept.tape.trans aQ.kept.tape,Z.kept.output.trans aQ.kept.output,Nat.le_trans aQ.kept.size bQ,λ k I ho=>(xV k (Nat.lt_of_lt_of_le I aQ.kept.size)).trans (aQ.kept.block k I ho)⟩,λ k I ho=>(dT k (Nat.lt_of_lt_of_le I aQ.kept.size)).trans (aQ.cl k I ho),λ b k I=>?_,λ b c k h1 A=>?_,λ k g hg=>?_,λ b k I=>?_⟩,λ b T=>?_,λ g=>rfl,λ b cs T=>?_,λ b cs T=>?_,hr.next wd⟩
 ·rw[i8] at I;split at I
  ·obtain⟨h1,A,K⟩:=lT b k I;refine⟨A,.inl (Nat.le_trans aQ.kept.size h1),K,?_⟩;show e.gr k=none;cases hg:e.gr k with
   |none=>rfl
   |some g=>obtain⟨_,_,_,h4,_⟩:=aQ.gr k g hg;omega
  ·obtain⟨h1,A,K,h4⟩:=aQ.bx b k I;exact⟨Nat.lt_of_lt_of_le h1 bQ,A,(dT k h1).trans K,h4⟩
 ·rw[i8] at h1 A;split at h1<;>split at A
  ·exact hI.inj b c k h1 A
  ·have:=(lT b k h1).1;have:=(aQ.bx c k A).1;omega
  ·have:=(lT c k A).1;have:=(aQ.bx b k h1).1;omega
  ·exact aQ.inj b c k h1 A
 ·obtain⟨au,cur,h1,A,K,h4,h5⟩:=aQ.gr k g hg;exact⟨au,cur,h1,Nat.lt_of_lt_of_le A bQ,K,(dT k A).trans h4,(xV k A).trans h5⟩
 ·have:=aQ.kb b k I;rw[i8,Qc b k this];simpa using this
 ·rw[i8,T];simp
 ·obtain⟨k,vs,el,h1,A,K⟩:=T;exact⟨k,vs,el,E.bx b k h1,(xV k (sd A)).trans A,K.next E⟩
 ·exact(hI.boxes b cs T).ends wd rfl
theorem k8.aaP{J:St}{ops:Array Oper}(aQ:pj ops Γ.n){am:Nat->G}{N:Nat->Option (Nat×List G)}{bJ:Nat->Bool}{av:Nat->Option (Nat×Gr)}{a0:Act}{aG:Array Bool}{e Y:aA}{a:Act}(h:k8 Γ J ops am N bJ av a0 aG e a)
 {i:Nat}{o:Oper}(X:ops[i]?=some o)(hr:i∈Region.ready .any ops aG){v:Value}{U:List (Nat×List G)}(hN:N i=none)(hM:av i=none)(hq:MA Γ e Y v (am i) U):
 k8 Γ ⟨J.s,U++J.b,J.g⟩ ops am N bJ av a0 (aG.setIfInBounds i true) Y (a.put o.dst v):=by
 obtain⟨jY,o',gI,cT⟩:=mem_ready.1 hr;rw[X] at gI;cases gI;obtain⟨kz,du⟩:=mL jY;have E:=hq.ends;have split:∀j,(aG.setIfInBounds i true).getD j false=true->j=i\/aG.getD j false=true:=λ j hj=>by
  by_cases e:i=j
  ·exact .inl e.symm
  ·rw[getD_set_ne false e] at hj;exact .inr hj
 have sw:(aG.setIfInBounds i true).getD i false=true:=by simp[du]
 refine⟨by simpa using h.lG,by rw[Hw];exact h.size,by rw[E8];exact h.df,λ j oj hj R x O eC=>?_,λ j oj t hj R ht=>?_,λ t ht=>?_,λ t d ht=>(h.bP t d ht).next E,λ b cs T hn=>?_,λ j p R hp hn=>?_,λ b T hn=>?_,λ g hn=>by rw[hq.gi];exact h.gs g λ j p R hp=>hn j p (getD_set_true R) hp,λ j p R hp hn=>?_,hq.ok⟩
 ·rcases split j R with rfl|fw
  ·rw[X] at hj;cases hj;exact getD_set_true (cT x O eC)
  ·exact getD_set_true (h.closed j oj hj fw x O eC)
 ·rcases split j R with rfl|fw
  ·rw[X] at hj;cases hj;rw[ht,Eu (by rw[h.size];exact aQ.lt _ _ _ X ht)];exact hq.rep
  ·have cE:j≠i:=λ e=>by subst e;rw[kz] at fw;cases fw
   rw[y2 (λ e=>aQ.ne j i oj o t hj X cE ht e)];exact(h.uX j oj t hj fw ht).next E
 ·rw[y2 (ht i o X sw)];exact h.kept t λ j oj hj R=>ht j oj hj (getD_set_true R)
 ·have T:kv (U++J.b) b=some cs:=T;cases dz:aF U b with
  |false=>rw[QR dz] at T;exact hq.fz b cs (h.boxes b cs T λ j p R hp=>hn j p (getD_set_true R) hp)
  |true=>
   have:kv U b=some cs:=by
    rw[AW] at T;unfold aF at dz;cases hh:kv U b with
    |none=>rw[hh] at dz;cases dz
    |some x=>rw[hh] at T;exact T
   exact hq.new b cs this
 ·rcases split j R with rfl|fw
  ·rw[hN] at hp;cases hp
  ·exact hq.fz p.1 p.2 (h.news j p fw hp λ k q I dJ bm=>hn k q I (getD_set_true dJ) bm)
 ·obtain⟨h1,A⟩:=KE (show kv (U++J.b) b=none from T);rw[hq.bx b h1];exact h.ei b A λ j p R yw hp=>hn j p (getD_set_true R) yw hp
 ·rw[hq.gi];rcases split j R with rfl|fw
  ·rw[hM] at hp;cases hp
  ·exact h.gw j p fw hp λ k q I dJ bm=>hn k q I (getD_set_true dJ) bm
structure MB(P:Program)(Γ:bI)(l:List Oper)(B:List (Nat×List G))(oc:Oper)(ix:Nat)(aL:St->Prop)(l2:List Oper)(J:St):Prop where
 out:∃(f:FuncId)(ds:List G)(al:G->List (Nat×List G)->Prop)(d:G)(U:List (Nat×List G))(t:Nat)(xs:List Operand)(fx:Array TypeId),
  eo P f [] ds [] al/\(∀dR aq,al dR aq->dR=d/\aq=U)/\oc.op=.call {callee:=.value (.func f),args:=xs.toArray,argTypes:=fx}/\jN P f/\i5 (kv J.s) xs some=some ds/\G.ok.eA (aF ([]:List (Nat×List G))) (λ _=>false) ds=true/\gd l oc (kv J.s)=some true/\oc.dst=some t/\Nat.blt t Γ.n=true/\
  (∀b,aF U b=true->kv J.b b=none/\kv B b=none)/\cq P Γ.n l B B aL ix [] [] l2 ⟨(t,d)::J.s,U++J.b,J.g⟩
def R5(ops:Array Oper)(c k:Nat):Bool:=(List.range k).all λ i=>i==c||jD ops ops.size i c||match ops[i]? with
 |some o=>o.dst.isSome&&!ug o
 |none=>true
theorem R7{ops:Array Oper}{c k i:Nat}{o:Oper}(h:R5 ops c k=true)(X:i<k)(x3:i≠c)(ho:ops[i]?=some o):jD ops ops.size i c=true\/(o.dst.isSome=true/\ug o=false):=by
 have h1:=List.all_eq_true.1 h i (List.mem_range.2 X);simp only[ho,Bool.or_eq_true,beq_iff_eq,Bool.and_eq_true,Bool.not_eq_true'] at h1;rcases h1 with(h1|h1)|h1
 ·exact absurd h1 x3
 ·exact .inl h1
 ·exact .inr h1
theorem Sm{ops:Array Oper}{m:Nat}(aQ:pj ops m):∀(f t i:Nat),jD ops f t i=true->i<t
 |0,_,_,h=>by cases h
 |f+1,t,i,h=>by
  cases ho:ops[t]? with
  |none=>simp[jD,ho] at h
  |some o=>
   simp only[jD,ho] at h;obtain⟨e,he,T⟩:=Array.any_eq_true'.1 h;simp only[Bool.and_eq_true,Bool.or_eq_true,beq_iff_eq] at T;have h1:=aQ.back t o ho e he T.1;rcases T.2 with A|A
   ·omega
   ·have:=Sm aQ f e.on i A;omega
theorem GJ{l0:List Oper}{ix:Nat}{B:Nat->Option (List G)}{S:Nat->Option G}{Bi Bj:Nat->Option (List G)}{Gi Gj:Nat->Option Gr}{aH pX:List Nat}{aC pZ:List (Nat×Nat)}{o:Oper}{d:G}{nb:Option (Nat×List G)}{af:Bool}{m:Option (Nat×Gr)}(h:sS P l0 ix B B S Bi Gi aH aC o d nb af m)(h1:o.dst.isSome=true)(A:ug o=false)(hB:∀p,nb=some p->Bi p.1=none->Bj p.1=none):af=false/\m=none/\sS P l0 ix B B S Bj Gj pX pZ o d nb af m:=by
 rcases h with⟨a1,a2,a3,a4,a5⟩|⟨a1,a2,a3,a4,a5⟩|⟨nm,cs,aO,_,F,_⟩|⟨g,au,t,_,_,L,_⟩
 ·exact⟨a4,a5,.inl ⟨a1,a2,λ p hp=>⟨hB p hp (a3 p hp).1,(a3 p hp).2⟩,a4,a5⟩⟩
 ·exact⟨a4,a5,.inr (.inl ⟨a1,a2,a3,a4,a5⟩)⟩
 ·rw[F] at h1;cases h1
 ·rw[L] at A;cases A
end
theorem Hy{N:Nat->Option (Nat×List G)}{B:Nat->Option (List G)}{x:Nat}:∀i,B x=none->(∀j p,j<i->N j=some p->p.1≠x)->dC N B i x=none
 |0,h,_=>h
 |i+1,h,hn=>by
  simp only[dC,t6];split
  ·rename_i p hp;rw[if_neg (hn i p (Nat.lt_succ_self i) hp)];exact Hy i h λ j q hj hq=>hn j q (by omega) hq
  ·exact Hy i h λ j q hj hq=>hn j q (by omega) hq
theorem L8{N:Nat->Option (Nat×List G)}{U b0:List (Nat×List G)}:∀i,(∀j p,j<i->N j=some p->aF U p.1=false)->∀x,dC N (kv (U++b0)) i x=(kv U x).or (dC N (kv b0) i x)
 |0,_,x=>AW U b0 x
 |i+1,h,x=>by
  have ih:=L8 (N:=N) (U:=U) (b0:=b0) i (λ j p hj hp=>h j p (by omega) hp) x;simp only[dC,t6];cases hp:N i with
  |none=>exact ih
  |some p=>
   simp only
   by_cases O:p.1=x
   ·have T:=h i p (Nat.lt_succ_self i) hp;unfold aF at T;rw[O] at T;rw[if_pos O,if_pos O];cases I:kv U x with
    |none=>exact Option.none_or.symm
    |some y=>rw[I] at T;cases T
   ·rw[if_neg O,if_neg O];exact ih
theorem Mh{l iT:List Oper}{am bV:Nat->G}{S:Nat->Option G}:∀i,(∀j,j<i->l[j]?=iT[j]?/\am j=bV j)->dY l am S i=dY iT bV S i
 |0,_=>rfl
 |i+1,h=>by rw[dY,dY,Mh i λ j hj=>h j (by omega),(h i (by omega)).1,(h i (by omega)).2]
theorem Mb{bJ:Nat->Bool}{N:Nat->Option (Nat×List G)}{aH:List Nat}:∀i,(∀j,j<i->bJ j=false)->fL bJ N aH i=aH
 |0,_=>rfl
 |i+1,h=>by simp only[fL,h i (Nat.lt_succ_self i),cond_false,Mb i λ j hj=>h j (by omega)]
theorem ZK(e:aA):fR [] (e.cut (aF ([]:List (Nat×List G))) λ _=>false):=by
 have T:∀b,(e.cut (aF ([]:List (Nat×List G))) λ _=>false).bx b=none:=λ b=>by
  show(if aF ([]:List (Nat×List G)) b=true then e.bx b else none)=none;rw[show aF ([]:List (Nat×List G)) b=false from rfl];simp
 refine⟨λ b cs h=>(by cases h),λ b _=>T b,λ g=>?_,λ k=>?_,λ b k I=>(by rw[T] at I;cases I),λ b c k I=>(by rw[T] at I;cases I)⟩
 ·show(if false=true then e.gi g else none)=none;simp
 ·show(match e.gr k with|some g=>if false=true then some g else none|none=>none)=none;cases e.gr k<;>simp
section
variable{P:Program}{Γ:bI}{Q:Exit->St->Prop}
theorem UR{J:St}(c k:Nat){id:Nat}{l l1 l2 l3:List Oper}{oc:Oper}{B:List (Nat×List G)}(hs:l5 c l (λ a=>kN c l λ r=>match r with|o::iH=>l5 (k-(c+1)) iH λ b=>kN (k-(c+1)) iH λ d=>some (a,o,b,d)|[]=>none)=some (l1,oc,l2,l3))(hv:oE [] J.b some=some B)(hm:P.follows .mixedOrders=true)(hB:qF l.toArray Γ.n=true)(hT:tZ l.toArray k=true)(hP:R5 l.toArray c k=true)(uw:Nat.blt c k=true)
 (h:cq P Γ.n l B B (MB P Γ l B oc (c+1) (bp P Γ l Q l3) l2) 0 [] [] l1 J):aK P Γ (.region id l.toArray true) Q J:=by
 obtain⟨pD,hs⟩:=rF hs;obtain⟨mR,hs⟩:=nt hs;obtain⟨iH,pJ,hs⟩:∃iH,l.drop c=oc::iH/\l5 (k-(c+1)) iH (λ b=>kN (k-(c+1)) iH λ d=>some (l.take c,oc,b,d))=some (l1,oc,l2,l3):=by
  cases F:l.drop c with
  |nil=>rw[F] at hs;cases hs
  |cons o iH=>rw[F] at hs;simp only at hs;obtain⟨h1,A⟩:=rF hs;obtain⟨K,h4⟩:=nt A;cases h4;exact⟨iH,rfl,hs⟩
 obtain⟨mS,hs⟩:=rF hs;obtain⟨x5,hs⟩:=nt hs;cases hs;have uw:c<k:=by simpa using uw
 obtain⟨j9,K,_,_,i6⟩:=y6 _ _ _ _ hv;cases K;have R:l=l.take c++oc::iH:=by rw[<-pJ,List.take_append_drop]
 have ci:l.length=c+1+iH.length:=by have:=congrArg List.length R;rw[List.length_append,List.length_cons,List.length_take] at this;omega
 have mj:k<=l.length:=by omega
 have bQ:l.toArray.size=l.length:=by simp
 have g1:∀j,j<c->l[j]?=(l.take c)[j]?:=λ j hj=>by rw[List.getElem?_take_of_lt hj]
 have gc:l[c]?=some oc:=by
  have:(l.drop c)[0]?=some oc:=by rw[pJ];rfl
  rw[List.getElem?_drop] at this;simpa using this
 have g2:∀j,j<k-(c+1)->l[c+1+j]?=(iH.take (k-(c+1)))[j]?:=λ j hj=>by
  rw[List.getElem?_take_of_lt hj];have:(l.drop c)[j+1]?=iH[j]?:=by rw[pJ];rfl
  rw[List.getElem?_drop] at this;rw[<-this];congr 1;omega
 have JB:l.toArray.toList.drop k=iH.drop (k-(c+1)):=by
  show l.drop k=_;rw[show k=c+(1+(k-(c+1))) by omega,<-List.drop_drop,pJ,Nat.add_comm 1,List.drop_succ_cons]
  congr 1
  omega
 have ia:(l.take c).length=c:=by rw[List.length_take];omega
 have dJ:(iH.take (k-(c+1))).length=k-(c+1):=by rw[List.length_take];omega
 have aQ:=Hn hB;obtain⟨F1,N1,U1,M1,nN,hC,Cv,xG,ta,KY⟩:=cq.extract (l.take c) 0 [] [] J h;rw[ia] at Cv xG ta;obtain⟨f,ds,al,d,U,t,xs,fx,W7,hR,iD,CY,Xs,YP,pC,mO,ba,se,cJ⟩:=hC.out;obtain⟨F2,N2,U2,M2,jL,hK,NU,NV,NT,aaq⟩:=cq.extract (iH.take (k-(c+1))) (c+1) [] [] _ cJ;rw[dJ] at NU NV NT
 let am:Nat->G:=λ i=>if i<c then F1 i else if i=c then d else F2 (i-(c+1))
 let N:Nat->Option (Nat×List G):=λ i=>if i<c then N1 i else if i=c then none else if i<k then N2 (i-(c+1)) else none
 let bJ:Nat->Bool:=λ i=>if i<c then U1 i else if i=c then false else if i<k then U2 (i-(c+1)) else false
 let av:Nat->Option (Nat×Gr):=λ i=>if i<c then M1 i else if i=c then none else if i<k then M2 (i-(c+1)) else none
 have BR:∀j,j<c->am j=F1 j:=λ j hj=>if_pos hj
 have Fc:am c=d:=by simp only[am];rw[if_neg (Nat.lt_irrefl c)];simp
 have MD:∀j,am (c+1+j)=F2 j:=λ j=>by simp only[am];rw[if_neg (by omega),if_neg (by omega)];congr 1;omega
 have xo:∀j,j<c->N j=N1 j:=λ j hj=>if_pos hj
 have Nc:N c=none:=by simp only[N];rw[if_neg (Nat.lt_irrefl c)];simp
 have HZ:∀j,j<k-(c+1)->N (c+1+j)=N2 j:=λ j hj=>by simp only[N];rw[if_neg (by omega),if_neg (by omega),if_pos (by omega)];congr 1;omega
 have Nk:∀j,k<=j->N j=none:=λ j hj=>by simp only[N];rw[if_neg (by omega),if_neg (by omega),if_neg (by omega)]
 have MO:∀j,j<c->bJ j=U1 j:=λ j hj=>if_pos hj
 have Uc:bJ c=false:=by simp only[bJ];rw[if_neg (Nat.lt_irrefl c)];simp
 have MP:∀j,j<k-(c+1)->bJ (c+1+j)=U2 j:=λ j hj=>by simp only[bJ];rw[if_neg (by omega),if_neg (by omega),if_pos (by omega)];congr 1;omega
 have HW:∀j,j<c->av j=M1 j:=λ j hj=>if_pos hj
 have Mc:av c=none:=by simp only[av];rw[if_neg (Nat.lt_irrefl c)];simp
 have HX:∀j,j<k-(c+1)->av (c+1+j)=M2 j:=λ j hj=>by simp only[av];rw[if_neg (by omega),if_neg (by omega),if_pos (by omega)];congr 1;omega
 have Mk:∀j,k<=j->av j=none:=λ j hj=>by simp only[av];rw[if_neg (by omega),if_neg (by omega),if_neg (by omega)]
 have R3:∀i o,i<c->l[i]?=some o->o.dst.isSome=true/\ug o=false:=λ i o X ho=>by
  rcases R7 hP (show i<k by omega) (show i≠c by omega) (show l.toArray[i]?=some o by simpa using ho) with h1|h1
  ·have:=Sm aQ _ _ _ h1;omega
  ·exact h1
 have oT:∀i,i<l.length->∃o,l[i]?=some o:=λ i X=>⟨l[i],List.getElem?_eq_getElem X⟩
 have DV:∀i o,i<c->l[i]?=some o->sS P l i (kv B) (kv B) (dY (l.take c) F1 (kv J.s) i) (dC N1 (kv J.b) i) (ej M1 (kv J.g) i) (fL U1 N1 [] i) (fQ (l.take c) M1 [] i) o (F1 i) (N1 i) (U1 i) (M1 i):=λ i o X ho=>by
  have:=KY i o (by rw[<-g1 i X];exact ho);rw[Nat.zero_add] at this;exact this
 have MQ:∀j,j<c->U1 j=false/\M1 j=none:=λ j hj=>by
  obtain⟨o,ho⟩:=oT j (by omega);obtain⟨p1,p2⟩:=R3 j o hj ho;have:=GJ (Bj:=dC N1 (kv J.b) j) (Gj:=ej M1 (kv J.g) j) (pX:=[]) (pZ:=[]) (DV j o hj ho) p1 p2 (λ p hp hh=>hh);exact⟨this.1,this.2.1⟩
 have ib:∀j p,j<c->N1 j=some p->aF U p.1=false:=λ j p hj hp=>by
  cases dz:aF U p.1 with
  |false=>rfl
  |true=>have h5:=(se p.1 dz).1;rw[ta] at h5;exact absurd rfl ((qI c h5).2 j p hj hp)
 have ZE:∀b,aF U b=true->kv J.b b=none:=λ b T=>by
  have h5:=(se b T).1;rw[ta] at h5;exact(qI c h5).1
 have xH:∀i,i<=c->dY l am (kv J.s) i=dY (l.take c) F1 (kv J.s) i:=λ i X=>Mh i λ j hj=>⟨g1 j (by omega),BR j (by omega)⟩
 have NY:∀j,j<=k-(c+1)->dY l am (kv J.s) (c+1+j)=dY (iH.take (k-(c+1))) F2 (kv ((t,d)::nN.s)) j:=by
  intro j;induction j with
  |zero=>
   intro _
   funext x
   show dY l am (kv J.s) (c+1) x=kv ((t,d)::nN.s) x;simp only[dY,gc,Fc,Option.bind_some,mO,cM,xH c (Nat.le_refl _),<-xG,Option.some.injEq]
  |succ j ih=>
   intro hj;rw[show c+1+(j+1)=(c+1+j)+1 by omega]
   funext x
   simp only[dY,ih (by omega),g2 j (by omega),MD]
 have Cw:∀i,i<=c->dC N (kv J.b) i=dC N1 (kv J.b) i:=λ i X=>BF i λ j hj=>xo j (by omega)
 have NZ:∀i,i<=c->dC N (kv (U++J.b)) i=dC N1 (kv (U++J.b)) i:=λ i X=>BF i λ j hj=>xo j (by omega)
 have NW:∀j,j<=k-(c+1)->dC N (kv (U++J.b)) (c+1+j)=dC N2 (kv (U++nN.b)) j:=by
  intro j;induction j with
  |zero=>
   intro _
   funext x
   show dC N (kv (U++J.b)) (c+1) x=kv (U++nN.b) x;simp only[dC,Nc,t6];rw[NZ c (Nat.le_refl _),L8 c ib x,AW,ta]
  |succ j ih=>intro hj;rw[show c+1+(j+1)=(c+1+j)+1 by omega];simp only[dC,ih (by omega),HZ j (by omega)]
 have VT:∀i,i<=c->ej av (kv J.g) i=ej M1 (kv J.g) i:=λ i X=>HA i λ j hj=>HW j (by omega)
 have NX:∀j,j<=k-(c+1)->ej av (kv J.g) (c+1+j)=ej M2 (kv nN.g) j:=by
  intro j;induction j with
  |zero=>
   intro _;show ej av (kv J.g) (c+1)=kv nN.g;simp only[ej,Mc,VT c (Nat.le_refl _),Cv]
   rfl
  |succ j ih=>intro hj;rw[show c+1+(j+1)=(c+1+j)+1 by omega];simp only[ej,ih (by omega),HX j (by omega)]
 have VS:∀j,j<=k-(c+1)->fL bJ N [] (c+1+j)=fL U2 N2 [] j:=by
  intro j;induction j with
  |zero=>
   intro _;exact Mb (c+1) λ j hj=>by
    by_cases C8:j=c
    ·rw[C8];exact Uc
    ·rw[MO j (by omega)];exact(MQ j (by omega)).1
  |succ j ih=>intro hj;rw[show c+1+(j+1)=(c+1+j)+1 by omega];simp only[fL,ih (by omega),HZ j (by omega),MP j (by omega)]
 have TP:∀j,j<c+1->av j=none:=λ j hj=>by
  by_cases C8:j=c
  ·rw[C8];exact Mc
  ·rw[HW j (by omega)];exact(MQ j (by omega)).2
 have VU:∀j,j<=k-(c+1)->fQ l av [] (c+1+j)=fQ (iH.take (k-(c+1))) M2 [] j:=by
  intro j;induction j with
  |zero=>intro _;exact Mg TP (c+1) (Nat.le_refl _)
  |succ j ih=>intro hj;rw[show c+1+(j+1)=(c+1+j)+1 by omega];simp only[fQ,ih (by omega),g2 j (by omega),HX j (by omega)]
 have post:∀i o,i<k->l.toArray[i]?=some o->i≠c->sS P l.toArray.toList i (kv B) (kv B) (dY l.toArray.toList am (kv J.s) i) (dC N (kv (U++J.b)) i) (ej av (kv J.g) i) (fL bJ N [] i) (fQ l.toArray.toList av [] i) o (am i) (N i) (bJ i) (av i):=by
  intro i o X ho x3;have ho:l[i]?=some o:=by simpa using ho
  rcases Nat.lt_or_ge i c with h5|h5
  ·obtain⟨p1,p2⟩:=R3 i o h5 ho;have:=(GJ (Bj:=dC N (kv (U++J.b)) i) (Gj:=ej av (kv J.g) i) (pX:=fL bJ N [] i) (pZ:=fQ l av [] i) (DV i o h5 ho) p1 p2 (λ p hp hh=>by
    rw[NZ i (by omega),L8 i (λ j q hj hq=>ib j q (by omega) hq),hh];have:=ib i p h5 hp;unfold aF at this;cases I:kv U p.1 with
    |none=>rfl
    |some y=>rw[I] at this;cases this)).2.2
   rw[<-xH i (by omega),<-BR i h5,<-xo i h5,<-MO i h5,<-HW i h5] at this;exact this
  ·obtain⟨j,rfl⟩:∃j,i=c+1+j:=⟨i-(c+1),by omega⟩;have:=aaq j o (by rw[<-g2 j (by omega)];exact ho);rw[<-NY j (by omega),<-NW j (by omega),<-NX j (by omega),<-VS j (by omega),<-VU j (by omega),<-MD,<-HZ j (by omega),<-MP j (by omega),<-HX j (by omega)] at this;exact this
 let tQ:Nat->Bool:=λ i=>decide (i<k)&&!(i==c)&&!(jD l.toArray l.toArray.size i c)
 have GX:∀i,tQ i=true->i<k/\i≠c/\∀o,l.toArray[i]?=some o->o.dst.isSome=true/\ug o=false:=λ i X=>by
  simp only[tQ,Bool.and_eq_true,decide_eq_true_eq,Bool.not_eq_true',beq_eq_false_iff_ne] at X;refine⟨X.1.1,X.1.2,λ o ho=>?_⟩;rcases R7 hP X.1.1 X.1.2 ho with h1|h1
  ·rw[X.2] at h1;cases h1
  ·exact h1
 have abY:∀i,tQ i=true->bJ i=false/\av i=none:=λ i X=>by
  obtain⟨h1,A,K⟩:=GX i X;obtain⟨o,ho⟩:=oT i (by omega);have gI:l.toArray[i]?=some o:=by simpa using ho
  obtain⟨p1,p2⟩:=K o gI;have:=GJ (Bj:=dC N (kv (U++J.b)) i) (Gj:=ej av (kv J.g) i) (pX:=[]) (pZ:=[]) (post i o h1 gI A) p1 p2 (λ p hp hh=>hh);exact⟨this.1,this.2.1⟩
 refine⟨λ a e L=>?_⟩;have:=BI (P:=P) (Γ:=Γ) (J:=J) (ops:=l.toArray) (H:=k) (λ _=>false) (λ i=>i==c) tQ aQ (Iv hT) (by omega) (am:=am) (N:=N) (bJ:=bJ) (av:=av) (B:=B) (a0:=a) (Q:=jr Γ Q) Nk Mk
  (λ i X=>by rcases X with X|X;·cases X
             ·rw[show i=c by simpa using X];exact Nc)
  (λ i X=>by rcases X with X|X;·cases X
             ·rw[show i=c by simpa using X];exact Mc)
  (λ i o ho=>by
   by_cases x3:i=c
   ·exact .inr (.inl (by simp[x3]))
   ·by_cases sq:jD l.toArray l.toArray.size i c=true
    ·exact .inr (.inr ⟨c,by simp,sq⟩)
    ·have sq:jD l.toArray l.toArray.size i c=false:=by simpa using sq
     rcases Nat.lt_or_ge i k with h5|h5
     ·exact .inl (by
       show(decide (i<k)&&!(i==c)&&!(jD l.toArray l.toArray.size i c))=true;rw[sq];simp[h5,x3])
     ·exfalso;rcases Mq hT ho h5 (show c<i by omega) with⟨x,O,T,mm⟩|⟨_,h6⟩
      ·rw[show l.toArray.size=(l.length-1)+1 by omega] at sq;simp only[jD,ho] at sq;have:(o.after.any λ e=>Region.binds .any e&&(e.on==c||jD l.toArray (l.length-1) e.on c))=true:=Array.any_eq_true'.2 ⟨x,O,by simp[T,mm]⟩;rw[this] at sq;cases sq
      ·rw[sq] at h6;cases h6)
  (.inl abY) (λ b cs=>i6.get)
  (λ i o X ho _ afJ yj=>by
   obtain⟨h1,A,K⟩:=GX i yj;obtain⟨p1,p2⟩:=K o ho;have cO:=post i o h1 ho A;have cO:=(GJ (Bj:=dC N (kv J.b) i) (Gj:=ej av (kv J.g) i) (pX:=fL bJ N [] i) (pZ:=fQ l.toArray.toList av [] i) cO p1 p2 (λ p hp hh=>by
    obtain⟨q1,q2⟩:=qI i hh;exact Hy i (KE q1).2 q2)).2.2
   rcases cO with⟨a1,a2,a3,a4,a5⟩|cO|⟨nm,cs,aO,_,F,_⟩|⟨g,au,kX,_,_,dT,_⟩
   ·refine .inl ⟨a1,.inl (by rcases a2 with a2|⟨_,a2⟩<;>exact a2),a3,a4,a5⟩
   ·exact .inr (.inl cO)
   ·rw[F] at p1;cases p1
   ·rw[dT] at p2;cases p2)
  (λ aG b Y hv q2 q3 q4=>by
   have h1:=q2 c uw;rw[q4 c (by simp)] at h1;cases h1)
  (λ fuel aG br Y i X sg hr ct gz _=>by
   obtain rfl:i=c:=by simpa using X
   have ho:l.toArray[i]?=some oc:=by simpa using gc
   have jY:=(mem_ready.1 hr).1;have dg:dY l.toArray.toList am (kv J.s) i=kv nN.s:=by show dY l am (kv J.s) i=_;rw[xH i (Nat.le_refl _),<-xG]
   have hw:=ct.wanted aQ ho hr (c:=true) (by rw[dg];exact pC);have jn:=ct.iI aQ ho hr;rw[dg] at jn;have AH:∀x∈oc.op.operands,∀d,ev (kv nN.s) x=some d->bD Y (br.eval x) d:=λ x O d F=>by
    cases x with
    |tmp kX=>exact jn kX (List.mem_append_left _ (List.mem_filterMap.2 ⟨.tmp kX,by simpa using O,rfl⟩)) d F
    |const v=>simp only[ev,xA,Option.some.injEq] at F;subst F;exact xz _ v
    |global g=>cases F
    |func iM=>simp only[ev,Option.some.injEq] at F;subst F;exact .fn (us:=[]) (vs:=[]) rfl rfl (λ i v d h=>by simp at h) (λ i v d h=>by simp at h)
   have hv:=CB (a:=br) (e:=Y) xs (λ x O=>AH x (by rw[iD];simp[Op.operands,Call.operands,O])) Xs;have dm:∀b,aF U b=true->Y.bx b=none:=λ b T=>by
    refine ct.ei b (ZE b T) λ j p R hu hp he=>?_
    have qw:j<l.length:=by
     rcases Nat.lt_or_ge j l.length with h5|h5
     ·exact h5
     ·rw[Nk j (by omega)] at hp;cases hp
    have C8:j≠i:=λ e5=>by rw[e5,Nc] at hp;cases hp
    have mf:j<k:=by
     rcases Nat.lt_or_ge j k with h5|h5
     ·exact h5
     ·rw[Nk j h5] at hp;cases hp
    obtain⟨oj,iP⟩:=oT j qw;rcases post j oj mf (by simpa using iP) C8 with⟨_,_,a3,_,_⟩|⟨_,_,a3,_,_⟩|⟨_,_,_,_,_,_,_,_,_,_,_,a3,_⟩|⟨_,_,_,_,_,_,_,_,a3,_⟩
    ·have:=(KE (qI j (a3 p hp).1).1).1;rw[he,T] at this;cases this
    ·rw[a3] at hp;cases hp
    ·rw[hu] at a3;cases a3
    ·rw[a3] at hp;cases hp
   unfold wpOp;simp only[ho];rw[if_pos hw];refine .inl ?_;unfold Oper.wp;have e1:(execOp br.eval oc).run P Y.w=.ok (.enter f (xs.map br.eval).toArray) Y.w:=by obtain⟨dst,op,type,pos,after,guard⟩:=oc;simp only at iD;subst iD;rw[execOp_call_go,CY];simp
   rw[e1];refine Calls.mono (W7 (Y.cut (aF ([]:List (Nat×List G))) λ _=>false) (xs.map br.eval) (ZK Y) ⟨hv.1,λ i v d h1 A=>(hv.2 i v d h1 A).cut (qD YP A)⟩) λ r aI hh=>?_
   obtain⟨v,dR,aq,e2,rfl,rfl,Xg,hI,Y6,Z⟩:=hh;obtain⟨rfl,rfl⟩:=hR dR aq Xg;have pG:=Vs ct.env dm hI Z Y6;rw[<-Fc] at pG;have sk:=ct.aaP aQ ho hr Nc Mc pG;have AA:fuel=mA (aG.setIfInBounds i true):=by have:=Mw jY;omega
   have du:=(mL jY).2;refine BI (P:=P) (Γ:=Γ) (J:=⟨J.s,aq++J.b,J.g⟩) (ops:=l.toArray) (H:=k) (λ j=>j==i) (λ _=>false) (λ _=>true) aQ (Iv hT) (by omega) (am:=am) (N:=N) (bJ:=bJ) (av:=av) (B:=B) (a0:=a) (Q:=jr Γ Q) Nk Mk
    (λ j hj=>by rcases hj with hj|hj;·rw[show j=i by simpa using hj];exact Nc
                ·cases hj)
    (λ j hj=>by rcases hj with hj|hj;·rw[show j=i by simpa using hj];exact Mc
                ·cases hj)
    (λ _ _ _=>.inl rfl) (.inr λ _=>rfl)
    (λ b cs T=>by
     have h1:=i6.get T;have:aF aq b=false:=by
      cases h5:aF aq b with
      |false=>rfl
      |true=>rw[(se b h5).2] at T;cases T
     rw[QR this];exact h1)
    (λ j o hj iP q7 _ _=>by
     have cO:=post j o hj iP (by simpa using q7);rcases cO with⟨a1,a2,a3,a4,a5⟩|cO|cO|cO
     ·exact .inl ⟨a1,.inl (by rcases a2 with a2|⟨_,a2⟩<;>exact a2),a3,a4,a5⟩
     ·exact .inr (.inl cO)
     ·exact .inr (.inr (.inl cO))
     ·exact .inr (.inr (.inr cO)))
    (λ aG b e3 hv q2 q3 _=>by
     have T:bu Γ jL e3 b:=hv.pr aQ (by rw[NV];have:=NY (k-(i+1)) (Nat.le_refl _);rw[show i+1+(k-(i+1))=k by omega] at this;exact this.symm) (by rw[NT];have:=NW (k-(i+1)) (Nat.le_refl _);rw[show i+1+(k-(i+1))=k by omega] at this;exact this.symm) (by rw[NU];have:=NX (k-(i+1)) (Nat.le_refl _);rw[show i+1+(k-(i+1))=k by omega] at this;exact this.symm) q2 q3;exact HK aQ hT _ _ aG b e3.w (by omega) (Nat.le_refl _) hv.lG q2 q3 (by rw[JB];exact hK.run b e3 T))
    (λ _ _ _ _ _ h=>by cases h)
    fuel _ _ (Y.after e2 [] aq) AA sk (λ kX h1 A=>by rw[getD_set_ne true (by omega)];exact gz kX h1 A) (λ j hj=>by rw[show j=i by simpa using hj];simp[du]) (λ j hj=>by cases hj))
  l.toArray.size (Array.replicate l.toArray.size false) a {e with w:=e.w.drew} (HJ _).symm
  ?_ (λ t _ ht=>by have yu:t<l.length:=by simpa using ht
                   simp[yu]) (λ i X=>by cases X) (λ i X=>by
   have:i=c:=by simpa using X
   have dT:c<l.length:=by omega
   simp[this,dT])
 ·exact wp_region_any hm this
 ·have hg:kg e {e with w:=e.w.drew}:=⟨(Below.refl _ _).drew,λ _ _=>rfl,rfl,rfl,rfl⟩;have ey:=L.grow hg;refine⟨by simp,L.size,L.df,λ i o _ R=>?_,λ i o t _ R=>?_,λ t _=>rfl,ey.bP,λ b cs T _=>ey.boxes b cs T,λ i p R=>?_,λ b T _=>ey.ei b T,λ g _=>ey.gs g,λ i p R=>?_,ey.env⟩
  all_goals(simp[Array.getElem?_replicate] at R;split at R<;>simp at R)
def BT(U b B:List (Nat×List G)):Prop:=match U with
 |[]=>True
 |p::l=>kv b p.1=none/\kv B p.1=none/\BT l b B
theorem BT.get{b B:List (Nat×List G)}:∀{U:List (Nat×List G)}(_:BT U b B){x:Nat},aF U x=true->kv b x=none/\kv B x=none
 |[],_,x,h=>by cases h
 |(k,v)::l,hf,x,h=>by
  unfold aF at h;rw[cM] at h;split at h
  ·rename_i e;subst e;exact⟨hf.1,hf.2.1⟩
  ·exact BT.get hf.2.2 h
theorem Vc{l l2:List Oper}{B:List (Nat×List G)}{oc:Oper}{ix:Nat}{aL:St->Prop}{s:List (Nat×G)}{b:List (Nat×List G)}{g:List (Nat×Gr)}{f:FuncId}{ds:List G}{al:G->List (Nat×List G)->Prop}{d:G}{U:List (Nat×List G)}{t:Nat}{xs:List Operand}{fx:Array TypeId}(hC:eo P f [] ds [] al)(hR:∀dR aq,al dR aq->dR=d/\aq=U)(ho:oc.op=.call {callee:=.value (.func f),args:=xs.toArray,argTypes:=fx})(hf:jN P f)(he:i5 (kv s) xs some=some ds)(aQ:G.ok.eA (aF ([]:List (Nat×List G))) (λ _=>false) ds=true)(hg:gd l oc (kv s)=some true)(F:oc.dst=some t)(R:Nat.blt t Γ.n=true)(se:BT U b B)
 (h:cq P Γ.n l B B aL ix [] [] l2 ⟨(t,d)::s,U++b,g⟩):MB P Γ l B oc ix aL l2 ⟨s,b,g⟩:=⟨f,ds,al,d,U,t,xs,fx,hC,hR,ho,hf,he,aQ,hg,F,R,λ _ O=>se.get O,h⟩
end
end Go.Proofs.YtcnefjfboagbmaaGreat
end
section
namespace Go.Proofs.YtcnefjfboagbmaaGreat
open Go.Proofs.Tryz
open Go.RowKit
section
variable{P:Program}{ae:Nat->Option TI}{Γ:bI}{J:St}
inductive B7(e:aA)(nm n c sz:Nat)(ps:List Pl):Value->Prop where
 |none (hn:n=0) (L:c=0) (cO:ps=[]):B7 e nm n c sz ps (.slice none 0 0)
 |empty {ad:Addr} (hn:n=0) (L:c=0) (cO:ps=[]):B7 e nm n c sz ps (.slice (some ad) 0 0)
 |some {k:Nat} {vs:List Value} {el:TypeId} (I:e.bx nm=some k) (hh:e.w.heap[k]?=some (.cells vs.toArray el (0,0))) (R:vs.length=c*sz) (hn:n<=c) (cO:ps.length=n*sz) (hr:∀(j:Nat) v x,vs[j]?=some v->ps[j]?=some x->db e v x):B7 e nm n c sz ps (.slice (some ⟨k,0,none⟩) n c)
theorem UC(hT:cW P ae){e:aA}{a:Act}(L:bu Γ J e a){ty:TypeId}{nm n m c el z1 z2 sz:Nat}{z3:Value}{ps qs:List Pl}{i:TI}{vx vy:Value}{t:TypeId}(ht:ae t=some ⟨.slice el,z1,z2,z3⟩)(ec:ae el=some i)(ic:i.zero.cells.size=sz)(Gh:i.sz=sz)(h0:0<sz)(dI:kv Γ.kb nm=none)
 (O:B7 e nm n c sz ps vx)(h3:c<=maxLen)(ff:db e vy (.sl false m qs))(hm:0<m)(ee:qs.length=m*sz)
 (gh:n+m<=maxLen)(gu:(n+m)*i.bytes<=140737488355328):∃v Y aO bw,(Builtin.append_ #[t,t] ty #[vx,vy]).run P e.w=.ok v Y.w/\aO.length=bw*sz/\bw<=maxLen/\n+m<=bw/\aO.take ((n+m)*sz)=(ps++qs).map G.p/\fu aO/\
  bu Γ ⟨rR (cx nm) J.s,(nm,aO)::iA (Nat.beq nm) (cx nm) J.b,J.g⟩ Y a/\bD Y v (.arr nm 0 (n+m) bw):=by
 obtain⟨d0,dV,I⟩:=hT.desc t _ ht;cases d0<;>simp only[jJ,reduceCtorEq,TK.slice.injEq] at I
 rw[I] at dV;obtain⟨gj,mQ,bQ,tw,hz⟩:=hT.info _ i ec;rw[Gh] at bQ;obtain⟨ap,lI,rfl,Qt,Qw,FG,_,hY⟩:=qH ff;have Dx:qs≠[]:=λ Y=>by rw[Y] at ee;simp only[List.length_nil] at ee;have:=Nat.mul_pos hm h0;omega
 rcases hY with hY|⟨yb,yo,rfl,CP⟩
 ·exact absurd hY Dx
 obtain⟨us,sy,qz,lV,uQ⟩:=Cm CP;have pL:us.length=m*gj.size:=by rw[sy,ee,bQ]
 have mW:(n+m)*sz=n*sz+m*sz:=Nat.add_mul _ _ _;have uP:us.length=m*sz:=by rw[sy,ee]
 have uz:=L.forget nm dI;have Dp:kv (iA (Nat.beq nm) (cx nm) J.b) nm=none:=by
  cases h:kv (iA (Nat.beq nm) (cx nm) J.b) nm with
  |none=>rfl
  |some cs=>have:=(zt h).1;simp at this
 have tB:∀(os:List Value),os.length=n*sz->ps.length=n*sz->(∀(j:Nat) v x,os[j]?=some v->ps[j]?=some x->db e v x)->(c<n+m)->(Builtin.append_ #[t,t] ty #[vx,.slice (some ⟨yb,yo,none⟩) m lI]).run P e.w=.ok (.slice (some ⟨e.w.heap.size,0,none⟩) (n+m) (grownCap e.w (n+m) c el)) (e.w.drew.alloc (.cells (os.toArray++us.toArray++Builtin.zeroCells i.zero.cells (grownCap e.w (n+m) c el-(n+m))) el))->
  ∃v Y aO bw,(Builtin.append_ #[t,t] ty #[vx,.slice (some ⟨yb,yo,none⟩) m lI]).run P e.w=.ok v Y.w/\aO.length=bw*sz/\bw<=maxLen/\n+m<=bw/\aO.take ((n+m)*sz)=(ps++qs).map G.p/\fu aO/\
  bu Γ ⟨rR (cx nm) J.s,(nm,aO)::iA (Nat.beq nm) (cx nm) J.b,J.g⟩ Y a/\bD Y v (.arr nm 0 (n+m) bw):=by
  intro os iQ cO tJ ba cJ;have fB:n+m<=grownCap e.w (n+m) c el:=grownCap_ge _ _ _ _;have nE:grownCap e.w (n+m) c el<=maxLen:=grownCap_le_maxLen _ _ _ _ gh;generalize grownCap e.w (n+m) c el=bK at fB nE cJ
  let e1:=e.cut (cx nm) λ _=>true
  let iW:List Value:=os++us++(Builtin.zeroCells i.zero.cells (bK-(n+m))).toList
  have su:os.toArray++us.toArray++Builtin.zeroCells i.zero.cells (bK-(n+m))=iW.toArray:=by apply Array.ext';simp[iW]
  have ci:iW.length=bK*sz:=by
   have:(Builtin.zeroCells i.zero.cells (bK-(n+m))).toList.length=(bK-(n+m))*sz:=by rw[Array.length_toList,size_zeroCells,ic]
   simp only[iW,List.length_append,iQ,uP,this];have:=Nat.mul_le_mul_right sz fB;rw[Nat.sub_mul];omega
  rw[su] at cJ
  let e2:aA:={e1 with w:=e.w.drew}
  have ip:kg e1 e2:=⟨(Below.refl _ _).drew,λ _ _=>rfl,rfl,rfl,rfl⟩;have de:=aA.ud e2 (.cells iW.toArray el) (some 0);have eE:=(uz.grow ip).grow de;have Jh:Ends e1 (e2.alloc (.cells iW.toArray el) (some 0)):=ip.ends.trans de.ends;have oX:∀(j:Nat) v x,iW[j]?=some v->(ps++qs)[j]?=some x->db e1 v x:=by
   intro j v x hv O;rcases Nat.lt_or_ge j (n*sz) with hj|hj
   ·rw[List.getElem?_append_left (by omega)] at O;simp only[iW,List.append_assoc] at hv;rw[List.getElem?_append_left (by omega)] at hv;exact(tJ j v x hv O).cut
   ·rw[List.getElem?_append_right (by omega),cO] at O;have JW:=(List.getElem?_eq_some_iff.1 O).1;simp only[iW,List.append_assoc] at hv;rw[List.getElem?_append_right (by omega),iQ,List.getElem?_append_left (by omega)] at hv;exact(uQ _ v x hv O).cut
  have bF:(ps++qs).length=(n+m)*sz:=by rw[List.length_append,cO,ee,mW]
  have uv:=G9 (e:=e1) (vs:=iW) (ps:=ps++qs) (by rw[bF,ci];exact Nat.mul_le_mul_right sz fB) oX;have i7:(e2.alloc (.cells iW.toArray el) (some 0)).bx nm=none:=by show(if cx nm nm=true then e.bx nm else none)=none;simp[cx]
  have xO:=t7 (k:=e.w.heap.size) i7;have xZ:=eE.Ft (b:=nm) (k:=e.w.heap.size) (cs:=(ps++qs).map G.p++List.replicate (iW.length-(ps++qs).length) G.any) Dp (by simp[aA.alloc,e2]) (.inl L.env.kept.size) (by simp[aA.alloc,e2]) (by
   show(e.cut (cx nm) λ _=>true).gr _=none;show(match e.gr e.w.heap.size with|some g=>if true=true then some g else none|none=>none)=none;cases hg:e.gr e.w.heap.size with
   |none=>rfl
   |some g=>obtain⟨_,_,_,K,_⟩:=L.env.gr _ g hg;omega) (λ x O=>by
   have fD:(if cx nm x=true then e.bx x else none)=some e.w.heap.size:=O;split at fD
   ·have:=(L.env.bx x _ fD).1;omega
   ·cases fD) ⟨e.w.heap.size,iW,el,by simp[aA.iX],heap_alloc_new e2.w _,(uv.next Jh).next xO⟩
  refine⟨_,(e2.alloc (.cells iW.toArray el) (some 0)).iX nm e.w.heap.size,_,bK,cJ,?_,nE,fB,?_,Hb _ _,xZ,.arr (by simp[aA.iX])⟩
  ·simp only[List.length_append,List.length_map,List.length_replicate,ci,cO,ee];have:=Nat.mul_le_mul_right sz fB;omega
  ·rw[<-bF,List.take_append_of_le_length (by simp),List.take_of_length_le (by simp)]
 cases O with
 |empty hn h2 cO=>rename_i ad;subst hn;subst h2;subst cO;have cJ:=run_append_grow (P:=P) e.w t ty el gj i.zero dV mQ hz ad 0 0 [] (by simp) (λ j v hj=>by simp at hj) ⟨yb,yo,none⟩ m lI us pL qz (by omega) (by simp only[maxLen] at gh;omega) (growslice_fits (by omega) (by rw[tw];exact gu));exact tB [] (by simp) (by simp) (λ j v x hj=>by simp at hj) (by omega) cJ
 |none hn h2 cO=>subst hn;subst h2;subst cO;have cJ:=run_append_nil (P:=P) e.w t ty el gj i.zero dV mQ hz ⟨yb,yo,none⟩ m lI us pL qz hm (by simp only[maxLen] at gh;omega) (by rw[tw];simp only[Nat.zero_add] at gu;omega);exact tB [] (by simp) (by simp) (λ j v x hj=>by simp at hj) (by omega) (by simpa using cJ)
 |some I hh R hn cO hr=>
  rename_i k vs ql
  by_cases pK:n+m<=c
  ·have cJ:=Sy (P:=P) e.w t ty el ql gj dV mQ k n c vs.toArray hh ⟨yb,yo,none⟩ m lI us pL qz lV pK (by rw[bQ,uP];simp only[List.size_toArray,R];have:=Nat.mul_le_mul_right sz pK;omega);obtain⟨h1,A,K,h4⟩:=L.env.bx nm k I
   let fh:=vs.take (n*sz)++us++vs.drop ((n+m)*sz)
   have e7:=Nat.mul_le_mul_right sz pK;have sA:(vs.toArray.toList.take (n*gj.size)++us++vs.toArray.toList.drop (n*gj.size+us.length))=fh:=by simp only[bQ,uP,fh,mW]
   rw[sA] at cJ;have dm:∀x,(e.cut (cx nm) λ _=>true).bx x≠some k:=λ x O=>by
    have fD:(if cx nm x=true then e.bx x else none)=some k:=O;split at fD
    ·rename_i cE;exact Lb cE (L.env.inj _ _ _ fD I)
    ·cases fD
   have uD:(e.cut (cx nm) λ _=>true).gr k=none:=by show(match e.gr k with|some g=>if true=true then some g else none|none=>none)=none;rw[h4]
   obtain⟨oZ,E⟩:=uz.SD fh A K uD dm;have ci:fh.length=c*sz:=by simp only[fh,List.length_append,List.length_take,List.length_drop,uP,R];omega
   have bF:(ps++qs).length=(n+m)*sz:=by rw[List.length_append,cO,ee,mW]
   have oX:∀(j:Nat) v x,fh[j]?=some v->(ps++qs)[j]?=some x->db (e.cut (cx nm) λ _=>true) v x:=by
    intro j v x hv O;rcases Nat.lt_or_ge j (n*sz) with hj|hj
    ·rw[List.getElem?_append_left (by omega)] at O;simp only[fh,List.append_assoc] at hv;rw[List.getElem?_append_left (by simp only[List.length_take,R];omega),List.getElem?_take,if_pos hj] at hv;exact(hr j v x hv O).cut
    ·rw[List.getElem?_append_right (by omega),cO] at O;have JW:=(List.getElem?_eq_some_iff.1 O).1;simp only[fh,List.append_assoc] at hv;rw[List.getElem?_append_right (by simp only[List.length_take,R];omega),List.length_take,R,Nat.min_eq_left (by omega),List.getElem?_append_left (by omega)] at hv;exact(uQ _ v x hv O).cut
   have uv:=G9 (vs:=fh) (ps:=ps++qs) (by rw[bF,ci];exact e7) oX;have i7:(e.cut (cx nm) λ _=>true).bx nm=none:=by show(if cx nm nm=true then e.bx nm else none)=none;simp[cx]
   have xO:=t7 (e:={w:=(e.cut (cx nm) λ _=>true).w.setRow k fh.toArray,cl:=(e.cut (cx nm) λ _=>true).cl,bx:=(e.cut (cx nm) λ _=>true).bx,gr:=(e.cut (cx nm) λ _=>true).gr,gi:=(e.cut (cx nm) λ _=>true).gi}) (b:=nm) (k:=k) i7;have xZ:=oZ.Ft (b:=nm) (k:=k) (cs:=(ps++qs).map G.p++List.replicate (fh.length-(ps++qs).length) G.any) Dp (by show k<(e.w.setRow k _).heap.size;rw[setRow_size];exact h1) A K uD dm ⟨k,fh,ql,by simp[aA.iX],EV hh,(uv.next E).next xO⟩;refine⟨_,_,_,c,cJ,?_,h3,pK,?_,Hb _ _,xZ,.arr (by simp[aA.iX])⟩
   ·simp only[List.length_append,List.length_map,List.length_replicate,ci,cO,ee];omega
   ·rw[<-bF,List.take_append_of_le_length (by simp),List.take_of_length_le (by simp)]
  ·have cJ:=run_append_grow (P:=P) e.w t ty el gj i.zero dV mQ hz ⟨k,0,none⟩ n c (vs.take (n*sz)) (by rw[bQ,List.length_take,R];have:=Nat.mul_le_mul_right sz hn;omega) (λ j v hj=>by
    rw[List.getElem?_take] at hj;split at hj
    ·rw[rM,cell_of_row e.w k (0+j) vs.toArray ql (0,0) hh];simpa using hj
    ·cases hj) ⟨yb,yo,none⟩ m lI us pL qz (by omega) (by simp only[maxLen] at gh;omega) (growslice_fits (by omega) (by rw[tw];exact gu))
   exact tB (vs.take (n*sz)) (by rw[List.length_take,R];have:=Nat.mul_le_mul_right sz hn;omega) cO (λ j v x hv O=>by
    rw[List.getElem?_take] at hv;split at hv
    ·exact hr j v x hv O
    ·cases hv) (by omega) cJ
end
section
variable{P:Program}{ae:Nat->Option TI}{Γ:bI}{o:Oper}{l0 l:List Oper}{Q:Exit->St->Prop}
variable{s M:List (Nat×G)}{b bj:List (Nat×List G)}{g:List (Nat×Gr)}{t:Nat}
theorem Nf(hT:cW P ae)(nm:Nat){ty:TypeId}{x y:Operand}{n m c el z1 z2 sz:Nat}{z3:Value}{ps qs:List Pl}{dy:G}{i:TI}(ho:o.op=.call {callee:=.builtin .append,args:=#[x,y],argTypes:=#[ty,ty]})(ht:ae ty=some ⟨.slice el,z1,z2,z3⟩)(ec:ae el=some i)(ic:Nat.beq i.zero.cells.size sz=true)(bQ:Nat.beq i.sz sz=true)(h0:Nat.blt 0 sz=true)
 (hg:gd l0 o (kv s)=some true)(F:o.dst=some t)(R:Nat.blt t Γ.n=true)(dI:kv Γ.kb nm=none)(O:∀(a:Act)(e:aA),bu Γ ⟨s,b,g⟩ e a->B7 e nm n c sz ps (a.eval x))(h3:c<=maxLen)(hy:ev (kv s) y=some dy)(lD:ni dy=some (m,qs))(hm:0<m)(ee:qs.length=m*sz)
 (gh:n+m<=maxLen)(gu:(n+m)*i.bytes<=140737488355328)(gx:lx (cx nm) s (λ M=>lL (Nat.beq nm) (cx nm) b (λ bj=>some (M,bj)))=some (M,bj))
 (h:∀aO bw,aO.length=bw*sz->bw<=maxLen->n+m<=bw->aO.take ((n+m)*sz)=(ps++qs).map G.p->fu aO->bp P Γ l0 Q l ⟨(t,.arr nm 0 (n+m) bw)::M,(nm,aO)::bj,g⟩):bp P Γ l0 Q (o::l) ⟨s,b,g⟩:=by
 rw[um,ul] at gx;cases gx;refine⟨λ a e L=>?_⟩;unfold wpList;rw[if_pos (lN L hg)];have jn:=L.iI o.op.operands;have ff:=w8 (jn.1 y (by rw[ho];simp[Op.operands,Call.operands]) _ hy) lD;obtain⟨v,Y,aO,bw,cJ,h1,A,K,h4,bF,h5,h6⟩:=UC hT L (ty:=o.type) ht ec (Nat.eq_of_beq_eq_true ic) (Nat.eq_of_beq_eq_true bQ) (by rw[Nat.blt_eq] at h0;exact h0) dI (O a e L) h3 ff hm ee gh gu;refine .inl ?_;unfold Oper.wp;rw[Sx ho cJ];have:=(h5.put (dst:=o.dst) (qk F R) h6);rw[F] at this;show wpList P l0.toArray (jr Γ Q) l (a.put o.dst v) Y.w;rw[F];exact(h aO bw h1 A K h4 bF).run _ Y this
theorem Ig(hT:cW P ae){nm:Nat}{ty:TypeId}{x y:Operand}{n m c el z1 z2 sz:Nat}{z3:Value}{cs:List G}(ps:List Pl){qs:List Pl}{dy:G}{i:TI}(ho:o.op=.call {callee:=.builtin .append,args:=#[x,y],argTypes:=#[ty,ty]})(ht:ae ty=some ⟨.slice el,z1,z2,z3⟩)(ec:ae el=some i)(ic:Nat.beq i.zero.cells.size sz=true)(bQ:Nat.beq i.sz sz=true)(h0:Nat.blt 0 sz=true)
 (hg:gd l0 o (kv s)=some true)(F:o.dst=some t)(R:Nat.blt t Γ.n=true)(O:ev (kv s) x=some (.arr nm 0 n c))(dI:kv Γ.kb nm=none)(T:kv b nm=some cs)(hy:ev (kv s) y=some dy)(lD:ni dy=some (m,qs))(gx:lx (cx nm) s (λ M=>lL (Nat.beq nm) (cx nm) b (λ bj=>some (M,bj)))=some (M,bj))
 (cH:cs.length=c*sz)(tI:n<=c)(cO:ps.length=n*sz)(n9:cs.take (n*sz)=ps.map G.p)(h3:c<=maxLen)(hm:0<m)(ee:qs.length=m*sz)(gh:n+m<=maxLen)(gu:(n+m)*i.bytes<=140737488355328)
 (h:∀aO bw,aO.length=bw*sz->bw<=maxLen->n+m<=bw->aO.take ((n+m)*sz)=(ps++qs).map G.p->fu aO->bp P Γ l0 Q l ⟨(t,.arr nm 0 (n+m) bw)::M,(nm,aO)::bj,g⟩):bp P Γ l0 Q (o::l) ⟨s,b,g⟩:=by
 refine Nf hT nm ho ht ec ic bQ h0 hg F R dI (λ a e L=>?_) h3 hy lD hm ee gh gu gx h;have bO:=(L.iI o.op.operands).1 x (by rw[ho];simp[Op.operands,Call.operands]) _ O;obtain⟨k,vs,ql,h1,A,K⟩:=L.boxes nm cs T;generalize a.eval x=vx at bO;cases bO with
 |arr I=>rw[h1] at I;cases I;exact .some h1 A (by rw[K.1,cH]) tI cO (Ls K (by rw[cO];exact n9))
theorem If(hT:cW P ae)(nm:Nat){ty:TypeId}{x y:Operand}{m el z1 z2 sz:Nat}{z3:Value}{qs:List Pl}{dy:G}{i:TI}(ho:o.op=.call {callee:=.builtin .append,args:=#[x,y],argTypes:=#[ty,ty]})(ht:ae ty=some ⟨.slice el,z1,z2,z3⟩)(ec:ae el=some i)(ic:Nat.beq i.zero.cells.size sz=true)(bQ:Nat.beq i.sz sz=true)(h0:Nat.blt 0 sz=true)
 (hg:gd l0 o (kv s)=some true)(F:o.dst=some t)(R:Nat.blt t Γ.n=true)(O:ev (kv s) x=some (.p (.sl true 0 [])))(dI:kv Γ.kb nm=none)(hy:ev (kv s) y=some dy)(lD:ni dy=some (m,qs))(gx:lx (cx nm) s (λ M=>lL (Nat.beq nm) (cx nm) b (λ bj=>some (M,bj)))=some (M,bj))
 (hm:0<m)(ee:qs.length=m*sz)(gh:m<=maxLen)(gu:m*i.bytes<=140737488355328)
 (h:∀aO bw,aO.length=bw*sz->bw<=maxLen->m<=bw->aO.take (m*sz)=qs.map G.p->fu aO->bp P Γ l0 Q l ⟨(t,.arr nm 0 m bw)::M,(nm,aO)::bj,g⟩):bp P Γ l0 Q (o::l) ⟨s,b,g⟩:=by
 refine Nf hT nm (n:=0) (c:=0) (ps:=[]) ho ht ec ic bQ h0 hg F R dI (λ a e L=>?_) (Nat.zero_le _) hy lD hm ee (by omega) (by simpa using gu) gx (λ aO bw h1 A K h4 bF=>?_)
 ·have bO:=(L.iI o.op.operands).1 x (by rw[ho];simp[Op.operands,Call.operands]) _ O;generalize a.eval x=vx at bO;cases bO with
  |p h1=>
   obtain⟨ab,bK,rfl,_,_,_,h5,_⟩:=qH h1;have:=h5 rfl;subst this;cases ab with
   |none=>exact .none rfl rfl rfl
   |some ad=>exact .empty rfl rfl rfl
 ·simp only[Nat.zero_add,List.nil_append] at K h4⊢;exact h aO bw h1 A K h4 bF
end
end Go.Proofs.YtcnefjfboagbmaaGreat
end
section
namespace Go.Proofs.YtcnefjfboagbmaaGreat
open Go.Proofs.Tryz
open Go.RowKit
section
variable{P:Program}{ae:Nat->Option TI}{Γ:bI}
variable{s M:List (Nat×G)}{b bj:List (Nat×List G)}{g:List (Nat×Gr)}
end
end Go.Proofs.YtcnefjfboagbmaaGreat
end
section
namespace Go.Proofs.YtcnefjfboagbmaaGreat
open Go.Proofs.Tryz
open Go.ChangeShapes Go.WideShapes Go.ChangeAt Go.RowKit Go.Deep
abbrev rW(w:World):aA:=gR w (λ _=>none)
theorem Vi(w:World)(b o:Nat):(rW w).np b o:=λ k I=>by cases I
def kj(e:aA)(vs:List Value)(ps:List Pl):Prop:=vs.length=ps.length/\∀(i:Nat) v x,vs[i]?=some v->ps[i]?=some x->db e v x/\lX v=true
theorem kj.nil(e:aA):kj e [] []:=⟨rfl,λ i v x h=>by simp at h⟩
theorem kj.cons{e:aA}{v:Value}{x:Pl}{vs:List Value}{ps:List Pl}(h:db e v x)(R:lX v=true)(hs:kj e vs ps):kj e (v::vs) (x::ps):=by
 refine⟨by simp[hs.1],λ i af y h1 A=>?_⟩;cases i with
 |zero=>simp at h1 A;subst h1;subst A;exact⟨h,R⟩
 |succ i=>exact hs.2 i af y (by simpa using h1) (by simpa using A)
theorem kj.int{e:aA}{k:IntKind}{n:Int}{vs:List Value}{ps:List Pl}(hs:kj e vs ps):kj e (.int k n::vs) (.raw (.int k n)::ps):=.cons (.raw _) rfl hs
theorem kj.bool{e:aA}{b:Bool}{vs:List Value}{ps:List Pl}(hs:kj e vs ps):kj e (.bool b::vs) (.raw (.bool b)::ps):=.cons (.raw _) rfl hs
theorem kj.append{e:aA}{vs us:List Value}{ps qs:List Pl}(h:kj e vs ps)(bL:kj e us qs):kj e (vs++us) (ps++qs):=by
 refine⟨by simp[h.1,bL.1],λ i v d h1 A=>?_⟩;rcases Nat.lt_or_ge i vs.length with X|X
 ·rw[List.getElem?_append_left X] at h1;rw[List.getElem?_append_left (by rw[<-h.1];exact X)] at A;exact h.2 i v d h1 A
 ·rw[List.getElem?_append_right X] at h1;rw[List.getElem?_append_right (by rw[<-h.1];exact X),<-h.1] at A;exact bL.2 _ v d h1 A
section
variable{H:Type}{enc:TypeId×Value->H}{P:Program}{w:World}{base:Nat}{mx:Nat->Bool}{aM:Bool}
theorem acq{t e:TypeId}{len bK:Nat}(ht:P.underlying t=some (.slice e))(h:Read enc P w base mx aM t [.slice none len bK]):bK=0:=by
 obtain⟨m,y,h⟩:=h;rcases open_slice ht h with⟨e,_⟩|⟨a,len,bK,wG,n,aH,Pl,e,T,R,hm,Dj,O,X⟩
 ·simp at e;omega
 ·simp at e
theorem acs{ar:Type}{t e:TypeId}{sz:Nat}(f:ar->List Pl)(ok:ar->Prop)(bQ:0<sz)(hf:∀x,(f x).length=sz)(ht:P.underlying t=some (.slice e))(L:P.cellsOf e=sz)
 (Kd:∀cs,cs.length=sz->Read enc P w base mx aM e cs->∃x,ok x/\kj (rW w) cs (f x)){v:Value}(h:Read enc P w base mx aM t [v]):
 ∃l:List ar,(∀x∈l,ok x)/\l.length<=maxLen/\db (rW w) v (.sl false l.length (l.flatMap f))/\lX v=true:=by
 have h0:=h;obtain⟨ab,l0,bK,e1,R,hm,aQ,Aw⟩:=acr (e:=e) (sz:=sz) (ar:={p:List Value×ar//p.1.length=sz/\ok p.2/\kj (rW w) p.1 (f p.2)}) (λ p=>p.1.1) (λ _=>True) bQ (λ p=>p.2.1) ht L (λ cs ci hr=>by
  obtain⟨x,h1,A⟩:=Kd cs ci hr;exact⟨⟨(cs,x),ci,h1,A⟩,rfl,trivial⟩) h
 injection e1 with e1 _
 subst e1;have nD:∀(l:List {p:List Value×ar//p.1.length=sz/\ok p.2/\kj (rW w) p.1 (f p.2)})(j:Nat)(q:Pl),((l.map λ p=>p.1.2).flatMap f)[j]?=some q->∃p,l[j/sz]?=some p/\(f p.1.2)[j%sz]?=some q:=by
  intro l;induction l with
  |nil=>intro j q h;simp at h
  |cons p l ih=>
   intro j q h;rw[List.map_cons,List.flatMap_cons] at h;rcases Nat.lt_or_ge j sz with hj|hj
   ·rw[List.getElem?_append_left (by rw[hf];exact hj)] at h;exact⟨p,by rw[Nat.div_eq_of_lt hj];rfl,by rw[Nat.mod_eq_of_lt hj];exact h⟩
   ·rw[List.getElem?_append_right (by rw[hf];exact hj),hf] at h;obtain⟨Bk,h1,A⟩:=ih _ q h;refine⟨Bk,?_,by rw[Nat.mod_eq_sub_mod hj];exact A⟩;rw[Nat.div_eq_sub_div bQ hj]
    simpa using h1
 refine⟨l0.map λ p=>p.1.2,λ x O=>?_,by simp;omega,?_,rfl⟩
 ·obtain⟨p,_,rfl⟩:=List.mem_map.1 O;exact p.2.2.1
 ·rw[List.length_map];refine BE R hm (λ Y=>?_) (λ Y=>by cases Y) ?_
  ·subst Y;exact acq ht h0
  ·rcases x7:l0 with _|⟨p,l1⟩
   ·exact .inl (by simp)
   ·right;rw[<-x7];obtain⟨b,o,hA,_,_⟩:=Aw 0 p (by rw[x7];rfl);have cT:∀(j:Nat) q,((l0.map λ p=>p.1.2).flatMap f)[j]?=some q->∃af,w.cell? ⟨b,o+j,none⟩=some af/\lX af=true/\db (rW w) af q:=by
     intro j q hq;obtain⟨Bk,h1,A⟩:=nD l0 j q hq;obtain⟨bj,o',CG,_,ey⟩:=Aw _ Bk h1;rw[hA] at CG;cases CG;have rc:j%sz<Bk.1.1.length:=by rw[Bk.2.1];exact Nat.mod_lt _ bQ
     have hu:=ey (j%sz) _ (List.getElem?_eq_getElem rc);obtain⟨h5,h6⟩:=Bk.2.2.2.2 (j%sz) _ q (List.getElem?_eq_getElem rc) A;have hj:j/sz*sz+j%sz=j:=by rw[Nat.mul_comm];exact Nat.div_add_mod j sz
     rw[hj] at hu;exact⟨_,hu,h6,h5⟩
    refine⟨b,o,hA,λ j=>(w.cell? ⟨b,o+j,none⟩).getD undef,λ j q hq=>?_⟩;obtain⟨af,h1,A,K⟩:=cT j q hq;have hg:(w.cell? ⟨b,o+j,none⟩).getD undef=af:=by rw[h1];rfl
    show _/\_=some ((w.cell? ⟨b,o+j,none⟩).getD undef)/\lX ((w.cell? ⟨b,o+j,none⟩).getD undef)=true/\db _ ((w.cell? ⟨b,o+j,none⟩).getD undef) q;rw[hg];exact⟨Vi _ _ _,h1,A,K⟩
theorem run_law{P:Program}{f:FuncId}{ds:List G}(L:aX P f ds (dB true)){w:World}{vs:List Value}(h:DReps (rW w) vs ds):Calls P f vs.toArray w λ e aI=>e=.returned (.bool true)/\Below w.heap.size w aI:=by
 refine(L w _ vs h).mono λ e aI hh=>?_
 obtain⟨v,bz,rfl,T,_,hr⟩:=hh;exact⟨by rw[cR hr],T⟩
end
end Go.Proofs.YtcnefjfboagbmaaGreat
end
namespace Go.Proofs.YtcnefjfboagbmaaGreat
open Go.Proofs.Tryz
open Go.RowKit
def Ta:List (Nat×TI):=[
 (0,⟨.other,1,0,(Value.tuple #[])⟩),
 (1,⟨.other,1,8,Value.nilFunc⟩),
 (2,⟨(.int .i64),1,8,(Value.int IntKind.i64 0)⟩),
 (3,⟨(.int .i64),1,8,(Value.int IntKind.i64 0)⟩),
 (4,⟨.bool,1,1,(Value.bool false)⟩),
 (5,⟨(.int .u8),1,1,(Value.int IntKind.u8 0)⟩),
 (6,⟨(.int .u8),1,1,(Value.int IntKind.u8 0)⟩),
 (7,⟨(.struct [(2,0,1),(3,1,1),(4,2,1),(6,3,1)]),4,24,(Value.agg #[Value.int IntKind.i64 0,Value.int IntKind.i64 0,Value.bool false,Value.int IntKind.u8 0])⟩),
 (8,⟨(.struct [(2,0,1),(3,1,1),(4,2,1),(6,3,1)]),4,24,(Value.agg #[Value.int IntKind.i64 0,Value.int IntKind.i64 0,Value.bool false,Value.int IntKind.u8 0])⟩),
 (9,⟨.str,1,16,(Value.string {data:=#[]})⟩),
 (10,⟨.str,1,16,(Value.string {data:=#[]})⟩),
 (11,⟨.str,1,16,(Value.string {data:=#[]})⟩),
 (12,⟨(.int .u64),1,8,(Value.int IntKind.u64 0)⟩),
 (13,⟨(.struct [(9,0,1),(12,1,1)]),2,24,(Value.agg #[Value.string {data:=#[]},Value.int IntKind.u64 0])⟩),
 (14,⟨(.struct [(9,0,1),(12,1,1)]),2,24,(Value.agg #[Value.string {data:=#[]},Value.int IntKind.u64 0])⟩),
 (15,⟨.other,1,8,(Value.pointer none)⟩),
 (16,⟨.other,1,8,(Value.pointer none)⟩),
 (17,⟨.other,1,8,(Value.pointer none)⟩),
 (18,⟨(.struct [(17,0,1)]),1,8,(Value.agg #[Value.pointer none])⟩),
 (19,⟨(.struct [(17,0,1)]),1,8,(Value.agg #[Value.pointer none])⟩),
 (20,⟨.other,1,16,Value.nilIface⟩),
 (21,⟨(.int .i32),1,4,(Value.int IntKind.i32 0)⟩),
 (22,⟨(.struct [(3,0,1),(3,1,1),(3,2,1),(3,3,1),(3,4,1),(3,5,1),(3,6,1),(3,7,1),(3,8,1)]),9,72,(Value.agg #[Value.int IntKind.i64 0,Value.int IntKind.i64 0,Value.int IntKind.i64 0,Value.int IntKind.i64 0,Value.int IntKind.i64 0,Value.int IntKind.i64 0,Value.int IntKind.i64 0,Value.int IntKind.i64 0,Value.int IntKind.i64 0])⟩),
 (23,⟨(.struct [(3,0,1),(3,1,1),(3,2,1),(3,3,1),(3,4,1),(3,5,1),(3,6,1),(3,7,1),(3,8,1)]),9,72,(Value.agg #[Value.int IntKind.i64 0,Value.int IntKind.i64 0,Value.int IntKind.i64 0,Value.int IntKind.i64 0,Value.int IntKind.i64 0,Value.int IntKind.i64 0,Value.int IntKind.i64 0,Value.int IntKind.i64 0,Value.int IntKind.i64 0])⟩),
 (24,⟨(.struct [(23,0,9),(3,9,1),(3,10,1),(3,11,1),(3,12,1),(3,13,1),(3,14,1),(3,15,1),(3,16,1),(3,17,1),(3,18,1),(3,19,1),(3,20,1),(3,21,1),(3,22,1),(3,23,1),(3,24,1)]),25,200,(Value.agg #[Value.int IntKind.i64 0,Value.int IntKind.i64 0,Value.int IntKind.i64 0,Value.int IntKind.i64 0,Value.int IntKind.i64 0,Value.int IntKind.i64 0,Value.int IntKind.i64 0,Value.int IntKind.i64 0,Value.int IntKind.i64 0,Value.int IntKind.i64 0,Value.int IntKind.i64 0,Value.int IntKind.i64 0,Value.int IntKind.i64 0,Value.int IntKind.i64 0,Value.int IntKind.i64 0,Value.int IntKind.i64 0,Value.int IntKind.i64 0,Value.int IntKind.i64 0,Value.int IntKind.i64 0,Value.int IntKind.i64 0,Value.int IntKind.i64 0,Value.int IntKind.i64 0,Value.int IntKind.i64 0,Value.int IntKind.i64 0,Value.int IntKind.i64 0])⟩),
 (25,⟨(.struct [(23,0,9),(3,9,1),(3,10,1),(3,11,1),(3,12,1),(3,13,1),(3,14,1),(3,15,1),(3,16,1),(3,17,1),(3,18,1),(3,19,1),(3,20,1),(3,21,1),(3,22,1),(3,23,1),(3,24,1)]),25,200,(Value.agg #[Value.int IntKind.i64 0,Value.int IntKind.i64 0,Value.int IntKind.i64 0,Value.int IntKind.i64 0,Value.int IntKind.i64 0,Value.int IntKind.i64 0,Value.int IntKind.i64 0,Value.int IntKind.i64 0,Value.int IntKind.i64 0,Value.int IntKind.i64 0,Value.int IntKind.i64 0,Value.int IntKind.i64 0,Value.int IntKind.i64 0,Value.int IntKind.i64 0,Value.int IntKind.i64 0,Value.int IntKind.i64 0,Value.int IntKind.i64 0,Value.int IntKind.i64 0,Value.int IntKind.i64 0,Value.int IntKind.i64 0,Value.int IntKind.i64 0,Value.int IntKind.i64 0,Value.int IntKind.i64 0,Value.int IntKind.i64 0,Value.int IntKind.i64 0])⟩),
 (26,⟨(.slice 3),1,24,(Value.slice none 0 0)⟩),
 (27,⟨(.struct [(26,0,1)]),1,24,(Value.agg #[Value.slice none 0 0])⟩),
 (28,⟨(.struct [(26,0,1)]),1,24,(Value.agg #[Value.slice none 0 0])⟩),
 (29,⟨(.struct [(25,0,25),(28,25,1),(3,26,1),(3,27,1)]),28,240,(Value.agg #[Value.int IntKind.i64 0,Value.int IntKind.i64 0,Value.int IntKind.i64 0,Value.int IntKind.i64 0,Value.int IntKind.i64 0,Value.int IntKind.i64 0,Value.int IntKind.i64 0,Value.int IntKind.i64 0,Value.int IntKind.i64 0,Value.int IntKind.i64 0,Value.int IntKind.i64 0,Value.int IntKind.i64 0,Value.int IntKind.i64 0,Value.int IntKind.i64 0,Value.int IntKind.i64 0,Value.int IntKind.i64 0,Value.int IntKind.i64 0,Value.int IntKind.i64 0,Value.int IntKind.i64 0,Value.int IntKind.i64 0,Value.int IntKind.i64 0,Value.int IntKind.i64 0,Value.int IntKind.i64 0,Value.int IntKind.i64 0,Value.int IntKind.i64 0,Value.slice none 0 0,Value.int IntKind.i64 0,Value.int IntKind.i64 0])⟩),
 (30,⟨(.struct [(25,0,25),(28,25,1),(3,26,1),(3,27,1)]),28,240,(Value.agg #[Value.int IntKind.i64 0,Value.int IntKind.i64 0,Value.int IntKind.i64 0,Value.int IntKind.i64 0,Value.int IntKind.i64 0,Value.int IntKind.i64 0,Value.int IntKind.i64 0,Value.int IntKind.i64 0,Value.int IntKind.i64 0,Value.int IntKind.i64 0,Value.int IntKind.i64 0,Value.int IntKind.i64 0,Value.int IntKind.i64 0,Value.int IntKind.i64 0,Value.int IntKind.i64 0,Value.int IntKind.i64 0,Value.int IntKind.i64 0,Value.int IntKind.i64 0,Value.int IntKind.i64 0,Value.int IntKind.i64 0,Value.int IntKind.i64 0,Value.int IntKind.i64 0,Value.int IntKind.i64 0,Value.int IntKind.i64 0,Value.int IntKind.i64 0,Value.slice none 0 0,Value.int IntKind.i64 0,Value.int IntKind.i64 0])⟩),
 (31,⟨.other,1,8,Value.nilFunc⟩),
 (32,⟨.other,1,8,Value.nilFunc⟩),
 (33,⟨.other,1,8,Value.nilFunc⟩),
 (34,⟨(.slice 82),1,24,(Value.slice none 0 0)⟩),
 (35,⟨.other,1,8,Value.nilFunc⟩),
 (36,⟨.other,1,8,Value.nilFunc⟩),
 (37,⟨(.struct [(3,0,1),(26,1,1),(26,2,1)]),3,56,(Value.agg #[Value.int IntKind.i64 0,Value.slice none 0 0,Value.slice none 0 0])⟩),
 (38,⟨(.struct [(3,0,1),(26,1,1),(26,2,1)]),3,56,(Value.agg #[Value.int IntKind.i64 0,Value.slice none 0 0,Value.slice none 0 0])⟩),
 (39,⟨.other,1,8,Value.nilFunc⟩),
 (40,⟨.other,1,8,Value.nilFunc⟩),
 (41,⟨.other,1,8,Value.nilFunc⟩),
 (42,⟨.other,1,8,Value.nilFunc⟩),
 (43,⟨(.slice 63),1,24,(Value.slice none 0 0)⟩),
 (44,⟨(.slice 43),1,24,(Value.slice none 0 0)⟩),
 (45,⟨(.slice 5),1,24,(Value.slice none 0 0)⟩),
 (46,⟨(.struct [(44,0,1),(45,1,1)]),2,48,(Value.agg #[Value.slice none 0 0,Value.slice none 0 0])⟩),
 (47,⟨(.struct [(44,0,1),(45,1,1)]),2,48,(Value.agg #[Value.slice none 0 0,Value.slice none 0 0])⟩),
 (48,⟨.other,1,8,Value.nilFunc⟩),
 (49,⟨.other,1,8,Value.nilFunc⟩),
 (50,⟨.other,1,8,(Value.pointer none)⟩),
 (51,⟨.other,1,8,Value.nilFunc⟩),
 (52,⟨.other,1,8,Value.nilFunc⟩),
 (53,⟨(.slice 65),1,24,(Value.slice none 0 0)⟩),
 (54,⟨.other,1,8,Value.nilFunc⟩),
 (55,⟨(.slice 75),1,24,(Value.slice none 0 0)⟩),
 (56,⟨(.slice 26),1,24,(Value.slice none 0 0)⟩),
 (57,⟨(.slice 83),1,24,(Value.slice none 0 0)⟩),
 (58,⟨(.struct [(28,0,1),(3,1,1),(43,2,1),(55,3,1),(56,4,1),(26,5,1),(57,6,1),(53,7,1),(3,8,1),(4,9,1),(4,10,1)]),11,192,(Value.agg #[Value.slice none 0 0,Value.int IntKind.i64 0,Value.slice none 0 0,Value.slice none 0 0,Value.slice none 0 0,Value.slice none 0 0,Value.slice none 0 0,Value.slice none 0 0,Value.int IntKind.i64 0,Value.bool false,Value.bool false])⟩),
 (59,⟨(.struct [(28,0,1),(3,1,1),(43,2,1),(55,3,1),(56,4,1),(26,5,1),(57,6,1),(53,7,1),(3,8,1),(4,9,1),(4,10,1)]),11,192,(Value.agg #[Value.slice none 0 0,Value.int IntKind.i64 0,Value.slice none 0 0,Value.slice none 0 0,Value.slice none 0 0,Value.slice none 0 0,Value.slice none 0 0,Value.slice none 0 0,Value.int IntKind.i64 0,Value.bool false,Value.bool false])⟩),
 (60,⟨.other,1,0,(Value.tuple #[Value.agg #[Value.int IntKind.i64 0,Value.slice none 0 0,Value.slice none 0 0],Value.int IntKind.i64 0,Value.bool false])⟩),
 (61,⟨.other,1,8,Value.nilFunc⟩),
 (62,⟨(.struct [(3,0,1),(3,1,1),(3,2,1),(3,3,1)]),4,32,(Value.agg #[Value.int IntKind.i64 0,Value.int IntKind.i64 0,Value.int IntKind.i64 0,Value.int IntKind.i64 0])⟩),
 (63,⟨(.struct [(3,0,1),(3,1,1),(3,2,1),(3,3,1)]),4,32,(Value.agg #[Value.int IntKind.i64 0,Value.int IntKind.i64 0,Value.int IntKind.i64 0,Value.int IntKind.i64 0])⟩),
 (64,⟨(.struct [(3,0,1),(63,1,4),(3,5,1),(4,6,1),(3,7,1),(3,8,1),(3,9,1)]),10,80,(Value.agg #[Value.int IntKind.i64 0,Value.int IntKind.i64 0,Value.int IntKind.i64 0,Value.int IntKind.i64 0,Value.int IntKind.i64 0,Value.int IntKind.i64 0,Value.bool false,Value.int IntKind.i64 0,Value.int IntKind.i64 0,Value.int IntKind.i64 0])⟩),
 (65,⟨(.struct [(3,0,1),(63,1,4),(3,5,1),(4,6,1),(3,7,1),(3,8,1),(3,9,1)]),10,80,(Value.agg #[Value.int IntKind.i64 0,Value.int IntKind.i64 0,Value.int IntKind.i64 0,Value.int IntKind.i64 0,Value.int IntKind.i64 0,Value.int IntKind.i64 0,Value.bool false,Value.int IntKind.i64 0,Value.int IntKind.i64 0,Value.int IntKind.i64 0])⟩),
 (66,⟨.other,1,8,Value.nilFunc⟩),
 (67,⟨.other,1,8,Value.nilFunc⟩),
 (68,⟨.other,1,8,Value.nilFunc⟩),
 (69,⟨(.struct [(5,0,1),(5,1,1),(5,2,1),(45,3,1)]),4,32,(Value.agg #[Value.int IntKind.u8 0,Value.int IntKind.u8 0,Value.int IntKind.u8 0,Value.slice none 0 0])⟩),
 (70,⟨(.struct [(5,0,1),(5,1,1),(5,2,1),(45,3,1)]),4,32,(Value.agg #[Value.int IntKind.u8 0,Value.int IntKind.u8 0,Value.int IntKind.u8 0,Value.slice none 0 0])⟩),
 (71,⟨.other,1,8,Value.nilFunc⟩),
 (72,⟨(.int .i64),1,8,(Value.int IntKind.i64 0)⟩),
 (73,⟨.other,1,0,(Value.tuple #[Value.agg #[Value.int IntKind.i64 0,Value.int IntKind.i64 0,Value.int IntKind.i64 0,Value.int IntKind.i64 0,Value.int IntKind.i64 0,Value.int IntKind.i64 0,Value.int IntKind.i64 0,Value.int IntKind.i64 0,Value.int IntKind.i64 0,Value.int IntKind.i64 0,Value.int IntKind.i64 0,Value.int IntKind.i64 0,Value.int IntKind.i64 0,Value.int IntKind.i64 0,Value.int IntKind.i64 0,Value.int IntKind.i64 0,Value.int IntKind.i64 0,Value.int IntKind.i64 0,Value.int IntKind.i64 0,Value.int IntKind.i64 0,Value.int IntKind.i64 0,Value.int IntKind.i64 0,Value.int IntKind.i64 0,Value.int IntKind.i64 0,Value.int IntKind.i64 0],Value.int IntKind.i64 0])⟩),
 (74,⟨.other,1,8,Value.nilFunc⟩),
 (75,⟨(.slice 108),1,24,(Value.slice none 0 0)⟩),
 (76,⟨.other,1,0,(Value.tuple #[Value.agg #[Value.slice none 0 0],Value.slice none 0 0,Value.int IntKind.i64 0])⟩),
 (77,⟨.other,1,8,Value.nilFunc⟩),
 (78,⟨.other,1,8,Value.nilFunc⟩),
 (79,⟨.other,1,8,Value.nilFunc⟩),
 (80,⟨.other,1,8,Value.nilFunc⟩),
 (81,⟨(.struct [(3,0,1),(3,1,1),(3,2,1),(3,3,1)]),4,32,(Value.agg #[Value.int IntKind.i64 0,Value.int IntKind.i64 0,Value.int IntKind.i64 0,Value.int IntKind.i64 0])⟩),
 (82,⟨(.struct [(3,0,1),(3,1,1),(3,2,1),(3,3,1)]),4,32,(Value.agg #[Value.int IntKind.i64 0,Value.int IntKind.i64 0,Value.int IntKind.i64 0,Value.int IntKind.i64 0])⟩),
 (83,⟨(.slice 110),1,24,(Value.slice none 0 0)⟩),
 (84,⟨(.struct [(3,0,1),(4,1,1),(72,2,1),(3,3,1),(83,4,1)]),5,56,(Value.agg #[Value.int IntKind.i64 0,Value.bool false,Value.int IntKind.i64 0,Value.int IntKind.i64 0,Value.slice none 0 0])⟩),
 (85,⟨(.struct [(3,0,1),(4,1,1),(72,2,1),(3,3,1),(83,4,1)]),5,56,(Value.agg #[Value.int IntKind.i64 0,Value.bool false,Value.int IntKind.i64 0,Value.int IntKind.i64 0,Value.slice none 0 0])⟩),
 (86,⟨.other,1,0,(Value.tuple #[Value.agg #[Value.int IntKind.i64 0,Value.int IntKind.i64 0,Value.int IntKind.i64 0,Value.int IntKind.i64 0],Value.agg #[Value.int IntKind.i64 0,Value.bool false,Value.int IntKind.i64 0,Value.int IntKind.i64 0,Value.slice none 0 0],Value.bool false])⟩),
 (87,⟨.other,1,8,Value.nilFunc⟩),
 (88,⟨.other,1,8,Value.nilFunc⟩),
 (89,⟨.other,1,8,Value.nilFunc⟩),
 (90,⟨.other,1,8,Value.nilFunc⟩),
 (91,⟨.other,1,8,Value.nilFunc⟩),
 (92,⟨.other,1,8,Value.nilFunc⟩),
 (93,⟨(.struct [(3,0,1),(4,1,1),(3,2,1)]),3,24,(Value.agg #[Value.int IntKind.i64 0,Value.bool false,Value.int IntKind.i64 0])⟩),
 (94,⟨(.struct [(3,0,1),(4,1,1),(3,2,1)]),3,24,(Value.agg #[Value.int IntKind.i64 0,Value.bool false,Value.int IntKind.i64 0])⟩),
 (95,⟨.other,1,8,Value.nilFunc⟩),
 (96,⟨.other,1,8,Value.nilFunc⟩),
 (97,⟨.other,1,8,Value.nilFunc⟩),
 (98,⟨.other,1,8,Value.nilFunc⟩),
 (99,⟨.other,1,8,Value.nilFunc⟩),
 (100,⟨.other,1,8,Value.nilFunc⟩),
 (101,⟨.other,1,8,Value.nilFunc⟩),
 (102,⟨.other,1,8,Value.nilFunc⟩),
 (103,⟨.other,1,8,Value.nilFunc⟩),
 (104,⟨.other,1,8,Value.nilFunc⟩),
 (105,⟨.other,1,8,Value.nilFunc⟩),
 (106,⟨.other,1,8,Value.nilFunc⟩),
 (107,⟨(.struct [(3,0,1),(4,1,1)]),2,16,(Value.agg #[Value.int IntKind.i64 0,Value.bool false])⟩),
 (108,⟨(.struct [(3,0,1),(4,1,1)]),2,16,(Value.agg #[Value.int IntKind.i64 0,Value.bool false])⟩),
 (109,⟨.other,1,8,Value.nilFunc⟩),
 (110,⟨(.array 2 3),2,16,(Value.agg #[Value.int IntKind.i64 0,Value.int IntKind.i64 0])⟩),
 (111,⟨(.struct [(3,0,1),(3,1,1),(87,2,1)]),3,24,(Value.agg #[Value.int IntKind.i64 0,Value.int IntKind.i64 0,Value.nilFunc])⟩),
 (112,⟨(.struct [(3,0,1),(3,1,1),(87,2,1)]),3,24,(Value.agg #[Value.int IntKind.i64 0,Value.int IntKind.i64 0,Value.nilFunc])⟩),
 (113,⟨(.array 3 112),9,72,(Value.agg #[Value.int IntKind.i64 0,Value.int IntKind.i64 0,Value.nilFunc,Value.int IntKind.i64 0,Value.int IntKind.i64 0,Value.nilFunc,Value.int IntKind.i64 0,Value.int IntKind.i64 0,Value.nilFunc])⟩),
 (114,⟨.other,1,8,Value.nilFunc⟩),
 (115,⟨.other,1,8,Value.nilFunc⟩),
 (116,⟨.other,1,8,Value.nilFunc⟩),
 (117,⟨.other,1,8,Value.nilFunc⟩),
 (118,⟨.other,1,8,Value.nilFunc⟩),
 (119,⟨.other,1,8,Value.nilFunc⟩),
 (120,⟨.other,1,8,Value.nilFunc⟩),
 (121,⟨.other,1,8,Value.nilFunc⟩),
 (122,⟨.other,1,8,Value.nilFunc⟩),
 (123,⟨.other,1,8,Value.nilFunc⟩),
 (124,⟨(.int .u64),1,8,(Value.int IntKind.u64 0)⟩),
 (125,⟨.other,1,8,(Value.map none)⟩),
 (126,⟨.other,1,8,Value.nilFunc⟩),
 (127,⟨.other,1,8,Value.nilFunc⟩),
 (128,⟨.other,1,8,Value.nilFunc⟩),
 (129,⟨.other,1,8,Value.nilFunc⟩),
 (130,⟨.other,1,0,(Value.tuple #[Value.agg #[Value.slice none 0 0],Value.agg #[Value.int IntKind.i64 0,Value.bool false],Value.int IntKind.i64 0])⟩),
 (131,⟨.other,1,8,Value.nilFunc⟩),
 (132,⟨.other,1,8,Value.nilFunc⟩),
 (133,⟨.other,1,8,Value.nilFunc⟩),
 (134,⟨(.struct [(3,0,1),(3,1,1)]),2,16,(Value.agg #[Value.int IntKind.i64 0,Value.int IntKind.i64 0])⟩),
 (135,⟨(.struct [(3,0,1),(3,1,1)]),2,16,(Value.agg #[Value.int IntKind.i64 0,Value.int IntKind.i64 0])⟩),
 (136,⟨.other,1,8,Value.nilFunc⟩),
 (137,⟨.other,1,8,Value.nilFunc⟩),
 (138,⟨.other,1,8,(Value.pointer none)⟩),
 (139,⟨(.struct [(25,0,25),(3,25,1),(83,26,1),(3,27,1),(75,28,1),(3,29,1)]),30,272,(Value.agg #[Value.int IntKind.i64 0,Value.int IntKind.i64 0,Value.int IntKind.i64 0,Value.int IntKind.i64 0,Value.int IntKind.i64 0,Value.int IntKind.i64 0,Value.int IntKind.i64 0,Value.int IntKind.i64 0,Value.int IntKind.i64 0,Value.int IntKind.i64 0,Value.int IntKind.i64 0,Value.int IntKind.i64 0,Value.int IntKind.i64 0,Value.int IntKind.i64 0,Value.int IntKind.i64 0,Value.int IntKind.i64 0,Value.int IntKind.i64 0,Value.int IntKind.i64 0,Value.int IntKind.i64 0,Value.int IntKind.i64 0,Value.int IntKind.i64 0,Value.int IntKind.i64 0,Value.int IntKind.i64 0,Value.int IntKind.i64 0,Value.int IntKind.i64 0,Value.int IntKind.i64 0,Value.slice none 0 0,Value.int IntKind.i64 0,Value.slice none 0 0,Value.int IntKind.i64 0])⟩),
 (140,⟨(.struct [(25,0,25),(3,25,1),(83,26,1),(3,27,1),(75,28,1),(3,29,1)]),30,272,(Value.agg #[Value.int IntKind.i64 0,Value.int IntKind.i64 0,Value.int IntKind.i64 0,Value.int IntKind.i64 0,Value.int IntKind.i64 0,Value.int IntKind.i64 0,Value.int IntKind.i64 0,Value.int IntKind.i64 0,Value.int IntKind.i64 0,Value.int IntKind.i64 0,Value.int IntKind.i64 0,Value.int IntKind.i64 0,Value.int IntKind.i64 0,Value.int IntKind.i64 0,Value.int IntKind.i64 0,Value.int IntKind.i64 0,Value.int IntKind.i64 0,Value.int IntKind.i64 0,Value.int IntKind.i64 0,Value.int IntKind.i64 0,Value.int IntKind.i64 0,Value.int IntKind.i64 0,Value.int IntKind.i64 0,Value.int IntKind.i64 0,Value.int IntKind.i64 0,Value.int IntKind.i64 0,Value.slice none 0 0,Value.int IntKind.i64 0,Value.slice none 0 0,Value.int IntKind.i64 0])⟩),
 (141,⟨.other,1,8,Value.nilFunc⟩),
 (142,⟨.other,1,0,(Value.tuple #[Value.nilFunc,Value.bool false])⟩),
 (143,⟨.other,1,8,(Value.map none)⟩),
 (144,⟨.other,1,8,Value.nilFunc⟩),
 (145,⟨.other,1,8,Value.nilFunc⟩),
 (146,⟨.other,1,8,Value.nilFunc⟩),
 (147,⟨.other,1,8,Value.nilFunc⟩),
 (148,⟨.other,1,0,(Value.tuple #[Value.int IntKind.i64 0,Value.agg #[Value.int IntKind.i64 0,Value.bool false,Value.int IntKind.i64 0,Value.int IntKind.i64 0,Value.slice none 0 0]])⟩),
 (149,⟨.other,1,8,Value.nilFunc⟩),
 (150,⟨.other,1,0,(Value.tuple #[Value.agg #[Value.int IntKind.i64 0,Value.bool false,Value.int IntKind.i64 0,Value.int IntKind.i64 0,Value.slice none 0 0],Value.agg #[Value.int IntKind.i64 0,Value.int IntKind.i64 0,Value.int IntKind.i64 0,Value.int IntKind.i64 0]])⟩),
 (151,⟨.other,1,8,Value.nilFunc⟩),
 (152,⟨.other,1,8,Value.nilFunc⟩),
 (153,⟨.other,1,8,(Value.pointer none)⟩),
 (154,⟨.other,1,8,Value.nilFunc⟩),
 (155,⟨.other,1,8,Value.nilFunc⟩),
 (156,⟨.other,1,8,Value.nilFunc⟩),
 (157,⟨.other,1,8,(Value.pointer none)⟩),
 (158,⟨.other,1,8,Value.nilFunc⟩),
 (159,⟨.other,1,8,Value.nilFunc⟩),
 (160,⟨.other,1,8,Value.nilFunc⟩),
 (161,⟨.other,1,0,(Value.tuple #[Value.agg #[Value.int IntKind.i64 0,Value.bool false,Value.int IntKind.i64 0,Value.int IntKind.i64 0,Value.slice none 0 0],Value.bool false])⟩),
 (162,⟨(.slice 135),1,24,(Value.slice none 0 0)⟩),
 (163,⟨.other,1,8,Value.nilFunc⟩),
 (164,⟨.other,1,8,Value.nilFunc⟩),
 (165,⟨.other,1,8,Value.nilFunc⟩),
 (166,⟨(.struct [(82,0,4)]),4,32,(Value.agg #[Value.int IntKind.i64 0,Value.int IntKind.i64 0,Value.int IntKind.i64 0,Value.int IntKind.i64 0])⟩),
 (167,⟨(.struct [(82,0,4)]),4,32,(Value.agg #[Value.int IntKind.i64 0,Value.int IntKind.i64 0,Value.int IntKind.i64 0,Value.int IntKind.i64 0])⟩),
 (168,⟨.other,1,8,Value.nilFunc⟩),
 (169,⟨.other,1,8,Value.nilFunc⟩),
 (170,⟨(.array 3 3),3,24,(Value.agg #[Value.int IntKind.i64 0,Value.int IntKind.i64 0,Value.int IntKind.i64 0])⟩),
 (171,⟨(.struct [(25,0,25),(3,25,1),(83,26,1),(3,27,1),(170,28,3),(147,31,1)]),32,272,(Value.agg #[Value.int IntKind.i64 0,Value.int IntKind.i64 0,Value.int IntKind.i64 0,Value.int IntKind.i64 0,Value.int IntKind.i64 0,Value.int IntKind.i64 0,Value.int IntKind.i64 0,Value.int IntKind.i64 0,Value.int IntKind.i64 0,Value.int IntKind.i64 0,Value.int IntKind.i64 0,Value.int IntKind.i64 0,Value.int IntKind.i64 0,Value.int IntKind.i64 0,Value.int IntKind.i64 0,Value.int IntKind.i64 0,Value.int IntKind.i64 0,Value.int IntKind.i64 0,Value.int IntKind.i64 0,Value.int IntKind.i64 0,Value.int IntKind.i64 0,Value.int IntKind.i64 0,Value.int IntKind.i64 0,Value.int IntKind.i64 0,Value.int IntKind.i64 0,Value.int IntKind.i64 0,Value.slice none 0 0,Value.int IntKind.i64 0,Value.int IntKind.i64 0,Value.int IntKind.i64 0,Value.int IntKind.i64 0,Value.nilFunc])⟩),
 (172,⟨(.struct [(25,0,25),(3,25,1),(83,26,1),(3,27,1),(170,28,3),(147,31,1)]),32,272,(Value.agg #[Value.int IntKind.i64 0,Value.int IntKind.i64 0,Value.int IntKind.i64 0,Value.int IntKind.i64 0,Value.int IntKind.i64 0,Value.int IntKind.i64 0,Value.int IntKind.i64 0,Value.int IntKind.i64 0,Value.int IntKind.i64 0,Value.int IntKind.i64 0,Value.int IntKind.i64 0,Value.int IntKind.i64 0,Value.int IntKind.i64 0,Value.int IntKind.i64 0,Value.int IntKind.i64 0,Value.int IntKind.i64 0,Value.int IntKind.i64 0,Value.int IntKind.i64 0,Value.int IntKind.i64 0,Value.int IntKind.i64 0,Value.int IntKind.i64 0,Value.int IntKind.i64 0,Value.int IntKind.i64 0,Value.int IntKind.i64 0,Value.int IntKind.i64 0,Value.int IntKind.i64 0,Value.slice none 0 0,Value.int IntKind.i64 0,Value.int IntKind.i64 0,Value.int IntKind.i64 0,Value.int IntKind.i64 0,Value.nilFunc])⟩),
 (173,⟨(.struct [(82,0,4)]),4,32,(Value.agg #[Value.int IntKind.i64 0,Value.int IntKind.i64 0,Value.int IntKind.i64 0,Value.int IntKind.i64 0])⟩),
 (174,⟨(.struct [(82,0,4)]),4,32,(Value.agg #[Value.int IntKind.i64 0,Value.int IntKind.i64 0,Value.int IntKind.i64 0,Value.int IntKind.i64 0])⟩),
 (175,⟨.other,1,0,(Value.tuple #[Value.int IntKind.i64 0,Value.int IntKind.i64 0,Value.bool false])⟩),
 (176,⟨.other,1,8,Value.nilFunc⟩),
 (177,⟨.other,1,8,Value.nilFunc⟩),
 (178,⟨.other,1,8,Value.nilFunc⟩),
 (179,⟨.other,1,0,(Value.tuple #[Value.int IntKind.i64 0,Value.int IntKind.i64 0,Value.int IntKind.i64 0])⟩),
 (180,⟨.other,1,8,Value.nilFunc⟩),
 (181,⟨.other,1,8,Value.nilFunc⟩),
 (182,⟨(.struct [(25,0,25),(3,25,1),(83,26,1),(3,27,1),(170,28,3),(147,31,1)]),32,272,(Value.agg #[Value.int IntKind.i64 0,Value.int IntKind.i64 0,Value.int IntKind.i64 0,Value.int IntKind.i64 0,Value.int IntKind.i64 0,Value.int IntKind.i64 0,Value.int IntKind.i64 0,Value.int IntKind.i64 0,Value.int IntKind.i64 0,Value.int IntKind.i64 0,Value.int IntKind.i64 0,Value.int IntKind.i64 0,Value.int IntKind.i64 0,Value.int IntKind.i64 0,Value.int IntKind.i64 0,Value.int IntKind.i64 0,Value.int IntKind.i64 0,Value.int IntKind.i64 0,Value.int IntKind.i64 0,Value.int IntKind.i64 0,Value.int IntKind.i64 0,Value.int IntKind.i64 0,Value.int IntKind.i64 0,Value.int IntKind.i64 0,Value.int IntKind.i64 0,Value.int IntKind.i64 0,Value.slice none 0 0,Value.int IntKind.i64 0,Value.int IntKind.i64 0,Value.int IntKind.i64 0,Value.int IntKind.i64 0,Value.nilFunc])⟩),
 (183,⟨(.struct [(25,0,25),(3,25,1),(83,26,1),(3,27,1),(170,28,3),(147,31,1)]),32,272,(Value.agg #[Value.int IntKind.i64 0,Value.int IntKind.i64 0,Value.int IntKind.i64 0,Value.int IntKind.i64 0,Value.int IntKind.i64 0,Value.int IntKind.i64 0,Value.int IntKind.i64 0,Value.int IntKind.i64 0,Value.int IntKind.i64 0,Value.int IntKind.i64 0,Value.int IntKind.i64 0,Value.int IntKind.i64 0,Value.int IntKind.i64 0,Value.int IntKind.i64 0,Value.int IntKind.i64 0,Value.int IntKind.i64 0,Value.int IntKind.i64 0,Value.int IntKind.i64 0,Value.int IntKind.i64 0,Value.int IntKind.i64 0,Value.int IntKind.i64 0,Value.int IntKind.i64 0,Value.int IntKind.i64 0,Value.int IntKind.i64 0,Value.int IntKind.i64 0,Value.int IntKind.i64 0,Value.slice none 0 0,Value.int IntKind.i64 0,Value.int IntKind.i64 0,Value.int IntKind.i64 0,Value.int IntKind.i64 0,Value.nilFunc])⟩),
 (184,⟨(.struct [(82,0,4)]),4,32,(Value.agg #[Value.int IntKind.i64 0,Value.int IntKind.i64 0,Value.int IntKind.i64 0,Value.int IntKind.i64 0])⟩),
 (185,⟨(.struct [(82,0,4)]),4,32,(Value.agg #[Value.int IntKind.i64 0,Value.int IntKind.i64 0,Value.int IntKind.i64 0,Value.int IntKind.i64 0])⟩),
 (186,⟨.other,1,0,(Value.tuple #[Value.int IntKind.i64 0,Value.int IntKind.i64 0])⟩),
 (187,⟨.other,1,8,Value.nilFunc⟩),
 (188,⟨.other,1,8,Value.nilFunc⟩),
 (189,⟨.other,1,8,Value.nilFunc⟩),
 (190,⟨.other,1,8,(Value.pointer none)⟩),
 (191,⟨.other,1,8,(Value.pointer none)⟩),
 (192,⟨.other,1,8,Value.nilFunc⟩),
 (193,⟨(.struct [(4,0,1),(3,1,1),(3,2,1),(3,3,1),(3,4,1)]),5,40,(Value.agg #[Value.bool false,Value.int IntKind.i64 0,Value.int IntKind.i64 0,Value.int IntKind.i64 0,Value.int IntKind.i64 0])⟩),
 (194,⟨(.struct [(4,0,1),(3,1,1),(3,2,1),(3,3,1),(3,4,1)]),5,40,(Value.agg #[Value.bool false,Value.int IntKind.i64 0,Value.int IntKind.i64 0,Value.int IntKind.i64 0,Value.int IntKind.i64 0])⟩),
 (195,⟨(.struct [(191,0,1),(194,1,5),(3,6,1)]),7,56,(Value.agg #[Value.pointer none,Value.bool false,Value.int IntKind.i64 0,Value.int IntKind.i64 0,Value.int IntKind.i64 0,Value.int IntKind.i64 0,Value.int IntKind.i64 0])⟩),
 (196,⟨(.struct [(191,0,1),(194,1,5),(3,6,1)]),7,56,(Value.agg #[Value.pointer none,Value.bool false,Value.int IntKind.i64 0,Value.int IntKind.i64 0,Value.int IntKind.i64 0,Value.int IntKind.i64 0,Value.int IntKind.i64 0])⟩),
 (197,⟨.other,1,8,Value.nilFunc⟩),
 (198,⟨.other,1,8,Value.nilFunc⟩),
 (199,⟨.other,1,8,Value.nilFunc⟩),
 (200,⟨(.int .u32),1,4,(Value.int IntKind.u32 0)⟩),
 (201,⟨.other,1,8,Value.nilFunc⟩),
 (202,⟨(.int .u64),1,8,(Value.int IntKind.u64 0)⟩),
 (203,⟨(.struct [(25,0,25),(3,25,1),(83,26,1),(3,27,1),(170,28,3),(147,31,1)]),32,272,(Value.agg #[Value.int IntKind.i64 0,Value.int IntKind.i64 0,Value.int IntKind.i64 0,Value.int IntKind.i64 0,Value.int IntKind.i64 0,Value.int IntKind.i64 0,Value.int IntKind.i64 0,Value.int IntKind.i64 0,Value.int IntKind.i64 0,Value.int IntKind.i64 0,Value.int IntKind.i64 0,Value.int IntKind.i64 0,Value.int IntKind.i64 0,Value.int IntKind.i64 0,Value.int IntKind.i64 0,Value.int IntKind.i64 0,Value.int IntKind.i64 0,Value.int IntKind.i64 0,Value.int IntKind.i64 0,Value.int IntKind.i64 0,Value.int IntKind.i64 0,Value.int IntKind.i64 0,Value.int IntKind.i64 0,Value.int IntKind.i64 0,Value.int IntKind.i64 0,Value.int IntKind.i64 0,Value.slice none 0 0,Value.int IntKind.i64 0,Value.int IntKind.i64 0,Value.int IntKind.i64 0,Value.int IntKind.i64 0,Value.nilFunc])⟩),
 (204,⟨(.struct [(25,0,25),(3,25,1),(83,26,1),(3,27,1),(170,28,3),(147,31,1)]),32,272,(Value.agg #[Value.int IntKind.i64 0,Value.int IntKind.i64 0,Value.int IntKind.i64 0,Value.int IntKind.i64 0,Value.int IntKind.i64 0,Value.int IntKind.i64 0,Value.int IntKind.i64 0,Value.int IntKind.i64 0,Value.int IntKind.i64 0,Value.int IntKind.i64 0,Value.int IntKind.i64 0,Value.int IntKind.i64 0,Value.int IntKind.i64 0,Value.int IntKind.i64 0,Value.int IntKind.i64 0,Value.int IntKind.i64 0,Value.int IntKind.i64 0,Value.int IntKind.i64 0,Value.int IntKind.i64 0,Value.int IntKind.i64 0,Value.int IntKind.i64 0,Value.int IntKind.i64 0,Value.int IntKind.i64 0,Value.int IntKind.i64 0,Value.int IntKind.i64 0,Value.int IntKind.i64 0,Value.slice none 0 0,Value.int IntKind.i64 0,Value.int IntKind.i64 0,Value.int IntKind.i64 0,Value.int IntKind.i64 0,Value.nilFunc])⟩),
 (205,⟨(.struct [(82,0,4)]),4,32,(Value.agg #[Value.int IntKind.i64 0,Value.int IntKind.i64 0,Value.int IntKind.i64 0,Value.int IntKind.i64 0])⟩),
 (206,⟨(.struct [(82,0,4)]),4,32,(Value.agg #[Value.int IntKind.i64 0,Value.int IntKind.i64 0,Value.int IntKind.i64 0,Value.int IntKind.i64 0])⟩),
 (207,⟨.other,1,8,Value.nilFunc⟩),
 (208,⟨.other,1,8,Value.nilFunc⟩),
 (209,⟨(.struct [(17,0,1),(17,1,1),(17,2,1),(9,3,1)]),4,40,(Value.agg #[Value.pointer none,Value.pointer none,Value.pointer none,Value.string {data:=#[]}])⟩),
 (210,⟨(.struct [(17,0,1),(17,1,1),(17,2,1),(9,3,1)]),4,40,(Value.agg #[Value.pointer none,Value.pointer none,Value.pointer none,Value.string {data:=#[]}])⟩),
 (211,⟨(.array 0 16),0,0,(Value.agg #[])⟩),
 (212,⟨(.struct [(211,0,0)]),0,0,(Value.agg #[])⟩),
 (213,⟨(.struct [(211,0,0)]),0,0,(Value.agg #[])⟩),
 (214,⟨(.int .u8),1,1,(Value.int IntKind.u8 0)⟩),
 (215,⟨(.int .u8),1,1,(Value.int IntKind.u8 0)⟩),
 (216,⟨.other,1,8,Value.nilFunc⟩),
 (217,⟨.other,1,8,(Value.pointer none)⟩),
 (218,⟨(.int .i32),1,4,(Value.int IntKind.i32 0)⟩),
 (219,⟨(.int .i32),1,4,(Value.int IntKind.i32 0)⟩),
 (220,⟨(.struct [(12,0,1),(12,1,1),(200,2,1),(214,3,1),(5,4,1),(5,5,1),(215,6,1),(216,7,1),(217,8,1),(218,9,1),(219,10,1)]),11,48,(Value.agg #[Value.int IntKind.u64 0,Value.int IntKind.u64 0,Value.int IntKind.u32 0,Value.int IntKind.u8 0,Value.int IntKind.u8 0,Value.int IntKind.u8 0,Value.int IntKind.u8 0,Value.nilFunc,Value.pointer none,Value.int IntKind.i32 0,Value.int IntKind.i32 0])⟩),
 (221,⟨(.struct [(12,0,1),(12,1,1),(200,2,1),(214,3,1),(5,4,1),(5,5,1),(215,6,1),(216,7,1),(217,8,1),(218,9,1),(219,10,1)]),11,48,(Value.agg #[Value.int IntKind.u64 0,Value.int IntKind.u64 0,Value.int IntKind.u32 0,Value.int IntKind.u8 0,Value.int IntKind.u8 0,Value.int IntKind.u8 0,Value.int IntKind.u8 0,Value.nilFunc,Value.pointer none,Value.int IntKind.i32 0,Value.int IntKind.i32 0])⟩),
 (222,⟨.other,1,8,(Value.pointer none)⟩)]
def tb:Nat->Option TI:=kv Ta
def Mp(P:Program)(p:Nat×TI):Prop:=(P.underlying p.1).map (jJ P)=some p.2.k/\(P.info? p.1).map (λ f=>(f.size,f.bytes,f.zero))=some (p.2.sz,p.2.bytes,some p.2.zero)
theorem adR{P:Program}:∀{l:List (Nat×TI)},(∀p∈l,Mp P p)->cW P (kv l):=by
 intro l h;have key:∀(l:List (Nat×TI)),(∀p∈l,Mp P p)->∀t i,kv l t=some i->Mp P (t,i):=by
  intro l;induction l with
  |nil=>intro _ t i h;cases h
  |cons p l ih=>
   intro h t i X;obtain⟨k,v⟩:=p;rw[cM] at X;split at X
   ·rename_i I;subst I;cases X;exact h _ (by simp)
   ·exact ih (λ q hq=>h q (by simp[hq])) t i X
 refine⟨λ t i X=>?_,λ t i X=>?_⟩
 ·obtain⟨h1,_⟩:=key l h t i X;simp only[Option.map_eq_some_iff] at h1;exact h1
 ·obtain⟨_,A⟩:=key l h t i X;simp only[Option.map_eq_some_iff,Prod.mk.injEq] at A;obtain⟨f,K,h4,h5,h6⟩:=A;exact⟨f,K,h4,h5,h6⟩
theorem Us{q:Nat×TI->Prop}{a:Nat×TI}{l:List (Nat×TI)}(h:q a)(R:∀p∈l,q p):∀p∈a::l,q p:=λ p hp=>by
 rcases List.mem_cons.1 hp with rfl|hp
 ·exact h
 ·exact R p hp
set_option maxRecDepth 100000 in
theorem aB:cW prog tb:=adR (by
 unfold Ta
 repeat refine Us ⟨by kernel_rfl,by kernel_rfl⟩ ?_
 exact λ p hp=>absurd hp List.not_mem_nil)
section
variable{P:Program}{Γ:bI}{J:St}{Q:Exit->St->Prop}{aL:St->Prop}{x y c:Code}{id oa:Nat}{z:Operand}{tt:Bool}{aa ap:Prop}
theorem zA(h:aK P Γ x (rG (aK P Γ y Q) Q) J):aK P Γ (.seq x y) Q J:=qa h
theorem zB{l:List Oper}(h:bp P Γ l Q l J):aK P Γ (.region id l.toArray false) Q J:=vL h
theorem zC(h:aK P Γ c (qi id Q) J):aK P Γ (.block id c) Q J:=UK h
theorem zD(h:Q .normal J):aK P Γ .skip Q J:=ES h
theorem zE(h:aK P Γ c (BA Q) J):aK P Γ (.scope c) Q J:=UU h
theorem zF(h:Q .normal J):aK P Γ (.label id) Q J:=UP h
theorem zG(h:Q .normal J):BA Q .normal J:=h
theorem zH(h:Q .ret J):BA Q .ret J:=h
theorem zI(h:Q (.exit id) J):BA Q (.exit id) J:=h
theorem zJ(h:Q .ret J):aK P Γ .ret Q J:=UT h
theorem zK(h:Q (.exit id) J):aK P Γ (.exit id) Q J:=UN h
theorem zL(h:CK tt (aK P Γ x Q J) (aK P Γ y Q J))(hz:ev (kv J.s) z=some (.p (.raw (.bool tt))):=by exact rfl):aK P Γ (.cond z x y) Q J:=Ip hz h
theorem zM(h:aL J):rG aL Q .normal J:=h
theorem zN(h:Q .ret J):rG aL Q .ret J:=h
theorem zO(h:Q (.exit id) J):rG aL Q (.exit id) J:=h
theorem zP(h:Q .normal J):qi id Q .normal J:=h
theorem zQ(h:Q .ret J):qi id Q .ret J:=h
theorem zR(h:Q .normal J):qi id Q (.exit id) J:=acb h
theorem zS(h:Q (.exit oa) J)(cE:(oa==id)=false:=by exact rfl):qi id Q (.exit oa) J:=acd cE h
theorem zT(h:aa)(T:tt=true:=by with_reducible exact rfl):CK tt aa ap:=by subst T;exact IB h
theorem zU(h:ap)(T:tt=false:=by with_reducible exact rfl):CK tt aa ap:=by subst T;exact Co h
theorem zV(h:ap)(T:tt=!true:=by with_reducible exact rfl):CK tt aa ap:=by subst T;exact Co h
theorem zW(h:aa)(T:tt=!false:=by with_reducible exact rfl):CK tt aa ap:=by subst T;exact IB h
theorem zX{bc:St}(hs:vD J bc bc.s:=by(repeat(first|exact trivial|refine⟨⟨rfl,rfl⟩,?_⟩)))(T:vz J bc bc.b:=by(repeat(first|exact trivial|refine⟨⟨rfl,rfl⟩,?_⟩)))(hg:vB J bc.g:=by(repeat(first|exact trivial|refine⟨rfl,?_⟩)))(dI:vC bc Γ.kb:=by(repeat(first|exact trivial|refine⟨rfl,?_⟩))):bN Γ J bc:=eO hs T hg dI
end
section
variable{Γ:bI}{o:Oper}{l0 l:List Oper}{Q:Exit->St->Prop}{s:List (Nat×G)}{b:List (Nat×List G)}{g:List (Nat×Gr)}{t t1 af nm:Nat}{i:TI}{x y:Operand}{p q:Int}{d:G}{cs aO:List G}
theorem z0(h:bp prog Γ l0 Q l ⟨(t,u (p+q))::s,b,g⟩)(ho:o.op=.binOp .add t1 x y af:=by exact rfl)(ht:tb t1=some i:=by exact rfl)(O:ev (kv s) x=some (u p):=by exact rfl)(hy:ev (kv s) y=some (u q):=by exact rfl)(h1:-9223372036854775808<=p+q:=by omega)(A:p+q<=9223372036854775807:=by omega)(hg:gd l0 o (kv s)=some true:=by exact rfl)(F:o.dst=some t:=by exact rfl)(R:Nat.blt t Γ.n=true:=by exact rfl):bp prog Γ l0 Q (o::l) ⟨s,b,g⟩:=
 bn (MZ aB ho ht O hy h1 A) hg F R h
theorem z1(h:bp prog Γ l0 Q l ⟨(t,u (p-q))::s,b,g⟩)(ho:o.op=.binOp .sub t1 x y af:=by exact rfl)(ht:tb t1=some i:=by exact rfl)(O:ev (kv s) x=some (u p):=by exact rfl)(hy:ev (kv s) y=some (u q):=by exact rfl)(h1:-9223372036854775808<=p-q:=by omega)(A:p-q<=9223372036854775807:=by omega)(hg:gd l0 o (kv s)=some true:=by exact rfl)(F:o.dst=some t:=by exact rfl)(R:Nat.blt t Γ.n=true:=by exact rfl):bp prog Γ l0 Q (o::l) ⟨s,b,g⟩:=
 bn (S9 aB ho ht O hy h1 A) hg F R h
theorem z2(h:bp prog Γ l0 Q l ⟨(t,d)::s,b,g⟩)(hq:ax tb (kv s) (kv b) o.op=some d:=by exact rfl)(hg:gd l0 o (kv s)=some true:=by exact rfl)(F:o.dst=some t:=by exact rfl)(R:Nat.blt t Γ.n=true:=by exact rfl):bp prog Γ l0 Q (o::l) ⟨s,b,g⟩:=nl aB hq hg F R h
theorem z3(h:bp prog Γ l0 Q l ⟨(t,.p (.raw undef))::s,b,g⟩)(hg:gd l0 o (kv s)=some false:=by exact rfl)(F:o.dst=some t:=by exact rfl)(R:Nat.blt t Γ.n=true:=by exact rfl):bp prog Γ l0 Q (o::l) ⟨s,b,g⟩:=T7 hg F R h
theorem z4{J:St}(h:Q .normal J):bp prog Γ l0 Q [] J:=kl h
theorem z5{of:Nat}{dy:G}(h:bp prog Γ l0 Q l ⟨s,(nm,aO)::b,g⟩)(ho:o.op=.store t1 x y:=by exact rfl)(F:o.dst=none:=by exact rfl)(ht:tb t1=some i:=by exact rfl)(O:ev (kv s) x=some (.ptr nm of):=by exact rfl)(T:kv b nm=some cs:=by exact rfl)(hy:ev (kv s) y=some dy:=by exact rfl)
 (R:tO dy=true:=by exact rfl)(bQ:Nat.beq dy.cells.length i.sz=true:=by exact rfl)(dg:sM cs of dy some=some aO:=by exact rfl)(hg:gd l0 o (kv s)=some true:=by exact rfl):bp prog Γ l0 Q (o::l) ⟨s,b,g⟩:=T8 aB ho F ht O T hy R bQ dg hg h
theorem z6{iF:Array (Nat×Operand)}(h:bp prog Γ l0 Q l ⟨(t,d)::s,b,g⟩)(ho:o.op=.build t1 iF:=by exact rfl)(hp:uq (kv s) iF.toList (EX tb t1)=some d:=by exact rfl)(hz:(match tb t1 with|some i=>kU (lK i.zero)|none=>false)=true:=by exact rfl)(hg:gd l0 o (kv s)=some true:=by exact rfl)(F:o.dst=some t:=by exact rfl)(R:Nat.blt t Γ.n=true:=by exact rfl):bp prog Γ l0 Q (o::l) ⟨s,b,g⟩:=
 bn (zn aB ho hp hz) hg F R h
theorem z7{len:Nat}{iF:Array (Nat×Operand)}{ps:List Pl}(h:bp prog Γ l0 Q l ⟨(t,.p (.sl true len ps))::s,b,g⟩)(ho:o.op=.buildSlice t1 len iF:=by exact rfl)(hp:uq (kv s) iF.toList (EY tb t1 len)=some ps:=by exact rfl)(hg:gd l0 o (kv s)=some true:=by exact rfl)(F:o.dst=some t:=by exact rfl)(R:Nat.blt t Γ.n=true:=by exact rfl):bp prog Γ l0 Q (o::l) ⟨s,b,g⟩:=
 bn (Nw aB ho hp) hg F R h
theorem z8{dx:G}(h:bp prog Γ l0 Q l ⟨(t,.ptr nm 0)::s,(nm,cs)::b,g⟩)(ho:o.op=.box t1 x:=by exact rfl)(mW:u6 0 b some=some nm:=by exact rfl)(O:ev (kv s) x=some dx:=by exact rfl)(I:kU dx=true:=by exact rfl)(cH:mF dx some=some cs:=by exact rfl)(hg:gd l0 o (kv s)=some true:=by exact rfl)(F:o.dst=some t:=by exact rfl)(R:Nat.blt t Γ.n=true:=by exact rfl)(hf:kv b nm=none:=by exact rfl):bp prog Γ l0 Q (o::l) ⟨s,b,g⟩:=
 T3 ho mW O I cH hg F R hf h
theorem z9(h:bp prog Γ l0 Q l ⟨(t,.ptr nm 0)::s,(nm,cs)::b,g⟩)(ho:o.op=.alloc t1:=by exact rfl)(mW:u6 0 b some=some nm:=by exact rfl)(ht:tb t1=some i:=by exact rfl)(I:kU (lK i.zero)=true:=by exact rfl)(cH:qP i.zero (λ d=>mF d some)=some cs:=by exact rfl)(hg:gd l0 o (kv s)=some true:=by exact rfl)(F:o.dst=some t:=by exact rfl)(R:Nat.blt t Γ.n=true:=by exact rfl)(hf:kv b nm=none:=by exact rfl):bp prog Γ l0 Q (o::l) ⟨s,b,g⟩:=
 T6 aB ho mW ht I cH hg F R hf h
end
section
variable{n:Nat}{B B0:List (Nat×List G)}{aL:St->Prop}{aH:List Nat}{aC:List (Nat×Nat)}{ix:Nat}{o:Oper}{l0 l:List Oper}{s:List (Nat×G)}{b:List (Nat×List G)}{g:List (Nat×Gr)}{t t1 af nm:Nat}{i:TI}{x y:Operand}{p q:Int}{d:G}{cs aO:List G}
theorem w0(h:cq prog n l0 B B0 aL (ix+1) aH aC l ⟨(t,u (p+q))::s,b,g⟩)(ho:o.op=.binOp .add t1 x y af:=by exact rfl)(ht:tb t1=some i:=by exact rfl)(O:ev (kv s) x=some (u p):=by exact rfl)(hy:ev (kv s) y=some (u q):=by exact rfl)(h1:-9223372036854775808<=p+q:=by omega)(A:p+q<=9223372036854775807:=by omega)(hg:gd l0 o (kv s)=some true:=by exact rfl)(F:o.dst=some t:=by exact rfl):cq prog n l0 B B0 aL ix aH aC (o::l) ⟨s,b,g⟩:=
 cV (MZ aB ho ht O hy h1 A) hg F h
theorem w1(h:cq prog n l0 B B0 aL (ix+1) aH aC l ⟨(t,u (p-q))::s,b,g⟩)(ho:o.op=.binOp .sub t1 x y af:=by exact rfl)(ht:tb t1=some i:=by exact rfl)(O:ev (kv s) x=some (u p):=by exact rfl)(hy:ev (kv s) y=some (u q):=by exact rfl)(h1:-9223372036854775808<=p-q:=by omega)(A:p-q<=9223372036854775807:=by omega)(hg:gd l0 o (kv s)=some true:=by exact rfl)(F:o.dst=some t:=by exact rfl):cq prog n l0 B B0 aL ix aH aC (o::l) ⟨s,b,g⟩:=
 cV (S9 aB ho ht O hy h1 A) hg F h
theorem w2{of:Nat}{dy:G}(h:cq prog n l0 B B0 aL (ix+1) (nm::aH) aC l ⟨s,(nm,aO)::b,g⟩)(ho:o.op=.store t1 x y:=by exact rfl)(F:o.dst=none:=by exact rfl)(ht:tb t1=some i:=by exact rfl)(O:ev (kv s) x=some (.ptr nm of):=by exact rfl)(T:kv b nm=some cs:=by exact rfl)(hy:ev (kv s) y=some dy:=by exact rfl)
 (R:tO dy=true:=by exact rfl)(bQ:Nat.beq dy.cells.length i.sz=true:=by exact rfl)(dg:sM cs of dy some=some aO:=by exact rfl)(hg:gd l0 o (kv s)=some true:=by exact rfl)(hB:kv B nm=none:=by exact rfl)(hD:aH.contains nm=false:=by exact rfl):cq prog n l0 B B0 aL ix aH aC (o::l) ⟨s,b,g⟩:=tW aB ho F ht O T hy R bQ dg hg hB (.inl hD) h
theorem wL{of:Nat}{dy:G}(h:cq prog n l0 B B0 aL (ix+1) (nm::aH) aC l ⟨s,(nm,aO)::b,g⟩)(ho:o.op=.store t1 x y:=by exact rfl)(F:o.dst=none:=by exact rfl)(ht:tb t1=some i:=by exact rfl)(O:ev (kv s) x=some (.ptr nm of):=by exact rfl)(T:kv b nm=some cs:=by exact rfl)(hy:ev (kv s) y=some dy:=by exact rfl)
 (R:tO dy=true:=by exact rfl)(bQ:Nat.beq dy.cells.length i.sz=true:=by exact rfl)(dg:sM cs of dy some=some aO:=by exact rfl)(hg:gd l0 o (kv s)=some true:=by exact rfl)(hB:kv B nm=none:=by exact rfl)(hD:DO l0 o ix=true:=by kernel_rfl):cq prog n l0 B B0 aL ix aH aC (o::l) ⟨s,b,g⟩:=tW aB ho F ht O T hy R bQ dg hg hB (.inr hD) h
theorem w3(h:cq prog n l0 B B0 aL (ix+1) aH aC l ⟨(t,d)::s,b,g⟩)(hq:ax tb (kv s) (kv B) o.op=some d:=by exact rfl)(hg:gd l0 o (kv s)=some true:=by exact rfl)(F:o.dst=some t:=by exact rfl):cq prog n l0 B B0 aL ix aH aC (o::l) ⟨s,b,g⟩:=Eb aB hq hg F h
theorem aeb(h:cq prog n l0 B B0 aL (ix+1) aH aC l ⟨(t,.p (.raw undef))::s,b,g⟩)(hg:gd l0 o (kv s)=some false:=by exact rfl)(F:o.dst=some t:=by exact rfl):cq prog n l0 B B0 aL ix aH aC (o::l) ⟨s,b,g⟩:=acj hg F h
theorem w5(h:aL ⟨s,b,g⟩):cq prog n l0 B B0 aL ix aH aC [] ⟨s,b,g⟩:=h
theorem w6{iF:Array (Nat×Operand)}(h:cq prog n l0 B B0 aL (ix+1) aH aC l ⟨(t,d)::s,b,g⟩)(ho:o.op=.build t1 iF:=by exact rfl)(hp:uq (kv s) iF.toList (EX tb t1)=some d:=by exact rfl)(hz:(match tb t1 with|some i=>kU (lK i.zero)|none=>false)=true:=by exact rfl)(hg:gd l0 o (kv s)=some true:=by exact rfl)(F:o.dst=some t:=by exact rfl):cq prog n l0 B B0 aL ix aH aC (o::l) ⟨s,b,g⟩:=
 cV (zn aB ho hp hz) hg F h
theorem aec{len:Nat}{iF:Array (Nat×Operand)}{ps:List Pl}(h:cq prog n l0 B B0 aL (ix+1) aH aC l ⟨(t,.p (.sl true len ps))::s,b,g⟩)(ho:o.op=.buildSlice t1 len iF:=by exact rfl)(hp:uq (kv s) iF.toList (EY tb t1 len)=some ps:=by exact rfl)(hg:gd l0 o (kv s)=some true:=by exact rfl)(F:o.dst=some t:=by exact rfl):cq prog n l0 B B0 aL ix aH aC (o::l) ⟨s,b,g⟩:=
 cV (Nw aB ho hp) hg F h
theorem aed{dx:G}(h:cq prog n l0 B B0 aL (ix+1) aH aC l ⟨(t,.ptr nm 0)::s,(nm,cs)::b,g⟩)(ho:o.op=.box t1 x:=by exact rfl)(mW:u6 0 b some=some nm:=by exact rfl)(O:ev (kv s) x=some dx:=by exact rfl)(I:kU dx=true:=by exact rfl)(cH:mF dx some=some cs:=by exact rfl)(hg:gd l0 o (kv s)=some true:=by exact rfl)(F:o.dst=some t:=by exact rfl)(hf:kv b nm=none:=by exact rfl)(lc:kv B nm=none:=by exact rfl):cq prog n l0 B B0 aL ix aH aC (o::l) ⟨s,b,g⟩:=
 ach ho mW O I cH hg F hf lc h
theorem aee(h:cq prog n l0 B B0 aL (ix+1) aH aC l ⟨(t,.ptr nm 0)::s,(nm,cs)::b,g⟩)(ho:o.op=.alloc t1:=by exact rfl)(mW:u6 0 b some=some nm:=by exact rfl)(ht:tb t1=some i:=by exact rfl)(I:kU (lK i.zero)=true:=by exact rfl)(cH:qP i.zero (λ d=>mF d some)=some cs:=by exact rfl)(hg:gd l0 o (kv s)=some true:=by exact rfl)(F:o.dst=some t:=by exact rfl)(hf:kv b nm=none:=by exact rfl)(lc:kv B nm=none:=by exact rfl):cq prog n l0 B B0 aL ix aH aC (o::l) ⟨s,b,g⟩:=
 aci aB ho mW ht I cH hg F hf lc h
end
section
structure pY(ap:Prop):Prop where
 out:ap
variable{aa ap:Prop}
theorem hZ(h:ap)(e:pY ap->aa:=by intro h;(repeat(first|refine z0 ?_|refine z1 ?_|refine z2 ?_|refine z3 ?_|refine z4 ?_|refine z5 ?_|refine z6 ?_|refine z7 ?_|refine z8 ?_|refine z9 ?_));exact h.out):aa:=e ⟨h⟩
theorem gS(h:ap)(e:pY ap->aa:=by intro h;(repeat(first|refine zA ?_|refine zB ?_|refine zC ?_|refine zD ?_|refine zE ?_|refine zF ?_|refine zG ?_|refine zH ?_|refine zI ?_|refine zJ ?_|refine zK ?_|refine zL ?_|refine zT ?_|refine zU ?_|refine zV ?_|refine zW ?_|refine zM ?_|refine zN ?_|refine zO ?_|refine zP ?_|refine zQ ?_|refine zR ?_|refine zS ?_));exact h.out):aa:=e ⟨h⟩
theorem go(h:ap)(e:pY ap->aa:=by intro h;(repeat(first|refine zA ?_|refine zB ?_|refine zC ?_|refine zD ?_|refine zE ?_|refine zF ?_|refine zG ?_|refine zH ?_|refine zI ?_|refine zJ ?_|refine zK ?_|refine zL ?_|refine zT ?_|refine zU ?_|refine zV ?_|refine zW ?_|refine zM ?_|refine zN ?_|refine zO ?_|refine zP ?_|refine zQ ?_|refine zR ?_|refine zS ?_|refine z0 ?_|refine z1 ?_|refine z2 ?_|refine z3 ?_|refine z4 ?_|refine z5 ?_|refine z6 ?_|refine z7 ?_|refine z8 ?_|refine z9 ?_));exact h.out):aa:=e ⟨h⟩
theorem Ag(h:ap)(e:pY ap->aa:=by intro h;(repeat(first|refine zA ?_|refine zB ?_|refine zC ?_|refine zD ?_|refine zE ?_|refine zF ?_|refine zG ?_|refine zH ?_|refine zI ?_|refine zJ ?_|refine zK ?_|refine zL ?_|refine zT ?_|refine zU ?_|refine zV ?_|refine zW ?_|refine zM ?_|refine zN ?_|refine zO ?_|refine zP ?_|refine zQ ?_|refine zR ?_|refine zS ?_|refine bn (IG aB rfl rfl rfl rfl (by omega) (by omega)) rfl rfl rfl ?_|refine bn (acO rfl rfl rfl (by omega) (by omega)) rfl rfl rfl ?_|refine z0 ?_|refine z1 ?_|refine z2 ?_|refine z3 ?_|refine z4 ?_|refine z5 ?_|refine z6 ?_|refine z7 ?_|refine z8 ?_|refine z9 ?_));exact h.out):aa:=e ⟨h⟩
theorem bh(h:ap)(e:pY ap->aa:=by intro h;(repeat(first|refine w0 ?_|refine w1 ?_|refine w2 ?_|refine w3 ?_|refine aeb ?_|refine w5 ?_|refine w6 ?_|refine aec ?_|refine aed ?_|refine aee ?_));exact h.out):aa:=e ⟨h⟩
end
section
variable{P:Program}{ae:Nat->Option TI}{Γ:bI}{J:St}{o:Oper}{l0 l:List Oper}{Q:Exit->St->Prop}
variable{s M:List (Nat×G)}{b bj:List (Nat×List G)}{g:List (Nat×Gr)}{t:Nat}{d:G}{f:FuncId}{aU:List Nat}{ds:List G}{U:bE}{al:G->bE->Prop}{aa:Value->bE->Prop}{rs:List ResultVar}{n:Nat}{fn:Func}{c:Code}
theorem fP{v:Value}(aq:bE)(hX:aa v aq)(A:js J (aF aq) aq:=by(repeat(first|exact trivial|refine⟨⟨rfl,rfl⟩,?_⟩)))(K:ki aq aU:=by(repeat(first|exact trivial|refine⟨rfl,?_⟩))):xn ae rs aU al aa (.panic [pe v]) J:=Wq aq A K hX
theorem sX(hf:prog.funcs[f]?=some fn)(iu:fn.ntmps=n)(h:∀w cl own kf,aK prog ⟨n,w,cl,own,lW kf aU,[]⟩ c (xn tb rs aU al aa) ⟨s,U,[]⟩)(T:fn.body=some c:=by exact rfl)(lU:fn.results.toList=rs:=by exact rfl)(hn:Nat.ble ds.length n=true:=by exact rfl)(hs:rV 0 ds some=some s:=by exact rfl)(nZ:ki U aU:=by(repeat(first|exact trivial|refine⟨rfl,?_⟩))):fI prog f aU ds U al aa:=
 ZI aB hf T iu lU hn hs nZ h
end
section
variable{aa ap:Prop}
theorem gP(h:ap)(e:pY ap->aa:=by intro h;(repeat(first|refine acg ?_|refine ace ?_|refine acf ?_|refine afZ ?_|refine afY ?_));exact h.out):aa:=e ⟨h⟩
end
theorem tc(f:Nat)(h:(match prog.funcs[f]? with|some fn=>!(fn.name== "runtime.NumGoroutine")&&!fn.body.isNone|none=>false)=true):jN prog f:=by
 intro args w;split at h
 ·rename_i fn hf;simp only[Bool.and_eq_true,Bool.not_eq_true',beq_eq_false_iff_ne,ne_eq,Option.isNone_eq_false_iff] at h;obtain⟨h1,A⟩:=h;obtain⟨c,L⟩:=Option.isSome_iff_exists.1 A;simp[callFunc,hf,h1,L]
 ·cases h
section
variable{aa:Prop}
theorem Bz(e:aa:=by(repeat(first|exact trivial|refine⟨⟨rfl,rfl⟩,?_⟩|refine⟨rfl,?_⟩))):aa:=e
theorem AV(e:aa:=by(repeat(first|exact trivial|refine⟨.inr rfl,?_⟩|refine⟨.inl rfl,?_⟩))):aa:=e
theorem tm(e:aa:=by(first|(rintro d U ⟨r,M,_,_,_,_,_,_,rfl,rfl⟩)|(rintro d U ⟨iM,M,_,_,_,_,_,rfl,rfl⟩)|(rintro d U ⟨x,M,_,_,_,_,rfl,rfl⟩)|(rintro d U ⟨x,M,_,_,_,rfl,rfl⟩)|(rintro d U ⟨x,M,iM,_,_,rfl,rfl⟩)|(rintro d U ⟨x,M,_,_,rfl,rfl⟩)|(rintro d U ⟨a,M,iM,_,rfl,rfl⟩)|(rintro d U ⟨a,M,_,rfl,rfl⟩)|(rintro d U ⟨rfl,rfl⟩));(repeat(first|exact trivial|refine⟨.inl rfl,?_⟩|refine⟨.inr rfl,?_⟩))):aa:=e
theorem Sb(e:aa:=by(first|rintro v U ⟨a,M,h,rfl,rfl⟩|rintro v U ⟨a,M,iM,h,rfl,rfl⟩);refine gP ?_;first|exact fP _ ⟨a,M,by rw[<-E];exact bl h,rfl,rfl⟩|exact fP _ ⟨a,M,_,by rw[<-E];exact bl h,rfl,rfl⟩|exact fP _ ⟨a,M,iM,by rw[<-E];exact bl h,rfl,rfl⟩|exact fP _ ⟨a,M,E.symm.trans h,rfl,rfl⟩|exact fP _ ⟨a,M,iM,E.symm.trans h,rfl,rfl⟩|exact fP _ ⟨a,M,by rw[<-E];exact h,rfl,rfl⟩):aa:=e
end
section
variable{Γ:bI}{J:St}{o:Oper}{l0 l:List Oper}{Q:Exit->St->Prop}{aL:St->Prop}
variable{s M:List (Nat×G)}{b bj:List (Nat×List G)}{g:List (Nat×Gr)}{t t1:Nat}{d:G}{f:FuncId}{aU:List Nat}{ds first cG:List G}{U:bE}{al:G->bE->Prop}{aa:Value->bE->Prop}{rs:List ResultVar}{n:Nat}{fn:Func}{c:Code}{xs:List Operand}{fx:Array TypeId}{fo:Operand}
variable{B B0:List (Nat×List G)}{aH:List Nat}{aC:List (Nat×Nat)}{ix:Nat}
def sQ(l0:List Oper)(o:Oper)(s:List (Nat×G))(fo:Operand)(xs:List Operand)(fx:Array TypeId)(t n:Nat):Prop:=o.op=.call {callee:=.value fo,args:=xs.toArray,argTypes:=fx}/\gd l0 o (kv s)=some true/\o.dst=some t/\Nat.blt t n=true
def ze(Γ:bI)(s M:List (Nat×G))(b bj:List (Nat×List G))(g:List (Nat×Gr))(U:bE)(aU:List Nat)(ds:List G):Prop:=G.ok.eA (aF U) (λ _=>false) ds=true/\js ⟨s,b,g⟩ (aF U) U/\rI aU U Γ.kb/\lx (λ b=>!aF U b||ie aU b) s (λ M=>lL (aF U) (λ b=>!aF U b||ie aU b) b (λ bj=>some (M,bj)))=some (M,bj)
theorem cA(hC:aX prog f ds d)(h:bp prog Γ l0 Q l ⟨(t,d)::s,b,g⟩)(c:sQ l0 o s (.func f) xs fx t Γ.n:=by exact⟨rfl,rfl,rfl,rfl⟩)(hf:jN prog f:=by exact tc _ (by kernel_rfl))(O:i5 (kv s) xs G.low.kA=some ds:=by exact rfl):bp prog Γ l0 Q (o::l) ⟨s,b,g⟩:=bn (Nz hC c.1 hf O) c.2.1 c.2.2.1 c.2.2.2 h
theorem cQ(hC:aX prog f ds d)(h:cq prog n l0 B B0 aL (ix+1) aH aC l ⟨(t,d)::s,b,g⟩)(c:sQ l0 o s (.func f) xs fx t (t+1):=by exact⟨rfl,rfl,rfl,by simp⟩)(hf:jN prog f:=by exact tc _ (by kernel_rfl))(O:i5 (kv s) xs G.low.kA=some ds:=by exact rfl):cq prog n l0 B B0 aL ix aH aC (o::l) ⟨s,b,g⟩:=cV (Nz hC c.1 hf O) c.2.1 c.2.2.1 h
theorem lA(hC:aX prog f ds d)(h:bp prog Γ l0 Q l ⟨(t,d)::s,b,g⟩)(c:sQ l0 o s (.func f) xs fx t Γ.n:=by exact⟨rfl,rfl,rfl,rfl⟩)(hf:jN prog f:=by exact tc _ (by kernel_rfl))(O:i5 (kv s) xs (λ jm=>DP (kv b) jm some)=some ds:=by exact rfl)(hr:Bu d=true:=by exact rfl):bp prog Γ l0 Q (o::l) ⟨s,b,g⟩:=bn (Q3 hC c.1 hf O hr) c.2.1 c.2.2.1 c.2.2.2 h
theorem lQ(hC:aX prog f ds d)(h:cq prog n l0 B B0 aL (ix+1) aH aC l ⟨(t,d)::s,b,g⟩)(c:sQ l0 o s (.func f) xs fx t (t+1):=by exact⟨rfl,rfl,rfl,by simp⟩)(hf:jN prog f:=by exact tc _ (by kernel_rfl))(O:i5 (kv s) xs (λ jm=>DP (kv B) jm some)=some ds:=by exact rfl)(hr:Bu d=true:=by exact rfl):cq prog n l0 B B0 aL ix aH aC (o::l) ⟨s,b,g⟩:=cV (Q3 hC c.1 hf O hr) c.2.1 c.2.2.1 h
theorem cI(hC:eo prog f aU ds U al)(h:∀d aq,al d aq->bp prog Γ l0 Q l ⟨(t,d)::M,aq++bj,g⟩)(c:sQ l0 o s (.func f) xs fx t Γ.n:=by exact⟨rfl,rfl,rfl,rfl⟩)(hf:jN prog f:=by exact tc _ (by kernel_rfl))(he:i5 (kv s) xs some=some ds:=by exact rfl)(k:ze Γ s M b bj g U aU ds:=by exact⟨rfl,Bz,AV,rfl⟩)(dm:∀d aq,al d aq->ke U b aq:=by exact tm):bp prog Γ l0 Q (o::l) ⟨s,b,g⟩:=hJ hC c.1 hf he k.1 k.2.1 k.2.2.1 c.2.1 c.2.2.1 c.2.2.2 k.2.2.2 dm h
theorem vI(hC:eo prog f aU ds U al)(h:∀d aq,al d aq->bp prog Γ l0 Q l ⟨(t,d)::M,aq++bj,g⟩)(c:sQ l0 o s fo xs fx t Γ.n:=by exact⟨rfl,rfl,rfl,rfl⟩)(hf:jN prog f:=by exact tc _ (by kernel_rfl))(uy:ev (kv s) fo=some (.fn (.func f) first cG):=by exact rfl)(he:(i5 (kv s) xs λ jm=>mE first jm λ r=>mE r cG some)=some ds:=by exact rfl)(k:ze Γ s M b bj g U aU ds:=by exact⟨rfl,Bz,AV,rfl⟩)(dm:∀d aq,al d aq->ke U b aq:=by exact tm):bp prog Γ l0 Q (o::l) ⟨s,b,g⟩:=xr hC c.1 hf uy he k.1 k.2.1 k.2.2.1 c.2.1 c.2.2.1 c.2.2.2 k.2.2.2 dm h
theorem vX(hC:fI prog f aU ds U al aa)(O:∀v aq,aa v aq->Q (.panic [pe v]) ⟨M,aq++bj,g⟩)(h:∀d aq,al d aq->bp prog Γ l0 Q l ⟨(t,d)::M,aq++bj,g⟩)(c:sQ l0 o s fo xs fx t Γ.n:=by exact⟨rfl,rfl,rfl,rfl⟩)(hf:jN prog f:=by exact tc _ (by kernel_rfl))(uy:ev (kv s) fo=some (.fn (.func f) first cG):=by exact rfl)(he:(i5 (kv s) xs λ jm=>mE first jm λ r=>mE r cG some)=some ds:=by exact rfl)(k:ze Γ s M b bj g U aU ds:=by exact⟨rfl,Bz,AV,rfl⟩)(dm:∀d aq,al d aq->ke U b aq:=by exact tm)(qu:∀v aq,aa v aq->ke U b aq:=by exact tm):bp prog Γ l0 Q (o::l) ⟨s,b,g⟩:=MW hC c.1 hf uy he k.1 k.2.1 k.2.2.1 c.2.1 c.2.2.1 c.2.2.2 k.2.2.2 dm qu O h
theorem xX(hC:fI prog f aU ds U al aa)(O:∀v aq,aa v aq->Q (.panic [pe v]) ⟨M,aq++bj,g⟩)(h:∀d aq,al d aq->bp prog Γ l0 Q l ⟨(t,d)::M,aq++bj,g⟩)(c:sQ l0 o s (.func f) xs fx t Γ.n:=by exact⟨rfl,rfl,rfl,rfl⟩)(hf:jN prog f:=by exact tc _ (by kernel_rfl))(he:i5 (kv s) xs some=some ds:=by exact rfl)(k:ze Γ s M b bj g U aU ds:=by exact⟨rfl,Bz,AV,rfl⟩)(dm:∀d aq,al d aq->ke U b aq:=by exact tm)(qu:∀v aq,aa v aq->ke U b aq:=by exact tm):bp prog Γ l0 Q (o::l) ⟨s,b,g⟩:=T4 hC c.1 hf he k.1 k.2.1 k.2.2.1 c.2.1 c.2.2.1 c.2.2.2 k.2.2.2 dm qu O h
theorem xP(hC:fI prog f aU ds U al aa)(h:∀d aq,al d aq->bp prog Γ l0 Q l ⟨(t,d)::M,aq++bj,g⟩)(c:sQ l0 o s (.func f) xs fx t Γ.n:=by exact⟨rfl,rfl,rfl,rfl⟩)(hf:jN prog f:=by exact tc _ (by kernel_rfl))(he:i5 (kv s) xs some=some ds:=by exact rfl)(k:ze Γ s M b bj g U aU ds:=by exact⟨rfl,Bz,AV,rfl⟩)(O:∀v aq,aa v aq->Q (.panic [pe v]) ⟨M,aq++bj,g⟩:=by exact Sb)(dm:∀d aq,al d aq->ke U b aq:=by exact tm)(qu:∀v aq,aa v aq->ke U b aq:=by exact tm):bp prog Γ l0 Q (o::l) ⟨s,b,g⟩:=xX hC O h c hf he k dm qu
theorem vP(hC:fI prog f aU ds U al aa)(h:∀d aq,al d aq->bp prog Γ l0 Q l ⟨(t,d)::M,aq++bj,g⟩)(c:sQ l0 o s fo xs fx t Γ.n:=by exact⟨rfl,rfl,rfl,rfl⟩)(hf:jN prog f:=by exact tc _ (by kernel_rfl))(uy:ev (kv s) fo=some (.fn (.func f) first cG):=by exact rfl)(he:(i5 (kv s) xs λ jm=>mE first jm λ r=>mE r cG some)=some ds:=by exact rfl)(k:ze Γ s M b bj g U aU ds:=by exact⟨rfl,Bz,AV,rfl⟩)(O:∀v aq,aa v aq->Q (.panic [pe v]) ⟨M,aq++bj,g⟩:=by exact Sb)(dm:∀d aq,al d aq->ke U b aq:=by exact tm)(qu:∀v aq,aa v aq->ke U b aq:=by exact tm):bp prog Γ l0 Q (o::l) ⟨s,b,g⟩:=vX hC O h c hf uy he k dm qu
theorem fX{ex:Exit}(aq:bE)(hR:al d aq)(he:ex=.ret\/ex=.normal:=by first|exact .inl rfl|exact .inr rfl)(h:tX tb J rs=some d:=by exact rfl)(h1:d.ok (aF aq) (λ _=>false)=true:=by exact rfl)(A:js J (aF aq) aq:=by(repeat(first|exact trivial|refine⟨⟨rfl,rfl⟩,?_⟩)))(K:ki aq aU:=by(repeat(first|exact trivial|refine⟨rfl,?_⟩))):xn tb rs aU al aa ex J:=by
 rcases he with rfl|rfl
 ·exact Wr aq h h1 A K hR
 ·exact Wp aq h h1 A K hR
theorem bA{x:Operand}{dx:G}{cs:List G}(nm:Nat)(h:bp prog Γ l0 Q l ⟨(t,.ptr nm 0)::s,(nm,cs)::b,g⟩)(ho:o.op=.box t1 x:=by exact rfl)(O:ev (kv s) x=some dx:=by exact rfl)(I:kU dx=true:=by exact rfl)(cH:mF dx some=some cs:=by exact rfl)(hg:gd l0 o (kv s)=some true:=by exact rfl)(F:o.dst=some t:=by exact rfl)(R:Nat.blt t Γ.n=true:=by exact rfl)(hf:kv b nm=none:=by exact rfl):bp prog Γ l0 Q (o::l) ⟨s,b,g⟩:=Ca (EW nm ho O I cH) hg F R hf h
theorem nA{i:TI}{cs:List G}(nm:Nat)(h:bp prog Γ l0 Q l ⟨(t,.ptr nm 0)::s,(nm,cs)::b,g⟩)(ho:o.op=.alloc t1:=by exact rfl)(O:tb t1=some i:=by exact rfl)(I:kU (lK i.zero)=true:=by exact rfl)(cH:qP i.zero (λ d=>mF d some)=some cs:=by exact rfl)(hg:gd l0 o (kv s)=some true:=by exact rfl)(F:o.dst=some t:=by exact rfl)(R:Nat.blt t Γ.n=true:=by exact rfl)(hf:kv b nm=none:=by exact rfl):bp prog Γ l0 Q (o::l) ⟨s,b,g⟩:=Ca (vF aB nm ho O I cH) hg F R hf h
theorem dW{l1 l2:List Oper}{id:Nat}(k:Nat)(ws:List Nat)(h:cq prog Γ.n l B J.b (bp prog Γ l Q l2) 0 [] [] l1 J)(hs:(l5 k l λ a=>kN k l λ b=>some (a,b))=some (l1,l2):=by exact rfl)(hv:oE ws J.b some=some B:=by exact rfl)(hm:prog.follows .mixedOrders=true:=by kernel_rfl)(hB:qF l.toArray Γ.n=true:=by kernel_rfl)(hT:tZ l.toArray k=true:=by kernel_rfl):aK prog Γ (.region id l.toArray true) Q J:=Np k ws hs hv hm hB hT h
theorem dQ{id:Nat}(ws:List Nat)(h:cq prog Γ.n l B J.b (Q .normal) 0 [] [] l J)(hv:oE ws J.b some=some B:=by exact rfl)(hm:prog.follows .mixedOrders=true:=by kernel_rfl)(hB:qF l.toArray Γ.n=true:=by kernel_rfl):aK prog Γ (.region id l.toArray true) Q J:=Nm ws hv hm hB h
theorem gW{ap:Prop}{l1 l2:List Oper}{id:Nat}(k:Nat)(ws:List Nat)(h:ap)(hs:(l5 k l λ a=>kN k l λ b=>some (a,b))=some (l1,l2):=by exact rfl)(hv:oE ws J.b some=some B:=by exact rfl)(hm:prog.follows .mixedOrders=true:=by kernel_rfl)(hB:qF l.toArray Γ.n=true:=by kernel_rfl)(hT:tZ l.toArray k=true:=by kernel_rfl)(e:pY ap->cq prog Γ.n l B J.b (bp prog Γ l Q l2) 0 [] [] l1 J:=by intro h;refine bh ?_;exact h.out):aK prog Γ (.region id l.toArray true) Q J:=Np k ws hs hv hm hB hT (e ⟨h⟩)
theorem gD{ap:Prop}{id:Nat}(ws:List Nat)(h:ap)(hv:oE ws J.b some=some B:=by exact rfl)(hm:prog.follows .mixedOrders=true:=by kernel_rfl)(hB:qF l.toArray Γ.n=true:=by kernel_rfl)(e:pY ap->cq prog Γ.n l B J.b (Q .normal) 0 [] [] l J:=by intro h;refine bh ?_;exact h.out):aK prog Γ (.region id l.toArray true) Q J:=Nm ws hv hm hB (e ⟨h⟩)
theorem ai{el ty:TypeId}{x y:Operand}{z1 z2:Nat}{z3:Value}{j:TI}{k:IntKind}{i:Int}{dx:G}{m:Nat}{ps:List Pl}(qs:List Pl)(hm:∀(m:Nat)(q:Pl),qs[m]?=some q->ps[i.toNat*j.sz+m]?=some q)(h:bp prog Γ l0 Q l ⟨(t,.el qs)::s,b,g⟩)(ho:o.op=.indexAddr ty x y:=by exact rfl)(r7:tb ty=some ⟨.slice el,z1,z2,z3⟩:=by exact rfl)(qp:tb el=some j:=by exact rfl)(O:ev (kv s) x=some dx:=by exact rfl)(jx:ni dx=some (m,ps):=by exact rfl)(hy:ev (kv s) y=some (.p (.raw (.int k i))):=by exact rfl)(h0:0<=i:=by first|omega|(simp;done)|(simp;omega))(h1:i<m:=by first|omega|(simp;done)|(simp;omega))(hq:qs≠[]:=by first|(simp;done)|exact List.cons_ne_nil _ _)(hg:gd l0 o (kv s)=some true:=by exact rfl)(F:o.dst=some t:=by exact rfl)(R:Nat.blt t Γ.n=true:=by exact rfl):bp prog Γ l0 Q (o::l) ⟨s,b,g⟩:=bn (QF aB qs ho r7 qp O jx hy h0 h1 hq hm) hg F R h
theorem aj{el ty:TypeId}{x y:Operand}{z1 z2:Nat}{z3:Value}{j:TI}{k:IntKind}{i:Int}{nm m c:Nat}(p q:Nat)(h:bp prog Γ l0 Q l ⟨(t,.ptr nm p)::s,b,g⟩)(ho:o.op=.indexAddr ty x y:=by exact rfl)(r7:tb ty=some ⟨.slice el,z1,z2,z3⟩:=by exact rfl)(qp:tb el=some j:=by exact rfl)(O:ev (kv s) x=some (.arr nm 0 m c):=by exact rfl)(hy:ev (kv s) y=some (.p (.raw (.int k i))):=by exact rfl)(h0:0<=i:=by omega)(h1:i<m:=by omega)(hg:gd l0 o (kv s)=some true:=by exact rfl)(F:o.dst=some t:=by exact rfl)(R:Nat.blt t Γ.n=true:=by exact rfl)(hq:j.sz=q:=by exact rfl)(hp:p=i.toNat*q:=by omega):bp prog Γ l0 Q (o::l) ⟨s,b,g⟩:=bn (jy aB ho r7 qp O hy h0 h1 (by rw[hq];exact hp)) hg F R h
theorem ri{el ty:TypeId}{x y:Operand}{z1 z2:Nat}{z3:Value}{j:TI}{k:IntKind}{i:Int}{dx:G}{m:Nat}{ps:List Pl}(qs:List Pl)(hm:∀(m:Nat)(q:Pl),qs[m]?=some q->ps[i.toNat*j.sz+m]?=some q)(h:cq prog n l0 B B0 aL (ix+1) aH aC l ⟨(t,.el qs)::s,b,g⟩)(ho:o.op=.indexAddr ty x y:=by exact rfl)(r7:tb ty=some ⟨.slice el,z1,z2,z3⟩:=by exact rfl)(qp:tb el=some j:=by exact rfl)(O:ev (kv s) x=some dx:=by exact rfl)(jx:ni dx=some (m,ps):=by exact rfl)(hy:ev (kv s) y=some (.p (.raw (.int k i))):=by exact rfl)(h0:0<=i:=by first|omega|(simp;done)|(simp;omega))(h1:i<m:=by first|omega|(simp;done)|(simp;omega))(hq:qs≠[]:=by first|(simp;done)|exact List.cons_ne_nil _ _)(hg:gd l0 o (kv s)=some true:=by exact rfl)(F:o.dst=some t:=by exact rfl):cq prog n l0 B B0 aL ix aH aC (o::l) ⟨s,b,g⟩:=cV (QF aB qs ho r7 qp O jx hy h0 h1 hq hm) hg F h
theorem rj{el ty:TypeId}{x y:Operand}{z1 z2:Nat}{z3:Value}{j:TI}{k:IntKind}{i:Int}{nm m c:Nat}(p q:Nat)(h:cq prog n l0 B B0 aL (ix+1) aH aC l ⟨(t,.ptr nm p)::s,b,g⟩)(ho:o.op=.indexAddr ty x y:=by exact rfl)(r7:tb ty=some ⟨.slice el,z1,z2,z3⟩:=by exact rfl)(qp:tb el=some j:=by exact rfl)(O:ev (kv s) x=some (.arr nm 0 m c):=by exact rfl)(hy:ev (kv s) y=some (.p (.raw (.int k i))):=by exact rfl)(h0:0<=i:=by omega)(h1:i<m:=by omega)(hg:gd l0 o (kv s)=some true:=by exact rfl)(F:o.dst=some t:=by exact rfl)(hq:j.sz=q:=by exact rfl)(hp:p=i.toNat*q:=by omega):cq prog n l0 B B0 aL ix aH aC (o::l) ⟨s,b,g⟩:=cV (jy aB ho r7 qp O hy h0 h1 (by rw[hq];exact hp)) hg F h
theorem pA{ty el:TypeId}{x y:Operand}{gn n1 m z1 z2:Nat}{z3:Value}{ps qs:List Pl}{dy:G}{i:TI}(ci:qs.length=m*i.sz)(h:bp prog Γ l0 Q l ⟨(t,.aW gn (n1+m) (ps++qs))::s,b,(gn,⟨el,i.sz,n1+m⟩)::g⟩)(ho:o.op=.call {callee:=.builtin .append,args:=#[x,y],argTypes:=#[ty,ty]}:=by exact rfl)(r7:tb ty=some ⟨.slice el,z1,z2,z3⟩:=by exact rfl)(qp:tb el=some i:=by exact rfl)(hz:Nat.beq i.zero.cells.size i.sz=true:=by exact rfl)(hp:Nat.blt 0 i.sz=true:=by exact rfl)(hg:gd l0 o (kv s)=some true:=by exact rfl)(F:o.dst=some t:=by exact rfl)(R:Nat.blt t Γ.n=true:=by exact rfl)(O:ev (kv s) x=some (.aW gn n1 ps):=by exact rfl)(hG:kv g gn=some ⟨el,i.sz,n1⟩:=by exact rfl)(hy:ev (kv s) y=some dy:=by exact rfl)(jx:ni dy=some (m,qs):=by exact rfl)(YG:n1+m<=maxLen:=by unfold maxLen;first|omega|(simp;omega))(T:(n1+m)*i.bytes<=140737488355328:=by show(_+_)*(_:Nat)<=_;first|(simp only[];omega)|omega|(simp;omega)):bp prog Γ l0 Q (o::l) ⟨s,b,g⟩:=hE aB ho r7 qp hz hp hg F R O hG hy jx ci YG T h
theorem sP(hf:prog.funcs[f]?=some fn)(iu:fn.ntmps=n)(h:∀w cl,aK prog ⟨n,w,cl,λ _=>False,[],[]⟩ c (Fin tb rs d) ⟨s,[],[]⟩)(T:fn.body=some c:=by exact rfl)(lU:fn.results.toList=rs:=by exact rfl)(hn:Nat.ble ds.length n=true:=by exact rfl)(hs:rV 0 ds some=some s:=by exact rfl):aX prog f ds d:=abZ aB hf T iu lU hn hs h
theorem sI(hf:prog.funcs[f]?=some fn)(iu:fn.ntmps=n)(h:∀w cl own kf,aK prog ⟨n,w,cl,own,lW kf aU,[]⟩ c (BS tb rs aU al) ⟨s,U,[]⟩)(T:fn.body=some c:=by exact rfl)(lU:fn.results.toList=rs:=by exact rfl)(hn:Nat.ble ds.length n=true:=by exact rfl)(hs:rV 0 ds some=some s:=by exact rfl)(nZ:ki U aU:=by(repeat(first|exact trivial|refine⟨rfl,?_⟩))):eo prog f aU ds U al:=ZJ aB hf T iu lU hn hs nZ h
end
section
variable{aa ap:Prop}
theorem d8(h:ap)(e:pY ap->aa:=by intro h;(first|refine rY rfl ?_|refine Wt rfl ?_);exact h.out):aa:=e ⟨h⟩
theorem gA{f:FuncId}{ds:List G}{d:G}(hC:aX prog f ds d)(h:ap)(e:aX prog f ds d->pY ap->aa:=by intro hC h;refine go ?_;refine cA hC ?_;refine go ?_;exact h.out):aa:=e hC ⟨h⟩
theorem gQ{f:FuncId}{ds:List G}{d:G}(hC:aX prog f ds d)(h:ap)(e:aX prog f ds d->pY ap->aa:=by intro hC h;refine bh ?_;refine cQ hC ?_;refine bh ?_;exact h.out):aa:=e hC ⟨h⟩
theorem gf(h:ap)(e:pY ap->aa:=by intro h;refine go ?_;refine d8 ?_;exact h.out):aa:=e ⟨h⟩
theorem qg(h:ap)(e:pY ap->aa:=by intro h;refine bh ?_;refine go ?_;exact h.out):aa:=e ⟨h⟩
end
end Go.Proofs.YtcnefjfboagbmaaGreat
