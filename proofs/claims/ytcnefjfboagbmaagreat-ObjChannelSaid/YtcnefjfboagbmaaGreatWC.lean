/- A map's programs: an access; the node that is there; the list's programs behind a node: their walks. -/
import Derived.Test.YtcnefjfboagbmaaGreatWB
import Derived.Test.YtcnefjfboagbmaaGreatPA
import Derived.Test.YtcnefjfboagbmaaGreatLB
namespace Go.Proofs.YtcnefjfboagbmaaGreat
open Go.Proofs.Tryz
open Go.RowKit
set_option maxRecDepth 100000
abbrev AX(a:aX):Value:=.iface 167 (.agg #[.int .i64 a.kind,.int .i64 a.cell,.int .i64 a.dg,.int .i64 a.new])
abbrev adA(l:ah)(G m:Int)(log:List aF)(s:af):List Pl:=[pI l.ar,pI l.nodes,pI l.buckets,pI l.bU,pI l.tasks,pI l.cells,pI l.maps,pI l.dl,pI l.bo,pI l.done,pI l.count,pI l.era,pI l.free,pI l.alive,pI l.owner,pI l.mB,pI l.sJ,pI l.ring,pI l.task,pI l.cell,pI l.map,pI l.stack,pI l.chan,pI l.node,pI l.size,pI G,v9 s.gone,pI m,.sl false log.length (g8 log),pI s.made]
abbrev sf(l:ah)(G m:Int)(log:List aF)(s:af):List K:=[E l.ar,E l.nodes,E l.buckets,E l.bU,E l.tasks,E l.cells,E l.maps,E l.dl,E l.bo,E l.done,E l.count,E l.era,E l.free,E l.alive,E l.owner,E l.mB,E l.sJ,E l.ring,E l.task,E l.cell,E l.map,E l.stack,E l.chan,E l.node,E l.size,E G,eh s.gone,E m,gT log,E s.made]
abbrev xL(l:ah)(G m:Int)(log:List aF)(s:af):bJ:=[(40,sf l G m log s)]
def Vo{av:Type}(bx:af->bJ)(log:List aF)(m:Except aX (av×af))(s:af)(enc:av->K):K->bJ->Prop:=λ d Y=>∃x aa,m=.ok (x,aa)/\ik log s aa/\d=enc x/\Y=bx aa
def yk{av:Type}(bx:af->bJ)(m:Except aX (av×af)):Value->bJ->Prop:=λ v Y=>∃a aa,m=.error a/\v=AX a/\Y=bx aa
abbrev CZ{av:Type}(f:FuncId)(aV:List Nat)(bx:af->bJ)(log:List aF)(s:af)(ds:List K)(m:Except aX (av×af))(enc:av->K):Prop:=fM prog f aV ds (bx s) (Vo bx log m s enc) (yk bx m)
structure m6(log:List aF)(s:af):Prop where
 gone:eN s.gone
 len:s.gone.length+log.length<=10000+s.made
 le:s.made<=log.length
 log:log.length<=5000
theorem m6.next{log:List aF}{s aa:af}(h:m6 log s)(hG:ik log s aa):m6 log aa:=⟨hG.ok,by have:=h.len;have:=hG.len;have:=hG.made;omega,hG.le,h.log⟩
theorem m6.refl{log:List aF}{s:af}(h:m6 log s):ik log s s:=⟨Nat.le_refl _,h.le,h.gone,Nat.le_refl _⟩
theorem m6.up{log:List aF}{s:af}(h:m6 log s){r:aF}(hr:log[s.made]?=some r):ik log s {s with made:=s.made+1}:=⟨Nat.le_succ _,(List.getElem?_eq_some_iff.1 hr).1,h.gone,Nat.add_le_add_left (Nat.le_succ _) _⟩
theorem CC(l:ah)(G m:Int)(log:List aF)(s:af)(a:aX)(h0:m6 log s):CZ 119 [40] (xL l G m log) log s [.ptr 40 0,fC a] (fO a log s) yz:=by
 have hm:=h0.le;have U:=h0.log;refine sX func119 ntmps119 λ w cl own kf=>?_
 refine go ?_;refine gD [] ?_;refine go ?_;generalize A:decide ((s.made:Int)=(log.length:Int))=cc;cases cc
 ·have aU:=of_decide_eq_false A;have bm:s.made<log.length:=by omega
  have hr:log[s.made]?=some log[s.made]:=List.getElem?_eq_getElem bm;generalize log[s.made]=r at hr;have qd:log[((s.made:Int)+1-1).toNat]?=some r:=by rw[show((s.made:Int)+1-1).toNat=s.made by omega];exact hr
  refine go ?_;refine gW 9 [] ?_;refine ai [pI r.val,pB r.ok] (EL qd) ?_;refine go ?_;exact fX _ ⟨r,{s with made:=s.made+1},by rw[fO,hr],h0.up hr,rfl,rfl⟩
 ·have aU:log.length=s.made:=by have:=of_decide_eq_true A;omega
  have hr:log[s.made]?=none:=List.getElem?_eq_none (by omega);refine go ?_;refine bh (ED aD rfl rfl rfl rfl rfl) rfl rfl rfl ?_;refine C7 rfl rfl rfl ?_;refine gP ?_;exact fP _ ⟨a,s,by rw[fO,hr],rfl,rfl⟩
theorem afr(l:ah)(G m:Int)(log:List aF)(s:af)(o:aY)(a:aX)(n:Int)(hp:o.is=false->0<=o.c6/\o.c6+2<log.length)(U:log.length<=5000)(hn:n=if o.is then(ae a.new).idx else(ae ((log.getD (o.c6.toNat+2) ⟨0,false⟩).val)).idx):bc prog 148 [.el (adA l G m log s),kj o,fC a] (E n):=by
 generalize y9:o.is=v7 at hp hn;generalize jg:o.c6=op at hp hn;refine sP func148 ntmps148 λ w cl=>?_
 refine go ?_;rw[y9];cases v7
 ·obtain⟨A,F⟩:=hp rfl;have hr:log[(op+2).toNat]?=some (log.getD (op.toNat+2) ⟨0,false⟩):=by
   rw[show(op+2).toNat=op.toNat+2 by omega,List.getD_eq_getElem?_getD,List.getElem?_eq_getElem (by omega)];rfl
  simp only[Bool.false_eq_true,if_false] at hn;generalize log.getD (op.toNat+2) ⟨0,false⟩=r at hr hn;refine go ?_;rw[jg];refine gW 10 [] ?_;refine ri [pI r.val,pB r.ok] (EL hr) ?_;refine br ?_;refine cA (kV r.val) ?_;refine gf ?_;rw[hn]
 ·simp only[if_true] at hn;refine gA (kV a.new) ?_;refine ez ?_;rw[hn]
theorem Ta(a b:List aF):g8 (a++b)=g8 a++g8 b:=by simp[g8]
theorem Mm(l:List aF):(g8 l).length=l.length*2:=by
 induction l with
 |nil=>rfl
 |cons a l ih=>unfold g8 at ih⊢;rw[List.flatMap_cons,List.length_append,ih];simp[Am];omega
theorem abz{l:List aF}{c:Nat}:∀(i:Nat) q,(g8 (l.take c))[i]?=some q->(g8 l)[(0:Int).toNat*2+i]?=some q:=by
 intro i q h;have U:g8 l=g8 (l.take c)++g8 (l.drop c):=by rw[<-Ta,List.take_append_drop]
 rw[show(0:Int).toNat*2+i=i by simp,U,List.getElem?_append_left (List.getElem?_eq_some_iff.1 h).1];exact h
theorem abA{l:List aF}{a:Int}{b:Nat}(yS:a.toNat=b)(ha:b<=l.length):∀(i:Nat) q,(g8 (l.drop b))[i]?=some q->(g8 l)[a.toNat*2+i]?=some q:=by
 intro i q h;rw[yS];have U:g8 l=g8 (l.take b)++g8 (l.drop b):=by rw[<-Ta,List.take_append_drop]
 have A:(g8 (l.take b)).length=b*2:=by rw[Mm,List.length_take];congr 1;omega
 rw[U,List.getElem?_append_right (by omega),A,show b*2+i-b*2=i by omega];exact h
def kZ(l:ah)(G:Int)(gone:List (Int×Int))(op:bl)(D:Int)(lg:List aF):aX×aY×Bool:=
 if(dJ l G gone op lg).2.2=false/\D<0/\(dJ l G gone op lg).1.cell=op.obj then({(dJ l G gone op lg).1 with cell:=D},(dJ l G gone op lg).2) else dJ l G gone op lg
theorem WC(l:ah)(G:Int)(gone:List (Int×Int))(kind e8 eF v:Int)(lg:List aF):nU l G gone kind e8 eF v lg=kZ l G gone ⟨kind,if aN l e8 0<0 then l.done else aN l e8 0,eF,v⟩ (aN l e8 0) lg:=rfl
abbrev B6(l:ah)(G m:Int)(log:List aF)(op:bl)(lg:List aF)(D:Int)(s:af):bJ:=[(40,sf l G m log s),(41,[.ptr 40 0]),(42,[E op.kind,E op.obj,E op.a,E op.b]),(43,[gT lg]),(44,[E D])]
set_option maxHeartbeats 4000000 in
theorem abq(l:ah)(hL:cr l)(G m:Int)(log:List aF)(op:bl)(lg:List aF)(D:Int)(s:af)(k:Nat)(hg:eN s.gone)(gU:s.gone.length+lg.length<=10000)(J:k<=lg.length):
 eI prog 149 [40,41,42,43,44] [E k,.ptr 41 0,.ptr 42 0,.ptr 43 0,.ptr 44 0] (B6 l G m log op lg D s) (λ d Y=>d=sH (kZ l G s.gone op D (lg.take k))/\Y=B6 l G m log op lg D s):=by
 generalize I:kZ l G s.gone op D (lg.take k)=aQ;unfold kZ at I;have ku:(lg.take k).length=k:=by rw[List.length_take];omega
 have jD:=abz (l:=lg) (c:=k);have vE:=EU l hL G s.gone op (lg.take k) hg (by omega);generalize lg.take k=lk at I ku jD vE;generalize dJ l G s.gone op lk=aO at I vE;obtain⟨a,o,dn⟩:=aO;simp only at I;refine sI func149 ntmps149 λ w cl own kf=>?_
 refine go ?_;refine gW 25 [] ?_;refine cV (Ul aD lk.length (g8 lk) rfl rfl rfl rfl rfl rfl rfl (by omega) (by omega) (by omega) (by omega) (Mm lk) jD) rfl rfl ?_;refine gQ vE ?_;refine go ?_;cases dn
 ·refine go ?_;generalize A:decide (D<0)=cc;cases cc
  ·rw[if_neg (λ h=>of_decide_eq_false A h.2.1)] at I;refine go ?_;refine gW 5 [5,6] ?_;refine go ?_;refine iB (d:=.bd [fC a,kj o,dB false]) (B6 l G m log op lg D s) ?_ rfl ?_ ?_ ?_
   ·rfl
   ·(repeat(first|exact trivial|refine⟨⟨rfl,rfl⟩,?_⟩))
   ·(repeat(first|exact trivial|refine⟨rfl,?_⟩))
   exact⟨by subst I;rfl,rfl⟩
  ·refine go ?_;generalize F:decide (a.cell=op.obj)=cc;cases cc
   ·rw[if_neg (λ h=>of_decide_eq_false F h.2.2)] at I;refine go ?_;refine gW 5 [5,6] ?_;refine go ?_;refine iB (d:=.bd [fC a,kj o,dB false]) (B6 l G m log op lg D s) ?_ rfl ?_ ?_ ?_
    ·rfl
    ·(repeat(first|exact trivial|refine⟨⟨rfl,rfl⟩,?_⟩))
    ·(repeat(first|exact trivial|refine⟨rfl,?_⟩))
    exact⟨by subst I;rfl,rfl⟩
   ·rw[if_pos ⟨rfl,of_decide_eq_true A,of_decide_eq_true F⟩] at I;refine go ?_;refine gW 5 [5,6] ?_;refine go ?_;refine iB (d:=.bd [.agg [E a.kind,E D,E a.dg,E a.new],kj o,dB false]) (B6 l G m log op lg D s) ?_ rfl ?_ ?_ ?_
    ·rfl
    ·(repeat(first|exact trivial|refine⟨⟨rfl,rfl⟩,?_⟩))
    ·(repeat(first|exact trivial|refine⟨rfl,?_⟩))
    exact⟨by subst I;rfl,rfl⟩
 ·rw[if_neg (by simp)] at I;refine go ?_;refine gW 5 [5,6] ?_;refine go ?_;refine iB (d:=.bd [fC a,kj o,dB true]) (B6 l G m log op lg D s) ?_ rfl ?_ ?_ ?_
  ·rfl
  ·(repeat(first|exact trivial|refine⟨⟨rfl,rfl⟩,?_⟩))
  ·(repeat(first|exact trivial|refine⟨rfl,?_⟩))
  exact⟨by subst I;rfl,rfl⟩
abbrev Uk(k1:Nat)(dn:Bool):List (Nat×K):=[(18,dB dn),(22,E k1),(5,.ptr 41 0),(10,.ptr 47 0),(11,.ptr 48 0),(15,.fn (.func 149) [] [.ptr 41 0,.ptr 42 0,.ptr 43 0,.ptr 44 0]),(17,.ptr 50 0),(19,.ptr 51 0)]
abbrev Uj(l:ah)(G m:Int)(log:List aF)(op:bl)(lg:List aF)(D:Int)(s:af)(a2:aX)(ov:Int)(v7:Bool)(oe H2:Int)(og:List (Int×Int)):bJ:=[(40,sf l G m log s),(41,[.ptr 40 0]),(42,[E op.kind,E op.obj,E op.a,E op.b]),(43,[gT lg]),(44,[E D]),(47,[E 0,dB false,E 0,E 0,.p (.sl true 0 [])]),(48,[E 0,E 0,E 0,E 0]),(50,[E ov,dB v7,E oe,E H2,eh og]),(51,[E a2.kind,E a2.cell,E a2.dg,E a2.new])]
def LM(l:ah)(G:Int)(op:bl)(D:Int)(lg:List aF)(s:af):Except aX ((aY×aX)×af):=
 if(kZ l G s.gone op D lg).2.2=false then .error (kZ l G s.gone op D lg).1
 else if(kZ l G s.gone op D lg).2.1.c6<0 then .ok (((kZ l G s.gone op D lg).2.1,eZ),s)
 else .ok (({(kZ l G s.gone op D lg).2.1 with c6:=(kZ l G s.gone op D lg).2.1.c6+s.made},(kZ l G s.gone op D (lg.take (kZ l G s.gone op D lg).2.1.c6.toNat)).1),{s with made:=s.made+qG (λ k=>(kZ l G s.gone op D (lg.take k)).2.2) (lg.length-((kZ l G s.gone op D lg).2.1.c6.toNat+1)) ((kZ l G s.gone op D lg).2.1.c6.toNat+1),gone:=(kZ l G s.gone op D lg).2.1.gone})
theorem abs(l:ah)(G kind e8 eF v:Int)(log:List aF)(s:af):rY l G kind e8 eF v log s=LM l G ⟨kind,if aN l e8 0<0 then l.done else aN l e8 0,eF,v⟩ (aN l e8 0) (log.drop s.made) s:=by unfold rY LM;simp only[WC];rfl
theorem WB{l:ah}{G:Int}{gone:List (Int×Int)}{op:bl}{D:Int}{lg:List aF}:(kZ l G gone op D lg).2=(dJ l G gone op lg).2:=by unfold kZ;split<;>rfl
set_option maxHeartbeats 16000000 in
theorem Um(l:ah)(hL:cr l)(hS:0<=l.ar)(hM:kJ l)(G m:Int)(log:List aF)(s:af)(kind e8 eF v:Int)(h0:m6 log s)(YV:e8<9223372036854775808):
 CZ 121 [40] (xL l G m log) log s [.ptr 40 0,E kind,E e8,E eF,E v] (rY l G kind e8 eF v log s) (λ o=>.bd [kj o.1,fC o.2]):=by
 have hG:∀o aa,rY l G kind e8 eF v log s=.ok (o,aa)->ik log s aa:=λ o aa e=>by
  have A:=(LN hS h0.le e).1;exact⟨A.made,A.le h0.le,A.ok h0.gone,A.len⟩
 generalize I:rY l G kind e8 eF v log s=aQ at hG;rw[abs] at I;have ZJ:(log.drop s.made).length+s.made=log.length:=by rw[List.length_drop];have:=h0.le;omega
 have jD:=λ(h:(s.made:Int).toNat=s.made)=>abA (l:=log) (a:=(s.made:Int)) (b:=s.made) h h0.le
 have jD:=jD (by simp);have bH:=Mm (log.drop s.made);generalize log.drop s.made=lg at I ZJ jD bH;have BH:=h0.log;have cD:=h0.len;have hnd:=kD l hL e8 0 YV (by omega);generalize aN l e8 0=D at I hnd;obtain⟨mL,xj⟩:=hM.d;refine sX func121 ntmps121 λ w cl own kf=>?_
 refine gE ?_;refine bA 41 ?_;refine nA 47 ?_;refine nA 48 ?_;refine kM ?_;refine gE ?_
 repeat refine z2 ?_
 refine cA hnd ?_;refine nA 44 ?_;refine z5 ?_;refine kM ?_;refine gE ?_
 repeat refine z2 ?_
 refine z6 ?_;refine nA 42 ?_;refine z5 ?_;refine kM ?_;refine zM ?_;refine FR ⟨[(5,.ptr 41 0),(10,.ptr 47 0),(11,.ptr 48 0),(12,.ptr 44 0),(13,.ptr 42 0)],[(40,sf l G m log s),(41,[.ptr 40 0]),(42,[E kind,E (if D<0 then l.done else D),E eF,E v]),(44,[E D]),(47,[E 0,dB false,E 0,E 0,.p (.sl true 0 [])]),(48,[E 0,E 0,E 0,E 0])],[]⟩ ?_ ?_
 ·refine go ?_;generalize A:decide (D<0)=cc;cases cc
  ·rw[if_neg (of_decide_eq_false A)];refine go ?_;exact⟨rfl,zX⟩
  ·rw[if_pos (of_decide_eq_true A)];refine go ?_;exact⟨rfl,zX⟩
 generalize(if D<0 then l.done else D)=ob at I⊢;have hC:=λ(k:Nat)(J:k<=lg.length)=>abq l hL G m log ⟨kind,ob,eF,v⟩ lg D s k h0.gone (by omega) J
 refine go ?_;refine gW 10 [] ?_;refine cV (Ul aD lg.length (g8 lg) rfl rfl rfl rfl rfl rfl rfl (by omega) (by omega) (by omega) (by omega) bH jD) rfl rfl ?_;refine sj (wH aD 43 rfl rfl rfl rfl) rfl rfl rfl rfl ?_;refine br ?_;refine z5 ?_;refine kM ?_;refine gE ?_;refine z2 ?_;refine z2 ?_;refine kM ?_;refine gE ?_
 repeat refine z2 ?_
 have yK:=hC lg.length (Nat.le_refl _);rw[List.take_length] at yK;unfold LM at I;generalize jh:kZ l G s.gone ⟨kind,ob,eF,v⟩ D lg=r1 at I yK;obtain⟨a1,⟨ov,v7,oe,op,og⟩,Pd⟩:=r1;simp only at I
 change eI _ _ _ _ _ (λ d Y=>d=.bd [fC a1,.agg [E ov,dB v7,E oe,E op,eh og],dB Pd]/\_) at yK
 refine vI yK ?_;rintro d Y ⟨rfl,rfl⟩
 repeat refine z2 ?_
 refine nA 49 ?_;refine nA 50 ?_;refine go ?_;cases Pd
 ·rw[if_pos rfl] at I;refine go ?_;refine bh (ED aD rfl rfl rfl rfl rfl) rfl rfl rfl ?_;refine C7 rfl rfl rfl ?_;refine gP ?_;exact fP _ ⟨a1,s,I.symm,rfl,rfl⟩
 rw[if_neg (by simp)] at I;refine go ?_;generalize F:decide (op<0)=cc;cases cc
 rotate_left
 ·rw[if_pos (of_decide_eq_true F)] at I;refine go ?_;exact fX _ ⟨_,s,I.symm,hG _ _ I.symm,rfl,rfl⟩
 ·have bB:=of_decide_eq_false F;rw[if_neg bB] at I;have e2:=congrArg Prod.snd jh;rw[WB] at e2;simp only at e2;obtain⟨pt,rfl⟩:=Int.eq_ofNat_of_zero_le (show 0<=op by omega);have qc:(pt:Int)<lg.length:=by
   have:=(SE hS (G:=G) (gone:=s.gone) (op:=⟨kind,ob,eF,v⟩) (log:=lg) (by rw[e2]) (by rw[e2];exact Int.natCast_nonneg _)).1;rw[e2] at this;exact this
  simp only[Int.toNat_natCast] at I;have Bo:=hC pt (by omega);generalize hf:(λ k=>(kZ l G s.gone ⟨kind,ob,eF,v⟩ D (lg.take k)).2.2)=f at I;have Qo:∀k,(kZ l G s.gone ⟨kind,ob,eF,v⟩ D (lg.take k)).2.2=f k:=λ k=>by rw[<-hf]
  have Y0:f lg.length=true:=by rw[<-Qo,List.take_length,jh]
  generalize kZ l G s.gone ⟨kind,ob,eF,v⟩ D (lg.take pt)=r2 at I Bo;obtain⟨a2,o2,Xf⟩:=r2;simp only at I
  change eI _ _ _ _ _ (λ d Y=>d=.bd [fC a2,.agg [E o2.val,dB o2.is,E o2.err,E o2.c6,eh o2.gone],dB Xf]/\_) at Bo
  generalize hK:qG f (lg.length-(pt+1)) (pt+1)=aG at I;refine go ?_;refine vI Bo ?_;rintro d Y ⟨rfl,rfl⟩
  repeat refine z2 ?_
  refine nA 51 ?_;refine nA 52 ?_;refine go ?_;refine cn (λ p:Nat×Bool=>p.1<=lg.length-pt/\(p.2=false->p.1+pt+1<=lg.length/\qG f (lg.length-(pt+1)-p.1) (pt+1+p.1)=aG)/\(p.2=true->aG=pt+p.1)) (λ p=>⟨Uk (pt+1+p.1) p.2,Uj l G m log ⟨kind,ob,eF,v⟩ lg D s a2 ov v7 oe pt og,[]⟩) (λ p=>lg.length+1-p.1) (0,false) ⟨by simp,λ _=>⟨by simp only;omega,hK⟩,λ h=>by cases h⟩ (zX) ?_;rintro⟨j,dn⟩ ⟨hj,hF,hT⟩;simp only at hj hF hT;refine(show aP _ _ _ _ ⟨Uk (pt+1+j) dn,Uj l G m log ⟨kind,ob,eF,v⟩ lg D s a2 ov v7 oe pt og,[]⟩ from ?_);refine go ?_;cases dn
  ·obtain⟨Br,Bs⟩:=hF rfl;have Bp:=hC (pt+1+j) (by omega);have xl:=Qo (pt+1+j);generalize kZ l G s.gone ⟨kind,ob,eF,v⟩ D (lg.take (pt+1+j))=r3 at Bp xl;obtain⟨a3,o3,Pe⟩:=r3;simp only at xl
   change eI _ _ _ _ _ (λ d Y=>d=.bd [fC a3,.agg [E o3.val,dB o3.is,E o3.err,E o3.c6,eh o3.gone],dB Pe]/\_) at Bp
   refine go ?_;refine vI Bp ?_;rintro d Y ⟨rfl,rfl⟩;refine go ?_;refine⟨(j+1,Pe),⟨by simp only;omega,λ h=>?_,λ h=>?_⟩,by simp only;omega,zX⟩
   ·simp only at h⊢;subst h;have b9:pt+1+j≠lg.length:=λ e=>by rw[e,Y0] at xl;cases xl
    refine⟨by omega,?_⟩;rw[show lg.length-(pt+1)-j=(lg.length-(pt+1)-(j+1))+1 by omega,qG,<-xl,if_neg (by simp)] at Bs;exact Bs
   ·simp only at h⊢;subst h;rw[<-Bs];cases hn:lg.length-(pt+1)-j with
    |zero=>rw[qG];omega
    |succ n=>rw[qG,<-xl,if_pos rfl];omega
  ·have sR:=hT rfl;subst sR;refine go ?_;refine gW 6 [] ?_;refine go ?_;rw[show((s.made:Int)+(((pt+1+j:Nat):Int)-1))=((s.made+(pt+j):Nat):Int) by omega];refine gW 3 [47] ?_;refine go ?_;exact fX _ ⟨_,_,I.symm,hG _ _ I.symm,rfl,rfl⟩
section
variable{P:Program}{ap:Nat->Option TI}{Γ:bN}{l:List Oper}{Q:Exit->St->Prop}{fuel:Nat}{aJ qi:Array Bool}{M cb:St}{o:Oper}{i:Nat}
structure iQ(P:Program)(Γ:bN)(l:List Oper)(Q:Exit->St->Prop)(fuel:Nat)(aJ:Array Bool)(M:St):Prop where
 run:∀(a:Act)(e:aC),bu Γ M e a->wpAny P .any l.toArray (jM Γ Q) fuel aJ a e.w
theorem Jj{id:Nat}(hm:P.follows .mixedOrders=true)(h:iQ P Γ l Q l.length (Array.replicate l.length false) M):aP P Γ (.region id l.toArray true) Q M:=⟨λ a e L=>by
 have hg:kI e {e with w:=e.w.drew}:=⟨(Below.refl _ _).drew,λ _ _=>rfl,rfl,rfl,rfl⟩;have A:=h.run a _ (L.grow hg);exact wp_region_any hm (by simpa using A)⟩
def pE(P:Program)(Γ:bN)(l:List Oper)(Q:Exit->St->Prop)(fuel:Nat)(aJ:Array Bool):Exit->St->Prop:=λ ex M=>match ex with
 |.normal=>iQ P Γ l Q fuel aJ M
 |ex=>Q ex M
theorem acm(h:iQ P Γ l Q fuel aJ M):pE P Γ l Q fuel aJ .normal M:=h
theorem FP(ho:l[i]?=some o)(U:aJ.setIfInBounds i true=qi)(h:bq P Γ l (pE P Γ l Q fuel qi) [o] M){a:Act}{e:aC}(L:bu Γ M e a):wpOp P l.toArray (jM Γ Q) i (wpAny P .any l.toArray (jM Γ Q) fuel (aJ.setIfInBounds i true)) a e.w:=by
 rw[U];have A:=h.run a e L;have hl:l.toArray[i]?=some o:=by simpa using ho
 have F:wpOp P l.toArray (jM Γ (pE P Γ l Q fuel qi)) i (wpList P l.toArray (jM Γ (pE P Γ l Q fuel qi)) []) a e.w:=by unfold wpOp;simp only[hl];exact A
 have O:=NQ (js:=jM Γ Q) (λ ex a w b9 hp=>by
  obtain⟨bb,ab,h4,h5,h6⟩:=hp;refine⟨bb,ab,h4,h5,?_⟩;unfold pE at h6;split at h6
  ·exact absurd rfl b9
  ·exact h6) F
 refine wpOp_mono (λ bs aM hh=>?_) O;obtain⟨bb,ab,rfl,dR,hA⟩:=hh;exact iQ.run hA bs ab dR
theorem VH(hr:Region.ready .any l.toArray aJ=[i])(ho:l[i]?=some o)(U:aJ.setIfInBounds i true=qi)(h:bq P Γ l (pE P Γ l Q fuel qi) [o] M):iQ P Γ l Q (fuel+1) aJ M:=⟨λ a e L=>wpAny_all hr (by simp) λ j hj=>by
 obtain rfl:j=i:=by simpa using hj
 exact FP ho U h L⟩
theorem VJ{j:Nat}{oj:Oper}{Se:Array Bool}(hr:Region.ready .any l.toArray aJ=[i,j])(ho:l[i]?=some o)(iY:l[j]?=some oj)(U:aJ.setIfInBounds i true=qi)(dX:aJ.setIfInBounds j true=Se)(h:bq P Γ l (pE P Γ l Q fuel qi) [o] M)(F:bq P Γ l (pE P Γ l Q fuel Se) [oj] M):iQ P Γ l Q (fuel+1) aJ M:=⟨λ a e L=>wpAny_all hr (by simp) λ k J=>by
 rcases List.mem_cons.1 J with rfl|J
 ·exact FP ho U h L
 ·obtain rfl:k=j:=by simpa using J
  exact FP iY dX F L⟩
theorem VG(hr:Region.ready .any l.toArray aJ=[])(h:Q .normal M):iQ P Γ l Q fuel aJ M:=⟨λ _ e L=>wpAny_done hr ⟨M,e,rfl,L,h⟩ fuel⟩
def AW(P:Program)(Γ:bN)(l:List Oper)(o:Oper)(M:St)(d:K):Prop:=∀(a:Act)(e:aC),bu Γ M e a->∃v,Yields P l.toArray o v a/\bz e v d
theorem VI{t:Nat}{d:K}(hs:Region.noSelect l.toArray=true)(hf:Region.free .any l.toArray aJ i=true)(hr:(Region.ready .any l.toArray aJ).contains i=true)(U:aJ.setIfInBounds i true=qi)(hq:∀c bb,¬Q (.panic c) bb)(ho:l[i]?=some o)(D:o.dst=some t)(bm:Nat.blt t Γ.n=true)(hy:AW P Γ l o M d)(h:iQ P Γ l Q fuel qi ⟨(t,d)::M.s,M.b,M.g⟩):iQ P Γ l Q (fuel+1) aJ M:=⟨λ a e L=>by
 obtain⟨v,hv,px⟩:=hy a e L;refine wpAny_take (by simpa using ho) hs hf hr (λ c a w hp=>?_) hv ?_
 ·obtain⟨bb,_,_,_,h5⟩:=hp;exact absurd h5 (hq c bb)
 ·rw[U,D];have:=L.put (dst:=o.dst) (qD D bm) px;rw[D] at this;exact h.run _ e this⟩
theorem af1{x:Operand}{d:K}(ho:o.op=.move x)(hg:gd l o (kv M.s)=some true)(T:ev (kv M.s) x=some d):AW P Γ l o M d:=λ a e L=>by
 have A:=(L.iP o.op.operands).1 x (by rw[ho];simp[Op.operands]) _ T;refine⟨a.eval x,.inl ⟨mf L hg,λ w=>?_⟩,A⟩;obtain⟨dst,op,type,pos,after,guard⟩:=o;simp only at ho;subst ho
 rfl
theorem af2{x:Operand}{b of:Nat}(ho:o.op=.nilCheck x)(hg:gd l o (kv M.s)=some true)(T:ev (kv M.s) x=some (.ptr b of)):AW P Γ l o M (.ptr b of):=λ a e L=>by
 have A:=(L.iP o.op.operands).1 x (by rw[ho];simp[Op.operands]) _ T;refine⟨a.eval x,.inl ⟨mf L hg,λ w=>?_⟩,A⟩;generalize dG:a.eval x=v at A;cases A with
 |ptr Z=>
  obtain⟨dst,op,type,pos,after,guard⟩:=o;simp only at ho;subst ho;simp only[execOp,dG]
  rfl
theorem af0(hT:di P ap){ty:TypeId}{x:Operand}{f b of ft dE sz z1 z2:Nat}{z3:Value}{fs:List (TypeId×Nat×Nat)}(ho:o.op=.fieldAddr ty x f)(ht:ap ty=some ⟨.struct fs,z1,z2,z3⟩)(hf:fs[f]?=some (ft,dE,sz+1))(hg:gd l o (kv M.s)=some true)(T:ev (kv M.s) x=some (.ptr b of)):AW P Γ l o M (.ptr b (of+dE)):=λ a e L=>by
 have A:=(L.iP o.op.operands).1 x (by rw[ho];simp[Op.operands]) _ T;generalize dG:a.eval x=v at A;cases A with
 |ptr Z=>refine⟨_,.inl ⟨mf L hg,λ w=>?_⟩,.ptr Z⟩;obtain⟨dst,op,type,pos,after,guard⟩:=o;simp only at ho;subst ho;simp[execOp,dG,JK hT ht hf]
end
theorem O6{B:Nat->Bool}:∀{cs:List K},fy cs->wS B cs=cs
 |[],_=>rfl
 |d::cs,h=>by
  have A:∀B au,K.ok B au d=true/\K.ok.eR B au cs=true:=λ B au=>by
   have:=h B au
   simpa only[K.ok.eR,Bool.and_eq_true] using this
  show tn B d::wS B cs=_;rw[O6 λ B au=>(A B au).2,tn,(A B λ _=>true).1]
  rfl
theorem Gf{B H:Nat->Bool}{s aa:List (Nat×K)}{b bf:List (Nat×List K)}(hs:lS B s some=some aa)(Z:iL H B b=bf):lS B s (λ aa=>me H B b (λ bf=>some (aa,bf)))=some (aa,bf):=by rw[u9] at hs⊢;cases hs;rw[u7,Z]
theorem yw{B H:Nat->Bool}{u:Nat}{c cg:List K}{l iM:List (Nat×List K)}(A:H u=false)(F:Bb B c some=some cg)(O:iL H B l=iM):iL H B ((u,c)::l)=(u,cg)::iM:=by
 rw[Jz] at F;cases F;rw[iL,A,O]
 rfl
theorem tR{B H:Nat->Bool}{u:Nat}{c:List K}{l iM:List (Nat×List K)}(A:H u=false)(F:fy c)(O:iL H B l=iM):iL H B ((u,c)::l)=(u,c)::iM:=by
 rw[iL,A,O,O6 F]
 rfl
theorem Gd{B H:Nat->Bool}{u:Nat}{c:List K}{l iM:List (Nat×List K)}(A:H u=true)(O:iL H B l=iM):iL H B ((u,c)::l)=iM:=by
 rw[iL,A,O]
 rfl
section
variable{P:Program}{ap:Nat->Option TI}{Γ:bN}{l:List Oper}{Q js:Exit->St->Prop}{fuel:Nat}{aJ qi:Array Bool}{M:St}{o:Oper}{i:Nat}
theorem NO{ops:Array Oper}{Q js:Exit->Act->World->Prop}(hn:∀a w,Q .normal a w->js .normal a w)(hq:∀ex a w,ex≠.normal->Q ex a w->js ex a w):∀(fuel:Nat)(aJ:Array Bool)(a:Act)(w:World),wpAny P .any ops Q fuel aJ a w->wpAny P .any ops js fuel aJ a w
 |0,_,a,w,h=>⟨h.1,hn a w h.2⟩
 |fuel+1,_,a,w,h=>⟨λ hr=>hn a w (h.1 hr),λ i hi=>wpOp_mono (λ bs aM hh=>NO hn hq fuel _ bs aM hh) (NQ hq (h.2 i hi))⟩
theorem FO(h:iQ P Γ l (λ ex M=>ex=.normal/\Q .normal M) fuel aJ M):iQ P Γ l Q fuel aJ M:=⟨λ a e L=>NO (λ _ _ hh=>by obtain⟨bb,ab,A,F,_,h4⟩:=hh;exact⟨bb,ab,A,F,h4⟩) (λ ex _ _ b9 hh=>by obtain⟨bb,ab,_,_,O,_⟩:=hh;exact absurd O b9) _ _ _ _ (h.run a e L)⟩
theorem afZ{x:Operand}{k:Nat}{ds:List K}{d:K}(ho:o.op=.extract x k)(hg:gd l o (kv M.s)=some true)(T:ev (kv M.s) x=some (.bd ds))(D:ds[k]?=some d):AW P Γ l o M d:=λ a e L=>by
 have A:=(L.iP o.op.operands).1 x (by rw[ho];simp[Op.operands]) _ T;generalize dG:a.eval x=v at A;cases A with
 |bd U hh=>
  rename_i vs;have J:k<vs.length:=by rw[U];exact(List.getElem?_eq_some_iff.1 D).1
  refine⟨vs[k],.inl ⟨mf L hg,λ w=>?_⟩,hh k _ d (List.getElem?_eq_getElem J) D⟩;obtain⟨dst,op,type,pos,after,guard⟩:=o;simp only at ho;subst ho;simp[execOp,dG,Instr.extract,J]
def Jf(ops:Array Oper)(c j:Nat):Bool:=(List.range c).all (λ i=>j3 ops ops.size c i&&match ops[i]? with|some o=>o.dst.isSome|none=>true)&&(List.range ops.size).all (λ i=>decide (i<=c)||i==j||j3 ops ops.size i c)
theorem aff{ak:Nat->Option (Nat×Gr)}{c i:Nat}{p:Nat×Gr}(h:∀g,eH ak (λ _=>none) c g=none)(hi:i<c)(hp:ak i=some p):False:=by
 rcases Fu (ak:=ak) (au:=λ _=>none) (h:=p.1) c with⟨_,F⟩|⟨j,Gj,_,_,O,_⟩
 ·exact F i p hi hp rfl
 ·rw[h] at O;cases O
theorem Wv(c j nm:Nat){id tj:Nat}{l1:List Oper}{oc oj:Oper}{cells:List K}{B:List (Nat×List K)}{LA LB:Array Bool}{na nb:Nat}(hs:mD c l some=some l1)(hv:oZ [] M.b some=some B)(hm:P.follows .mixedOrders=true)(hB:ra l.toArray Γ.n=true)(hA:Jf l.toArray c j=true)(y8:l[c]?=some oc)(GR:Nat.blt c j=true)(iY:l[j]?=some oj)(KF:oj.guard=none)(rN:oj.dst=some tj)(K9:∀(S:Nat->Option K)(o4:Nat->Option (List K)),dN P oj S o4 (.ptr nm 0) (some (nm,cells)))
 (Yk:((List.range l.length).map λ i=>decide (i<c)).toArray=LA)(Yl:((List.range l.length).map λ i=>decide (i<c)||i==j).toArray=LB)(En:mZ LA=na)(eo:mZ LB=nb)(hg:M.g=[])
 (h:cJ P Γ.n l B B (λ bb=>bb.g=[]/\kv bb.b nm=none/\kv B nm=none/\iQ P Γ l Q na LA bb/\iQ P Γ l Q nb LB ⟨(tj,.ptr nm 0)::bb.s,(nm,cells)::bb.b,bb.g⟩) 0 [] [] l1 M):aP P Γ (.region id l.toArray true) Q M:=by
 obtain⟨oN,hs⟩:=sq hs;cases hs;have GR:c<j:=by simpa using GR
 obtain⟨o4,O,_,_,oJ⟩:=AK _ _ _ _ hv;cases O;have ci:l.toArray.size=l.length:=by simp
 have np:j<l.length:=(List.getElem?_eq_some_iff.1 iY).1;have jU:(l.take c).length=c:=by rw[List.length_take];omega
 have g1:∀i,i<c->l[i]?=(l.take c)[i]?:=λ i hi=>by rw[List.getElem?_take_of_lt hi]
 have aT:=If hB;obtain⟨F1,N1,U1,M1,ow,⟨jT,ny,ZX,Yd,sO⟩,Dp,yB,tT,LU⟩:=cJ.extract (l.take c) 0 [] [] M h;rw[jU] at Dp yB tT;have EP:∀i o,i<c->l[i]?=some o->tJ P l i (kv B) (kv B) (ed (l.take c) F1 (kv M.s) i) (dM N1 (kv M.b) i) (eH M1 (kv M.g) i) (fR U1 N1 [] i) (fW (l.take c) M1 [] i) o (F1 i) (N1 i) (U1 i) (M1 i):=λ i o hi ho=>by
  have:=LU i o (by rw[<-g1 i hi];exact ho);rw[Nat.zero_add] at this;exact this
 simp only[Jf,Bool.and_eq_true] at hA;have J3:∀i,i<c->j3 l.toArray l.toArray.size c i=true/\∀o,l[i]?=some o->o.dst.isSome=true:=λ i hi=>by
  have h5:=List.all_eq_true.1 hA.1 i (List.mem_range.2 hi);simp only[Bool.and_eq_true] at h5;exact⟨h5.1,λ o ho=>by have h6:=h5.2;rw[show l.toArray[i]?=some o by simpa using ho] at h6;exact h6⟩
 have PV:∀i,i<l.length->c<i->i≠j->j3 l.toArray l.toArray.size i c=true:=λ i hi yV kq=>by
  have h5:=List.all_eq_true.1 hA.2 i (List.mem_range.2 (by rw[ci];exact hi));simp only[Bool.or_eq_true,decide_eq_true_eq,beq_iff_eq] at h5;rcases h5 with(h5|h5)|h5
  ·omega
  ·exact absurd h5 kq
  ·exact h5
 have rL:∀i,i<c->M1 i=none:=λ i hi=>by
  cases hp:M1 i with
  |none=>rfl
  |some p=>
   refine(aff (ak:=M1) (c:=c) (λ g=>?_) hi hp).elim;have:kv ow.g g=eH M1 (kv M.g) c g:=by rw[Dp]
   rw[jT,hg] at this;exact this.symm
 have ub:∀i,i<c->U1 i=false:=λ i hi=>by
  have dT:i<l.length:=by omega
  have ho:=List.getElem?_eq_getElem dT;rcases EP i _ hi ho with⟨_,_,_,h5,_⟩|⟨_,_,_,h5,_⟩|⟨_,_,_,_,D,_⟩|⟨_,_,_,_,_,_,_,_,_,h5,_⟩
  ·exact h5
  ·exact h5
  ·have:=(J3 i hi).2 _ ho;rw[D] at this;cases this
  ·exact h5
 let aA:Nat->K:=λ i=>if i<c then F1 i else if i=j then .ptr nm 0 else .any
 let N:Nat->Option (Nat×List K):=λ i=>if i<c then N1 i else if i=j then some (nm,cells) else none
 have CR:∀i,i<c->aA i=F1 i:=λ i hi=>if_pos hi
 have yj:∀i,i<c->N i=N1 i:=λ i hi=>if_pos hi
 have Fj:aA j=.ptr nm 0:=by simp only[aA];rw[if_neg (by omega)];simp
 have Nj:N j=some (nm,cells):=by simp only[N];rw[if_neg (by omega)];simp
 have Nn:∀i,c<=i->i≠j->N i=none:=λ i hi kq=>by simp only[N];rw[if_neg (by omega),if_neg kq]
 have yC:∀i,i<=c->ed l aA (kv M.s) i=ed (l.take c) F1 (kv M.s) i:=λ i hi=>Ns i λ k J=>⟨g1 k (by omega),CR k (by omega)⟩
 have Dr:∀i,i<=c->dM N (kv M.b) i=dM N1 (kv M.b) i:=λ i hi=>CI i λ k J=>yj k (by omega)
 have eG:∀(ak:Nat->Option (Nat×Gr)) i,(∀k,k<i->ak k=none)->eH ak (kv M.g) i=kv M.g:=λ ak i hM=>by
  induction i with
  |zero=>rfl
  |succ i ih=>
   rw[eH,hM i (Nat.lt_succ_self i),ih λ k J=>hM k (by omega)]
   rfl
 have eL:∀(iM:List Oper)(ak:Nat->Option (Nat×Gr)) i,(∀k,k<i->ak k=none)->fW iM ak [] i=[]:=λ iM ak i hM=>by
  induction i with
  |zero=>rfl
  |succ i ih=>
   rw[fW,hM i (Nat.lt_succ_self i),ih λ k J=>hM k (by omega)]
   rfl
 have eD:∀(bP:Nat->Bool)(kY:Nat->Option (Nat×List K)) i,(∀k,k<i->bP k=false)->fR bP kY [] i=[]:=λ bP kY i hU=>Nl i hU
 have J7:∀i,i<=j->dM N (kv M.b) i nm=none:=λ i hi=>by
  have xg:dM N1 (kv M.b) c nm=none:=by rw[<-tT];exact ny
  obtain⟨q1,q2⟩:=rp c xg;refine Ip i q1 λ k p J hp=>?_
  by_cases QQ:k<c
  ·rw[yj k QQ] at hp;exact q2 k p QQ hp
  ·rw[Nn k (by omega) (by omega)] at hp;cases hp
 let uC:Nat->Bool:=λ i=>decide (i<c)||i==j
 have HY:∀i,uC i=true->i<c\/i=j:=λ i hi=>by
  simp only[uC,Bool.or_eq_true,decide_eq_true_eq,beq_iff_eq] at hi;exact hi
 refine⟨λ a e L=>?_⟩;have pm:∀i,i<l.length->∃o,l[i]?=some o:=λ i hi=>⟨l[i],List.getElem?_eq_getElem hi⟩
 have:=CJ (P:=P) (Γ:=Γ) (M:=M) (ops:=l.toArray) (H:=l.toArray.size) (λ _=>false) (λ i=>i==c) uC aT (Jl l.toArray).1 (Nat.le_refl _) (aA:=aA) (N:=N) (bP:=λ _=>false) (ak:=λ _=>none) (B:=B) (a0:=a) (Q:=jM Γ Q)
  (λ i hi=>Nn i (by omega) (by omega)) (λ _ _=>rfl)
  (λ i hi=>by rcases hi with hi|hi;·cases hi
              ·rw[show i=c by simpa using hi];exact Nn c (Nat.le_refl _) (by omega))
  (λ _ _=>rfl)
  (λ i o ho=>by
   have hi:i<l.length:=by have:=(Array.getElem?_eq_some_iff.1 ho).1;omega
   by_cases y2:i=c
   ·exact .inr (.inl (by simp[y2]))
   ·by_cases kq:i=j
    ·exact .inl (by simp[uC,kq])
    ·rcases Nat.lt_or_ge i c with h5|h5
     ·exact .inl (by simp[uC,h5])
     ·exact .inr (.inr ⟨c,by simp,PV i hi (by omega) kq⟩))
  (.inl λ _ _=>⟨rfl,rfl⟩) (λ b cs=>oJ.get)
  (λ i o hi ho _ _ y9=>by
   have hl:l[i]?=some o:=by simpa using ho
   rw[eG _ i (λ _ _=>rfl),eL _ _ i (λ _ _=>rfl),eD _ _ i (λ _ _=>rfl)];show tJ P l i (kv B) (kv M.b) (ed l aA (kv M.s) i) (dM N (kv M.b) i) (kv M.g) [] [] o (aA i) (N i) false none;rcases HY i y9 with h5|rfl
   ·have db:=EP i o h5 hl;rw[eG _ i (λ k J=>rL k (by omega)),eL _ _ i (λ k J=>rL k (by omega)),eD _ _ i (λ k J=>ub k (by omega)),ub i h5,rL i h5,<-yC i (by omega),<-Dr i (by omega),<-CR i h5,<-yj i h5] at db;rcases db with⟨a1,a2,a3,a4,a5⟩|db|⟨_,_,_,_,D,_⟩|⟨_,_,_,_,_,_,_,_,_,_,hh⟩
    ·exact .inl ⟨a1,.inl (by rcases a2 with a2|⟨_,a2⟩<;>exact a2),a3,a4,a5⟩
    ·exact .inr (.inl db)
    ·have:=(J3 i h5).2 o hl;rw[D] at this;cases this
    ·cases hh
   ·rw[iY] at hl;cases hl;rw[Fj,Nj];refine .inl ⟨?_,.inl (K9 _ _),λ p hp=>?_,rfl,rfl⟩
    ·unfold gd;rw[KF]
    ·cases hp;exact⟨J7 i (Nat.le_refl _),ZX⟩)
  (λ aJ b ab hv q2 q3 q4=>by
   have A:=q2 c (by omega);rw[q4 c (by simp)] at A;cases A)
  (λ fuel aJ bs ab i hi sW hr cB gV _=>by
   obtain rfl:i=c:=by simpa using hi
   have ho:l.toArray[i]?=some oc:=by simpa using y8
   obtain⟨kx,o',hl,ni⟩:=mem_ready.1 hr;rw[ho] at hl;cases hl;obtain⟨kR,dT⟩:=ng kx;have xx:∀k,k<i->aJ.getD k false=true:=λ k J=>Av cB.closed _ _ _ oc ho ni (J3 k J).1
   have tc:∀k,i<=k->k≠j->aJ.getD k false=false:=λ k J kr=>by
    cases U:aJ.getD k false with
    |false=>rfl
    |true=>
     by_cases mO:k=i
     ·rw[mO,kR] at U;cases U
     ·have QS:k<l.length:=by
       rcases Nat.lt_or_ge k l.length with h5|h5
       ·exact h5
       ·have:aJ[k]?=none:=Array.getElem?_eq_none (by rw[cB.l8,ci];exact h5);simp[this] at U
      obtain⟨r8,za⟩:=pm k QS;have Q9:l.toArray[k]?=some r8:=by simpa using za
      have:=Av cB.closed _ _ _ r8 Q9 (λ x T Z=>cB.closed k r8 Q9 U x T Z) (PV k QS (by omega) kr);rw[kR] at this;cases this
   have QX:aJ.size=l.length:=by rw[cB.l8,ci]
   have Rc:∀{aE:Array Bool}{n:Nat}{bb:St},aJ=aE->n=fuel+1->bu Γ bb ab bs->iQ P Γ l Q n aE bb->wpOp P l.toArray (jM Γ Q) i (wpAny P .any l.toArray (jM Γ Q) fuel (aJ.setIfInBounds i true)) bs ab.w:=λ hL hn GQ Yf=>by
    subst hL;subst hn;exact(Yf.run bs ab GQ).2 i hr
   cases Ee:aJ.getD j false with
   |false=>
    have hL:aJ=LA:=by
     rw[<-Yk];refine Array.ext (by simp[QX]) λ k h5 h6=>?_
     have h7:k<l.length:=by omega
     have h8:aJ.getD k false=aJ[k]:=by simp[h5]
     rw[<-h8];simp only[List.getElem_toArray,List.getElem_map,List.getElem_range];rcases Nat.lt_or_ge k i with h9|h9
     ·rw[xx k h9];simp[h9]
     ·by_cases kr:k=j
      ·rw[kr,Ee];simp;omega
      ·rw[tc k h9 kr];simp;omega
    refine Rc hL (by rw[<-En,<-hL];omega) ?_ Yd;refine cB.pU aT (H:=i) (by rw[yB];exact(yC i (Nat.le_refl _)).symm) (by rw[tT];exact(Dr i (Nat.le_refl _)).symm) (by rw[eG _ i (λ _ _=>rfl),jT,hg]) xx λ t h5 h6=>?_
    have h7:aJ.getD t false=false:=by
     by_cases kr:t=j
     ·rw[kr];exact Ee
     ·exact tc t h5 kr
    have h8:t<aJ.size:=by rw[cB.l8];exact h6
    simp[h8] at h7⊢;exact h7
   |true=>
    have hL:aJ=LB:=by
     rw[<-Yl];refine Array.ext (by simp[QX]) λ k h5 h6=>?_
     have h7:k<l.length:=by omega
     have h8:aJ.getD k false=aJ[k]:=by simp[h5]
     rw[<-h8];simp only[List.getElem_toArray,List.getElem_map,List.getElem_range];rcases Nat.lt_or_ge k i with h9|h9
     ·rw[xx k h9];simp[h9]
     ·by_cases kr:k=j
      ·rw[kr,Ee];simp
      ·rw[tc k h9 kr];simp[kr];omega
    refine Rc hL (by rw[<-eo,<-hL];omega) ?_ sO;have dH:∀k,aJ.getD k false=true->k<i\/k=j:=λ k J=>by
     by_cases kr:k=j
     ·exact .inr kr
     ·rcases Nat.lt_or_ge k i with h5|h5
      ·exact .inl h5
      ·rw[tc k h5 kr] at J;cases J
    have Q8:l.toArray[j]?=some oj:=by simpa using iY
    refine⟨cB.size,cB.df,λ t d ht=>?_,λ b cs Z=>?_,λ b Z=>?_,λ g=>?_,cB.env⟩
    ·simp only[da] at ht;split at ht
     ·rename_i Lj;subst Lj;cases ht;rw[<-Fj];exact cB.vV j oj _ Q8 Ee rN
     ·rename_i Lj;rw[yB,<-yC i (Nat.le_refl _)] at ht
      by_cases Ku:∃(k:Nat)(r8:Oper),k<i/\l.toArray[k]?=some r8/\r8.dst=some t
      ·obtain⟨k,r8,mO,J,D⟩:=Ku;have:=Is (ops:=l.toArray) aT (aA:=aA) (S:=kv M.s) J D i mO;rw[this] at ht;cases ht;exact cB.vV k r8 t J (xx k mO) D
      ·have:=It (ops:=l.toArray) (aA:=aA) (S:=kv M.s) (t:=t) i λ k r8 mO J D=>Ku ⟨k,r8,mO,J,D⟩
       rw[this] at ht;rw[cB.kept t λ k r8 J U D=>?_]
       ·exact cB.bU t d ht
       ·rcases dH k U with h5|rfl
        ·exact Ku ⟨k,r8,h5,J,D⟩
        ·rw[Q8] at J;cases J;rw[rN] at D;cases D;exact Lj rfl
    ·simp only[da] at Z;split at Z
     ·rename_i iC;subst iC;cases Z;refine cB.news j (nm,cells) Ee Nj λ k q J U hq=>?_
      rcases dH k U with h5|h5<;>omega
     ·rename_i iC;rw[tT,<-Dr i (Nat.le_refl _)] at Z;rcases Iq i Z with⟨A,F⟩|⟨k,J,hp,F⟩
      ·refine cB.boxes b cs A λ k p U hp=>?_
       rcases dH k U with h5|rfl
       ·exact F k p h5 hp
       ·rw[Nj] at hp;cases hp;exact λ e=>iC e
      ·refine cB.news k _ (xx k J) hp λ iG q dI U hq=>?_
       rcases dH iG U with h5|rfl
       ·exact F iG q dI h5 hq
       ·rw[Nj] at hq;cases hq;exact λ e=>iC e
    ·simp only[da] at Z;split at Z
     ·cases Z
     ·rename_i iC;rw[tT,<-Dr i (Nat.le_refl _)] at Z;obtain⟨A,F⟩:=rp i Z;refine cB.eE b A λ k p U _ hp=>?_
      rcases dH k U with h5|rfl
      ·exact F k p h5 hp
      ·rw[Nj] at hp;cases hp;exact λ e=>iC e
    ·rw[jT,cB.gs g λ _ _ _ hp=>by cases hp];rw[hg])
  l.toArray.size (Array.replicate l.toArray.size false) a {e with w:=e.w.drew} (IC _).symm
  ?_ (λ t h5 ht=>by omega) (λ i hi=>by cases hi) (λ i hi=>by
   have:i=c:=by simpa using hi
   have ea:c<l.length:=by omega
   simp[this,ea])
 ·exact wp_region_any hm this
 ·have KG:kI e {e with w:=e.w.drew}:=⟨(Below.refl _ _).drew,λ _ _=>rfl,rfl,rfl,rfl⟩;have dR:=L.grow KG;refine⟨by simp,L.size,L.df,λ i o _ U=>?_,λ i o t _ U=>?_,λ t _=>rfl,dR.bU,λ b cs Z _=>dR.boxes b cs Z,λ i p U=>?_,λ b Z _=>dR.eE b Z,λ g _=>dR.gs g,λ i p U=>?_,dR.env⟩
  all_goals(simp[Array.getElem?_replicate] at U;split at U<;>simp at U)
theorem abd(ws:List Nat){l3:List Oper}{m:Nat}{B:List (Nat×List K)}(hv:oZ ws M.b some=some B)(J:zz M.s (l.take m)=true)(h:cJ P Γ.n l B M.b (Q .normal) m [] [] l3 M):HC P Γ l l3 m Q .normal M:=by obtain⟨o4,O,_,_,oJ⟩:=AK _ _ _ _ hv;cases O;exact⟨B,oJ,J,h⟩
end
section
variable{Γ:bN}{l l0:List Oper}{Q:Exit->St->Prop}{fuel:Nat}{aE:Array Bool}{M:St}{o o2:Oper}{t:Nat}{d:K}
theorem tA(i:Nat)(h:iQ prog Γ l Q fuel (aE.setIfInBounds i true) ⟨(t,d)::M.s,M.b,M.g⟩)(hs:Region.noSelect l.toArray=true:=by decide+kernel)(hf:Region.free .any l.toArray aE i=true:=by decide+kernel)(hr:(Region.ready .any l.toArray aE).contains i=true:=by decide+kernel)(hq:∀c bb,¬Q (.panic c) bb:=by intro _ _ h;first|(cases h.1;done)|(rcases h.1 with h|h<;>cases h))(ho:l[i]?=some o:=by exact rfl)(D:o.dst=some t:=by exact rfl)(U:Nat.blt t Γ.n=true:=by exact rfl)(hy:AW prog Γ l o M d:=by first|exact af1 rfl rfl rfl|exact afZ rfl rfl rfl rfl|exact af2 rfl rfl rfl|exact af0 aD rfl rfl rfl rfl rfl):iQ prog Γ l Q (fuel+1) aE M:=VI hs hf hr rfl hq ho D U hy h
theorem oA(i:Nat)(h:bq prog Γ l (pE prog Γ l Q fuel (aE.setIfInBounds i true)) [o] M)(hr:Region.ready .any l.toArray aE=[i]:=by decide+kernel)(ho:l[i]?=some o:=by exact rfl):iQ prog Γ l Q (fuel+1) aE M:=VH hr ho rfl h
theorem oB(i j:Nat)(h:bq prog Γ l (pE prog Γ l Q fuel (aE.setIfInBounds i true)) [o] M)(F:bq prog Γ l (pE prog Γ l Q fuel (aE.setIfInBounds j true)) [o2] M)(hr:Region.ready .any l.toArray aE=[i,j]:=by decide+kernel)(ho:l[i]?=some o:=by exact rfl)(xt:l[j]?=some o2:=by exact rfl):iQ prog Γ l Q (fuel+1) aE M:=VJ hr ho xt rfl rfl h F
theorem dA(h:Q .normal M)(hr:Region.ready .any l.toArray aE=[]:=by decide+kernel):iQ prog Γ l Q fuel aE M:=VG hr h
theorem xR(c j nm na nb:Nat){id tj:Nat}{l1:List Oper}{oc oj:Oper}{cells:List K}{B:List (Nat×List K)}
 (h:cJ prog Γ.n l B B (λ bb=>bb.g=[]/\kv bb.b nm=none/\kv B nm=none/\iQ prog Γ l Q na ((List.range l.length).map λ i=>decide (i<c)).toArray bb/\iQ prog Γ l Q nb ((List.range l.length).map λ i=>decide (i<c)||i==j).toArray ⟨(tj,.ptr nm 0)::bb.s,(nm,cells)::bb.b,bb.g⟩) 0 [] [] l1 M)
 (hs:mD c l some=some l1:=by exact rfl)(hv:oZ [] M.b some=some B:=by exact rfl)(hm:prog.follows .mixedOrders=true:=by exact rfl)(hB:ra l.toArray Γ.n=true:=by kernel_rfl)(hA:Jf l.toArray c j=true:=by kernel_rfl)(y8:l[c]?=some oc:=by exact rfl)(GR:Nat.blt c j=true:=by exact rfl)(iY:l[j]?=some oj:=by exact rfl)(KF:oj.guard=none:=by exact rfl)(rN:oj.dst=some tj:=by exact rfl)(K9:∀(S:Nat->Option K)(o4:Nat->Option (List K)),dN prog oj S o4 (.ptr nm 0) (some (nm,cells)):=by exact λ _ _=>wH aD _ rfl rfl rfl rfl)
 (En:mZ ((List.range l.length).map λ i=>decide (i<c)).toArray=na:=by kernel_rfl)(eo:mZ ((List.range l.length).map λ i=>decide (i<c)||i==j).toArray=nb:=by kernel_rfl)(hg:M.g=[]:=by exact rfl):aP prog Γ (.region id l.toArray true) Q M:=Wv c j nm hs hv hm hB hA y8 GR iY KF rN K9 rfl rfl En eo hg h
theorem nx(h:iQ prog Γ l Q fuel aE M):bq prog Γ l0 (pE prog Γ l Q fuel aE) [] M:=kM (acm h)
end
section
variable{P:Program}{Γ:bN}{Q:Exit->St->Prop}{x y:Code}{M:St}
theorem Jk{p q r am B:Prop}(A:p)(F:q)(O:r)(hB:B)(hA:B->am):p/\q/\r/\am/\B:=⟨A,F,O,hA hB,hB⟩
def O7{d7:Type}(Γ:bN)(ok:d7->Prop)(jK:d7->St)(Q:Exit->St->Prop):Exit->St->Prop
 |.normal,M=>∃p,ok p/\bY Γ M (jK p)
 |ex,M=>Q ex M
theorem FS{d7:Type}(ok:d7->Prop)(jK:d7->St)(A:aP P Γ x (O7 Γ ok jK Q) M)(F:∀p,ok p->aP P Γ y Q (jK p)):aP P Γ x (su (aP P Γ y Q) Q) M:=
 wM A λ ex cb h=>by
  cases ex with
  |normal=>obtain⟨p,hp,hg⟩:=h;exact ey hg (F p hp)
  |_=>exact h
theorem My{d7:Type}{ok:d7->Prop}{jK:d7->St}{c:List PanicEntry}(h:Q (.panic c) M):O7 Γ ok jK Q (.panic c) M:=h
theorem Mz{l:List Oper}{fuel:Nat}{aJ:Array Bool}{c:List PanicEntry}(h:Q (.panic c) M):pE P Γ l Q fuel aJ (.panic c) M:=h
end
abbrev u5(l:ah)(G m:Int)(log:List aF)(s:af):bJ:=[(40,sf l G m log s),(41,[.ptr 40 0]),(46,[.fn (.func 145) [] [.ptr 41 0,.ptr 46 0]])]
structure CP where
 n:Int
 o:aY
 s:af
 ex:Bool
 k:Nat
 ps:List Pl
abbrev W1(p:CP):K:=.bd [E p.n,.agg [E p.o.val,dB p.o.is,E p.o.err,E p.o.c6,.p (.sl p.ex p.k p.ps)]]
structure IJ(log:List aF)(m:Except aX ((Int×aY)×af))(s:af)(p:CP):Prop where
 eq:m=.ok ((p.n,p.o),p.s)
 fi:ik log s p.s
 n0:0<=p.n
 n1:p.n<65536
def FH(bx:af->bJ)(log:List aF)(m:Except aX ((Int×aY)×af))(s:af):K->bJ->Prop:=λ d Y=>∃p:CP,IJ log m s p/\d=W1 p/\Y=bx p.s
theorem ik.AH{log:List aF}{s t u:af}(h:ik log s t)(F:ik log t u):ik log s u:=⟨Nat.le_trans h.made F.made,F.le,F.ok,by have:=h.len;have:=F.len;have:=h.made;have:=F.made;omega⟩
set_option maxHeartbeats 32000000 in
theorem O5(l:ah)(hL:cr l)(hS:0<=l.ar)(hM:kJ l)(G m:Int)(log:List aF)(k:Nat)(b:Int)(s:af)(pk:b<65536)(h0:m6 log s)
 (ih:b≠0->∀s1,m6 log s1->fM prog 145 [40,41,46] [E (mz b),.ptr 41 0,.ptr 46 0] (u5 l G m log s1) (FH (u5 l G m log) log (nX l G m k (mz b) log s1) s1) (yk (u5 l G m log) (nX l G m k (mz b) log s1))):
 fM prog 145 [40,41,46] [E b,.ptr 41 0,.ptr 46 0] (u5 l G m log s) (FH (u5 l G m log) log (nX l G m (k+1) b log s) s) (yk (u5 l G m log) (nX l G m (k+1) b log s)):=by
 generalize I:nX l G m (k+1) b log s=aQ;rw[nX] at I;refine sX func145 ntmps145 λ w cl own kf=>?_
 refine gE ?_;refine z2 ?_;refine nA 47 ?_;refine go ?_;refine gW 9 [] ?_;refine cA (De l hL hM m b) ?_;refine go ?_;refine xP (CC l G m log s ⟨1,iS l m b,0,0⟩ h0) ?_;rintro d Y ⟨r,s1,bO,gk,rfl,rfl⟩;rw[az bO] at I;have A:=h0.next gk;have hw:=kU r.val;refine gA (kV r.val) ?_;generalize k1:decide ((ae r.val).idx=0)=cc;cases cc
 ·rw[if_pos (of_decide_eq_false k1)] at I;refine go ?_;exact fX _ ⟨⟨(ae r.val).idx,mw,s1,true,0,[]⟩,⟨I.symm,gk,hw.1,hw.2⟩,rfl,rfl⟩
 rw[if_neg (λ h=>h (of_decide_eq_true k1))] at I;refine go ?_;generalize k2:decide (b=0)=cc;cases cc
 rotate_left
 ·rw[if_pos (of_decide_eq_true k2)] at I;refine go ?_;exact fX _ ⟨⟨0,⟨0,false,1,-1,[]⟩,s1,true,0,[]⟩,⟨I.symm,gk,by simp,by simp⟩,rfl,rfl⟩
 have xD:=of_decide_eq_false k2;rw[if_neg xD] at I;refine go ?_;have Zq:=ih xD s1 A;refine FS (λ p:CP=>IJ log (nX l G m k (mz b) log s1) s1 p) (λ p=>⟨[(8,E p.n),(9,.ptr 48 0),(5,.ptr 47 0),(6,E (iS l m b)),(0,E b),(1,.ptr 41 0),(2,.ptr 46 0)],[(40,sf l G m log p.s),(41,[.ptr 40 0]),(46,[.fn (.func 145) [] [.ptr 41 0,.ptr 46 0]]),(47,[E 0,dB false,E 0,E 0,.p (.sl true 0 [])]),(48,[E p.o.val,dB p.o.is,E p.o.err,E p.o.c6,.p (.sl p.ex p.k p.ps)])],[]⟩) ?_ ?_
 ·have yY:∀a,nX l G m k (mz b) log s1=.error a->aQ=.error a:=λ a h=>by rw[<-I];exact bj h
  refine xR 3 7 48 7 6 ?_;refine gQ (ac5 b pk) ?_;refine Jk rfl rfl rfl ?_ (λ hB=>?_)
  all_goals repeat' (first|refine tA 4 ?_|refine tA 5 ?_|refine tA 6 ?_|refine oA 3 ?_|refine oA 7 ?_|refine oA 8 ?_|refine oA 9 ?_|refine oB 3 7 ?_ ?_|exact dA ⟨rfl,⟨p,hp,zX⟩⟩|exact nx hB|refine vX Zq ?_ ?_|(rintro v Y ⟨a,aa,h,rfl,rfl⟩;refine Mz (My ?_);refine gP ?_;exact fP _ ⟨a,aa,yY a h,rfl,rfl⟩)|(rintro d Y ⟨p,hp,rfl,rfl⟩;refine nx (FO ?_))|(refine nA 48 ?_;first|exact nx hB|refine nx ?_)|((first|refine z2 ?_|refine z5 ?_);refine nx ?_))
 rintro⟨an,ao,s2,JJ,JH,Mu⟩ ⟨bg,fQ,YA,YB⟩;simp only at bg fQ YA YB;rw[az bg] at I;have F:=A.next fQ;have DD:=gk.AH fQ;simp only at I;refine go ?_;generalize k3:decide (ao.err=0)=cc;cases cc
 ·rw[if_pos (of_decide_eq_false k3)] at I;refine go ?_;refine gW 2 [] ?_;refine go ?_;exact fX _ ⟨⟨0,ao,s2,JJ,JH,Mu⟩,⟨I.symm,DD,by simp,by simp⟩,rfl,rfl⟩
 rw[if_neg (λ h=>h (of_decide_eq_true k3))] at I;have KW:=Um l hL hS hM G m log s2 2 an (Bc b) 0 F (by omega);refine go ?_;refine FS (λ p:(aY×aX)×af=>rY l G 2 an (Bc b) 0 log s2=.ok p/\ik log s2 p.2) (λ p=>⟨[(9,.ptr 48 0),(10,.ptr 49 0),(5,.ptr 47 0),(6,E (iS l m b)),(0,E b),(1,.ptr 41 0),(2,.ptr 46 0)],[(40,sf l G m log p.2),(41,[.ptr 40 0]),(46,[.fn (.func 145) [] [.ptr 41 0,.ptr 46 0]]),(47,[E 0,dB false,E 0,E 0,.p (.sl true 0 [])]),(48,[E p.1.1.val,dB p.1.1.is,E p.1.1.err,E p.1.1.c6,eh p.1.1.gone]),(49,[E p.1.2.kind,E p.1.2.cell,E p.1.2.dg,E p.1.2.new])],[]⟩) ?_ ?_
 ·have yY:∀a,rY l G 2 an (Bc b) 0 log s2=.error a->aQ=.error a:=λ a h=>by rw[<-I];exact bj h
  refine xR 4 8 49 7 6 ?_;refine gQ (Xl b) ?_;refine Jk rfl rfl rfl ?_ (λ hB=>?_)
  all_goals repeat' (first|refine tA 5 ?_|refine tA 6 ?_|refine tA 7 ?_|refine oA 4 ?_|refine oA 8 ?_|refine oA 9 ?_|refine oA 10 ?_|refine oB 4 8 ?_ ?_|exact dA ⟨rfl,⟨(x,aa),⟨T,Yi⟩,zX⟩⟩|exact nx hB|refine xX KW ?_ ?_|(rintro v Y ⟨a,aa,h,rfl,rfl⟩;refine Mz (My ?_);refine gP ?_;exact fP _ ⟨a,aa,yY a h,rfl,rfl⟩)|(rintro d Y ⟨x,aa,T,Yi,rfl,rfl⟩;refine nx (FO ?_))|(refine nA 49 ?_;first|exact nx hB|refine nx ?_)|((first|refine z2 ?_|refine z5 ?_);refine nx ?_))
 rintro⟨⟨o3,a3⟩,s3⟩ ⟨bV,iV⟩;simp only at iV;rw[az bV] at I;have O:=F.next iV;have DE:=DD.AH iV;simp only at I;refine go ?_;generalize k4:decide (o3.err=0)=cc;cases cc
 ·rw[if_pos (of_decide_eq_false k4)] at I;refine go ?_;refine gW 2 [] ?_;refine go ?_;exact fX _ ⟨⟨0,o3,s3,false,o3.gone.length,g6 o3.gone⟩,⟨I.symm,DE,by simp,by simp⟩,rfl,rfl⟩
 have Lv:=of_decide_eq_true k4;rw[if_neg (λ h=>h Lv)] at I;have qc:=(LN hS F.le bV).2 rfl;simp only at qc;have aaz:NE (o3,a3) log s3=.ok (if o3.is then(ae a3.new).idx else(ae ((log.getD (o3.c6.toNat+2) ⟨0,false⟩).val)).idx,s3):=rfl;rw[az aaz] at I;have eo:0<=(if o3.is then(ae a3.new).idx else(ae ((log.getD (o3.c6.toNat+2) ⟨0,false⟩).val)).idx)/\(if o3.is then(ae a3.new).idx else(ae ((log.getD (o3.c6.toNat+2) ⟨0,false⟩).val)).idx)<65536:=by split<;>exact kU _
 have Rp:=afr l G m log s3 o3 a3 _ (λ h=>qc h Lv) h0.log rfl;generalize(if o3.is then(ae a3.new).idx else(ae ((log.getD (o3.c6.toNat+2) ⟨0,false⟩).val)).idx)=n at I eo Rp;refine go ?_;refine lA Rp ?_;refine go ?_;refine dW 6 [] ?_;refine gQ (my ⟨n,false,0⟩) ?_;refine xP (CC l G m log s3 ⟨3,iS l m b,0,bK ⟨n,false,0⟩⟩ O) ?_;rintro d Y ⟨r4,s4,cX,lY,rfl,rfl⟩;rw[az cX] at I;refine go ?_;exact fX _ ⟨⟨n,mw,s4,true,0,[]⟩,⟨I.symm,DE.AH lY,eo.1,eo.2⟩,rfl,rfl⟩
theorem O4(l:ah)(hL:cr l)(hS:0<=l.ar)(hM:kJ l)(G m:Int)(log:List aF):∀(k:Nat)(b:Int)(s:af),0<=b->b<65536->b<2^k->m6 log s->
 fM prog 145 [40,41,46] [E b,.ptr 41 0,.ptr 46 0] (u5 l G m log s) (FH (u5 l G m log) log (nX l G m (k+1) b log s) s) (yk (u5 l G m log) (nX l G m (k+1) b log s))
 |0,b,s,xg,pk,DU,h0=>O5 l hL hS hM G m log 0 b s pk h0 λ b9=>by
  have:(2:Int)^0=1:=rfl;omega
 |k+1,b,s,xg,pk,DU,h0=>O5 l hL hS hM G m log (k+1) b s pk h0 λ b9 s1 A=>by
   have Re:0<=mz b/\mz b<b/\mz b<2^k:=by
    obtain⟨n,rfl⟩:=Int.eq_ofNat_of_zero_le xg;have hn:n≠0:=by omega
    have O:=ac6 hn;refine⟨O.1,O.2.1,ac4 hn ?_⟩;have h4:((2^(k+1):Nat):Int)=2^(k+1):=by simp
    omega
   exact O4 l hL hS hM G m log k (mz b) s1 Re.1 (by omega) Re.2.2 A
theorem aeF(l:ah)(hL:cr l)(hS:0<=l.ar)(hM:kJ l)(G m:Int)(log:List aF)(b:Int)(s:af)(xg:0<=b)(pk:b<65536)(h0:m6 log s):
 fM prog 120 [40] [.ptr 40 0,E b] (xL l G m log s) (FH (xL l G m log) log (nX l G m 64 b log s) s) (yk (xL l G m log) (nX l G m 64 b log s)):=by
 have hC:=O4 l hL hS hM G m log 63 b s xg pk (by have:(65536:Int)<=2^63:=(by decide);omega) h0;refine sX func120 ntmps120 λ w cl own kf=>?_
 refine gE ?_;refine bA 41 ?_;refine z2 ?_;refine nA 47 ?_;refine kM ?_;refine gE ?_;refine nA 46 ?_;refine kM ?_;refine go ?_;refine vX hC ?_ ?_
 ·rintro v Y ⟨a,aa,h,rfl,rfl⟩;refine gP ?_;exact fP _ ⟨a,aa,h,rfl,rfl⟩
 rintro d Y ⟨p,hp,rfl,rfl⟩;refine go ?_;exact fX _ ⟨p,hp,rfl,rfl⟩
section
variable{P:Program}{ap:Nat->Option TI}{Γ:bN}{l l0:List Oper}{Q js:Exit->St->Prop}{fuel:Nat}{aJ qi:Array Bool}{M:St}{o:Oper}{i:Nat}
structure o6(Γ fg:bN)(r:Nat)(G:Array MapEntry)(ck:Nat):Prop where
 kept:oz Γ.own Γ.w0 fg.w0
 cl:∀k,k<Γ.w0.heap.size->¬Γ.own k->fg.k9 k=Γ.k9 k
 own:∀k,fg.own k->Γ.own k\/Γ.w0.heap.size<=k
 obj:fg.w0.heap[r]?=some (.map G ck)
 nr:¬fg.own r
 kb:∀b k,kv Γ.kb b=some k->kv fg.kb b=some k
 n:fg.n=Γ.n
 dz:fg.dz=Γ.dz
theorem o6.back{fg:bN}{r ck:Nat}{G:Array MapEntry}(h:o6 Γ fg r G ck){e:aC}(he:h2 fg e):h2 Γ e:=by
 have fz:∀k,k<Γ.w0.heap.size->¬Γ.own k->¬fg.own k:=λ k J ho hl=>by
  rcases h.own k hl with A|A
  ·exact ho A
  ·omega
 have ci:=h.kept.size;have pq:∀k,fg.w0.heap.size<=k\/fg.own k->Γ.w0.heap.size<=k\/Γ.own k:=λ k J=>by
  rcases J with J|J
  ·exact .inl (Nat.le_trans ci J)
  ·exact(h.own k J).symm
 refine⟨⟨he.kept.os.trans h.kept.os,he.kept.tape.trans h.kept.tape,he.kept.output.trans h.kept.output,Nat.le_trans ci he.kept.size,λ k J ho=>?_⟩,λ k J ho=>?_,λ b k Z=>?_,he.inj,λ k g hg=>?_,λ b k J=>he.kb b k (h.kb b k J)⟩
 ·exact(he.kept.block k (Nat.lt_of_lt_of_le J ci) (fz k J ho)).trans (h.kept.block k J ho)
 ·exact(he.cl k (Nat.lt_of_lt_of_le J ci) (fz k J ho)).trans (h.cl k J ho)
 ·obtain⟨A,F,O⟩:=he.bx b k Z;exact⟨A,pq k F,O⟩
 ·obtain⟨au,cur,A,F,O,h4⟩:=he.gr k g hg;exact⟨au,cur,A,F,pq k O,h4⟩
theorem o6.pU{fg:bN}{r ck:Nat}{G:Array MapEntry}(h:o6 Γ fg r G ck){e:aC}{a:Act}(L:bu fg M e a):bu Γ M e a:=
 ⟨L.size.trans h.n,L.df.trans h.dz,L.bU,L.boxes,L.eE,L.gs,h.back L.env⟩
theorem o6.now{fg:bN}{r ck:Nat}{G:Array MapEntry}(h:o6 Γ fg r G ck){e:aC}(he:h2 fg e):e.w.heap[r]?=some (.map G ck):=
 (he.kept.block r (sU h.obj) h.nr).trans h.obj
theorem Su{e:aC}{a:Act}(L:bu Γ M e a){r ck:Nat}{G:Array MapEntry}(hr:e.w.heap[r]?=some (.map G ck)):(∀b k,e.bx b=some k->k≠r)/\∀k g,e.gr k=some g->k≠r:=by
 refine⟨λ b k J he=>?_,λ k g hg he=>?_⟩
 ·subst he;cases Z:kv M.b b with
  |none=>rw[L.eE b Z] at J;cases J
  |some cs=>obtain⟨iG,vs,el,A,F,_⟩:=L.boxes b cs Z;rw[J] at A;cases A;rw[hr] at F;cases F
 ·subst he;obtain⟨_,_,_,_,_,_,h5⟩:=L.env.gr k g hg;rw[hr] at h5;cases h5
abbrev HO(Γ:bN)(e:aC)(r:Nat)(kb:List (Nat×Nat)):bN:=⟨Γ.n,e.w,e.cl,λ k=>k≠r/\(Γ.own k\/Γ.w0.heap.size<=k),kb,Γ.dz⟩
theorem Jw{e:aC}{a:Act}(L:bu Γ M e a){r ck:Nat}{G:Array MapEntry}(hr:e.w.heap[r]?=some (.map G ck)){kb:List (Nat×Nat)}(hn:∀b k,kv kb b=some k->e.bx b=some k)(dV:∀b k,kv Γ.kb b=some k->kv kb b=some k):
 o6 Γ (HO Γ e r kb) r G ck/\bu (HO Γ e r kb) M e a:=by
 obtain⟨A,F⟩:=Su L hr;refine⟨⟨L.env.kept,L.env.cl,λ k J=>J.2,hr,λ J=>J.1 rfl,dV,rfl,rfl⟩,L.size,L.df,L.bU,L.boxes,L.eE,L.gs,oz.refl _ _,λ _ _ _=>rfl,λ b k J=>?_,L.env.inj,λ k g hg=>?_,hn⟩
 ·obtain⟨O,h4,h5⟩:=L.env.bx b k J;exact⟨O,.inr ⟨A b k J,h4.symm⟩,h5⟩
 ·obtain⟨au,cur,O,h4,h5,h6⟩:=L.env.gr k g hg;exact⟨au,cur,O,h4,.inr ⟨F k g hg,h5.symm⟩,h6⟩
theorem o6.next{fg:bN}{r ck:Nat}{G:Array MapEntry}(h:o6 Γ fg r G ck)(pZ:Γ.w0.heap.size<=r){e:aC}{a:Act}(L:bu fg M e a)(vW:Array MapEntry)(A7:Nat):∃e2:aC,e2.w={e.w with heap:=e.w.heap.setIfInBounds r (.map vW A7)}/\o6 Γ (HO Γ e2 r fg.kb) r vW A7/\bu (HO Γ e2 r fg.kb) M e2 a:=by
 have pq:=h.now L.env;have oK:=h.pU L;obtain⟨BA,xo⟩:=Su L pq;obtain⟨qW,ib⟩:=MapKept.heap_set (o':=.map vW A7) pq
 let w2:World:={e.w with heap:=e.w.heap.setIfInBounds r (.map vW A7)}
 have zm:w2.heap.size=e.w.heap.size:=by simp[w2]
 let e2:aC:={e with w:=w2}
 have xh:∀b o v,e.w.cell? ⟨b,o,none⟩=some v->b≠r:=λ b o v hv he=>by
  subst he;simp[World.cell?,pq] at hv
 have I:Ends e e2:=by
  refine⟨λ b o v A F=>⟨A,?_⟩,λ _ _ h=>h,λ _ au h=>⟨au,h,rfl,rfl,Nat.le_refl _⟩,λ k g au cur A F O=>⟨A,cur,?_,rfl⟩⟩
  ·rw[World.cell?_of_block (w:=e.w) (ib b (xh b o v F))];exact F
  ·show(e.w.heap.setIfInBounds r (.map vW A7))[k]?=_;rw[ib k (xo k g A)];exact O
 have e9:bu Γ M e2 a:=by
  refine⟨oK.size,oK.df,λ t d ht=>(oK.bU t d ht).next I,λ b cs Z=>?_,oK.eE,oK.gs,⟨⟨oK.env.kept.os,oK.env.kept.tape,oK.env.kept.output,by show _<=w2.heap.size;rw[zm];exact oK.env.kept.size,λ k J ho=>?_⟩,oK.env.cl,λ b k J=>?_,oK.env.inj,λ k g hg=>?_,oK.env.kb⟩⟩
  ·obtain⟨k,vs,el,A,F,O⟩:=oK.boxes b cs Z;exact⟨k,vs,el,A,(ib k (BA b k A)).trans F,O.next I⟩
  ·exact(ib k (by omega)).trans (oK.env.kept.block k J ho)
  ·obtain⟨A,F,O⟩:=oK.env.bx b k J;exact⟨by show k<w2.heap.size;rw[zm];exact A,F,O⟩
  ·obtain⟨au,cur,A,F,O,h4,h5⟩:=oK.env.gr k g hg;exact⟨au,cur,A,by show k<w2.heap.size;rw[zm];exact F,O,h4,(ib k (xo k g hg)).trans h5⟩
 have O:=Jw (kb:=fg.kb) e9 (r:=r) (G:=vW) (ck:=A7) qW (λ b k J=>L.env.kb b k J) h.kb;exact⟨e2,rfl,O.1,O.2⟩
def N3(P:Program)(f:FuncId)(aV:List Nat)(ds:List K)(Y aq:bJ)(Ai:List Nat)(ak:(Nat->Nat)->Array MapEntry):Prop:=
 ∀(e:aC)(vs:List Value),fY Y e->DReps e vs ds->Calls P f vs.toArray e.w λ ex aM=>∃r ck kf ab,ex=.returned (.map (some r))/\ab.w=aM/\fY aq ab/\Left aV e ab/\(∀n,n∈Ai->ab.bx n=some (kf n))/\aM.heap[r]?=some (.map (ak kf) ck)
structure o9(P:Program)(Γ:bN)(l:List Oper)(Q:Exit->St->Prop)(fuel:Nat)(aJ:Array Bool)(M:St)(i:Nat):Prop where
 run:∀(a:Act)(e:aC),bu Γ M e a->wpOp P l.toArray (jM Γ Q) i (wpAny P .any l.toArray (jM Γ Q) fuel (aJ.setIfInBounds i true)) a e.w
theorem acS(ho:l[i]?=some o)(U:aJ.setIfInBounds i true=qi)(h:bq P Γ l (pE P Γ l Q fuel qi) [o] M):o9 P Γ l Q fuel aJ M i:=⟨λ _ _ L=>FP ho U h L⟩
theorem VK(hr:Region.ready .any l.toArray aJ=[i])(h:o9 P Γ l Q fuel aJ M i):iQ P Γ l Q (fuel+1) aJ M:=⟨λ a e L=>wpAny_all hr (by simp) λ j hj=>by
 obtain rfl:j=i:=by simpa using hj
 exact h.run a e L⟩
theorem VL{j:Nat}(hr:Region.ready .any l.toArray aJ=[i,j])(h:o9 P Γ l Q fuel aJ M i)(F:o9 P Γ l Q fuel aJ M j):iQ P Γ l Q (fuel+1) aJ M:=⟨λ a e L=>wpAny_all hr (by simp) λ k J=>by
 rcases List.mem_cons.1 J with rfl|J
 ·exact h.run a e L
 ·obtain rfl:k=j:=by simpa using J
  exact F.run a e L⟩
theorem VM{j m:Nat}(hr:Region.ready .any l.toArray aJ=[i,j,m])(h:o9 P Γ l Q fuel aJ M i)(F:o9 P Γ l Q fuel aJ M j)(O:o9 P Γ l Q fuel aJ M m):iQ P Γ l Q (fuel+1) aJ M:=⟨λ a e L=>wpAny_all hr (by simp) λ k J=>by
 rcases List.mem_cons.1 J with rfl|J
 ·exact h.run a e L
 ·rcases List.mem_cons.1 J with rfl|J
  ·exact F.run a e L
  ·obtain rfl:k=m:=by simpa using J
   exact O.run a e L⟩
theorem acR{t:Nat}{s aa:List (Nat×K)}{b bf:bJ}{g:List (Nat×Gr)}{f:FuncId}{aV:List Nat}{ds:List K}{Y aq:bJ}{Ai:List Nat}{ak:(Nat->Nat)->Array MapEntry}{xs:List Operand}{fB:Array TypeId}{LL:Array Bool}(hC:N3 P f aV ds Y aq Ai ak)(y9:l[i]?=some o)(um:aJ.setIfInBounds i true=LL)(ho:o.op=.call {callee:=.value (.func f),args:=xs.toArray,argTypes:=fB})(hf:ke P f)(he:jc (kv s) xs some=some ds)(aT:K.ok.eR (aI Y) (λ _=>false) ds=true)(hs:jN ⟨s,b,g⟩ (aI Y) Y)(dV:Γ.kb=[])
 (hg:gd l o (kv s)=some true)(D:o.dst=some t)(U:Nat.blt t Γ.n=true)(gG:lS (λ b=>!aI Y b||ir aV b) s (λ aa=>me (aI Y) (λ b=>!aI Y b||ir aV b) b (λ bf=>some (aa,bf)))=some (aa,bf))
 (dC:kH Y b aq)(ny:kK aq Ai)
 (h:∀r ck kf aM bv cw,o6 Γ ⟨Γ.n,aM,bv,cw,mp kf Ai,Γ.dz⟩ r (ak kf) ck->iQ P ⟨Γ.n,aM,bv,cw,mp kf Ai,Γ.dz⟩ l Q fuel LL ⟨(t,.p (.raw (.map (some r))))::aa,aq++bf,g⟩):o9 P Γ l Q fuel aJ ⟨s,b,g⟩ i:=by
 rw[u9,u7] at gG;cases gG;refine⟨λ a e L=>?_⟩;have Z6:l.toArray[i]?=some o:=by simpa using y9
 unfold wpOp;simp only[Z6];rw[if_pos (mf L hg)];refine .inl ?_;have jC:=L.iP o.op.operands;have hv:=Dv (a:=a) (e:=e) xs (λ x T=>jC.1 x (by rw[ho];simp[Op.operands,Call.operands,T])) he;have c8:(execOp a.eval o).run P e.w=.ok (.enter f (xs.map a.eval).toArray) e.w:=by obtain⟨dst,op,type,pos,after,guard⟩:=o;simp only at ho;subst ho;rw[execOp_call_go,hf];simp
 unfold Oper.wp;rw[c8];refine(hC (e.cut (aI Y) λ _=>false) _ (lT L hs) ⟨hv.1,λ i v d A F=>(hv.2 i v d A F).cut (q7 aT F)⟩).mono λ ex aM hh=>?_
 obtain⟨r,ck,kf,ab,rfl,rfl,hI,hL,J,Z5⟩:=hh;obtain⟨A,F⟩:=L.after hI hL (λ n hn=>dC.get hn) (λ n k A _=>by rw[dV] at A;cases A);have O:=A.put (dst:=o.dst) (d:=.p (.raw (.map (some r)))) (qD D U) (.p (.raw (.map (some r))));rw[D] at O;obtain⟨h4,h5⟩:=Jw (kb:=mp kf Ai) O (r:=r) (G:=ak kf) (ck:=ck) Z5 (λ n k Ep=>by
  obtain⟨h6,rfl⟩:=BV Ep;show(if aI aq n=true then ab.bx n else _)=_;rw[if_pos (ny.get h6)];exact J n h6) (λ n k h6=>by rw[dV] at h6;cases h6)
 have h6:=(h r ck kf _ _ _ h4).run _ _ h5;show wpAny P .any l.toArray (jM Γ Q) fuel (aJ.setIfInBounds i true) (a.put o.dst (.map (some r))) ab.w;rw[um,D];exact NO (λ _ _ hh=>by obtain⟨bb,e2,q1,q2,q3⟩:=hh;exact⟨bb,e2,q1,h4.pU q2,q3⟩) (λ _ _ _ _ hh=>by obtain⟨bb,e2,q1,q2,q3⟩:=hh;exact⟨bb,e2,q1,h4.pU q2,q3⟩) _ _ _ _ h6
def FK(P:Program)(Γ:bN)(mt r:Nat)(m:Int)(gC:K)(kn:Bool):Prop:=∀e:aC,h2 Γ e->∃v,(Instr.lookup mt (.map (some r)) (.int .i64 m) true).run P e.w=.ok v e.w/\bz e v (.bd [gC,dB kn])
theorem VC{t mt r:Nat}{s:List (Nat×K)}{b:bJ}{g:List (Nat×Gr)}{x y:Operand}{m:Int}{gC:K}{kn:Bool}(hL:FK P Γ mt r m gC kn)(ho:o.op=.lookup mt x y true)(T:ev (kv s) x=some (.p (.raw (.map (some r)))))(hy:ev (kv s) y=some (E m))(hg:gd l0 o (kv s)=some true)(D:o.dst=some t)(U:Nat.blt t Γ.n=true)
 (h:bq P Γ l0 Q l ⟨(t,.bd [gC,dB kn])::s,b,g⟩):bq P Γ l0 Q (o::l) ⟨s,b,g⟩:=by
 refine wI (M:=⟨s,b,g⟩) hg (λ a e L=>?_) h;have hs:=L.iP o.op.operands;have A:=dh (hs.1 x (by rw[ho];simp[Op.operands]) _ T);have F:=dh (hs.1 y (by rw[ho];simp[Op.operands]) _ hy);obtain⟨v,O,h4⟩:=hL e L.env;have c8:(execOp a.eval o).run P e.w=.ok (.value v) e.w:=by obtain⟨dst,op,type,pos,after,guard⟩:=o;simp only at ho;subst ho;simp[execOp,A,F,O]
 unfold Oper.wp;rw[c8];have:=L.put (dst:=o.dst) (v:=v) (by rw[D];exact U) h4;rw[D] at this;exact⟨e,rfl,by rw[D];exact this⟩
theorem LP{fg:bN}{r ck mt kt et:Nat}{G:Array MapEntry}(hi:o6 Γ fg r G ck)(hm:P.underlying mt=some (.map kt et))(nq:P.underlying kt=some (.int .i64)){m:Int}{j:Nat}{v:Value}{gC:K}(Kw:Instr.findNow (.int .i64) (.int .i64 m) G.toList 0=some (some (j,v)))(hv:∀e,h2 fg e->bz e v gC):FK P fg mt r m gC true:=λ e he=>by
 have O:=hi.now he;have J:MapKept.IsKey (.int .i64) (.int .i64 m):=rfl;refine⟨.tuple #[v,.bool true],?_,?_⟩
 ·simp[Instr.lookup,run_underlying hm,MapKept.run_getObj_map O,MapKept.run_checkKey nq J,MapKept.run_findKey nq Kw]
 ·exact .bd (vs:=[v,.bool true]) (ds:=[gC,dB true]) rfl λ i ij d A F=>by
   match i,A,F with
   |0,A,F=>cases A;cases F;exact hv e he
   |1,A,F=>cases A;cases F;exact .p (.raw _)
theorem abB(hT:di P ap){fg:bN}{r ck mt kt et:Nat}{G:Array MapEntry}{ti:TI}(hi:o6 Γ fg r G ck)(hm:P.underlying mt=some (.map kt et))(nq:P.underlying kt=some (.int .i64))(Kt:ap et=some ti){m:Int}(Kw:Instr.findNow (.int .i64) (.int .i64 m) G.toList 0=some none):FK P fg mt r m (.p (.raw ti.zero)) false:=λ e he=>by
 have O:=hi.now he;have J:MapKept.IsKey (.int .i64) (.int .i64 m):=rfl;refine⟨.tuple #[ti.zero,.bool false],?_,?_⟩
 ·simp[Instr.lookup,run_underlying hm,MapKept.run_getObj_map O,MapKept.run_checkKey nq J,MapKept.run_findKey nq Kw,Az hT Kt]
 ·exact .bd (vs:=[ti.zero,.bool false]) (ds:=[.p (.raw ti.zero),dB false]) rfl λ i ij d A F=>by
   match i,A,F with
   |0,A,F=>cases A;cases F;exact .p (.raw _)
   |1,A,F=>cases A;cases F;exact .p (.raw _)
structure CV(P:Program)(Γ:bN)(kb:List (Nat×Nat))(r:Nat)(l0:List Oper)(Q:Exit->Act->World->Prop)(l:List Oper)(G:Array MapEntry)(ck:Nat)(M:St):Prop where
 run:∀aM bv cw,o6 Γ ⟨Γ.n,aM,bv,cw,kb,Γ.dz⟩ r G ck->∀a e,bu ⟨Γ.n,aM,bv,cw,kb,Γ.dz⟩ M e a->wpList P l0.toArray Q l a e.w
theorem HT{W:Exit->Act->World->Prop}{kb:List (Nat×Nat)}{r ck:Nat}{G:Array MapEntry}{s:List (Nat×K)}{b:List (Nat×List K)}{g:List (Nat×Gr)}{t:Nat}{d:K}(hT:di P ap)(hq:ax ap (kv s) (kv b) o.op=some d)(hg:gd l0 o (kv s)=some true)(D:o.dst=some t)(U:Nat.blt t Γ.n=true)(h:CV P Γ kb r l0 W l G ck ⟨(t,d)::s,b,g⟩):CV P Γ kb r l0 W (o::l) G ck ⟨s,b,g⟩:=by refine⟨λ aM bv cw hi a e L=>?_⟩;unfold wpList;rw[if_pos (mf L hg)];have cF:AP P ⟨Γ.n,aM,bv,cw,kb,Γ.dz⟩ o ⟨s,b,g⟩ _:=dN.step (M:=⟨s,b,g⟩) (tN hT hq) (qD D U) (λ p hp=>by cases hp);refine .inl (yg (cF a e L) λ bs w1 hh=>?_);obtain⟨ab,rfl,dR⟩:=hh;rw[D] at dR;exact h.run aM bv cw hi bs ab dR
theorem L1{W:Exit->Act->World->Prop}{kb:List (Nat×Nat)}{r ck:Nat}{G vW:Array MapEntry}{s:List (Nat×K)}{b:List (Nat×List K)}{g:List (Nat×Gr)}{mt kt et:Nat}{x y z:Operand}{m:Int}{v:Value}{d:K}(pZ:Γ.w0.heap.size<=r)(ho:o.op=.insert mt x y z)(D:o.dst=none)(hm:P.underlying mt=some (.map kt et))(nq:P.underlying kt=some (.int .i64))(T:ev (kv s) x=some (.p (.raw (.map (some r)))))(hy:ev (kv s) y=some (E m))(hz:ev (kv s) z=some d)(hg:gd l0 o (kv s)=some true)(hv:∀aM bv cw e,h2 ⟨Γ.n,aM,bv,cw,kb,Γ.dz⟩ e->∀u,bz e u d->u=v)(hn:Instr.findNow (.int .i64) (.int .i64 m) G.toList 0=some none)(he:G.push {key:=.int .i64 m,val:=v,born:=ck}=vW)
 (h:CV P Γ kb r l0 W l vW (ck+1) ⟨s,b,g⟩):CV P Γ kb r l0 W (o::l) G ck ⟨s,b,g⟩:=by
 refine⟨λ aM bv cw hi a e L=>?_⟩;subst he;unfold wpList;rw[if_pos (mf L hg)];have hs:=L.iP o.op.operands;have A:=dh (hs.1 x (by rw[ho];simp[Op.operands]) _ T);have F:=dh (hs.1 y (by rw[ho];simp[Op.operands]) _ hy);have bB:=hv _ _ _ e L.env _ (hs.1 z (by rw[ho];simp[Op.operands]) _ hz);have O:=hi.now L.env;have J:MapKept.IsKey (.int .i64) (.int .i64 m):=rfl;obtain⟨e2,Kr,KI,e9⟩:=hi.next pZ L (G.push {key:=.int .i64 m,val:=v,born:=ck}) (ck+1);have c8:(execOp a.eval o).run P e.w=.ok .skip {e.w with heap:=e.w.heap.setIfInBounds r (.map (G.push {key:=.int .i64 m,val:=v,born:=ck}) (ck+1))}:=by obtain⟨dst,op,type,pos,after,guard⟩:=o;simp only at ho;subst ho;simp[execOp,Instr.mapUpdate,A,F,bB,run_underlying hm,MapKept.run_getObj_map O,MapKept.run_checkKey nq J,MapKept.run_findKey nq hn,MapKept.run_setObj_map _ O]
 refine .inl ?_;unfold Oper.wp;rw[c8,<-Kr];have:=h.run _ _ _ KI a e2 e9;show wpList P _ _ l (a.put o.dst undef) e2.w;rw[D];exact this
theorem abV{W:Exit->Act->World->Prop}{kb:List (Nat×Nat)}{s:List (Nat×K)}{b:List (Nat×List K)}{g:List (Nat×Gr)}{t1 mt:Nat}{o1:Oper}(ho:o1.op=.makeMap mt none)(hg:gd l0 o1 (kv s)=some true)(mL:o1.dst=some t1)(jU:Nat.blt t1 Γ.n=true){e:aC}{a:Act}(L:bu Γ ⟨s,b,g⟩ e a)(hn:∀b k,kv kb b=some k->e.bx b=some k)(dV:∀b k,kv Γ.kb b=some k->kv kb b=some k)
 (h:∀r,Γ.w0.heap.size<=r->CV P Γ kb r l0 W l #[] 0 ⟨(t1,.p (.raw (.map (some r))))::s,b,g⟩):wpList P l0.toArray W (o1::l) a e.w:=by
 unfold wpList;rw[if_pos (mf L hg)];refine .inl ?_;unfold Oper.wp;have c8:(execOp a.eval o1).run P e.w=.ok (.value (.map (some e.w.heap.size))) (e.w.alloc (.map #[] 0)):=by obtain⟨dst,op,type,pos,after,guard⟩:=o1;simp only at ho;subst ho;simp[execOp,Instr.makeMap]
 rw[c8];show wpList P _ _ l (a.put o1.dst _) _;have hc:=aC.tM e (.map #[] 0) none;have cM:=(L.grow hc).put (dst:=o1.dst) (v:=.map (some e.w.heap.size)) (d:=.p (.raw (.map (some e.w.heap.size)))) (by rw[mL];exact jU) (.p (.raw _));rw[mL] at cM⊢;have kP:(e.w.alloc (.map #[] 0)).heap[e.w.heap.size]?=some (.map #[] 0):=(MapKept.heap_alloc e.w _).1;obtain⟨h4,h5⟩:=Jw (kb:=kb) cM (r:=e.w.heap.size) (G:=#[]) (ck:=0) kP hn dV;exact(h e.w.heap.size L.env.kept.size).run _ _ _ h4 _ _ h5
theorem PC{e:aC}{u:Value}{f:Fn}{b1 b2 k1 k2:Nat}(A:e.bx b1=some k1)(F:e.bx b2=some k2)(h:bz e u (.fn f [] [.ptr b1 0,.ptr b2 0])):u=.func f #[] #[.pointer (some ⟨k1,0,none⟩),.pointer (some ⟨k2,0,none⟩)]:=by
 cases h with
 |fn U dX O h4=>
  rename_i us vs
  match us,vs,U,dX,h4 with
  |[],[v1,v2],_,_,h4=>
   have q1:=h4 0 v1 _ rfl rfl;have q2:=h4 1 v2 _ rfl rfl;cases q1 with
   |ptr q1=>cases q2 with
    |ptr q2=>
     rw[A] at q1;rw[F] at q2;cases q1;cases q2
     rfl
theorem XM{e:aC}{u:Value}{f:Fn}(h:bz e u (.fn f [] [])):u=.func f #[] #[]:=by
 cases h with
 |fn U dX O h4=>
  rename_i us vs
  match us,vs,U,dX with
  |[],[],_,_=>rfl
end
section
variable{Γ:bN}{l l0:List Oper}{Q:Exit->St->Prop}{fuel:Nat}{aE:Array Bool}{M:St}{o:Oper}
theorem wA(i:Nat)(h:o9 prog Γ l Q fuel aE M i)(hr:Region.ready .any l.toArray aE=[i]:=by decide+kernel):iQ prog Γ l Q (fuel+1) aE M:=VK hr h
theorem wB(i j:Nat)(h:o9 prog Γ l Q fuel aE M i)(F:o9 prog Γ l Q fuel aE M j)(hr:Region.ready .any l.toArray aE=[i,j]:=by decide+kernel):iQ prog Γ l Q (fuel+1) aE M:=VL hr h F
theorem wC(i j k:Nat)(h:o9 prog Γ l Q fuel aE M i)(F:o9 prog Γ l Q fuel aE M j)(O:o9 prog Γ l Q fuel aE M k)(hr:Region.ready .any l.toArray aE=[i,j,k]:=by decide+kernel):iQ prog Γ l Q (fuel+1) aE M:=VM hr h F O
theorem acv{i:Nat}(h:bq prog Γ l (pE prog Γ l Q fuel (aE.setIfInBounds i true)) [o] M)(ho:l[i]?=some o:=by exact rfl):o9 prog Γ l Q fuel aE M i:=acS ho rfl h
end
end Go.Proofs.YtcnefjfboagbmaaGreat
