/- A map's programs: an access; the node that is there; the list's programs behind a node: their walks. -/
import Derived.Test.YtcnefjfboagbmaaGreatWB
import Derived.Test.YtcnefjfboagbmaaGreatPA
import Derived.Test.YtcnefjfboagbmaaGreatLB
namespace Go.Proofs.YtcnefjfboagbmaaGreat
open Go.Proofs.Tryz
open Go.RowKit
set_option maxRecDepth 100000
abbrev xS(a:aS):Value:=.iface 167 (.agg #[.int .i64 a.kind,.int .i64 a.cell,.int .i64 a.eh,.int .i64 a.new])
abbrev Xk(l:ab)(E m:Int)(log:List aB)(s:af):List Pl:=[pI l.aA,pI l.nodes,pI l.buckets,pI l.bm,pI l.tasks,pI l.cells,pI l.maps,pI l.bo,pI l.aL,pI l.done,pI l.count,pI l.era,pI l.free,pI l.alive,pI l.owner,pI l.lI,pI l.pL,pI l.ring,pI l.task,pI l.cell,pI l.map,pI l.stack,pI l.chan,pI l.node,pI l.size,pI E,tD s.gone,pI m,.sl false log.length (fQ log),pI s.made]
abbrev qd(l:ab)(E m:Int)(log:List aB)(s:af):List F:=[z l.aA,z l.nodes,z l.buckets,z l.bm,z l.tasks,z l.cells,z l.maps,z l.bo,z l.aL,z l.done,z l.count,z l.era,z l.free,z l.alive,z l.owner,z l.lI,z l.pL,z l.ring,z l.task,z l.cell,z l.map,z l.stack,z l.chan,z l.node,z l.size,z E,cT s.gone,z m,fS log,z s.made]
abbrev uQ(l:ab)(E m:Int)(log:List aB)(s:af):bH:=[(40,qd l E m log s)]
def Qe{aq:Type}(bx:af->bH)(log:List aB)(m:Except aS (aq×af))(s:af)(enc:aq->F):F->bH->Prop:=λ d O=>∃x U,m=.ok (x,U)/\gF log s U/\d=enc x/\O=bx U
def vq{aq:Type}(bx:af->bH)(m:Except aS (aq×af)):Value->bH->Prop:=λ v O=>∃a U,m=.error a/\v=xS a/\O=bx U
abbrev Ax{aq:Type}(f:FuncId)(aX:List Nat)(bx:af->bH)(log:List aB)(s:af)(ds:List F)(m:Except aS (aq×af))(enc:aq->F):Prop:=fu prog f aX ds (bx s) (Qe bx log m s enc) (vq bx m)
structure lN(log:List aB)(s:af):Prop where
 gone:ee s.gone
 len:s.gone.length+log.length<=10000+s.made
 le:s.made<=log.length
 log:log.length<=5000
theorem lN.next{log:List aB}{s U:af}(h:lN log s)(hG:gF log s U):lN log U:=⟨hG.ok,by have:=h.len;have:=hG.len;have:=hG.made;omega,hG.le,h.log⟩
theorem lN.refl{log:List aB}{s:af}(h:lN log s):gF log s s:=⟨Nat.le_refl _,h.le,h.gone,Nat.le_refl _⟩
theorem lN.up{log:List aB}{s:af}(h:lN log s){r:aB}(hr:log[s.made]?=some r):gF log s {s with made:=s.made+1}:=⟨Nat.le_succ _,(List.getElem?_eq_some_iff.1 hr).1,h.gone,Nat.add_le_add_left (Nat.le_succ _) _⟩
theorem Af(l:ab)(E m:Int)(log:List aB)(s:af)(a:aS)(h0:lN log s):Ax 119 [40] (uQ l E m log) log s [.ptr 40 0,eW a] (fw a log s) vO:=by
 have hm:=h0.le;have M:=h0.log;refine sX func119 ntmps119 λ w cl own kf=>?_
 refine go ?_;refine gD [] ?_;refine go ?_;generalize u:decide ((s.made:Int)=(log.length:Int))=cc;cases cc
 ·have aN:=of_decide_eq_false u;have bh:s.made<log.length:=by omega
  have hr:log[s.made]?=some log[s.made]:=List.getElem?_eq_getElem bh;generalize log[s.made]=r at hr;have oD:log[((s.made:Int)+1-1).toNat]?=some r:=by rw[show((s.made:Int)+1-1).toNat=s.made by omega];exact hr
  refine go ?_;refine gW 9 [] ?_;refine ai [pI r.val,pB r.ok] (B4 oD) ?_;refine go ?_;exact fX _ ⟨r,{s with made:=s.made+1},by rw[fw,hr],h0.up hr,rfl,rfl⟩
 ·have aN:log.length=s.made:=by have:=of_decide_eq_true u;omega
  have hr:log[s.made]?=none:=List.getElem?_eq_none (by omega);refine go ?_;refine bf (BV aw rfl rfl rfl rfl rfl) rfl rfl rfl ?_;refine AD rfl rfl rfl ?_;refine gP ?_;exact fP _ ⟨a,s,by rw[fw,hr],rfl,rfl⟩
theorem YZ(l:ab)(E m:Int)(log:List aB)(s:af)(o:br)(a:aS)(n:Int)(hp:o.is=false->0<=o.cJ/\o.cJ+2<log.length)(M:log.length<=5000)(hn:n=if o.is then(az a.new).idx else(az ((log.getD (o.cJ.toNat+2) ⟨0,false⟩).val)).idx):aW prog 148 [.el (Xk l E m log s),jm o,eW a] (z n):=by
 generalize ww:o.is=tB at hp hn;generalize pY:o.cJ=op at hp hn;refine sP func148 ntmps148 λ w cl=>?_
 refine go ?_;rw[ww];cases tB
 ·obtain⟨u,D⟩:=hp rfl;have hr:log[(op+2).toNat]?=some (log.getD (op.toNat+2) ⟨0,false⟩):=by
   rw[show(op+2).toNat=op.toNat+2 by omega,List.getD_eq_getElem?_getD,List.getElem?_eq_getElem (by omega)];rfl
  simp only[Bool.false_eq_true,if_false] at hn;generalize log.getD (op.toNat+2) ⟨0,false⟩=r at hr hn;refine go ?_;rw[pY];refine gW 10 [] ?_;refine ri [pI r.val,pB r.ok] (B4 hr) ?_;refine ba ?_;refine cA (jS r.val) ?_;refine gf ?_;rw[hn]
 ·simp only[if_true] at hn;refine gA (jS a.new) ?_;refine dt ?_;rw[hn]
theorem Od(a b:List aB):fQ (a++b)=fQ a++fQ b:=by simp[fQ]
theorem IX(l:List aB):(fQ l).length=l.length*2:=by
 induction l with
 |nil=>rfl
 |cons a l ih=>unfold fQ at ih⊢;rw[List.flatMap_cons,List.length_append,ih];simp[xh];omega
theorem VK{l:List aB}{c:Nat}:∀(i:Nat) q,(fQ (l.take c))[i]?=some q->(fQ l)[(0:Int).toNat*2+i]?=some q:=by
 intro i q h;have M:fQ l=fQ (l.take c)++fQ (l.drop c):=by rw[<-Od,List.take_append_drop]
 rw[show(0:Int).toNat*2+i=i by simp,M,List.getElem?_append_left (List.getElem?_eq_some_iff.1 h).1];exact h
theorem VL{l:List aB}{a:Int}{b:Nat}(v9:a.toNat=b)(ha:b<=l.length):∀(i:Nat) q,(fQ (l.drop b))[i]?=some q->(fQ l)[a.toNat*2+i]?=some q:=by
 intro i q h;rw[v9];have M:fQ l=fQ (l.take b)++fQ (l.drop b):=by rw[<-Od,List.take_append_drop]
 have u:(fQ (l.take b)).length=b*2:=by rw[IX,List.length_take];congr 1;omega
 rw[M,List.getElem?_append_right (by omega),u,show b*2+i-b*2=i by omega];exact h
def jY(l:ab)(E:Int)(gone:List (Int×Int))(op:cq)(G:Int)(lg:List aB):aS×br×Bool:=
 if(dC l E gone op lg).2.2=false/\G<0/\(dC l E gone op lg).1.cell=op.obj then({(dC l E gone op lg).1 with cell:=G},(dC l E gone op lg).2) else dC l E gone op lg
theorem Rb(l:ab)(E:Int)(gone:List (Int×Int))(kind ey dY v:Int)(lg:List aB):mu l E gone kind ey dY v lg=jY l E gone ⟨kind,if am l ey 0<0 then l.done else am l ey 0,dY,v⟩ (am l ey 0) lg:=rfl
abbrev y9(l:ab)(E m:Int)(log:List aB)(op:cq)(lg:List aB)(G:Int)(s:af):bH:=[(40,qd l E m log s),(41,[.ptr 40 0]),(42,[z op.kind,z op.obj,z op.a,z op.b]),(43,[fS lg]),(44,[z G])]
set_option maxHeartbeats 4000000 in
theorem VD(l:ab)(hL:bQ l)(E m:Int)(log:List aB)(op:cq)(lg:List aB)(G:Int)(s:af)(k:Nat)(hg:ee s.gone)(gz:s.gone.length+lg.length<=10000)(J:k<=lg.length):
 d8 prog 149 [40,41,42,43,44] [z k,.ptr 41 0,.ptr 42 0,.ptr 43 0,.ptr 44 0] (y9 l E m log op lg G s) (λ d O=>d=qx (jY l E s.gone op G (lg.take k))/\O=y9 l E m log op lg G s):=by
 generalize A:jY l E s.gone op G (lg.take k)=aK;unfold jY at A;have yK:(lg.take k).length=k:=by rw[List.length_take];omega
 have iS:=VK (l:=lg) (c:=k);have nO:=Cd l hL E s.gone op (lg.take k) hg (by omega);generalize lg.take k=lk at A yK iS nO;generalize dC l E s.gone op lk=aE at A nO;obtain⟨a,o,dn⟩:=aE;simp only at A;refine sI func149 ntmps149 λ w cl own kf=>?_
 refine go ?_;refine gW 25 [] ?_;refine cD (Ai aw lk.length (fQ lk) rfl rfl rfl rfl rfl rfl rfl (by omega) (by omega) (by omega) (by omega) (IX lk) iS) rfl rfl ?_;refine gQ nO ?_;refine go ?_;cases dn
 ·refine go ?_;generalize u:decide (G<0)=cc;cases cc
  ·rw[if_neg (λ h=>of_decide_eq_false u h.2.1)] at A;refine go ?_;refine gW 5 [5,6] ?_;refine go ?_;refine gU (d:=.bc [eW a,jm o,dB false]) (y9 l E m log op lg G s) ?_ rfl ?_ ?_ ?_
   ·rfl
   ·(repeat(first|exact trivial|refine⟨⟨rfl,rfl⟩,?_⟩))
   ·(repeat(first|exact trivial|refine⟨rfl,?_⟩))
   exact⟨by subst A;rfl,rfl⟩
  ·refine go ?_;generalize D:decide (a.cell=op.obj)=cc;cases cc
   ·rw[if_neg (λ h=>of_decide_eq_false D h.2.2)] at A;refine go ?_;refine gW 5 [5,6] ?_;refine go ?_;refine gU (d:=.bc [eW a,jm o,dB false]) (y9 l E m log op lg G s) ?_ rfl ?_ ?_ ?_
    ·rfl
    ·(repeat(first|exact trivial|refine⟨⟨rfl,rfl⟩,?_⟩))
    ·(repeat(first|exact trivial|refine⟨rfl,?_⟩))
    exact⟨by subst A;rfl,rfl⟩
   ·rw[if_pos ⟨rfl,of_decide_eq_true u,of_decide_eq_true D⟩] at A;refine go ?_;refine gW 5 [5,6] ?_;refine go ?_;refine gU (d:=.bc [.agg [z a.kind,z G,z a.eh,z a.new],jm o,dB false]) (y9 l E m log op lg G s) ?_ rfl ?_ ?_ ?_
    ·rfl
    ·(repeat(first|exact trivial|refine⟨⟨rfl,rfl⟩,?_⟩))
    ·(repeat(first|exact trivial|refine⟨rfl,?_⟩))
    exact⟨by subst A;rfl,rfl⟩
 ·rw[if_neg (by simp)] at A;refine go ?_;refine gW 5 [5,6] ?_;refine go ?_;refine gU (d:=.bc [eW a,jm o,dB true]) (y9 l E m log op lg G s) ?_ rfl ?_ ?_ ?_
  ·rfl
  ·(repeat(first|exact trivial|refine⟨⟨rfl,rfl⟩,?_⟩))
  ·(repeat(first|exact trivial|refine⟨rfl,?_⟩))
  exact⟨by subst A;rfl,rfl⟩
abbrev Pf(k1:Nat)(dn:Bool):List (Nat×F):=[(18,dB dn),(22,z k1),(5,.ptr 41 0),(10,.ptr 47 0),(11,.ptr 48 0),(15,.fn (.func 149) [] [.ptr 41 0,.ptr 42 0,.ptr 43 0,.ptr 44 0]),(17,.ptr 50 0),(19,.ptr 51 0)]
abbrev Pe(l:ab)(E m:Int)(log:List aB)(op:cq)(lg:List aB)(G:Int)(s:af)(a2:aS)(ov:Int)(tB:Bool)(oe ES:Int)(og:List (Int×Int)):bH:=[(40,qd l E m log s),(41,[.ptr 40 0]),(42,[z op.kind,z op.obj,z op.a,z op.b]),(43,[fS lg]),(44,[z G]),(47,[z 0,dB false,z 0,z 0,.p (.sl true 0 [])]),(48,[z 0,z 0,z 0,z 0]),(50,[z ov,dB tB,z oe,z ES,cT og]),(51,[z a2.kind,z a2.cell,z a2.eh,z a2.new])]
def Ip(l:ab)(E:Int)(op:cq)(G:Int)(lg:List aB)(s:af):Except aS ((br×aS)×af):=
 if(jY l E s.gone op G lg).2.2=false then .error (jY l E s.gone op G lg).1
 else if(jY l E s.gone op G lg).2.1.cJ<0 then .ok (((jY l E s.gone op G lg).2.1,eF),s)
 else .ok (({(jY l E s.gone op G lg).2.1 with cJ:=(jY l E s.gone op G lg).2.1.cJ+s.made},(jY l E s.gone op G (lg.take (jY l E s.gone op G lg).2.1.cJ.toNat)).1),{s with made:=s.made+oV (λ k=>(jY l E s.gone op G (lg.take k)).2.2) (lg.length-((jY l E s.gone op G lg).2.1.cJ.toNat+1)) ((jY l E s.gone op G lg).2.1.cJ.toNat+1),gone:=(jY l E s.gone op G lg).2.1.gone})
theorem VF(l:ab)(E kind ey dY v:Int)(log:List aB)(s:af):p4 l E kind ey dY v log s=Ip l E ⟨kind,if am l ey 0<0 then l.done else am l ey 0,dY,v⟩ (am l ey 0) (log.drop s.made) s:=by unfold p4 Ip;simp only[Rb];rfl
theorem Ra{l:ab}{E:Int}{gone:List (Int×Int)}{op:cq}{G:Int}{lg:List aB}:(jY l E gone op G lg).2=(dC l E gone op lg).2:=by unfold jY;split<;>rfl
set_option maxHeartbeats 16000000 in
theorem Pg(l:ab)(hL:bQ l)(hS:0<=l.aA)(hM:iY l)(E m:Int)(log:List aB)(s:af)(kind ey dY v:Int)(h0:lN log s)(Ta:ey<9223372036854775808):
 Ax 121 [40] (uQ l E m log) log s [.ptr 40 0,z kind,z ey,z dY,z v] (p4 l E kind ey dY v log s) (λ o=>.bc [jm o.1,eW o.2]):=by
 have hG:∀o U,p4 l E kind ey dY v log s=.ok (o,U)->gF log s U:=λ o U e=>by
  have u:=(Iq hS h0.le e).1;exact⟨u.made,u.le h0.le,u.ok h0.gone,u.len⟩
 generalize A:p4 l E kind ey dY v log s=aK at hG;rw[VF] at A;have T1:(log.drop s.made).length+s.made=log.length:=by rw[List.length_drop];have:=h0.le;omega
 have iS:=λ(h:(s.made:Int).toNat=s.made)=>VL (l:=log) (a:=(s.made:Int)) (b:=s.made) h h0.le
 have iS:=iS (by simp);have bG:=IX (log.drop s.made);generalize log.drop s.made=lg at A T1 iS bG;have DU:=h0.log;have cg:=h0.len;have hnd:=jD l hL ey 0 Ta (by omega);generalize am l ey 0=G at A hnd;obtain⟨kE,rP⟩:=hM.d;refine sX func121 ntmps121 λ w cl own kf=>?_
 refine gm ?_;refine bA 41 ?_;refine nA 47 ?_;refine nA 48 ?_;refine jK ?_;refine gm ?_
 repeat refine z2 ?_
 refine cA hnd ?_;refine nA 44 ?_;refine z5 ?_;refine jK ?_;refine gm ?_
 repeat refine z2 ?_
 refine z6 ?_;refine nA 42 ?_;refine z5 ?_;refine jK ?_;refine zM ?_;refine C3 ⟨[(5,.ptr 41 0),(10,.ptr 47 0),(11,.ptr 48 0),(12,.ptr 44 0),(13,.ptr 42 0)],[(40,qd l E m log s),(41,[.ptr 40 0]),(42,[z kind,z (if G<0 then l.done else G),z dY,z v]),(44,[z G]),(47,[z 0,dB false,z 0,z 0,.p (.sl true 0 [])]),(48,[z 0,z 0,z 0,z 0])],[]⟩ ?_ ?_
 ·refine go ?_;generalize u:decide (G<0)=cc;cases cc
  ·rw[if_neg (of_decide_eq_false u)];refine go ?_;exact⟨rfl,zX⟩
  ·rw[if_pos (of_decide_eq_true u)];refine go ?_;exact⟨rfl,zX⟩
 generalize(if G<0 then l.done else G)=ob at A⊢;have hC:=λ(k:Nat)(J:k<=lg.length)=>VD l hL E m log ⟨kind,ob,dY,v⟩ lg G s k h0.gone (by omega) J
 refine go ?_;refine gW 10 [] ?_;refine cD (Ai aw lg.length (fQ lg) rfl rfl rfl rfl rfl rfl rfl (by omega) (by omega) (by omega) (by omega) bG iS) rfl rfl ?_;refine qe (tQ aw 43 rfl rfl rfl rfl) rfl rfl rfl rfl ?_;refine ba ?_;refine z5 ?_;refine jK ?_;refine gm ?_;refine z2 ?_;refine z2 ?_;refine jK ?_;refine gm ?_
 repeat refine z2 ?_
 have vY:=hC lg.length (Nat.le_refl _);rw[List.take_length] at vY;unfold Ip at A;generalize iC:jY l E s.gone ⟨kind,ob,dY,v⟩ G lg=r1 at A vY;obtain⟨a1,⟨ov,tB,oe,op,og⟩,KI⟩:=r1;simp only at A
 change d8 _ _ _ _ _ (λ d O=>d=.bc [eW a1,.agg [z ov,dB tB,z oe,z op,cT og],dB KI]/\_) at vY
 refine vI vY ?_;rintro d O ⟨rfl,rfl⟩
 repeat refine z2 ?_
 refine nA 49 ?_;refine nA 50 ?_;refine go ?_;cases KI
 ·rw[if_pos rfl] at A;refine go ?_;refine bf (BV aw rfl rfl rfl rfl rfl) rfl rfl rfl ?_;refine AD rfl rfl rfl ?_;refine gP ?_;exact fP _ ⟨a1,s,A.symm,rfl,rfl⟩
 rw[if_neg (by simp)] at A;refine go ?_;generalize D:decide (op<0)=cc;cases cc
 rotate_left
 ·rw[if_pos (of_decide_eq_true D)] at A;refine go ?_;exact fX _ ⟨_,s,A.symm,hG _ _ A.symm,rfl,rfl⟩
 ·have bd:=of_decide_eq_false D;rw[if_neg bd] at A;have e2:=congrArg Prod.snd iC;rw[Ra] at e2;simp only at e2;obtain⟨pt,rfl⟩:=Int.eq_ofNat_of_zero_le (show 0<=op by omega);have qR:(pt:Int)<lg.length:=by
   have:=(NI hS (E:=E) (gone:=s.gone) (op:=⟨kind,ob,dY,v⟩) (log:=lg) (by rw[e2]) (by rw[e2];exact Int.natCast_nonneg _)).1;rw[e2] at this;exact this
  simp only[Int.toNat_natCast] at A;have yw:=hC pt (by omega);generalize hf:(λ k=>(jY l E s.gone ⟨kind,ob,dY,v⟩ G (lg.take k)).2.2)=f at A;have LO:∀k,(jY l E s.gone ⟨kind,ob,dY,v⟩ G (lg.take k)).2.2=f k:=λ k=>by rw[<-hf]
  have Te:f lg.length=true:=by rw[<-LO,List.take_length,iC]
  generalize jY l E s.gone ⟨kind,ob,dY,v⟩ G (lg.take pt)=r2 at A yw;obtain⟨a2,o2,RI⟩:=r2;simp only at A
  change d8 _ _ _ _ _ (λ d O=>d=.bc [eW a2,.agg [z o2.val,dB o2.is,z o2.err,z o2.cJ,cT o2.gone],dB RI]/\_) at yw
  generalize hK:oV f (lg.length-(pt+1)) (pt+1)=bC at A;refine go ?_;refine vI yw ?_;rintro d O ⟨rfl,rfl⟩
  repeat refine z2 ?_
  refine nA 51 ?_;refine nA 52 ?_;refine go ?_;refine bL (λ p:Nat×Bool=>p.1<=lg.length-pt/\(p.2=false->p.1+pt+1<=lg.length/\oV f (lg.length-(pt+1)-p.1) (pt+1+p.1)=bC)/\(p.2=true->bC=pt+p.1)) (λ p=>⟨Pf (pt+1+p.1) p.2,Pe l E m log ⟨kind,ob,dY,v⟩ lg G s a2 ov tB oe pt og,[]⟩) (λ p=>lg.length+1-p.1) (0,false) ⟨by simp,λ _=>⟨by simp only;omega,hK⟩,λ h=>by cases h⟩ (zX) ?_;rintro⟨j,dn⟩ ⟨hj,hF,hT⟩;simp only at hj hF hT;refine(show aJ _ _ _ _ ⟨Pf (pt+1+j) dn,Pe l E m log ⟨kind,ob,dY,v⟩ lg G s a2 ov tB oe pt og,[]⟩ from ?_);refine go ?_;cases dn
  ·obtain⟨yz,yA⟩:=hF rfl;have yx:=hC (pt+1+j) (by omega);have ul:=LO (pt+1+j);generalize jY l E s.gone ⟨kind,ob,dY,v⟩ G (lg.take (pt+1+j))=r3 at yx ul;obtain⟨a3,o3,KJ⟩:=r3;simp only at ul
   change d8 _ _ _ _ _ (λ d O=>d=.bc [eW a3,.agg [z o3.val,dB o3.is,z o3.err,z o3.cJ,cT o3.gone],dB KJ]/\_) at yx
   refine go ?_;refine vI yx ?_;rintro d O ⟨rfl,rfl⟩;refine go ?_;refine⟨(j+1,KJ),⟨by simp only;omega,λ h=>?_,λ h=>?_⟩,by simp only;omega,zX⟩
   ·simp only at h⊢;subst h;have cP:pt+1+j≠lg.length:=λ e=>by rw[e,Te] at ul;cases ul
    refine⟨by omega,?_⟩;rw[show lg.length-(pt+1)-j=(lg.length-(pt+1)-(j+1))+1 by omega,oV,<-ul,if_neg (by simp)] at yA;exact yA
   ·simp only at h⊢;subst h;rw[<-yA];cases hn:lg.length-(pt+1)-j with
    |zero=>rw[oV];omega
    |succ n=>rw[oV,<-ul,if_pos rfl];omega
  ·have qC:=hT rfl;subst qC;refine go ?_;refine gW 6 [] ?_;refine go ?_;rw[show((s.made:Int)+(((pt+1+j:Nat):Int)-1))=((s.made+(pt+j):Nat):Int) by omega];refine gW 3 [47] ?_;refine go ?_;exact fX _ ⟨_,_,A.symm,hG _ _ A.symm,rfl,rfl⟩
section
variable{P:Program}{ah:Nat->Option TI}{Γ:bE}{l:List Oper}{Q:Exit->St->Prop}{fuel:Nat}{aD oG:Array Bool}{I bS:St}{o:Oper}{i:Nat}
structure h2(P:Program)(Γ:bE)(l:List Oper)(Q:Exit->St->Prop)(fuel:Nat)(aD:Array Bool)(I:St):Prop where
 run:∀(a:Act)(e:ay),bw Γ I e a->wpAny P .any l.toArray (iZ Γ Q) fuel aD a e.w
theorem Gg{id:Nat}(hm:P.follows .mixedOrders=true)(h:h2 P Γ l Q l.length (Array.replicate l.length false) I):aJ P Γ (.region id l.toArray true) Q I:=⟨λ a e L=>by
 have hg:jI e {e with w:=e.w.drew}:=⟨(Below.refl _ _).drew,λ _ _=>rfl,rfl,rfl,rfl⟩;have u:=h.run a _ (L.grow hg);exact wp_region_any hm (by simpa using u)⟩
def nX(P:Program)(Γ:bE)(l:List Oper)(Q:Exit->St->Prop)(fuel:Nat)(aD:Array Bool):Exit->St->Prop:=λ ex I=>match ex with
 |.normal=>h2 P Γ l Q fuel aD I
 |ex=>Q ex I
theorem nq(h:h2 P Γ l Q fuel aD I):nX P Γ l Q fuel aD .normal I:=h
theorem CY(X:l[i]?=some o)(M:aD.setIfInBounds i true=oG)(h:bp P Γ l (nX P Γ l Q fuel oG) [o] I){a:Act}{e:ay}(L:bw Γ I e a):wpOp P l.toArray (iZ Γ Q) i (wpAny P .any l.toArray (iZ Γ Q) fuel (aD.setIfInBounds i true)) a e.w:=by
 rw[M];have u:=h.run a e L;have gZ:l.toArray[i]?=some o:=by simpa using X
 have D:wpOp P l.toArray (iZ Γ (nX P Γ l Q fuel oG)) i (wpList P l.toArray (iZ Γ (nX P Γ l Q fuel oG)) []) a e.w:=by unfold wpOp;simp only[gZ];exact u
 have K:=JS (iH:=iZ Γ Q) (λ ex a w cP hp=>by
  obtain⟨bn,V,h4,h5,h6⟩:=hp;refine⟨bn,V,h4,h5,?_⟩;unfold nX at h6;split at h6
  ·exact absurd rfl cP
  ·exact h6) D
 refine wpOp_mono (λ bu aH hh=>?_) K;obtain⟨bn,V,rfl,ea,hA⟩:=hh;exact h2.run hA bu V ea
theorem Qv(hr:Region.ready .any l.toArray aD=[i])(X:l[i]?=some o)(M:aD.setIfInBounds i true=oG)(h:bp P Γ l (nX P Γ l Q fuel oG) [o] I):h2 P Γ l Q (fuel+1) aD I:=⟨λ a e L=>wpAny_all hr (by simp) λ j hj=>by
 obtain rfl:j=i:=by simpa using hj
 exact CY X M h L⟩
theorem Qx{j:Nat}{oj:Oper}{Np:Array Bool}(hr:Region.ready .any l.toArray aD=[i,j])(X:l[i]?=some o)(ii:l[j]?=some oj)(M:aD.setIfInBounds i true=oG)(dz:aD.setIfInBounds j true=Np)(h:bp P Γ l (nX P Γ l Q fuel oG) [o] I)(D:bp P Γ l (nX P Γ l Q fuel Np) [oj] I):h2 P Γ l Q (fuel+1) aD I:=⟨λ a e L=>wpAny_all hr (by simp) λ k J=>by
 rcases List.mem_cons.1 J with rfl|J
 ·exact CY X M h L
 ·obtain rfl:k=j:=by simpa using J
  exact CY ii dz D L⟩
theorem Qu(hr:Region.ready .any l.toArray aD=[])(h:Q .normal I):h2 P Γ l Q fuel aD I:=⟨λ _ e L=>wpAny_done hr ⟨I,e,rfl,L,h⟩ fuel⟩
def xO(P:Program)(Γ:bE)(l:List Oper)(o:Oper)(I:St)(d:F):Prop:=∀(a:Act)(e:ay),bw Γ I e a->∃v,Yields P l.toArray o v a/\bt e v d
theorem Qw{t:Nat}{d:F}(hs:Region.noSelect l.toArray=true)(hf:Region.free .any l.toArray aD i=true)(hr:(Region.ready .any l.toArray aD).contains i=true)(M:aD.setIfInBounds i true=oG)(hq:∀c bn,¬Q (.panic c) bn)(X:l[i]?=some o)(G:o.dst=some t)(bh:Nat.blt t Γ.n=true)(hy:xO P Γ l o I d)(h:h2 P Γ l Q fuel oG ⟨(t,d)::I.s,I.b,I.g⟩):h2 P Γ l Q (fuel+1) aD I:=⟨λ a e L=>by
 obtain⟨v,hv,nR⟩:=hy a e L;refine wpAny_take (by simpa using X) hs hf hr (λ c a w hp=>?_) hv ?_
 ·obtain⟨bn,_,_,_,h5⟩:=hp;exact absurd h5 (hq c bn)
 ·rw[M,G];have:=L.put (dst:=o.dst) (oS G bh) nR;rw[G] at this;exact h.run _ e this⟩
theorem Zg{x:Operand}{d:F}(X:o.op=.move x)(hg:gd l o (Y I.s)=some true)(T:ev (Y I.s) x=some d):xO P Γ l o I d:=λ a e L=>by
 have u:=(L.h1 o.op.operands).1 x (by rw[X];simp[Op.operands]) _ T;refine⟨a.eval x,.inl ⟨kS L hg,λ w=>?_⟩,u⟩;obtain⟨dst,op,type,pos,after,guard⟩:=o;simp only at X;subst X
 rfl
theorem Zh{x:Operand}{b of:Nat}(X:o.op=.nilCheck x)(hg:gd l o (Y I.s)=some true)(T:ev (Y I.s) x=some (.ptr b of)):xO P Γ l o I (.ptr b of):=λ a e L=>by
 have u:=(L.h1 o.op.operands).1 x (by rw[X];simp[Op.operands]) _ T;refine⟨a.eval x,.inl ⟨kS L hg,λ w=>?_⟩,u⟩;generalize dj:a.eval x=v at u;cases u with
 |ptr R=>
  obtain⟨dst,op,type,pos,after,guard⟩:=o;simp only at X;subst X;simp only[execOp,dj]
  rfl
theorem Zf(hT:cR P ah){ty:TypeId}{x:Operand}{f b of ft b6 sz z1 z2:Nat}{z3:Value}{fs:List (TypeId×Nat×Nat)}(X:o.op=.fieldAddr ty x f)(ht:ah ty=some ⟨.struct fs,z1,z2,z3⟩)(hf:fs[f]?=some (ft,b6,sz+1))(hg:gd l o (Y I.s)=some true)(T:ev (Y I.s) x=some (.ptr b of)):xO P Γ l o I (.ptr b (of+b6)):=λ a e L=>by
 have u:=(L.h1 o.op.operands).1 x (by rw[X];simp[Op.operands]) _ T;generalize dj:a.eval x=v at u;cases u with
 |ptr R=>refine⟨_,.inl ⟨kS L hg,λ w=>?_⟩,.ptr R⟩;obtain⟨dst,op,type,pos,after,guard⟩:=o;simp only at X;subst X;simp[execOp,dj,GD hT ht hf]
end
theorem KE{B:Nat->Bool}:∀{cs:List F},eN cs->tY B cs=cs
 |[],_=>rfl
 |d::cs,h=>by
  have u:∀B ak,F.ok B ak d=true/\F.ok.ec B ak cs=true:=λ B ak=>by
   have:=h B ak
   simpa only[F.ok.ec,Bool.and_eq_true] using this
  show tp B d::tY B cs=_;rw[KE λ B ak=>(u B ak).2,tp,(u B λ _=>true).1]
  rfl
theorem Dh{B H:Nat->Bool}{s U:List (Nat×F)}{b bj:List (Nat×List F)}(hs:kA B s some=some U)(R:hl H B b=bj):kA B s (λ U=>kQ H B b (λ bj=>some (U,bj)))=some (U,bj):=by rw[sD] at hs⊢;cases hs;rw[sC,R]
theorem vL{B H:Nat->Bool}{aa:Nat}{c bU:List F}{l ik:List (Nat×List F)}(u:H aa=false)(D:yi B c some=some bU)(K:hl H B l=ik):hl H B ((aa,c)::l)=(aa,bU)::ik:=by
 rw[Gu] at D;cases D;rw[hl,u,K]
 rfl
theorem rt{B H:Nat->Bool}{aa:Nat}{c:List F}{l ik:List (Nat×List F)}(u:H aa=false)(D:eN c)(K:hl H B l=ik):hl H B ((aa,c)::l)=(aa,c)::ik:=by
 rw[hl,u,K,KE D]
 rfl
theorem Df{B H:Nat->Bool}{aa:Nat}{c:List F}{l ik:List (Nat×List F)}(u:H aa=true)(K:hl H B l=ik):hl H B ((aa,c)::l)=ik:=by
 rw[hl,u,K]
 rfl
section
variable{P:Program}{ah:Nat->Option TI}{Γ:bE}{l:List Oper}{Q iH:Exit->St->Prop}{fuel:Nat}{aD oG:Array Bool}{I:St}{o:Oper}{i:Nat}
theorem JQ{ap:Array Oper}{Q iH:Exit->Act->World->Prop}(hn:∀a w,Q .normal a w->iH .normal a w)(hq:∀ex a w,ex≠.normal->Q ex a w->iH ex a w):∀(fuel:Nat)(aD:Array Bool)(a:Act)(w:World),wpAny P .any ap Q fuel aD a w->wpAny P .any ap iH fuel aD a w
 |0,_,a,w,h=>⟨h.1,hn a w h.2⟩
 |fuel+1,_,a,w,h=>⟨λ hr=>hn a w (h.1 hr),λ i Z=>wpOp_mono (λ bu aH hh=>JQ hn hq fuel _ bu aH hh) (JS hq (h.2 i Z))⟩
theorem CX(h:h2 P Γ l (λ ex I=>ex=.normal/\Q .normal I) fuel aD I):h2 P Γ l Q fuel aD I:=⟨λ a e L=>JQ (λ _ _ hh=>by obtain⟨bn,V,u,D,_,h4⟩:=hh;exact⟨bn,V,u,D,h4⟩) (λ ex _ _ cP hh=>by obtain⟨bn,V,_,_,K,_⟩:=hh;exact absurd K cP) _ _ _ _ (h.run a e L)⟩
theorem Ze{x:Operand}{k:Nat}{ds:List F}{d:F}(X:o.op=.extract x k)(hg:gd l o (Y I.s)=some true)(T:ev (Y I.s) x=some (.bc ds))(G:ds[k]?=some d):xO P Γ l o I d:=λ a e L=>by
 have u:=(L.h1 o.op.operands).1 x (by rw[X];simp[Op.operands]) _ T;generalize dj:a.eval x=v at u;cases u with
 |bc M hh=>
  rename_i vs;have J:k<vs.length:=by rw[M];exact(List.getElem?_eq_some_iff.1 G).1
  refine⟨vs[k],.inl ⟨kS L hg,λ w=>?_⟩,hh k _ d (List.getElem?_eq_getElem J) G⟩;obtain⟨dst,op,type,pos,after,guard⟩:=o;simp only at X;subst X;simp[execOp,dj,Instr.extract,J]
def F9(ap:Array Oper)(c j:Nat):Bool:=(List.range c).all (λ i=>jd ap ap.size c i&&match ap[i]? with|some o=>o.dst.isSome|none=>true)&&(List.range ap.size).all (λ i=>decide (i<=c)||i==j||jd ap ap.size i c)
theorem YN{av:Nat->Option (Nat×Gr)}{c i:Nat}{p:Nat×Gr}(h:∀g,dZ av (λ _=>none) c g=none)(Z:i<c)(hp:av i=some p):False:=by
 rcases CJ (av:=av) (ak:=λ _=>none) (h:=p.1) c with⟨_,D⟩|⟨j,Gj,_,_,K,_⟩
 ·exact D i p Z hp rfl
 ·rw[h] at K;cases K
theorem Q4(c j nm:Nat){id tj:Nat}{l1:List Oper}{oc oj:Oper}{cells:List F}{B:List (Nat×List F)}{LA LB:Array Bool}{na nb:Nat}(hs:lm c l some=some l1)(hv:nz [] I.b some=some B)(hm:P.follows .mixedOrders=true)(hB:pq l.toArray Γ.n=true)(hA:F9 l.toArray c j=true)(wv:l[c]?=some oc)(DE:Nat.blt c j=true)(ii:l[j]?=some oj)(HC:oj.guard=none)(pR:oj.dst=some tj)(HW:∀(S:Nat->Option F)(re:Nat->Option (List F)),dm P oj S re (.ptr nm 0) (some (nm,cells)))
 (SB:((List.range l.length).map λ i=>decide (i<c)).toArray=LA)(SC:((List.range l.length).map λ i=>decide (i<c)||i==j).toArray=LB)(HR:lL LA=na)(fy:lL LB=nb)(hg:I.g=[])
 (h:b9 P Γ.n l B B (λ bn=>bn.g=[]/\Y bn.b nm=none/\Y B nm=none/\h2 P Γ l Q na LA bn/\h2 P Γ l Q nb LB ⟨(tj,.ptr nm 0)::bn.s,(nm,cells)::bn.b,bn.g⟩) 0 [] [] l1 I):aJ P Γ (.region id l.toArray true) Q I:=by
 obtain⟨nL,hs⟩:=qj hs;cases hs;have DE:c<j:=by simpa using DE
 obtain⟨re,K,_,_,m9⟩:=xF _ _ _ _ hv;cases K;have bT:l.toArray.size=l.length:=by simp
 have nh:j<l.length:=(List.getElem?_eq_some_iff.1 ii).1;have i9:(l.take c).length=c:=by rw[List.length_take];omega
 have g1:∀i,i<c->l[i]?=(l.take c)[i]?:=λ i Z=>by rw[List.getElem?_take_of_lt Z]
 have aR:=E6 hB;obtain⟨F1,N1,U1,M1,mX,⟨i8,l7,Ud,Sr,qA⟩,AW,vR,rz,Iw⟩:=b9.extract (l.take c) 0 [] [] I h;rw[i9] at AW vR rz;have B8:∀i o,i<c->l[i]?=some o->rk P l i (Y B) (Y B) (dL (l.take c) F1 (Y I.s) i) (dp N1 (Y I.b) i) (dZ M1 (Y I.g) i) (fz U1 N1 [] i) (fF (l.take c) M1 [] i) o (F1 i) (N1 i) (U1 i) (M1 i):=λ i o Z X=>by
  have:=Iw i o (by rw[<-g1 i Z];exact X);rw[Nat.zero_add] at this;exact this
 simp only[F9,Bool.and_eq_true] at hA;have GX:∀i,i<c->jd l.toArray l.toArray.size c i=true/\∀o,l[i]?=some o->o.dst.isSome=true:=λ i Z=>by
  have h5:=List.all_eq_true.1 hA.1 i (List.mem_range.2 Z);simp only[Bool.and_eq_true] at h5;exact⟨h5.1,λ o X=>by have h6:=h5.2;rw[show l.toArray[i]?=some o by simpa using X] at h6;exact h6⟩
 have Lj:∀i,i<l.length->c<i->i≠j->jd l.toArray l.toArray.size i c=true:=λ i Z ZU jr=>by
  have h5:=List.all_eq_true.1 hA.2 i (List.mem_range.2 (by rw[bT];exact Z));simp only[Bool.or_eq_true,decide_eq_true_eq,beq_iff_eq] at h5;rcases h5 with(h5|h5)|h5
  ·omega
  ·exact absurd h5 jr
  ·exact h5
 have rI:∀i,i<c->M1 i=none:=λ i Z=>by
  cases hp:M1 i with
  |none=>rfl
  |some p=>
   refine(YN (av:=M1) (c:=c) (λ g=>?_) Z hp).elim;have:Y mX.g g=dZ M1 (Y I.g) c g:=by rw[AW]
   rw[i8,hg] at this;exact this.symm
 have rL:∀i,i<c->U1 i=false:=λ i Z=>by
  have dw:i<l.length:=by omega
  have X:=List.getElem?_eq_getElem dw;rcases B8 i _ Z X with⟨_,_,_,h5,_⟩|⟨_,_,_,h5,_⟩|⟨_,_,_,_,G,_⟩|⟨_,_,_,_,_,_,_,_,_,h5,_⟩
  ·exact h5
  ·exact h5
  ·have:=(GX i Z).2 _ X;rw[G] at this;cases this
  ·exact h5
 let bq:Nat->F:=λ i=>if i<c then F1 i else if i=j then .ptr nm 0 else .any
 let N:Nat->Option (Nat×List F):=λ i=>if i<c then N1 i else if i=j then some (nm,cells) else none
 have Ar:∀i,i<c->bq i=F1 i:=λ i Z=>if_pos Z
 have vp:∀i,i<c->N i=N1 i:=λ i Z=>if_pos Z
 have Fj:bq j=.ptr nm 0:=by simp only[bq];rw[if_neg (by omega)];simp
 have Nj:N j=some (nm,cells):=by simp only[N];rw[if_neg (by omega)];simp
 have Nn:∀i,c<=i->i≠j->N i=none:=λ i Z jr=>by simp only[N];rw[if_neg (by omega),if_neg jr]
 have vS:∀i,i<=c->dL l bq (Y I.s) i=dL (l.take c) F1 (Y I.s) i:=λ i Z=>JD i λ k J=>⟨g1 k (by omega),Ar k (by omega)⟩
 have AX:∀i,i<=c->dp N (Y I.b) i=dp N1 (Y I.b) i:=λ i Z=>Aj i λ k J=>vp k (by omega)
 have eG:∀(av:Nat->Option (Nat×Gr)) i,(∀k,k<i->av k=none)->dZ av (Y I.g) i=Y I.g:=λ av i hM=>by
  induction i with
  |zero=>rfl
  |succ i ih=>
   rw[dZ,hM i (Nat.lt_succ_self i),ih λ k J=>hM k (by omega)]
   rfl
 have eL:∀(ik:List Oper)(av:Nat->Option (Nat×Gr)) i,(∀k,k<i->av k=none)->fF ik av [] i=[]:=λ ik av i hM=>by
  induction i with
  |zero=>rfl
  |succ i ih=>
   rw[fF,hM i (Nat.lt_succ_self i),ih λ k J=>hM k (by omega)]
   rfl
 have eD:∀(bM:Nat->Bool)(jV:Nat->Option (Nat×List F)) i,(∀k,k<i->bM k=false)->fz bM jV [] i=[]:=λ bM jV i hU=>Jy i hU
 have Sx:∀i,i<=j->dp N (Y I.b) i nm=none:=λ i Z=>by
  have uk:dp N1 (Y I.b) c nm=none:=by rw[<-rz];exact l7
  obtain⟨q1,q2⟩:=py c uk;refine Fi i q1 λ k p J hp=>?_
  by_cases HI:k<c
  ·rw[vp k HI] at hp;exact q2 k p HI hp
  ·rw[Nn k (by omega) (by omega)] at hp;cases hp
 let sd:Nat->Bool:=λ i=>decide (i<c)||i==j
 have EN:∀i,sd i=true->i<c\/i=j:=λ i Z=>by
  simp only[sd,Bool.or_eq_true,decide_eq_true_eq,beq_iff_eq] at Z;exact Z
 refine⟨λ a e L=>?_⟩;have nJ:∀i,i<l.length->∃o,l[i]?=some o:=λ i Z=>⟨l[i],List.getElem?_eq_getElem Z⟩
 have:=An (P:=P) (Γ:=Γ) (I:=I) (ap:=l.toArray) (H:=l.toArray.size) (λ _=>false) (λ i=>i==c) sd aR (Gk l.toArray).1 (Nat.le_refl _) (bq:=bq) (N:=N) (bM:=λ _=>false) (av:=λ _=>none) (B:=B) (a0:=a) (Q:=iZ Γ Q)
  (λ i Z=>Nn i (by omega) (by omega)) (λ _ _=>rfl)
  (λ i Z=>by rcases Z with Z|Z;·cases Z
             ·rw[show i=c by simpa using Z];exact Nn c (Nat.le_refl _) (by omega))
  (λ _ _=>rfl)
  (λ i o X=>by
   have Z:i<l.length:=by have:=(Array.getElem?_eq_some_iff.1 X).1;omega
   by_cases wl:i=c
   ·exact .inr (.inl (by simp[wl]))
   ·by_cases jr:i=j
    ·exact .inl (by simp[sd,jr])
    ·rcases Nat.lt_or_ge i c with h5|h5
     ·exact .inl (by simp[sd,h5])
     ·exact .inr (.inr ⟨c,by simp,Lj i Z (by omega) jr⟩))
  (.inl λ _ _=>⟨rfl,rfl⟩) (λ b cs=>m9.get)
  (λ i o Z X _ _ ww=>by
   have gZ:l[i]?=some o:=by simpa using X
   rw[eG _ i (λ _ _=>rfl),eL _ _ i (λ _ _=>rfl),eD _ _ i (λ _ _=>rfl)];show rk P l i (Y B) (Y I.b) (dL l bq (Y I.s) i) (dp N (Y I.b) i) (Y I.g) [] [] o (bq i) (N i) false none;rcases EN i ww with h5|rfl
   ·have cM:=B8 i o h5 gZ;rw[eG _ i (λ k J=>rI k (by omega)),eL _ _ i (λ k J=>rI k (by omega)),eD _ _ i (λ k J=>rL k (by omega)),rL i h5,rI i h5,<-vS i (by omega),<-AX i (by omega),<-Ar i h5,<-vp i h5] at cM;rcases cM with⟨a1,a2,a3,a4,a5⟩|cM|⟨_,_,_,_,G,_⟩|⟨_,_,_,_,_,_,_,_,_,_,hh⟩
    ·exact .inl ⟨a1,.inl (by rcases a2 with a2|⟨_,a2⟩<;>exact a2),a3,a4,a5⟩
    ·exact .inr (.inl cM)
    ·have:=(GX i h5).2 o gZ;rw[G] at this;cases this
    ·cases hh
   ·rw[ii] at gZ;cases gZ;rw[Fj,Nj];refine .inl ⟨?_,.inl (HW _ _),λ p hp=>?_,rfl,rfl⟩
    ·unfold gd;rw[HC]
    ·cases hp;exact⟨Sx i (Nat.le_refl _),Ud⟩)
  (λ aD b V hv q2 q3 q4=>by
   have u:=q2 c (by omega);rw[q4 c (by simp)] at u;cases u)
  (λ fuel aD bu V i Z qI hr cf gq _=>by
   obtain rfl:i=c:=by simpa using Z
   have X:l.toArray[i]?=some oc:=by simpa using wv
   obtain⟨jw,o',gZ,ly⟩:=mem_ready.1 hr;rw[X] at gZ;cases gZ;obtain⟨jP,dw⟩:=lV jw;have uy:∀k,k<i->aD.getD k false=true:=λ k J=>xp cf.closed _ _ _ oc X ly (GX k J).1
   have qP:∀k,i<=k->k≠j->aD.getD k false=false:=λ k J js=>by
    cases M:aD.getD k false with
    |false=>rfl
    |true=>
     by_cases lC:k=i
     ·rw[lC,jP] at M;cases M
     ·have Me:k<l.length:=by
       rcases Nat.lt_or_ge k l.length with h5|h5
       ·exact h5
       ·have:aD[k]?=none:=Array.getElem?_eq_none (by rw[cf.kK,bT];exact h5);simp[this] at M
      obtain⟨qa,wx⟩:=nJ k Me;have Mu:l.toArray[k]?=some qa:=by simpa using wx
      have:=xp cf.closed _ _ _ qa Mu (λ x T R=>cf.closed k qa Mu M x T R) (Lj k Me (by omega) js);rw[jP] at this;cases this
   have Mj:aD.size=l.length:=by rw[cf.kK,bT]
   have Mw:∀{aP:Array Bool}{n:Nat}{bn:St},aD=aP->n=fuel+1->bw Γ bn V bu->h2 P Γ l Q n aP bn->wpOp P l.toArray (iZ Γ Q) i (wpAny P .any l.toArray (iZ Γ Q) fuel (aD.setIfInBounds i true)) bu V.w:=λ hL hn wb Su=>by
    subst hL;subst hn;exact(Su.run bu V wb).2 i hr
   cases BB:aD.getD j false with
   |false=>
    have hL:aD=LA:=by
     rw[<-SB];refine Array.ext (by simp[Mj]) λ k h5 h6=>?_
     have h7:k<l.length:=by omega
     have h8:aD.getD k false=aD[k]:=by simp[h5]
     rw[<-h8];simp only[List.getElem_toArray,List.getElem_map,List.getElem_range];rcases Nat.lt_or_ge k i with h9|h9
     ·rw[uy k h9];simp[h9]
     ·by_cases js:k=j
      ·rw[js,BB];simp;omega
      ·rw[qP k h9 js];simp;omega
    refine Mw hL (by rw[<-HR,<-hL];omega) ?_ Sr;refine cf.om aR (H:=i) (by rw[vR];exact(vS i (Nat.le_refl _)).symm) (by rw[rz];exact(AX i (Nat.le_refl _)).symm) (by rw[eG _ i (λ _ _=>rfl),i8,hg]) uy λ t h5 h6=>?_
    have h7:aD.getD t false=false:=by
     by_cases js:t=j
     ·rw[js];exact BB
     ·exact qP t h5 js
    have h8:t<aD.size:=by rw[cf.kK];exact h6
    simp[h8] at h7⊢;exact h7
   |true=>
    have hL:aD=LB:=by
     rw[<-SC];refine Array.ext (by simp[Mj]) λ k h5 h6=>?_
     have h7:k<l.length:=by omega
     have h8:aD.getD k false=aD[k]:=by simp[h5]
     rw[<-h8];simp only[List.getElem_toArray,List.getElem_map,List.getElem_range];rcases Nat.lt_or_ge k i with h9|h9
     ·rw[uy k h9];simp[h9]
     ·by_cases js:k=j
      ·rw[js,BB];simp
      ·rw[qP k h9 js];simp[js];omega
    refine Mw hL (by rw[<-fy,<-hL];omega) ?_ qA;have eP:∀k,aD.getD k false=true->k<i\/k=j:=λ k J=>by
     by_cases js:k=j
     ·exact .inr js
     ·rcases Nat.lt_or_ge k i with h5|h5
      ·exact .inl h5
      ·rw[qP k h5 js] at J;cases J
    have Mt:l.toArray[j]?=some oj:=by simpa using ii
    refine⟨cf.size,cf.df,λ t d ht=>?_,λ b cs R=>?_,λ b R=>?_,λ g=>?_,cf.env⟩
    ·simp only[cL] at ht;split at ht
     ·rename_i H5;subst H5;cases ht;rw[<-Fj];exact cf.tq j oj _ Mt BB pR
     ·rename_i H5;rw[vR,<-vS i (Nat.le_refl _)] at ht
      by_cases Ht:∃(k:Nat)(qa:Oper),k<i/\l.toArray[k]?=some qa/\qa.dst=some t
      ·obtain⟨k,qa,lC,J,G⟩:=Ht;have:=Fo (ap:=l.toArray) aR (bq:=bq) (S:=Y I.s) J G i lC;rw[this] at ht;cases ht;exact cf.tq k qa t J (uy k lC) G
      ·have:=Fp (ap:=l.toArray) (bq:=bq) (S:=Y I.s) (t:=t) i λ k qa lC J G=>Ht ⟨k,qa,lC,J,G⟩
       rw[this] at ht;rw[cf.kept t λ k qa J M G=>?_]
       ·exact cf.bm t d ht
       ·rcases eP k M with h5|rfl
        ·exact Ht ⟨k,qa,h5,J,G⟩
        ·rw[Mt] at J;cases J;rw[pR] at G;cases G;exact H5 rfl
    ·simp only[cL] at R;split at R
     ·rename_i iw;subst iw;cases R;refine cf.news j (nm,cells) BB Nj λ k q J M hq=>?_
      rcases eP k M with h5|h5<;>omega
     ·rename_i iw;rw[rz,<-AX i (Nat.le_refl _)] at R;rcases Fl i R with⟨u,D⟩|⟨k,J,hp,D⟩
      ·refine cf.boxes b cs u λ k p M hp=>?_
       rcases eP k M with h5|rfl
       ·exact D k p h5 hp
       ·rw[Nj] at hp;cases hp;exact λ e=>iw e
      ·refine cf.news k _ (uy k J) hp λ jb q dk M hq=>?_
       rcases eP jb M with h5|rfl
       ·exact D jb q dk h5 hq
       ·rw[Nj] at hq;cases hq;exact λ e=>iw e
    ·simp only[cL] at R;split at R
     ·cases R
     ·rename_i iw;rw[rz,<-AX i (Nat.le_refl _)] at R;obtain⟨u,D⟩:=py i R;refine cf.dX b u λ k p M _ hp=>?_
      rcases eP k M with h5|rfl
      ·exact D k p h5 hp
      ·rw[Nj] at hp;cases hp;exact λ e=>iw e
    ·rw[i8,cf.gs g λ _ _ _ hp=>by cases hp];rw[hg])
  l.toArray.size (Array.replicate l.toArray.size false) a {e with w:=e.w.drew} (Fu _).symm
  ?_ (λ t h5 ht=>by omega) (λ i Z=>by cases Z) (λ i Z=>by
   have:i=c:=by simpa using Z
   have de:c<l.length:=by omega
   simp[this,de])
 ·exact wp_region_any hm this
 ·have HD:jI e {e with w:=e.w.drew}:=⟨(Below.refl _ _).drew,λ _ _=>rfl,rfl,rfl,rfl⟩;have ea:=L.grow HD;refine⟨by simp,L.size,L.df,λ i o _ M=>?_,λ i o t _ M=>?_,λ t _=>rfl,ea.bm,λ b cs R _=>ea.boxes b cs R,λ i p M=>?_,λ b R _=>ea.dX b R,λ g _=>ea.gs g,λ i p M=>?_,ea.env⟩
  all_goals(simp[Array.getElem?_replicate] at M;split at M<;>simp at M)
theorem Vm(ws:List Nat){l3:List Oper}{m:Nat}{B:List (Nat×List F)}(hv:nz ws I.b some=some B)(J:wS I.s (l.take m)=true)(h:b9 P Γ.n l B I.b (Q .normal) m [] [] l3 I):BY P Γ l l3 m Q .normal I:=by obtain⟨re,K,_,_,m9⟩:=xF _ _ _ _ hv;cases K;exact⟨B,m9,J,h⟩
end
section
variable{Γ:bE}{l l0:List Oper}{Q:Exit->St->Prop}{fuel:Nat}{aP:Array Bool}{I:St}{o o2:Oper}{t:Nat}{d:F}
theorem tA(i:Nat)(h:h2 prog Γ l Q fuel (aP.setIfInBounds i true) ⟨(t,d)::I.s,I.b,I.g⟩)(hs:Region.noSelect l.toArray=true:=by decide+kernel)(hf:Region.free .any l.toArray aP i=true:=by decide+kernel)(hr:(Region.ready .any l.toArray aP).contains i=true:=by decide+kernel)(hq:∀c bn,¬Q (.panic c) bn:=by intro _ _ h;first|(cases h.1;done)|(rcases h.1 with h|h<;>cases h))(X:l[i]?=some o:=by exact rfl)(G:o.dst=some t:=by exact rfl)(M:Nat.blt t Γ.n=true:=by exact rfl)(hy:xO prog Γ l o I d:=by first|exact Zg rfl rfl rfl|exact Ze rfl rfl rfl rfl|exact Zh rfl rfl rfl|exact Zf aw rfl rfl rfl rfl rfl):h2 prog Γ l Q (fuel+1) aP I:=Qw hs hf hr rfl hq X G M hy h
theorem oA(i:Nat)(h:bp prog Γ l (nX prog Γ l Q fuel (aP.setIfInBounds i true)) [o] I)(hr:Region.ready .any l.toArray aP=[i]:=by decide+kernel)(X:l[i]?=some o:=by exact rfl):h2 prog Γ l Q (fuel+1) aP I:=Qv hr X rfl h
theorem oB(i j:Nat)(h:bp prog Γ l (nX prog Γ l Q fuel (aP.setIfInBounds i true)) [o] I)(D:bp prog Γ l (nX prog Γ l Q fuel (aP.setIfInBounds j true)) [o2] I)(hr:Region.ready .any l.toArray aP=[i,j]:=by decide+kernel)(X:l[i]?=some o:=by exact rfl)(uv:l[j]?=some o2:=by exact rfl):h2 prog Γ l Q (fuel+1) aP I:=Qx hr X uv rfl rfl h D
theorem dA(h:Q .normal I)(hr:Region.ready .any l.toArray aP=[]:=by decide+kernel):h2 prog Γ l Q fuel aP I:=Qu hr h
theorem xR(c j nm na nb:Nat){id tj:Nat}{l1:List Oper}{oc oj:Oper}{cells:List F}{B:List (Nat×List F)}
 (h:b9 prog Γ.n l B B (λ bn=>bn.g=[]/\Y bn.b nm=none/\Y B nm=none/\h2 prog Γ l Q na ((List.range l.length).map λ i=>decide (i<c)).toArray bn/\h2 prog Γ l Q nb ((List.range l.length).map λ i=>decide (i<c)||i==j).toArray ⟨(tj,.ptr nm 0)::bn.s,(nm,cells)::bn.b,bn.g⟩) 0 [] [] l1 I)
 (hs:lm c l some=some l1:=by exact rfl)(hv:nz [] I.b some=some B:=by exact rfl)(hm:prog.follows .mixedOrders=true:=by exact rfl)(hB:pq l.toArray Γ.n=true:=by kernel_rfl)(hA:F9 l.toArray c j=true:=by kernel_rfl)(wv:l[c]?=some oc:=by exact rfl)(DE:Nat.blt c j=true:=by exact rfl)(ii:l[j]?=some oj:=by exact rfl)(HC:oj.guard=none:=by exact rfl)(pR:oj.dst=some tj:=by exact rfl)(HW:∀(S:Nat->Option F)(re:Nat->Option (List F)),dm prog oj S re (.ptr nm 0) (some (nm,cells)):=by exact λ _ _=>tQ aw _ rfl rfl rfl rfl)
 (HR:lL ((List.range l.length).map λ i=>decide (i<c)).toArray=na:=by kernel_rfl)(fy:lL ((List.range l.length).map λ i=>decide (i<c)||i==j).toArray=nb:=by kernel_rfl)(hg:I.g=[]:=by exact rfl):aJ prog Γ (.region id l.toArray true) Q I:=Q4 c j nm hs hv hm hB hA wv DE ii HC pR HW rfl rfl HR fy hg h
theorem nx(h:h2 prog Γ l Q fuel aP I):bp prog Γ l0 (nX prog Γ l Q fuel aP) [] I:=jK (nq h)
end
section
variable{P:Program}{Γ:bE}{Q:Exit->St->Prop}{x y:Code}{I:St}
theorem Gh{p q r ar B:Prop}(u:p)(D:q)(K:r)(hB:B)(hA:B->ar):p/\q/\r/\ar/\B:=⟨u,D,K,hA hB,hB⟩
def KF{dE:Type}(Γ:bE)(ok:dE->Prop)(iX:dE->St)(Q:Exit->St->Prop):Exit->St->Prop
 |.normal,I=>∃p,ok p/\bF Γ I (iX p)
 |ex,I=>Q ex I
theorem C4{dE:Type}(ok:dE->Prop)(iX:dE->St)(u:aJ P Γ x (KF Γ ok iX Q) I)(D:∀p,ok p->aJ P Γ y Q (iX p)):aJ P Γ x (ql (aJ P Γ y Q) Q) I:=
 tS u λ ex bS h=>by
  cases ex with
  |normal=>obtain⟨p,hp,hg⟩:=h;exact da hg (D p hp)
  |_=>exact h
theorem I7{dE:Type}{ok:dE->Prop}{iX:dE->St}{c:List PanicEntry}(h:Q (.panic c) I):KF Γ ok iX Q (.panic c) I:=h
theorem I8{l:List Oper}{fuel:Nat}{aD:Array Bool}{c:List PanicEntry}(h:Q (.panic c) I):nX P Γ l Q fuel aD (.panic c) I:=h
end
abbrev sx(l:ab)(E m:Int)(log:List aB)(s:af):bH:=[(40,qd l E m log s),(41,[.ptr 40 0]),(46,[.fn (.func 145) [] [.ptr 41 0,.ptr 46 0]])]
structure Ap where
 n:Int
 o:br
 s:af
 ex:Bool
 k:Nat
 ps:List Pl
abbrev Rs(p:Ap):F:=.bc [z p.n,.agg [z p.o.val,dB p.o.is,z p.o.err,z p.o.cJ,.p (.sl p.ex p.k p.ps)]]
structure FA(log:List aB)(m:Except aS ((Int×br)×af))(s:af)(p:Ap):Prop where
 eq:m=.ok ((p.n,p.o),p.s)
 fi:gF log s p.s
 n0:0<=p.n
 n1:p.n<65536
def CR(bx:af->bH)(log:List aB)(m:Except aS ((Int×br)×af))(s:af):F->bH->Prop:=λ d O=>∃p:Ap,FA log m s p/\d=Rs p/\O=bx p.s
theorem gF.xD{log:List aB}{s t aa:af}(h:gF log s t)(D:gF log t aa):gF log s aa:=⟨Nat.le_trans h.made D.made,D.le,D.ok,by have:=h.len;have:=D.len;have:=h.made;have:=D.made;omega⟩
set_option maxHeartbeats 32000000 in
theorem KB(l:ab)(hL:bQ l)(hS:0<=l.aA)(hM:iY l)(E m:Int)(log:List aB)(k:Nat)(b:Int)(s:af)(nI:b<65536)(h0:lN log s)
 (ih:b≠0->∀s1,lN log s1->fu prog 145 [40,41,46] [z (lj b),.ptr 41 0,.ptr 46 0] (sx l E m log s1) (CR (sx l E m log) log (mx l E m k (lj b) log s1) s1) (vq (sx l E m log) (mx l E m k (lj b) log s1))):
 fu prog 145 [40,41,46] [z b,.ptr 41 0,.ptr 46 0] (sx l E m log s) (CR (sx l E m log) log (mx l E m (k+1) b log s) s) (vq (sx l E m log) (mx l E m (k+1) b log s)):=by
 generalize A:mx l E m (k+1) b log s=aK;rw[mx] at A;refine sX func145 ntmps145 λ w cl own kf=>?_
 refine gm ?_;refine z2 ?_;refine nA 47 ?_;refine go ?_;refine gW 9 [] ?_;refine cA (AK l hL hM m b) ?_;refine go ?_;refine xP (Af l E m log s ⟨1,fA l m b,0,0⟩ h0) ?_;rintro d O ⟨r,s1,bJ,fI,rfl,rfl⟩;rw[au bJ] at A;have u:=h0.next fI;have hw:=j8 r.val;refine gA (jS r.val) ?_;generalize k1:decide ((az r.val).idx=0)=cc;cases cc
 ·rw[if_pos (of_decide_eq_false k1)] at A;refine go ?_;exact fX _ ⟨⟨(az r.val).idx,lH,s1,true,0,[]⟩,⟨A.symm,fI,hw.1,hw.2⟩,rfl,rfl⟩
 rw[if_neg (λ h=>h (of_decide_eq_true k1))] at A;refine go ?_;generalize k2:decide (b=0)=cc;cases cc
 rotate_left
 ·rw[if_pos (of_decide_eq_true k2)] at A;refine go ?_;exact fX _ ⟨⟨0,⟨0,false,1,-1,[]⟩,s1,true,0,[]⟩,⟨A.symm,fI,by simp,by simp⟩,rfl,rfl⟩
 have uE:=of_decide_eq_false k2;rw[if_neg uE] at A;refine go ?_;have TE:=ih uE s1 u;refine C4 (λ p:Ap=>FA log (mx l E m k (lj b) log s1) s1 p) (λ p=>⟨[(8,z p.n),(9,.ptr 48 0),(5,.ptr 47 0),(6,z (fA l m b)),(0,z b),(1,.ptr 41 0),(2,.ptr 46 0)],[(40,qd l E m log p.s),(41,[.ptr 40 0]),(46,[.fn (.func 145) [] [.ptr 41 0,.ptr 46 0]]),(47,[z 0,dB false,z 0,z 0,.p (.sl true 0 [])]),(48,[z p.o.val,dB p.o.is,z p.o.err,z p.o.cJ,.p (.sl p.ex p.k p.ps)])],[]⟩) ?_ ?_
 ·have Bo:∀a,mx l E m k (lj b) log s1=.error a->aK=.error a:=λ a h=>by rw[<-A];exact bl h
  refine xR 3 7 48 7 6 ?_;refine gQ (W3 b nI) ?_;refine Gh rfl rfl rfl ?_ (λ hB=>?_)
  all_goals repeat' (first|refine tA 4 ?_|refine tA 5 ?_|refine tA 6 ?_|refine oA 3 ?_|refine oA 7 ?_|refine oA 8 ?_|refine oA 9 ?_|refine oB 3 7 ?_ ?_|exact dA ⟨rfl,⟨p,hp,zX⟩⟩|exact nx hB|refine vX TE ?_ ?_|(rintro v O ⟨a,U,h,rfl,rfl⟩;refine I8 (I7 ?_);refine gP ?_;exact fP _ ⟨a,U,Bo a h,rfl,rfl⟩)|(rintro d O ⟨p,hp,rfl,rfl⟩;refine nx (CX ?_))|(refine nA 48 ?_;first|exact nx hB|refine nx ?_)|((first|refine z2 ?_|refine z5 ?_);refine nx ?_))
 rintro⟨an,ao,s2,GC,GA,I5⟩ ⟨bg,fx,SO,SP⟩;simp only at bg fx SO SP;rw[au bg] at A;have D:=u.next fx;have Ba:=fI.xD fx;simp only at A;refine go ?_;generalize k3:decide (ao.err=0)=cc;cases cc
 ·rw[if_pos (of_decide_eq_false k3)] at A;refine go ?_;refine gW 2 [] ?_;refine go ?_;exact fX _ ⟨⟨0,ao,s2,GC,GA,I5⟩,⟨A.symm,Ba,by simp,by simp⟩,rfl,rfl⟩
 rw[if_neg (λ h=>h (of_decide_eq_true k3))] at A;have HO:=Pg l hL hS hM E m log s2 2 an (yj b) 0 D (by omega);refine go ?_;refine C4 (λ p:(br×aS)×af=>p4 l E 2 an (yj b) 0 log s2=.ok p/\gF log s2 p.2) (λ p=>⟨[(9,.ptr 48 0),(10,.ptr 49 0),(5,.ptr 47 0),(6,z (fA l m b)),(0,z b),(1,.ptr 41 0),(2,.ptr 46 0)],[(40,qd l E m log p.2),(41,[.ptr 40 0]),(46,[.fn (.func 145) [] [.ptr 41 0,.ptr 46 0]]),(47,[z 0,dB false,z 0,z 0,.p (.sl true 0 [])]),(48,[z p.1.1.val,dB p.1.1.is,z p.1.1.err,z p.1.1.cJ,cT p.1.1.gone]),(49,[z p.1.2.kind,z p.1.2.cell,z p.1.2.eh,z p.1.2.new])],[]⟩) ?_ ?_
 ·have Bo:∀a,p4 l E 2 an (yj b) 0 log s2=.error a->aK=.error a:=λ a h=>by rw[<-A];exact bl h
  refine xR 4 8 49 7 6 ?_;refine gQ (RN b) ?_;refine Gh rfl rfl rfl ?_ (λ hB=>?_)
  all_goals repeat' (first|refine tA 5 ?_|refine tA 6 ?_|refine tA 7 ?_|refine oA 4 ?_|refine oA 8 ?_|refine oA 9 ?_|refine oA 10 ?_|refine oB 4 8 ?_ ?_|exact dA ⟨rfl,⟨(x,U),⟨T,Sz⟩,zX⟩⟩|exact nx hB|refine xX HO ?_ ?_|(rintro v O ⟨a,U,h,rfl,rfl⟩;refine I8 (I7 ?_);refine gP ?_;exact fP _ ⟨a,U,Bo a h,rfl,rfl⟩)|(rintro d O ⟨x,U,T,Sz,rfl,rfl⟩;refine nx (CX ?_))|(refine nA 49 ?_;first|exact nx hB|refine nx ?_)|((first|refine z2 ?_|refine z5 ?_);refine nx ?_))
 rintro⟨⟨o3,a3⟩,s3⟩ ⟨bR,ia⟩;simp only at ia;rw[au bR] at A;have K:=D.next ia;have Bb:=Ba.xD ia;simp only at A;refine go ?_;generalize k4:decide (o3.err=0)=cc;cases cc
 ·rw[if_pos (of_decide_eq_false k4)] at A;refine go ?_;refine gW 2 [] ?_;refine go ?_;exact fX _ ⟨⟨0,o3,s3,false,o3.gone.length,fp o3.gone⟩,⟨A.symm,Bb,by simp,by simp⟩,rfl,rfl⟩
 have Ic:=of_decide_eq_true k4;rw[if_neg (λ h=>h Ic)] at A;have qR:=(Iq hS D.le bR).2 rfl;simp only at qR;have UK:JM (o3,a3) log s3=.ok (if o3.is then(az a3.new).idx else(az ((log.getD (o3.cJ.toNat+2) ⟨0,false⟩).val)).idx,s3):=rfl;rw[au UK] at A;have fy:0<=(if o3.is then(az a3.new).idx else(az ((log.getD (o3.cJ.toNat+2) ⟨0,false⟩).val)).idx)/\(if o3.is then(az a3.new).idx else(az ((log.getD (o3.cJ.toNat+2) ⟨0,false⟩).val)).idx)<65536:=by split<;>exact j8 _
 have MG:=YZ l E m log s3 o3 a3 _ (λ h=>qR h Ic) h0.log rfl;generalize(if o3.is then(az a3.new).idx else(az ((log.getD (o3.cJ.toNat+2) ⟨0,false⟩).val)).idx)=n at A fy MG;refine go ?_;refine lA MG ?_;refine go ?_;refine dW 6 [] ?_;refine gQ (li ⟨n,false,0⟩) ?_;refine xP (Af l E m log s3 ⟨3,fA l m b,0,dJ ⟨n,false,0⟩⟩ K) ?_;rintro d O ⟨r4,s4,ct,kD,rfl,rfl⟩;rw[au ct] at A;refine go ?_;exact fX _ ⟨⟨n,lH,s4,true,0,[]⟩,⟨A.symm,Bb.xD kD,fy.1,fy.2⟩,rfl,rfl⟩
theorem KA(l:ab)(hL:bQ l)(hS:0<=l.aA)(hM:iY l)(E m:Int)(log:List aB):∀(k:Nat)(b:Int)(s:af),0<=b->b<65536->b<2^k->lN log s->
 fu prog 145 [40,41,46] [z b,.ptr 41 0,.ptr 46 0] (sx l E m log s) (CR (sx l E m log) log (mx l E m (k+1) b log s) s) (vq (sx l E m log) (mx l E m (k+1) b log s))
 |0,b,s,uk,nI,Bk,h0=>KB l hL hS hM E m log 0 b s nI h0 λ cP=>by
  have:(2:Int)^0=1:=rfl;omega
 |k+1,b,s,uk,nI,Bk,h0=>KB l hL hS hM E m log (k+1) b s nI h0 λ cP s1 u=>by
   have Mz:0<=lj b/\lj b<b/\lj b<2^k:=by
    obtain⟨n,rfl⟩:=Int.eq_ofNat_of_zero_le uk;have hn:n≠0:=by omega
    have K:=W4 hn;refine⟨K.1,K.2.1,W2 hn ?_⟩;have h4:((2^(k+1):Nat):Int)=2^(k+1):=by simp
    omega
   exact KA l hL hS hM E m log k (lj b) s1 Mz.1 (by omega) Mz.2.2 u
theorem Yp(l:ab)(hL:bQ l)(hS:0<=l.aA)(hM:iY l)(E m:Int)(log:List aB)(b:Int)(s:af)(uk:0<=b)(nI:b<65536)(h0:lN log s):
 fu prog 120 [40] [.ptr 40 0,z b] (uQ l E m log s) (CR (uQ l E m log) log (mx l E m 64 b log s) s) (vq (uQ l E m log) (mx l E m 64 b log s)):=by
 have hC:=KA l hL hS hM E m log 63 b s uk nI (by have:(65536:Int)<=2^63:=(by decide);omega) h0;refine sX func120 ntmps120 λ w cl own kf=>?_
 refine gm ?_;refine bA 41 ?_;refine z2 ?_;refine nA 47 ?_;refine jK ?_;refine gm ?_;refine nA 46 ?_;refine jK ?_;refine go ?_;refine vX hC ?_ ?_
 ·rintro v O ⟨a,U,h,rfl,rfl⟩;refine gP ?_;exact fP _ ⟨a,U,h,rfl,rfl⟩
 rintro d O ⟨p,hp,rfl,rfl⟩;refine go ?_;exact fX _ ⟨p,hp,rfl,rfl⟩
section
variable{P:Program}{ah:Nat->Option TI}{Γ:bE}{l l0:List Oper}{Q iH:Exit->St->Prop}{fuel:Nat}{aD oG:Array Bool}{I:St}{o:Oper}{i:Nat}
structure nB(Γ ep:bE)(r:Nat)(E:Array MapEntry)(ck:Nat):Prop where
 kept:mZ Γ.own Γ.w0 ep.w0
 cl:∀k,k<Γ.w0.heap.size->¬Γ.own k->ep.jZ k=Γ.jZ k
 own:∀k,ep.own k->Γ.own k\/Γ.w0.heap.size<=k
 obj:ep.w0.heap[r]?=some (.map E ck)
 nr:¬ep.own r
 kb:∀b k,Y Γ.kb b=some k->Y ep.kb b=some k
 n:ep.n=Γ.n
 dg:ep.dg=Γ.dg
theorem nB.back{ep:bE}{r ck:Nat}{E:Array MapEntry}(h:nB Γ ep r E ck){e:ay}(he:gx ep e):gx Γ e:=by
 have ie:∀k,k<Γ.w0.heap.size->¬Γ.own k->¬ep.own k:=λ k J X gZ=>by
  rcases h.own k gZ with u|u
  ·exact X u
  ·omega
 have bT:=h.kept.size;have nP:∀k,ep.w0.heap.size<=k\/ep.own k->Γ.w0.heap.size<=k\/Γ.own k:=λ k J=>by
  rcases J with J|J
  ·exact .inl (Nat.le_trans bT J)
  ·exact(h.own k J).symm
 refine⟨⟨he.kept.os.trans h.kept.os,he.kept.tape.trans h.kept.tape,he.kept.output.trans h.kept.output,Nat.le_trans bT he.kept.size,λ k J X=>?_⟩,λ k J X=>?_,λ b k R=>?_,he.inj,λ k g hg=>?_,λ b k J=>he.kb b k (h.kb b k J)⟩
 ·exact(he.kept.block k (Nat.lt_of_lt_of_le J bT) (ie k J X)).trans (h.kept.block k J X)
 ·exact(he.cl k (Nat.lt_of_lt_of_le J bT) (ie k J X)).trans (h.cl k J X)
 ·obtain⟨u,D,K⟩:=he.bx b k R;exact⟨u,nP k D,K⟩
 ·obtain⟨ak,cur,u,D,K,h4⟩:=he.gr k g hg;exact⟨ak,cur,u,D,nP k K,h4⟩
theorem nB.om{ep:bE}{r ck:Nat}{E:Array MapEntry}(h:nB Γ ep r E ck){e:ay}{a:Act}(L:bw ep I e a):bw Γ I e a:=
 ⟨L.size.trans h.n,L.df.trans h.dg,L.bm,L.boxes,L.dX,L.gs,h.back L.env⟩
theorem nB.now{ep:bE}{r ck:Nat}{E:Array MapEntry}(h:nB Γ ep r E ck){e:ay}(he:gx ep e):e.w.heap[r]?=some (.map E ck):=
 (he.kept.block r (qG h.obj) h.nr).trans h.obj
theorem Nz{e:ay}{a:Act}(L:bw Γ I e a){r ck:Nat}{E:Array MapEntry}(hr:e.w.heap[r]?=some (.map E ck)):(∀b k,e.bx b=some k->k≠r)/\∀k g,e.gr k=some g->k≠r:=by
 refine⟨λ b k J he=>?_,λ k g hg he=>?_⟩
 ·subst he;cases R:Y I.b b with
  |none=>rw[L.dX b R] at J;cases J
  |some cs=>obtain⟨jb,vs,el,u,D,_⟩:=L.boxes b cs R;rw[J] at u;cases u;rw[hr] at D;cases D
 ·subst he;obtain⟨_,_,_,_,_,_,h5⟩:=L.env.gr k g hg;rw[hr] at h5;cases h5
abbrev EA(Γ:bE)(e:ay)(r:Nat)(kb:List (Nat×Nat)):bE:=⟨Γ.n,e.w,e.cl,λ k=>k≠r/\(Γ.own k\/Γ.w0.heap.size<=k),kb,Γ.dg⟩
theorem Gs{e:ay}{a:Act}(L:bw Γ I e a){r ck:Nat}{E:Array MapEntry}(hr:e.w.heap[r]?=some (.map E ck)){kb:List (Nat×Nat)}(hn:∀b k,Y kb b=some k->e.bx b=some k)(dv:∀b k,Y Γ.kb b=some k->Y kb b=some k):
 nB Γ (EA Γ e r kb) r E ck/\bw (EA Γ e r kb) I e a:=by
 obtain⟨u,D⟩:=Nz L hr;refine⟨⟨L.env.kept,L.env.cl,λ k J=>J.2,hr,λ J=>J.1 rfl,dv,rfl,rfl⟩,L.size,L.df,L.bm,L.boxes,L.dX,L.gs,mZ.refl _ _,λ _ _ _=>rfl,λ b k J=>?_,L.env.inj,λ k g hg=>?_,hn⟩
 ·obtain⟨K,h4,h5⟩:=L.env.bx b k J;exact⟨K,.inr ⟨u b k J,h4.symm⟩,h5⟩
 ·obtain⟨ak,cur,K,h4,h5,h6⟩:=L.env.gr k g hg;exact⟨ak,cur,K,h4,.inr ⟨D k g hg,h5.symm⟩,h6⟩
theorem nB.next{ep:bE}{r ck:Nat}{E:Array MapEntry}(h:nB Γ ep r E ck)(ou:Γ.w0.heap.size<=r){e:ay}{a:Act}(L:bw ep I e a)(tu:Array MapEntry)(yf:Nat):∃e2:ay,e2.w={e.w with heap:=e.w.heap.setIfInBounds r (.map tu yf)}/\nB Γ (EA Γ e2 r ep.kb) r tu yf/\bw (EA Γ e2 r ep.kb) I e2 a:=by
 have nP:=h.now L.env;have nc:=h.om L;obtain⟨yC,uq⟩:=Nz L nP;obtain⟨tc,gB⟩:=MapKept.heap_set (o':=.map tu yf) nP
 let w2:World:={e.w with heap:=e.w.heap.setIfInBounds r (.map tu yf)}
 have wI:w2.heap.size=e.w.heap.size:=by simp[w2]
 let e2:ay:={e with w:=w2}
 have yD:∀b o v,e.w.cell? ⟨b,o,none⟩=some v->b≠r:=λ b o v hv he=>by
  subst he;simp[World.cell?,nP] at hv
 have A:Ends e e2:=by
  refine⟨λ b o v u D=>⟨u,?_⟩,λ _ _ h=>h,λ _ ak h=>⟨ak,h,rfl,rfl,Nat.le_refl _⟩,λ k g ak cur u D K=>⟨u,cur,?_,rfl⟩⟩
  ·rw[World.cell?_of_block (w:=e.w) (gB b (yD b o v D))];exact D
  ·show(e.w.heap.setIfInBounds r (.map tu yf))[k]?=_;rw[gB k (uq k g u)];exact K
 have ez:bw Γ I e2 a:=by
  refine⟨nc.size,nc.df,λ t d ht=>(nc.bm t d ht).next A,λ b cs R=>?_,nc.dX,nc.gs,⟨⟨nc.env.kept.os,nc.env.kept.tape,nc.env.kept.output,by show _<=w2.heap.size;rw[wI];exact nc.env.kept.size,λ k J X=>?_⟩,nc.env.cl,λ b k J=>?_,nc.env.inj,λ k g hg=>?_,nc.env.kb⟩⟩
  ·obtain⟨k,vs,el,u,D,K⟩:=nc.boxes b cs R;exact⟨k,vs,el,u,(gB k (yC b k u)).trans D,K.next A⟩
  ·exact(gB k (by omega)).trans (nc.env.kept.block k J X)
  ·obtain⟨u,D,K⟩:=nc.env.bx b k J;exact⟨by show k<w2.heap.size;rw[wI];exact u,D,K⟩
  ·obtain⟨ak,cur,u,D,K,h4,h5⟩:=nc.env.gr k g hg;exact⟨ak,cur,u,by show k<w2.heap.size;rw[wI];exact D,K,h4,(gB k (uq k g hg)).trans h5⟩
 have K:=Gs (kb:=ep.kb) ez (r:=r) (E:=tu) (ck:=yf) tc (λ b k J=>L.env.kb b k J) h.kb;exact⟨e2,rfl,K.1,K.2⟩
def JY(P:Program)(f:FuncId)(aX:List Nat)(ds:List F)(O ag:bH)(xd:List Nat)(av:(Nat->Nat)->Array MapEntry):Prop:=
 ∀(e:ay)(vs:List Value),fG O e->DReps e vs ds->Calls P f vs.toArray e.w λ ex aH=>∃r ck kf V,ex=.returned (.map (some r))/\V.w=aH/\fG ag V/\Left aX e V/\(∀n,n∈xd->V.bx n=some (kf n))/\aH.heap[r]?=some (.map (av kf) ck)
structure nC(P:Program)(Γ:bE)(l:List Oper)(Q:Exit->St->Prop)(fuel:Nat)(aD:Array Bool)(I:St)(i:Nat):Prop where
 run:∀(a:Act)(e:ay),bw Γ I e a->wpOp P l.toArray (iZ Γ Q) i (wpAny P .any l.toArray (iZ Γ Q) fuel (aD.setIfInBounds i true)) a e.w
theorem WU(X:l[i]?=some o)(M:aD.setIfInBounds i true=oG)(h:bp P Γ l (nX P Γ l Q fuel oG) [o] I):nC P Γ l Q fuel aD I i:=⟨λ _ _ L=>CY X M h L⟩
theorem Qy(hr:Region.ready .any l.toArray aD=[i])(h:nC P Γ l Q fuel aD I i):h2 P Γ l Q (fuel+1) aD I:=⟨λ a e L=>wpAny_all hr (by simp) λ j hj=>by
 obtain rfl:j=i:=by simpa using hj
 exact h.run a e L⟩
theorem Qz{j:Nat}(hr:Region.ready .any l.toArray aD=[i,j])(h:nC P Γ l Q fuel aD I i)(D:nC P Γ l Q fuel aD I j):h2 P Γ l Q (fuel+1) aD I:=⟨λ a e L=>wpAny_all hr (by simp) λ k J=>by
 rcases List.mem_cons.1 J with rfl|J
 ·exact h.run a e L
 ·obtain rfl:k=j:=by simpa using J
  exact D.run a e L⟩
theorem QA{j m:Nat}(hr:Region.ready .any l.toArray aD=[i,j,m])(h:nC P Γ l Q fuel aD I i)(D:nC P Γ l Q fuel aD I j)(K:nC P Γ l Q fuel aD I m):h2 P Γ l Q (fuel+1) aD I:=⟨λ a e L=>wpAny_all hr (by simp) λ k J=>by
 rcases List.mem_cons.1 J with rfl|J
 ·exact h.run a e L
 ·rcases List.mem_cons.1 J with rfl|J
  ·exact D.run a e L
  ·obtain rfl:k=m:=by simpa using J
   exact K.run a e L⟩
theorem WT{t:Nat}{s U:List (Nat×F)}{b bj:bH}{g:List (Nat×Gr)}{f:FuncId}{aX:List Nat}{ds:List F}{O ag:bH}{xd:List Nat}{av:(Nat->Nat)->Array MapEntry}{xs:List Operand}{fb:Array TypeId}{LL:Array Bool}(hC:JY P f aX ds O ag xd av)(ww:l[i]?=some o)(rW:aD.setIfInBounds i true=LL)(X:o.op=.call {callee:=.value (.func f),args:=xs.toArray,argTypes:=fb})(hf:jj P f)(he:iv (Y s) xs some=some ds)(aR:F.ok.ec (aC O) (λ _=>false) ds=true)(hs:i3 ⟨s,b,g⟩ (aC O) O)(dv:Γ.kb=[])
 (hg:gd l o (Y s)=some true)(G:o.dst=some t)(M:Nat.blt t Γ.n=true)(fV:kA (λ b=>!aC O b||gJ aX b) s (λ U=>kQ (aC O) (λ b=>!aC O b||gJ aX b) b (λ bj=>some (U,bj)))=some (U,bj))
 (dh:jH O b ag)(l7:jJ ag xd)
 (h:∀r ck kf aH bz bZ,nB Γ ⟨Γ.n,aH,bz,bZ,k8 kf xd,Γ.dg⟩ r (av kf) ck->h2 P ⟨Γ.n,aH,bz,bZ,k8 kf xd,Γ.dg⟩ l Q fuel LL ⟨(t,.p (.raw (.map (some r))))::U,ag++bj,g⟩):nC P Γ l Q fuel aD ⟨s,b,g⟩ i:=by
 rw[sD,sC] at fV;cases fV;refine⟨λ a e L=>?_⟩;have Uj:l.toArray[i]?=some o:=by simpa using ww
 unfold wpOp;simp only[Uj];rw[if_pos (kS L hg)];refine .inl ?_;have iR:=L.h1 o.op.operands;have hv:=A5 (a:=a) (e:=e) xs (λ x T=>iR.1 x (by rw[X];simp[Op.operands,Call.operands,T])) he;have cG:(execOp a.eval o).run P e.w=.ok (.enter f (xs.map a.eval).toArray) e.w:=by obtain⟨dst,op,type,pos,after,guard⟩:=o;simp only at X;subst X;rw[execOp_call_go,hf];simp
 unfold Oper.wp;rw[cG];refine(hC (e.cut (aC O) λ _=>false) _ (kB L hs) ⟨hv.1,λ i v d u D=>(hv.2 i v d u D).cut (pp aR D)⟩).mono λ ex aH hh=>?_
 obtain⟨r,ck,kf,V,rfl,rfl,hI,hL,J,Ui⟩:=hh;obtain⟨u,D⟩:=L.after hI hL (λ n hn=>dh.get hn) (λ n k u _=>by rw[dv] at u;cases u);have K:=u.put (dst:=o.dst) (d:=.p (.raw (.map (some r)))) (oS G M) (.p (.raw (.map (some r))));rw[G] at K;obtain⟨h4,h5⟩:=Gs (kb:=k8 kf xd) K (r:=r) (E:=av kf) (ck:=ck) Ui (λ n k BH=>by
  obtain⟨h6,rfl⟩:=yX BH;show(if aC ag n=true then V.bx n else _)=_;rw[if_pos (l7.get h6)];exact J n h6) (λ n k h6=>by rw[dv] at h6;cases h6)
 have h6:=(h r ck kf _ _ _ h4).run _ _ h5;show wpAny P .any l.toArray (iZ Γ Q) fuel (aD.setIfInBounds i true) (a.put o.dst (.map (some r))) V.w;rw[rW,G];exact JQ (λ _ _ hh=>by obtain⟨bn,e2,q1,q2,q3⟩:=hh;exact⟨bn,e2,q1,h4.om q2,q3⟩) (λ _ _ _ _ hh=>by obtain⟨bn,e2,q1,q2,q3⟩:=hh;exact⟨bn,e2,q1,h4.om q2,q3⟩) _ _ _ _ h6
def CS(P:Program)(Γ:bE)(mt r:Nat)(m:Int)(fT:F)(kn:Bool):Prop:=∀e:ay,gx Γ e->∃v,(Instr.lookup mt (.map (some r)) (.int .i64 m) true).run P e.w=.ok v e.w/\bt e v (.bc [fT,dB kn])
theorem Qq{t mt r:Nat}{s:List (Nat×F)}{b:bH}{g:List (Nat×Gr)}{x y:Operand}{m:Int}{fT:F}{kn:Bool}(hL:CS P Γ mt r m fT kn)(X:o.op=.lookup mt x y true)(T:ev (Y s) x=some (.p (.raw (.map (some r)))))(hy:ev (Y s) y=some (z m))(hg:gd l0 o (Y s)=some true)(G:o.dst=some t)(M:Nat.blt t Γ.n=true)
 (h:bp P Γ l0 Q l ⟨(t,.bc [fT,dB kn])::s,b,g⟩):bp P Γ l0 Q (o::l) ⟨s,b,g⟩:=by
 refine tR (I:=⟨s,b,g⟩) hg (λ a e L=>?_) h;have hs:=L.h1 o.op.operands;have u:=cE (hs.1 x (by rw[X];simp[Op.operands]) _ T);have D:=cE (hs.1 y (by rw[X];simp[Op.operands]) _ hy);obtain⟨v,K,h4⟩:=hL e L.env;have cG:(execOp a.eval o).run P e.w=.ok (.value v) e.w:=by obtain⟨dst,op,type,pos,after,guard⟩:=o;simp only at X;subst X;simp[execOp,u,D,K]
 unfold Oper.wp;rw[cG];have:=L.put (dst:=o.dst) (v:=v) (by rw[G];exact M) h4;rw[G] at this;exact⟨e,rfl,by rw[G];exact this⟩
theorem Is{ep:bE}{r ck mt kt et:Nat}{E:Array MapEntry}(Z:nB Γ ep r E ck)(hm:P.underlying mt=some (.map kt et))(lZ:P.underlying kt=some (.int .i64)){m:Int}{j:Nat}{v:Value}{fT:F}(Hu:Instr.findNow (.int .i64) (.int .i64 m) E.toList 0=some (some (j,v)))(hv:∀e,gx ep e->bt e v fT):CS P ep mt r m fT true:=λ e he=>by
 have K:=Z.now he;have J:MapKept.IsKey (.int .i64) (.int .i64 m):=rfl;refine⟨.tuple #[v,.bool true],?_,?_⟩
 ·simp[Instr.lookup,run_underlying hm,MapKept.run_getObj_map K,MapKept.run_checkKey lZ J,MapKept.run_findKey lZ Hu]
 ·exact .bc (vs:=[v,.bool true]) (ds:=[fT,dB true]) rfl λ i jh d u D=>by
   match i,u,D with
   |0,u,D=>cases u;cases D;exact hv e he
   |1,u,D=>cases u;cases D;exact .p (.raw _)
theorem VM(hT:cR P ah){ep:bE}{r ck mt kt et:Nat}{E:Array MapEntry}{ti:TI}(Z:nB Γ ep r E ck)(hm:P.underlying mt=some (.map kt et))(lZ:P.underlying kt=some (.int .i64))(Hr:ah et=some ti){m:Int}(Hu:Instr.findNow (.int .i64) (.int .i64 m) E.toList 0=some none):CS P ep mt r m (.p (.raw ti.zero)) false:=λ e he=>by
 have K:=Z.now he;have J:MapKept.IsKey (.int .i64) (.int .i64 m):=rfl;refine⟨.tuple #[ti.zero,.bool false],?_,?_⟩
 ·simp[Instr.lookup,run_underlying hm,MapKept.run_getObj_map K,MapKept.run_checkKey lZ J,MapKept.run_findKey lZ Hu,Ab hT Hr]
 ·exact .bc (vs:=[ti.zero,.bool false]) (ds:=[.p (.raw ti.zero),dB false]) rfl λ i jh d u D=>by
   match i,u,D with
   |0,u,D=>cases u;cases D;exact .p (.raw _)
   |1,u,D=>cases u;cases D;exact .p (.raw _)
structure Aw(P:Program)(Γ:bE)(kb:List (Nat×Nat))(r:Nat)(l0:List Oper)(Q:Exit->Act->World->Prop)(l:List Oper)(E:Array MapEntry)(ck:Nat)(I:St):Prop where
 run:∀aH bz bZ,nB Γ ⟨Γ.n,aH,bz,bZ,kb,Γ.dg⟩ r E ck->∀a e,bw ⟨Γ.n,aH,bz,bZ,kb,Γ.dg⟩ I e a->wpList P l0.toArray Q l a e.w
theorem EF{W:Exit->Act->World->Prop}{kb:List (Nat×Nat)}{r ck:Nat}{E:Array MapEntry}{s:List (Nat×F)}{b:List (Nat×List F)}{g:List (Nat×Gr)}{t:Nat}{d:F}(hT:cR P ah)(hq:ax ah (Y s) (Y b) o.op=some d)(hg:gd l0 o (Y s)=some true)(G:o.dst=some t)(M:Nat.blt t Γ.n=true)(h:Aw P Γ kb r l0 W l E ck ⟨(t,d)::s,b,g⟩):Aw P Γ kb r l0 W (o::l) E ck ⟨s,b,g⟩:=by refine⟨λ aH bz bZ Z a e L=>?_⟩;unfold wpList;rw[if_pos (kS L hg)];have b8:xM P ⟨Γ.n,aH,bz,bZ,kb,Γ.dg⟩ o ⟨s,b,g⟩ _:=dm.step (I:=⟨s,b,g⟩) (rn hT hq) (oS G M) (λ p hp=>by cases hp);refine .inl (vj (b8 a e L) λ bu w1 hh=>?_);obtain⟨V,rfl,ea⟩:=hh;rw[G] at ea;exact h.run aH bz bZ Z bu V ea
theorem IF{W:Exit->Act->World->Prop}{kb:List (Nat×Nat)}{r ck:Nat}{E tu:Array MapEntry}{s:List (Nat×F)}{b:List (Nat×List F)}{g:List (Nat×Gr)}{mt kt et:Nat}{x y aT:Operand}{m:Int}{v:Value}{d:F}(ou:Γ.w0.heap.size<=r)(X:o.op=.insert mt x y aT)(G:o.dst=none)(hm:P.underlying mt=some (.map kt et))(lZ:P.underlying kt=some (.int .i64))(T:ev (Y s) x=some (.p (.raw (.map (some r)))))(hy:ev (Y s) y=some (z m))(hz:ev (Y s) aT=some d)(hg:gd l0 o (Y s)=some true)(hv:∀aH bz bZ e,gx ⟨Γ.n,aH,bz,bZ,kb,Γ.dg⟩ e->∀aa,bt e aa d->aa=v)(hn:Instr.findNow (.int .i64) (.int .i64 m) E.toList 0=some none)(he:E.push {key:=.int .i64 m,val:=v,born:=ck}=tu)
 (h:Aw P Γ kb r l0 W l tu (ck+1) ⟨s,b,g⟩):Aw P Γ kb r l0 W (o::l) E ck ⟨s,b,g⟩:=by
 refine⟨λ aH bz bZ Z a e L=>?_⟩;subst he;unfold wpList;rw[if_pos (kS L hg)];have hs:=L.h1 o.op.operands;have u:=cE (hs.1 x (by rw[X];simp[Op.operands]) _ T);have D:=cE (hs.1 y (by rw[X];simp[Op.operands]) _ hy);have bd:=hv _ _ _ e L.env _ (hs.1 aT (by rw[X];simp[Op.operands]) _ hz);have K:=Z.now L.env;have J:MapKept.IsKey (.int .i64) (.int .i64 m):=rfl;obtain⟨e2,Ho,HE,ez⟩:=Z.next ou L (E.push {key:=.int .i64 m,val:=v,born:=ck}) (ck+1);have cG:(execOp a.eval o).run P e.w=.ok .skip {e.w with heap:=e.w.heap.setIfInBounds r (.map (E.push {key:=.int .i64 m,val:=v,born:=ck}) (ck+1))}:=by obtain⟨dst,op,type,pos,after,guard⟩:=o;simp only at X;subst X;simp[execOp,Instr.mapUpdate,u,D,bd,run_underlying hm,MapKept.run_getObj_map K,MapKept.run_checkKey lZ J,MapKept.run_findKey lZ hn,MapKept.run_setObj_map _ K]
 refine .inl ?_;unfold Oper.wp;rw[cG,<-Ho];have:=h.run _ _ _ HE a e2 ez;show wpList P _ _ l (a.put o.dst undef) e2.w;rw[G];exact this
theorem V6{W:Exit->Act->World->Prop}{kb:List (Nat×Nat)}{s:List (Nat×F)}{b:List (Nat×List F)}{g:List (Nat×Gr)}{t1 mt:Nat}{o1:Oper}(X:o1.op=.makeMap mt none)(hg:gd l0 o1 (Y s)=some true)(kE:o1.dst=some t1)(i9:Nat.blt t1 Γ.n=true){e:ay}{a:Act}(L:bw Γ ⟨s,b,g⟩ e a)(hn:∀b k,Y kb b=some k->e.bx b=some k)(dv:∀b k,Y Γ.kb b=some k->Y kb b=some k)
 (h:∀r,Γ.w0.heap.size<=r->Aw P Γ kb r l0 W l #[] 0 ⟨(t1,.p (.raw (.map (some r))))::s,b,g⟩):wpList P l0.toArray W (o1::l) a e.w:=by
 unfold wpList;rw[if_pos (kS L hg)];refine .inl ?_;unfold Oper.wp;have cG:(execOp a.eval o1).run P e.w=.ok (.value (.map (some e.w.heap.size))) (e.w.alloc (.map #[] 0)):=by obtain⟨dst,op,type,pos,after,guard⟩:=o1;simp only at X;subst X;simp[execOp,Instr.makeMap]
 rw[cG];show wpList P _ _ l (a.put o1.dst _) _;have gp:=ay.sr e (.map #[] 0) none;have cb:=(L.grow gp).put (dst:=o1.dst) (v:=.map (some e.w.heap.size)) (d:=.p (.raw (.map (some e.w.heap.size)))) (by rw[kE];exact i9) (.p (.raw _));rw[kE] at cb⊢;have nj:(e.w.alloc (.map #[] 0)).heap[e.w.heap.size]?=some (.map #[] 0):=(MapKept.heap_alloc e.w _).1;obtain⟨h4,h5⟩:=Gs (kb:=kb) cb (r:=e.w.heap.size) (E:=#[]) (ck:=0) nj hn dv;exact(h e.w.heap.size L.env.kept.size).run _ _ _ h4 _ _ h5
theorem K7{e:ay}{aa:Value}{f:Fn}{b1 b2 k1 k2:Nat}(u:e.bx b1=some k1)(D:e.bx b2=some k2)(h:bt e aa (.fn f [] [.ptr b1 0,.ptr b2 0])):aa=.func f #[] #[.pointer (some ⟨k1,0,none⟩),.pointer (some ⟨k2,0,none⟩)]:=by
 cases h with
 |fn M dz K h4=>
  rename_i us vs
  match us,vs,M,dz,h4 with
  |[],[v1,v2],_,_,h4=>
   have q1:=h4 0 v1 _ rfl rfl;have q2:=h4 1 v2 _ rfl rfl;cases q1 with
   |ptr q1=>cases q2 with
    |ptr q2=>
     rw[u] at q1;rw[D] at q2;cases q1;cases q2
     rfl
theorem R9{e:ay}{aa:Value}{f:Fn}(h:bt e aa (.fn f [] [])):aa=.func f #[] #[]:=by
 cases h with
 |fn M dz K h4=>
  rename_i us vs
  match us,vs,M,dz with
  |[],[],_,_=>rfl
end
section
variable{Γ:bE}{l l0:List Oper}{Q:Exit->St->Prop}{fuel:Nat}{aP:Array Bool}{I:St}{o:Oper}
theorem wA(i:Nat)(h:nC prog Γ l Q fuel aP I i)(hr:Region.ready .any l.toArray aP=[i]:=by decide+kernel):h2 prog Γ l Q (fuel+1) aP I:=Qy hr h
theorem wB(i j:Nat)(h:nC prog Γ l Q fuel aP I i)(D:nC prog Γ l Q fuel aP I j)(hr:Region.ready .any l.toArray aP=[i,j]:=by decide+kernel):h2 prog Γ l Q (fuel+1) aP I:=Qz hr h D
theorem wC(i j k:Nat)(h:nC prog Γ l Q fuel aP I i)(D:nC prog Γ l Q fuel aP I j)(K:nC prog Γ l Q fuel aP I k)(hr:Region.ready .any l.toArray aP=[i,j,k]:=by decide+kernel):h2 prog Γ l Q (fuel+1) aP I:=QA hr h D K
theorem oW{i:Nat}(h:bp prog Γ l (nX prog Γ l Q fuel (aP.setIfInBounds i true)) [o] I)(X:l[i]?=some o:=by exact rfl):nC prog Γ l Q fuel aP I i:=WU X rfl h
end
end Go.Proofs.YtcnefjfboagbmaaGreat
