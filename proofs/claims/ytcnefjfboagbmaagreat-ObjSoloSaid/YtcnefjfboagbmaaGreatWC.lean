/- A map's programs: an access; the node that is there; the list's programs behind a node: their walks. -/
import Derived.Test.YtcnefjfboagbmaaGreatWB
import Derived.Test.YtcnefjfboagbmaaGreatPA
import Derived.Test.YtcnefjfboagbmaaGreatLB
namespace Go.Proofs.YtcnefjfboagbmaaGreat
open Go.Proofs.Tryz
open Go.RowKit
set_option maxRecDepth 100000
abbrev zh(a:aT):Value:=.iface 167 (.agg #[.int .i64 a.kind,.int .i64 a.cell,.int .i64 a.fz,.int .i64 a.new])
abbrev abW(l:ag)(D m:Int)(log:List aD)(s:ah):List Pl:=[pI l.az,pI l.nodes,pI l.buckets,pI l.bP,pI l.tasks,pI l.cells,pI l.maps,pI l.cZ,pI l.bo,pI l.done,pI l.count,pI l.era,pI l.free,pI l.alive,pI l.owner,pI l.kV,pI l.rU,pI l.ring,pI l.task,pI l.cell,pI l.map,pI l.stack,pI l.chan,pI l.node,pI l.size,pI D,vc s.gone,pI m,.sl false log.length (gM log),pI s.made]
abbrev ru(l:ag)(D m:Int)(log:List aD)(s:ah):List G:=[u l.az,u l.nodes,u l.buckets,u l.bP,u l.tasks,u l.cells,u l.maps,u l.cZ,u l.bo,u l.done,u l.count,u l.era,u l.free,u l.alive,u l.owner,u l.kV,u l.rU,u l.ring,u l.task,u l.cell,u l.map,u l.stack,u l.chan,u l.node,u l.size,u D,d7 s.gone,u m,gH log,u s.made]
abbrev wV(l:ag)(D m:Int)(log:List aD)(s:ah):bE:=[(40,ru l D m log s)]
def TT{ar:Type}(bx:ah->bE)(log:List aD)(m:Except aT (ar×ah))(s:ah)(enc:ar->G):G->bE->Prop:=λ d U=>∃x M,m=.ok (x,M)/\hx log s M/\d=enc x/\U=bx M
def xp{ar:Type}(bx:ah->bE)(m:Except aT (ar×ah)):Value->bE->Prop:=λ v U=>∃a M,m=.error a/\v=zh a/\U=bx M
abbrev BZ{ar:Type}(f:FuncId)(aU:List Nat)(bx:ah->bE)(log:List aD)(s:ah)(ds:List G)(m:Except aT (ar×ah))(enc:ar->G):Prop:=fI prog f aU ds (bx s) (TT bx log m s enc) (xp bx m)
structure mC(log:List aD)(s:ah):Prop where
 gone:eu s.gone
 len:s.gone.length+log.length<=10000+s.made
 le:s.made<=log.length
 log:log.length<=5000
theorem mC.next{log:List aD}{s M:ah}(h:mC log s)(hG:hx log s M):mC log M:=⟨hG.ok,by have:=h.len;have:=hG.len;have:=hG.made;omega,hG.le,h.log⟩
theorem mC.refl{log:List aD}{s:ah}(h:mC log s):hx log s s:=⟨Nat.le_refl _,h.le,h.gone,Nat.le_refl _⟩
theorem mC.up{log:List aD}{s:ah}(h:mC log s){r:aD}(hr:log[s.made]?=some r):hx log s {s with made:=s.made+1}:=⟨Nat.le_succ _,(List.getElem?_eq_some_iff.1 hr).1,h.gone,Nat.add_le_add_left (Nat.le_succ _) _⟩
theorem BB(l:ag)(D m:Int)(log:List aD)(s:ah)(a:aT)(h0:mC log s):BZ 119 [40] (wV l D m log) log s [.ptr 40 0,fy a] (fk a log s) xF:=by
 have hm:=h0.le;have R:=h0.log;refine sX func119 ntmps119 λ w cl own kf=>?_
 refine go ?_;refine gD [] ?_;refine go ?_;generalize h1:decide ((s.made:Int)=(log.length:Int))=cc;cases cc
 ·have aP:=of_decide_eq_false h1;have ba:s.made<log.length:=by omega
  have hr:log[s.made]?=some log[s.made]:=List.getElem?_eq_getElem ba;generalize log[s.made]=r at hr;have pJ:log[((s.made:Int)+1-1).toNat]?=some r:=by rw[show((s.made:Int)+1-1).toNat=s.made by omega];exact hr
  refine go ?_;refine gW 9 [] ?_;refine ai [pI r.val,pB r.ok] (DR pJ) ?_;refine go ?_;exact fX _ ⟨r,{s with made:=s.made+1},by rw[fk,hr],h0.up hr,rfl,rfl⟩
 ·have aP:log.length=s.made:=by have:=of_decide_eq_true h1;omega
  have hr:log[s.made]?=none:=List.getElem?_eq_none (by omega);refine go ?_;refine bn (DH aB rfl rfl rfl rfl rfl) rfl rfl rfl ?_;refine Cb rfl rfl rfl ?_;refine gP ?_;exact fP _ ⟨a,s,by rw[fk,hr],rfl,rfl⟩
theorem adV(l:ag)(D m:Int)(log:List aD)(s:ah)(o:bf)(a:aT)(n:Int)(hp:o.is=false->0<=o.bS/\o.bS+2<log.length)(R:log.length<=5000)(hn:n=if o.is then(ay a.new).idx else(ay ((log.getD (o.bS.toNat+2) ⟨0,false⟩).val)).idx):aX prog 148 [.el (abW l D m log s),jQ o,fy a] (u n):=by
 generalize yj:o.is=u9 at hp hn;generalize iD:o.bS=op at hp hn;refine sP func148 ntmps148 λ w cl=>?_
 refine go ?_;rw[yj];cases u9
 ·obtain⟨h1,A⟩:=hp rfl;have hr:log[(op+2).toNat]?=some (log.getD (op.toNat+2) ⟨0,false⟩):=by
   rw[show(op+2).toNat=op.toNat+2 by omega,List.getD_eq_getElem?_getD,List.getElem?_eq_getElem (by omega)];rfl
  simp only[Bool.false_eq_true,if_false] at hn;generalize log.getD (op.toNat+2) ⟨0,false⟩=r at hr hn;refine go ?_;rw[iD];refine gW 10 [] ?_;refine ri [pI r.val,pB r.ok] (DR hr) ?_;refine bh ?_;refine cA (kB r.val) ?_;refine gf ?_;rw[hn]
 ·simp only[if_true] at hn;refine gA (kB a.new) ?_;refine d8 ?_;rw[hn]
theorem RP(a b:List aD):gM (a++b)=gM a++gM b:=by simp[gM]
theorem Ln(l:List aD):(gM l).length=l.length*2:=by
 induction l with
 |nil=>rfl
 |cons a l ih=>unfold gM at ih⊢;rw[List.flatMap_cons,List.length_append,ih];simp[yO];omega
theorem aal{l:List aD}{c:Nat}:∀(i:Nat) q,(gM (l.take c))[i]?=some q->(gM l)[(0:Int).toNat*2+i]?=some q:=by
 intro i q h;have R:gM l=gM (l.take c)++gM (l.drop c):=by rw[<-RP,List.take_append_drop]
 rw[show(0:Int).toNat*2+i=i by simp,R,List.getElem?_append_left (List.getElem?_eq_some_iff.1 h).1];exact h
theorem aam{l:List aD}{a:Int}{b:Nat}(r8:a.toNat=b)(ha:b<=l.length):∀(i:Nat) q,(gM (l.drop b))[i]?=some q->(gM l)[a.toNat*2+i]?=some q:=by
 intro i q h;rw[r8];have R:gM l=gM (l.take b)++gM (l.drop b):=by rw[<-RP,List.take_append_drop]
 have h1:(gM (l.take b)).length=b*2:=by rw[Ln,List.length_take];congr 1;omega
 rw[R,List.getElem?_append_right (by omega),h1,show b*2+i-b*2=i by omega];exact h
def kJ(l:ag)(D:Int)(gone:List (Int×Int))(op:bt)(F:Int)(lg:List aD):aT×bf×Bool:=
 if(dw l D gone op lg).2.2=false/\F<0/\(dw l D gone op lg).1.cell=op.obj then({(dw l D gone op lg).1 with cell:=F},(dw l D gone op lg).2) else dw l D gone op lg
theorem U0(l:ag)(D:Int)(gone:List (Int×Int))(kind eP dX v:Int)(lg:List aD):km l D gone kind eP dX v lg=kJ l D gone ⟨kind,if aE l eP 0<0 then l.done else aE l eP 0,dX,v⟩ (aE l eP 0) lg:=rfl
abbrev A7(l:ag)(D m:Int)(log:List aD)(op:bt)(lg:List aD)(F:Int)(s:ah):bE:=[(40,ru l D m log s),(41,[.ptr 40 0]),(42,[u op.kind,u op.obj,u op.a,u op.b]),(43,[gH lg]),(44,[u F])]
set_option maxHeartbeats 4000000 in
theorem aac(l:ag)(Z:ca l)(D m:Int)(log:List aD)(op:bt)(lg:List aD)(F:Int)(s:ah)(k:Nat)(hg:eu s.gone)(dp:s.gone.length+lg.length<=10000)(I:k<=lg.length):
 eo prog 149 [40,41,42,43,44] [u k,.ptr 41 0,.ptr 42 0,.ptr 43 0,.ptr 44 0] (A7 l D m log op lg F s) (λ d U=>d=rT (kJ l D s.gone op F (lg.take k))/\U=A7 l D m log op lg F s):=by
 generalize E:kJ l D s.gone op F (lg.take k)=aJ;unfold kJ at E;have rb:(lg.take k).length=k:=by rw[List.length_take];omega
 have jx:=aal (l:=lg) (c:=k);have sk:=DZ l Z D s.gone op (lg.take k) hg (by omega);generalize lg.take k=lk at E rb jx sk;generalize dw l D s.gone op lk=al at E sk;obtain⟨a,o,dn⟩:=al;simp only at E;refine sI func149 ntmps149 λ w cl own kf=>?_
 refine go ?_;refine gW 25 [] ?_;refine cV (SL aB lk.length (gM lk) rfl rfl rfl rfl rfl rfl rfl (by omega) (by omega) (by omega) (by omega) (Ln lk) jx) rfl rfl ?_;refine gQ sk ?_;refine go ?_;cases dn
 ·refine go ?_;generalize h1:decide (F<0)=cc;cases cc
  ·rw[if_neg (λ h=>of_decide_eq_false h1 h.2.1)] at E;refine go ?_;refine gW 5 [5,6] ?_;refine go ?_;refine im (d:=.bg [fy a,jQ o,dB false]) (A7 l D m log op lg F s) ?_ rfl ?_ ?_ ?_
   ·rfl
   ·(repeat(first|exact trivial|refine⟨⟨rfl,rfl⟩,?_⟩))
   ·(repeat(first|exact trivial|refine⟨rfl,?_⟩))
   exact⟨by subst E;rfl,rfl⟩
  ·refine go ?_;generalize A:decide (a.cell=op.obj)=cc;cases cc
   ·rw[if_neg (λ h=>of_decide_eq_false A h.2.2)] at E;refine go ?_;refine gW 5 [5,6] ?_;refine go ?_;refine im (d:=.bg [fy a,jQ o,dB false]) (A7 l D m log op lg F s) ?_ rfl ?_ ?_ ?_
    ·rfl
    ·(repeat(first|exact trivial|refine⟨⟨rfl,rfl⟩,?_⟩))
    ·(repeat(first|exact trivial|refine⟨rfl,?_⟩))
    exact⟨by subst E;rfl,rfl⟩
   ·rw[if_pos ⟨rfl,of_decide_eq_true h1,of_decide_eq_true A⟩] at E;refine go ?_;refine gW 5 [5,6] ?_;refine go ?_;refine im (d:=.bg [.agg [u a.kind,u F,u a.fz,u a.new],jQ o,dB false]) (A7 l D m log op lg F s) ?_ rfl ?_ ?_ ?_
    ·rfl
    ·(repeat(first|exact trivial|refine⟨⟨rfl,rfl⟩,?_⟩))
    ·(repeat(first|exact trivial|refine⟨rfl,?_⟩))
    exact⟨by subst E;rfl,rfl⟩
 ·rw[if_neg (by simp)] at E;refine go ?_;refine gW 5 [5,6] ?_;refine go ?_;refine im (d:=.bg [fy a,jQ o,dB true]) (A7 l D m log op lg F s) ?_ rfl ?_ ?_ ?_
  ·rfl
  ·(repeat(first|exact trivial|refine⟨⟨rfl,rfl⟩,?_⟩))
  ·(repeat(first|exact trivial|refine⟨rfl,?_⟩))
  exact⟨by subst E;rfl,rfl⟩
abbrev SK(k1:Nat)(dn:Bool):List (Nat×G):=[(18,dB dn),(22,u k1),(5,.ptr 41 0),(10,.ptr 47 0),(11,.ptr 48 0),(15,.fn (.func 149) [] [.ptr 41 0,.ptr 42 0,.ptr 43 0,.ptr 44 0]),(17,.ptr 50 0),(19,.ptr 51 0)]
abbrev SJ(l:ag)(D m:Int)(log:List aD)(op:bt)(lg:List aD)(F:Int)(s:ah)(a2:aT)(ov:Int)(u9:Bool)(oe G4:Int)(og:List (Int×Int)):bE:=[(40,ru l D m log s),(41,[.ptr 40 0]),(42,[u op.kind,u op.obj,u op.a,u op.b]),(43,[gH lg]),(44,[u F]),(47,[u 0,dB false,u 0,u 0,.p (.sl true 0 [])]),(48,[u 0,u 0,u 0,u 0]),(50,[u ov,dB u9,u oe,u G4,d7 og]),(51,[u a2.kind,u a2.cell,u a2.fz,u a2.new])]
def KR(l:ag)(D:Int)(op:bt)(F:Int)(lg:List aD)(s:ah):Except aT ((bf×aT)×ah):=
 if(kJ l D s.gone op F lg).2.2=false then .error (kJ l D s.gone op F lg).1
 else if(kJ l D s.gone op F lg).2.1.bS<0 then .ok (((kJ l D s.gone op F lg).2.1,eN),s)
 else .ok (({(kJ l D s.gone op F lg).2.1 with bS:=(kJ l D s.gone op F lg).2.1.bS+s.made},(kJ l D s.gone op F (lg.take (kJ l D s.gone op F lg).2.1.bS.toNat)).1),{s with made:=s.made+nv (λ k=>(kJ l D s.gone op F (lg.take k)).2.2) (lg.length-((kJ l D s.gone op F lg).2.1.bS.toNat+1)) ((kJ l D s.gone op F lg).2.1.bS.toNat+1),gone:=(kJ l D s.gone op F lg).2.1.gone})
theorem aaf(l:ag)(D kind eP dX v:Int)(log:List aD)(s:ah):oh l D kind eP dX v log s=KR l D ⟨kind,if aE l eP 0<0 then l.done else aE l eP 0,dX,v⟩ (aE l eP 0) (log.drop s.made) s:=by unfold oh KR;simp only[U0];rfl
theorem UZ{l:ag}{D:Int}{gone:List (Int×Int)}{op:bt}{F:Int}{lg:List aD}:(kJ l D gone op F lg).2=(dw l D gone op lg).2:=by unfold kJ;split<;>rfl
set_option maxHeartbeats 16000000 in
theorem SM(l:ag)(Z:ca l)(hS:0<=l.az)(hM:kh l)(D m:Int)(log:List aD)(s:ah)(kind eP dX v:Int)(h0:mC log s)(XM:eP<9223372036854775808):
 BZ 121 [40] (wV l D m log) log s [.ptr 40 0,u kind,u eP,u dX,u v] (oh l D kind eP dX v log s) (λ o=>.bg [jQ o.1,fy o.2]):=by
 have hG:∀o M,oh l D kind eP dX v log s=.ok (o,M)->hx log s M:=λ o M e=>by
  have h1:=(KS hS h0.le e).1;exact⟨h1.made,h1.le h0.le,h1.ok h0.gone,h1.len⟩
 generalize E:oh l D kind eP dX v log s=aJ at hG;rw[aaf] at E;have Yz:(log.drop s.made).length+s.made=log.length:=by rw[List.length_drop];have:=h0.le;omega
 have jx:=λ(h:(s.made:Int).toNat=s.made)=>aam (l:=log) (a:=(s.made:Int)) (b:=s.made) h h0.le
 have jx:=jx (by simp);have bF:=Ln (log.drop s.made);generalize log.drop s.made=lg at E Yz jx bF;have FX:=h0.log;have ci:=h0.len;have hnd:=j7 l Z eP 0 XM (by omega);generalize aE l eP 0=F at E hnd;obtain⟨kr,oS⟩:=hM.d;refine sX func121 ntmps121 λ w cl own kf=>?_
 refine gS ?_;refine bA 41 ?_;refine nA 47 ?_;refine nA 48 ?_;refine kl ?_;refine gS ?_
 repeat refine z2 ?_
 refine cA hnd ?_;refine nA 44 ?_;refine z5 ?_;refine kl ?_;refine gS ?_
 repeat refine z2 ?_
 refine z6 ?_;refine nA 42 ?_;refine z5 ?_;refine kl ?_;refine zM ?_;refine EQ ⟨[(5,.ptr 41 0),(10,.ptr 47 0),(11,.ptr 48 0),(12,.ptr 44 0),(13,.ptr 42 0)],[(40,ru l D m log s),(41,[.ptr 40 0]),(42,[u kind,u (if F<0 then l.done else F),u dX,u v]),(44,[u F]),(47,[u 0,dB false,u 0,u 0,.p (.sl true 0 [])]),(48,[u 0,u 0,u 0,u 0])],[]⟩ ?_ ?_
 ·refine go ?_;generalize h1:decide (F<0)=cc;cases cc
  ·rw[if_neg (of_decide_eq_false h1)];refine go ?_;exact⟨rfl,zX⟩
  ·rw[if_pos (of_decide_eq_true h1)];refine go ?_;exact⟨rfl,zX⟩
 generalize(if F<0 then l.done else F)=ob at E⊢;have hC:=λ(k:Nat)(I:k<=lg.length)=>aac l Z D m log ⟨kind,ob,dX,v⟩ lg F s k h0.gone (by omega) I
 refine go ?_;refine gW 10 [] ?_;refine cV (SL aB lg.length (gM lg) rfl rfl rfl rfl rfl rfl rfl (by omega) (by omega) (by omega) (by omega) bF jx) rfl rfl ?_;refine rB (vF aB 43 rfl rfl rfl rfl) rfl rfl rfl rfl ?_;refine bh ?_;refine z5 ?_;refine kl ?_;refine gS ?_;refine z2 ?_;refine z2 ?_;refine kl ?_;refine gS ?_
 repeat refine z2 ?_
 have xN:=hC lg.length (Nat.le_refl _);rw[List.take_length] at xN;unfold KR at E;generalize jc:kJ l D s.gone ⟨kind,ob,dX,v⟩ F lg=r1 at E xN;obtain⟨a1,⟨ov,u9,oe,op,og⟩,NM⟩:=r1;simp only at E
 change eo _ _ _ _ _ (λ d U=>d=.bg [fy a1,.agg [u ov,dB u9,u oe,u op,d7 og],dB NM]/\_) at xN
 refine vI xN ?_;rintro d U ⟨rfl,rfl⟩
 repeat refine z2 ?_
 refine nA 49 ?_;refine nA 50 ?_;refine go ?_;cases NM
 ·rw[if_pos rfl] at E;refine go ?_;refine bn (DH aB rfl rfl rfl rfl rfl) rfl rfl rfl ?_;refine Cb rfl rfl rfl ?_;refine gP ?_;exact fP _ ⟨a1,s,E.symm,rfl,rfl⟩
 rw[if_neg (by simp)] at E;refine go ?_;generalize A:decide (op<0)=cc;cases cc
 rotate_left
 ·rw[if_pos (of_decide_eq_true A)] at E;refine go ?_;exact fX _ ⟨_,s,E.symm,hG _ _ E.symm,rfl,rfl⟩
 ·have bs:=of_decide_eq_false A;rw[if_neg bs] at E;have e2:=congrArg Prod.snd jc;rw[UZ] at e2;simp only at e2;obtain⟨pt,rfl⟩:=Int.eq_ofNat_of_zero_le (show 0<=op by omega);have pH:(pt:Int)<lg.length:=by
   have:=(Rp hS (D:=D) (gone:=s.gone) (op:=⟨kind,ob,dX,v⟩) (log:=lg) (by rw[e2]) (by rw[e2];exact Int.natCast_nonneg _)).1;rw[e2] at this;exact this
  simp only[Int.toNat_natCast] at E;have Ao:=hC pt (by omega);generalize hf:(λ k=>(kJ l D s.gone ⟨kind,ob,dX,v⟩ F (lg.take k)).2.2)=f at E;have Pg:∀k,(kJ l D s.gone ⟨kind,ob,dX,v⟩ F (lg.take k)).2.2=f k:=λ k=>by rw[<-hf]
  have XP:f lg.length=true:=by rw[<-Pg,List.take_length,jc]
  generalize kJ l D s.gone ⟨kind,ob,dX,v⟩ F (lg.take pt)=r2 at E Ao;obtain⟨a2,o2,VG⟩:=r2;simp only at E
  change eo _ _ _ _ _ (λ d U=>d=.bg [fy a2,.agg [u o2.val,dB o2.is,u o2.err,u o2.bS,d7 o2.gone],dB VG]/\_) at Ao
  generalize hK:nv f (lg.length-(pt+1)) (pt+1)=aL at E;refine go ?_;refine vI Ao ?_;rintro d U ⟨rfl,rfl⟩
  repeat refine z2 ?_
  refine nA 51 ?_;refine nA 52 ?_;refine go ?_;refine bW (λ p:Nat×Bool=>p.1<=lg.length-pt/\(p.2=false->p.1+pt+1<=lg.length/\nv f (lg.length-(pt+1)-p.1) (pt+1+p.1)=aL)/\(p.2=true->aL=pt+p.1)) (λ p=>⟨SK (pt+1+p.1) p.2,SJ l D m log ⟨kind,ob,dX,v⟩ lg F s a2 ov u9 oe pt og,[]⟩) (λ p=>lg.length+1-p.1) (0,false) ⟨by simp,λ _=>⟨by simp only;omega,hK⟩,λ h=>by cases h⟩ (zX) ?_;rintro⟨j,dn⟩ ⟨hj,hF,hT⟩;simp only at hj hF hT;refine(show aK _ _ _ _ ⟨SK (pt+1+j) dn,SJ l D m log ⟨kind,ob,dX,v⟩ lg F s a2 ov u9 oe pt og,[]⟩ from ?_);refine go ?_;cases dn
  ·obtain⟨Ar,As⟩:=hF rfl;have Ap:=hC (pt+1+j) (by omega);have wk:=Pg (pt+1+j);generalize kJ l D s.gone ⟨kind,ob,dX,v⟩ F (lg.take (pt+1+j))=r3 at Ap wk;obtain⟨a3,o3,NN⟩:=r3;simp only at wk
   change eo _ _ _ _ _ (λ d U=>d=.bg [fy a3,.agg [u o3.val,dB o3.is,u o3.err,u o3.bS,d7 o3.gone],dB NN]/\_) at Ap
   refine go ?_;refine vI Ap ?_;rintro d U ⟨rfl,rfl⟩;refine go ?_;refine⟨(j+1,NN),⟨by simp only;omega,λ h=>?_,λ h=>?_⟩,by simp only;omega,zX⟩
   ·simp only at h⊢;subst h;have cE:pt+1+j≠lg.length:=λ e=>by rw[e,XP] at wk;cases wk
    refine⟨by omega,?_⟩;rw[show lg.length-(pt+1)-j=(lg.length-(pt+1)-(j+1))+1 by omega,nv,<-wk,if_neg (by simp)] at As;exact As
   ·simp only at h⊢;subst h;rw[<-As];cases hn:lg.length-(pt+1)-j with
    |zero=>rw[nv];omega
    |succ n=>rw[nv,<-wk,if_pos rfl];omega
  ·have r7:=hT rfl;subst r7;refine go ?_;refine gW 6 [] ?_;refine go ?_;rw[show((s.made:Int)+(((pt+1+j:Nat):Int)-1))=((s.made+(pt+j):Nat):Int) by omega];refine gW 3 [47] ?_;refine go ?_;exact fX _ ⟨_,_,E.symm,hG _ _ E.symm,rfl,rfl⟩
section
variable{P:Program}{ae:Nat->Option TI}{Γ:bI}{l:List Oper}{Q:Exit->St->Prop}{fuel:Nat}{aG pN:Array Bool}{J bU:St}{o:Oper}{i:Nat}
structure iJ(P:Program)(Γ:bI)(l:List Oper)(Q:Exit->St->Prop)(fuel:Nat)(aG:Array Bool)(J:St):Prop where
 run:∀(a:Act)(e:aA),bu Γ J e a->wpAny P .any l.toArray (jr Γ Q) fuel aG a e.w
theorem Is{id:Nat}(hm:P.follows .mixedOrders=true)(h:iJ P Γ l Q l.length (Array.replicate l.length false) J):aK P Γ (.region id l.toArray true) Q J:=⟨λ a e L=>by
 have hg:kg e {e with w:=e.w.drew}:=⟨(Below.refl _ _).drew,λ _ _=>rfl,rfl,rfl,rfl⟩;have h1:=h.run a _ (L.grow hg);exact wp_region_any hm (by simpa using h1)⟩
def o9(P:Program)(Γ:bI)(l:List Oper)(Q:Exit->St->Prop)(fuel:Nat)(aG:Array Bool):Exit->St->Prop:=λ ex J=>match ex with
 |.normal=>iJ P Γ l Q fuel aG J
 |ex=>Q ex J
theorem aa2(h:iJ P Γ l Q fuel aG J):o9 P Γ l Q fuel aG .normal J:=h
theorem EO(ho:l[i]?=some o)(R:aG.setIfInBounds i true=pN)(h:bp P Γ l (o9 P Γ l Q fuel pN) [o] J){a:Act}{e:aA}(L:bu Γ J e a):wpOp P l.toArray (jr Γ Q) i (wpAny P .any l.toArray (jr Γ Q) fuel (aG.setIfInBounds i true)) a e.w:=by
 rw[R];have h1:=h.run a e L;have gI:l.toArray[i]?=some o:=by simpa using ho
 have A:wpOp P l.toArray (jr Γ (o9 P Γ l Q fuel pN)) i (wpList P l.toArray (jr Γ (o9 P Γ l Q fuel pN)) []) a e.w:=by unfold wpOp;simp only[gI];exact h1
 have K:=Mz (d9:=jr Γ Q) (λ ex a w cE hp=>by
  obtain⟨bc,Y,h4,h5,h6⟩:=hp;refine⟨bc,Y,h4,h5,?_⟩;unfold o9 at h6;split at h6
  ·exact absurd rfl cE
  ·exact h6) A
 refine wpOp_mono (λ br aI hh=>?_) K;obtain⟨bc,Y,rfl,ey,hA⟩:=hh;exact iJ.run hA br Y ey
theorem Ua(hr:Region.ready .any l.toArray aG=[i])(ho:l[i]?=some o)(R:aG.setIfInBounds i true=pN)(h:bp P Γ l (o9 P Γ l Q fuel pN) [o] J):iJ P Γ l Q (fuel+1) aG J:=⟨λ a e L=>wpAny_all hr (by simp) λ j hj=>by
 obtain rfl:j=i:=by simpa using hj
 exact EO ho R h L⟩
theorem Ud{j:Nat}{oj:Oper}{Q7:Array Bool}(hr:Region.ready .any l.toArray aG=[i,j])(ho:l[i]?=some o)(iP:l[j]?=some oj)(R:aG.setIfInBounds i true=pN)(dJ:aG.setIfInBounds j true=Q7)(h:bp P Γ l (o9 P Γ l Q fuel pN) [o] J)(A:bp P Γ l (o9 P Γ l Q fuel Q7) [oj] J):iJ P Γ l Q (fuel+1) aG J:=⟨λ a e L=>wpAny_all hr (by simp) λ k I=>by
 rcases List.mem_cons.1 I with rfl|I
 ·exact EO ho R h L
 ·obtain rfl:k=j:=by simpa using I
  exact EO iP dJ A L⟩
theorem T9(hr:Region.ready .any l.toArray aG=[])(h:Q .normal J):iJ P Γ l Q fuel aG J:=⟨λ _ e L=>wpAny_done hr ⟨J,e,rfl,L,h⟩ fuel⟩
def zg(P:Program)(Γ:bI)(l:List Oper)(o:Oper)(J:St)(d:G):Prop:=∀(a:Act)(e:aA),bu Γ J e a->∃v,Yields P l.toArray o v a/\bD e v d
theorem Ub{t:Nat}{d:G}(hs:Region.noSelect l.toArray=true)(hf:Region.free .any l.toArray aG i=true)(hr:(Region.ready .any l.toArray aG).contains i=true)(R:aG.setIfInBounds i true=pN)(hq:∀c bc,¬Q (.panic c) bc)(ho:l[i]?=some o)(F:o.dst=some t)(ba:Nat.blt t Γ.n=true)(hy:zg P Γ l o J d)(h:iJ P Γ l Q fuel pN ⟨(t,d)::J.s,J.b,J.g⟩):iJ P Γ l Q (fuel+1) aG J:=⟨λ a e L=>by
 obtain⟨v,hv,oX⟩:=hy a e L;refine wpAny_take (by simpa using ho) hs hf hr (λ c a w hp=>?_) hv ?_
 ·obtain⟨bc,_,_,_,h5⟩:=hp;exact absurd h5 (hq c bc)
 ·rw[R,F];have:=L.put (dst:=o.dst) (qk F ba) oX;rw[F] at this;exact h.run _ e this⟩
theorem aes{x:Operand}{d:G}(ho:o.op=.move x)(hg:gd l o (kv J.s)=some true)(O:ev (kv J.s) x=some d):zg P Γ l o J d:=λ a e L=>by
 have h1:=(L.iI o.op.operands).1 x (by rw[ho];simp[Op.operands]) _ O;refine⟨a.eval x,.inl ⟨lN L hg,λ w=>?_⟩,h1⟩;obtain⟨dst,op,type,pos,after,guard⟩:=o;simp only at ho;subst ho
 rfl
theorem aet{x:Operand}{b of:Nat}(ho:o.op=.nilCheck x)(hg:gd l o (kv J.s)=some true)(O:ev (kv J.s) x=some (.ptr b of)):zg P Γ l o J (.ptr b of):=λ a e L=>by
 have h1:=(L.iI o.op.operands).1 x (by rw[ho];simp[Op.operands]) _ O;refine⟨a.eval x,.inl ⟨lN L hg,λ w=>?_⟩,h1⟩;generalize dk:a.eval x=v at h1;cases h1 with
 |ptr T=>
  obtain⟨dst,op,type,pos,after,guard⟩:=o;simp only at ho;subst ho;simp only[execOp,dk]
  rfl
theorem aer(hT:cW P ae){ty:TypeId}{x:Operand}{f b of ft dF sz z1 z2:Nat}{z3:Value}{fs:List (TypeId×Nat×Nat)}(ho:o.op=.fieldAddr ty x f)(ht:ae ty=some ⟨.struct fs,z1,z2,z3⟩)(hf:fs[f]?=some (ft,dF,sz+1))(hg:gd l o (kv J.s)=some true)(O:ev (kv J.s) x=some (.ptr b of)):zg P Γ l o J (.ptr b (of+dF)):=λ a e L=>by
 have h1:=(L.iI o.op.operands).1 x (by rw[ho];simp[Op.operands]) _ O;generalize dk:a.eval x=v at h1;cases h1 with
 |ptr T=>refine⟨_,.inl ⟨lN L hg,λ w=>?_⟩,.ptr T⟩;obtain⟨dst,op,type,pos,after,guard⟩:=o;simp only at ho;subst ho;simp[execOp,dk,IW hT ht hf]
end
theorem NH{B:Nat->Bool}:∀{cs:List G},fu cs->vR B cs=cs
 |[],_=>rfl
 |d::cs,h=>by
  have h1:∀B au,G.ok B au d=true/\G.ok.eA B au cs=true:=λ B au=>by
   have:=h B au
   simpa only[G.ok.eA,Bool.and_eq_true] using this
  show uW B d::vR B cs=_;rw[NH λ B au=>(h1 B au).2,uW,(h1 B λ _=>true).1]
  rfl
theorem E7{B H:Nat->Bool}{s M:List (Nat×G)}{b bj:List (Nat×List G)}(hs:lx B s some=some M)(T:iA H B b=bj):lx B s (λ M=>lL H B b (λ bj=>some (M,bj)))=some (M,bj):=by rw[um] at hs⊢;cases hs;rw[ul,T]
theorem xB{B H:Nat->Bool}{af:Nat}{c bw:List G}{l iT:List (Nat×List G)}(h1:H af=false)(A:zu B c some=some bw)(K:iA H B l=iT):iA H B ((af,c)::l)=(af,bw)::iT:=by
 rw[II] at A;cases A;rw[iA,h1,K]
 rfl
theorem sZ{B H:Nat->Bool}{af:Nat}{c:List G}{l iT:List (Nat×List G)}(h1:H af=false)(A:fu c)(K:iA H B l=iT):iA H B ((af,c)::l)=(af,c)::iT:=by
 rw[iA,h1,K,NH A]
 rfl
theorem E5{B H:Nat->Bool}{af:Nat}{c:List G}{l iT:List (Nat×List G)}(h1:H af=true)(K:iA H B l=iT):iA H B ((af,c)::l)=iT:=by
 rw[iA,h1,K]
 rfl
section
variable{P:Program}{ae:Nat->Option TI}{Γ:bI}{l:List Oper}{Q d9:Exit->St->Prop}{fuel:Nat}{aG pN:Array Bool}{J:St}{o:Oper}{i:Nat}
theorem Mx{ops:Array Oper}{Q d9:Exit->Act->World->Prop}(hn:∀a w,Q .normal a w->d9 .normal a w)(hq:∀ex a w,ex≠.normal->Q ex a w->d9 ex a w):∀(fuel:Nat)(aG:Array Bool)(a:Act)(w:World),wpAny P .any ops Q fuel aG a w->wpAny P .any ops d9 fuel aG a w
 |0,_,a,w,h=>⟨h.1,hn a w h.2⟩
 |fuel+1,_,a,w,h=>⟨λ hr=>hn a w (h.1 hr),λ i X=>wpOp_mono (λ br aI hh=>Mx hn hq fuel _ br aI hh) (Mz hq (h.2 i X))⟩
theorem EN(h:iJ P Γ l (λ ex J=>ex=.normal/\Q .normal J) fuel aG J):iJ P Γ l Q fuel aG J:=⟨λ a e L=>Mx (λ _ _ hh=>by obtain⟨bc,Y,h1,A,_,h4⟩:=hh;exact⟨bc,Y,h1,A,h4⟩) (λ ex _ _ cE hh=>by obtain⟨bc,Y,_,_,K,_⟩:=hh;exact absurd K cE) _ _ _ _ (h.run a e L)⟩
theorem aeq{x:Operand}{k:Nat}{ds:List G}{d:G}(ho:o.op=.extract x k)(hg:gd l o (kv J.s)=some true)(O:ev (kv J.s) x=some (.bg ds))(F:ds[k]?=some d):zg P Γ l o J d:=λ a e L=>by
 have h1:=(L.iI o.op.operands).1 x (by rw[ho];simp[Op.operands]) _ O;generalize dk:a.eval x=v at h1;cases h1 with
 |bg R hh=>
  rename_i vs;have I:k<vs.length:=by rw[R];exact(List.getElem?_eq_some_iff.1 F).1
  refine⟨vs[k],.inl ⟨lN L hg,λ w=>?_⟩,hh k _ d (List.getElem?_eq_getElem I) F⟩;obtain⟨dst,op,type,pos,after,guard⟩:=o;simp only at ho;subst ho;simp[execOp,dk,Instr.extract,I]
def Im(ops:Array Oper)(c j:Nat):Bool:=(List.range c).all (λ i=>jD ops ops.size c i&&match ops[i]? with|some o=>o.dst.isSome|none=>true)&&(List.range ops.size).all (λ i=>decide (i<=c)||i==j||jD ops ops.size i c)
theorem adD{av:Nat->Option (Nat×Gr)}{c i:Nat}{p:Nat×Gr}(h:∀g,ej av (λ _=>none) c g=none)(X:i<c)(hp:av i=some p):False:=by
 rcases Ew (av:=av) (au:=λ _=>none) (h:=p.1) c with⟨_,A⟩|⟨j,Gj,_,_,K,_⟩
 ·exact A i p X hp rfl
 ·rw[h] at K;cases K
theorem US(c j nm:Nat){id tj:Nat}{l1:List Oper}{oc oj:Oper}{cells:List G}{B:List (Nat×List G)}{LA LB:Array Bool}{na nb:Nat}(hs:l5 c l some=some l1)(hv:oE [] J.b some=some B)(hm:P.follows .mixedOrders=true)(hB:qF l.toArray Γ.n=true)(hA:Im l.toArray c j=true)(yi:l[c]?=some oc)(FJ:Nat.blt c j=true)(iP:l[j]?=some oj)(JP:oj.guard=none)(q7:oj.dst=some tj)(Kj:∀(S:Nat->Option G)(j9:Nat->Option (List G)),dH P oj S j9 (.ptr nm 0) (some (nm,cells)))
 (W8:((List.range l.length).map λ i=>decide (i<c)).toArray=LA)(W9:((List.range l.length).map λ i=>decide (i<c)||i==j).toArray=LB)(Dl:mA LA=na)(fK:mA LB=nb)(hg:J.g=[])
 (h:cq P Γ.n l B B (λ bc=>bc.g=[]/\kv bc.b nm=none/\kv B nm=none/\iJ P Γ l Q na LA bc/\iJ P Γ l Q nb LB ⟨(tj,.ptr nm 0)::bc.s,(nm,cells)::bc.b,bc.g⟩) 0 [] [] l1 J):aK P Γ (.region id l.toArray true) Q J:=by
 obtain⟨pD,hs⟩:=rF hs;cases hs;have FJ:c<j:=by simpa using FJ
 obtain⟨j9,K,_,_,i6⟩:=y6 _ _ _ _ hv;cases K;have bQ:l.toArray.size=l.length:=by simp
 have mg:j<l.length:=(List.getElem?_eq_some_iff.1 iP).1;have ia:(l.take c).length=c:=by rw[List.length_take];omega
 have g1:∀i,i<c->l[i]?=(l.take c)[i]?:=λ i X=>by rw[List.getElem?_take_of_lt X]
 have aQ:=Hn hB;obtain⟨F1,N1,U1,M1,nN,⟨ip,mW,YH,WU,rZ⟩,Cv,xG,ta,KY⟩:=cq.extract (l.take c) 0 [] [] J h;rw[ia] at Cv xG ta;have DV:∀i o,i<c->l[i]?=some o->sS P l i (kv B) (kv B) (dY (l.take c) F1 (kv J.s) i) (dC N1 (kv J.b) i) (ej M1 (kv J.g) i) (fL U1 N1 [] i) (fQ (l.take c) M1 [] i) o (F1 i) (N1 i) (U1 i) (M1 i):=λ i o X ho=>by
  have:=KY i o (by rw[<-g1 i X];exact ho);rw[Nat.zero_add] at this;exact this
 simp only[Im,Bool.and_eq_true] at hA;have Am:∀i,i<c->jD l.toArray l.toArray.size c i=true/\∀o,l[i]?=some o->o.dst.isSome=true:=λ i X=>by
  have h5:=List.all_eq_true.1 hA.1 i (List.mem_range.2 X);simp only[Bool.and_eq_true] at h5;exact⟨h5.1,λ o ho=>by have h6:=h5.2;rw[show l.toArray[i]?=some o by simpa using ho] at h6;exact h6⟩
 have wc:∀i,i<l.length->c<i->i≠j->jD l.toArray l.toArray.size i c=true:=λ i X afg jT=>by
  have h5:=List.all_eq_true.1 hA.2 i (List.mem_range.2 (by rw[bQ];exact X));simp only[Bool.or_eq_true,decide_eq_true_eq,beq_iff_eq] at h5;rcases h5 with(h5|h5)|h5
  ·omega
  ·exact absurd h5 jT
  ·exact h5
 have tr:∀i,i<c->M1 i=none:=λ i X=>by
  cases hp:M1 i with
  |none=>rfl
  |some p=>
   refine(adD (av:=M1) (c:=c) (λ g=>?_) X hp).elim;have:kv nN.g g=ej M1 (kv J.g) c g:=by rw[Cv]
   rw[ip,hg] at this;exact this.symm
 have tu:∀i,i<c->U1 i=false:=λ i X=>by
  have du:i<l.length:=by omega
  have ho:=List.getElem?_eq_getElem du;rcases DV i _ X ho with⟨_,_,_,h5,_⟩|⟨_,_,_,h5,_⟩|⟨_,_,_,_,F,_⟩|⟨_,_,_,_,_,_,_,_,_,h5,_⟩
  ·exact h5
  ·exact h5
  ·have:=(Am i X).2 _ ho;rw[F] at this;cases this
  ·exact h5
 let am:Nat->G:=λ i=>if i<c then F1 i else if i=j then .ptr nm 0 else .any
 let N:Nat->Option (Nat×List G):=λ i=>if i<c then N1 i else if i=j then some (nm,cells) else none
 have BR:∀i,i<c->am i=F1 i:=λ i X=>if_pos X
 have xo:∀i,i<c->N i=N1 i:=λ i X=>if_pos X
 have Fj:am j=.ptr nm 0:=by simp only[am];rw[if_neg (by omega)];simp
 have Nj:N j=some (nm,cells):=by simp only[N];rw[if_neg (by omega)];simp
 have Nn:∀i,c<=i->i≠j->N i=none:=λ i X jT=>by simp only[N];rw[if_neg (by omega),if_neg jT]
 have xH:∀i,i<=c->dY l am (kv J.s) i=dY (l.take c) F1 (kv J.s) i:=λ i X=>Mh i λ k I=>⟨g1 k (by omega),BR k (by omega)⟩
 have Cw:∀i,i<=c->dC N (kv J.b) i=dC N1 (kv J.b) i:=λ i X=>BF i λ k I=>xo k (by omega)
 have eG:∀(av:Nat->Option (Nat×Gr)) i,(∀k,k<i->av k=none)->ej av (kv J.g) i=kv J.g:=λ av i hM=>by
  induction i with
  |zero=>rfl
  |succ i ih=>
   rw[ej,hM i (Nat.lt_succ_self i),ih λ k I=>hM k (by omega)]
   rfl
 have eL:∀(iT:List Oper)(av:Nat->Option (Nat×Gr)) i,(∀k,k<i->av k=none)->fQ iT av [] i=[]:=λ iT av i hM=>by
  induction i with
  |zero=>rfl
  |succ i ih=>
   rw[fQ,hM i (Nat.lt_succ_self i),ih λ k I=>hM k (by omega)]
   rfl
 have eD:∀(bJ:Nat->Bool)(kH:Nat->Option (Nat×List G)) i,(∀k,k<i->bJ k=false)->fL bJ kH [] i=[]:=λ bJ kH i hU=>Mb i hU
 have W0:∀i,i<=j->dC N (kv J.b) i nm=none:=λ i X=>by
  have qX:dC N1 (kv J.b) c nm=none:=by rw[<-ta];exact mW
  obtain⟨q1,q2⟩:=qI c qX;refine Hy i q1 λ k p I hp=>?_
  by_cases PM:k<c
  ·rw[xo k PM] at hp;exact q2 k p PM hp
  ·rw[Nn k (by omega) (by omega)] at hp;cases hp
 let tQ:Nat->Bool:=λ i=>decide (i<c)||i==j
 have GX:∀i,tQ i=true->i<c\/i=j:=λ i X=>by
  simp only[tQ,Bool.or_eq_true,decide_eq_true_eq,beq_iff_eq] at X;exact X
 refine⟨λ a e L=>?_⟩;have oT:∀i,i<l.length->∃o,l[i]?=some o:=λ i X=>⟨l[i],List.getElem?_eq_getElem X⟩
 have:=BI (P:=P) (Γ:=Γ) (J:=J) (ops:=l.toArray) (H:=l.toArray.size) (λ _=>false) (λ i=>i==c) tQ aQ (Iu l.toArray).1 (Nat.le_refl _) (am:=am) (N:=N) (bJ:=λ _=>false) (av:=λ _=>none) (B:=B) (a0:=a) (Q:=jr Γ Q)
  (λ i X=>Nn i (by omega) (by omega)) (λ _ _=>rfl)
  (λ i X=>by rcases X with X|X;·cases X
             ·rw[show i=c by simpa using X];exact Nn c (Nat.le_refl _) (by omega))
  (λ _ _=>rfl)
  (λ i o ho=>by
   have X:i<l.length:=by have:=(Array.getElem?_eq_some_iff.1 ho).1;omega
   by_cases x3:i=c
   ·exact .inr (.inl (by simp[x3]))
   ·by_cases jT:i=j
    ·exact .inl (by simp[tQ,jT])
    ·rcases Nat.lt_or_ge i c with h5|h5
     ·exact .inl (by simp[tQ,h5])
     ·exact .inr (.inr ⟨c,by simp,wc i X (by omega) jT⟩))
  (.inl λ _ _=>⟨rfl,rfl⟩) (λ b cs=>i6.get)
  (λ i o X ho _ _ yj=>by
   have gI:l[i]?=some o:=by simpa using ho
   rw[eG _ i (λ _ _=>rfl),eL _ _ i (λ _ _=>rfl),eD _ _ i (λ _ _=>rfl)];show sS P l i (kv B) (kv J.b) (dY l am (kv J.s) i) (dC N (kv J.b) i) (kv J.g) [] [] o (am i) (N i) false none;rcases GX i yj with h5|rfl
   ·have cO:=DV i o h5 gI;rw[eG _ i (λ k I=>tr k (by omega)),eL _ _ i (λ k I=>tr k (by omega)),eD _ _ i (λ k I=>tu k (by omega)),tu i h5,tr i h5,<-xH i (by omega),<-Cw i (by omega),<-BR i h5,<-xo i h5] at cO;rcases cO with⟨a1,a2,a3,a4,a5⟩|cO|⟨_,_,_,_,F,_⟩|⟨_,_,_,_,_,_,_,_,_,_,hh⟩
    ·exact .inl ⟨a1,.inl (by rcases a2 with a2|⟨_,a2⟩<;>exact a2),a3,a4,a5⟩
    ·exact .inr (.inl cO)
    ·have:=(Am i h5).2 o gI;rw[F] at this;cases this
    ·cases hh
   ·rw[iP] at gI;cases gI;rw[Fj,Nj];refine .inl ⟨?_,.inl (Kj _ _),λ p hp=>?_,rfl,rfl⟩
    ·unfold gd;rw[JP]
    ·cases hp;exact⟨W0 i (Nat.le_refl _),YH⟩)
  (λ aG b Y hv q2 q3 q4=>by
   have h1:=q2 c (by omega);rw[q4 c (by simp)] at h1;cases h1)
  (λ fuel aG br Y i X sg hr ct gz _=>by
   obtain rfl:i=c:=by simpa using X
   have ho:l.toArray[i]?=some oc:=by simpa using yi
   obtain⟨jY,o',gI,mN⟩:=mem_ready.1 hr;rw[ho] at gI;cases gI;obtain⟨kz,du⟩:=mL jY;have wE:∀k,k<i->aG.getD k false=true:=λ k I=>yU ct.closed _ _ _ oc ho mN (Am k I).1
   have sn:∀k,i<=k->k≠j->aG.getD k false=false:=λ k I jU=>by
    cases R:aG.getD k false with
    |false=>rfl
    |true=>
     by_cases mh:k=i
     ·rw[mh,kz] at R;cases R
     ·have PO:k<l.length:=by
       rcases Nat.lt_or_ge k l.length with h5|h5
       ·exact h5
       ·have:aG[k]?=none:=Array.getElem?_eq_none (by rw[ct.lG,bQ];exact h5);simp[this] at R
      obtain⟨rp,yk⟩:=oT k PO;have P6:l.toArray[k]?=some rp:=by simpa using yk
      have:=yU ct.closed _ _ _ rp P6 (λ x O T=>ct.closed k rp P6 R x O T) (wc k PO (by omega) jU);rw[kz] at this;cases this
   have PU:aG.size=l.length:=by rw[ct.lG,bQ]
   have P9:∀{aC:Array Bool}{n:Nat}{bc:St},aG=aC->n=fuel+1->bu Γ bc Y br->iJ P Γ l Q n aC bc->wpOp P l.toArray (jr Γ Q) i (wpAny P .any l.toArray (jr Γ Q) fuel (aG.setIfInBounds i true)) br Y.w:=λ Z hn FI WX=>by
    subst Z;subst hn;exact(WX.run br Y FI).2 i hr
   cases Dd:aG.getD j false with
   |false=>
    have Z:aG=LA:=by
     rw[<-W8];refine Array.ext (by simp[PU]) λ k h5 h6=>?_
     have h7:k<l.length:=by omega
     have h8:aG.getD k false=aG[k]:=by simp[h5]
     rw[<-h8];simp only[List.getElem_toArray,List.getElem_map,List.getElem_range];rcases Nat.lt_or_ge k i with h9|h9
     ·rw[wE k h9];simp[h9]
     ·by_cases jU:k=j
      ·rw[jU,Dd];simp;omega
      ·rw[sn k h9 jU];simp;omega
    refine P9 Z (by rw[<-Dl,<-Z];omega) ?_ WU;refine ct.pr aQ (H:=i) (by rw[xG];exact(xH i (Nat.le_refl _)).symm) (by rw[ta];exact(Cw i (Nat.le_refl _)).symm) (by rw[eG _ i (λ _ _=>rfl),ip,hg]) wE λ t h5 h6=>?_
    have h7:aG.getD t false=false:=by
     by_cases jU:t=j
     ·rw[jU];exact Dd
     ·exact sn t h5 jU
    have h8:t<aG.size:=by rw[ct.lG];exact h6
    simp[h8] at h7⊢;exact h7
   |true=>
    have Z:aG=LB:=by
     rw[<-W9];refine Array.ext (by simp[PU]) λ k h5 h6=>?_
     have h7:k<l.length:=by omega
     have h8:aG.getD k false=aG[k]:=by simp[h5]
     rw[<-h8];simp only[List.getElem_toArray,List.getElem_map,List.getElem_range];rcases Nat.lt_or_ge k i with h9|h9
     ·rw[wE k h9];simp[h9]
     ·by_cases jU:k=j
      ·rw[jU,Dd];simp
      ·rw[sn k h9 jU];simp[jU];omega
    refine P9 Z (by rw[<-fK,<-Z];omega) ?_ rZ;have dz:∀k,aG.getD k false=true->k<i\/k=j:=λ k I=>by
     by_cases jU:k=j
     ·exact .inr jU
     ·rcases Nat.lt_or_ge k i with h5|h5
      ·exact .inl h5
      ·rw[sn k h5 jU] at I;cases I
    have P5:l.toArray[j]?=some oj:=by simpa using iP
    refine⟨ct.size,ct.df,λ t d ht=>?_,λ b cs T=>?_,λ b T=>?_,λ g=>?_,ct.env⟩
    ·simp only[cM] at ht;split at ht
     ·rename_i Kt;subst Kt;cases ht;rw[<-Fj];exact ct.uX j oj _ P5 Dd q7
     ·rename_i Kt;rw[xG,<-xH i (Nat.le_refl _)] at ht
      by_cases JG:∃(k:Nat)(rp:Oper),k<i/\l.toArray[k]?=some rp/\rp.dst=some t
      ·obtain⟨k,rp,mh,I,F⟩:=JG;have:=HB (ops:=l.toArray) aQ (am:=am) (S:=kv J.s) I F i mh;rw[this] at ht;cases ht;exact ct.uX k rp t I (wE k mh) F
      ·have:=HC (ops:=l.toArray) (am:=am) (S:=kv J.s) (t:=t) i λ k rp mh I F=>JG ⟨k,rp,mh,I,F⟩
       rw[this] at ht;rw[ct.kept t λ k rp I R F=>?_]
       ·exact ct.bP t d ht
       ·rcases dz k R with h5|rfl
        ·exact JG ⟨k,rp,h5,I,F⟩
        ·rw[P5] at I;cases I;rw[q7] at F;cases F;exact Kt rfl
    ·simp only[cM] at T;split at T
     ·rename_i i7;subst i7;cases T;refine ct.news j (nm,cells) Dd Nj λ k q I R hq=>?_
      rcases dz k R with h5|h5<;>omega
     ·rename_i i7;rw[ta,<-Cw i (Nat.le_refl _)] at T;rcases Hz i T with⟨h1,A⟩|⟨k,I,hp,A⟩
      ·refine ct.boxes b cs h1 λ k p R hp=>?_
       rcases dz k R with h5|rfl
       ·exact A k p h5 hp
       ·rw[Nj] at hp;cases hp;exact λ e=>i7 e
      ·refine ct.news k _ (wE k I) hp λ jd q dv R hq=>?_
       rcases dz jd R with h5|rfl
       ·exact A jd q dv h5 hq
       ·rw[Nj] at hq;cases hq;exact λ e=>i7 e
    ·simp only[cM] at T;split at T
     ·cases T
     ·rename_i i7;rw[ta,<-Cw i (Nat.le_refl _)] at T;obtain⟨h1,A⟩:=qI i T;refine ct.ei b h1 λ k p R _ hp=>?_
      rcases dz k R with h5|rfl
      ·exact A k p h5 hp
      ·rw[Nj] at hp;cases hp;exact λ e=>i7 e
    ·rw[ip,ct.gs g λ _ _ _ hp=>by cases hp];rw[hg])
  l.toArray.size (Array.replicate l.toArray.size false) a {e with w:=e.w.drew} (HJ _).symm
  ?_ (λ t h5 ht=>by omega) (λ i X=>by cases X) (λ i X=>by
   have:i=c:=by simpa using X
   have dT:c<l.length:=by omega
   simp[this,dT])
 ·exact wp_region_any hm this
 ·have JR:kg e {e with w:=e.w.drew}:=⟨(Below.refl _ _).drew,λ _ _=>rfl,rfl,rfl,rfl⟩;have ey:=L.grow JR;refine⟨by simp,L.size,L.df,λ i o _ R=>?_,λ i o t _ R=>?_,λ t _=>rfl,ey.bP,λ b cs T _=>ey.boxes b cs T,λ i p R=>?_,λ b T _=>ey.ei b T,λ g _=>ey.gs g,λ i p R=>?_,ey.env⟩
  all_goals(simp[Array.getElem?_replicate] at R;split at R<;>simp at R)
theorem ZT(ws:List Nat){l3:List Oper}{m:Nat}{B:List (Nat×List G)}(hv:oE ws J.b some=some B)(I:yD J.s (l.take m)=true)(h:cq P Γ.n l B J.b (Q .normal) m [] [] l3 J):Gy P Γ l l3 m Q .normal J:=by obtain⟨j9,K,_,_,i6⟩:=y6 _ _ _ _ hv;cases K;exact⟨B,i6,I,h⟩
end
section
variable{Γ:bI}{l l0:List Oper}{Q:Exit->St->Prop}{fuel:Nat}{aC:Array Bool}{J:St}{o o2:Oper}{t:Nat}{d:G}
theorem tA(i:Nat)(h:iJ prog Γ l Q fuel (aC.setIfInBounds i true) ⟨(t,d)::J.s,J.b,J.g⟩)(hs:Region.noSelect l.toArray=true:=by decide+kernel)(hf:Region.free .any l.toArray aC i=true:=by decide+kernel)(hr:(Region.ready .any l.toArray aC).contains i=true:=by decide+kernel)(hq:∀c bc,¬Q (.panic c) bc:=by intro _ _ h;first|(cases h.1;done)|(rcases h.1 with h|h<;>cases h))(ho:l[i]?=some o:=by exact rfl)(F:o.dst=some t:=by exact rfl)(R:Nat.blt t Γ.n=true:=by exact rfl)(hy:zg prog Γ l o J d:=by first|exact aes rfl rfl rfl|exact aeq rfl rfl rfl rfl|exact aet rfl rfl rfl|exact aer aB rfl rfl rfl rfl rfl):iJ prog Γ l Q (fuel+1) aC J:=Ub hs hf hr rfl hq ho F R hy h
theorem oA(i:Nat)(h:bp prog Γ l (o9 prog Γ l Q fuel (aC.setIfInBounds i true)) [o] J)(hr:Region.ready .any l.toArray aC=[i]:=by decide+kernel)(ho:l[i]?=some o:=by exact rfl):iJ prog Γ l Q (fuel+1) aC J:=Ua hr ho rfl h
theorem oB(i j:Nat)(h:bp prog Γ l (o9 prog Γ l Q fuel (aC.setIfInBounds i true)) [o] J)(A:bp prog Γ l (o9 prog Γ l Q fuel (aC.setIfInBounds j true)) [o2] J)(hr:Region.ready .any l.toArray aC=[i,j]:=by decide+kernel)(ho:l[i]?=some o:=by exact rfl)(ww:l[j]?=some o2:=by exact rfl):iJ prog Γ l Q (fuel+1) aC J:=Ud hr ho ww rfl rfl h A
theorem dA(h:Q .normal J)(hr:Region.ready .any l.toArray aC=[]:=by decide+kernel):iJ prog Γ l Q fuel aC J:=T9 hr h
theorem xR(c j nm na nb:Nat){id tj:Nat}{l1:List Oper}{oc oj:Oper}{cells:List G}{B:List (Nat×List G)}
 (h:cq prog Γ.n l B B (λ bc=>bc.g=[]/\kv bc.b nm=none/\kv B nm=none/\iJ prog Γ l Q na ((List.range l.length).map λ i=>decide (i<c)).toArray bc/\iJ prog Γ l Q nb ((List.range l.length).map λ i=>decide (i<c)||i==j).toArray ⟨(tj,.ptr nm 0)::bc.s,(nm,cells)::bc.b,bc.g⟩) 0 [] [] l1 J)
 (hs:l5 c l some=some l1:=by exact rfl)(hv:oE [] J.b some=some B:=by exact rfl)(hm:prog.follows .mixedOrders=true:=by exact rfl)(hB:qF l.toArray Γ.n=true:=by kernel_rfl)(hA:Im l.toArray c j=true:=by kernel_rfl)(yi:l[c]?=some oc:=by exact rfl)(FJ:Nat.blt c j=true:=by exact rfl)(iP:l[j]?=some oj:=by exact rfl)(JP:oj.guard=none:=by exact rfl)(q7:oj.dst=some tj:=by exact rfl)(Kj:∀(S:Nat->Option G)(j9:Nat->Option (List G)),dH prog oj S j9 (.ptr nm 0) (some (nm,cells)):=by exact λ _ _=>vF aB _ rfl rfl rfl rfl)
 (Dl:mA ((List.range l.length).map λ i=>decide (i<c)).toArray=na:=by kernel_rfl)(fK:mA ((List.range l.length).map λ i=>decide (i<c)||i==j).toArray=nb:=by kernel_rfl)(hg:J.g=[]:=by exact rfl):aK prog Γ (.region id l.toArray true) Q J:=US c j nm hs hv hm hB hA yi FJ iP JP q7 Kj rfl rfl Dl fK hg h
theorem nx(h:iJ prog Γ l Q fuel aC J):bp prog Γ l0 (o9 prog Γ l Q fuel aC) [] J:=kl (aa2 h)
end
section
variable{P:Program}{Γ:bI}{Q:Exit->St->Prop}{x y:Code}{J:St}
theorem It{p q r ab B:Prop}(h1:p)(A:q)(K:r)(hB:B)(hA:B->ab):p/\q/\r/\ab/\B:=⟨h1,A,K,hA hB,hB⟩
def NI{dM:Type}(Γ:bI)(ok:dM->Prop)(jq:dM->St)(Q:Exit->St->Prop):Exit->St->Prop
 |.normal,J=>∃p,ok p/\bN Γ J (jq p)
 |ex,J=>Q ex J
theorem ER{dM:Type}(ok:dM->Prop)(jq:dM->St)(h1:aK P Γ x (NI Γ ok jq Q) J)(A:∀p,ok p->aK P Γ y Q (jq p)):aK P Γ x (rG (aK P Γ y Q) Q) J:=
 vK h1 λ ex bU h=>by
  cases ex with
  |normal=>obtain⟨p,hp,hg⟩:=h;exact dO hg (A p hp)
  |_=>exact h
theorem LC{dM:Type}{ok:dM->Prop}{jq:dM->St}{c:List PanicEntry}(h:Q (.panic c) J):NI Γ ok jq Q (.panic c) J:=h
theorem LD{l:List Oper}{fuel:Nat}{aG:Array Bool}{c:List PanicEntry}(h:Q (.panic c) J):o9 P Γ l Q fuel aG (.panic c) J:=h
end
abbrev uj(l:ag)(D m:Int)(log:List aD)(s:ah):bE:=[(40,ru l D m log s),(41,[.ptr 40 0]),(46,[.fn (.func 145) [] [.ptr 41 0,.ptr 46 0]])]
structure BM where
 n:Int
 o:bf
 s:ah
 ex:Bool
 k:Nat
 ps:List Pl
abbrev Vm(p:BM):G:=.bg [u p.n,.agg [u p.o.val,dB p.o.is,u p.o.err,u p.o.bS,.p (.sl p.ex p.k p.ps)]]
structure HR(log:List aD)(m:Except aT ((Int×bf)×ah))(s:ah)(p:BM):Prop where
 eq:m=.ok ((p.n,p.o),p.s)
 fi:hx log s p.s
 n0:0<=p.n
 n1:p.n<65536
def EE(bx:ah->bE)(log:List aD)(m:Except aT ((Int×bf)×ah))(s:ah):G->bE->Prop:=λ d U=>∃p:BM,HR log m s p/\d=Vm p/\U=bx p.s
theorem hx.y4{log:List aD}{s t af:ah}(h:hx log s t)(A:hx log t af):hx log s af:=⟨Nat.le_trans h.made A.made,A.le,A.ok,by have:=h.len;have:=A.len;have:=h.made;have:=A.made;omega⟩
set_option maxHeartbeats 32000000 in
theorem NF(l:ag)(Z:ca l)(hS:0<=l.az)(hM:kh l)(D m:Int)(log:List aD)(k:Nat)(b:Int)(s:ah)(qq:b<65536)(h0:mC log s)
 (ih:b≠0->∀s1,mC log s1->fI prog 145 [40,41,46] [u (iU b),.ptr 41 0,.ptr 46 0] (uj l D m log s1) (EE (uj l D m log) log (lu l D m k (iU b) log s1) s1) (xp (uj l D m log) (lu l D m k (iU b) log s1))):
 fI prog 145 [40,41,46] [u b,.ptr 41 0,.ptr 46 0] (uj l D m log s) (EE (uj l D m log) log (lu l D m (k+1) b log s) s) (xp (uj l D m log) (lu l D m (k+1) b log s)):=by
 generalize E:lu l D m (k+1) b log s=aJ;rw[lu] at E;refine sX func145 ntmps145 λ w cl own kf=>?_
 refine gS ?_;refine z2 ?_;refine nA 47 ?_;refine go ?_;refine gW 9 [] ?_;refine cA (Ci l Z hM m b) ?_;refine go ?_;refine xP (BB l D m log s ⟨1,hL l m b,0,0⟩ h0) ?_;rintro d U ⟨r,s1,bG,fU,rfl,rfl⟩;rw[aw bG] at E;have h1:=h0.next fU;have hw:=lj r.val;refine gA (kB r.val) ?_;generalize k1:decide ((ay r.val).idx=0)=cc;cases cc
 ·rw[if_pos (of_decide_eq_false k1)] at E;refine go ?_;exact fX _ ⟨⟨(ay r.val).idx,j8,s1,true,0,[]⟩,⟨E.symm,fU,hw.1,hw.2⟩,rfl,rfl⟩
 rw[if_neg (λ h=>h (of_decide_eq_true k1))] at E;refine go ?_;generalize k2:decide (b=0)=cc;cases cc
 rotate_left
 ·rw[if_pos (of_decide_eq_true k2)] at E;refine go ?_;exact fX _ ⟨⟨0,⟨0,false,1,-1,[]⟩,s1,true,0,[]⟩,⟨E.symm,fU,by simp,by simp⟩,rfl,rfl⟩
 have tN:=of_decide_eq_false k2;rw[if_neg tN] at E;refine go ?_;have Yh:=ih tN s1 h1;refine ER (λ p:BM=>HR log (lu l D m k (iU b) log s1) s1 p) (λ p=>⟨[(8,u p.n),(9,.ptr 48 0),(5,.ptr 47 0),(6,u (hL l m b)),(0,u b),(1,.ptr 41 0),(2,.ptr 46 0)],[(40,ru l D m log p.s),(41,[.ptr 40 0]),(46,[.fn (.func 145) [] [.ptr 41 0,.ptr 46 0]]),(47,[u 0,dB false,u 0,u 0,.p (.sl true 0 [])]),(48,[u p.o.val,dB p.o.is,u p.o.err,u p.o.bS,.p (.sl p.ex p.k p.ps)])],[]⟩) ?_ ?_
 ·have CZ:∀a,lu l D m k (iU b) log s1=.error a->aJ=.error a:=λ a h=>by rw[<-E];exact bl h
  refine xR 3 7 48 7 6 ?_;refine gQ (abF b qq) ?_;refine It rfl rfl rfl ?_ (λ hB=>?_)
  all_goals repeat' (first|refine tA 4 ?_|refine tA 5 ?_|refine tA 6 ?_|refine oA 3 ?_|refine oA 7 ?_|refine oA 8 ?_|refine oA 9 ?_|refine oB 3 7 ?_ ?_|exact dA ⟨rfl,⟨p,hp,zX⟩⟩|exact nx hB|refine vX Yh ?_ ?_|(rintro v U ⟨a,M,h,rfl,rfl⟩;refine LD (LC ?_);refine gP ?_;exact fP _ ⟨a,M,CZ a h,rfl,rfl⟩)|(rintro d U ⟨p,hp,rfl,rfl⟩;refine nx (EN ?_))|(refine nA 48 ?_;first|exact nx hB|refine nx ?_)|((first|refine z2 ?_|refine z5 ?_);refine nx ?_))
 rintro⟨an,ao,s2,IV,IS,Ly⟩ ⟨bm,fJ,Xp,Xq⟩;simp only at bm fJ Xp Xq;rw[aw bm] at E;have A:=h1.next fJ;have CI:=fU.y4 fJ;simp only at E;refine go ?_;generalize k3:decide (ao.err=0)=cc;cases cc
 ·rw[if_pos (of_decide_eq_false k3)] at E;refine go ?_;refine gW 2 [] ?_;refine go ?_;exact fX _ ⟨⟨0,ao,s2,IV,IS,Ly⟩,⟨E.symm,CI,by simp,by simp⟩,rfl,rfl⟩
 rw[if_neg (λ h=>h (of_decide_eq_true k3))] at E;have J3:=SM l Z hS hM D m log s2 2 an (gO b) 0 A (by omega);refine go ?_;refine ER (λ p:(bf×aT)×ah=>oh l D 2 an (gO b) 0 log s2=.ok p/\hx log s2 p.2) (λ p=>⟨[(9,.ptr 48 0),(10,.ptr 49 0),(5,.ptr 47 0),(6,u (hL l m b)),(0,u b),(1,.ptr 41 0),(2,.ptr 46 0)],[(40,ru l D m log p.2),(41,[.ptr 40 0]),(46,[.fn (.func 145) [] [.ptr 41 0,.ptr 46 0]]),(47,[u 0,dB false,u 0,u 0,.p (.sl true 0 [])]),(48,[u p.1.1.val,dB p.1.1.is,u p.1.1.err,u p.1.1.bS,d7 p.1.1.gone]),(49,[u p.1.2.kind,u p.1.2.cell,u p.1.2.fz,u p.1.2.new])],[]⟩) ?_ ?_
 ·have CZ:∀a,oh l D 2 an (gO b) 0 log s2=.error a->aJ=.error a:=λ a h=>by rw[<-E];exact bl h
  refine xR 4 8 49 7 6 ?_;refine gQ (VR b) ?_;refine It rfl rfl rfl ?_ (λ hB=>?_)
  all_goals repeat' (first|refine tA 5 ?_|refine tA 6 ?_|refine tA 7 ?_|refine oA 4 ?_|refine oA 8 ?_|refine oA 9 ?_|refine oA 10 ?_|refine oB 4 8 ?_ ?_|exact dA ⟨rfl,⟨(x,M),⟨O,W5⟩,zX⟩⟩|exact nx hB|refine xX J3 ?_ ?_|(rintro v U ⟨a,M,h,rfl,rfl⟩;refine LD (LC ?_);refine gP ?_;exact fP _ ⟨a,M,CZ a h,rfl,rfl⟩)|(rintro d U ⟨x,M,O,W5,rfl,rfl⟩;refine nx (EN ?_))|(refine nA 49 ?_;first|exact nx hB|refine nx ?_)|((first|refine z2 ?_|refine z5 ?_);refine nx ?_))
 rintro⟨⟨o3,a3⟩,s3⟩ ⟨bT,iO⟩;simp only at iO;rw[aw bT] at E;have K:=A.next iO;have CJ:=CI.y4 iO;simp only at E;refine go ?_;generalize k4:decide (o3.err=0)=cc;cases cc
 ·rw[if_pos (of_decide_eq_false k4)] at E;refine go ?_;refine gW 2 [] ?_;refine go ?_;exact fX _ ⟨⟨0,o3,s3,false,o3.gone.length,gL o3.gone⟩,⟨E.symm,CJ,by simp,by simp⟩,rfl,rfl⟩
 have DM:=of_decide_eq_true k4;rw[if_neg (λ h=>h DM)] at E;have pH:=(KS hS A.le bT).2 rfl;simp only at pH;have Zi:HF (o3,a3) log s3=.ok (if o3.is then(ay a3.new).idx else(ay ((log.getD (o3.bS.toNat+2) ⟨0,false⟩).val)).idx,s3):=rfl;rw[aw Zi] at E;have fK:0<=(if o3.is then(ay a3.new).idx else(ay ((log.getD (o3.bS.toNat+2) ⟨0,false⟩).val)).idx)/\(if o3.is then(ay a3.new).idx else(ay ((log.getD (o3.bS.toNat+2) ⟨0,false⟩).val)).idx)<65536:=by split<;>exact lj _
 have Qo:=adV l D m log s3 o3 a3 _ (λ h=>pH h DM) h0.log rfl;generalize(if o3.is then(ay a3.new).idx else(ay ((log.getD (o3.bS.toNat+2) ⟨0,false⟩).val)).idx)=n at E fK Qo;refine go ?_;refine lA Qo ?_;refine go ?_;refine dW 6 [] ?_;refine gQ (lZ ⟨n,false,0⟩) ?_;refine xP (BB l D m log s3 ⟨3,hL l m b,0,cf ⟨n,false,0⟩⟩ K) ?_;rintro d U ⟨r4,s4,cB,lC,rfl,rfl⟩;rw[aw cB] at E;refine go ?_;exact fX _ ⟨⟨n,j8,s4,true,0,[]⟩,⟨E.symm,CJ.y4 lC,fK.1,fK.2⟩,rfl,rfl⟩
theorem NE(l:ag)(Z:ca l)(hS:0<=l.az)(hM:kh l)(D m:Int)(log:List aD):∀(k:Nat)(b:Int)(s:ah),0<=b->b<65536->b<2^k->mC log s->
 fI prog 145 [40,41,46] [u b,.ptr 41 0,.ptr 46 0] (uj l D m log s) (EE (uj l D m log) log (lu l D m (k+1) b log s) s) (xp (uj l D m log) (lu l D m (k+1) b log s))
 |0,b,s,qX,qq,nz,h0=>NF l Z hS hM D m log 0 b s qq h0 λ cE=>by
  have:(2:Int)^0=1:=rfl;omega
 |k+1,b,s,qX,qq,nz,h0=>NF l Z hS hM D m log (k+1) b s qq h0 λ cE s1 h1=>by
   have AI:0<=iU b/\iU b<b/\iU b<2^k:=by
    obtain⟨n,rfl⟩:=Int.eq_ofNat_of_zero_le qX;have hn:n≠0:=by omega
    have K:=abG hn;refine⟨K.1,K.2.1,abE hn ?_⟩;have h4:((2^(k+1):Nat):Int)=2^(k+1):=by simp
    omega
   exact NE l Z hS hM D m log k (iU b) s1 AI.1 (by omega) AI.2.2 h1
theorem ac6(l:ag)(Z:ca l)(hS:0<=l.az)(hM:kh l)(D m:Int)(log:List aD)(b:Int)(s:ah)(qX:0<=b)(qq:b<65536)(h0:mC log s):
 fI prog 120 [40] [.ptr 40 0,u b] (wV l D m log s) (EE (wV l D m log) log (lu l D m 64 b log s) s) (xp (wV l D m log) (lu l D m 64 b log s)):=by
 have hC:=NE l Z hS hM D m log 63 b s qX qq (by have:(65536:Int)<=2^63:=(by decide);omega) h0;refine sX func120 ntmps120 λ w cl own kf=>?_
 refine gS ?_;refine bA 41 ?_;refine z2 ?_;refine nA 47 ?_;refine kl ?_;refine gS ?_;refine nA 46 ?_;refine kl ?_;refine go ?_;refine vX hC ?_ ?_
 ·rintro v U ⟨a,M,h,rfl,rfl⟩;refine gP ?_;exact fP _ ⟨a,M,h,rfl,rfl⟩
 rintro d U ⟨p,hp,rfl,rfl⟩;refine go ?_;exact fX _ ⟨p,hp,rfl,rfl⟩
section
variable{P:Program}{ae:Nat->Option TI}{Γ:bI}{l l0:List Oper}{Q d9:Exit->St->Prop}{fuel:Nat}{aG pN:Array Bool}{J:St}{o:Oper}{i:Nat}
structure oG(Γ eY:bI)(r:Nat)(D:Array MapEntry)(ck:Nat):Prop where
 kept:nQ Γ.own Γ.w0 eY.w0
 cl:∀k,k<Γ.w0.heap.size->¬Γ.own k->eY.kK k=Γ.kK k
 own:∀k,eY.own k->Γ.own k\/Γ.w0.heap.size<=k
 obj:eY.w0.heap[r]?=some (.map D ck)
 nr:¬eY.own r
 kb:∀b k,kv Γ.kb b=some k->kv eY.kb b=some k
 n:eY.n=Γ.n
 dl:eY.dl=Γ.dl
theorem oG.back{eY:bI}{r ck:Nat}{D:Array MapEntry}(h:oG Γ eY r D ck){e:aA}(he:hd eY e):hd Γ e:=by
 have gV:∀k,k<Γ.w0.heap.size->¬Γ.own k->¬eY.own k:=λ k I ho gI=>by
  rcases h.own k gI with h1|h1
  ·exact ho h1
  ·omega
 have bQ:=h.kept.size;have oV:∀k,eY.w0.heap.size<=k\/eY.own k->Γ.w0.heap.size<=k\/Γ.own k:=λ k I=>by
  rcases I with I|I
  ·exact .inl (Nat.le_trans bQ I)
  ·exact(h.own k I).symm
 refine⟨⟨he.kept.os.trans h.kept.os,he.kept.tape.trans h.kept.tape,he.kept.output.trans h.kept.output,Nat.le_trans bQ he.kept.size,λ k I ho=>?_⟩,λ k I ho=>?_,λ b k T=>?_,he.inj,λ k g hg=>?_,λ b k I=>he.kb b k (h.kb b k I)⟩
 ·exact(he.kept.block k (Nat.lt_of_lt_of_le I bQ) (gV k I ho)).trans (h.kept.block k I ho)
 ·exact(he.cl k (Nat.lt_of_lt_of_le I bQ) (gV k I ho)).trans (h.cl k I ho)
 ·obtain⟨h1,A,K⟩:=he.bx b k T;exact⟨h1,oV k A,K⟩
 ·obtain⟨au,cur,h1,A,K,h4⟩:=he.gr k g hg;exact⟨au,cur,h1,A,oV k K,h4⟩
theorem oG.pr{eY:bI}{r ck:Nat}{D:Array MapEntry}(h:oG Γ eY r D ck){e:aA}{a:Act}(L:bu eY J e a):bu Γ J e a:=
 ⟨L.size.trans h.n,L.df.trans h.dl,L.bP,L.boxes,L.ei,L.gs,h.back L.env⟩
theorem oG.now{eY:bI}{r ck:Nat}{D:Array MapEntry}(h:oG Γ eY r D ck){e:aA}(he:hd eY e):e.w.heap[r]?=some (.map D ck):=
 (he.kept.block r (sd h.obj) h.nr).trans h.obj
theorem Rh{e:aA}{a:Act}(L:bu Γ J e a){r ck:Nat}{D:Array MapEntry}(hr:e.w.heap[r]?=some (.map D ck)):(∀b k,e.bx b=some k->k≠r)/\∀k g,e.gr k=some g->k≠r:=by
 refine⟨λ b k I he=>?_,λ k g hg he=>?_⟩
 ·subst he;cases T:kv J.b b with
  |none=>rw[L.ei b T] at I;cases I
  |some cs=>obtain⟨jd,vs,el,h1,A,_⟩:=L.boxes b cs T;rw[I] at h1;cases h1;rw[hr] at A;cases A
 ·subst he;obtain⟨_,_,_,_,_,_,h5⟩:=L.env.gr k g hg;rw[hr] at h5;cases h5
abbrev GM(Γ:bI)(e:aA)(r:Nat)(kb:List (Nat×Nat)):bI:=⟨Γ.n,e.w,e.cl,λ k=>k≠r/\(Γ.own k\/Γ.w0.heap.size<=k),kb,Γ.dl⟩
theorem IF{e:aA}{a:Act}(L:bu Γ J e a){r ck:Nat}{D:Array MapEntry}(hr:e.w.heap[r]?=some (.map D ck)){kb:List (Nat×Nat)}(hn:∀b k,kv kb b=some k->e.bx b=some k)(dI:∀b k,kv Γ.kb b=some k->kv kb b=some k):
 oG Γ (GM Γ e r kb) r D ck/\bu (GM Γ e r kb) J e a:=by
 obtain⟨h1,A⟩:=Rh L hr;refine⟨⟨L.env.kept,L.env.cl,λ k I=>I.2,hr,λ I=>I.1 rfl,dI,rfl,rfl⟩,L.size,L.df,L.bP,L.boxes,L.ei,L.gs,nQ.refl _ _,λ _ _ _=>rfl,λ b k I=>?_,L.env.inj,λ k g hg=>?_,hn⟩
 ·obtain⟨K,h4,h5⟩:=L.env.bx b k I;exact⟨K,.inr ⟨h1 b k I,h4.symm⟩,h5⟩
 ·obtain⟨au,cur,K,h4,h5,h6⟩:=L.env.gr k g hg;exact⟨au,cur,K,h4,.inr ⟨A k g hg,h5.symm⟩,h6⟩
theorem oG.next{eY:bI}{r ck:Nat}{D:Array MapEntry}(h:oG Γ eY r D ck)(py:Γ.w0.heap.size<=r){e:aA}{a:Act}(L:bu eY J e a)(u0:Array MapEntry)(zq:Nat):∃e2:aA,e2.w={e.w with heap:=e.w.heap.setIfInBounds r (.map u0 zq)}/\oG Γ (GM Γ e2 r eY.kb) r u0 zq/\bu (GM Γ e2 r eY.kb) J e2 a:=by
 have oV:=h.now L.env;have nV:=h.pr L;obtain⟨Av,wo⟩:=Rh L oV;obtain⟨oZ,hk⟩:=MapKept.heap_set (o':=.map u0 zq) oV
 let w2:World:={e.w with heap:=e.w.heap.setIfInBounds r (.map u0 zq)}
 have yt:w2.heap.size=e.w.heap.size:=by simp[w2]
 let e2:aA:={e with w:=w2}
 have Aw:∀b o v,e.w.cell? ⟨b,o,none⟩=some v->b≠r:=λ b o v hv he=>by
  subst he;simp[World.cell?,oV] at hv
 have E:Ends e e2:=by
  refine⟨λ b o v h1 A=>⟨h1,?_⟩,λ _ _ h=>h,λ _ au h=>⟨au,h,rfl,rfl,Nat.le_refl _⟩,λ k g au cur h1 A K=>⟨h1,cur,?_,rfl⟩⟩
  ·rw[World.cell?_of_block (w:=e.w) (hk b (Aw b o v A))];exact A
  ·show(e.w.heap.setIfInBounds r (.map u0 zq))[k]?=_;rw[hk k (wo k g h1)];exact K
 have eE:bu Γ J e2 a:=by
  refine⟨nV.size,nV.df,λ t d ht=>(nV.bP t d ht).next E,λ b cs T=>?_,nV.ei,nV.gs,⟨⟨nV.env.kept.os,nV.env.kept.tape,nV.env.kept.output,by show _<=w2.heap.size;rw[yt];exact nV.env.kept.size,λ k I ho=>?_⟩,nV.env.cl,λ b k I=>?_,nV.env.inj,λ k g hg=>?_,nV.env.kb⟩⟩
  ·obtain⟨k,vs,el,h1,A,K⟩:=nV.boxes b cs T;exact⟨k,vs,el,h1,(hk k (Av b k h1)).trans A,K.next E⟩
  ·exact(hk k (by omega)).trans (nV.env.kept.block k I ho)
  ·obtain⟨h1,A,K⟩:=nV.env.bx b k I;exact⟨by show k<w2.heap.size;rw[yt];exact h1,A,K⟩
  ·obtain⟨au,cur,h1,A,K,h4,h5⟩:=nV.env.gr k g hg;exact⟨au,cur,h1,by show k<w2.heap.size;rw[yt];exact A,K,h4,(hk k (wo k g hg)).trans h5⟩
 have K:=IF (kb:=eY.kb) eE (r:=r) (D:=u0) (ck:=zq) oZ (λ b k I=>L.env.kb b k I) h.kb;exact⟨e2,rfl,K.1,K.2⟩
def MF(P:Program)(f:FuncId)(aU:List Nat)(ds:List G)(U aq:bE)(yM:List Nat)(av:(Nat->Nat)->Array MapEntry):Prop:=
 ∀(e:aA)(vs:List Value),fR U e->DReps e vs ds->Calls P f vs.toArray e.w λ ex aI=>∃r ck kf Y,ex=.returned (.map (some r))/\Y.w=aI/\fR aq Y/\Left aU e Y/\(∀n,n∈yM->Y.bx n=some (kf n))/\aI.heap[r]?=some (.map (av kf) ck)
structure oI(P:Program)(Γ:bI)(l:List Oper)(Q:Exit->St->Prop)(fuel:Nat)(aG:Array Bool)(J:St)(i:Nat):Prop where
 run:∀(a:Act)(e:aA),bu Γ J e a->wpOp P l.toArray (jr Γ Q) i (wpAny P .any l.toArray (jr Γ Q) fuel (aG.setIfInBounds i true)) a e.w
theorem abo(ho:l[i]?=some o)(R:aG.setIfInBounds i true=pN)(h:bp P Γ l (o9 P Γ l Q fuel pN) [o] J):oI P Γ l Q fuel aG J i:=⟨λ _ _ L=>EO ho R h L⟩
theorem Ue(hr:Region.ready .any l.toArray aG=[i])(h:oI P Γ l Q fuel aG J i):iJ P Γ l Q (fuel+1) aG J:=⟨λ a e L=>wpAny_all hr (by simp) λ j hj=>by
 obtain rfl:j=i:=by simpa using hj
 exact h.run a e L⟩
theorem Uf{j:Nat}(hr:Region.ready .any l.toArray aG=[i,j])(h:oI P Γ l Q fuel aG J i)(A:oI P Γ l Q fuel aG J j):iJ P Γ l Q (fuel+1) aG J:=⟨λ a e L=>wpAny_all hr (by simp) λ k I=>by
 rcases List.mem_cons.1 I with rfl|I
 ·exact h.run a e L
 ·obtain rfl:k=j:=by simpa using I
  exact A.run a e L⟩
theorem Ug{j m:Nat}(hr:Region.ready .any l.toArray aG=[i,j,m])(h:oI P Γ l Q fuel aG J i)(A:oI P Γ l Q fuel aG J j)(K:oI P Γ l Q fuel aG J m):iJ P Γ l Q (fuel+1) aG J:=⟨λ a e L=>wpAny_all hr (by simp) λ k I=>by
 rcases List.mem_cons.1 I with rfl|I
 ·exact h.run a e L
 ·rcases List.mem_cons.1 I with rfl|I
  ·exact A.run a e L
  ·obtain rfl:k=m:=by simpa using I
   exact K.run a e L⟩
theorem abn{t:Nat}{s M:List (Nat×G)}{b bj:bE}{g:List (Nat×Gr)}{f:FuncId}{aU:List Nat}{ds:List G}{U aq:bE}{yM:List Nat}{av:(Nat->Nat)->Array MapEntry}{xs:List Operand}{fx:Array TypeId}{LL:Array Bool}(hC:MF P f aU ds U aq yM av)(yj:l[i]?=some o)(tG:aG.setIfInBounds i true=LL)(ho:o.op=.call {callee:=.value (.func f),args:=xs.toArray,argTypes:=fx})(hf:jN P f)(he:i5 (kv s) xs some=some ds)(aQ:G.ok.eA (aF U) (λ _=>false) ds=true)(hs:js ⟨s,b,g⟩ (aF U) U)(dI:Γ.kb=[])
 (hg:gd l o (kv s)=some true)(F:o.dst=some t)(R:Nat.blt t Γ.n=true)(gx:lx (λ b=>!aF U b||ie aU b) s (λ M=>lL (aF U) (λ b=>!aF U b||ie aU b) b (λ bj=>some (M,bj)))=some (M,bj))
 (dm:ke U b aq)(mW:ki aq yM)
 (h:∀r ck kf aI bz cb,oG Γ ⟨Γ.n,aI,bz,cb,lW kf yM,Γ.dl⟩ r (av kf) ck->iJ P ⟨Γ.n,aI,bz,cb,lW kf yM,Γ.dl⟩ l Q fuel LL ⟨(t,.p (.raw (.map (some r))))::M,aq++bj,g⟩):oI P Γ l Q fuel aG ⟨s,b,g⟩ i:=by
 rw[um,ul] at gx;cases gx;refine⟨λ a e L=>?_⟩;have YO:l.toArray[i]?=some o:=by simpa using yj
 unfold wpOp;simp only[YO];rw[if_pos (lN L hg)];refine .inl ?_;have jn:=L.iI o.op.operands;have hv:=CB (a:=a) (e:=e) xs (λ x O=>jn.1 x (by rw[ho];simp[Op.operands,Call.operands,O])) he;have cJ:(execOp a.eval o).run P e.w=.ok (.enter f (xs.map a.eval).toArray) e.w:=by obtain⟨dst,op,type,pos,after,guard⟩:=o;simp only at ho;subst ho;rw[execOp_call_go,hf];simp
 unfold Oper.wp;rw[cJ];refine(hC (e.cut (aF U) λ _=>false) _ (ly L hs) ⟨hv.1,λ i v d h1 A=>(hv.2 i v d h1 A).cut (qD aQ A)⟩).mono λ ex aI hh=>?_
 obtain⟨r,ck,kf,Y,rfl,rfl,hI,Z,I,Kb⟩:=hh;obtain⟨h1,A⟩:=L.after hI Z (λ n hn=>dm.get hn) (λ n k h1 _=>by rw[dI] at h1;cases h1);have K:=h1.put (dst:=o.dst) (d:=.p (.raw (.map (some r)))) (qk F R) (.p (.raw (.map (some r))));rw[F] at K;obtain⟨h4,h5⟩:=IF (kb:=lW kf yM) K (r:=r) (D:=av kf) (ck:=ck) Kb (λ n k Do=>by
  obtain⟨h6,rfl⟩:=AU Do;show(if aF aq n=true then Y.bx n else _)=_;rw[if_pos (mW.get h6)];exact I n h6) (λ n k h6=>by rw[dI] at h6;cases h6)
 have h6:=(h r ck kf _ _ _ h4).run _ _ h5;show wpAny P .any l.toArray (jr Γ Q) fuel (aG.setIfInBounds i true) (a.put o.dst (.map (some r))) Y.w;rw[tG,F];exact Mx (λ _ _ hh=>by obtain⟨bc,e2,q1,q2,q3⟩:=hh;exact⟨bc,e2,q1,h4.pr q2,q3⟩) (λ _ _ _ _ hh=>by obtain⟨bc,e2,q1,q2,q3⟩:=hh;exact⟨bc,e2,q1,h4.pr q2,q3⟩) _ _ _ _ h6
def EI(P:Program)(Γ:bI)(mt r:Nat)(m:Int)(gt:G)(kn:Bool):Prop:=∀e:aA,hd Γ e->∃v,(Instr.lookup mt (.map (some r)) (.int .i64 m) true).run P e.w=.ok v e.w/\bD e v (.bg [gt,dB kn])
theorem T5{t mt r:Nat}{s:List (Nat×G)}{b:bE}{g:List (Nat×Gr)}{x y:Operand}{m:Int}{gt:G}{kn:Bool}(Z:EI P Γ mt r m gt kn)(ho:o.op=.lookup mt x y true)(O:ev (kv s) x=some (.p (.raw (.map (some r)))))(hy:ev (kv s) y=some (u m))(hg:gd l0 o (kv s)=some true)(F:o.dst=some t)(R:Nat.blt t Γ.n=true)
 (h:bp P Γ l0 Q l ⟨(t,.bg [gt,dB kn])::s,b,g⟩):bp P Γ l0 Q (o::l) ⟨s,b,g⟩:=by
 refine vG (J:=⟨s,b,g⟩) hg (λ a e L=>?_) h;have hs:=L.iI o.op.operands;have h1:=cR (hs.1 x (by rw[ho];simp[Op.operands]) _ O);have A:=cR (hs.1 y (by rw[ho];simp[Op.operands]) _ hy);obtain⟨v,K,h4⟩:=Z e L.env;have cJ:(execOp a.eval o).run P e.w=.ok (.value v) e.w:=by obtain⟨dst,op,type,pos,after,guard⟩:=o;simp only at ho;subst ho;simp[execOp,h1,A,K]
 unfold Oper.wp;rw[cJ];have:=L.put (dst:=o.dst) (v:=v) (by rw[F];exact R) h4;rw[F] at this;exact⟨e,rfl,by rw[F];exact this⟩
theorem KU{eY:bI}{r ck mt kt et:Nat}{D:Array MapEntry}(X:oG Γ eY r D ck)(hm:P.underlying mt=some (.map kt et))(mT:P.underlying kt=some (.int .i64)){m:Int}{j:Nat}{v:Value}{gt:G}(C4:Instr.findNow (.int .i64) (.int .i64 m) D.toList 0=some (some (j,v)))(hv:∀e,hd eY e->bD e v gt):EI P eY mt r m gt true:=λ e he=>by
 have K:=X.now he;have I:MapKept.IsKey (.int .i64) (.int .i64 m):=rfl;refine⟨.tuple #[v,.bool true],?_,?_⟩
 ·simp[Instr.lookup,run_underlying hm,MapKept.run_getObj_map K,MapKept.run_checkKey mT I,MapKept.run_findKey mT C4]
 ·exact .bg (vs:=[v,.bool true]) (ds:=[gt,dB true]) rfl λ i kY d h1 A=>by
   match i,h1,A with
   |0,h1,A=>cases h1;cases A;exact hv e he
   |1,h1,A=>cases h1;cases A;exact .p (.raw _)
theorem aan(hT:cW P ae){eY:bI}{r ck mt kt et:Nat}{D:Array MapEntry}{ti:TI}(X:oG Γ eY r D ck)(hm:P.underlying mt=some (.map kt et))(mT:P.underlying kt=some (.int .i64))(JF:ae et=some ti){m:Int}(C4:Instr.findNow (.int .i64) (.int .i64 m) D.toList 0=some none):EI P eY mt r m (.p (.raw ti.zero)) false:=λ e he=>by
 have K:=X.now he;have I:MapKept.IsKey (.int .i64) (.int .i64 m):=rfl;refine⟨.tuple #[ti.zero,.bool false],?_,?_⟩
 ·simp[Instr.lookup,run_underlying hm,MapKept.run_getObj_map K,MapKept.run_checkKey mT I,MapKept.run_findKey mT C4,By hT JF]
 ·exact .bg (vs:=[ti.zero,.bool false]) (ds:=[.p (.raw ti.zero),dB false]) rfl λ i kY d h1 A=>by
   match i,h1,A with
   |0,h1,A=>cases h1;cases A;exact .p (.raw _)
   |1,h1,A=>cases h1;cases A;exact .p (.raw _)
structure BX(P:Program)(Γ:bI)(kb:List (Nat×Nat))(r:Nat)(l0:List Oper)(Q:Exit->Act->World->Prop)(l:List Oper)(D:Array MapEntry)(ck:Nat)(J:St):Prop where
 run:∀aI bz cb,oG Γ ⟨Γ.n,aI,bz,cb,kb,Γ.dl⟩ r D ck->∀a e,bu ⟨Γ.n,aI,bz,cb,kb,Γ.dl⟩ J e a->wpList P l0.toArray Q l a e.w
theorem GP{W:Exit->Act->World->Prop}{kb:List (Nat×Nat)}{r ck:Nat}{D:Array MapEntry}{s:List (Nat×G)}{b:List (Nat×List G)}{g:List (Nat×Gr)}{t:Nat}{d:G}(hT:cW P ae)(hq:ax ae (kv s) (kv b) o.op=some d)(hg:gd l0 o (kv s)=some true)(F:o.dst=some t)(R:Nat.blt t Γ.n=true)(h:BX P Γ kb r l0 W l D ck ⟨(t,d)::s,b,g⟩):BX P Γ kb r l0 W (o::l) D ck ⟨s,b,g⟩:=by refine⟨λ aI bz cb X a e L=>?_⟩;unfold wpList;rw[if_pos (lN L hg)];have dg:zd P ⟨Γ.n,aI,bz,cb,kb,Γ.dl⟩ o ⟨s,b,g⟩ _:=dH.step (J:=⟨s,b,g⟩) (sW hT hq) (qk F R) (λ p hp=>by cases hp);refine .inl (xk (dg a e L) λ br w1 hh=>?_);obtain⟨Y,rfl,ey⟩:=hh;rw[F] at ey;exact h.run aI bz cb X br Y ey
theorem K5{W:Exit->Act->World->Prop}{kb:List (Nat×Nat)}{r ck:Nat}{D u0:Array MapEntry}{s:List (Nat×G)}{b:List (Nat×List G)}{g:List (Nat×Gr)}{mt kt et:Nat}{x y z:Operand}{m:Int}{v:Value}{d:G}(py:Γ.w0.heap.size<=r)(ho:o.op=.insert mt x y z)(F:o.dst=none)(hm:P.underlying mt=some (.map kt et))(mT:P.underlying kt=some (.int .i64))(O:ev (kv s) x=some (.p (.raw (.map (some r)))))(hy:ev (kv s) y=some (u m))(hz:ev (kv s) z=some d)(hg:gd l0 o (kv s)=some true)(hv:∀aI bz cb e,hd ⟨Γ.n,aI,bz,cb,kb,Γ.dl⟩ e->∀af,bD e af d->af=v)(hn:Instr.findNow (.int .i64) (.int .i64 m) D.toList 0=some none)(he:D.push {key:=.int .i64 m,val:=v,born:=ck}=u0)
 (h:BX P Γ kb r l0 W l u0 (ck+1) ⟨s,b,g⟩):BX P Γ kb r l0 W (o::l) D ck ⟨s,b,g⟩:=by
 refine⟨λ aI bz cb X a e L=>?_⟩;subst he;unfold wpList;rw[if_pos (lN L hg)];have hs:=L.iI o.op.operands;have h1:=cR (hs.1 x (by rw[ho];simp[Op.operands]) _ O);have A:=cR (hs.1 y (by rw[ho];simp[Op.operands]) _ hy);have bs:=hv _ _ _ e L.env _ (hs.1 z (by rw[ho];simp[Op.operands]) _ hz);have K:=X.now L.env;have I:MapKept.IsKey (.int .i64) (.int .i64 m):=rfl;obtain⟨e2,CX,JS,eE⟩:=X.next py L (D.push {key:=.int .i64 m,val:=v,born:=ck}) (ck+1);have cJ:(execOp a.eval o).run P e.w=.ok .skip {e.w with heap:=e.w.heap.setIfInBounds r (.map (D.push {key:=.int .i64 m,val:=v,born:=ck}) (ck+1))}:=by obtain⟨dst,op,type,pos,after,guard⟩:=o;simp only at ho;subst ho;simp[execOp,Instr.mapUpdate,h1,A,bs,run_underlying hm,MapKept.run_getObj_map K,MapKept.run_checkKey mT I,MapKept.run_findKey mT hn,MapKept.run_setObj_map _ K]
 refine .inl ?_;unfold Oper.wp;rw[cJ,<-CX];have:=h.run _ _ _ JS a e2 eE;show wpList P _ _ l (a.put o.dst undef) e2.w;rw[F];exact this
theorem aaF{W:Exit->Act->World->Prop}{kb:List (Nat×Nat)}{s:List (Nat×G)}{b:List (Nat×List G)}{g:List (Nat×Gr)}{t1 mt:Nat}{o1:Oper}(ho:o1.op=.makeMap mt none)(hg:gd l0 o1 (kv s)=some true)(kr:o1.dst=some t1)(ia:Nat.blt t1 Γ.n=true){e:aA}{a:Act}(L:bu Γ ⟨s,b,g⟩ e a)(hn:∀b k,kv kb b=some k->e.bx b=some k)(dI:∀b k,kv Γ.kb b=some k->kv kb b=some k)
 (h:∀r,Γ.w0.heap.size<=r->BX P Γ kb r l0 W l #[] 0 ⟨(t1,.p (.raw (.map (some r))))::s,b,g⟩):wpList P l0.toArray W (o1::l) a e.w:=by
 unfold wpList;rw[if_pos (lN L hg)];refine .inl ?_;unfold Oper.wp;have cJ:(execOp a.eval o1).run P e.w=.ok (.value (.map (some e.w.heap.size))) (e.w.alloc (.map #[] 0)):=by obtain⟨dst,op,type,pos,after,guard⟩:=o1;simp only at ho;subst ho;simp[execOp,Instr.makeMap]
 rw[cJ];show wpList P _ _ l (a.put o1.dst _) _;have gT:=aA.ud e (.map #[] 0) none;have bR:=(L.grow gT).put (dst:=o1.dst) (v:=.map (some e.w.heap.size)) (d:=.p (.raw (.map (some e.w.heap.size)))) (by rw[kr];exact ia) (.p (.raw _));rw[kr] at bR⊢;have lT:(e.w.alloc (.map #[] 0)).heap[e.w.heap.size]?=some (.map #[] 0):=(MapKept.heap_alloc e.w _).1;obtain⟨h4,h5⟩:=IF (kb:=kb) bR (r:=e.w.heap.size) (D:=#[]) (ck:=0) lT hn dI;exact(h e.w.heap.size L.env.kept.size).run _ _ _ h4 _ _ h5
theorem Og{e:aA}{af:Value}{f:Fn}{b1 b2 k1 k2:Nat}(h1:e.bx b1=some k1)(A:e.bx b2=some k2)(h:bD e af (.fn f [] [.ptr b1 0,.ptr b2 0])):af=.func f #[] #[.pointer (some ⟨k1,0,none⟩),.pointer (some ⟨k2,0,none⟩)]:=by
 cases h with
 |fn R dJ K h4=>
  rename_i us vs
  match us,vs,R,dJ,h4 with
  |[],[v1,v2],_,_,h4=>
   have q1:=h4 0 v1 _ rfl rfl;have q2:=h4 1 v2 _ rfl rfl;cases q1 with
   |ptr q1=>cases q2 with
    |ptr q2=>
     rw[h1] at q1;rw[A] at q2;cases q1;cases q2
     rfl
theorem Wy{e:aA}{af:Value}{f:Fn}(h:bD e af (.fn f [] [])):af=.func f #[] #[]:=by
 cases h with
 |fn R dJ K h4=>
  rename_i us vs
  match us,vs,R,dJ with
  |[],[],_,_=>rfl
end
section
variable{Γ:bI}{l l0:List Oper}{Q:Exit->St->Prop}{fuel:Nat}{aC:Array Bool}{J:St}{o:Oper}
theorem wA(i:Nat)(h:oI prog Γ l Q fuel aC J i)(hr:Region.ready .any l.toArray aC=[i]:=by decide+kernel):iJ prog Γ l Q (fuel+1) aC J:=Ue hr h
theorem wB(i j:Nat)(h:oI prog Γ l Q fuel aC J i)(A:oI prog Γ l Q fuel aC J j)(hr:Region.ready .any l.toArray aC=[i,j]:=by decide+kernel):iJ prog Γ l Q (fuel+1) aC J:=Uf hr h A
theorem wC(i j k:Nat)(h:oI prog Γ l Q fuel aC J i)(A:oI prog Γ l Q fuel aC J j)(K:oI prog Γ l Q fuel aC J k)(hr:Region.ready .any l.toArray aC=[i,j,k]:=by decide+kernel):iJ prog Γ l Q (fuel+1) aC J:=Ug hr h A K
theorem aa4{i:Nat}(h:bp prog Γ l (o9 prog Γ l Q fuel (aC.setIfInBounds i true)) [o] J)(ho:l[i]?=some o:=by exact rfl):oI prog Γ l Q fuel aC J i:=abo ho rfl h
end
end Go.Proofs.YtcnefjfboagbmaaGreat
