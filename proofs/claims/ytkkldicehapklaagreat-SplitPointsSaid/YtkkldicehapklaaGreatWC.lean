/- A map's programs: an access; the node that is there; the list's programs behind a node: their walks. -/
import Derived.Test.YtkkldicehapklaaGreatWB
import Derived.Test.YtkkldicehapklaaGreatPA
import Derived.Test.YtkkldicehapklaaGreatLB
namespace Go.Proofs.YtkkldicehapklaaGreat
open Go.Proofs.Tryz
open Go.RowKit
set_option maxRecDepth 100000
abbrev Cg(a:bz):Value:=.iface 136 (.agg #[.int .i64 a.kind,.int .i64 a.cell,.int .i64 a.dL,.int .i64 a.new])
abbrev aiK(l:aI)(O m:Int)(log:List aJ)(s:ag):List Pl:=[pI l.ar,pI l.nodes,pI l.buckets,pI l.dj,pI l.tasks,pI l.cells,pI l.maps,pI l.xA,pI l.uZ,pI l.done,pI l.count,pI l.era,pI l.free,pI l.alive,pI l.owner,pI l.pZ,pI l.Ag,pI l.ring,pI l.task,pI l.cell,pI l.map,pI l.stack,pI l.chan,pI l.node,pI l.size,pI O,GW s.gone,pI m,.sl false log.length (hs log),pI s.made]
abbrev sY(l:aI)(O m:Int)(log:List aJ)(s:ag):List I:=[M l.ar,M l.nodes,M l.buckets,M l.dj,M l.tasks,M l.cells,M l.maps,M l.xA,M l.uZ,M l.done,M l.count,M l.era,M l.free,M l.alive,M l.owner,M l.pZ,M l.Ag,M l.ring,M l.task,M l.cell,M l.map,M l.stack,M l.chan,M l.node,M l.size,M O,im s.gone,M m,nZ log,M s.made]
abbrev yR(l:aI)(O m:Int)(log:List aJ)(s:ag):cn:=[(40,sY l O m log s)]
def Zy{az:Type}(bx:ag->cn)(log:List aJ)(m:Except bz (az×ag))(s:ag)(enc:az->I):I->cn->Prop:=λ d bs=>∃x ah,m=.ok (x,ah)/\iy log s ah/\d=enc x/\bs=bx ah
def zh{az:Type}(bx:ag->cn)(m:Except bz (az×ag)):Value->cn->Prop:=λ v bs=>∃a ah,m=.error a/\v=Cg a/\bs=bx ah
abbrev Ef{az:Type}(f:FuncId)(bc:List Nat)(bx:ag->cn)(log:List aJ)(s:ag)(ds:List I)(m:Except bz (az×ag))(enc:az->I):Prop:=jt prog f bc ds (bx s) (Zy bx log m s enc) (zh bx m)
structure m9(log:List aJ)(s:ag):Prop where
 gone:js s.gone
 len:s.gone.length+log.length<=10000+s.made
 le:s.made<=log.length
 log:log.length<=5000
theorem m9.next{log:List aJ}{s ah:ag}(h:m9 log s)(hG:iy log s ah):m9 log ah:=⟨hG.ok,by have:=h.len;have:=hG.len;have:=hG.made;omega,hG.le,h.log⟩
theorem m9.refl{log:List aJ}{s:ag}(h:m9 log s):iy log s s:=⟨Nat.le_refl _,h.le,h.gone,Nat.le_refl _⟩
theorem m9.up{log:List aJ}{s:ag}(h:m9 log s){r:aJ}(hr:log[s.made]?=some r):iy log s {s with made:=s.made+1}:=⟨Nat.le_succ _,(List.getElem?_eq_some_iff.1 hr).1,h.gone,Nat.add_le_add_left (Nat.le_succ _) _⟩
theorem DP(l:aI)(O m:Int)(log:List aJ)(s:ag)(a:bz)(h0:m9 log s):Ef 42 [40] (yR l O m log) log s [.ptr 40 0,kx a] (h2 a log s) EA:=by
 have hm:=h0.le;have Z:=h0.log;refine sX func42 ntmps42 λ w cl own kf=>?_
 refine go ?_;refine gD [] ?_;refine go ?_;generalize h1:decide ((s.made:Int)=(log.length:Int))=cc;cases cc
 ·have bB:=of_decide_eq_false h1;have aY:s.made<log.length:=by omega
  have hr:log[s.made]?=some log[s.made]:=List.getElem?_eq_getElem aY;generalize log[s.made]=r at hr;have vp:log[((s.made:Int)+1-1).toNat]?=some r:=by rw[show((s.made:Int)+1-1).toNat=s.made by omega];exact hr
  refine go ?_;refine gW 9 [] ?_;refine ai [pI r.val,pB r.ok] (OT vp) ?_;refine go ?_;exact fX _ ⟨r,{s with made:=s.made+1},by rw[h2,hr],h0.up hr,rfl,rfl⟩
 ·have bB:log.length=s.made:=by have:=of_decide_eq_true h1;omega
  have hr:log[s.made]?=none:=List.getElem?_eq_none (by omega);refine go ?_;refine cy (Oq aX rfl rfl rfl rfl rfl) rfl rfl rfl ?_;refine Lm rfl rfl rfl ?_;refine gP ?_;exact fP _ ⟨a,s,by rw[h2,hr],rfl,rfl⟩
theorem akp(l:aI)(O m:Int)(log:List aJ)(s:ag)(o:bd)(a:bz)(n:Int)(G:o.is=false->0<=o.aD/\o.aD+2<log.length)(Z:log.length<=5000)(hn:n=if o.is then(av a.new).idx else(av ((log.getD (o.aD.toNat+2) ⟨0,false⟩).val)).idx):bH prog 75 [.el (aiK l O m log s),pG o,kx a] (M n):=by
 generalize Bb:o.is=xo at G hn;generalize bv:o.aD=op at G hn;refine sP func75 ntmps75 λ w cl=>?_
 refine go ?_;rw[Bb];cases xo
 ·obtain⟨h1,u⟩:=G rfl;have hr:log[(op+2).toNat]?=some (log.getD (op.toNat+2) ⟨0,false⟩):=by
   rw[show(op+2).toNat=op.toNat+2 by omega,List.getD_eq_getElem?_getD,List.getElem?_eq_getElem (by omega)];rfl
  simp only[Bool.false_eq_true,if_false] at hn;generalize log.getD (op.toNat+2) ⟨0,false⟩=r at hr hn;refine go ?_;rw[bv];refine gW 10 [] ?_;refine ri [pI r.val,pB r.ok] (OT hr) ?_;refine bJ ?_;refine cA (rY r.val) ?_;refine gf ?_;rw[hn]
 ·simp only[if_true] at hn;refine gA (rY a.new) ?_;refine hp ?_;rw[hn]
theorem WT(a b:List aJ):hs (a++b)=hs a++hs b:=by simp[hs]
theorem Pp(l:List aJ):(hs l).length=l.length*2:=by
 induction l with
 |nil=>rfl
 |cons a l ih=>unfold hs at ih⊢;rw[List.flatMap_cons,List.length_append,ih];simp[BN];omega
theorem agM{l:List aJ}{c:Nat}:∀(i:Nat) q,(hs (l.take c))[i]?=some q->(hs l)[(0:Int).toNat*2+i]?=some q:=by
 intro i q h;have Z:hs l=hs (l.take c)++hs (l.drop c):=by rw[<-WT,List.take_append_drop]
 rw[show(0:Int).toNat*2+i=i by simp,Z,List.getElem?_append_left (List.getElem?_eq_some_iff.1 h).1];exact h
theorem agN{l:List aJ}{a:Int}{b:Nat}(sE:a.toNat=b)(ha:b<=l.length):∀(i:Nat) q,(hs (l.drop b))[i]?=some q->(hs l)[a.toNat*2+i]?=some q:=by
 intro i q h;rw[sE];have Z:hs l=hs (l.take b)++hs (l.drop b):=by rw[<-WT,List.take_append_drop]
 have h1:(hs (l.take b)).length=b*2:=by rw[Pp,List.length_take];congr 1;omega
 rw[Z,List.getElem?_append_right (by omega),h1,show b*2+i-b*2=i by omega];exact h
def lq(l:aI)(O:Int)(gone:List (Int×Int))(op:a9)(K:Int)(lg:List aJ):bz×bd×Bool:=
 if(fJ l O gone op lg).2.2=false/\K<0/\(fJ l O gone op lg).1.cell=op.obj then({(fJ l O gone op lg).1 with cell:=K},(fJ l O gone op lg).2) else fJ l O gone op lg
abbrev Dm(l:aI)(O m:Int)(log:List aJ)(op:a9)(lg:List aJ)(K:Int)(s:ag):cn:=[(40,sY l O m log s),(41,[.ptr 40 0]),(42,[M op.kind,M op.obj,M op.a,M op.b]),(43,[nZ lg]),(44,[M K])]
set_option maxHeartbeats 4000000 in
theorem agC(l:aI)(hL:eT l)(O m:Int)(log:List aJ)(op:a9)(lg:List aJ)(K:Int)(s:ag)(k:Nat)(hg:js s.gone)(o7:s.gone.length+lg.length<=10000)(hk:k<=lg.length):
 gt prog 76 [40,41,42,43,44] [M k,.ptr 41 0,.ptr 42 0,.ptr 43 0,.ptr 44 0] (Dm l O m log op lg K s) (λ d bs=>d=Ey (lq l O s.gone op K (lg.take k))/\bs=Dm l O m log op lg K s):=by
 generalize Y:lq l O s.gone op K (lg.take k)=E;unfold lq at Y;have fT:(lg.take k).length=k:=by rw[List.length_take];omega
 have kI:=agM (l:=lg) (c:=k);have A7:=ahr l hL O s.gone op (lg.take k) hg (by omega);generalize lg.take k=lk at Y fT kI A7;generalize fJ l O s.gone op lk=ap at Y A7;obtain⟨a,o,dn⟩:=ap;simp only at Y;refine sI func76 ntmps76 λ w cl own kf=>?_
 refine go ?_;refine gW 25 [] ?_;refine fL (Kw aX lk.length (hs lk) rfl rfl rfl rfl rfl rfl rfl (by omega) (by omega) (by omega) (by omega) (Pp lk) kI) rfl rfl ?_;refine gQ A7 ?_;refine go ?_;cases dn
 ·refine go ?_;generalize h1:decide (K<0)=cc;cases cc
  ·rw[if_neg (λ h=>of_decide_eq_false h1 h.2.1)] at Y;refine go ?_;refine gW 5 [5,6] ?_;refine go ?_;refine j9 (d:=.ca [kx a,pG o,dB false]) (Dm l O m log op lg K s) ?_ rfl ?_ ?_ ?_
   ·rfl
   ·(repeat(first|exact trivial|refine⟨⟨rfl,rfl⟩,?_⟩))
   ·(repeat(first|exact trivial|refine⟨rfl,?_⟩))
   exact⟨by subst Y;rfl,rfl⟩
  ·refine go ?_;generalize u:decide (a.cell=op.obj)=cc;cases cc
   ·rw[if_neg (λ h=>of_decide_eq_false u h.2.2)] at Y;refine go ?_;refine gW 5 [5,6] ?_;refine go ?_;refine j9 (d:=.ca [kx a,pG o,dB false]) (Dm l O m log op lg K s) ?_ rfl ?_ ?_ ?_
    ·rfl
    ·(repeat(first|exact trivial|refine⟨⟨rfl,rfl⟩,?_⟩))
    ·(repeat(first|exact trivial|refine⟨rfl,?_⟩))
    exact⟨by subst Y;rfl,rfl⟩
   ·rw[if_pos ⟨rfl,of_decide_eq_true h1,of_decide_eq_true u⟩] at Y;refine go ?_;refine gW 5 [5,6] ?_;refine go ?_;refine j9 (d:=.ca [.agg [M a.kind,M K,M a.dL,M a.new],pG o,dB false]) (Dm l O m log op lg K s) ?_ rfl ?_ ?_ ?_
    ·rfl
    ·(repeat(first|exact trivial|refine⟨⟨rfl,rfl⟩,?_⟩))
    ·(repeat(first|exact trivial|refine⟨rfl,?_⟩))
    exact⟨by subst Y;rfl,rfl⟩
 ·rw[if_neg (by simp)] at Y;refine go ?_;refine gW 5 [5,6] ?_;refine go ?_;refine j9 (d:=.ca [kx a,pG o,dB true]) (Dm l O m log op lg K s) ?_ rfl ?_ ?_ ?_
  ·rfl
  ·(repeat(first|exact trivial|refine⟨⟨rfl,rfl⟩,?_⟩))
  ·(repeat(first|exact trivial|refine⟨rfl,?_⟩))
  exact⟨by subst Y;rfl,rfl⟩
abbrev Yl(k1:Nat)(dn:Bool):List (Nat×I):=[(18,dB dn),(22,M k1),(5,.ptr 41 0),(10,.ptr 47 0),(11,.ptr 48 0),(15,.fn (.func 76) [] [.ptr 41 0,.ptr 42 0,.ptr 43 0,.ptr 44 0]),(17,.ptr 50 0),(19,.ptr 51 0)]
abbrev Yk(l:aI)(O m:Int)(log:List aJ)(op:a9)(lg:List aJ)(K:Int)(s:ag)(a2:bz)(ov:Int)(xo:Bool)(oe J0:Int)(og:List (Int×Int)):cn:=[(40,sY l O m log s),(41,[.ptr 40 0]),(42,[M op.kind,M op.obj,M op.a,M op.b]),(43,[nZ lg]),(44,[M K]),(47,[M 0,dB false,M 0,M 0,.p (.sl true 0 [])]),(48,[M 0,M 0,M 0,M 0]),(50,[M ov,dB xo,M oe,M J0,im og]),(51,[M a2.kind,M a2.cell,M a2.dL,M a2.new])]
def OO(l:aI)(O:Int)(op:a9)(K:Int)(lg:List aJ)(s:ag):Except bz ((bd×bz)×ag):=
 if(lq l O s.gone op K lg).2.2=false then .error (lq l O s.gone op K lg).1
 else if(lq l O s.gone op K lg).2.1.aD<0 then .ok (((lq l O s.gone op K lg).2.1,iB),s)
 else .ok (({(lq l O s.gone op K lg).2.1 with aD:=(lq l O s.gone op K lg).2.1.aD+s.made},(lq l O s.gone op K (lg.take (lq l O s.gone op K lg).2.1.aD.toNat)).1),{s with made:=s.made+n7 (λ k=>(lq l O s.gone op K (lg.take k)).2.2) (lg.length-((lq l O s.gone op K lg).2.1.aD.toNat+1)) ((lq l O s.gone op K lg).2.1.aD.toNat+1),gone:=(lq l O s.gone op K lg).2.1.gone})
theorem agE(l:aI)(O kind fB eE v:Int)(log:List aJ)(s:ag):oF l O kind fB eE v log s=OO l O ⟨kind,if bf l fB 0<0 then l.done else bf l fB 0,eE,v⟩ (bf l fB 0) (log.drop s.made) s:=by unfold oF OO;rfl
theorem aaM{l:aI}{O:Int}{gone:List (Int×Int)}{op:a9}{K:Int}{lg:List aJ}:(lq l O gone op K lg).2=(fJ l O gone op lg).2:=by unfold lq;split<;>rfl
set_option maxHeartbeats 16000000 in
theorem Ym(l:aI)(hL:eT l)(hS:0<=l.ar)(hM:lN l)(O m:Int)(log:List aJ)(s:ag)(kind fB eE v:Int)(h0:m9 log s)(ad8:fB<9223372036854775808):
 Ef 44 [40] (yR l O m log) log s [.ptr 40 0,M kind,M fB,M eE,M v] (oF l O kind fB eE v log s) (λ o=>.ca [pG o.1,kx o.2]):=by
 have hG:∀o ah,oF l O kind fB eE v log s=.ok (o,ah)->iy log s ah:=λ o ah e=>by
  have h1:=(OP hS h0.le e).1;exact⟨h1.made,h1.le h0.le,h1.ok h0.gone,h1.len⟩
 generalize Y:oF l O kind fB eE v log s=E at hG;rw[agE] at Y;have IJ:(log.drop s.made).length+s.made=log.length:=by rw[List.length_drop];have:=h0.le;omega
 have kI:=λ(h:(s.made:Int).toNat=s.made)=>agN (l:=log) (a:=(s.made:Int)) (b:=s.made) h h0.le
 have kI:=kI (by simp);have cV:=Pp (log.drop s.made);generalize log.drop s.made=lg at Y IJ kI cV;have mr:=h0.log;have cx:=h0.len;have hnd:=rW l hL fB 0 ad8 (by omega);generalize bf l fB 0=K at Y hnd;obtain⟨oh,tV⟩:=hM.d;refine sX func44 ntmps44 λ w cl own kf=>?_
 refine mK ?_;refine bA 41 ?_;refine nA 47 ?_;refine nA 48 ?_;refine oR ?_;refine mK ?_
 repeat refine z2 ?_
 refine cA hnd ?_;refine nA 44 ?_;refine z5 ?_;refine oR ?_;refine mK ?_
 repeat refine z2 ?_
 refine z6 ?_;refine nA 42 ?_;refine z5 ?_;refine oR ?_;refine zM ?_;refine HG ⟨[(5,.ptr 41 0),(10,.ptr 47 0),(11,.ptr 48 0),(12,.ptr 44 0),(13,.ptr 42 0)],[(40,sY l O m log s),(41,[.ptr 40 0]),(42,[M kind,M (if K<0 then l.done else K),M eE,M v]),(44,[M K]),(47,[M 0,dB false,M 0,M 0,.p (.sl true 0 [])]),(48,[M 0,M 0,M 0,M 0])],[]⟩ ?_ ?_
 ·refine go ?_;generalize h1:decide (K<0)=cc;cases cc
  ·rw[if_neg (of_decide_eq_false h1)];refine go ?_;exact⟨rfl,zX⟩
  ·rw[if_pos (of_decide_eq_true h1)];refine go ?_;exact⟨rfl,zX⟩
 generalize(if K<0 then l.done else K)=ob at Y⊢;have hC:=λ(k:Nat)(hk:k<=lg.length)=>agC l hL O m log ⟨kind,ob,eE,v⟩ lg K s k h0.gone (by omega) hk
 refine go ?_;refine gW 10 [] ?_;refine fL (Kw aX lg.length (hs lg) rfl rfl rfl rfl rfl rfl rfl (by omega) (by omega) (by omega) (by omega) cV kI) rfl rfl ?_;refine s0 (xM aX 43 rfl rfl rfl rfl) rfl rfl rfl rfl ?_;refine bJ ?_;refine z5 ?_;refine oR ?_;refine mK ?_;refine z2 ?_;refine z2 ?_;refine oR ?_;refine mK ?_
 repeat refine z2 ?_
 have In:=hC lg.length (Nat.le_refl _);rw[List.take_length] at In;unfold OO at Y;generalize lZ:lq l O s.gone ⟨kind,ob,eE,v⟩ K lg=r1 at Y In;obtain⟨a1,⟨ov,xo,oe,op,og⟩,Si⟩:=r1;simp only at Y
 change gt _ _ _ _ _ (λ d bs=>d=.ca [kx a1,.agg [M ov,dB xo,M oe,M op,im og],dB Si]/\_) at In
 refine vI In ?_;rintro d bs ⟨rfl,rfl⟩
 repeat refine z2 ?_
 refine nA 49 ?_;refine nA 50 ?_;refine go ?_;cases Si
 ·rw[if_pos rfl] at Y;refine go ?_;refine cy (Oq aX rfl rfl rfl rfl rfl) rfl rfl rfl ?_;refine Lm rfl rfl rfl ?_;refine gP ?_;exact fP _ ⟨a1,s,Y.symm,rfl,rfl⟩
 rw[if_neg (by simp)] at Y;refine go ?_;generalize u:decide (op<0)=cc;cases cc
 rotate_left
 ·rw[if_pos (of_decide_eq_true u)] at Y;refine go ?_;exact fX _ ⟨_,s,Y.symm,hG _ _ Y.symm,rfl,rfl⟩
 ·have cj:=of_decide_eq_false u;rw[if_neg cj] at Y;have e2:=congrArg Prod.snd lZ;rw[aaM] at e2;simp only at e2;obtain⟨pt,rfl⟩:=Int.eq_ofNat_of_zero_le (show 0<=op by omega);have cW:(pt:Int)<lg.length:=by
   have:=(Wj hS (O:=O) (gone:=s.gone) (op:=⟨kind,ob,eE,v⟩) (log:=lg) (by rw[e2]) (by rw[e2];exact Int.natCast_nonneg _)).1;rw[e2] at this;exact this
  simp only[Int.toNat_natCast] at Y;have MZ:=hC pt (by omega);generalize hf:(λ k=>(lq l O s.gone ⟨kind,ob,eE,v⟩ K (lg.take k)).2.2)=f at Y;have lz:∀k,(lq l O s.gone ⟨kind,ob,eE,v⟩ K (lg.take k)).2.2=f k:=λ k=>by rw[<-hf]
  have aed:f lg.length=true:=by rw[<-lz,List.take_length,lZ]
  generalize lq l O s.gone ⟨kind,ob,eE,v⟩ K (lg.take pt)=r2 at Y MZ;obtain⟨a2,o2,abE⟩:=r2;simp only at Y
  change gt _ _ _ _ _ (λ d bs=>d=.ca [kx a2,.agg [M o2.val,dB o2.is,M o2.err,M o2.aD,im o2.gone],dB abE]/\_) at MZ
  generalize hK:n7 f (lg.length-(pt+1)) (pt+1)=aB at Y;refine go ?_;refine vI MZ ?_;rintro d bs ⟨rfl,rfl⟩
  repeat refine z2 ?_
  refine nA 51 ?_;refine nA 52 ?_;refine go ?_;refine d7 (λ p:Nat×Bool=>p.1<=lg.length-pt/\(p.2=false->p.1+pt+1<=lg.length/\n7 f (lg.length-(pt+1)-p.1) (pt+1+p.1)=aB)/\(p.2=true->aB=pt+p.1)) (λ p=>⟨Yl (pt+1+p.1) p.2,Yk l O m log ⟨kind,ob,eE,v⟩ lg K s a2 ov xo oe pt og,[]⟩) (λ p=>lg.length+1-p.1) (0,false) ⟨by simp,λ _=>⟨by simp only;omega,hK⟩,λ h=>by cases h⟩ (zX) ?_;rintro⟨j,dn⟩ ⟨hj,hF,hT⟩;simp only at hj hF hT;refine(show a8 _ _ _ _ ⟨Yl (pt+1+j) dn,Yk l O m log ⟨kind,ob,eE,v⟩ lg K s a2 ov xo oe pt og,[]⟩ from ?_);refine go ?_;cases dn
  ·obtain⟨CF,M7⟩:=hF rfl;have M3:=hC (pt+1+j) (by omega);have yi:=lz (pt+1+j);generalize lq l O s.gone ⟨kind,ob,eE,v⟩ K (lg.take (pt+1+j))=r3 at M3 yi;obtain⟨a3,o3,Sj⟩:=r3;simp only at yi
   change gt _ _ _ _ _ (λ d bs=>d=.ca [kx a3,.agg [M o3.val,dB o3.is,M o3.err,M o3.aD,im o3.gone],dB Sj]/\_) at M3
   refine go ?_;refine vI M3 ?_;rintro d bs ⟨rfl,rfl⟩;refine go ?_;refine⟨(j+1,Sj),⟨by simp only;omega,λ h=>?_,λ h=>?_⟩,by simp only;omega,zX⟩
   ·simp only at h⊢;subst h;have aW:pt+1+j≠lg.length:=λ e=>by rw[e,aed] at yi;cases yi
    refine⟨by omega,?_⟩;rw[show lg.length-(pt+1)-j=(lg.length-(pt+1)-(j+1))+1 by omega,n7,<-yi,if_neg (by simp)] at M7;exact M7
   ·simp only at h⊢;subst h;rw[<-M7];cases hn:lg.length-(pt+1)-j with
    |zero=>rw[n7];omega
    |succ n=>rw[n7,<-yi,if_pos rfl];omega
  ·have tQ:=hT rfl;subst tQ;refine go ?_;refine gW 6 [] ?_;refine go ?_;rw[show((s.made:Int)+(((pt+1+j:Nat):Int)-1))=((s.made+(pt+j):Nat):Int) by omega];refine gW 3 [47] ?_;refine go ?_;exact fX _ ⟨_,_,Y.symm,hG _ _ Y.symm,rfl,rfl⟩
section
variable{P:Program}{aq:Nat->Option TI}{Γ:bX}{l:List Oper}{Q:Exit->St->Prop}{fuel:Nat}{aK qL:Array Bool}{L bQ:St}{o:Oper}{i:Nat}
structure je(P:Program)(Γ:bX)(l:List Oper)(Q:Exit->St->Prop)(fuel:Nat)(aK:Array Bool)(L:St):Prop where
 run:∀(a:Act)(e:aE),bE Γ L e a->wpAny P .any l.toArray (jP Γ Q) fuel aK a e.w
theorem LC{id:Nat}(hm:P.follows .mixedOrders=true)(h:je P Γ l Q l.length (Array.replicate l.length false) L):a8 P Γ (.region id l.toArray true) Q L:=⟨λ a e F=>by
 have hg:j7 e {e with w:=e.w.drew}:=⟨(Below.refl _ _).drew,λ _ _=>rfl,rfl,rfl,rfl⟩;have h1:=h.run a _ (F.grow hg);exact wp_region_any hm (by simpa using h1)⟩
def pV(P:Program)(Γ:bX)(l:List Oper)(Q:Exit->St->Prop)(fuel:Nat)(aK:Array Bool):Exit->St->Prop:=λ ex L=>match ex with
 |.normal=>je P Γ l Q fuel aK L
 |ex=>Q ex L
theorem ahO(h:je P Γ l Q fuel aK L):pV P Γ l Q fuel aK .normal L:=h
theorem HB(ho:l[i]?=some o)(Z:aK.setIfInBounds i true=qL)(h:bw P Γ l (pV P Γ l Q fuel qL) [o] L){a:Act}{e:aE}(F:bE Γ L e a):wpOp P l.toArray (jP Γ Q) i (wpAny P .any l.toArray (jP Γ Q) fuel (aK.setIfInBounds i true)) a e.w:=by
 rw[Z];have h1:=h.run a e F;have cY:l.toArray[i]?=some o:=by simpa using ho
 have u:wpOp P l.toArray (jP Γ (pV P Γ l Q fuel qL)) i (wpList P l.toArray (jP Γ (pV P Γ l Q fuel qL)) []) a e.w:=by unfold wpOp;simp only[cY];exact h1
 have J:=QT (jB:=jP Γ Q) (λ ex a w aW G=>by
  obtain⟨bu,ae,h4,h5,h6⟩:=G;refine⟨bu,ae,h4,h5,?_⟩;unfold pV at h6;split at h6
  ·exact absurd rfl aW
  ·exact h6) u
 refine wpOp_mono (λ bF aA hh=>?_) J;obtain⟨bu,ae,rfl,d4,hA⟩:=hh;exact je.run hA bF ae d4
theorem ZP(hr:Region.ready .any l.toArray aK=[i])(ho:l[i]?=some o)(Z:aK.setIfInBounds i true=qL)(h:bw P Γ l (pV P Γ l Q fuel qL) [o] L):je P Γ l Q (fuel+1) aK L:=⟨λ a e F=>wpAny_all hr (by simp) λ j hj=>by
 obtain rfl:j=i:=by simpa using hj
 exact HB ho Z h F⟩
theorem ZR{j:Nat}{oj:Oper}{VR:Array Bool}(hr:Region.ready .any l.toArray aK=[i,j])(ho:l[i]?=some o)(jk:l[j]?=some oj)(Z:aK.setIfInBounds i true=qL)(eV:aK.setIfInBounds j true=VR)(h:bw P Γ l (pV P Γ l Q fuel qL) [o] L)(u:bw P Γ l (pV P Γ l Q fuel VR) [oj] L):je P Γ l Q (fuel+1) aK L:=⟨λ a e F=>wpAny_all hr (by simp) λ k hk=>by
 rcases List.mem_cons.1 hk with rfl|hk
 ·exact HB ho Z h F
 ·obtain rfl:k=j:=by simpa using hk
  exact HB jk eV u F⟩
theorem ZO(hr:Region.ready .any l.toArray aK=[])(h:Q .normal L):je P Γ l Q fuel aK L:=⟨λ _ e F=>wpAny_done hr ⟨L,e,rfl,F,h⟩ fuel⟩
def Cd(P:Program)(Γ:bX)(l:List Oper)(o:Oper)(L:St)(d:I):Prop:=∀(a:Act)(e:aE),bE Γ L e a->∃v,Yields P l.toArray o v a/\bC e v d
theorem ZQ{t:Nat}{d:I}(T:Region.noSelect l.toArray=true)(hf:Region.free .any l.toArray aK i=true)(hr:(Region.ready .any l.toArray aK).contains i=true)(Z:aK.setIfInBounds i true=qL)(hq:∀c bu,¬Q (.panic c) bu)(ho:l[i]?=some o)(K:o.dst=some t)(aY:Nat.blt t Γ.n=true)(hy:Cd P Γ l o L d)(h:je P Γ l Q fuel qL ⟨(t,d)::L.s,L.b,L.g⟩):je P Γ l Q (fuel+1) aK L:=⟨λ a e F=>by
 obtain⟨v,hv,pP⟩:=hy a e F;refine wpAny_take (by simpa using ho) T hf hr (λ c a w G=>?_) hv ?_
 ·obtain⟨bu,_,_,_,h5⟩:=G;exact absurd h5 (hq c bu)
 ·rw[Z,K];have:=F.put (dst:=o.dst) (rl K aY) pP;rw[K] at this;exact h.run _ e this⟩
theorem akT{x:Operand}{d:I}(ho:o.op=.move x)(hg:gd l o (kv L.s)=some true)(hx:ev (kv L.s) x=some d):Cd P Γ l o L d:=λ a e F=>by
 have h1:=(F.jd o.op.operands).1 x (by rw[ho];simp[Op.operands]) _ hx;refine⟨a.eval x,.inl ⟨mm F hg,λ w=>?_⟩,h1⟩;obtain⟨dst,op,type,pos,after,guard⟩:=o;simp only at ho;subst ho
 rfl
theorem akU{x:Operand}{b of:Nat}(ho:o.op=.nilCheck x)(hg:gd l o (kv L.s)=some true)(hx:ev (kv L.s) x=some (.ptr b of)):Cd P Γ l o L (.ptr b of):=λ a e F=>by
 have h1:=(F.jd o.op.operands).1 x (by rw[ho];simp[Op.operands]) _ hx;refine⟨a.eval x,.inl ⟨mm F hg,λ w=>?_⟩,h1⟩;generalize c8:a.eval x=v at h1;cases h1 with
 |ptr hb=>
  obtain⟨dst,op,type,pos,after,guard⟩:=o;simp only at ho;subst ho;simp only[execOp,c8]
  rfl
theorem akS(hT:dh P aq){ty:TypeId}{x:Operand}{f b of ft aN sz z1 z2:Nat}{z3:Value}{fs:List (TypeId×Nat×Nat)}(ho:o.op=.fieldAddr ty x f)(ht:aq ty=some ⟨.struct fs,z1,z2,z3⟩)(hf:fs[f]?=some (ft,aN,sz+1))(hg:gd l o (kv L.s)=some true)(hx:ev (kv L.s) x=some (.ptr b of)):Cd P Γ l o L (.ptr b (of+aN)):=λ a e F=>by
 have h1:=(F.jd o.op.operands).1 x (by rw[ho];simp[Op.operands]) _ hx;generalize c8:a.eval x=v at h1;cases h1 with
 |ptr hb=>refine⟨_,.inl ⟨mm F hg,λ w=>?_⟩,.ptr hb⟩;obtain⟨dst,op,type,pos,after,guard⟩:=o;simp only at ho;subst ho;simp[execOp,c8,Ms hT ht hf]
end
theorem R8{B:Nat->Bool}:∀{cs:List I},gu cs->xT B cs=cs
 |[],_=>rfl
 |d::cs,h=>by
  have h1:∀B aa,I.ok B aa d=true/\I.ok.fy B aa cs=true:=λ B aa=>by
   have:=h B aa
   simpa only[I.ok.fy,Bool.and_eq_true] using this
  show ut B d::xT B cs=_;rw[R8 λ B aa=>(h1 B aa).2,ut,(h1 B λ _=>true).1]
  rfl
theorem HY{B H:Nat->Bool}{s ah:List (Nat×I)}{b aP:List (Nat×List I)}(T:lT B s some=some ah)(hb:iY H B b=aP):lT B s (λ ah=>mj H B b (λ aP=>some (ah,aP)))=some (ah,aP):=by rw[wh] at T⊢;cases T;rw[wg,hb]
theorem Aa{B H:Nat->Bool}{aH:Nat}{c aT:List I}{l jm:List (Nat×List I)}(h1:H aH=false)(u:Cs B c some=some aT)(J:iY H B l=jm):iY H B ((aH,c)::l)=(aH,aT)::jm:=by
 rw[L4] at u;cases u;rw[iY,h1,J]
 rfl
theorem u1{B H:Nat->Bool}{aH:Nat}{c:List I}{l jm:List (Nat×List I)}(h1:H aH=false)(u:gu c)(J:iY H B l=jm):iY H B ((aH,c)::l)=(aH,c)::jm:=by
 rw[iY,h1,J,R8 u]
 rfl
theorem HW{B H:Nat->Bool}{aH:Nat}{c:List I}{l jm:List (Nat×List I)}(h1:H aH=true)(J:iY H B l=jm):iY H B ((aH,c)::l)=jm:=by
 rw[iY,h1,J]
 rfl
section
variable{P:Program}{aq:Nat->Option TI}{Γ:bX}{l:List Oper}{Q jB:Exit->St->Prop}{fuel:Nat}{aK qL:Array Bool}{L:St}{o:Oper}{i:Nat}
theorem QR{ops:Array Oper}{Q jB:Exit->Act->World->Prop}(hn:∀a w,Q .normal a w->jB .normal a w)(hq:∀ex a w,ex≠.normal->Q ex a w->jB ex a w):∀(fuel:Nat)(aK:Array Bool)(a:Act)(w:World),wpAny P .any ops Q fuel aK a w->wpAny P .any ops jB fuel aK a w
 |0,_,a,w,h=>⟨h.1,hn a w h.2⟩
 |fuel+1,_,a,w,h=>⟨λ hr=>hn a w (h.1 hr),λ i hi=>wpOp_mono (λ bF aA hh=>QR hn hq fuel _ bF aA hh) (QT hq (h.2 i hi))⟩
theorem HA(h:je P Γ l (λ ex L=>ex=.normal/\Q .normal L) fuel aK L):je P Γ l Q fuel aK L:=⟨λ a e F=>QR (λ _ _ hh=>by obtain⟨bu,ae,h1,u,_,h4⟩:=hh;exact⟨bu,ae,h1,u,h4⟩) (λ ex _ _ aW hh=>by obtain⟨bu,ae,_,_,J,_⟩:=hh;exact absurd J aW) _ _ _ _ (h.run a e F)⟩
theorem akR{x:Operand}{k:Nat}{ds:List I}{d:I}(ho:o.op=.extract x k)(hg:gd l o (kv L.s)=some true)(hx:ev (kv L.s) x=some (.ca ds))(K:ds[k]?=some d):Cd P Γ l o L d:=λ a e F=>by
 have h1:=(F.jd o.op.operands).1 x (by rw[ho];simp[Op.operands]) _ hx;generalize c8:a.eval x=v at h1;cases h1 with
 |ca Z hh=>
  rename_i vs;have hk:k<vs.length:=by rw[Z];exact(List.getElem?_eq_some_iff.1 K).1
  refine⟨vs[k],.inl ⟨mm F hg,λ w=>?_⟩,hh k _ d (List.getElem?_eq_getElem hk) K⟩;obtain⟨dst,op,type,pos,after,guard⟩:=o;simp only at ho;subst ho;simp[execOp,c8,Instr.extract,hk]
def Lw(ops:Array Oper)(c j:Nat):Bool:=(List.range c).all (λ i=>j3 ops ops.size c i&&match ops[i]? with|some o=>o.dst.isSome|none=>true)&&(List.range ops.size).all (λ i=>decide (i<=c)||i==j||j3 ops ops.size i c)
theorem aj7{am:Nat->Option (Nat×Gr)}{c i:Nat}{p:Nat×Gr}(h:∀g,en am (λ _=>none) c g=none)(hi:i<c)(G:am i=some p):False:=by
 rcases Hd (am:=am) (aa:=λ _=>none) (h:=p.1) c with⟨_,u⟩|⟨j,Gj,_,_,J,_⟩
 ·exact u i p hi G rfl
 ·rw[h] at J;cases J
theorem aaB(c j nm:Nat){id tj:Nat}{l1:List Oper}{oc oj:Oper}{cells:List I}{B:List (Nat×List I)}{LA LB:Array Bool}{na nb:Nat}(T:mD c l some=some l1)(hv:px [] L.b some=some B)(hm:P.follows .mixedOrders=true)(hB:r9 l.toArray Γ.n=true)(hA:Lw l.toArray c j=true)(Ba:l[c]?=some oc)(Ix:Nat.blt c j=true)(jk:l[j]?=some oj)(NR:oj.guard=none)(sG:oj.dst=some tj)(Oe:∀(S:Nat->Option I)(qc:Nat->Option (List I)),dM P oj S qc (.ptr nm 0) (some (nm,cells)))
 (adn:((List.range l.length).map λ i=>decide (i<c)).toArray=LA)(ado:((List.range l.length).map λ i=>decide (i<c)||i==j).toArray=LB)(FK:m6 LA=na)(c6:m6 LB=nb)(hg:L.g=[])
 (h:co P Γ.n l B B (λ bu=>bu.g=[]/\kv bu.b nm=none/\kv B nm=none/\je P Γ l Q na LA bu/\je P Γ l Q nb LB ⟨(tj,.ptr nm 0)::bu.s,(nm,cells)::bu.b,bu.g⟩) 0 [] [] l1 L):a8 P Γ (.region id l.toArray true) Q L:=by
 obtain⟨eN,T⟩:=td T;cases T;have Ix:c<j:=by simpa using Ix
 obtain⟨qc,J,_,_,oX⟩:=B7 _ _ _ _ hv;cases J;have hsz:l.toArray.size=l.length:=by simp
 have nD:j<l.length:=(List.getElem?_eq_some_iff.1 jk).1;have fS:(l.take c).length=c:=by rw[List.length_take];omega
 have g1:∀i,i<c->l[i]?=(l.take c)[i]?:=λ i hi=>by rw[List.getElem?_take_of_lt hi]
 have aV:=Kh hB;obtain⟨F1,N1,U1,M1,sk,⟨jE,mv,aeY,ac9,ada⟩,EF,Al,u4,OY⟩:=co.extract (l.take c) 0 [] [] L h;rw[fS] at EF Al u4;have Gv:∀i o,i<c->l[i]?=some o->uP P l i (kv B) (kv B) (dV (l.take c) F1 (kv L.s) i) (dD N1 (kv L.b) i) (en M1 (kv L.g) i) (gp U1 N1 [] i) (gz (l.take c) M1 [] i) o (F1 i) (N1 i) (U1 i) (M1 i):=λ i o hi ho=>by
  have:=OY i o (by rw[<-g1 i hi];exact ho);rw[Nat.zero_add] at this;exact this
 simp only[Lw,Bool.and_eq_true] at hA;have MX:∀i,i<c->j3 l.toArray l.toArray.size c i=true/\∀o,l[i]?=some o->o.dst.isSome=true:=λ i hi=>by
  have h5:=List.all_eq_true.1 hA.1 i (List.mem_range.2 hi);simp only[Bool.and_eq_true] at h5;exact⟨h5.1,λ o ho=>by have h6:=h5.2;rw[show l.toArray[i]?=some o by simpa using ho] at h6;exact h6⟩
 have TD:∀i,i<l.length->c<i->i≠j->j3 l.toArray l.toArray.size i c=true:=λ i hi alQ mR=>by
  have h5:=List.all_eq_true.1 hA.2 i (List.mem_range.2 (by rw[hsz];exact hi));simp only[Bool.or_eq_true,decide_eq_true_eq,beq_iff_eq] at h5;rcases h5 with(h5|h5)|h5
  ·omega
  ·exact absurd h5 mR
  ·exact h5
 have mo:∀i,i<c->M1 i=none:=λ i hi=>by
  cases G:M1 i with
  |none=>rfl
  |some p=>
   refine(aj7 (am:=M1) (c:=c) (λ g=>?_) hi G).elim;have:kv sk.g g=en M1 (kv L.g) c g:=by rw[EF]
   rw[jE,hg] at this;exact this.symm
 have TN:∀i,i<c->U1 i=false:=λ i hi=>by
  have dY:i<l.length:=by omega
  have ho:=List.getElem?_eq_getElem dY;rcases Gv i _ hi ho with⟨_,_,_,h5,_⟩|⟨_,_,_,h5,_⟩|⟨_,_,_,_,K,_⟩|⟨_,_,_,_,_,_,_,_,_,h5,_⟩
  ·exact h5
  ·exact h5
  ·have:=(MX i hi).2 _ ho;rw[K] at this;cases this
  ·exact h5
 let aw:Nat->I:=λ i=>if i<c then F1 i else if i=j then .ptr nm 0 else .any
 let N:Nat->Option (Nat×List I):=λ i=>if i<c then N1 i else if i=j then some (nm,cells) else none
 have D8:∀i,i<c->aw i=F1 i:=λ i hi=>if_pos hi
 have zg:∀i,i<c->N i=N1 i:=λ i hi=>if_pos hi
 have Fj:aw j=.ptr nm 0:=by simp only[aw];rw[if_neg (by omega)];simp
 have Nj:N j=some (nm,cells):=by simp only[N];rw[if_neg (by omega)];simp
 have Nn:∀i,c<=i->i≠j->N i=none:=λ i hi mR=>by simp only[N];rw[if_neg (by omega),if_neg mR]
 have Am:∀i,i<=c->dV l aw (kv L.s) i=dV (l.take c) F1 (kv L.s) i:=λ i hi=>QC i λ k hk=>⟨g1 k (by omega),D8 k (by omega)⟩
 have EG:∀i,i<=c->dD N (kv L.b) i=dD N1 (kv L.b) i:=λ i hi=>DV i λ k hk=>zg k (by omega)
 have eG:∀(am:Nat->Option (Nat×Gr)) i,(∀k,k<i->am k=none)->en am (kv L.g) i=kv L.g:=λ am i hM=>by
  induction i with
  |zero=>rfl
  |succ i ih=>
   rw[en,hM i (Nat.lt_succ_self i),ih λ k hk=>hM k (by omega)]
   rfl
 have eL:∀(jm:List Oper)(am:Nat->Option (Nat×Gr)) i,(∀k,k<i->am k=none)->gz jm am [] i=[]:=λ jm am i hM=>by
  induction i with
  |zero=>rfl
  |succ i ih=>
   rw[gz,hM i (Nat.lt_succ_self i),ih λ k hk=>hM k (by omega)]
   rfl
 have eD:∀(bT:Nat->Bool)(kS:Nat->Option (Nat×List I)) i,(∀k,k<i->bT k=false)->gp bT kS [] i=[]:=λ bT kS i hU=>Qx i hU
 have ya:∀i,i<=j->dD N (kv L.b) i nm=none:=λ i hi=>by
  have jD:dD N1 (kv L.b) c nm=none:=by rw[<-u4];exact mv
  obtain⟨q1,q2⟩:=sc c jD;refine Ky i q1 λ k p hk G=>?_
  by_cases IF:k<c
  ·rw[zg k IF] at G;exact q2 k p IF G
  ·rw[Nn k (by omega) (by omega)] at G;cases G
 let vF:Nat->Bool:=λ i=>decide (i<c)||i==j
 have JW:∀i,vF i=true->i<c\/i=j:=λ i hi=>by
  simp only[vF,Bool.or_eq_true,decide_eq_true_eq,beq_iff_eq] at hi;exact hi
 refine⟨λ a e F=>?_⟩;have om:∀i,i<l.length->∃o,l[i]?=some o:=λ i hi=>⟨l[i],List.getElem?_eq_getElem hi⟩
 have:=D2 (P:=P) (Γ:=Γ) (L:=L) (ops:=l.toArray) (H:=l.toArray.size) (λ _=>false) (λ i=>i==c) vF aV (LI l.toArray).1 (Nat.le_refl _) (aw:=aw) (N:=N) (bT:=λ _=>false) (am:=λ _=>none) (B:=B) (a0:=a) (Q:=jP Γ Q)
  (λ i hi=>Nn i (by omega) (by omega)) (λ _ _=>rfl)
  (λ i hi=>by rcases hi with hi|hi;·cases hi
              ·rw[show i=c by simpa using hi];exact Nn c (Nat.le_refl _) (by omega))
  (λ _ _=>rfl)
  (λ i o ho=>by
   have hi:i<l.length:=by have:=(Array.getElem?_eq_some_iff.1 ho).1;omega
   by_cases AX:i=c
   ·exact .inr (.inl (by simp[AX]))
   ·by_cases mR:i=j
    ·exact .inl (by simp[vF,mR])
    ·rcases Nat.lt_or_ge i c with h5|h5
     ·exact .inl (by simp[vF,h5])
     ·exact .inr (.inr ⟨c,by simp,TD i hi (by omega) mR⟩))
  (.inl λ _ _=>⟨rfl,rfl⟩) (λ b cs=>oX.get)
  (λ i o hi ho _ _ Bb=>by
   have cY:l[i]?=some o:=by simpa using ho
   rw[eG _ i (λ _ _=>rfl),eL _ _ i (λ _ _=>rfl),eD _ _ i (λ _ _=>rfl)];show uP P l i (kv B) (kv L.b) (dV l aw (kv L.s) i) (dD N (kv L.b) i) (kv L.g) [] [] o (aw i) (N i) false none;rcases JW i Bb with h5|rfl
   ·have cG:=Gv i o h5 cY;rw[eG _ i (λ k hk=>mo k (by omega)),eL _ _ i (λ k hk=>mo k (by omega)),eD _ _ i (λ k hk=>TN k (by omega)),TN i h5,mo i h5,<-Am i (by omega),<-EG i (by omega),<-D8 i h5,<-zg i h5] at cG;rcases cG with⟨a1,a2,a3,a4,a5⟩|cG|⟨_,_,_,_,K,_⟩|⟨_,_,_,_,_,_,_,_,_,_,hh⟩
    ·exact .inl ⟨a1,.inl (by rcases a2 with a2|⟨_,a2⟩<;>exact a2),a3,a4,a5⟩
    ·exact .inr (.inl cG)
    ·have:=(MX i h5).2 o cY;rw[K] at this;cases this
    ·cases hh
   ·rw[jk] at cY;cases cY;rw[Fj,Nj];refine .inl ⟨?_,.inl (Oe _ _),λ p G=>?_,rfl,rfl⟩
    ·unfold gd;rw[NR]
    ·cases G;exact⟨ya i (Nat.le_refl _),aeY⟩)
  (λ aK b ae hv q2 q3 q4=>by
   have h1:=q2 c (by omega);rw[q4 c (by simp)] at h1;cases h1)
  (λ fuel aK bF ae i hi t8 hr bS iG _=>by
   obtain rfl:i=c:=by simpa using hi
   have ho:l.toArray[i]?=some oc:=by simpa using Ba
   obtain⟨kg,o',cY,iS⟩:=mem_ready.1 hr;rw[ho] at cY;cases cY;obtain⟨kK,dY⟩:=nq kg;have ys:∀k,k<i->aK.getD k false=true:=λ k hk=>BS bS.closed _ _ _ oc ho iS (MX k hk).1
   have ui:∀k,i<=k->k≠j->aK.getD k false=false:=λ k hk ke=>by
    cases Z:aK.getD k false with
    |false=>rfl
    |true=>
     by_cases mS:k=i
     ·rw[mS,kK] at Z;cases Z
     ·have vi:k<l.length:=by
       rcases Nat.lt_or_ge k l.length with h5|h5
       ·exact h5
       ·have:aK[k]?=none:=Array.getElem?_eq_none (by rw[bS.l5,hsz];exact h5);simp[this] at Z
      obtain⟨sV,Bc⟩:=om k vi;have UP:l.toArray[k]?=some sV:=by simpa using Bc
      have:=BS bS.closed _ _ _ sV UP (λ x hx hb=>bS.closed k sV UP Z x hx hb) (TD k vi (by omega) ke);rw[kK] at this;cases this
   have UA:aK.size=l.length:=by rw[bS.l5,hsz]
   have UR:∀{aR:Array Bool}{n:Nat}{bu:St},aK=aR->n=fuel+1->bE Γ bu ae bF->je P Γ l Q n aR bu->wpOp P l.toArray (jP Γ Q) i (wpAny P .any l.toArray (jP Γ Q) fuel (aK.setIfInBounds i true)) bF ae.w:=λ hL hn o4 adc=>by
    subst hL;subst hn;exact(adc.run bF ae o4).2 i hr
   cases FG:aK.getD j false with
   |false=>
    have hL:aK=LA:=by
     rw[<-adn];refine Array.ext (by simp[UA]) λ k h5 h6=>?_
     have h7:k<l.length:=by omega
     have h8:aK.getD k false=aK[k]:=by simp[h5]
     rw[<-h8];simp only[List.getElem_toArray,List.getElem_map,List.getElem_range];rcases Nat.lt_or_ge k i with h9|h9
     ·rw[ys k h9];simp[h9]
     ·by_cases ke:k=j
      ·rw[ke,FG];simp;omega
      ·rw[ui k h9 ke];simp;omega
    refine UR hL (by rw[<-FK,<-hL];omega) ?_ ac9;refine bS.qq aV (H:=i) (by rw[Al];exact(Am i (Nat.le_refl _)).symm) (by rw[u4];exact(EG i (Nat.le_refl _)).symm) (by rw[eG _ i (λ _ _=>rfl),jE,hg]) ys λ t h5 h6=>?_
    have h7:aK.getD t false=false:=by
     by_cases ke:t=j
     ·rw[ke];exact FG
     ·exact ui t h5 ke
    have h8:t<aK.size:=by rw[bS.l5];exact h6
    simp[h8] at h7⊢;exact h7
   |true=>
    have hL:aK=LB:=by
     rw[<-ado];refine Array.ext (by simp[UA]) λ k h5 h6=>?_
     have h7:k<l.length:=by omega
     have h8:aK.getD k false=aK[k]:=by simp[h5]
     rw[<-h8];simp only[List.getElem_toArray,List.getElem_map,List.getElem_range];rcases Nat.lt_or_ge k i with h9|h9
     ·rw[ys k h9];simp[h9]
     ·by_cases ke:k=j
      ·rw[ke,FG];simp
      ·rw[ui k h9 ke];simp[ke];omega
    refine UR hL (by rw[<-c6,<-hL];omega) ?_ ada;have dk:∀k,aK.getD k false=true->k<i\/k=j:=λ k hk=>by
     by_cases ke:k=j
     ·exact .inr ke
     ·rcases Nat.lt_or_ge k i with h5|h5
      ·exact .inl h5
      ·rw[ui k h5 ke] at hk;cases hk
    have UO:l.toArray[j]?=some oj:=by simpa using jk
    refine⟨bS.size,bS.df,λ t d ht=>?_,λ b cs hb=>?_,λ b hb=>?_,λ g=>?_,bS.env⟩
    ·simp only[dc] at ht;split at ht
     ·rename_i Ok;subst Ok;cases ht;rw[<-Fj];exact bS.xh j oj _ UO FG sG
     ·rename_i Ok;rw[Al,<-Am i (Nat.le_refl _)] at ht
      by_cases NK:∃(k:Nat)(sV:Oper),k<i/\l.toArray[k]?=some sV/\sV.dst=some t
      ·obtain⟨k,sV,mS,hk,K⟩:=NK;have:=KB (ops:=l.toArray) aV (aw:=aw) (S:=kv L.s) hk K i mS;rw[this] at ht;cases ht;exact bS.xh k sV t hk (ys k mS) K
      ·have:=KC (ops:=l.toArray) (aw:=aw) (S:=kv L.s) (t:=t) i λ k sV mS hk K=>NK ⟨k,sV,mS,hk,K⟩
       rw[this] at ht;rw[bS.kept t λ k sV hk Z K=>?_]
       ·exact bS.dj t d ht
       ·rcases dk k Z with h5|rfl
        ·exact NK ⟨k,sV,h5,hk,K⟩
        ·rw[UO] at hk;cases hk;rw[sG] at K;cases K;exact Ok rfl
    ·simp only[dc] at hb;split at hb
     ·rename_i iT;subst iT;cases hb;refine bS.news j (nm,cells) FG Nj λ k q hk Z hq=>?_
      rcases dk k Z with h5|h5<;>omega
     ·rename_i iT;rw[u4,<-EG i (Nat.le_refl _)] at hb;rcases Kz i hb with⟨h1,u⟩|⟨k,hk,G,u⟩
      ·refine bS.boxes b cs h1 λ k p Z G=>?_
       rcases dk k Z with h5|rfl
       ·exact u k p h5 G
       ·rw[Nj] at G;cases G;exact λ e=>iT e
      ·refine bS.news k _ (ys k hk) G λ iJ q cg Z hq=>?_
       rcases dk iJ Z with h5|rfl
       ·exact u iJ q cg h5 hq
       ·rw[Nj] at hq;cases hq;exact λ e=>iT e
    ·simp only[dc] at hb;split at hb
     ·cases hb
     ·rename_i iT;rw[u4,<-EG i (Nat.le_refl _)] at hb;obtain⟨h1,u⟩:=sc i hb;refine bS.ee b h1 λ k p Z _ G=>?_
      rcases dk k Z with h5|rfl
      ·exact u k p h5 G
      ·rw[Nj] at G;cases G;exact λ e=>iT e
    ·rw[jE,bS.gs g λ _ _ _ G=>by cases G];rw[hg])
  l.toArray.size (Array.replicate l.toArray.size false) a {e with w:=e.w.drew} (KM _).symm
  ?_ (λ t h5 ht=>by omega) (λ i hi=>by cases hi) (λ i hi=>by
   have:i=c:=by simpa using hi
   have dw:c<l.length:=by omega
   simp[this,dw])
 ·exact wp_region_any hm this
 ·have wO:j7 e {e with w:=e.w.drew}:=⟨(Below.refl _ _).drew,λ _ _=>rfl,rfl,rfl,rfl⟩;have d4:=F.grow wO;refine⟨by simp,F.size,F.df,λ i o _ Z=>?_,λ i o t _ Z=>?_,λ t _=>rfl,d4.dj,λ b cs hb _=>d4.boxes b cs hb,λ i p Z=>?_,λ b hb _=>d4.ee b hb,λ g _=>d4.gs g,λ i p Z=>?_,d4.env⟩
  all_goals(simp[Array.getElem?_replicate] at Z;split at Z<;>simp at Z)
theorem agl(ws:List Nat){l3:List Oper}{m:Nat}{B:List (Nat×List I)}(hv:px ws L.b some=some B)(hk:Bx L.s (l.take m)=true)(h:co P Γ.n l B L.b (Q .normal) m [] [] l3 L):Gk P Γ l l3 m Q .normal L:=by obtain⟨qc,J,_,_,oX⟩:=B7 _ _ _ _ hv;cases J;exact⟨B,oX,hk,h⟩
end
section
variable{Γ:bX}{l l0:List Oper}{Q:Exit->St->Prop}{fuel:Nat}{aR:Array Bool}{L:St}{o o2:Oper}{t:Nat}{d:I}
theorem tA(i:Nat)(h:je prog Γ l Q fuel (aR.setIfInBounds i true) ⟨(t,d)::L.s,L.b,L.g⟩)(T:Region.noSelect l.toArray=true:=by decide+kernel)(hf:Region.free .any l.toArray aR i=true:=by decide+kernel)(hr:(Region.ready .any l.toArray aR).contains i=true:=by decide+kernel)(hq:∀c bu,¬Q (.panic c) bu:=by intro _ _ h;first|(cases h.1;done)|(rcases h.1 with h|h<;>cases h))(ho:l[i]?=some o:=by exact rfl)(K:o.dst=some t:=by exact rfl)(Z:Nat.blt t Γ.n=true:=by exact rfl)(hy:Cd prog Γ l o L d:=by first|exact akT rfl rfl rfl|exact akR rfl rfl rfl rfl|exact akU rfl rfl rfl|exact akS aX rfl rfl rfl rfl rfl):je prog Γ l Q (fuel+1) aR L:=ZQ T hf hr rfl hq ho K Z hy h
theorem oA(i:Nat)(h:bw prog Γ l (pV prog Γ l Q fuel (aR.setIfInBounds i true)) [o] L)(hr:Region.ready .any l.toArray aR=[i]:=by decide+kernel)(ho:l[i]?=some o:=by exact rfl):je prog Γ l Q (fuel+1) aR L:=ZP hr ho rfl h
theorem oB(i j:Nat)(h:bw prog Γ l (pV prog Γ l Q fuel (aR.setIfInBounds i true)) [o] L)(u:bw prog Γ l (pV prog Γ l Q fuel (aR.setIfInBounds j true)) [o2] L)(hr:Region.ready .any l.toArray aR=[i,j]:=by decide+kernel)(ho:l[i]?=some o:=by exact rfl)(rL:l[j]?=some o2:=by exact rfl):je prog Γ l Q (fuel+1) aR L:=ZR hr ho rL rfl rfl h u
theorem dA(h:Q .normal L)(hr:Region.ready .any l.toArray aR=[]:=by decide+kernel):je prog Γ l Q fuel aR L:=ZO hr h
theorem xR(c j nm na nb:Nat){id tj:Nat}{l1:List Oper}{oc oj:Oper}{cells:List I}{B:List (Nat×List I)}
 (h:co prog Γ.n l B B (λ bu=>bu.g=[]/\kv bu.b nm=none/\kv B nm=none/\je prog Γ l Q na ((List.range l.length).map λ i=>decide (i<c)).toArray bu/\je prog Γ l Q nb ((List.range l.length).map λ i=>decide (i<c)||i==j).toArray ⟨(tj,.ptr nm 0)::bu.s,(nm,cells)::bu.b,bu.g⟩) 0 [] [] l1 L)
 (T:mD c l some=some l1:=by exact rfl)(hv:px [] L.b some=some B:=by exact rfl)(hm:prog.follows .mixedOrders=true:=by exact rfl)(hB:r9 l.toArray Γ.n=true:=by kernel_rfl)(hA:Lw l.toArray c j=true:=by kernel_rfl)(Ba:l[c]?=some oc:=by exact rfl)(Ix:Nat.blt c j=true:=by exact rfl)(jk:l[j]?=some oj:=by exact rfl)(NR:oj.guard=none:=by exact rfl)(sG:oj.dst=some tj:=by exact rfl)(Oe:∀(S:Nat->Option I)(qc:Nat->Option (List I)),dM prog oj S qc (.ptr nm 0) (some (nm,cells)):=by exact λ _ _=>xM aX _ rfl rfl rfl rfl)
 (FK:m6 ((List.range l.length).map λ i=>decide (i<c)).toArray=na:=by kernel_rfl)(c6:m6 ((List.range l.length).map λ i=>decide (i<c)||i==j).toArray=nb:=by kernel_rfl)(hg:L.g=[]:=by exact rfl):a8 prog Γ (.region id l.toArray true) Q L:=aaB c j nm T hv hm hB hA Ba Ix jk NR sG Oe rfl rfl FK c6 hg h
theorem nx(h:je prog Γ l Q fuel aR L):bw prog Γ l0 (pV prog Γ l Q fuel aR) [] L:=oR (ahO h)
end
section
variable{P:Program}{Γ:bX}{Q:Exit->St->Prop}{x y:Code}{L:St}
theorem LG{p q r A B:Prop}(h1:p)(u:q)(J:r)(hB:B)(hA:B->A):p/\q/\r/\A/\B:=⟨h1,u,J,hA hB,hB⟩
def R9{fg:Type}(Γ:bX)(ok:fg->Prop)(jN:fg->St)(Q:Exit->St->Prop):Exit->St->Prop
 |.normal,L=>∃p,ok p/\eI Γ L (jN p)
 |ex,L=>Q ex L
theorem HH{fg:Type}(ok:fg->Prop)(jN:fg->St)(h1:a8 P Γ x (R9 Γ ok jN Q) L)(u:∀p,ok p->a8 P Γ y Q (jN p)):a8 P Γ x (uK (a8 P Γ y Q) Q) L:=
 zu h1 λ ex bQ h=>by
  cases ex with
  |normal=>obtain⟨p,G,hg⟩:=h;exact iP hg (u p G)
  |_=>exact h
theorem PJ{fg:Type}{ok:fg->Prop}{jN:fg->St}{c:List PanicEntry}(h:Q (.panic c) L):R9 Γ ok jN Q (.panic c) L:=h
theorem PK{l:List Oper}{fuel:Nat}{aK:Array Bool}{c:List PanicEntry}(h:Q (.panic c) L):pV P Γ l Q fuel aK (.panic c) L:=h
end
abbrev wd(l:aI)(O m:Int)(log:List aJ)(s:ag):cn:=[(40,sY l O m log s),(41,[.ptr 40 0]),(46,[.fn (.func 73) [] [.ptr 41 0,.ptr 46 0]])]
structure D6 where
 n:Int
 o:bd
 s:ag
 ex:Bool
 k:Nat
 ps:List Pl
abbrev abj(p:D6):I:=.ca [M p.n,.agg [M p.o.val,dB p.o.is,M p.o.err,M p.o.aD,.p (.sl p.ex p.k p.ps)]]
structure KV(log:List aJ)(m:Except bz ((Int×bd)×ag))(s:ag)(p:D6):Prop where
 eq:m=.ok ((p.n,p.o),p.s)
 fi:iy log s p.s
 n0:0<=p.n
 n1:p.n<65536
def Hm(bx:ag->cn)(log:List aJ)(m:Except bz ((Int×bd)×ag))(s:ag):I->cn->Prop:=λ d bs=>∃p:D6,KV log m s p/\d=abj p/\bs=bx p.s
theorem iy.B5{log:List aJ}{s t aH:ag}(h:iy log s t)(u:iy log t aH):iy log s aH:=⟨Nat.le_trans h.made u.made,u.le,u.ok,by have:=h.len;have:=u.len;have:=h.made;have:=u.made;omega⟩
set_option maxHeartbeats 32000000 in
theorem R4(l:aI)(hL:eT l)(hS:0<=l.ar)(hM:lN l)(O m:Int)(log:List aJ)(k:Nat)(b:Int)(s:ag)(oY:b<65536)(h0:m9 log s)
 (ih:b≠0->∀s1,m9 log s1->jt prog 73 [40,41,46] [M (eH b),.ptr 41 0,.ptr 46 0] (wd l O m log s1) (Hm (wd l O m log) log (mF l O m k (eH b) log s1) s1) (zh (wd l O m log) (mF l O m k (eH b) log s1))):
 jt prog 73 [40,41,46] [M b,.ptr 41 0,.ptr 46 0] (wd l O m log s) (Hm (wd l O m log) log (mF l O m (k+1) b log s) s) (zh (wd l O m log) (mF l O m (k+1) b log s)):=by
 generalize Y:mF l O m (k+1) b log s=E;rw[mF] at Y;refine sX func73 ntmps73 λ w cl own kf=>?_
 refine mK ?_;refine z2 ?_;refine nA 47 ?_;refine go ?_;refine gW 9 [] ?_;refine cA (HN l hL hM m b) ?_;refine go ?_;refine xP (DP l O m log s ⟨1,il l m b,0,0⟩ h0) ?_;rintro d bs ⟨r,s1,fE,gC,rfl,rfl⟩;rw[bl fE] at Y;have h1:=h0.next gC;have hw:=jb r.val;refine gA (rY r.val) ?_;generalize k1:decide ((av r.val).idx=0)=cc;cases cc
 ·rw[if_pos (of_decide_eq_false k1)] at Y;refine go ?_;exact fX _ ⟨⟨(av r.val).idx,gl,s1,true,0,[]⟩,⟨Y.symm,gC,hw.1,hw.2⟩,rfl,rfl⟩
 rw[if_neg (λ h=>h (of_decide_eq_true k1))] at Y;refine go ?_;generalize k2:decide (b=0)=cc;cases cc
 rotate_left
 ·rw[if_pos (of_decide_eq_true k2)] at Y;refine go ?_;exact fX _ ⟨⟨0,⟨0,false,1,-1,[]⟩,s1,true,0,[]⟩,⟨Y.symm,gC,by simp,by simp⟩,rfl,rfl⟩
 have xe:=of_decide_eq_false k2;rw[if_neg xe] at Y;refine go ?_;have Fw:=ih xe s1 h1;refine HH (λ p:D6=>KV log (mF l O m k (eH b) log s1) s1 p) (λ p=>⟨[(8,M p.n),(9,.ptr 48 0),(5,.ptr 47 0),(6,M (il l m b)),(0,M b),(1,.ptr 41 0),(2,.ptr 46 0)],[(40,sY l O m log p.s),(41,[.ptr 40 0]),(46,[.fn (.func 73) [] [.ptr 41 0,.ptr 46 0]]),(47,[M 0,dB false,M 0,M 0,.p (.sl true 0 [])]),(48,[M p.o.val,dB p.o.is,M p.o.err,M p.o.aD,.p (.sl p.ex p.k p.ps)])],[]⟩) ?_ ?_
 ·have o6:∀a,mF l O m k (eH b) log s1=.error a->E=.error a:=λ a h=>by rw[<-Y];exact eA h
  refine xR 3 7 48 7 6 ?_;refine gQ (WW b oY) ?_;refine LG rfl rfl rfl ?_ (λ hB=>?_)
  all_goals repeat' (first|refine tA 4 ?_|refine tA 5 ?_|refine tA 6 ?_|refine oA 3 ?_|refine oA 7 ?_|refine oA 8 ?_|refine oA 9 ?_|refine oB 3 7 ?_ ?_|exact dA ⟨rfl,⟨p,G,zX⟩⟩|exact nx hB|refine vX Fw ?_ ?_|(rintro v bs ⟨a,ah,h,rfl,rfl⟩;refine PK (PJ ?_);refine gP ?_;exact fP _ ⟨a,ah,o6 a h,rfl,rfl⟩)|(rintro d bs ⟨p,G,rfl,rfl⟩;refine nx (HA ?_))|(refine nA 48 ?_;first|exact nx hB|refine nx ?_)|((first|refine z2 ?_|refine z5 ?_);refine nx ?_))
 rintro⟨an,ao,s2,Mo,Mj,PG⟩ ⟨cL,fW,adM,adN⟩;simp only at cL fW adM adN;rw[bl cL] at Y;have u:=h1.next fW;have ET:=gC.B5 fW;simp only at Y;refine go ?_;generalize k3:decide (ao.err=0)=cc;cases cc
 ·rw[if_pos (of_decide_eq_false k3)] at Y;refine go ?_;refine gW 2 [] ?_;refine go ?_;exact fX _ ⟨⟨0,ao,s2,Mo,Mj,PG⟩,⟨Y.symm,ET,by simp,by simp⟩,rfl,rfl⟩
 rw[if_neg (λ h=>h (of_decide_eq_true k3))] at Y;have N5:=Ym l hL hS hM O m log s2 2 an (fv b) 0 u (by omega);refine go ?_;refine HH (λ p:(bd×bz)×ag=>oF l O 2 an (fv b) 0 log s2=.ok p/\iy log s2 p.2) (λ p=>⟨[(9,.ptr 48 0),(10,.ptr 49 0),(5,.ptr 47 0),(6,M (il l m b)),(0,M b),(1,.ptr 41 0),(2,.ptr 46 0)],[(40,sY l O m log p.2),(41,[.ptr 40 0]),(46,[.fn (.func 73) [] [.ptr 41 0,.ptr 46 0]]),(47,[M 0,dB false,M 0,M 0,.p (.sl true 0 [])]),(48,[M p.1.1.val,dB p.1.1.is,M p.1.1.err,M p.1.1.aD,im p.1.1.gone]),(49,[M p.1.2.kind,M p.1.2.cell,M p.1.2.dL,M p.1.2.new])],[]⟩) ?_ ?_
 ·have o6:∀a,oF l O 2 an (fv b) 0 log s2=.error a->E=.error a:=λ a h=>by rw[<-Y];exact eA h
  refine xR 4 8 49 7 6 ?_;refine gQ (abO b) ?_;refine LG rfl rfl rfl ?_ (λ hB=>?_)
  all_goals repeat' (first|refine tA 5 ?_|refine tA 6 ?_|refine tA 7 ?_|refine oA 4 ?_|refine oA 8 ?_|refine oA 9 ?_|refine oA 10 ?_|refine oB 4 8 ?_ ?_|exact dA ⟨rfl,⟨(x,ah),⟨hx,adk⟩,zX⟩⟩|exact nx hB|refine xX N5 ?_ ?_|(rintro v bs ⟨a,ah,h,rfl,rfl⟩;refine PK (PJ ?_);refine gP ?_;exact fP _ ⟨a,ah,o6 a h,rfl,rfl⟩)|(rintro d bs ⟨x,ah,hx,adk,rfl,rfl⟩;refine nx (HA ?_))|(refine nA 49 ?_;first|exact nx hB|refine nx ?_)|((first|refine z2 ?_|refine z5 ?_);refine nx ?_))
 rintro⟨⟨o3,a3⟩,s3⟩ ⟨fx,ji⟩;simp only at ji;rw[bl fx] at Y;have J:=u.next ji;have EU:=ET.B5 ji;simp only at Y;refine go ?_;generalize k4:decide (o3.err=0)=cc;cases cc
 ·rw[if_pos (of_decide_eq_false k4)] at Y;refine go ?_;refine gW 2 [] ?_;refine go ?_;exact fX _ ⟨⟨0,o3,s3,false,o3.gone.length,jo o3.gone⟩,⟨Y.symm,EU,by simp,by simp⟩,rfl,rfl⟩
 have Ge:=of_decide_eq_true k4;rw[if_neg (λ h=>h Ge)] at Y;have cW:=(OP hS u.le fx).2 rfl;simp only at cW;have afw:QL (o3,a3) log s3=.ok (if o3.is then(av a3.new).idx else(av ((log.getD (o3.aD.toNat+2) ⟨0,false⟩).val)).idx,s3):=rfl;rw[bl afw] at Y;have c6:0<=(if o3.is then(av a3.new).idx else(av ((log.getD (o3.aD.toNat+2) ⟨0,false⟩).val)).idx)/\(if o3.is then(av a3.new).idx else(av ((log.getD (o3.aD.toNat+2) ⟨0,false⟩).val)).idx)<65536:=by split<;>exact jb _
 have U7:=akp l O m log s3 o3 a3 _ (λ h=>cW h Ge) h0.log rfl;generalize(if o3.is then(av a3.new).idx else(av ((log.getD (o3.aD.toNat+2) ⟨0,false⟩).val)).idx)=n at Y c6 U7;refine go ?_;refine lA U7 ?_;refine go ?_;refine dW 6 [] ?_;refine gQ (DD ⟨n,false,0⟩) ?_;refine xP (DP l O m log s3 ⟨3,il l m b,0,eh ⟨n,false,0⟩⟩ J) ?_;rintro d bs ⟨r4,s4,i9,lU,rfl,rfl⟩;rw[bl i9] at Y;refine go ?_;exact fX _ ⟨⟨n,gl,s4,true,0,[]⟩,⟨Y.symm,EU.B5 lU,c6.1,c6.2⟩,rfl,rfl⟩
theorem R0(l:aI)(hL:eT l)(hS:0<=l.ar)(hM:lN l)(O m:Int)(log:List aJ):∀(k:Nat)(b:Int)(s:ag),0<=b->b<65536->b<2^k->m9 log s->
 jt prog 73 [40,41,46] [M b,.ptr 41 0,.ptr 46 0] (wd l O m log s) (Hm (wd l O m log) log (mF l O m (k+1) b log s) s) (zh (wd l O m log) (mF l O m (k+1) b log s))
 |0,b,s,jD,oY,o0,h0=>R4 l hL hS hM O m log 0 b s oY h0 λ aW=>by
  have:(2:Int)^0=1:=rfl;omega
 |k+1,b,s,jD,oY,o0,h0=>R4 l hL hS hM O m log (k+1) b s oY h0 λ aW s1 h1=>by
   have kG:0<=eH b/\eH b<b/\eH b<2^k:=by
    obtain⟨n,rfl⟩:=Int.eq_ofNat_of_zero_le jD;have hn:n≠0:=by omega
    have J:=WX hn;refine⟨J.1,J.2.1,WV hn ?_⟩;have h4:((2^(k+1):Nat):Int)=2^(k+1):=by simp
    omega
   exact R0 l hL hS hM O m log k (eH b) s1 kG.1 (by omega) kG.2.2 h1
theorem ajP(l:aI)(hL:eT l)(hS:0<=l.ar)(hM:lN l)(O m:Int)(log:List aJ)(b:Int)(s:ag)(jD:0<=b)(oY:b<65536)(h0:m9 log s):
 jt prog 43 [40] [.ptr 40 0,M b] (yR l O m log s) (Hm (yR l O m log) log (mF l O m 64 b log s) s) (zh (yR l O m log) (mF l O m 64 b log s)):=by
 have hC:=R0 l hL hS hM O m log 63 b s jD oY (by have:(65536:Int)<=2^63:=(by decide);omega) h0;refine sX func43 ntmps43 λ w cl own kf=>?_
 refine mK ?_;refine bA 41 ?_;refine z2 ?_;refine nA 47 ?_;refine oR ?_;refine mK ?_;refine nA 46 ?_;refine oR ?_;refine go ?_;refine vX hC ?_ ?_
 ·rintro v bs ⟨a,ah,h,rfl,rfl⟩;refine gP ?_;exact fP _ ⟨a,ah,h,rfl,rfl⟩
 rintro d bs ⟨p,G,rfl,rfl⟩;refine go ?_;exact fX _ ⟨p,G,rfl,rfl⟩
section
variable{P:Program}{aq:Nat->Option TI}{Γ:bX}{l l0:List Oper}{Q jB:Exit->St->Prop}{fuel:Nat}{aK qL:Array Bool}{L:St}{o:Oper}{i:Nat}
structure py(Γ eR:bX)(r:Nat)(O:Array MapEntry)(ck:Nat):Prop where
 kept:oN Γ.own Γ.w0 eR.w0
 cl:∀k,k<Γ.w0.heap.size->¬Γ.own k->eR.kV k=Γ.kV k
 own:∀k,eR.own k->Γ.own k\/Γ.w0.heap.size<=k
 obj:eR.w0.heap[r]?=some (.map O ck)
 nr:¬eR.own r
 kb:∀b k,kv Γ.kb b=some k->kv eR.kb b=some k
 n:eR.n=Γ.n
 dr:eR.dr=Γ.dr
theorem py.back{eR:bX}{r ck:Nat}{O:Array MapEntry}(h:py Γ eR r O ck){e:aE}(he:gV eR e):gV Γ e:=by
 have cv:∀k,k<Γ.w0.heap.size->¬Γ.own k->¬eR.own k:=λ k hk ho cY=>by
  rcases h.own k cY with h1|h1
  ·exact ho h1
  ·omega
 have hsz:=h.kept.size;have hold:∀k,eR.w0.heap.size<=k\/eR.own k->Γ.w0.heap.size<=k\/Γ.own k:=λ k hk=>by
  rcases hk with hk|hk
  ·exact .inl (Nat.le_trans hsz hk)
  ·exact(h.own k hk).symm
 refine⟨⟨he.kept.os.trans h.kept.os,he.kept.tape.trans h.kept.tape,he.kept.output.trans h.kept.output,Nat.le_trans hsz he.kept.size,λ k hk ho=>?_⟩,λ k hk ho=>?_,λ b k hb=>?_,he.inj,λ k g hg=>?_,λ b k hk=>he.kb b k (h.kb b k hk)⟩
 ·exact(he.kept.block k (Nat.lt_of_lt_of_le hk hsz) (cv k hk ho)).trans (h.kept.block k hk ho)
 ·exact(he.cl k (Nat.lt_of_lt_of_le hk hsz) (cv k hk ho)).trans (h.cl k hk ho)
 ·obtain⟨h1,u,J⟩:=he.bx b k hb;exact⟨h1,hold k u,J⟩
 ·obtain⟨aa,cur,h1,u,J,h4⟩:=he.gr k g hg;exact⟨aa,cur,h1,u,hold k J,h4⟩
theorem py.qq{eR:bX}{r ck:Nat}{O:Array MapEntry}(h:py Γ eR r O ck){e:aE}{a:Act}(F:bE eR L e a):bE Γ L e a:=
 ⟨F.size.trans h.n,F.df.trans h.dr,F.dj,F.boxes,F.ee,F.gs,h.back F.env⟩
theorem py.now{eR:bX}{r ck:Nat}{O:Array MapEntry}(h:py Γ eR r O ck){e:aE}(he:gV eR e):e.w.heap[r]?=some (.map O ck):=
 (he.kept.block r (tY h.obj) h.nr).trans h.obj
theorem Wa{e:aE}{a:Act}(F:bE Γ L e a){r ck:Nat}{O:Array MapEntry}(hr:e.w.heap[r]?=some (.map O ck)):(∀b k,e.bx b=some k->k≠r)/\∀k g,e.gr k=some g->k≠r:=by
 refine⟨λ b k hk he=>?_,λ k g hg he=>?_⟩
 ·subst he;cases hb:kv L.b b with
  |none=>rw[F.ee b hb] at hk;cases hk
  |some cs=>obtain⟨iJ,vs,el,h1,u,_⟩:=F.boxes b cs hb;rw[hk] at h1;cases h1;rw[hr] at u;cases u
 ·subst he;obtain⟨_,_,_,_,_,_,h5⟩:=F.env.gr k g hg;rw[hr] at h5;cases h5
abbrev JE(Γ:bX)(e:aE)(r:Nat)(kb:List (Nat×Nat)):bX:=⟨Γ.n,e.w,e.cl,λ k=>k≠r/\(Γ.own k\/Γ.w0.heap.size<=k),kb,Γ.dr⟩
theorem L1{e:aE}{a:Act}(F:bE Γ L e a){r ck:Nat}{O:Array MapEntry}(hr:e.w.heap[r]?=some (.map O ck)){kb:List (Nat×Nat)}(hn:∀b k,kv kb b=some k->e.bx b=some k)(dI:∀b k,kv Γ.kb b=some k->kv kb b=some k):
 py Γ (JE Γ e r kb) r O ck/\bE (JE Γ e r kb) L e a:=by
 obtain⟨h1,u⟩:=Wa F hr;refine⟨⟨F.env.kept,F.env.cl,λ k hk=>hk.2,hr,λ hk=>hk.1 rfl,dI,rfl,rfl⟩,F.size,F.df,F.dj,F.boxes,F.ee,F.gs,oN.refl _ _,λ _ _ _=>rfl,λ b k hk=>?_,F.env.inj,λ k g hg=>?_,hn⟩
 ·obtain⟨J,h4,h5⟩:=F.env.bx b k hk;exact⟨J,.inr ⟨h1 b k hk,h4.symm⟩,h5⟩
 ·obtain⟨aa,cur,J,h4,h5,h6⟩:=F.env.gr k g hg;exact⟨aa,cur,J,h4,.inr ⟨u k g hg,h5.symm⟩,h6⟩
theorem py.next{eR:bX}{r ck:Nat}{O:Array MapEntry}(h:py Γ eR r O ck)(qx:Γ.w0.heap.size<=r){e:aE}{a:Act}(F:bE eR L e a)(xk:Array MapEntry)(Co:Nat):∃e2:aE,e2.w={e.w with heap:=e.w.heap.setIfInBounds r (.map xk Co)}/\py Γ (JE Γ e2 r eR.kb) r xk Co/\bE (JE Γ e2 r eR.kb) L e2 a:=by
 have hold:=h.now F.env;have fw:=h.qq F;obtain⟨CM,yk⟩:=Wa F hold;obtain⟨ox,iq⟩:=MapKept.heap_set (o':=.map xk Co) hold
 let w2:World:={e.w with heap:=e.w.heap.setIfInBounds r (.map xk Co)}
 have Bo:w2.heap.size=e.w.heap.size:=by simp[w2]
 let e2:aE:={e with w:=w2}
 have yh:∀b o v,e.w.cell? ⟨b,o,none⟩=some v->b≠r:=λ b o v hv he=>by
  subst he;simp[World.cell?,hold] at hv
 have Y:Ends e e2:=by
  refine⟨λ b o v h1 u=>⟨h1,?_⟩,λ _ _ h=>h,λ _ aa h=>⟨aa,h,rfl,rfl,Nat.le_refl _⟩,λ k g aa cur h1 u J=>⟨h1,cur,?_,rfl⟩⟩
  ·rw[World.cell?_of_block (w:=e.w) (iq b (yh b o v u))];exact u
  ·show(e.w.heap.setIfInBounds r (.map xk Co))[k]?=_;rw[iq k (yk k g h1)];exact J
 have fI:bE Γ L e2 a:=by
  refine⟨fw.size,fw.df,λ t d ht=>(fw.dj t d ht).next Y,λ b cs hb=>?_,fw.ee,fw.gs,⟨⟨fw.env.kept.os,fw.env.kept.tape,fw.env.kept.output,by show _<=w2.heap.size;rw[Bo];exact fw.env.kept.size,λ k hk ho=>?_⟩,fw.env.cl,λ b k hk=>?_,fw.env.inj,λ k g hg=>?_,fw.env.kb⟩⟩
  ·obtain⟨k,vs,el,h1,u,J⟩:=fw.boxes b cs hb;exact⟨k,vs,el,h1,(iq k (CM b k h1)).trans u,J.next Y⟩
  ·exact(iq k (by omega)).trans (fw.env.kept.block k hk ho)
  ·obtain⟨h1,u,J⟩:=fw.env.bx b k hk;exact⟨by show k<w2.heap.size;rw[Bo];exact h1,u,J⟩
  ·obtain⟨aa,cur,h1,u,J,h4,h5⟩:=fw.env.gr k g hg;exact⟨aa,cur,h1,by show k<w2.heap.size;rw[Bo];exact u,J,h4,(iq k (yk k g hg)).trans h5⟩
 have J:=L1 (kb:=eR.kb) fI (r:=r) (O:=xk) (ck:=Co) ox (λ b k hk=>F.env.kb b k hk) h.kb;exact⟨e2,rfl,J.1,J.2⟩
def Q3(P:Program)(f:FuncId)(bc:List Nat)(ds:List I)(bs ay:cn)(BG:List Nat)(am:(Nat->Nat)->Array MapEntry):Prop:=
 ∀(e:aE)(vs:List Value),iW bs e->DReps e vs ds->Calls P f vs.toArray e.w λ ex aA=>∃r ck kf ae,ex=.returned (.map (some r))/\ae.w=aA/\iW ay ae/\Left bc e ae/\(∀n,n∈BG->ae.bx n=some (kf n))/\aA.heap[r]?=some (.map (am kf) ck)
structure pz(P:Program)(Γ:bX)(l:List Oper)(Q:Exit->St->Prop)(fuel:Nat)(aK:Array Bool)(L:St)(i:Nat):Prop where
 run:∀(a:Act)(e:aE),bE Γ L e a->wpOp P l.toArray (jP Γ Q) i (wpAny P .any l.toArray (jP Γ Q) fuel (aK.setIfInBounds i true)) a e.w
theorem aij(ho:l[i]?=some o)(Z:aK.setIfInBounds i true=qL)(h:bw P Γ l (pV P Γ l Q fuel qL) [o] L):pz P Γ l Q fuel aK L i:=⟨λ _ _ F=>HB ho Z h F⟩
theorem ZS(hr:Region.ready .any l.toArray aK=[i])(h:pz P Γ l Q fuel aK L i):je P Γ l Q (fuel+1) aK L:=⟨λ a e F=>wpAny_all hr (by simp) λ j hj=>by
 obtain rfl:j=i:=by simpa using hj
 exact h.run a e F⟩
theorem ZT{j:Nat}(hr:Region.ready .any l.toArray aK=[i,j])(h:pz P Γ l Q fuel aK L i)(u:pz P Γ l Q fuel aK L j):je P Γ l Q (fuel+1) aK L:=⟨λ a e F=>wpAny_all hr (by simp) λ k hk=>by
 rcases List.mem_cons.1 hk with rfl|hk
 ·exact h.run a e F
 ·obtain rfl:k=j:=by simpa using hk
  exact u.run a e F⟩
theorem ZU{j m:Nat}(hr:Region.ready .any l.toArray aK=[i,j,m])(h:pz P Γ l Q fuel aK L i)(u:pz P Γ l Q fuel aK L j)(J:pz P Γ l Q fuel aK L m):je P Γ l Q (fuel+1) aK L:=⟨λ a e F=>wpAny_all hr (by simp) λ k hk=>by
 rcases List.mem_cons.1 hk with rfl|hk
 ·exact h.run a e F
 ·rcases List.mem_cons.1 hk with rfl|hk
  ·exact u.run a e F
  ·obtain rfl:k=m:=by simpa using hk
   exact J.run a e F⟩
theorem aii{t:Nat}{s ah:List (Nat×I)}{b aP:cn}{g:List (Nat×Gr)}{f:FuncId}{bc:List Nat}{ds:List I}{bs ay:cn}{BG:List Nat}{am:(Nat->Nat)->Array MapEntry}{xs:List Operand}{fa:Array TypeId}{LL:Array Bool}(hC:Q3 P f bc ds bs ay BG am)(Bb:l[i]?=some o)(vl:aK.setIfInBounds i true=LL)(ho:o.op=.call {callee:=.value (.func f),args:=xs.toArray,argTypes:=fa})(hf:jM P f)(he:i3 (kv s) xs some=some ds)(aV:I.ok.fy (aL bs) (λ _=>false) ds=true)(T:jQ ⟨s,b,g⟩ (aL bs) bs)(dI:Γ.kb=[])
 (hg:gd l o (kv s)=some true)(K:o.dst=some t)(Z:Nat.blt t Γ.n=true)(h3:lT (λ b=>!aL bs b||iI bc b) s (λ ah=>mj (aL bs) (λ b=>!aL bs b||iI bc b) b (λ aP=>some (ah,aP)))=some (ah,aP))
 (dt:kq bs b ay)(mv:ku ay BG)
 (h:∀r ck kf aA bI cR,py Γ ⟨Γ.n,aA,bI,cR,mz kf BG,Γ.dr⟩ r (am kf) ck->je P ⟨Γ.n,aA,bI,cR,mz kf BG,Γ.dr⟩ l Q fuel LL ⟨(t,.p (.raw (.map (some r))))::ah,ay++aP,g⟩):pz P Γ l Q fuel aK ⟨s,b,g⟩ i:=by
 rw[wh,wg] at h3;cases h3;refine⟨λ a e F=>?_⟩;have ae5:l.toArray[i]?=some o:=by simpa using Bb
 unfold wpOp;simp only[ae5];rw[if_pos (mm F hg)];refine .inl ?_;have jG:=F.jd o.op.operands;have hv:=EK (a:=a) (e:=e) xs (λ x hx=>jG.1 x (by rw[ho];simp[Op.operands,Call.operands,hx])) he;have cS:(execOp a.eval o).run P e.w=.ok (.enter f (xs.map a.eval).toArray) e.w:=by obtain⟨dst,op,type,pos,after,guard⟩:=o;simp only at ho;subst ho;rw[execOp_call_go,hf];simp
 unfold Oper.wp;rw[cS];refine(hC (e.cut (aL bs) λ _=>false) _ (rg F T) ⟨hv.1,λ i v d h1 u=>(hv.2 i v d h1 u).cut (rZ aV u)⟩).mono λ ex aA hh=>?_
 obtain⟨r,ck,kf,ae,rfl,rfl,hI,hL,hk,ae4⟩:=hh;obtain⟨h1,u⟩:=F.after hI hL (λ n hn=>dt.get hn) (λ n k h1 _=>by rw[dI] at h1;cases h1);have J:=h1.put (dst:=o.dst) (d:=.p (.raw (.map (some r)))) (rl K Z) (.p (.raw (.map (some r))));rw[K] at J;obtain⟨h4,h5⟩:=L1 (kb:=mz kf BG) J (r:=r) (O:=am kf) (ck:=ck) ae4 (λ n k rJ=>by
  obtain⟨h6,rfl⟩:=Df rJ;show(if aL ay n=true then ae.bx n else _)=_;rw[if_pos (mv.get h6)];exact hk n h6) (λ n k h6=>by rw[dI] at h6;cases h6)
 have h6:=(h r ck kf _ _ _ h4).run _ _ h5;show wpAny P .any l.toArray (jP Γ Q) fuel (aK.setIfInBounds i true) (a.put o.dst (.map (some r))) ae.w;rw[vl,K];exact QR (λ _ _ hh=>by obtain⟨bu,e2,q1,q2,q3⟩:=hh;exact⟨bu,e2,q1,h4.qq q2,q3⟩) (λ _ _ _ _ hh=>by obtain⟨bu,e2,q1,q2,q3⟩:=hh;exact⟨bu,e2,q1,h4.qq q2,q3⟩) _ _ _ _ h6
def Hr(P:Program)(Γ:bX)(mt r:Nat)(m:Int)(fN:I)(kn:Bool):Prop:=∀e:aE,gV Γ e->∃v,(Instr.lookup mt (.map (some r)) (.int .i64 m) true).run P e.w=.ok v e.w/\bC e v (.ca [fN,dB kn])
theorem ZJ{t mt r:Nat}{s:List (Nat×I)}{b:cn}{g:List (Nat×Gr)}{x y:Operand}{m:Int}{fN:I}{kn:Bool}(hL:Hr P Γ mt r m fN kn)(ho:o.op=.lookup mt x y true)(hx:ev (kv s) x=some (.p (.raw (.map (some r)))))(hy:ev (kv s) y=some (M m))(hg:gd l0 o (kv s)=some true)(K:o.dst=some t)(Z:Nat.blt t Γ.n=true)
 (h:bw P Γ l0 Q l ⟨(t,.ca [fN,dB kn])::s,b,g⟩):bw P Γ l0 Q (o::l) ⟨s,b,g⟩:=by
 refine xN (L:=⟨s,b,g⟩) hg (λ a e F=>?_) h;have T:=F.jd o.op.operands;have h1:=dg (T.1 x (by rw[ho];simp[Op.operands]) _ hx);have u:=dg (T.1 y (by rw[ho];simp[Op.operands]) _ hy);obtain⟨v,J,h4⟩:=hL e F.env;have cS:(execOp a.eval o).run P e.w=.ok (.value v) e.w:=by obtain⟨dst,op,type,pos,after,guard⟩:=o;simp only at ho;subst ho;simp[execOp,h1,u,J]
 unfold Oper.wp;rw[cS];have:=F.put (dst:=o.dst) (v:=v) (by rw[K];exact Z) h4;rw[K] at this;exact⟨e,rfl,by rw[K];exact this⟩
theorem OU{eR:bX}{r ck mt kt et:Nat}{O:Array MapEntry}(hi:py Γ eR r O ck)(hm:P.underlying mt=some (.map kt et))(nE:P.underlying kt=some (.int .i64)){m:Int}{j:Nat}{v:Value}{fN:I}(Ft:Instr.findNow (.int .i64) (.int .i64 m) O.toList 0=some (some (j,v)))(hv:∀e,gV eR e->bC e v fN):Hr P eR mt r m fN true:=λ e he=>by
 have J:=hi.now he;have hk:MapKept.IsKey (.int .i64) (.int .i64 m):=rfl;refine⟨.tuple #[v,.bool true],?_,?_⟩
 ·simp[Instr.lookup,run_underlying hm,MapKept.run_getObj_map J,MapKept.run_checkKey nE hk,MapKept.run_findKey nE Ft]
 ·exact .ca (vs:=[v,.bool true]) (ds:=[fN,dB true]) rfl λ i gU d h1 u=>by
   match i,h1,u with
   |0,h1,u=>cases h1;cases u;exact hv e he
   |1,h1,u=>cases h1;cases u;exact .p (.raw _)
theorem agP(hT:dh P aq){eR:bX}{r ck mt kt et:Nat}{O:Array MapEntry}{ti:TI}(hi:py Γ eR r O ck)(hm:P.underlying mt=some (.map kt et))(nE:P.underlying kt=some (.int .i64))(NI:aq et=some ti){m:Int}(Ft:Instr.findNow (.int .i64) (.int .i64 m) O.toList 0=some none):Hr P eR mt r m (.p (.raw ti.zero)) false:=λ e he=>by
 have J:=hi.now he;have hk:MapKept.IsKey (.int .i64) (.int .i64 m):=rfl;refine⟨.tuple #[ti.zero,.bool false],?_,?_⟩
 ·simp[Instr.lookup,run_underlying hm,MapKept.run_getObj_map J,MapKept.run_checkKey nE hk,MapKept.run_findKey nE Ft,DM hT NI]
 ·exact .ca (vs:=[ti.zero,.bool false]) (ds:=[.p (.raw ti.zero),dB false]) rfl λ i gU d h1 u=>by
   match i,h1,u with
   |0,h1,u=>cases h1;cases u;exact .p (.raw _)
   |1,h1,u=>cases h1;cases u;exact .p (.raw _)
structure Ec(P:Program)(Γ:bX)(kb:List (Nat×Nat))(r:Nat)(l0:List Oper)(Q:Exit->Act->World->Prop)(l:List Oper)(O:Array MapEntry)(ck:Nat)(L:St):Prop where
 run:∀aA bI cR,py Γ ⟨Γ.n,aA,bI,cR,kb,Γ.dr⟩ r O ck->∀a e,bE ⟨Γ.n,aA,bI,cR,kb,Γ.dr⟩ L e a->wpList P l0.toArray Q l a e.w
theorem JO{W:Exit->Act->World->Prop}{kb:List (Nat×Nat)}{r ck:Nat}{O:Array MapEntry}{s:List (Nat×I)}{b:List (Nat×List I)}{g:List (Nat×Gr)}{t:Nat}{d:I}(hT:dh P aq)(hq:ax aq (kv s) (kv b) o.op=some d)(hg:gd l0 o (kv s)=some true)(K:o.dst=some t)(Z:Nat.blt t Γ.n=true)(h:Ec P Γ kb r l0 W l O ck ⟨(t,d)::s,b,g⟩):Ec P Γ kb r l0 W (o::l) O ck ⟨s,b,g⟩:=by refine⟨λ aA bI cR hi a e F=>?_⟩;unfold wpList;rw[if_pos (mm F hg)];have bY:Cb P ⟨Γ.n,aA,bI,cR,kb,Γ.dr⟩ o ⟨s,b,g⟩ _:=dM.step (L:=⟨s,b,g⟩) (uU hT hq) (rl K Z) (λ p G=>by cases G);refine .inl (y8 (bY a e F) λ bF w1 hh=>?_);obtain⟨ae,rfl,d4⟩:=hh;rw[K] at d4;exact h.run aA bI cR hi bF ae d4
theorem O1{W:Exit->Act->World->Prop}{kb:List (Nat×Nat)}{r ck:Nat}{O xk:Array MapEntry}{s:List (Nat×I)}{b:List (Nat×List I)}{g:List (Nat×Gr)}{mt kt et:Nat}{x y z:Operand}{m:Int}{v:Value}{d:I}(qx:Γ.w0.heap.size<=r)(ho:o.op=.insert mt x y z)(K:o.dst=none)(hm:P.underlying mt=some (.map kt et))(nE:P.underlying kt=some (.int .i64))(hx:ev (kv s) x=some (.p (.raw (.map (some r)))))(hy:ev (kv s) y=some (M m))(hz:ev (kv s) z=some d)(hg:gd l0 o (kv s)=some true)(hv:∀aA bI cR e,gV ⟨Γ.n,aA,bI,cR,kb,Γ.dr⟩ e->∀aH,bC e aH d->aH=v)(hn:Instr.findNow (.int .i64) (.int .i64 m) O.toList 0=some none)(he:O.push {key:=.int .i64 m,val:=v,born:=ck}=xk)
 (h:Ec P Γ kb r l0 W l xk (ck+1) ⟨s,b,g⟩):Ec P Γ kb r l0 W (o::l) O ck ⟨s,b,g⟩:=by
 refine⟨λ aA bI cR hi a e F=>?_⟩;subst he;unfold wpList;rw[if_pos (mm F hg)];have T:=F.jd o.op.operands;have h1:=dg (T.1 x (by rw[ho];simp[Op.operands]) _ hx);have u:=dg (T.1 y (by rw[ho];simp[Op.operands]) _ hy);have cj:=hv _ _ _ e F.env _ (T.1 z (by rw[ho];simp[Op.operands]) _ hz);have J:=hi.now F.env;have hk:MapKept.IsKey (.int .i64) (.int .i64 m):=rfl;obtain⟨e2,wE,CX,fI⟩:=hi.next qx F (O.push {key:=.int .i64 m,val:=v,born:=ck}) (ck+1);have cS:(execOp a.eval o).run P e.w=.ok .skip {e.w with heap:=e.w.heap.setIfInBounds r (.map (O.push {key:=.int .i64 m,val:=v,born:=ck}) (ck+1))}:=by obtain⟨dst,op,type,pos,after,guard⟩:=o;simp only at ho;subst ho;simp[execOp,Instr.mapUpdate,h1,u,cj,run_underlying hm,MapKept.run_getObj_map J,MapKept.run_checkKey nE hk,MapKept.run_findKey nE hn,MapKept.run_setObj_map _ J]
 refine .inl ?_;unfold Oper.wp;rw[cS,<-wE];have:=h.run _ _ _ CX a e2 fI;show wpList P _ _ l (a.put o.dst undef) e2.w;rw[K];exact this
theorem ahk{W:Exit->Act->World->Prop}{kb:List (Nat×Nat)}{s:List (Nat×I)}{b:List (Nat×List I)}{g:List (Nat×Gr)}{t1 mt:Nat}{o1:Oper}(ho:o1.op=.makeMap mt none)(hg:gd l0 o1 (kv s)=some true)(oh:o1.dst=some t1)(fS:Nat.blt t1 Γ.n=true){e:aE}{a:Act}(F:bE Γ ⟨s,b,g⟩ e a)(hn:∀b k,kv kb b=some k->e.bx b=some k)(dI:∀b k,kv Γ.kb b=some k->kv kb b=some k)
 (h:∀r,Γ.w0.heap.size<=r->Ec P Γ kb r l0 W l #[] 0 ⟨(t1,.p (.raw (.map (some r))))::s,b,g⟩):wpList P l0.toArray W (o1::l) a e.w:=by
 unfold wpList;rw[if_pos (mm F hg)];refine .inl ?_;unfold Oper.wp;have cS:(execOp a.eval o1).run P e.w=.ok (.value (.map (some e.w.heap.size))) (e.w.alloc (.map #[] 0)):=by obtain⟨dst,op,type,pos,after,guard⟩:=o1;simp only at ho;subst ho;simp[execOp,Instr.makeMap]
 rw[cS];show wpList P _ _ l (a.put o1.dst _) _;have ia:=aE.v8 e (.map #[] 0) none;have c7:=(F.grow ia).put (dst:=o1.dst) (v:=.map (some e.w.heap.size)) (d:=.p (.raw (.map (some e.w.heap.size)))) (by rw[oh];exact fS) (.p (.raw _));rw[oh] at c7⊢;have lh:(e.w.alloc (.map #[] 0)).heap[e.w.heap.size]?=some (.map #[] 0):=(MapKept.heap_alloc e.w _).1;obtain⟨h4,h5⟩:=L1 (kb:=kb) c7 (r:=e.w.heap.size) (O:=#[]) (ck:=0) lh hn dI;exact(h e.w.heap.size F.env.kept.size).run _ _ _ h4 _ _ h5
theorem S9{e:aE}{aH:Value}{f:Fn}{b1 b2 k1 k2:Nat}(h1:e.bx b1=some k1)(u:e.bx b2=some k2)(h:bC e aH (.fn f [] [.ptr b1 0,.ptr b2 0])):aH=.func f #[] #[.pointer (some ⟨k1,0,none⟩),.pointer (some ⟨k2,0,none⟩)]:=by
 cases h with
 |fn Z eV J h4=>
  rename_i us vs
  match us,vs,Z,eV,h4 with
  |[],[v1,v2],_,_,h4=>
   have q1:=h4 0 v1 _ rfl rfl;have q2:=h4 1 v2 _ rfl rfl;cases q1 with
   |ptr q1=>cases q2 with
    |ptr q2=>
     rw[h1] at q1;rw[u] at q2;cases q1;cases q2
     rfl
theorem acJ{e:aE}{aH:Value}{f:Fn}(h:bC e aH (.fn f [] [])):aH=.func f #[] #[]:=by
 cases h with
 |fn Z eV J h4=>
  rename_i us vs
  match us,vs,Z,eV with
  |[],[],_,_=>rfl
end
section
variable{Γ:bX}{l l0:List Oper}{Q:Exit->St->Prop}{fuel:Nat}{aR:Array Bool}{L:St}{o:Oper}
theorem wA(i:Nat)(h:pz prog Γ l Q fuel aR L i)(hr:Region.ready .any l.toArray aR=[i]:=by decide+kernel):je prog Γ l Q (fuel+1) aR L:=ZS hr h
theorem wB(i j:Nat)(h:pz prog Γ l Q fuel aR L i)(u:pz prog Γ l Q fuel aR L j)(hr:Region.ready .any l.toArray aR=[i,j]:=by decide+kernel):je prog Γ l Q (fuel+1) aR L:=ZT hr h u
theorem wC(i j k:Nat)(h:pz prog Γ l Q fuel aR L i)(u:pz prog Γ l Q fuel aR L j)(J:pz prog Γ l Q fuel aR L k)(hr:Region.ready .any l.toArray aR=[i,j,k]:=by decide+kernel):je prog Γ l Q (fuel+1) aR L:=ZU hr h u J
theorem ahX{i:Nat}(h:bw prog Γ l (pV prog Γ l Q fuel (aR.setIfInBounds i true)) [o] L)(ho:l[i]?=some o:=by exact rfl):pz prog Γ l Q fuel aR L i:=aij ho rfl h
end
end Go.Proofs.YtkkldicehapklaaGreat
