/- Lists behind nodes: how long a program takes that is alone. -/
import Derived.Test.YtkkldicehapklaaGreatPU
import Derived.Test.YtkkldicehapklaaGreatPT
namespace Go.Proofs.YtkkldicehapklaaGreat.Tq
set_option maxRecDepth 100000
abbrev Fr(W:Ws)(D cur:Int):Prop:=W.nd D 0=bt cur
def lL(X:List Int)(c:Int):Nat:=(X.dropWhile λ x=>decide (x≠c)).length
def sg(er:Int)(s:ag):Nat:=(if er=s.e0 then 0 else 3)+(if er=s.e1 then 0 else 3)+(if er=s.e2 then 0 else 3)
def nz(s:ag):Nat:=(if s.e0=0 then 0 else 1)+(if s.e1=0 then 0 else 1)+(if s.e2=0 then 0 else 1)
def bj(Gw:Nat)(W:Ws)(X:List Int):Nat:=17*dT W X+28*dS W X+Gw*X.length
section
variable(aa:Nat)
def oE(o:Or):Nat:=if o.o%2=1 then 17 else 0
def eF(o:Or):Fk->Nat
 |.get=>4
 |.put _ _=>12+oE o+aa
 |.del=>30
 |.fin _=>3
def rB(X:List Int)(o:Or)(f:Fk):Nat:=4*X.length+eF aa o f
def n8(W:Ws)(X:List Int)(o:Or)(f:Fk)(D cur:Int):Nat:=if Fr W D cur then 4*lL X cur+eF aa o f else 9+rB aa X o f
def rV(W:Ws)(X:List Int)(o:Or)(f:Fk)(D cur w:Int):Nat:=if Fr W D cur then(if W.nd cur 0=w then 4*lL X cur+eF aa o f-2 else 11+rB aa X o f) else 1+rB aa X o f
def uu(W:Ws)(X:List Int)(o:Or)(f:Fk)(D cur w:Int):Nat:=if Fr W D cur/\W.nd cur 0=w then 4*lL X cur+eF aa o f-3 else 10+rB aa X o f
def wf(W:Ws)(X:List Int)(o:Or)(f:Fk)(D cur:Int):Nat:=if Fr W D cur then 4*lL X cur+eF aa o f-4 else 1+rB aa X o f
def hd(W:Ws)(X:List Int)(o:Or)(D cur:Int):Nat:=if Fr W D cur then 4+oE o+aa else 1+rB aa X o (.put 0 0)
def oT(W:Ws)(X:List Int)(D cur:Int):Nat:=if Fr W D cur then 1 else 4+4*X.length
def cK(W:Ws)(X:List Int):Lk->Nat
 |.ls o f _ _ D cur w _=>rV aa W X o f D cur w
 |.lo o f _ _ D cur w _ _=>uu aa W X o f D cur w
 |.cu o f _ _ D cur _=>wf aa W X o f D cur
 |.gv _ _ _=>4
 |.p1 o _ _ D cur=>3+hd aa W X o D cur
 |.p2 o _ _ D cur=>2+hd aa W X o D cur
 |.p0 o _ _ D cur=>1+hd aa W X o D cur
 |.cp o _ _ D cur=>hd aa W X o D cur
 |.cm o D cur w=>if W.nd cur 0=w then 29+oT W X D cur else 1+rB aa X o .del
 |.cd _ D cur _ _=>oT W X D cur
 |_=>0
def gK(W:Ws)(X:List Int)(k:Lk)(v:Int):Nat:=match k with
 |.ga o f=>n8 aa W X o f o.d (av v).idx
 |.gb o f _ _ D cur=>rV aa W X o f D cur v
 |_=>0
def tK(W:Ws)(X:List Int):Lk->Nat
 |.tk o _ D cur=>3+hd aa W X o D cur
 |_=>0
def rK(W:Ws)(X:List Int):Lk->Nat
 |.rr o f _ _ D nx _=>9+n8 aa W X o f D nx
 |_=>0
def kC(S:Nat)(s:ag):Lk->Nat
 |.rx _ _=>2+3*S+4*(s.gone.length+1)
 |_=>0
def ahP(S:Nat)(V:Vw)(X:List Int)(s:ag):Pc Lk->Nat
 |.at_ k=>cK aa V.W X k+sg V.er s
 |.t1 k=>5+tK aa V.W X k+sg V.er s
 |.t2 k f=>(if V.fr=f then 4 else 7)+tK aa V.W X k+sg V.er s
 |.t3 k f _=>(if V.fr=f then 3 else 6)+tK aa V.W X k+sg V.er s
 |.t4 k _ _=>2+tK aa V.W X k+sg V.er s
 |.t5 k _ _ _=>1+tK aa V.W X k+sg V.er s
 |.g1 k _ c=>2+gK aa V.W X k (V.W.get c)+sg V.er s
 |.g2 k i c v _=>if V.er=s.e i then 1+gK aa V.W X k v+sg V.er s else 1+gK aa V.W X k (V.W.get c)+sg V.er s
 |.g3 k i c er=>if V.er=er/\V.er≠s.e i then gK aa V.W X k (V.W.get c)+sg V.er s else gK aa V.W X k (V.W.get c)+sg V.er s+6
 |.bn _=>0
 |.c k _=>nz s+kC S s k
 |.v1 _ _=>6
 |.v2 _ _ f=>(if V.fr=f then 5 else 8)
 |.v3 _ _ f=>(if V.fr=f then 4 else 7)
 |.r1 k _=>2+3*S+4*(s.gone.length+1)+rK aa V.W X k
 |.r2 k _ _=>1+3*S+4*(s.gone.length+1)+rK aa V.W X k
 |.rs k _ _ cs=>1+cs.length+4*s.gone.length+rK aa V.W X k
 |.s1 k _ _ gs _=>4+4*gs.length+rK aa V.W X k
 |.w1 k _ _ gs _=>3+4*gs.length+rK aa V.W X k
 |.w2 k _ _ gs _ f=>(if V.fr=f then 2 else 5)+4*gs.length+rK aa V.W X k
 |.w3 k _ _ gs _ f=>(if V.fr=f then 1 else 4)+4*gs.length+rK aa V.W X k
 |.fin _=>0
def nu(S:Nat)(V:Vw)(X:List Int)(q:Q Lk):Nat:=ahP aa S V X q.s q.R
end
theorem Gg{X A B:List Int}(h:X=A++B)(eM:X.Nodup)(h0:(0:Int)∉X):lL X (B.headD 0)=B.length:=by
 unfold lL;have hA:∀a∈A,decide (a≠B.headD 0)=true:=by
  intro a ha;rw[decide_eq_true_eq];intro e;cases B with
  |nil=>exact h0 (by rw[h];simp only[List.append_nil];rw[show(0:Int)=a from e.symm];exact ha)
  |cons b B=>rw[h,List.nodup_append] at eM;exact eM.2.2 a ha b (by simp) e
 rw[h,List.dropWhile_append_of_pos hA];cases B with
 |nil=>rfl
 |cons b B=>simp
theorem Gh(X:List Int)(c:Int):lL X c<=X.length:=(List.dropWhile_sublist _).length_le
theorem JR(s:ag):nz s<=3:=by unfold nz;split<;>split<;>split<;>omega
theorem ahU{s:ag}{i:Int}(i0:0<=i)(i2:i<=2)(h:s.e i≠0):nz (s.up.ej i 0)<nz s:=by
 have:i=0\/i=1\/i=2:=by omega
 rcases this with rfl|rfl|rfl
 ·have h:s.e0≠0:=h;simp only[ag.ej,ag.up,nz,if_true,h,if_false];omega
 ·have h:s.e1≠0:=h;show(if s.e0=0 then 0 else 1)+(if(0:Int)=0 then 0 else 1)+(if s.e2=0 then 0 else 1)<nz s;simp only[nz,if_true,h,if_false];omega
 ·have h:s.e2≠0:=h;show(if s.e0=0 then 0 else 1)+(if s.e1=0 then 0 else 1)+(if(0:Int)=0 then 0 else 1)<nz s;simp only[nz,if_true,h,if_false];omega
theorem Qd(er:Int)(s:ag):sg er s<=9:=by unfold sg;split<;>split<;>split<;>omega
theorem ajS{er x:Int}{s:ag}{i:Int}(i0:0<=i)(i2:i<=2):sg er (s.up.ej i x)+(if er=s.e i then 0 else 3)=sg er s+(if er=x then 0 else 3):=by
 have:i=0\/i=1\/i=2:=by omega
 rcases this with rfl|rfl|rfl
 ·show(if er=x then 0 else 3)+(if er=s.e1 then 0 else 3)+(if er=s.e2 then 0 else 3)+(if er=s.e0 then 0 else 3)=sg er s+_;unfold sg;omega
 ·show(if er=s.e0 then 0 else 3)+(if er=x then 0 else 3)+(if er=s.e2 then 0 else 3)+(if er=s.e1 then 0 else 3)=sg er s+_;unfold sg;omega
 ·show(if er=s.e0 then 0 else 3)+(if er=s.e1 then 0 else 3)+(if er=x then 0 else 3)+(if er=s.e2 then 0 else 3)=sg er s+_;unfold sg;omega
section
variable{aa Gw S N aB:Nat}{l:aI}{V:Vw}{X:List Int}{aC:Int->Prop}{g:dF}
theorem H5(o:Or)(f:Fk):3<=eF aa o f:=by cases f<;>simp only[eF]<;>omega
theorem O7(k:Lk)(s:ag)(hk:(∃o,k=.fi o)\/∃n a,k=.rx n a):nu aa S V X (dJ U k s)<=nz s+kC S s k:=by
 rcases wc (am:=U) k s with⟨i,_,_,_,e⟩|⟨_,e⟩
 ·rw[e];exact Nat.le_refl _
 ·rw[e];rcases hk with⟨o,rfl⟩|⟨n,a,rfl⟩
  ·exact Nat.zero_le _
  ·exact Nat.le_add_left _ _
theorem GJ(o:bd)(s:ag):nu aa S V X (aG U (.bn (.fi o)) s)<=3:=by have h1:nu aa S V X (dJ U (.fi o) s)<=_:=O7 (.fi o) s (.inl ⟨o,rfl⟩);have u:=JR s;show nu aa S V X (dJ U (.fi o) s)<=3;simp only[kC] at h1;omega
theorem PM(o:Or)(v n:Int):rB aa X o (.put v n)=rB aa X o (.put 0 0):=rfl
theorem Wv(o:Or)(f:Fk)(D cur pt:Int)(s:ag):nu aa S V X (aG U (d9 o f D cur pt) s)<=(if Fr V.W D cur then eF aa o f else 9+rB aa X o f)+sg V.er s:=by
 have J:∀o',nu aa S V X (aG U (.bn (.fi o')) s)<=(if Fr V.W D cur then eF aa o f else 9+rB aa X o f)+sg V.er s:=λ o'=>by
  have:=GJ (aa:=aa) (S:=S) (V:=V) (X:=X) o' s;have:=H5 (aa:=aa) o f;split<;>omega
 unfold d9;cases f with
 |get=>exact J _
 |del=>exact J _
 |fin a=>exact J _
 |put v n=>
  simp only;split
  ·show 5+(3+hd aa V.W X o D cur)+sg V.er s<=_;unfold hd;rw[<-PM o v n];simp only[eF];split<;>omega
  ·show 1+hd aa V.W X o D cur+sg V.er s<=_;unfold hd;rw[<-PM o v n];simp only[eF];split<;>omega
theorem ahR(o:Or)(f:Fk)(D cur w pt:Int)(s:ag):nu aa S V X (aG U (eU o f D cur w pt) s)<=(if Fr V.W D cur/\V.W.nd cur 0=w then eF aa o f else 9+rB aa X o f)+sg V.er s:=by
 have J:∀o',nu aa S V X (aG U (.bn (.fi o')) s)<=(if Fr V.W D cur/\V.W.nd cur 0=w then eF aa o f else 9+rB aa X o f)+sg V.er s:=λ o'=>by
  have:=GJ (aa:=aa) (S:=S) (V:=V) (X:=X) o' s;have:=H5 (aa:=aa) o f;split<;>omega
 unfold eU;cases f with
 |get=>show 4+sg V.er s<=_;simp only[rB,eF];split<;>omega
 |put v n=>
  simp only;split
  ·exact J _
  ·show 6<=_;simp only[rB,eF];split<;>omega
 |del=>
  show(if V.W.nd cur 0=w then 29+oT V.W X D cur else 1+rB aa X o .del)+sg V.er s<=_;unfold oT;simp only[rB,eF]
  by_cases hf:Fr V.W D cur
  ·by_cases hw:V.W.nd cur 0=w
   ·rw[if_pos hw,if_pos hf,if_pos ⟨hf,hw⟩];omega
   ·rw[if_neg hw,if_neg (λ h=>hw h.2)];omega
  ·rw[if_neg (show¬(Fr V.W D cur/\_) from λ h=>hf h.1),if_neg hf];split<;>omega
 |fin a=>exact J _
theorem O8(o:Or)(f:Fk)(a b D cur pt:Int)(s:ag):nu aa S V X (aG U (dG o f a b D cur pt) s)<=n8 aa V.W X o f D cur+sg V.er s:=by
 unfold dG;split
 ·rename_i h0;have:=Wv (aa:=aa) (S:=S) (V:=V) (X:=X) o f D 0 pt s;subst h0;unfold n8;split
  ·rename_i h;rw[if_pos h] at this;omega
  ·rename_i h;rw[if_neg h] at this;omega
 ·show 2+rV aa V.W X o f D cur (V.W.get (.nd cur 0))+sg V.er s<=_;have J:=H5 (aa:=aa) o f;show 2+rV aa V.W X o f D cur (V.W.nd cur 0)+sg V.er s<=_;unfold rV n8;split
  ·rw[if_pos rfl];omega
  ·omega
theorem Wy{k:Lk}(hk:e9 k)(s:ag):nu aa S V X (aG U (U.retired k) s)<=rK aa V.W X k:=by
 rcases hk with⟨o,f,a,b,D,nx,pt,rfl⟩|⟨a,rfl⟩
 ·have h1:=O8 (aa:=aa) (S:=S) (V:=V) (X:=X) o f b a D nx pt s;have u:=Qd V.er s;show nu aa S V X (aG U (dG o f b a D nx pt) s)<=9+n8 aa V.W X o f D nx;omega
 ·exact Nat.zero_le _
theorem O9{k:Lk}(hk:e9 k)(held:List Int)(s:ag)(gs stay:List (Int×Int)):nu aa S V X (du U k held s gs stay)<=4*gs.length+rK aa V.W X k:=by
 cases gs with
 |nil=>have:=Wy (aa:=aa) (S:=S) (V:=V) (X:=X) hk {s with gone:=stay};show nu aa S V X (aG U (U.retired k) {s with gone:=stay})<=_;omega
 |cons g gs=>show 4+4*gs.length+rK aa V.W X k<=_;rw[List.length_cons];omega
theorem Wz{k:Lk}(hk:e9 k)(held:List Int)(s:ag)(cs:List Ad):nu aa S V X (gG U k held s cs)<=cs.length+4*s.gone.length+rK aa V.W X k:=by
 cases cs with
 |nil=>have:=O9 (aa:=aa) (S:=S) (V:=V) (X:=X) hk held s s.gone [];show nu aa S V X (du U k held s s.gone [])<=_;omega
 |cons c cs=>show 1+cs.length+4*s.gone.length+rK aa V.W X k<=_;rw[List.length_cons];omega
theorem eX.GD(h:eX N aB V.W X aC g):(0:Int)∉X:=λ h0=>by have:=h.e8 0 h0;omega
theorem aht(bq:eX N aB V.W X aC g)(hN:N<=100){d:Int}(K:d∈X)(eM:X.Nodup)(c8:V.W.nd d 1%2=0):∃A B,X=A++d::B/\V.W.nd d 0=B.headD 0/\0<=B.headD 0/\B.headD 0<=N/\lL X (B.headD 0)=B.length:=by obtain⟨A,B,hX,_,_⟩:=DU K eM;have Z:=bq.link;rw[hX] at Z;have h1:=(vC Z).1;have u:=bq.even d K c8;have J:=bq.form d (.inl K);have h4:=J.1;have h5:=jb (V.W.nd d 0);have hr:=TZ (X:=B) (N:=N) (λ n hn=>bq.e8 n (by rw[hX];simp[hn]));refine⟨A,B,hX,by simp only at h1;omega,hr.1,hr.2,Gg (A:=A++[d]) (by rw[hX];simp) eM bq.GD⟩
theorem Wu(bq:eX N aB V.W X aC g)(hN:N<=100)(eM:X.Nodup){o:Or}(ho:lP N V.W X o)(f:Fk)(s:ag):nu aa S V X (aG U (dl o f) s)+2<=rB aa X o f+sg V.er s:=by
 obtain⟨A,B,hX,h1,u,J,h4⟩:=aht bq hN ho.x eM ho.ev;show 2+n8 aa V.W X o f o.d (av (V.W.nd o.d 0)).idx+sg V.er s+2<=_;have h5:(av (V.W.nd o.d 0)).idx=B.headD 0:=by rw[h1];exact F9 u (by omega)
 rw[h5];unfold n8 rB;rw[if_pos (show V.W.nd o.d 0=bt (B.headD 0) by rw[uA u (by omega)];exact h1),h4];have:X.length=A.length+1+B.length:=by rw[hX];simp;omega
 omega
variable{W':Ws}{be:List Int}{bg:dF}{k:Lk}{res:aJ}
theorem uM.PF(h:uM V.W W' X be g bg k res)(h1:bg.ret=g.ret)(u:Dd k->res.ok=false):bj Gw W' be=bj Gw V.W X:=by
 unfold bj;cases h with
 |same hX hr ho hm hn=>rw[hX,ho,hm]
 |put o v n D cur A B hk ge=>subst hk;have:=u trivial;rw[ge] at this;cases this
 |mark o D cur w hk ge=>subst hk;have:=u trivial;rw[ge] at this;cases this
 |cut cur hk ge Z T hr ho hm=>omega
theorem uM.aiH{o:Or}{v n D cur:Int}(h:uM V.W W' X be g bg (.cp o v n D cur) res)(h1:res.ok=true):bj Gw W' be=bj Gw V.W X+oE o+Gw/\∀m∈X,V.W.nd m 1≠o.o:=by
 unfold bj oE;cases h with
 |same hX hr ho hm hn=>have:=hn trivial;rw[h1] at this;cases this
 |put o' gU cO xq fj A B hk ge hX vc cv lh hr ho hm=>cases hk;refine⟨?_,lh⟩;rw[ho,hm,vc,hX,List.length_append,List.length_append,List.length_cons,show A.length+(B.length+1)=A.length+B.length+1 by omega,Nat.mul_succ];split<;>omega
 |mark o' xq fj aA hk=>cases hk
 |cut fj hk=>rcases hk with⟨_,_,_,_,_,_,hk⟩|⟨_,_,_,_,hk⟩<;>cases hk
theorem uM.aiG{o:Or}{D cur w:Int}(h:uM V.W W' X be g bg (.cm o D cur w) res)(h1:res.ok=true):bj Gw W' be=bj Gw V.W X+28:=by
 unfold bj;cases h with
 |same hX hr ho hm hn=>have:=hn trivial;rw[h1] at this;cases this
 |put o' gU cO xq fj A B hk=>cases hk
 |mark o' xq fj aA hk ge hX hr ho hm=>rw[hX,ho,hm];omega
 |cut fj hk=>rcases hk with⟨_,_,_,_,_,_,hk⟩|⟨_,_,_,_,hk⟩<;>cases hk
theorem uM.Xa(h:uM V.W W' X be g bg k res)(h1:bg.ret=g.ret+1):bj Gw W' be+45<=bj Gw V.W X/\1<=dT V.W X/\1<=dS V.W X:=by
 unfold bj;cases h with
 |same hX hr ho hm hn=>omega
 |put o' gU cO xq fj A B hk ge hX vc cv lh hr=>omega
 |mark o' xq fj aA hk ge hX hr=>omega
 |cut fj hk ge Z T hr ho hm=>have:=Nat.mul_le_mul_left Gw (show be.length<=X.length by omega);omega
end
section
variable{aa Gw S N aB:Nat}{l:aI}{V:Vw}{X:List Int}{aC:Int->Prop}{P:Int->Int->Prop}{g:dF}
theorem agW(hN:N<=100)(hS:S<=3){k:Lk}(s:ag)(bq:eX N aB V.W X aC g)(ho:Hv l S N V X g aC P k)(aF:cJ ⟨.at_ k,s⟩)(um:2*g.ret+dT V.W X+dS V.W X<=12)(Fq:s.gone.length<=g.ret)(hG:∀o v n D cur,k=.cp o v n D cur->aa=Gw\/∃m∈X,V.W.nd m 1=o.o):
 nu aa S {V with W:=(br V.W (bh k)).1} (cM V.W X g k).1 (aG U (cZ k s.made (br V.W (bh k)).2) s.up)+bj Gw (br V.W (bh k)).1 (cM V.W X g k).1<cK aa V.W X k+sg V.er s+bj Gw V.W X:=by
 have jj:∀{i n},PD N V.W X P i n->n∈X\/aC n:=λ h=>h.at_ ho.hP
 have pl:∀{n:Int},0<=n->n<=N->bt n=n:=λ h0 h1=>uA h0 (by omega)
 have hk:=ho.kl;have eM:=ho.nd;have iE:=V1 hN bq ho aF;have an:∀{o:Or}(_:lP N V.W X o)(f:Fk)(s:ag),nu aa S V X (aG U (dl o f) s)+2<=rB aa X o f+sg V.er s:=λ ho f s=>Wu bq hN eM ho f s
 have hL:∀{D cur:Int},(D∈X\/aC D)->1<=cur->cur<=N->Fr V.W D cur->∃A B,X=A++cur::B/\cur∈X/\lL X cur=B.length+1/\V.W.nd cur 0%65536=B.headD 0/\lL X (B.headD 0)=B.length:=by
  intro D cur G h0 h1 hf;have hf:V.W.nd D 0=cur:=by rw[<-pl (show 0<=cur by omega) h1];exact hf
  obtain⟨A,C,T⟩:=DW bq eM G hf (by omega) (by omega);obtain⟨B,rfl,oa⟩:=T.oz (by omega);have hX:=T.eq;have Z:=bq.link;rw[hX] at Z;exact⟨A,B,hX,oa,Gg hX eM bq.GD,(vC Z).1,Gg (A:=A++[cur]) (by rw[hX];simp) eM bq.GD⟩
 have e3:∀(o:Or)(f:Fk),3<=eF aa o f:=λ o f=>H5 o f
 cases k with
 |ls o f a b D cur w t=>
  obtain⟨h1,u,J,h4⟩:=hk;show nu aa S V X (aG U (if V.W.nd D 0=bt cur then .at_ (.lo o f a b D cur w t s.made) else dl o f) s.up)+bj Gw V.W X<rV aa V.W X o f D cur w+sg V.er s+bj Gw V.W X
  by_cases F:V.W.nd D 0=bt cur
  ·rw[if_pos F];show uu aa V.W X o f D cur w+sg V.er s+_<_;have:=e3 o f;obtain⟨A,B,_,_,e1,_,_⟩:=hL (jj h1.pp) h1.c1 h1.cN F;unfold uu rV;rw[if_pos (show Fr V.W D cur from F)]
   by_cases hw:V.W.nd cur 0=w
   ·rw[if_pos hw,if_pos ⟨F,hw⟩];omega
   ·rw[if_neg hw,if_neg (λ h=>hw h.2)];omega
  ·rw[if_neg F];have:=an h1.or f s.up;have e:sg V.er s.up=sg V.er s:=rfl;unfold rV;rw[if_neg (show¬Fr V.W D cur from F)];omega
 |lo o f a b D cur w t kk=>
  obtain⟨h1,u,J,h4⟩:=hk;have hi:=jb w;have fD:=u.2;have ac7:=e3 o f;have e:sg V.er s.up=sg V.er s:=rfl;show nu aa S V X (aG U (if(av w).mark then .at_ (.cu o f a b D cur w) else if V.W.nd cur 1<o.o then dG o f b (3-a-b) cur (av w).idx t else if V.W.nd cur 1=o.o then eU o f D cur w t else d9 o f D cur kk) s.up)+bj Gw V.W X<uu aa V.W X o f D cur w+sg V.er s+bj Gw V.W X;have fS:Fr V.W D cur->1<=lL X cur:=λ hf=>by
   obtain⟨A,B,_,_,e1,_,_⟩:=hL (jj h1.pp) h1.c1 h1.cN hf;omega
  by_cases hm:(av w).mark=true
  ·rw[if_pos hm];show wf aa V.W X o f D cur+sg V.er s+_<_;unfold wf uu
   by_cases hf:Fr V.W D cur
   ·have:=fS hf;rw[if_pos hf,if_pos ⟨hf,h4 hm⟩];omega
   ·rw[if_neg hf,if_neg (λ h=>hf h.1)];omega
  ·rw[if_neg hm];have hw:=u.plain.1 hm
   by_cases aY:V.W.nd cur 1<o.o
   ·rw[if_pos aY];have h5:=O8 (aa:=aa) (S:=S) (V:=V) (X:=X) o f b (3-a-b) cur (av w).idx t s.up;have lx:cur≠0:=by have:=h1.c1;omega
    have h6:=Gh X (av w).idx
    by_cases Jg:V.W.nd cur 0=w
    ·have h7:Fr V.W cur (av w).idx:=by
      show V.W.nd cur 0=_;rw[Jg,pl hi.1 fD];exact hw
     unfold n8 at h5;rw[if_pos h7] at h5;unfold uu
     by_cases hf:Fr V.W D cur
     ·obtain⟨A,B,_,_,e1,e2,e3⟩:=hL (jj h1.pp) h1.c1 h1.cN hf;rw[if_pos ⟨hf,Jg⟩];rw[<-e2,Jg,show w%65536=(av w).idx by omega] at e3;omega
     ·rw[if_neg (λ h=>hf h.1)];unfold rB;omega
    ·unfold uu;rw[if_neg (λ h=>Jg h.2)];unfold n8 at h5;split at h5
     ·unfold rB;omega
     ·omega
   ·rw[if_neg aY]
    by_cases he:V.W.nd cur 1=o.o
    ·rw[if_pos he];have h5:=ahR (aa:=aa) (S:=S) (V:=V) (X:=X) o f D cur w t s.up;unfold uu
     by_cases hf:Fr V.W D cur/\V.W.nd cur 0=w
     ·have:=fS hf.1;rw[if_pos hf] at h5⊢;omega
     ·rw[if_neg hf] at h5⊢;omega
    ·rw[if_neg he];have h5:=Wv (aa:=aa) (S:=S) (V:=V) (X:=X) o f D cur kk s.up;unfold uu
     by_cases hf:Fr V.W D cur
     ·have:=fS hf;rw[if_pos hf] at h5;split
      ·omega
      ·unfold rB;omega
     ·rw[if_neg hf] at h5;rw[if_neg (λ h=>hf h.1)];omega
 |cu o f a b D cur w=>
  obtain⟨h1,u,J,h4,h5⟩:=hk;have hw:=u.mark.1 h4;have hi:=jb w;have fD:=u.2;have ac7:=e3 o f;have e0:bt cur=cur:=pl (by have:=h1.c1;omega) h1.cN;have jT:bt (av w).idx=(av w).idx:=pl hi.1 fD
  by_cases F:V.W.nd D 0=cur
  ·have e1:br V.W (bh (.cu o f a b D cur w))=(V.W.put (bM D) (av w).idx,⟨cur,true⟩):=by simp only[bh,br,Ws.get,e0,jT,F,if_true]
   have e2:cM V.W X g (.cu o f a b D cur w)=(X.erase cur,{g with ret:=g.ret+1}):=by simp only[cM,Ws.get,e0,F,if_true]
   rw[e1,e2] at iE⊢;obtain⟨c1,c2,c3⟩:=iE.Xa (Gw:=Gw) rfl;have c1:bj Gw (V.W.put (bM D) (av w).idx) (X.erase cur)+45<=bj Gw V.W X:=c1;have hf:Fr V.W D cur:=by show _=bt cur;rw[e0];exact F
   obtain⟨oa,kA,_,_,A,B,T,f5,Mr⟩:=vW bq hN eM ho.dx (jj h1.pp) h1.c1 h1.cN F (by rw[h5];exact hw) hi.1 fD (lK:=aC) (λ n hn=>.inl hn);have hX:=T.eq;have el:=Gg hX eM bq.GD;have ab6:=Gg f5 (eM.erase cur) (λ h0=>bq.GD (List.mem_of_mem_erase h0));rw[Mr] at ab6;have ly:Fr (V.W.put (bM D) (av w).idx) D (av w).idx:=by show(V.W.put (bM D) (av w).idx).nd D 0=_;rw[jT,l7,if_pos ⟨rfl,rfl⟩]
   show 2+3*S+4*(s.gone.length+1)+(9+n8 aa (V.W.put (bM D) (av w).idx) (X.erase cur) o f D (av w).idx)+bj Gw (V.W.put (bM D) (av w).idx) (X.erase cur)<wf aa V.W X o f D cur+sg V.er s+bj Gw V.W X;unfold n8 wf;rw[if_pos hf,if_pos ly];simp only[List.headD_cons,List.length_cons] at el;omega
  ·have e1:br V.W (bh (.cu o f a b D cur w))=(V.W,⟨V.W.nd D 0,false⟩):=by simp only[bh,br,Ws.get,e0,F,if_false]
   have e2:cM V.W X g (.cu o f a b D cur w)=(X,g):=by simp only[cM,Ws.get,e0,F,if_false]
   rw[e1,e2];have:=an h1.or f s.up;have e:sg V.er s.up=sg V.er s:=rfl;show nu aa S V X (aG U (dl o f) s.up)+bj Gw V.W X<wf aa V.W X o f D cur+sg V.er s+bj Gw V.W X;unfold wf;rw[if_neg (show¬Fr V.W D cur by show¬_=bt cur;rw[e0];exact F)];omega
 |gv o cur pt=>have:=GJ (aa:=aa) (S:=S) (V:=V) (X:=X) ⟨V.W.nd cur 2,true,0,pt,[]⟩ s.up;show nu aa S V X (aG U (.bn (.fi ⟨V.W.nd cur 2,true,0,pt,[]⟩)) s.up)+bj Gw V.W X<4+sg V.er s+bj Gw V.W X;omega
 |p1 o v n D cur=>
  have G:=iE.PF (Gw:=Gw) rfl (λ h=>absurd h id);have G:bj Gw (V.W.fF n 1 o.o) X=bj Gw V.W X:=G;show 2+hd aa (V.W.fF n 1 o.o) X o D cur+sg V.er s+bj Gw (V.W.fF n 1 o.o) X<3+hd aa V.W X o D cur+sg V.er s+bj Gw V.W X;have e:hd aa (V.W.fF n 1 o.o) X o D cur=hd aa V.W X o D cur:=by unfold hd Fr;rw[mY,if_neg (λ h:D=n/\(0:Int)=1=>by omega)]
  omega
 |p2 o v n D cur=>
  have G:=iE.PF (Gw:=Gw) rfl (λ h=>absurd h id);have G:bj Gw (V.W.fF n 2 v) X=bj Gw V.W X:=G;show 1+hd aa (V.W.fF n 2 v) X o D cur+sg V.er s+bj Gw (V.W.fF n 2 v) X<2+hd aa V.W X o D cur+sg V.er s+bj Gw V.W X;have e:hd aa (V.W.fF n 2 v) X o D cur=hd aa V.W X o D cur:=by unfold hd Fr;rw[mY,if_neg (λ h:D=n/\(0:Int)=2=>by omega)]
  omega
 |p0 o v n D cur=>
  obtain⟨h1,u,J,h4⟩:=hk;have dP:=ho.mi n (by simp[ed]);obtain⟨j,hj⟩:=h1.pp;have G:=iE.PF (Gw:=Gw) rfl (λ h=>absurd h id);have G:bj Gw (V.W.fF n 0 (bt cur)) X=bj Gw V.W X:=G;show hd aa (V.W.fF n 0 (bt cur)) X o D cur+sg V.er s+bj Gw (V.W.fF n 0 (bt cur)) X<1+hd aa V.W X o D cur+sg V.er s+bj Gw V.W X;have e:hd aa (V.W.fF n 0 (bt cur)) X o D cur=hd aa V.W X o D cur:=by
   unfold hd Fr;have aW:¬(D=n/\(0:Int)=0):=λ h=>by
    rcases jj hj with G|G
    ·exact dP.1 (h.1▸G)
    ·exact dP.2 (h.1▸G)
   rw[mY,if_neg aW]
  omega
 |cp o v n D cur=>
  obtain⟨h1,u,J,h4,h5⟩:=hk
  by_cases F:V.W.nd D 0=bt cur
  ·have e1:br V.W (bh (.cp o v n D cur))=(V.W.put (bM D) (bt n),⟨bt cur,true⟩):=by simp only[bh,br,Ws.get,F,if_true]
   rw[e1] at iE⊢;obtain⟨c1,c2⟩:=iE.aiH (Gw:=Gw) rfl;have c3:aa=Gw:=(hG o v n D cur rfl).elim id λ⟨m,hm,he⟩=>absurd he (c2 m hm)
   have c1:bj Gw (V.W.put (bM D) (bt n)) (cM V.W X g (.cp o v n D cur)).1=bj Gw V.W X+oE o+Gw:=c1;generalize(cM V.W X g (.cp o v n D cur)).1=be at c1⊢;have:=GJ (aa:=aa) (S:=S) (V:={V with W:=V.W.put (bM D) (bt n)}) (X:=be) (nL s.made n) s.up;show nu aa S {V with W:=V.W.put (bM D) (bt n)} be (aG U (.bn (.fi (nL s.made n))) s.up)+bj Gw (V.W.put (bM D) (bt n)) be<hd aa V.W X o D cur+sg V.er s+bj Gw V.W X;unfold hd;rw[if_pos F];omega
  ·have e1:br V.W (bh (.cp o v n D cur))=(V.W,⟨V.W.nd D 0,false⟩):=by simp only[bh,br,Ws.get,F,if_false]
   have e2:cM V.W X g (.cp o v n D cur)=(X,g):=by simp only[cM,Ws.get,F,if_false]
   rw[e1,e2];have:=an h1.or (.put v n) s.up;rw[PM] at this;have e:sg V.er s.up=sg V.er s:=rfl;show nu aa S V X (aG U (dl o (.put v n)) s.up)+bj Gw V.W X<hd aa V.W X o D cur+sg V.er s+bj Gw V.W X;unfold hd;rw[if_neg F];omega
 |cm o D cur w=>
  obtain⟨h1,u,J,uh⟩:=hk
  by_cases F:V.W.nd cur 0=w
  ·have e1:br V.W (bh (.cm o D cur w))=(V.W.fF cur 0 (pk (av w).idx),⟨w,true⟩):=by simp only[bh,br,Ws.get,F,if_true];rfl
   rw[e1] at iE⊢;have c1:=iE.aiG (Gw:=Gw) rfl;have c1:bj Gw (V.W.fF cur 0 (pk (av w).idx)) X=bj Gw V.W X+28:=c1;show oT (V.W.fF cur 0 (pk (av w).idx)) X D cur+sg V.er s+bj Gw (V.W.fF cur 0 (pk (av w).idx)) X<(if V.W.nd cur 0=w then 29+oT V.W X D cur else 1+rB aa X o .del)+sg V.er s+bj Gw V.W X;have e:oT (V.W.fF cur 0 (pk (av w).idx)) X D cur=oT V.W X D cur:=by
    unfold oT Fr;have aW:¬(D=cur/\(0:Int)=0):=λ h=>by
     have h6:=h1.kc;have G:V.W.nd D 1<o.o:=h1.kp;rw[h.1] at G;omega
    rw[mY,if_neg aW]
   rw[if_pos F];omega
  ·have e1:br V.W (bh (.cm o D cur w))=(V.W,⟨V.W.nd cur 0,false⟩):=by simp only[bh,br,Ws.get,F,if_false]
   rw[e1];have:=an h1.or .del s.up;have e:sg V.er s.up=sg V.er s:=rfl;show nu aa S V X (aG U (dl o .del) s.up)+bj Gw V.W X<(if V.W.nd cur 0=w then 29+oT V.W X D cur else 1+rB aa X o .del)+sg V.er s+bj Gw V.W X;rw[if_neg F];omega
 |cd o D cur nx at_=>
  obtain⟨h1,u,J,h4⟩:=hk;have e0:bt cur=cur:=pl (by have:=h1.c1;omega) h1.cN;obtain⟨j,hj⟩:=h1.pp
  by_cases F:V.W.nd D 0=bt cur
  ·have e1:br V.W (bh (.cd o D cur nx at_))=(V.W.put (bM D) (bt nx),⟨bt cur,true⟩):=by simp only[bh,br,Ws.get,F,if_true]
   have e2:cM V.W X g (.cd o D cur nx at_)=(X.erase cur,{g with ret:=g.ret+1}):=by simp only[cM,Ws.get,F,if_true]
   rw[e1,e2] at iE⊢;obtain⟨c1,c2,c3⟩:=iE.Xa (Gw:=Gw) rfl;have c1:bj Gw (V.W.put (bM D) (bt nx)) (X.erase cur)+45<=bj Gw V.W X:=c1;have h6:=O7 (aa:=aa) (S:=S) (V:={V with W:=V.W.put (bM D) (bt nx)}) (X:=X.erase cur) (.rx cur at_) s.up (.inr ⟨_,_,rfl⟩);have h7:=JR s.up;have h8:kC S s.up (.rx cur at_)=2+3*S+4*(s.gone.length+1):=rfl;show nu aa S {V with W:=V.W.put (bM D) (bt nx)} (X.erase cur) (dJ U (.rx cur at_) s.up)+bj Gw (V.W.put (bM D) (bt nx)) (X.erase cur)<oT V.W X D cur+sg V.er s+bj Gw V.W X;unfold oT;rw[if_pos F];omega
  ·have e1:br V.W (bh (.cd o D cur nx at_))=(V.W,⟨V.W.nd D 0,false⟩):=by simp only[bh,br,Ws.get,F,if_false]
   have e2:cM V.W X g (.cd o D cur nx at_)=(X,g):=by simp only[cM,Ws.get,F,if_false]
   rw[e1,e2];have:=an h1.or (.fin at_) s.up;have e:sg V.er s.up=sg V.er s:=rfl;show nu aa S V X (aG U (dl o (.fin at_)) s.up)+bj Gw V.W X<oT V.W X D cur+sg V.er s+bj Gw V.W X;unfold oT;rw[if_neg F];unfold rB at this;simp only[eF] at this;omega
 |_=>exact absurd aF id
variable{qs:List (Q Lk)}{aw:List Int}{w:Nat}{q:Q Lk}
theorem ahQ(hN:N<=100)(hS:S<=3)(hI:Inv (a7 N) l S N aB V qs aw X g)(hq:qs[w]?=some q)(hf:q.R.gX)(aF:cJ q)(um:2*g.ret+dT V.W X+dS V.W X<=12)(Fq:bO N q<=g.ret)(hG:∀o v n D cur,q.R=.at_ (.cp o v n D cur)->aa=Gw\/∃m∈X,V.W.nd m 1=o.o):
 nu aa S (act V (aS U w q.R)).1 (hc (a7 N) V.W X g q.R).1 (tell U S q (act V (aS U w q.R)).2)+bj Gw (act V (aS U w q.R)).1.W (hc (a7 N) V.W X g q.R).1<nu aa S V X q+bj Gw V.W X:=by
 have Z:=hI.loc w _ hq;have bq:eX N aB V.W X (Dq (a7 N) qs) g:=hI.si;have amx:w<S:=by have:=(List.getElem?_eq_some_iff.1 hq).1;have:=hI.n;omega
 obtain⟨R,s⟩:=q;have ct:=Z.R;have alu:sg V.er s.up=sg V.er s:=rfl;have SW:∀(V:Vw)(o:bd)(s:ag),nu aa S V X (aG U (.bn (.fi o)) s)<=3:=λ V o s=>GJ o s
 cases R with
 |fin o=>exact absurd hf id
 |bn k=>exact absurd hf id
 |at_ k=>
  have ho:=vO hN hI hq;have e1:act V (aS U w (.at_ k))=({V with W:=(br V.W (bh k)).1},(br V.W (bh k)).2):=ho.act;rw[e1];refine agW hN hS s bq ho aF um ?_ (λ o v n D cur e=>hG o v n D cur (by rw[e]));have:bO N ⟨.at_ k,s⟩=(iL k).length+s.gone.length:=gB _ _ λ _=>rfl
  omega
 |t1 k=>
  obtain⟨o,v,D,cur,rfl⟩:=aF;show nu aa S V X (if(av V.fr).idx=0 then aG U (.bn (.fi _)) s.up else⟨.t2 (.tk o v D cur) V.fr,s.up⟩)+bj Gw V.W X<5+(3+hd aa V.W X o D cur)+sg V.er s+bj Gw V.W X;split
  ·have:=SW V ⟨0,false,8,s.made,[]⟩ s.up;show nu aa S V X (aG U (.bn (.fi ⟨0,false,8,s.made,[]⟩)) s.up)+bj Gw V.W X<_;omega
  ·show(if V.fr=V.fr then 4 else 7)+(3+hd aa V.W X o D cur)+sg V.er s+bj Gw V.W X<_;rw[if_pos rfl];omega
 |t2 k f=>show(if V.fr=f then 3 else 6)+tK aa V.W X k+sg V.er s+bj Gw V.W X<(if V.fr=f then 4 else 7)+tK aa V.W X k+sg V.er s+bj Gw V.W X;split<;>omega
 |t3 k f lk=>
  by_cases F:V.fr=f
  ·have e1:act V (aS U w (.t3 k f lk))=({V with fr:=eh (ii (av f) lk)},⟨V.fr,true⟩):=by simp only[aS,act,Vw.get,F,if_true];rfl
   simp only[e1];show 2+tK aa V.W X k+sg V.er s+bj Gw V.W X<(if V.fr=f then 3 else 6)+tK aa V.W X k+sg V.er s+bj Gw V.W X;rw[if_pos F];omega
  ·have e1:act V (aS U w (.t3 k f lk))=(V,⟨V.fr,false⟩):=by simp only[aS,act,Vw.get,F,if_false]
   simp only[e1];show 5+tK aa V.W X k+sg V.er s+bj Gw V.W X<(if V.fr=f then 3 else 6)+tK aa V.W X k+sg V.er s+bj Gw V.W X;rw[if_neg F];omega
 |t4 k n a=>show 1+tK aa V.W X k+sg V.er s+bj Gw V.W X<2+tK aa V.W X k+sg V.er s+bj Gw V.W X;omega
 |t5 k n a b=>obtain⟨o,v,D,cur,rfl⟩:=aF;show 3+hd aa V.W X o D cur+sg V.er s+bj Gw V.W X<1+(3+hd aa V.W X o D cur)+sg V.er s+bj Gw V.W X;omega
 |g1 k i c=>
  have e1:act V (aS U w (.g1 k i c))=(V,⟨V.W.get c,true⟩):=by simp only[aS,act,CB ct.2.2.2.2.1]
  simp only[e1];show(if V.er=s.e i then 1+gK aa V.W X k (V.W.get c)+sg V.er s else 1+gK aa V.W X k (V.W.get c)+sg V.er s)+bj Gw V.W X<2+gK aa V.W X k (V.W.get c)+sg V.er s+bj Gw V.W X;split<;>omega
 |g2 k i c v a=>
  show nu aa S V X (if V.er=s.e i then aG U _ s.up else⟨.g3 k i c V.er,s.up⟩)+bj Gw V.W X<(if V.er=s.e i then 1+gK aa V.W X k v+sg V.er s else 1+gK aa V.W X k (V.W.get c)+sg V.er s)+bj Gw V.W X
  by_cases he:V.er=s.e i
  ·rw[if_pos he,if_pos he];rcases aF with⟨o,f,rfl⟩|⟨o,f,bF,D,cur,rfl,rfl⟩
   ·have:=O8 (aa:=aa) (S:=S) (V:=V) (X:=X) o f 0 1 o.d (av v).idx a s.up;show nu aa S V X (aG U (dG o f 0 1 o.d (av v).idx a) s.up)+bj Gw V.W X<1+n8 aa V.W X o f o.d (av v).idx+sg V.er s+bj Gw V.W X;omega
   ·show rV aa V.W X o f D cur v+sg V.er s+bj Gw V.W X<1+rV aa V.W X o f D cur v+sg V.er s+bj Gw V.W X;omega
  ·rw[if_neg he,if_neg he];show(if V.er=V.er/\V.er≠s.e i then gK aa V.W X k (V.W.get c)+sg V.er s else gK aa V.W X k (V.W.get c)+sg V.er s+6)+bj Gw V.W X<_;rw[if_pos ⟨rfl,he⟩];omega
 |g3 k i c er=>
  have h1:=ajS (er:=V.er) (x:=er) (s:=s) ct.2.2.1 ct.2.2.2.1;show 2+gK aa V.W X k (V.W.get c)+sg V.er (s.up.ej i er)+bj Gw V.W X<(if V.er=er/\V.er≠s.e i then gK aa V.W X k (V.W.get c)+sg V.er s else gK aa V.W X k (V.W.get c)+sg V.er s+6)+bj Gw V.W X
  by_cases he:V.er=er/\V.er≠s.e i
  ·rw[if_pos he];rw[if_neg he.2,if_pos he.1] at h1;omega
  ·rw[if_neg he];have:(if V.er=er then 0 else 3)<=3:=by split<;>omega
   omega
 |c k i=>
  obtain⟨h1,u,J,h4⟩:=aF;have h5:nz (s.up.ej i 0)<nz s:=ahU u J h1;have h6:=O7 (aa:=aa) (S:=S) (V:=V.put (.rv w i) 0) (X:=X) k (s.up.ej i 0) h4;have h7:kC S (s.up.ej i 0) k=kC S s k:=by have:(s.up.ej i 0).gone=s.gone:=PI _ _ _;cases k<;>simp only[kC,this]
  rw[h7] at h6;show nu aa S (V.put (.rv w i) 0) X (dJ U k (s.up.ej i 0))+bj Gw V.W X<nz s+kC S s k+bj Gw V.W X;omega
 |v1 k n=>show(if V.fr=V.fr then 5 else 8)+bj Gw V.W X<6+bj Gw V.W X;rw[if_pos rfl];omega
 |v2 k n f=>show(if V.fr=f then 4 else 7)+bj Gw V.W X<(if V.fr=f then 5 else 8)+bj Gw V.W X;split<;>omega
 |v3 k n f=>
  obtain⟨a,aT,rfl⟩:=aF
  by_cases F:V.fr=f
  ·have e1:act V (aS U w (.v3 (.sv a aT) n f))=({V with fr:=eh (ii (av f) n)},⟨V.fr,true⟩):=by simp only[aS,act,Vw.get,F,if_true];rfl
   simp only[e1];have:=SW {V with fr:=eh (ii (av f) n)} (yJ a aT) s.up;show nu aa S _ X (aG U (.bn (.fi (yJ a aT))) s.up)+bj Gw V.W X<(if V.fr=f then 4 else 7)+bj Gw V.W X;rw[if_pos F];omega
  ·have e1:act V (aS U w (.v3 (.sv a aT) n f))=(V,⟨V.fr,false⟩):=by simp only[aS,act,Vw.get,F,if_false]
   simp only[e1];show 6+bj Gw V.W X<(if V.fr=f then 4 else 7)+bj Gw V.W X;rw[if_neg F];omega
 |r1 k n=>show 1+3*S+4*(s.gone.length+1)+rK aa V.W X k+bj Gw V.W X<2+3*S+4*(s.gone.length+1)+rK aa V.W X k+bj Gw V.W X;omega
 |r2 k n er=>
  show nu aa S {V with er:=V.er+1} X (if(s.gone.length:Int)+1<2*(S:Int) then aG U (U.retired k) _ else gG U k [] {s.up with gone:=s.gone++[(n,er)]} (nP 0 S))+bj Gw V.W X<1+3*S+4*(s.gone.length+1)+rK aa V.W X k+bj Gw V.W X;split
  ·have:=Wy (aa:=aa) (S:=S) (V:={V with er:=V.er+1}) (X:=X) aF {s.up with gone:=s.gone++[(n,er)]};have:nu aa S {V with er:=V.er+1} X (aG U (U.retired k) {s.up with gone:=s.gone++[(n,er)]})<=rK aa V.W X k:=this;refine Nat.lt_of_le_of_lt (Nat.add_le_add_right this _) ?_;omega
  ·have:=Wz (aa:=aa) (S:=S) (V:={V with er:=V.er+1}) (X:=X) aF [] {s.up with gone:=s.gone++[(n,er)]} (nP 0 S);rw[PZ] at this;simp only[List.length_append,List.length_cons,List.length_nil] at this;refine Nat.lt_of_le_of_lt (Nat.add_le_add_right this _) ?_;show 3*S+4*(s.gone.length+(0+1))+rK aa V.W X k+_<_;omega
 |rs k held c cs=>have:=Wz (aa:=aa) (S:=S) (V:=V) (X:=X) aF (held++[V.get c]) s.up cs;have hg:s.up.gone=s.gone:=rfl;rw[hg] at this;show nu aa S V X (gG U k (held++[V.get c]) s.up cs)+bj Gw V.W X<1+cs.length+4*s.gone.length+rK aa V.W X k+bj Gw V.W X;omega
 |s1 k held y gs stay=>
  show nu aa S V X (if held.any (ja (kM (V.bi y.1)) y.2)=true then du U k held s.up gs (stay++[y]) else⟨.w1 k held y gs stay,s.up⟩)+bj Gw V.W X<4+4*gs.length+rK aa V.W X k+bj Gw V.W X;split
  ·have:=O9 (aa:=aa) (S:=S) (V:=V) (X:=X) aF held s.up gs (stay++[y]);omega
  ·show 3+4*gs.length+rK aa V.W X k+bj Gw V.W X<_;omega
 |w1 k held y gs stay=>show(if V.fr=V.fr then 2 else 5)+4*gs.length+rK aa V.W X k+bj Gw V.W X<3+4*gs.length+rK aa V.W X k+bj Gw V.W X;rw[if_pos rfl];omega
 |w2 k held y gs stay f=>show(if V.fr=f then 1 else 4)+4*gs.length+rK aa V.W X k+bj Gw V.W X<(if V.fr=f then 2 else 5)+4*gs.length+rK aa V.W X k+bj Gw V.W X;split<;>omega
 |w3 k held y gs stay f=>
  by_cases F:V.fr=f
  ·have e1:act V (aS U w (.w3 k held y gs stay f))=({V with fr:=eh (ii (av f) y.1)},⟨V.fr,true⟩):=by simp only[aS,act,Vw.get,F,if_true];rfl
   simp only[e1];have:=O9 (aa:=aa) (S:=S) (V:={V with fr:=eh (ii (av f) y.1)}) (X:=X) aF held s.up gs stay;have:nu aa S {V with fr:=eh (ii (av f) y.1)} X (du U k held s.up gs stay)<=4*gs.length+rK aa V.W X k:=this;show nu aa S _ X (du U k held s.up gs stay)+bj Gw V.W X<(if V.fr=f then 1 else 4)+4*gs.length+rK aa V.W X k+bj Gw V.W X;rw[if_pos F];omega
  ·have e1:act V (aS U w (.w3 k held y gs stay f))=(V,⟨V.fr,false⟩):=by simp only[aS,act,Vw.get,F,if_false]
   simp only[e1];show 3+4*gs.length+rK aa V.W X k+bj Gw V.W X<(if V.fr=f then 1 else 4)+4*gs.length+rK aa V.W X k+bj Gw V.W X;rw[if_neg F];omega
end
def fz(h:Hq):Bool:=match h.ph with
 |.sz|.ld _ _ _|.cb _ _ _ _=>true
 |.li _ (_::_) _ _=>true
 |.li _ [] _ _=>(cC h.q.R).isNone
 |_=>false
def iQ(h:Hq):Option Int:=match h.ph with
 |.cb _ _ c _=>some c
 |.li _ (c::_) _ _=>(gm h.q.R).bind λ x=>if x.2.2=0 then some c else none
 |_=>none
def wF(h:Hq):Option Int:=match h.ph with
 |.cb _ _ c _=>some c
 |.li _ (c::_) _ _=>some c
 |_=>none
def one(b:Bool):Nat:=if b then 1 else 0
def tr(p:bU)(W:Ws):Prop:=∀c,0<c->c<p.b->W.ob (aQ p c)≠0->W.ob (aQ p (eH c))≠0
structure uS(p:bU)(W W':Ws)(X be:List Int)(g bg:dF)(h bD:Hq):Prop where
 mono:∀c,0<=c->c<p.b->W.ob (aQ p c)≠0->W'.ob (aQ p c)≠0
 par:tr p W'
 head:∀c,wF bD=some c->W'.ob (aQ p (eH c))≠0
 Cw:∀n∈be,W'.nd n 1%2=0->(n∈X/\W.nd n 1=W'.nd n 1)\/∃c,0<=c/\c<p.b/\W'.nd n 1=fv c/\iQ bD=some c
 Er:∀c,iQ h=some c->iQ bD=some c\/W'.ob (aQ p c)≠0
 jS:2*bg.ret+dT W' be+dS W' be+one (fz bD)<=2*g.ret+dT W X+dS W X+one (fz h)
 dead:bO (nQ p) bD.q+g.ret<=bO (nQ p) h.q+bg.ret
 ret:g.ret<=bg.ret
theorem Pg(b:Bool):one b<=1:=by unfold one;split<;>omega
section
variable{p:bU}{aB:Nat}{V:Vw}{qs:List (Q Lk)}{aw X:List Int}{g:dF}{w:Nat}{op:a9}{h:Hq}
theorem Mx(op:a9):k6 (i5 op)=none:=by
 unfold i5;split
 ·rfl
 ·split<;>rfl
theorem WE{gone:List (Int×Int)}(l:aI)(op:a9)(aU:List Int)(d:Int):cC (d6 (eu op aU d) (cB l op aU d) gone).R=none/\gm (d6 (eu op aU d) (cB l op aU d) gone).R=none:=by have h:=Mx (cB l op aU d);refine⟨h,?_⟩;show(k6 (i5 (cB l op aU d))).map _=none;rw[h];rfl
theorem aan{l:aI}{z:Int}{al:List Int}{n:Int}{gone:List (Int×Int)}{made:Nat}:fz (iO l op z al n gone made)=true/\iQ (iO l op z al n gone made)=none/\wF (iO l op z al n gone made)=al.head?:=by
 obtain⟨h1,u⟩:=WE (gone:=gone) l op al n;cases al with
 |nil=>refine⟨?_,rfl,rfl⟩;show(cC (d6 (eu op [] n) (cB l op [] n) gone).R).isNone=true;rw[h1];rfl
 |cons c al=>refine⟨rfl,?_,rfl⟩;show((gm (d6 (eu op (c::al) n) (cB l op (c::al) n) gone).R).bind λ x=>if x.2.2=0 then some c else none)=none;rw[u];rfl
theorem aka{N:Nat}(o:Or)(op:a9)(gone:List (Int×Int)):bO N (d6 o op gone)=gone.length:=by
 have:bO N (d6 o op gone)=0+gone.length:=gB _ _ λ _=>rfl
 omega
theorem Oo{N:Nat}{q:Q Lk}(h:rR q):bO N q=q.s.gone.length:=by
 obtain⟨o,ho⟩:=h;obtain⟨R,s⟩:=q;simp only at ho;subst ho;have:bO N ⟨.fin o,s⟩=0+s.gone.length:=gB _ _ λ _=>rfl
 show _=s.gone.length;omega
theorem BA(z:Int)(aU:List Int)(d:Int)(aN:Nat)(q:Q Lk)(made:Nat):(ec op z aU d aN q made).q=q:=by
 unfold ec;split
 ·unfold kw;cases aU with
  |nil=>simp only;split<;>rfl
  |cons c al=>simp only;split<;>rfl
 ·rfl
theorem agB{z d:Int}{aN:Nat}{q:Q Lk}{made:Nat}:fz (ec op z [] d aN q made)=true->(cC q.R).isNone=true:=by
 unfold ec;split
 ·unfold kw;simp only;split<;>intro h<;>cases h
 ·exact λ h=>h
theorem agA{z:Int}{aU:List Int}{d:Int}{aN:Nat}{q:Q Lk}{made:Nat}{c:Int}:wF (ec op z aU d aN q made)=some c->aU.head?=some c:=by
 unfold ec;split
 ·unfold kw;cases aU with
  |nil=>simp only;split<;>intro h<;>cases h
  |cons c al=>simp only;split<;>first|(intro h;cases h;done)|exact λ h=>h
 ·cases aU with
  |nil=>intro h;cases h
  |cons c al=>exact λ h=>h
theorem VN{z c:Int}{al:List Int}{d:Int}{aN:Nat}{q:Q Lk}{made:Nat}{v:Int}{b:Bool}(h:gm q.R=some (v,b,0)):iQ (ec op z (c::al) d aN q made)=some c:=by
 unfold ec;split
 ·rename_i o ho;rw[ho] at h;have h:o.err=0:=by
   have:some (o.val,o.is,o.err)=some (v,b,0):=h;injection this with this
   injection this with _ this
   injection this
  unfold kw;simp only;rw[if_neg (by omega)]
  rfl
 ·show((gm q.R).bind λ x=>if x.2.2=0 then some c else none)=some c;rw[h];rfl
theorem RO{z c:Int}{aU:List Int}{d:Int}{aN:Nat}{q:Q Lk}{made:Nat}(h:iQ ⟨.li z aU d aN,q,made⟩=some c):∃al v b,aU=c::al/\gm q.R=some (v,b,0):=by
 cases aU with
 |nil=>cases h
 |cons aT al=>
  have h:((gm q.R).bind λ x=>if x.2.2=0 then some aT else none)=some c:=h;cases ho:gm q.R with
  |none=>rw[ho] at h;cases h
  |some x=>
   obtain⟨v,b,e⟩:=x;rw[ho] at h;have h:(if e=0 then some aT else none)=some c:=h
   by_cases h0:e=0
   ·rw[if_pos h0] at h;cases h;exact⟨al,v,b,rfl,by rw[h0]⟩
   ·rw[if_neg h0] at h;cases h
theorem B2{W':Ws}{bD:Hq}(hn:∀n i,W'.nd n i=V.W.nd n i)(hm:∀c,0<=c->c<p.b->V.W.ob (aQ p c)≠0->W'.ob (aQ p c)≠0)(kG:tr p W')(hh:∀c,wF bD=some c->W'.ob (aQ p (eH c))≠0)(F:∀c,iQ h=some c->iQ bD=some c\/W'.ob (aQ p c)≠0)(Ob:fz bD=true->fz h=true)(K:bO (nQ p) bD.q=bO (nQ p) h.q):uS p V.W W' X X g g h bD:=by
 refine⟨hm,kG,hh,λ n lc he=>.inl ⟨lc,by rw[hn]⟩,F,?_,by omega,Nat.le_refl _⟩;have e1:dT W' X=dT V.W X:=List.countP_congr λ m hm=>by rw[hn]
 have e2:dS W' X=dS V.W X:=List.countP_congr λ m hm=>by rw[hn]
 rw[e1,e2];unfold one;cases h1:fz bD
 ·simp
 ·rw[Ob h1];exact Nat.le_refl _
theorem Ly{W':Ws}{z n c0:Int}{al:List Int}{q:Q Lk}(hq:h.q=q)(ym:rR q)(T:s9 op z c0 al)(hw:W'.ob (aQ p c0)≠0)(hn:∀n i,W'.nd n i=V.W.nd n i)(hm:∀c,0<=c->c<p.b->V.W.ob (aQ p c)≠0->W'.ob (aQ p c)≠0)(kG:tr p W')(F:∀c,iQ h=some c->W'.ob (aQ p c)≠0)(Ob:fz h=true)(qN:Nat):uS p V.W W' X X g g h (iO (aO p) op z al n q.s.gone qN):=by
 obtain⟨a1,a2,a3⟩:=aan (l:=aO p) (op:=op) (z:=z) (al:=al) (n:=n) (gone:=q.s.gone) (made:=qN);refine B2 hn hm kG (λ c F=>?_) (λ c h1=>.inr (F c h1)) (λ _=>Ob) ?_
 ·rw[a3] at F;cases al with
  |nil=>cases F
  |cons c1 al=>
   obtain rfl:c1=c:=by simpa using F
   rw[<-T.1];exact hw
 ·rw[hq,Oo ym];exact aka _ _ _
theorem WO(G:dZ p)(hI:Inv (a7 (nQ p)) (aO p) p.want.length (nQ p) aB V qs aw X g)(hq:qs[w]?=some h.q)(bv:kT op)(hk:kr p V.W X op h)(hB:v4 p V.W X)(fe:∀o,h.ph≠.fin o)(kG:tr p V.W)(hh:∀c,wF h=some c->V.W.ob (aQ p (eH c))≠0):
 uS p V.W (cF p w op h V).1.W X (ot (nQ p) V.W X g h).1 g (ot (nQ p) V.W X g h).2 h (eW (aO p) p.want.length op h (cF p w op h V).2):=by
 have hS:=yX G;have nt:=iX G;have hN:=pm G;obtain⟨ph,q,made⟩:=h;have hq:qs[w]?=some q:=hq;cases ph with
 |sz=>
  have hz:=hB.sz;have oy:=hz.e8 G;have ht:eW (aO p) p.want.length op ⟨.sz,q,made⟩ ⟨V.W.ob (cT p),true⟩=⟨.ld (V.W.ob (cT p)) [] (op.a%V.W.ob (cT p)),q,made+1⟩:=by
   show(if V.W.ob (cT p)<1\/p.b<V.W.ob (cT p)\/qR (V.W.ob (cT p))=false then _ else _:Hq)=_;rw[if_neg];rintro(h|h|h)
   ·omega
   ·have:=hz.2;omega
   ·rw[Ka hz.1] at h;cases h
  show uS p V.W V.W X X g g _ (eW (aO p) p.want.length op ⟨.sz,q,made⟩ ⟨V.W.ob (cT p),true⟩);rw[ht];exact B2 (λ _ _=>rfl) (λ _ _ _ h=>h) kG (λ c h=>by cases h) (λ c h=>by cases h) (λ _=>rfl) rfl
 |ld z al b=>
  obtain⟨hz,hb,T,hi⟩:=hk;have oy:=hz.e8 G;have oZ:b<p.b:=by have:=hz.2;omega
  have ht:eW (aO p) p.want.length op ⟨.ld z al b,q,made⟩ ⟨V.W.ob (aQ p b),true⟩=if(av (V.W.ob (aQ p b))).idx≠0 then iO (aO p) op z al (av (V.W.ob (aQ p b))).idx q.s.gone (made+1) else if b=0 then⟨.fin rp,q,made+1⟩ else⟨.ld z (b::al) (eH b),q,made+1⟩:=rfl
  show uS p V.W V.W X X g g _ (eW (aO p) p.want.length op ⟨.ld z al b,q,made⟩ ⟨V.W.ob (aQ p b),true⟩);rw[ht];split
  ·rename_i aW;have hw:V.W.ob (aQ p b)≠0:=λ e=>aW (by rw[e];rfl)
   exact Ly rfl hi T hw (λ _ _=>rfl) (λ _ _ _ h=>h) kG (λ c h=>by cases h) rfl _
  ·split
   ·exact B2 (λ _ _=>rfl) (λ _ _ _ h=>h) kG (λ c h=>by cases h) (λ c h=>by cases h) (λ h=>by cases h) rfl
   ·exact B2 (λ _ _=>rfl) (λ _ _ _ h=>h) kG (λ c h=>by cases h) (λ c h=>by cases h) (λ _=>rfl) rfl
 |li z aU d aN=>
  obtain⟨hz,ht,K,⟨gone,ap,hR,nG,hm⟩,io,rJ⟩:=hk;have hR:q=_:=hR;have io:q.R.gX:=io;have Y:=Lr (q:=q) (by omega) hI hq;have vm:=Ls (q:=q) (by omega) hI hq io;have eN:=vL (l:=aO p) (aU:=aU) (d:=d) bv.1;have NL:=LR.facts (w:=(w:Int)) eN _ rfl nG;have aF:cJ q:=by rw[hR];exact NL.1
  have bL:ie (eu op aU d) (cB (aO p) op aU d) q.R:=by rw[hR];exact yL ap (xB _ _ _) ⟨rfl,B1 eN⟩
  have iE:KU (nQ p) p.want.length w V X g q:=Lp (by omega) hI hq io aF;have fC:bO (nQ p) (tell U p.want.length q (act V (aS U w q.R)).2)+g.ret<=bO (nQ p) q+(hc (a7 (nQ p)) V.W X g q.R).2.ret:=abz (by omega) hI hq io aF;have cW:∀x,cC q.R=some x->cC (tell U p.want.length q (act V (aS U w q.R)).2).R=some x:=λ x hx=>(BP aF hx).1
  have aeV:∀c,0<=c->c<p.b->V.W.ob (aQ p c)≠0->(act V (aS U w q.R)).1.W.ob (aQ p c)≠0:=λ c _ _ h=>by rw[vm];exact h
  have yr:tr p (act V (aS U w q.R)).1.W:=λ c h0 h1 u=>by rw[vm] at u⊢;exact kG c h0 h1 u
  have Be:(∃k,q.R=.at_ k/\Dd k)->cC q.R=none:=by rintro⟨k,h1,u⟩;rw[h1];cases k<;>first|exact absurd u id|rfl
  have um:g.ret<=(hc (a7 (nQ p)) V.W X g q.R).2.ret:=by
   cases iE with
   |own k hk h=>cases h<;>omega
   |vA hk hW hX=>rw[hX];exact Nat.le_refl _
  show uS p V.W (act V (aS U w q.R)).1.W X (hc (a7 (nQ p)) V.W X g q.R).1 g (hc (a7 (nQ p)) V.W X g q.R).2 ⟨.li z aU d aN,q,made⟩ (ec op z aU d aN (tell U p.want.length q (act V (aS U w q.R)).2) (made+1));refine⟨aeV,yr,λ c F=>?_,λ n hn he=>?_,λ c F=>?_,?_,by rw[BA];exact fC,um⟩
  ·rw[vm];have h1:=agA F;cases aU with
   |nil=>cases h1
   |cons aT al=>
    obtain rfl:aT=c:=by simpa using h1
    exact hh aT rfl
  ·have dL:n∈X->(n∈X/\V.W.nd n 1=(act V (aS U w q.R)).1.W.nd n 1):=λ h=>⟨h,((Y.key n (.inl h)).1).symm⟩
   cases iE with
   |vA hk hW hX=>rw[hX] at hn;exact .inl (dL hn)
   |own k hk h=>
    cases h with
    |same hX=>rw[hX] at hn;exact .inl (dL hn)
    |mark o D cur aA cg ge hX=>rw[hX] at hn;exact .inl (dL hn)
    |cut cur cg ge Z T=>exact .inl (dL (T n hn))
    |put o v cO D cur A B cg ge hX vc cv=>
     rw[vc] at hn;rcases List.mem_append.1 hn with hn|hn
     ·exact .inl (dL (by rw[hX];simp[hn]))
     ·rcases List.mem_cons.1 hn with rfl|hn
      ·rw[hk,cg] at bL;obtain⟨rfl,UN⟩:o=_/\_:=bL;rw[cv] at he⊢;cases aU with
       |nil=>have:=(PS bv.2.2.1.1 bv.2.2.1.2).2.2;have he:lH op.a%2=0:=he;omega
       |cons c al=>
        refine .inr ⟨c,by have:=ht.1;omega,by have:=ht.2.1;have:=hz.2;omega,rfl,?_⟩;have Fo:=Lq (by omega) hI hq aF (r:=eu op (c::al) d) (op:=cB (aO p) op (c::al) d) rfl (by rw[hk,cg];exact⟨rfl,UN⟩);rcases Fo with h1|h1
        ·have:(act V (aS U w q.R)).2.ok=true:=ge;exfalso;have u:gm (tell U p.want.length q (act V (aS U w q.R)).2).R=none:=h1.2 (by rw[hk,cg];trivial);have J:gm (tell U p.want.length q (act V (aS U w q.R)).2).R=some (0,true,0):=by
          generalize(act V (aS U w q.R)).2=r at ge;obtain⟨R,s⟩:=q;simp only at hk;subst hk;subst cg;show gm (aG U (if r.ok then .bn (.fi (nL s.made n)) else dl _ _) s.up).R=_;rw[if_pos ge];exact(l6 (.bn (.fi (nL s.made n))) s.up).2
         rw[u] at J;cases J
        ·exact VN h1.2.2.1
      ·exact .inl (dL (by rw[hX];simp[hn]))
  ·left;obtain⟨al,v,b,rfl,ho⟩:=RO F;obtain⟨a,ha⟩:=GN ho;have u:=(BP (S:=p.want.length) (r:=(act V (aS U w q.R)).2) aF ha).2 (λ o cur pt e=>by
    rw[e] at bL;have bL:o=_/\(2:Int)=1:=bL;omega)
   exact VN (by rw[u];exact ho)
  ·cases aU with
   |cons c al=>
    have h1:one (fz ⟨.li z (c::al) d aN,q,made⟩)=1:=rfl;have u:=Pg (fz (ec op z (c::al) d aN (tell U p.want.length q (act V (aS U w q.R)).2) (made+1)));rw[h1];cases iE with
    |vA hk hW hX=>rw[hX,hW];show 2*g.ret+dT V.W X+dS V.W X+_<=_;omega
    |own k hk h=>
     cases h with
     |same hX hr ho hm=>rw[hX,hr,ho,hm];omega
     |mark o D cur aA cg ge hX=>rw[hk,cg] at bL;have bL:o=_/\(2:Int)=3:=bL;omega
     |cut cur cg ge Z T hr ho hm=>omega
     |put o v cO D cur A B cg ge hX vc cv lh hr ho hm=>rw[hk,cg] at bL;obtain⟨rfl,_⟩:o=_/\_:=bL;have:=xV G hz (c:=c) (by have:=ht.1;omega) ht.2.1;have e:(eu op (c::al) d).o=fv c:=rfl;rw[if_neg (by omega)] at ho;omega
   |nil=>
    have h1:fz ⟨.li z [] d aN,q,made⟩=(cC q.R).isNone:=rfl;have u:fz (ec op z [] d aN (tell U p.want.length q (act V (aS U w q.R)).2) (made+1))=true->(cC (tell U p.want.length q (act V (aS U w q.R)).2).R).isNone=true:=agB;have J:one (fz (ec op z [] d aN (tell U p.want.length q (act V (aS U w q.R)).2) (made+1)))<=one (fz ⟨.li z [] d aN,q,made⟩):=by
     unfold one;rw[h1];cases qH:fz (ec op z [] d aN (tell U p.want.length q (act V (aS U w q.R)).2) (made+1))
     ·simp
     ·have h4:=u qH;cases sO:cC q.R with
      |none=>simp
      |some x=>rw[cW x sO] at h4;cases h4
    have h5:∀k,q.R=.at_ k->Dd k->(act V (aS U w q.R)).2.ok=true->one (fz (ec op z [] d aN (tell U p.want.length q (act V (aS U w q.R)).2) (made+1)))+1<=one (fz ⟨.li z [] d aN,q,made⟩):=by
     intro k hk F ge;have e1:cC q.R=none:=Be ⟨k,hk,F⟩;have e2:∃x,cC (tell U p.want.length q (act V (aS U w q.R)).2).R=some x:=by
      generalize(act V (aS U w q.R)).2=r at ge;obtain⟨R,s⟩:=q;simp only at hk;subst hk;cases k with
      |cp o v n D cur=>refine⟨s.made,?_⟩;show cC (aG U (if r.ok then .bn (.fi (nL s.made n)) else dl _ _) s.up).R=_;rw[if_pos ge];exact(l6 (.bn (.fi (nL s.made n))) s.up).1
      |cm o D cur aA=>
       refine⟨s.made,?_⟩;show cC (aG U (if r.ok then .at_ (.cd o D cur (av aA).idx s.made) else dl _ _) s.up).R=_;rw[if_pos ge]
       rfl
      |_=>exact absurd F id
     obtain⟨x,e2⟩:=e2;have e3:fz (ec op z [] d aN (tell U p.want.length q (act V (aS U w q.R)).2) (made+1))=false:=by rw[Bool.eq_false_iff];intro hh;have:=u hh;rw[e2] at this;cases this
     rw[e3,h1,e1];exact Nat.le_refl _
    cases iE with
    |vA hk hW hX=>rw[hX,hW];show 2*g.ret+dT V.W X+dS V.W X+_<=_;omega
    |own k hk h=>
     cases h with
     |same hX hr ho hm=>rw[hX,hr,ho,hm];omega
     |mark o D cur aA cg ge hX hr ho hm=>have:=h5 k hk (by rw[cg];trivial) ge;rw[hX] at*;omega
     |cut cur cg ge Z T hr ho hm=>omega
     |put o v cO D cur A B cg ge hX vc cv lh hr ho hm=>
      have:=h5 k hk (by rw[cg];trivial) ge;have:(if o.o%2=1 then 1 else 0:Nat)<=1:=by split<;>omega
      omega
 |cb z al c n=>
  obtain⟨hz,F,T,hn,hi⟩:=hk;have oy:=hz.e8 G;have fw:c<p.b:=by have:=hz.2;omega
  have ou:=hI.si.e8 n hn.1;show uS p V.W (act V (.cs (.ob (aQ p c)) 0 n)).1.W X X g g _ (iO (aO p) op z al n q.s.gone (made+1));have ID:=hh c rfl
  by_cases e:V.W.ob (aQ p c)=0
  ·have e1:(act V (.cs (.ob (aQ p c)) 0 n)).1=V.put (.ob (aQ p c)) n:=by simp only[act,Vw.get,e,if_true]
   rw[e1];have nH:∀aT,(V.put (.ob (aQ p c)) n).W.ob (aQ p aT)=if aT=c then n else V.W.ob (aQ p aT):=λ aT=>by
    show(V.W.hE (aQ p c) n).ob (aQ p aT)=_;rw[po]
    by_cases h:aT=c
    ·rw[if_pos h,if_pos (by rw[h])]
    ·rw[if_neg h,if_neg (by unfold aQ;omega)]
   have hm:∀aT,V.W.ob (aQ p aT)≠0->(V.put (.ob (aQ p c)) n).W.ob (aQ p aT)≠0:=λ aT h=>by
    rw[nH];split
    ·omega
    ·exact h
   refine Ly (V:=V) (W':=(V.put (.ob (aQ p c)) n).W) rfl hi T (by rw[nH,if_pos rfl];omega) (λ _ _=>rfl) (λ aT _ _ h=>hm aT h) (λ aT h0 h1 u=>?_) (λ aT h=>?_) rfl _
   ·by_cases h:aT=c
    ·rw[h];exact hm _ ID
    ·rw[nH,if_neg h] at u;exact hm _ (kG aT h0 h1 u)
   ·cases h;rw[nH,if_pos rfl];omega
  ·have e1:(act V (.cs (.ob (aQ p c)) 0 n)).1=V:=by simp only[act,Vw.get,e,if_false]
   rw[e1];refine Ly rfl hi T e (λ _ _=>rfl) (λ aT _ _ h=>h) kG (λ aT h=>?_) rfl _;cases h;exact e
 |ad z o=>
  generalize hv:te (V.W.ob (d8 p)+if op.kind=2 then 1 else-1)=v;have ha:cF p w op ⟨.ad z o,q,made⟩ V=(V.put (.ob (d8 p)) v,⟨V.W.ob (d8 p),true⟩):=by rw[<-hv];rfl
  rw[ha];have nH:∀aT,0<=aT->(V.put (.ob (d8 p)) v).W.ob (aQ p aT)=V.W.ob (aQ p aT):=λ aT h=>by
   show(V.W.hE (d8 p) v).ob (aQ p aT)=_;rw[po,if_neg (by unfold aQ d8;omega)]
  have yr:tr p (V.put (.ob (d8 p)) v).W:=λ c h0 h1 u=>by
   have:=Ai h0 (show c<8 by omega);rw[nH _ (by omega)] at u⊢;exact kG c h0 h1 u
  show uS p V.W (V.put (.ob (d8 p)) v).W X X g g _ (if op.kind=2/\2*z<=V.W.ob (d8 p)/\z<p.b then⟨.cz z o,q,made+1⟩ else⟨.fin o,q,made+1⟩);split
  ·exact B2 (λ _ _=>rfl) (λ c h0 _ h=>by rw[nH c h0];exact h) yr (λ c h=>by cases h) (λ c h=>by cases h) (λ h=>by cases h) rfl
  ·exact B2 (λ _ _=>rfl) (λ c h0 _ h=>by rw[nH c h0];exact h) yr (λ c h=>by cases h) (λ c h=>by cases h) (λ h=>by cases h) rfl
 |cz z o=>
  have key:∀ba:Vw,(∀n i,ba.W.nd n i=V.W.nd n i)->(∀aT,0<=aT->ba.W.ob (aQ p aT)=V.W.ob (aQ p aT))->uS p V.W ba.W X X g g ⟨.cz z o,q,made⟩ ⟨.fin o,q,made+1⟩:=by intro ba hn nH;refine B2 hn (λ c h0 _ h=>by rw[nH c h0];exact h) (λ c h0 h1 u=>?_) (λ c h=>by cases h) (λ c h=>by cases h) (λ h=>by cases h) rfl;have:=Ai h0 (show c<8 by omega);rw[nH _ (by omega)] at u⊢;exact kG c h0 h1 u
  show uS p V.W (act V (.cs (.ob (cT p)) z (2*z))).1.W X X g g _ ⟨.fin o,q,made+1⟩
  by_cases e:V.W.ob (cT p)=z
  ·have e1:(act V (.cs (.ob (cT p)) z (2*z))).1=V.put (.ob (cT p)) (2*z):=by simp only[act,Vw.get,e,if_true]
   rw[e1];refine key _ (λ _ _=>rfl) λ aT h=>?_
   show(V.W.hE (cT p) (2*z)).ob (aQ p aT)=_;rw[po,if_neg (by unfold aQ cT;omega)]
  ·have e1:(act V (.cs (.ob (cT p)) z (2*z))).1=V:=by simp only[act,Vw.get,e,if_false]
   rw[e1];exact key V (λ _ _=>rfl) λ _ _=>rfl
 |fin o=>exact absurd rfl (fe o)
end
structure CJ(p:bU)(t:cP)(W:Ws)(X:List Int)(g:dF):Prop where
 Cw:∀n∈X,W.nd n 1%2=0->∃c,0<=c/\c<p.b/\W.nd n 1=fv c
 Er:∀c,0<=c->c<p.b->(∃n∈X,W.nd n 1=fv c)->W.ob (aQ p c)≠0\/∃(w:Nat)(x:bp),t.ar[w]?=some x/\iQ (bo p x)=some c
 jS:2*g.ret+dT W X+dS W X+(t.ar.map λ x=>one (fz (bo p x))).sum<=(t.ar.map (·.next)).sum
 dead:(t.ar.map λ x=>bO (nQ p) (bo p x).q).sum<=g.ret
 next:∀(w:Nat)(x:bp)(ws:List a9),t.ar[w]?=some x->p.want[w]?=some ws->x.next<=ws.length
 par:tr p W
 head:∀(w:Nat)(x:bp),t.ar[w]?=some x->∀c,wF (bo p x)=some c->W.ob (aQ p (eH c))≠0
theorem AO(t:cP)(au:Nat)(x:bp)(out:bd):(jw t au x out).ar=t.ar.set au {x with op:=gZ,gone:=out.gone}:=by
 unfold jw;simp only;split
 ·rfl
 ·split<;>rfl
theorem oW{p:bU}{x:bp}(h:x.op.kind=0):bo p x=⟨.fin gl,pS x.gone,0⟩:=by unfold bo;rw[if_pos h]
theorem tD{ws:List a9}{x y:bp}(h:rf ws x=some y):(x.op.kind≠0/\y=x)\/(x.op.kind=0/\x.next<ws.length/\y.next=x.next+1/\y.gone=x.gone/\y.log=[]/\ws[x.next]?=some y.op):=by
 unfold rf at h;split at h
 ·rename_i h0;cases ho:ws[x.next]? with
  |none=>rw[ho] at h;cases h
  |some op=>rw[ho] at h;cases h;exact .inr ⟨h0,(List.getElem?_eq_some_iff.1 ho).1,rfl,rfl,rfl,ho.symm▸rfl⟩
 ·rename_i h0;cases h;exact .inl ⟨h0,rfl⟩
theorem yO{o:a9}(h:kT o):o.kind≠0:=by rcases h.1 with h|h|h<;>omega
theorem AC{p:bU}{y:bp}(ho:kT y.op)(Z:y.log=[]):bo p y=sd y.gone:=by unfold bo;rw[if_neg (yO ho),Z];rfl
theorem wv{p:bU}{y:bp}(ho:kT y.op)(r:aJ)(st:List Int):bo p {y with log:=y.log++[r],steps:=st}=eW (aO p) p.want.length y.op (bo p y) r:=by have:=yO ho;unfold bo;simp only[this,if_false];rw[XZ]
theorem CJ.start{p:bU}(G:dZ p):CJ p (i6 (aO p) p.want.length) (V0 p.want.length (nQ p)).W [1] g0:=by
 have nt:=iX G;have yv:∀(w:Nat)(x:bp),(i6 (aO p) p.want.length).ar[w]?=some x->x=kH:=by
  intro w x hx;simp only[i6,List.getElem?_replicate] at hx;split at hx
  ·cases hx;rfl
  ·cases hx
 have iC:bo p kH=⟨.fin gl,pS [],0⟩:=rfl;have nH:∀c,(V0 p.want.length (nQ p)).W.ob (aQ p c)=if c=0 then 1 else if aQ p c=8+12*(p.want.length:Int) then 1 else 0:=λ c=>by
  show(if aQ p c=8+12*(p.want.length:Int)\/aQ p c=10+12*(p.want.length:Int) then(1:Int) else 0)=_
  by_cases e:c=0
  ·rw[if_pos e,if_pos (.inr (by unfold aQ;omega))]
  ·rw[if_neg e]
   by_cases e2:aQ p c=8+12*(p.want.length:Int)
   ·rw[if_pos (.inl e2),if_pos e2]
   ·rw[if_neg e2,if_neg (by rintro(h|h);exact e2 h;unfold aQ at h;omega)]
 refine⟨λ n hn _=>?_,λ c h0 h1⟨n,hn,e⟩=>?_,?_,?_,λ w x ws hx _=>?_,λ c h0 h1 u=>?_,λ w x hx c F=>?_⟩
 ·exact⟨0,by omega,by omega,by rw[Aj.1];rfl⟩
 ·left;have e:(0:Int)=fv c:=e;have:c=0:=So h0 (by omega) (Int.le_refl 0) (by omega) (by rw[<-e,Aj.1]);rw[nH,if_pos this];omega
 ·have e1:∀n:Nat,((List.replicate n kH).map λ x=>one (fz (bo p x))).sum=0:=λ n=>by
   induction n with
   |zero=>rfl
   |succ n ih=>rw[List.replicate_succ,List.map_cons,List.sum_cons,ih];rfl
  show 2*0+dT _ [1]+dS _ [1]+((List.replicate p.want.length kH).map λ x=>one (fz (bo p x))).sum<=_;rw[e1];exact Nat.zero_le _
 ·have e1:∀n:Nat,((List.replicate n kH).map λ x=>bO (nQ p) (bo p x).q).sum=0:=λ n=>by
   induction n with
   |zero=>rfl
   |succ n ih=>rw[List.replicate_succ,List.map_cons,List.sum_cons,ih];rfl
  show((List.replicate p.want.length kH).map λ x=>bO (nQ p) (bo p x).q).sum<=_;rw[e1];exact Nat.zero_le _
 ·rw[yv w x hx];exact Nat.zero_le _
 ·rw[nH,if_neg (by omega),if_neg (by unfold aQ;omega)] at u;exact absurd rfl u
 ·rw[yv w x hx] at F;cases F
theorem CJ.step{p:bU}(G:dZ p){i:Nat}{t fA:cP}{V ba:Vw}{aw X cE be:List Int}{g bg:dF}{au:Nat}(hG:GH p i t V aw X g)(hS:nW p au t V aw X g fA ba cE be bg)(h:CJ p t V.W X g):CJ p fA ba.W be bg:=by
 cases hS with
 |idle=>exact h
 |done x hh o hx h0 cU ct Z cW hi=>
  have aW:bo p {x with op:=gZ,gone:=hh.q.s.gone}=⟨.fin gl,pS hh.q.s.gone,0⟩:=oW rfl;have ow:(jw t au x {o with gone:=hh.q.s.gone}).ar=t.ar.set au {x with op:=gZ,gone:=hh.q.s.gone}:=AO t au x {o with gone:=hh.q.s.gone};have ox:∀(w:Nat)(z:bp),(jw t au x {o with gone:=hh.q.s.gone}).ar[w]?=some z->(w=au/\z={x with op:=gZ,gone:=hh.q.s.gone})\/(w≠au/\t.ar[w]?=some z):=by
   intro w z hz;rw[ow] at hz;rcases pw hx hz with⟨e1,e2⟩|h1
   ·exact .inl ⟨e1,e2⟩
   ·exact .inr h1
  refine⟨h.Cw,λ c c0 c1 hn=>?_,?_,?_,λ w z ws hz hw=>?_,h.par,λ w z hz c F=>?_⟩
  ·rcases h.Er c c0 c1 hn with h1|⟨w,z,h1,u⟩
   ·exact .inl h1
   ·refine .inr ⟨w,z,?_,u⟩;rw[ow]
    by_cases e:w=au
    ·subst e;rw[hx] at h1;cases h1;rw[<-cU] at u;unfold iQ at u;rw[ct] at u;cases u
    ·exact Qc e h1
  ·rw[ow];have e1:=tc (λ x=>one (fz (bo p x))) {x with op:=gZ,gone:=hh.q.s.gone} hx;have e2:=tc (λ x:bp=>x.next) {x with op:=gZ,gone:=hh.q.s.gone} hx;simp only at e1 e2;rw[aW] at e1;have e3:one (fz (⟨.fin gl,pS hh.q.s.gone,0⟩:Hq))=0:=rfl;have:=h.jS;omega
  ·rw[ow];have e1:=tc (λ x=>bO (nQ p) (bo p x).q) {x with op:=gZ,gone:=hh.q.s.gone} hx;rw[aW] at e1;have e2:bO (nQ p) (⟨.fin gl,pS hh.q.s.gone,0⟩:Hq).q=hh.q.s.gone.length:=Oo ⟨gl,rfl⟩;have e3:=Oo (N:=nQ p) hi;rw[cU] at e2 e3;rw[cU] at e1;have e4:=h.dead;rw[cU];omega
  ·rcases ox w z hz with⟨rfl,rfl⟩|⟨_,h1⟩
   ·exact h.next _ x ws hx hw
   ·exact h.next w z ws h1 hw
  ·rcases ox w z hz with⟨_,rfl⟩|⟨_,h1⟩
   ·rw[aW] at F;cases F
   ·exact h.head w z h1 c F
 |acc x y ws hh aB hx hw hy ho cU fe hk hm Z hK hq hI=>
  have o4:=tD hy;have NS:∀c,wF hh=some c->V.W.ob (aQ p (eH c))≠0:=by
   intro c F;rcases o4 with⟨_,e⟩|⟨h0,_,_,_,mr,_⟩
   ·rw[cU,e] at F;exact h.head au x hx c F
   ·rw[cU,AC ho mr] at F;cases F
  have hC:=WO G hI hq ho hk hG.nh fe h.par NS;have aW:bo p {y with log:=y.log++[(cF p au y.op hh V).2],steps:=y.steps++[t.step]}=eW (aO p) p.want.length y.op hh (cF p au y.op hh V).2:=by rw[wv ho,<-cU]
  generalize eW (aO p) p.want.length y.op hh (cF p au y.op hh V).2=bD at hC aW;have ox:∀(w:Nat)(z:bp),(t.ar.set au {y with log:=y.log++[(cF p au y.op hh V).2],steps:=y.steps++[t.step]})[w]?=some z->(w=au/\z={y with log:=y.log++[(cF p au y.op hh V).2],steps:=y.steps++[t.step]})\/(w≠au/\t.ar[w]?=some z):=by
   intro w z hz;rcases pw hx hz with⟨e1,e2⟩|h1
   ·exact .inl ⟨e1,e2⟩
   ·exact .inr h1
  have alT:bO (nQ p) hh.q<=g.ret:=by
   have h1:=Nat.le_trans (sU (λ x=>bO (nQ p) (bo p x).q) hx) h.dead;have u:=xv (p:=p) hx;rw[hq] at u;have u:hh.q=(bo p x).q:=by simpa using u
   rw[u];exact h1
  refine⟨λ n hn he=>?_,λ c c0 c1⟨n,hn,he⟩=>?_,?_,?_,λ w z us hz hu=>?_,hC.par,λ w z hz c F=>?_⟩
  ·rcases hC.Cw n hn he with⟨h1,u⟩|⟨c,h1,u,J,_⟩
   ·rw[<-u] at he⊢;exact h.Cw n h1 he
   ·exact⟨c,h1,u,J⟩
  ·have own:iQ bD=some c->∃(w:Nat)(z:bp),(t.ar.set au {y with log:=y.log++[(cF p au y.op hh V).2],steps:=y.steps++[t.step]})[w]?=some z/\iQ (bo p z)=some c:=λ e=>⟨au,_,uG hx,by rw[aW];exact e⟩
   have c8:(cF p au y.op hh V).1.W.nd n 1%2=0:=by rw[he];exact(H3 c0 (by have:=iX G;omega)).2.2
   rcases hC.Cw n hn c8 with⟨h1,u⟩|⟨aT,h1,u,J,h4⟩
   ·rcases h.Er c c0 c1 ⟨n,h1,by rw[u];exact he⟩ with h5|⟨w,z,h5,h6⟩
    ·exact .inl (hC.mono c c0 c1 h5)
    ·by_cases e:w=au
     ·subst e;rw[hx] at h5;cases h5;rcases o4 with⟨_,e⟩|⟨h0,_⟩
      ·rw[<-e,<-cU] at h6;exact(hC.Er c h6).elim (λ h=>.inr (own h)) .inl
      ·rw[oW h0] at h6;cases h6
     ·exact .inr ⟨w,z,Qc e h5,h6⟩
   ·have:aT=c:=So h1 (by have:=iX G;omega) c0 (by have:=iX G;omega) (by rw[<-J,he]);subst this;exact .inr (own h4)
  ·have e1:=tc (λ x=>one (fz (bo p x))) {y with log:=y.log++[(cF p au y.op hh V).2],steps:=y.steps++[t.step]} hx;have e2:=tc (λ x:bp=>x.next) {y with log:=y.log++[(cF p au y.op hh V).2],steps:=y.steps++[t.step]} hx;simp only at e1 e2;rw[aW] at e1;have h1:=h.jS;have u:=hC.jS;simp only;rcases o4 with⟨_,e⟩|⟨h0,_,J,_,mr,_⟩
   ·have e4:one (fz hh)=one (fz (bo p x)):=by rw[cU,e]
    have e5:y.next=x.next:=by rw[e]
    omega
   ·have e4:one (fz (bo p x))=0:=by rw[oW h0];rfl
    have e5:one (fz hh)<=1:=Pg _;omega
  ·have e1:=tc (λ x=>bO (nQ p) (bo p x).q) {y with log:=y.log++[(cF p au y.op hh V).2],steps:=y.steps++[t.step]} hx;rw[aW] at e1;have h1:=h.dead;have u:=hC.dead;have J:bO (nQ p) hh.q=bO (nQ p) (bo p x).q:=by
    have u:=xv (p:=p) hx;rw[hq] at u;have u:hh.q=(bo p x).q:=by simpa using u
    rw[u]
   simp only;omega
  ·rcases ox w z hz with⟨rfl,rfl⟩|⟨_,h1⟩
   ·rw[hw] at hu;cases hu;show y.next<=ws.length;rcases o4 with⟨_,e⟩|⟨h0,h1,J,_⟩
    ·rw[e];exact h.next _ x ws hx hw
    ·omega
   ·exact h.next w z us h1 hu
  ·rcases ox w z hz with⟨_,rfl⟩|⟨_,h1⟩
   ·rw[aW] at F;exact hC.head c F
   ·have u:=h.head w z h1 c F;have J:0<=eH c/\eH c<p.b:=by
     have fY:z.op.kind≠0:=λ e=>by rw[oW e] at F;cases F
     have rF:=(hG.iv w z h1).hk fY;generalize bo p z=w9 at F rF;obtain⟨ph,q,made⟩:=w9;cases ph with
     |li Zi aU d aN=>
      cases aU with
      |nil=>cases F
      |cons aT al=>cases F;have F6:=rF.1;have ht:YQ z.op Zi (c::al):=rF.2.1;have:=F6.e8 G;have Oa:=Ai ht.1 (show c<8 by have:=ht.2.1;omega);have:=F6.2;have:=ht.2.1;omega
     |cb Zi al aT n=>cases F;have F6:=rF.1;have ht:=rF.2.1;have:=F6.e8 G;have Oa:=Ai ht.1 (show c<8 by have:=ht.2;omega);have:=F6.2;have:=ht.2;omega
     |_=>cases F
    exact hC.mono _ J.1 J.2 u
theorem GG{az:Type}[DecidableEq az]:∀{l m:List az},l.Nodup->(∀x∈l,x∈m)->l.length<=m.length
 |[],_,_,_=>Nat.zero_le _
 |a::l,m,h,T=>by
  have h1:=List.nodup_cons.1 h;have u:=GG (m:=m.erase a) h1.2 λ x hx=>(List.mem_erase_of_ne (by intro e;subst e;exact h1.1 hx)).2 (T x (by simp[hx]))
  have J:=List.length_erase_of_mem (T a (by simp));have h4:=List.length_pos_of_mem (T a (by simp));rw[List.length_cons];omega
theorem Hf{az dE:Type}(f:az->Nat)(g:dE->Nat):∀{l:List az}{m:List dE},l.length=m.length->(∀(i:Nat)(x:az)(y:dE),l[i]?=some x->m[i]?=some y->f x<=g y)->(l.map f).sum<=(m.map g).sum/\∀(w:Nat)(x:az)(y:dE),l[w]?=some x->m[w]?=some y->(l.map f).sum+g y<=(m.map g).sum+f x
 |[],[],_,_=>⟨Nat.le_refl _,λ w x y h=>by simp at h⟩
 |[],_::_,h,_=>by simp at h
 |_::_,[],h,_=>by simp at h
 |a::l,b::m,h,fD=>by
  obtain⟨h1,u⟩:=Hf f g (l:=l) (m:=m) (by simpa using h) λ i x y hx hy=>fD (i+1) x y (by simpa using hx) (by simpa using hy)
  have J:=fD 0 a b rfl rfl;simp only[List.map_cons,List.sum_cons];refine⟨by omega,λ w x y hx hy=>?_⟩;cases w with
  |zero=>
   have hx:a=x:=by simpa using hx
   have hy:b=y:=by simpa using hy
   subst hx;subst hy;omega
  |succ w=>have:=u w x y (by simpa using hx) (by simpa using hy);omega
def zN(p:bU)(W:Ws):Nat:=(List.range p.b.toNat).countP λ(c:Nat)=>decide (W.ob (aQ p (c:Int))=0)
def HR(p:bU)(t:cP):Nat:=(t.ar.map λ x=>one (iQ (bo p x)).isSome).sum
def yQ(p:bU)(t:cP):Nat:=(t.ar.map λ x=>one (fz (bo p x))).sum
theorem RP{h:Hq}:one (iQ h).isSome<=one (fz h):=by
 obtain⟨ph,q,made⟩:=h;cases ph with
 |cb z al c n=>exact Nat.le_refl _
 |li z aU d aN=>
  cases aU with
  |nil=>exact Nat.zero_le _
  |cons c al=>exact Pg _
 |_=>exact Nat.zero_le _
theorem SY{az dE:Type}(f:az->Option dE):∀l:List az,(l.filterMap f).length=(l.map λ x=>one (f x).isSome).sum
 |[]=>rfl
 |a::l=>by
  rw[List.filterMap_cons,List.map_cons,List.sum_cons,<-SY f l];cases f a with
  |none=>show(l.filterMap f).length=0+(l.filterMap f).length;omega
  |some b=>show(l.filterMap f).length+1=1+(l.filterMap f).length;omega
section
variable{p:bU}{i:Nat}{t:cP}{V:Vw}{aw X:List Int}{g:dF}
theorem Rb(G:dZ p)(hG:GH p i t V aw X g)(hC:CJ p t V.W X g):X.length+zN p V.W<=p.b.toNat+HR p t+dT V.W X:=by
 have nt:=iX G;have Y:=List.length_eq_countP_add_countP (λ n=>decide (V.W.nd n 1%2=1)) (l:=X);have hz:=List.length_eq_countP_add_countP (λ(c:Nat)=>decide (V.W.ob (aQ p (c:Int))=0)) (l:=List.range p.b.toNat);rw[List.length_range] at hz;have aej:=SY (λ x=>iQ (bo p x)) t.ar;have key:(X.filter λ n=>decide ¬(decide (V.W.nd n 1%2=1)=true)).length<=(((List.range p.b.toNat).filter λ(c:Nat)=>decide ¬(decide (V.W.ob (aQ p (c:Int))=0)=true)).map (λ(c:Nat)=>(c:Int))++t.ar.filterMap λ x=>iQ (bo p x)).length:=by
  rw[<-List.length_map (f:=λ n=>V.W.nd n 1),<-List.length_map (f:=fv) (as:=_++_)];refine GG ?_ λ x hx=>?_
  ·rw[List.Nodup,List.pairwise_map];refine List.Pairwise.imp (λ h e=>by omega) (List.Pairwise.sublist List.filter_sublist hG.inv.si.p9)
  ·obtain⟨n,hn,rfl⟩:=List.mem_map.1 hx;obtain⟨h1,u⟩:=List.mem_filter.1 hn;have u:V.W.nd n 1%2=0:=by
    have:=of_decide_eq_true u;simp only[decide_eq_true_eq] at this;omega
   obtain⟨c,c0,c1,c2⟩:=hC.Cw n h1 u;refine List.mem_map.2 ⟨c,List.mem_append.2 ?_,c2.symm⟩;rcases hC.Er c c0 c1 ⟨n,h1,c2⟩ with J|⟨w,x,J,h4⟩
   ·refine .inl (List.mem_map.2 ⟨c.toNat,List.mem_filter.2 ⟨List.mem_range.2 (by omega),?_⟩,by omega⟩);rw[show((c.toNat:Nat):Int)=c by omega];simp[J]
   ·exact .inr (List.mem_filterMap.2 ⟨x,List.mem_of_getElem? J,h4⟩)
 rw[List.length_append,List.length_map,<-List.countP_eq_length_filter,<-List.countP_eq_length_filter,aej] at key;unfold zN HR dT;have e1:X.countP (λ n=>decide ¬(decide (V.W.nd n 1%2=1)=true))=X.countP (λ a=>decide ¬((λ n=>decide (V.W.nd n 1%2=1)) a=true)):=rfl;omega
theorem Ds(hG:GH p i t V aw X g)(hC:CJ p t V.W X g):(t.ar.map (·.next)).sum<=(p.want.map List.length).sum/\∀(w:Nat)(x:bp)(ws:List a9),t.ar[w]?=some x->p.want[w]?=some ws->(t.ar.map (·.next)).sum+ws.length<=(p.want.map List.length).sum+x.next:=
 Hf (λ x:bp=>x.next) List.length hG.n λ w x ws hx hw=>hC.next w x ws hx hw
theorem aa7{w:Nat}{x:bp}(hx:t.ar[w]?=some x):HR p t+one (fz (bo p x))<=yQ p t+one (iQ (bo p x)).isSome:=
 (Hf (λ x=>one (iQ (bo p x)).isSome) (λ x=>one (fz (bo p x))) (l:=t.ar) (m:=t.ar) rfl λ i x y hx hy=>by
  rw[hx] at hy;cases hy;exact RP).2 w x x hx hx
theorem QG(G:dZ p)(hG:GH p i t V aw X g)(hC:CJ p t V.W X g){w:Nat}{x:bp}{ws:List a9}(hx:t.ar[w]?=some x)(hw:p.want[w]?=some ws):X.length+zN p V.W+2*g.ret+dS V.W X+one (fz (bo p x))+ws.length<=p.b.toNat+12+x.next+one (iQ (bo p x)).isSome/\2*g.ret+dT V.W X+dS V.W X+yQ p t<=12:=by have h1:=Rb G hG hC;have u:=(Ds hG hC).2 w x ws hx hw;have J:=aa7 (p:=p) hx;have h4:2*g.ret+dT V.W X+dS V.W X+yQ p t<=(t.ar.map (·.next)).sum:=hC.jS;have h5:=G.sum;have h6:=(Ds hG hC).1;omega
def yI(N:Nat)(q:Q Lk):Nat:=(eQ (a7 N) q.R).length
theorem ux(f:Fk):(oH f).length<=1:=by
 cases f with
 |put v n=>show(yH n).length<=1;unfold yH;split<;>simp
 |_=>exact Nat.zero_le _
theorem ahe{N:Nat}{q:Q Lk}(aF:cJ q):yI N q<=1:=by
 obtain⟨R,s⟩:=q;unfold yI;cases R with
 |at_ k=>cases k<;>first|exact ux _|exact Nat.le_refl 1|exact Nat.zero_le _
 |t1 k=>obtain⟨o,v,D,cur,rfl⟩:=aF;exact Nat.zero_le _
 |t2 k f=>obtain⟨o,v,D,cur,rfl⟩:=aF;exact Nat.zero_le _
 |t3 k f lk=>obtain⟨o,v,D,cur,rfl⟩:=aF;exact Nat.zero_le _
 |t4 k n a=>obtain⟨o,v,D,cur,rfl⟩:=aF;exact Nat.le_refl 1
 |t5 k n a b=>obtain⟨o,v,D,cur,rfl⟩:=aF;exact Nat.le_refl 1
 |g1 k i c=>rcases aF with⟨o,f,rfl⟩|⟨o,f,a,D,cur,rfl,_⟩<;>exact ux f
 |g2 k i c v a=>rcases aF with⟨o,f,rfl⟩|⟨o,f,a,D,cur,rfl,_⟩<;>exact ux f
 |g3 k i c er=>rcases aF with⟨o,f,rfl⟩|⟨o,f,a,D,cur,rfl,_⟩<;>exact ux f
 |bn k=>exact absurd aF id
 |c k i=>rcases aF.2.2.2 with⟨o,rfl⟩|⟨n,b,rfl⟩<;>exact Nat.zero_le _
 |v1 k n=>obtain⟨b,c,rfl⟩:=aF;exact Nat.le_refl 1
 |v2 k n f=>obtain⟨b,c,rfl⟩:=aF;exact Nat.le_refl 1
 |v3 k n f=>obtain⟨b,c,rfl⟩:=aF;exact Nat.le_refl 1
 |r1 k n=>rcases aF with⟨o,f,a,b,D,nx,pt,rfl⟩|⟨a,rfl⟩<;>first|exact ux f|exact Nat.zero_le _
 |r2 k n er=>rcases aF with⟨o,f,a,b,D,nx,pt,rfl⟩|⟨a,rfl⟩<;>first|exact ux f|exact Nat.zero_le _
 |rs k held c cs=>rcases aF with⟨o,f,a,b,D,nx,pt,rfl⟩|⟨a,rfl⟩<;>first|exact ux f|exact Nat.zero_le _
 |s1 k held y gs stay=>rcases aF with⟨o,f,a,b,D,nx,pt,rfl⟩|⟨a,rfl⟩<;>first|exact ux f|exact Nat.zero_le _
 |w1 k held y gs stay=>rcases aF with⟨o,f,a,b,D,nx,pt,rfl⟩|⟨a,rfl⟩<;>first|exact ux f|exact Nat.zero_le _
 |w2 k held y gs stay f=>rcases aF with⟨o,f,a,b,D,nx,pt,rfl⟩|⟨a,rfl⟩<;>first|exact ux f|exact Nat.zero_le _
 |w3 k held y gs stay f=>rcases aF with⟨o,f,a,b,D,nx,pt,rfl⟩|⟨a,rfl⟩<;>first|exact ux f|exact Nat.zero_le _
 |fin o=>exact Nat.zero_le _
theorem C8{q:Q Lk}(h:rR q):cJ q:=by
 obtain⟨o,ho⟩:=h;obtain⟨R,s⟩:=q;simp only at ho;subst ho
 trivial
theorem A1{op:a9}{h:Hq}(bv:kT op){W:Ws}(hk:kr p W X op h):cJ h.q:=by
 obtain⟨ph,q,made⟩:=h;cases ph with
 |sz=>exact C8 hk
 |ld z al b=>exact C8 hk.2.2.2
 |li z aU d aN=>obtain⟨_,_,_,⟨gone,ap,hR,nG,_⟩,_⟩:=hk;have hR:q=_:=hR;have:=LR.facts (w:=0) (vL (l:=aO p) (aU:=aU) (d:=d) bv.1) _ rfl nG;show cJ q;rw[hR];exact this.1
 |cb z al c n=>exact C8 hk.2.2.2.2
 |ad z o=>exact C8 hk.2.2.2
 |cz z o=>exact C8 hk.2.2.2.2
 |fin o=>exact C8 hk.2
theorem ajQ(hG:GH p i t V aw X g){w:Nat}{x:bp}(hx:t.ar[w]?=some x):cJ (bo p x).q:=by
 have h:=hG.iv w x hx
 by_cases h0:x.op.kind=0
 ·rw[oW h0];trivial
 ·exact A1 (h.op.resolve_left h0) (h.hk h0)
theorem ahE(G:dZ p)(hG:GH p i t V aw X g)(hC:CJ p t V.W X g){w:Nat}{x:bp}(hx:t.ar[w]?=some x)(hm:yI (nQ p) (bo p x).q=0):(av V.fr).idx≠0:=by
 have nt:=iX G;have hN:=O0 G;have alF:=pm G;intro h0;rw[hG.inv.Ap (by omega)] at h0;have hF:aw=[]:=by
  cases aw with
  |nil=>rfl
  |cons f aw=>have:=hG.inv.Bt (n:=f) (by simp);simp at h0;omega
 have h1:(List.range (nQ p)).length<=(X++(t.ar.map λ x=>own (a7 (nQ p)) (bo p x).q).flatten).length:=by
  rw[<-List.length_map (f:=λ(n:Nat)=>(n:Int)+1) (as:=List.range (nQ p))];refine GG ?_ λ n hn=>?_
  ·rw[List.Nodup,List.pairwise_map];exact List.Pairwise.imp (λ h e=>by omega) List.nodup_range
  ·obtain⟨k,hk,rfl⟩:=List.mem_map.1 hn;have hk:=List.mem_range.1 hk;have cW:=hG.inv.part ((k:Int)+1);rw[if_pos (by omega),hF] at cW;simp only[List.count_nil] at cW;rw[List.mem_append]
   by_cases hX:(k:Int)+1∈X
   ·exact .inl hX
   ·right;have alJ:=List.count_eq_zero.2 hX;apply Classical.byContradiction;intro cv;have:r6 (a7 (nQ p)) (jK p t.ar) ((k:Int)+1)=0:=by
     have key:∀l:List bp,(k:Int)+1∉(l.map λ x=>own (a7 (nQ p)) (bo p x).q).flatten->r6 (a7 (nQ p)) (jK p l) ((k:Int)+1)=0:=by
      intro l;induction l with
      |nil=>intro _;rfl
      |cons a l ih=>intro hn;rw[List.map_cons,List.flatten_cons,List.mem_append] at hn;have u:=ih (λ h=>hn (.inr h));show(own (a7 (nQ p)) (bo p a).q).count ((k:Int)+1)+r6 (a7 (nQ p)) (jK p l) ((k:Int)+1)=0;rw[u,List.count_eq_zero.2 (λ h=>hn (.inl h))]
     exact key _ cv
    omega
 rw[List.length_range,List.length_append,List.length_flatten,List.map_map] at h1;have jW:∀q:Q Lk,(own (a7 (nQ p)) q).length=yI (nQ p) q+bO (nQ p) q:=λ q=>by
  unfold own yI bO;rw[List.length_append]
 have u:(t.ar.map λ x=>(own (a7 (nQ p)) (bo p x).q).length).sum<=(t.ar.map λ x=>yI (nQ p) (bo p x).q).sum+(t.ar.map λ x=>bO (nQ p) (bo p x).q).sum:=by
  have:∀l:List bp,(l.map λ x=>(own (a7 (nQ p)) (bo p x).q).length).sum<=(l.map λ x=>yI (nQ p) (bo p x).q).sum+(l.map λ x=>bO (nQ p) (bo p x).q).sum:=by
   intro l;induction l with
   |nil=>exact Nat.le_refl _
   |cons a l ih=>simp only[List.map_cons,List.sum_cons];have:=jW (bo p a).q;omega
  exact this _
 have J:=(Hf (λ x=>yI (nQ p) (bo p x).q) (λ _=>1) (l:=t.ar) (m:=t.ar) rfl λ i x y hx hy=>ahe (ajQ hG hx)).2 w x x hx hx;have h4:(t.ar.map λ _=>1).sum=t.ar.length:=by
  have:∀l:List bp,(l.map λ _=>1).sum=l.length:=by
   intro l;induction l with
   |nil=>rfl
   |cons a l ih=>simp only[List.map_cons,List.sum_cons,List.length_cons,ih];omega
  exact this _
 have h5:=hC.dead;have h6:=Rb G hG hC;have h7:=hG.n;have h8:=G.w3;have h9:HR p t<=yQ p t:=(Hf (λ x=>one (iQ (bo p x)).isSome) (λ x=>one (fz (bo p x))) (l:=t.ar) (m:=t.ar) rfl λ i x y hx hy=>by
  rw[hx] at hy;cases hy;exact RP).1
 have EQ:2*g.ret+dT V.W X+dS V.W X+yQ p t<=(t.ar.map (·.next)).sum:=hC.jS;have MW:=G.sum;have Az:=(Ds hG hC).1;have h1:nQ p<=X.length+(t.ar.map λ x=>(own (a7 (nQ p)) (bo p x).q).length).sum:=h1;omega
def ll(R:Pc Lk):Prop:=∀v b e,gm R=some (v,b,e)->e=0
theorem vG{R:Pc Lk}(h:gm R=none):ll R:=λ v b e u=>by rw[h] at u;cases u
theorem BL{o:bd}(h:o.err=0):ll (.bn (.fi o)):=λ v b e u=>by
 have u:some (o.val,o.is,o.err)=some (v,b,e):=u;injection u with u
 injection u with _ u
 injection u with _ u
 omega
theorem JU{R:Pc Lk}{s:ag}(h:ll R):ll (aG U R s).R:=λ v b e u=>h v b e (by rw[<-(l6 R s).2];exact u)
theorem yM(f:Fk):∀v b e,((k6 f).map λ _=>((0:Int),true,(0:Int)))=some (v,b,e)->e=0:=λ v b e h=>by
 cases f<;>first|(cases h;done)|(injection h with h;injection h with _ h;injection h with _ h;exact h.symm)
theorem WB(o:Or)(f:Fk)(D cur pt:Int):ll (d9 o f D cur pt):=by
 unfold d9;cases f with
 |put v n=>simp only;split<;>exact vG rfl
 |_=>exact BL rfl
theorem ah6(o:Or)(f:Fk)(D cur w pt:Int):ll (eU o f D cur w pt):=by
 unfold eU;cases f with
 |get=>exact vG rfl
 |put v n=>
  simp only;split
  ·exact BL rfl
  ·exact λ v b e h=>by injection h with h;injection h with _ h;injection h with _ h;exact h.symm
 |del=>exact vG rfl
 |fin a=>exact BL rfl
theorem Pd(o:Or)(f:Fk)(a b D cur pt:Int):ll (dG o f a b D cur pt):=by
 unfold dG;split
 ·exact WB _ _ _ _ _
 ·exact yM f
theorem WC{k:Lk}(hk:e9 k)(s:ag):ll (aG U (U.retired k) s).R:=by
 rcases hk with⟨o,f,a,b,D,nx,pt,rfl⟩|⟨a,rfl⟩
 ·exact JU (Pd _ _ _ _ _ _ _)
 ·exact BL rfl
theorem Pe{k:Lk}(hk:e9 k)(held:List Int)(s:ag)(gs stay:List (Int×Int))(h:∀v b e,sT k=some (v,b,e)->e=0):ll (du U k held s gs stay).R:=by
 cases gs with
 |nil=>exact WC hk _
 |cons g gs=>exact h
theorem WD{k:Lk}(hk:e9 k)(held:List Int)(s:ag)(cs:List Ad)(h:∀v b e,sT k=some (v,b,e)->e=0):ll (gG U k held s cs).R:=by
 cases cs with
 |nil=>exact Pe hk _ _ _ _ h
 |cons c cs=>exact h
theorem ah7{S:Nat}{q:Q Lk}{r:aJ}(aF:cJ q)(hf:q.R.gX)(h:ll q.R)(h1:∀k,q.R=.t1 k->(av r.val).idx≠0):ll (tell U S q r).R:=by
 obtain⟨R,s⟩:=q;cases R with
 |at_ k=>
  refine JU ?_;show ll (cZ k s.made r);cases k with
  |ls o f a b D cur w t=>simp only[cZ];split<;>exact yM f
  |lo o f a b D cur w t kk=>
   simp only[cZ];split
   ·exact yM f
   ·split
    ·exact Pd _ _ _ _ _ _ _
    ·split
     ·exact ah6 _ _ _ _ _ _
     ·exact WB _ _ _ _ _
  |cu o f a b D cur w=>simp only[cZ];split<;>exact yM f
  |gv o cur pt=>exact BL rfl
  |p1 o v n D cur=>exact vG rfl
  |p2 o v n D cur=>exact vG rfl
  |p0 o v n D cur=>exact vG rfl
  |cp o v n D cur=>
   simp only[cZ];split
   ·exact BL rfl
   ·exact vG rfl
  |cm o D cur w=>
   simp only[cZ];split
   ·exact yM (.fin 0)
   ·exact vG rfl
  |cd o D cur nx a=>
   simp only[cZ];split
   ·exact yM (.fin 0)
   ·exact yM (.fin 0)
  |ga o f=>exact absurd aF id
  |gb o f a b D cur=>exact absurd aF id
  |rr o f a b D nx pt=>exact absurd aF id
  |tk o v D cur=>exact absurd aF id
  |sv a c=>exact absurd aF id
  |rx n a=>exact absurd aF id
  |ry a=>exact absurd aF id
  |fi o=>exact absurd aF id
 |t1 k=>show ll (if _ then _ else _:Q Lk).R;rw[if_neg (h1 k rfl)];exact h
 |t2 k f=>exact h
 |t3 k f lk=>show ll (if _ then _ else _:Q Lk).R;split<;>exact h
 |t4 k n a=>exact h
 |t5 k n a b=>obtain⟨o,v,D,cur,rfl⟩:=aF;exact vG rfl
 |g1 k i c=>exact h
 |g2 k i c v a=>
  show ll (if _ then _ else _:Q Lk).R;split
  ·refine JU ?_;rcases aF with⟨o,f,rfl⟩|⟨o,f,bF,D,cur,rfl,_⟩
   ·exact Pd _ _ _ _ _ _ _
   ·exact yM f
  ·exact h
 |g3 k i c er=>exact h
 |bn k=>exact absurd hf id
 |c k i=>show ll (dJ U k _).R;exact λ v b e u=>h v b e (by show sT k=_;rw[<-(HU k (s.up.ej i 0)).2];exact u)
 |v1 k n=>exact h
 |v2 k n f=>exact h
 |v3 k n f=>
  obtain⟨b,c,rfl⟩:=aF;show ll (if _ then _ else _:Q Lk).R;split
  ·exact JU (BL rfl)
  ·exact h
 |r1 k n=>exact h
 |r2 k n er=>
  show ll (if _ then _ else _:Q Lk).R;split
  ·exact WC aF _
  ·exact WD aF _ _ _ h
 |rs k held c cs=>exact WD aF _ _ _ h
 |s1 k held y gs stay=>
  show ll (if _ then _ else _:Q Lk).R;split
  ·exact Pe aF _ _ _ _ h
  ·exact h
 |w1 k held y gs stay=>exact h
 |w2 k held y gs stay f=>exact h
 |w3 k held y gs stay f=>
  show ll (if _ then _ else _:Q Lk).R;split
  ·exact Pe aF _ _ _ _ h
  ·exact h
 |fin o=>exact absurd hf id
def oI(h:Hq):Prop:=match h.ph with
 |.li _ _ _ _=>ll h.q.R
 |.ad _ o|.cz _ o|.fin o=>o.err=0
 |_=>True
theorem Wq(G:dZ p)(hG:GH p i t V aw X g)(hC:CJ p t V.W X g){w:Nat}{x:bp}(hx:t.ar[w]?=some x){h:Hq}{op:a9}(bv:kT op)(hk:kr p V.W X op h)(yt:h.q=(bo p x).q)(fe:∀o,h.ph≠.fin o)(hn:oI h):oI (eW (aO p) p.want.length op h (cF p w op h V).2):=by
 have nt:=iX G;obtain⟨ph,q,made⟩:=h;have arr:∀(z:Int)(al:List Int)(n:Int)(m:Nat),oI (iO (aO p) op z al n q.s.gone m):=λ z al n m=>vG (WE _ _ _ _).2
 cases ph with
 |sz=>
  have hz:=hG.nh.sz;have oy:=hz.e8 G;show oI (if V.W.ob (cT p)<1\/p.b<V.W.ob (cT p)\/qR (V.W.ob (cT p))=false then _ else _:Hq);rw[if_neg]
  ·trivial
  rintro(h|h|h)
  ·omega
  ·have:=hz.2;omega
  ·rw[Ka hz.1] at h;cases h
 |ld z al b=>
  obtain⟨hz,hb,T,hi⟩:=hk;show oI (if(av (V.W.ob (aQ p b))).idx≠0 then iO (aO p) op z al (av (V.W.ob (aQ p b))).idx q.s.gone (made+1) else if b=0 then⟨.fin rp,q,made+1⟩ else⟨.ld z (b::al) (eH b),q,made+1⟩);split
  ·exact arr _ _ _ _
  ·rename_i aW;rw[if_neg]
   ·trivial
   ·intro e;rw[e,hG.nh.b0] at aW;exact aW (by decide)
 |li z aU d aN=>
  have aF:cJ q:=A1 bv hk;have io:q.R.gX:=hk.2.2.2.2.1;have h1:ll (tell U p.want.length q (act V (aS U w q.R)).2).R:=ah7 aF io hn λ k e=>by
   have:=ahE G hG hC hx (by
    rw[<-yt];show(eQ (a7 (nQ p)) q.R).length=0;rw[e];rw[cJ,e] at aF;obtain⟨o,v,D,cur,rfl⟩:=aF
    rfl)
   rw[e];exact this
  show oI (ec op z aU d aN (tell U p.want.length q (act V (aS U w q.R)).2) (made+1));generalize tell U p.want.length q (act V (aS U w q.R)).2=a6 at h1;unfold ec;split
  ·rename_i o ho;have he:o.err=0:=h1 o.val o.is o.err (by rw[ho];rfl);unfold kw;cases aU with
   |nil=>simp only;split<;>exact he
   |cons c al=>
    simp only;rw[if_neg (by omega)]
    trivial
  ·exact h1
 |cb z al c n=>exact arr _ _ _ _
 |ad z o=>show oI (if op.kind=2/\2*z<=V.W.ob (d8 p)/\z<p.b then⟨.cz z o,q,made+1⟩ else⟨.fin o,q,made+1⟩);split<;>exact hn
 |cz z o=>exact hn
 |fin o=>exact absurd rfl (fe o)
end
structure NJ(p:bU)(t:cP):Prop where
 err:∀(w:Nat)(x:bp),t.ar[w]?=some x->oI (bo p x)
 full:t.full=0
theorem NJ.step{p:bU}(G:dZ p){i:Nat}{t fA:cP}{V ba:Vw}{aw X cE be:List Int}{g bg:dF}{au:Nat}(hG:GH p i t V aw X g)(hC:CJ p t V.W X g)(hS:nW p au t V aw X g fA ba cE be bg)(h:NJ p t):NJ p fA:=by
 cases hS with
 |idle=>exact h
 |done x hh o hx h0 cU ct Z cW hi=>
  have ow:(jw t au x {o with gone:=hh.q.s.gone}).ar=t.ar.set au {x with op:=gZ,gone:=hh.q.s.gone}:=AO t au x {o with gone:=hh.q.s.gone};have he:o.err=0:=by have:=h.err au x hx;rw[<-cU] at this;unfold oI at this;rw[ct] at this;exact this
  refine⟨λ w z hz=>?_,?_⟩
  ·rw[ow] at hz;rcases pw hx hz with⟨_,rfl⟩|⟨_,h1⟩
   ·rw[oW rfl];rfl
   ·exact h.err w z h1
  ·unfold jw;simp only;rw[if_neg (by omega)];split
   ·exact h.full
   ·exact h.full
 |acc x y ws hh aB hx hw hy ho cU fe hk hm Z hK hq hI=>
  have o4:=tD hy;have yt:hh.q=(bo p x).q:=by
   have u:=xv (p:=p) hx;rw[hq] at u
   simpa using u
  have hn:oI hh:=by
   rcases o4 with⟨_,e⟩|⟨h0,_,_,_,mr,_⟩
   ·rw[cU,e];exact h.err au x hx
   ·rw[cU,AC ho mr];trivial
  have hN:=Wq G hG hC hx ho hk yt fe hn;refine⟨λ w z hz=>?_,h.full⟩;simp only at hz;rcases pw hx hz with⟨_,rfl⟩|⟨_,h1⟩
  ·rw[wv ho,<-cU];exact hN
  ·exact h.err w z h1
theorem NJ.start(p:bU):NJ p (i6 (aO p) p.want.length):=by
 refine⟨λ w x hx=>?_,rfl⟩;simp only[i6,List.getElem?_replicate] at hx;split at hx
 ·cases hx;rfl
 ·cases hx
def ko:Nat->Nat
 |0=>0
 |m+1=>ko m+m
def xD(h:Hq):List Int:=match h.ph with
 |.ld _ al _=>al
 |.li _ (_::al) _ _=>al
 |.cb _ al _ _=>al
 |_=>[]
def x0(h:Hq):List Int:=match h.ph with
 |.ld _ al _=>al
 |.li _ aU _ _=>aU
 |.cb _ al c _=>c::al
 |_=>[]
def eK(p:bU)(W:Ws)(ex:List Int):Nat:=(List.range p.b.toNat).countP λ(c:Nat)=>decide (W.ob (aQ p (c:Int))=0)&&!(ex.contains (c:Int))
def jl(p:bU)(W:Ws)(al:List Int):Nat:=al.countP λ c=>decide (W.ob (aQ p c)=0)
def c9(p:bU)(W:Ws)(al:List Int):Nat:=al.countP λ c=>decide (W.ob (aQ p c)≠0)
def mM(p:bU)(W:Ws)(r:Nat)(ex al:List Int):Nat:=r+eK p W ex+jl p W al
def mb(h:Hq):Nat:=match h.ph with
 |.sz|.ld _ _ _|.cb _ _ _ _=>1
 |.li _ (_::_) _ _=>1
 |_=>0
def gW(p:bU)(W:Ws)(r:Nat)(h:Hq):Nat:=4*mM p W r (x0 h) (xD h)+4*c9 p W (xD h)+4*mb h
def gE(p:bU)(W:Ws)(r:Nat)(h:Hq):Nat:=match h.ph with
 |.li _ (c::_) _ _=>if W.ob (aQ p c)=0 then gW p W r h else 0
 |_=>gW p W r h
def L3(p:bU)(V:Vw)(X:List Int)(r:Nat)(h:Hq):Nat:=match h.ph with
 |.sz=>42+4*mM p V.W r (x0 h) (xD h)
 |.ld _ _ _=>41+4*mM p V.W r (x0 h) (xD h)
 |.li _ [] _ _=>nu (gE p V.W r h) p.want.length V X h.q+3
 |.li _ (_::_) _ _=>nu (gE p V.W r h) p.want.length V X h.q+41+4*mM p V.W r (x0 h) (xD h)
 |.cb _ _ _ _=>41+4*mM p V.W r (x0 h) (xD h)
 |.ad _ _=>3
 |.cz _ _=>2
 |.fin _=>1
def iN(p:bU)(V:Vw)(X:List Int)(r:Nat)(h:Hq):Nat:=4*ko (mM p V.W r (x0 h) (xD h))+21*eK p V.W (x0 h)+20*(xD h).length+42*r+bj (gW p V.W r h) V.W X+L3 p V X r h
section
variable{p:bU}{W W':Ws}{X:List Int}
theorem PE(a b:Nat):bj (a+b) W X=bj a W X+b*X.length:=by unfold bj;rw[Nat.add_mul];omega
theorem R7{P Q:Nat->Bool}:∀{l:List Nat}{a:Nat},l.Nodup->a∈l->P a=true->Q a=false->(∀x∈l,x≠a->Q x=P x)->l.countP Q+1=l.countP P
 |[],a,_,ha,_,_,_=>by simp at ha
 |b::l,a,K,ha,hP,hQ,h=>by
  have K:=List.nodup_cons.1 K;rw[List.countP_cons,List.countP_cons]
  by_cases e:b=a
  ·subst e;have:l.countP Q=l.countP P:=List.countP_congr λ x hx=>by rw[h x (by simp[hx]) (λ e=>K.1 (e▸hx))]
   rw[hP,hQ,this];simp
  ·have h1:=h b (by simp) e;have u:=R7 K.2 ((List.mem_cons.1 ha).resolve_left (λ h=>e h.symm)) hP hQ λ x hx=>h x (by simp[hx])
   rw[h1];omega
theorem Sr{b:Int}{ex:List Int}(h0:0<=b)(h1:b<p.b)(hw:W.ob (aQ p b)=0)(hx:b∉ex):eK p W (b::ex)+1=eK p W ex:=by
 unfold eK;refine R7 (a:=b.toNat) List.nodup_range (List.mem_range.2 (by omega)) ?_ ?_ λ x _ aW=>?_
 ·rw[show((b.toNat:Nat):Int)=b by omega];simp[hw,hx]
 ·rw[show((b.toNat:Nat):Int)=b by omega];simp
 ·have:(x:Int)≠b:=λ e=>aW (by omega)
  simp[this]
theorem Mh{ex:List Int}(h:∀c,0<=c->W'.ob (aQ p c)=W.ob (aQ p c)):eK p W' ex=eK p W ex:=by unfold eK;exact List.countP_congr λ x _=>by rw[h _ (by omega)]
theorem Vy{al:List Int}(h:∀c∈al,W'.ob (aQ p c)=W.ob (aQ p c)):jl p W' al=jl p W al/\c9 p W' al=c9 p W al:=
 ⟨List.countP_congr λ x hx=>by rw[h x hx],List.countP_congr λ x hx=>by rw[h x hx]⟩
theorem abR{c:Int}{al:List Int}(h:∀d,d≠c->W'.ob (aQ p d)=W.ob (aQ p d))(F:W'.ob (aQ p c)≠0):eK p W' al=eK p W (c::al):=by
 unfold eK;refine List.countP_congr λ x _=>?_
 by_cases e:(x:Int)=c
 ·rw[e];simp[F]
 ·rw[h _ e];simp[e]
theorem OE{al:List Int}:jl p W al+c9 p W al=al.length:=by
 unfold jl c9;have:=List.length_eq_countP_add_countP (λ c=>decide (W.ob (aQ p c)=0)) (l:=al);rw[this]
 congr 1
 exact List.countP_congr λ x _=>by simp
theorem B3(G:dZ p){op:a9}{z:Int}(hz:lI p z):∀{al:List Int}{b:Int},s9 op z b al->∀x∈al,b<x/\x<z
 |[],_,_,x,hx=>by cases hx
 |c::al,b,⟨h1,u,J,h4⟩,x,hx=>by
  have:=hz.e8 G;have FR:=Ai u (show c<8 by omega);rcases List.mem_cons.1 hx with rfl|hx
  ·omega
  ·have:=B3 G hz h4 x hx;omega
theorem YC(G:dZ p){op:a9}{z:Int}(hz:lI p z)(kG:tr p W):∀{al:List Int}{c:Int},s9 op z c al->W.ob (aQ p c)=0->∀x∈al,W.ob (aQ p x)=0
 |[],_,_,_,x,hx=>by cases hx
 |d::al,c,⟨h1,u,J,h4⟩,F,x,hx=>by
  have K:W.ob (aQ p d)=0:=by apply Classical.byContradiction;intro h;have:=kG d u (by have:=hz.2;omega) h;rw[<-h1] at this;exact this F
  rcases List.mem_cons.1 hx with rfl|hx
  ·exact K
  ·exact YC G hz kG h4 K x hx
theorem agi{al:List Int}(h:∀x∈al,W.ob (aQ p x)=0):c9 p W al=0:=by unfold c9;rw[List.countP_eq_zero];intro x hx;simp[h x hx]
theorem abY(aa:Nat)(o:Or)(f:Fk):eF aa o f<=30+aa:=by
 cases f with
 |put v n=>simp only[eF,oE];split<;>omega
 |_=>simp only[eF];omega
theorem ahT{aa S aB:Nat}{V:Vw}{aC:Int->Prop}{g:dF}{N:Nat}(bq:eX N aB V.W X aC g)(hN:N<=100)(eM:X.Nodup){o:Or}(ho:lP N V.W X o)(op:a9)(gone:List (Int×Int)):nu aa S V X (d6 o op gone)<=4*X.length+7+eF aa o (i5 op):=by have h1:=Wu (aa:=aa) (S:=S) bq hN eM ho (i5 op) ⟨0,gone,0,0,0⟩;have u:=Qd V.er ⟨0,gone,0,0,0⟩;have h1:nu aa S V X (d6 o op gone)+2<=_:=h1;unfold rB at h1;omega
end
section
variable{p:bU}{aB:Nat}{V:Vw}{aw X:List Int}{g:dF}{op:a9}{aC:Int->Prop}
theorem Rr(G:dZ p){W:Ws}{r:Nat}{V:Vw}(bq:eX (nQ p) aB V.W X aC g)(eM:X.Nodup){z c0 n:Int}{al:List Int}{gone:List (Int×Int)}{made:Nat}(hz:lI p z)(T:s9 op z c0 al)(kG:tr p V.W)(ho:lP (nQ p) V.W X (eu op al n))(hW:V.W=W):
 iN p V X r (iO (aO p) op z al n gone made)<4*ko (mM p W r al al)+21*eK p W al+20*al.length+42*r+bj (4*mM p W r al al+4*c9 p W al+4) W X+(41+4*mM p W r al al):=by
 subst hW;have hN:=pm G;have bY:∀aa,nu aa p.want.length V X (d6 (eu op al n) (cB (aO p) op al n) gone)<=4*X.length+7+eF aa (eu op al n) (i5 (cB (aO p) op al n)):=λ aa=>ahT bq (by omega) eM ho _ _
 cases al with
 |nil=>have h1:=bY (4*mM p V.W r [] []+4*c9 p V.W []+4*0);have u:=abY (4*mM p V.W r [] []+4*c9 p V.W []+4*0) (eu op [] n) (i5 (cB (aO p) op [] n));have J:c9 p V.W []=0:=rfl;show 4*ko (mM p V.W r [] [])+21*eK p V.W []+20*0+42*r+bj (4*mM p V.W r [] []+4*c9 p V.W []+4*0) V.W X+(nu (4*mM p V.W r [] []+4*c9 p V.W []+4*0) p.want.length V X (d6 (eu op [] n) (cB (aO p) op [] n) gone)+3)<_;rw[J] at h1 u⊢;rw[PE (4*mM p V.W r [] []+4*0) 4];simp only[Nat.mul_zero,Nat.add_zero,List.length_nil] at h1 u⊢;omega
 |cons c al=>
  have c8:oE (eu op (c::al) n)=0:=by have:=xV G hz (c:=c) (by have:=T.2.1;omega) T.2.2.1;unfold oE;rw[if_neg (show¬(eu op (c::al) n).o%2=1 from by show¬fv c%2=1;omega)]
  have lz:∀aa,eF aa (eu op (c::al) n) (i5 (cB (aO p) op (c::al) n))=12+aa:=λ aa=>by
   have:i5 (cB (aO p) op (c::al) n)=.put 0 0:=by
    unfold i5;rw[if_neg (show¬(cB (aO p) op (c::al) n).kind=1 by show¬(2:Int)=1;omega),if_pos (show(cB (aO p) op (c::al) n).kind=2 from rfl)]
    rfl
   rw[this];simp only[eF];omega
  have Us:jl p V.W (c::al)=jl p V.W al+if V.W.ob (aQ p c)=0 then 1 else 0:=by
   unfold jl;rw[List.countP_cons]
   by_cases h:V.W.ob (aQ p c)=0<;>simp[h]
  have vi:c9 p V.W (c::al)=c9 p V.W al+if V.W.ob (aQ p c)=0 then 0 else 1:=by
   unfold c9;rw[List.countP_cons]
   by_cases h:V.W.ob (aQ p c)=0<;>simp[h]
  by_cases hw:V.W.ob (aQ p c)=0
  ·rw[if_pos hw] at Us vi;have aeF:c9 p V.W al=0:=agi (YC G hz kG T.2.2.2 hw);have e1:mM p V.W r (c::al) (c::al)=mM p V.W r (c::al) al+1:=by unfold mM;omega
   have e2:gE p V.W r (iO (aO p) op z (c::al) n gone made)=4*mM p V.W r (c::al) al+4*c9 p V.W al+4*1:=by
    show(if V.W.ob (aQ p c)=0 then _ else 0)=_;rw[if_pos hw]
    rfl
   have h1:=bY (4*mM p V.W r (c::al) al+4*c9 p V.W al+4*1);rw[lz] at h1;show 4*ko (mM p V.W r (c::al) al)+21*eK p V.W (c::al)+20*al.length+42*r+bj (4*mM p V.W r (c::al) al+4*c9 p V.W al+4*1) V.W X+(nu (gE p V.W r (iO (aO p) op z (c::al) n gone made)) p.want.length V X (d6 (eu op (c::al) n) (cB (aO p) op (c::al) n) gone)+41+4*mM p V.W r (c::al) al)<_;rw[e2,vi,e1,aeF] at*;rw[show 4*(mM p V.W r (c::al) al+1)+4*(0+0)+4=(4*mM p V.W r (c::al) al+4*0+4*1)+4 by omega,PE (4*mM p V.W r (c::al) al+4*0+4*1) 4,ko,List.length_cons];omega
  ·rw[if_neg hw] at Us vi;have e1:mM p V.W r (c::al) (c::al)=mM p V.W r (c::al) al:=by unfold mM;omega
   have e2:gE p V.W r (iO (aO p) op z (c::al) n gone made)=0:=by show(if V.W.ob (aQ p c)=0 then _ else 0)=_;rw[if_neg hw]
   have h1:=bY 0;rw[lz] at h1;show 4*ko (mM p V.W r (c::al) al)+21*eK p V.W (c::al)+20*al.length+42*r+bj (4*mM p V.W r (c::al) al+4*c9 p V.W al+4*1) V.W X+(nu (gE p V.W r (iO (aO p) op z (c::al) n gone made)) p.want.length V X (d6 (eu op (c::al) n) (cB (aO p) op (c::al) n) gone)+41+4*mM p V.W r (c::al) al)<_;rw[e2,vi,e1,show 4*mM p V.W r (c::al) al+4*(c9 p V.W al+1)+4=(4*mM p V.W r (c::al) al+4*c9 p V.W al+4*1)+4 by omega,PE (4*mM p V.W r (c::al) al+4*c9 p V.W al+4*1) 4,List.length_cons];omega
end
section
variable{p:bU}{aB:Nat}{V:Vw}{qs:List (Q Lk)}{aw X:List Int}{g:dF}{w:Nat}{op:a9}{h:Hq}
theorem WI(hI:Inv (a7 (nQ p)) (aO p) p.want.length (nQ p) aB V qs aw X g){o:Or}{op:a9}{gone:List (Int×Int)}(hq:qs[w]?=some (d6 o op gone)):lP (nQ p) V.W X o:=by have:=(hI.loc w _ hq).R;exact this.1.2
theorem GU(r:Nat)(z:Int)(al:List Int)(b:Int)(q:Q Lk)(m:Nat):iN p V X r ⟨.ld z al b,q,m⟩=4*ko (mM p V.W r al al)+21*eK p V.W al+20*al.length+42*r+bj (4*mM p V.W r al al+4*c9 p V.W al+4) V.W X+(41+4*mM p V.W r al al):=rfl
theorem Px(r:Nat)(q:Q Lk)(m:Nat):iN p V X r ⟨.sz,q,m⟩=4*ko (mM p V.W r [] [])+21*eK p V.W []+20*0+42*r+bj (4*mM p V.W r [] []+4*c9 p V.W []+4) V.W X+(42+4*mM p V.W r [] []):=rfl
theorem Pu(r:Nat)(z:Int)(al:List Int)(c n:Int)(q:Q Lk)(m:Nat):iN p V X r ⟨.cb z al c n,q,m⟩=4*ko (mM p V.W r (c::al) al)+21*eK p V.W (c::al)+20*al.length+42*r+bj (4*mM p V.W r (c::al) al+4*c9 p V.W al+4) V.W X+(41+4*mM p V.W r (c::al) al):=rfl
theorem Pv(r:Nat)(z d:Int)(aN:Nat)(q:Q Lk)(m:Nat):iN p V X r ⟨.li z [] d aN,q,m⟩=4*ko (mM p V.W r [] [])+21*eK p V.W []+20*0+42*r+bj (4*mM p V.W r [] []+4*c9 p V.W []+4*0) V.W X+(nu (4*mM p V.W r [] []+4*c9 p V.W []+4*0) p.want.length V X q+3):=rfl
theorem Pw(r:Nat)(z c d:Int)(al:List Int)(aN:Nat)(q:Q Lk)(m:Nat):iN p V X r ⟨.li z (c::al) d aN,q,m⟩=4*ko (mM p V.W r (c::al) al)+21*eK p V.W (c::al)+20*al.length+42*r+bj (4*mM p V.W r (c::al) al+4*c9 p V.W al+4) V.W X+(nu (if V.W.ob (aQ p c)=0 then 4*mM p V.W r (c::al) al+4*c9 p V.W al+4 else 0) p.want.length V X q+41+4*mM p V.W r (c::al) al):=rfl
theorem sW(r:Nat)(h:Hq)(k:Nat)(he:x0 h=[])(T:xD h=[])(hm:mb h=0)(F:L3 p V X r h=k):iN p V X r h=4*ko (mM p V.W r [] [])+21*eK p V.W []+20*0+42*r+bj (4*mM p V.W r [] []+4*c9 p V.W []+4*0) V.W X+k:=by unfold iN gW;rw[he,T,hm,F];rfl
theorem V3{W W':Ws}(r:Nat)(ex al:List Int)(h:∀c,W'.ob c=W.ob c):mM p W' r ex al=mM p W r ex al/\eK p W' ex=eK p W ex/\c9 p W' al=c9 p W al:=by
 have h1:=Mh (p:=p) (ex:=ex) (W:=W) (W':=W') λ c _=>h _
 have u:=Vy (p:=p) (al:=al) (W:=W) (W':=W') λ c _=>h _
 refine⟨?_,h1,u.2⟩;unfold mM;rw[h1,u.1]
theorem Ww{aa S:Nat}{q:Q Lk}{o:bd}(h:q.R=.fin o):nu aa S V X q=0:=by unfold nu;rw[h];rfl
theorem aim(G:dZ p)(hI:Inv (a7 (nQ p)) (aO p) p.want.length (nQ p) aB V qs aw X g)(hK:aB+1<=100000)(hq:qs[w]?=some h.q)(bv:kT op)(hk:kr p V.W X op h)(hB:v4 p V.W X)(fe:∀o,h.ph≠.fin o)(kG:tr p V.W)(hh:∀c,wF h=some c->V.W.ob (aQ p (eH c))≠0)(um:2*g.ret+dT V.W X+dS V.W X<=12)(Fq:bO (nQ p) h.q<=g.ret)(aW:oI (eW (aO p) p.want.length op h (cF p w op h V).2))(r:Nat):
 iN p (cF p w op h V).1 (ot (nQ p) V.W X g h).1 r (eW (aO p) p.want.length op h (cF p w op h V).2)<iN p V X r h:=by
 have hS:=yX G;have nt:=iX G;have hN:=pm G;have AG:=J3 G hI hK hq bv hk hB fe;have adi:=WO G hI hq bv hk hB fe kG hh;obtain⟨ph,q,made⟩:=h;have hq:qs[w]?=some q:=hq;cases ph with
 |sz=>
  have hz:=hB.sz;have oy:=hz.e8 G;have ht:eW (aO p) p.want.length op ⟨.sz,q,made⟩ ⟨V.W.ob (cT p),true⟩=⟨.ld (V.W.ob (cT p)) [] (op.a%V.W.ob (cT p)),q,made+1⟩:=by
   show(if V.W.ob (cT p)<1\/p.b<V.W.ob (cT p)\/qR (V.W.ob (cT p))=false then _ else _:Hq)=_;rw[if_neg];rintro(h|h|h)
   ·omega
   ·have:=hz.2;omega
   ·rw[Ka hz.1] at h;cases h
  show iN p V X r (eW (aO p) p.want.length op ⟨.sz,q,made⟩ ⟨V.W.ob (cT p),true⟩)<_;rw[ht,GU,Px];show _+20*0+_+_+_<_;omega
 |ld z al b=>
  obtain⟨hz,hb,T,hi⟩:=hk;have oy:=hz.e8 G;have oZ:b<p.b:=by have:=hz.2;omega
  have ht:eW (aO p) p.want.length op ⟨.ld z al b,q,made⟩ ⟨V.W.ob (aQ p b),true⟩=if(av (V.W.ob (aQ p b))).idx≠0 then iO (aO p) op z al (av (V.W.ob (aQ p b))).idx q.s.gone (made+1) else if b=0 then⟨.fin rp,q,made+1⟩ else⟨.ld z (b::al) (eH b),q,made+1⟩:=rfl
  have bS:=AG.inv;show iN p V X r (eW (aO p) p.want.length op ⟨.ld z al b,q,made⟩ ⟨V.W.ob (aQ p b),true⟩)<_;have bS:Inv (a7 (nQ p)) (aO p) p.want.length (nQ p) (aB+2) V (qs.set w (eW (aO p) p.want.length op ⟨.ld z al b,q,made⟩ ⟨V.W.ob (aQ p b),true⟩).q) aw X g:=bS;rw[ht] at bS⊢
  by_cases AW:(av (V.W.ob (aQ p b))).idx≠0
  ·rw[if_pos AW] at bS⊢;rw[GU];exact Rr G hI.si hI.yK hz T kG (WI bS (uG hq)) rfl
  ·rw[if_neg AW,if_neg (λ e=>AW (by rw[e,hB.b0];decide)),GU,GU];have hw:V.W.ob (aQ p b)=0:=by
    rcases hB.bk b hb.1 oZ with h|h
    ·exact h
    ·have ou:=hI.si.e8 _ h.1;rw[F9 (by omega) (by omega)] at AW;omega
   have c6:b∉al:=λ h=>by have:=(B3 G hz T b h).1;omega
   have h1:=Sr hb.1 oZ hw c6;have u:jl p V.W (b::al)=jl p V.W al+1:=by unfold jl;rw[List.countP_cons];simp[hw]
   have J:c9 p V.W (b::al)=c9 p V.W al:=by unfold c9;rw[List.countP_cons];simp[hw]
   have h4:mM p V.W r (b::al) (b::al)=mM p V.W r al al:=by unfold mM;omega
   rw[J,h4,List.length_cons];omega
 |li z aU d aN=>
  have NC:=hk;obtain⟨hz,ht,K,⟨gone,ap,hR,nG,hm⟩,io,rJ⟩:=hk;have hR:q=_:=hR;have io:q.R.gX:=io;have vm:=Ls (q:=q) (by omega) hI hq io;have eN:=vL (l:=aO p) (aU:=aU) (d:=d) bv.1;have aF:cJ q:=A1 bv NC;have bL:ie (eu op aU d) (cB (aO p) op aU d) q.R:=by rw[hR];exact yL ap (xB _ _ _) ⟨rfl,B1 eN⟩
  have FN:∀(aa Gw:Nat),(∀o v n D cur,q.R=.at_ (.cp o v n D cur)->aa=Gw\/∃m∈X,V.W.nd m 1=o.o)->nu aa p.want.length (act V (aS U w q.R)).1 (hc (a7 (nQ p)) V.W X g q.R).1 (tell U p.want.length q (act V (aS U w q.R)).2)+bj Gw (act V (aS U w q.R)).1.W (hc (a7 (nQ p)) V.W X g q.R).1<nu aa p.want.length V X q+bj Gw V.W X:=λ aa Gw hG=>ahQ (by omega) G.w3 hI hq io aF um Fq hG
  have aW:oI (ec op z aU d aN (tell U p.want.length q (act V (aS U w q.R)).2) (made+1)):=aW;show iN p (act V (aS U w q.R)).1 (hc (a7 (nQ p)) V.W X g q.R).1 r (ec op z aU d aN (tell U p.want.length q (act V (aS U w q.R)).2) (made+1))<iN p V X r ⟨.li z aU d aN,q,made⟩;generalize(act V (aS U w q.R)).1=ba at FN vm⊢;generalize tell U p.want.length q (act V (aS U w q.R)).2=a6 at FN aW⊢;generalize(hc (a7 (nQ p)) V.W X g q.R).1=be at FN⊢;cases aU with
  |nil=>
   obtain⟨c1,c2,c3⟩:=V3 (p:=p) r [] [] vm;have K:=FN (4*mM p V.W r [] []+4*c9 p V.W []+4*0) (4*mM p V.W r [] []+4*c9 p V.W []+4*0) (λ _ _ _ _ _ _=>.inl rfl);rw[Pv]
   by_cases hf:∃o,a6.R=.fin o
   ·obtain⟨o,ho⟩:=hf;rw[Ww ho] at K;have e:∃k,k<=3/\iN p ba be r (ec op z [] d aN a6 (made+1))=4*ko (mM p ba.W r [] [])+21*eK p ba.W []+20*0+42*r+bj (4*mM p ba.W r [] []+4*c9 p ba.W []+4*0) ba.W be+k:=by
     unfold ec;rw[ho];unfold kw;simp only;split
     ·exact⟨3,Nat.le_refl _,sW r _ 3 rfl rfl rfl rfl⟩
     ·exact⟨1,by omega,sW r _ 1 rfl rfl rfl rfl⟩
    obtain⟨k,hk,e⟩:=e;rw[e,c1,c2,c3];omega
   ·have e:ec op z [] d aN a6 (made+1)=⟨.li z [] d aN,a6,made+1⟩:=by
     unfold ec;split
     ·rename_i o ho;exact absurd ⟨o,ho⟩ hf
     ·rfl
    rw[e,Pv,c1,c2,c3];omega
  |cons c al=>
   obtain⟨c1,c2,c3⟩:=V3 (p:=p) r (c::al) al vm;have fw:c<p.b:=by have:=ht.2.1;have:=hz.2;omega
   have K:=FN (if V.W.ob (aQ p c)=0 then 4*mM p V.W r (c::al) al+4*c9 p V.W al+4 else 0) (4*mM p V.W r (c::al) al+4*c9 p V.W al+4) (λ o v n D cur e=>by
    by_cases hw:V.W.ob (aQ p c)=0
    ·rw[if_pos hw];exact .inl rfl
    ·refine .inr ?_;rw[e] at bL;obtain⟨rfl,_⟩:o=_/\_:=bL;rcases hB.bk c (by have:=ht.1;omega) fw with h|h
     ·exact absurd h hw
     ·exact⟨_,h.1,h.2⟩)
   rw[Pw]
   by_cases hf:∃o,a6.R=.fin o
   ·obtain⟨o,ho⟩:=hf;rw[Ww ho] at K;have e:ec op z (c::al) d aN a6 (made+1)=⟨.cb z al c (o.gone.headD (0,0)).1,a6,made+1⟩:=by
     unfold ec at aW⊢;rw[ho] at aW⊢;unfold kw at aW⊢;simp only at aW⊢;split
     ·rename_i he;rw[if_pos he] at aW;exact absurd aW he
     ·rfl
    rw[e,Pu,c1,c2,c3];omega
   ·have e:ec op z (c::al) d aN a6 (made+1)=⟨.li z (c::al) d aN,a6,made+1⟩:=by
     unfold ec;split
     ·rename_i o ho;exact absurd ⟨o,ho⟩ hf
     ·rfl
    rw[e,Pw,c1,c2,c3,vm];omega
 |cb z al c n=>
  obtain⟨hz,F,T,hn,hi⟩:=hk;have oy:=hz.e8 G;have fw:c<p.b:=by have:=hz.2;omega
  have ou:=hI.si.e8 n hn.1;have bS:=AG.inv;have yr:=adi.par;have iE:∀x∈al,x≠c:=λ x hx e=>by have:=(B3 G hz T x hx).1;omega
  rw[Pu];show iN p (act V (.cs (.ob (aQ p c)) 0 n)).1 X r (iO (aO p) op z al n q.s.gone (made+1))<_;have bS:Inv (a7 (nQ p)) (aO p) p.want.length (nQ p) (aB+2) (act V (.cs (.ob (aQ p c)) 0 n)).1 (qs.set w (iO (aO p) op z al n q.s.gone (made+1)).q) aw X g:=bS;have yr:tr p (act V (.cs (.ob (aQ p c)) 0 n)).1.W:=yr;have hW:(∀d,d≠c->(act V (.cs (.ob (aQ p c)) 0 n)).1.W.ob (aQ p d)=V.W.ob (aQ p d))/\(act V (.cs (.ob (aQ p c)) 0 n)).1.W.ob (aQ p c)≠0/\∀aa,bj aa (act V (.cs (.ob (aQ p c)) 0 n)).1.W X=bj aa V.W X:=by
   by_cases e:V.W.ob (aQ p c)=0
   ·have e1:(act V (.cs (.ob (aQ p c)) 0 n)).1=V.put (.ob (aQ p c)) n:=by simp only[act,Vw.get,e,if_true]
    rw[e1];refine⟨λ d K=>?_,?_,λ aa=>rfl⟩
    ·show(V.W.hE (aQ p c) n).ob (aQ p d)=_;rw[po,if_neg (by unfold aQ;omega)]
    ·show(V.W.hE (aQ p c) n).ob (aQ p c)≠0;rw[po,if_pos rfl];omega
   ·have e1:(act V (.cs (.ob (aQ p c)) 0 n)).1=V:=by simp only[act,Vw.get,e,if_false]
    rw[e1];exact⟨λ _ _=>rfl,e,λ _=>rfl⟩
  obtain⟨w1,w2,w3⟩:=hW;have h1:=abR (p:=p) (al:=al) w1 w2;have u:=Vy (p:=p) (al:=al) (W:=V.W) (W':=(act V (.cs (.ob (aQ p c)) 0 n)).1.W) λ x hx=>w1 x (iE x hx)
  have J:mM p (act V (.cs (.ob (aQ p c)) 0 n)).1.W r al al=mM p V.W r (c::al) al:=by unfold mM;rw[h1,u.1]
  have:=Rr (op:=op) (r:=r) (n:=n) (gone:=q.s.gone) (made:=made+1) G bS.si bS.yK hz T yr (WI bS (uG hq)) rfl;rw[h1,J,u.2,w3] at this;exact this
 |ad z o=>
  generalize hv:te (V.W.ob (d8 p)+if op.kind=2 then 1 else-1)=v;have ha:cF p w op ⟨.ad z o,q,made⟩ V=(V.put (.ob (d8 p)) v,⟨V.W.ob (d8 p),true⟩):=by rw[<-hv];rfl
  rw[ha];have nH:∀aT,0<=aT->(V.put (.ob (d8 p)) v).W.ob (aQ p aT)=V.W.ob (aQ p aT):=λ aT h=>by
   show(V.W.hE (d8 p) v).ob (aQ p aT)=_;rw[po,if_neg (by unfold aQ d8;omega)]
  have h1:eK p (V.put (.ob (d8 p)) v).W []=eK p V.W []:=Mh nH;have u:mM p (V.put (.ob (d8 p)) v).W r [] []=mM p V.W r [] []:=by unfold mM;rw[h1];rfl
  have J:∀aa,bj aa (V.put (.ob (d8 p)) v).W X=bj aa V.W X:=λ _=>rfl
  show iN p (V.put (.ob (d8 p)) v) X r (if op.kind=2/\2*z<=V.W.ob (d8 p)/\z<p.b then⟨.cz z o,q,made+1⟩ else⟨.fin o,q,made+1⟩)<iN p V X r ⟨.ad z o,q,made⟩;rw[sW r ⟨.ad z o,q,made⟩ 3 rfl rfl rfl rfl];split
  ·rw[sW r ⟨.cz z o,q,made+1⟩ 2 rfl rfl rfl rfl,h1,u,J];show _+bj (4*mM p V.W r [] []+4*c9 p V.W []+4*0) V.W X+2<_;omega
  ·rw[sW r ⟨.fin o,q,made+1⟩ 1 rfl rfl rfl rfl,h1,u,J];show _+bj (4*mM p V.W r [] []+4*c9 p V.W []+4*0) V.W X+1<_;omega
 |cz z o=>
  have key:∀ba:Vw,(∀n i,ba.W.nd n i=V.W.nd n i)->(∀aT,0<=aT->ba.W.ob (aQ p aT)=V.W.ob (aQ p aT))->iN p ba X r ⟨.fin o,q,made+1⟩<iN p V X r ⟨.cz z o,q,made⟩:=by
   intro ba hn nH;have h1:eK p ba.W []=eK p V.W []:=Mh nH;have u:mM p ba.W r [] []=mM p V.W r [] []:=by unfold mM;rw[h1];rfl
   have J:∀aa,bj aa ba.W X=bj aa V.W X:=λ aa=>by
    unfold bj dT dS;simp only[hn]
   rw[sW r ⟨.cz z o,q,made⟩ 2 rfl rfl rfl rfl,sW r ⟨.fin o,q,made+1⟩ 1 rfl rfl rfl rfl,h1,u,J];show _+bj (4*mM p V.W r [] []+4*c9 p V.W []+4*0) V.W X+1<_;omega
  show iN p (act V (.cs (.ob (cT p)) z (2*z))).1 X r ⟨.fin o,q,made+1⟩<_
  by_cases e:V.W.ob (cT p)=z
  ·have e1:(act V (.cs (.ob (cT p)) z (2*z))).1=V.put (.ob (cT p)) (2*z):=by simp only[act,Vw.get,e,if_true]
   rw[e1];refine key _ (λ _ _=>rfl) λ aT h=>?_
   show(V.W.hE (cT p) (2*z)).ob (aQ p aT)=_;rw[po,if_neg (by unfold aQ cT;omega)]
  ·have e1:(act V (.cs (.ob (cT p)) z (2*z))).1=V:=by simp only[act,Vw.get,e,if_false]
   rw[e1];exact key V (λ _ _=>rfl) λ _ _=>rfl
 |fin o=>exact absurd rfl (fe o)
end
theorem y5:∀m,2*ko m+m=m*m
 |0=>rfl
 |m+1=>by
  have:=y5 m;rw[ko,show(m+1)*(m+1)=m*m+m+(m+1) by rw[Nat.mul_succ,Nat.succ_mul]];omega
theorem Rq(r dz kz ks t gj mk:Nat)(h1:r<=11)(u:dz+kz+ks<=7)(J:kz+ks<=3)(h4:gj+mk+1+r<=12)(h5:t+dz+kz+r+mk+1<=20):4*ko (r+dz+kz)+21*dz+20*(kz+ks)+42*r+(17*gj+28*mk+(4*(r+dz+kz)+4*ks+4)*t)+(42+4*(r+dz+kz))<=1500:=by
 generalize hm:r+dz+kz=m at*;have C6:=y5 m;have F:m=0\/m=1\/m=2\/m=3\/m=4\/m=5\/m=6\/m=7\/m=8\/m=9\/m=10\/m=11\/m=12\/m=13\/m=14\/m=15\/m=16\/m=17\/m=18\/m=19:=by omega
 have K:ks=0\/ks=1\/ks=2\/ks=3:=by omega
 rcases F with rfl|rfl|rfl|rfl|rfl|rfl|rfl|rfl|rfl|rfl|rfl|rfl|rfl|rfl|rfl|rfl|rfl|rfl|rfl|rfl<;>rcases K with rfl|rfl|rfl|rfl<;>omega
theorem aai(r dz kz ks t gj mk:Nat)(h1:r<=11)(u:dz+kz+ks+1<=7)(J:kz+ks+1<=3)(h4:gj+mk+1+r<=12)(h5:t+dz+kz+r+mk+2<=20):4*ko (r+dz+kz)+21*dz+20*(kz+ks)+42*r+(17*gj+28*mk+(4*(r+dz+kz)+4*ks+4)*t)+(4*t+65+(4*(r+dz+kz)+4*ks+4)+41+4*(r+dz+kz))<=1500:=by
 generalize hm:r+dz+kz=m at*;have C6:=y5 m;have F:m=0\/m=1\/m=2\/m=3\/m=4\/m=5\/m=6\/m=7\/m=8\/m=9\/m=10\/m=11\/m=12\/m=13\/m=14\/m=15\/m=16\/m=17\/m=18\/m=19:=by omega
 have K:ks=0\/ks=1\/ks=2\/ks=3:=by omega
 rcases F with rfl|rfl|rfl|rfl|rfl|rfl|rfl|rfl|rfl|rfl|rfl|rfl|rfl|rfl|rfl|rfl|rfl|rfl|rfl|rfl<;>rcases K with rfl|rfl|rfl|rfl<;>omega
theorem aah(r dz kz ks t gj mk:Nat)(h1:r<=11)(u:dz+kz+ks+1<=7)(J:kz+ks+1<=3)(h4:gj+mk+1+r<=12)(h5:t+dz+kz+r+mk+1<=20):4*ko (r+dz+kz)+21*dz+20*(kz+ks)+42*r+(17*gj+28*mk+(4*(r+dz+kz)+4*ks+4)*t)+(4*t+65+41+4*(r+dz+kz))<=1500:=by
 generalize hm:r+dz+kz=m at*;have C6:=y5 m;have F:m=0\/m=1\/m=2\/m=3\/m=4\/m=5\/m=6\/m=7\/m=8\/m=9\/m=10\/m=11\/m=12\/m=13\/m=14\/m=15\/m=16\/m=17\/m=18\/m=19:=by omega
 have K:ks=0\/ks=1\/ks=2\/ks=3:=by omega
 rcases F with rfl|rfl|rfl|rfl|rfl|rfl|rfl|rfl|rfl|rfl|rfl|rfl|rfl|rfl|rfl|rfl|rfl|rfl|rfl|rfl<;>rcases K with rfl|rfl|rfl|rfl<;>omega
theorem Rp(r dz kz ks t gj mk:Nat)(h1:r<=11)(u:dz+kz+ks+1<=7)(J:kz+ks+1<=3)(h4:gj+mk+1+r<=12)(h5:t+dz+kz+r+mk<=20):4*ko (r+dz+kz)+21*dz+20*(kz+ks)+42*r+(17*gj+28*mk+(4*(r+dz+kz)+4*ks+4)*t)+(8+41+4*(r+dz+kz))<=1500:=by
 generalize hm:r+dz+kz=m at*;have C6:=y5 m;have F:m=0\/m=1\/m=2\/m=3\/m=4\/m=5\/m=6\/m=7\/m=8\/m=9\/m=10\/m=11\/m=12\/m=13\/m=14\/m=15\/m=16\/m=17\/m=18\/m=19:=by omega
 have K:ks=0\/ks=1\/ks=2\/ks=3:=by omega
 rcases F with rfl|rfl|rfl|rfl|rfl|rfl|rfl|rfl|rfl|rfl|rfl|rfl|rfl|rfl|rfl|rfl|rfl|rfl|rfl|rfl<;>rcases K with rfl|rfl|rfl|rfl<;>omega
theorem aal(r dz kz t gj mk:Nat)(h0:kz=0)(h1:r<=11)(u:dz<=7)(h4:gj+mk+1+r<=12)(h5:t+dz+r+mk+1<=20):4*ko (r+dz+kz)+21*dz+20*(kz)+42*r+(17*gj+28*mk+(4*(r+dz+kz)+0)*t)+(4*t+53+29+4*(r+dz+kz)+3)<=1500:=by
 generalize hm:r+dz+kz=m at*;have C6:=y5 m;have F:m=0\/m=1\/m=2\/m=3\/m=4\/m=5\/m=6\/m=7\/m=8\/m=9\/m=10\/m=11\/m=12\/m=13\/m=14\/m=15\/m=16\/m=17\/m=18\/m=19:=by omega
 rcases F with rfl|rfl|rfl|rfl|rfl|rfl|rfl|rfl|rfl|rfl|rfl|rfl|rfl|rfl|rfl|rfl|rfl|rfl|rfl|rfl<;>omega
theorem aak(r dz kz t gj mk:Nat)(h0:kz=0)(h1:r<=11)(u:dz<=7)(h4:gj+mk+r<=12)(h5:t+dz+r+mk<=20):4*ko (r+dz+kz)+21*dz+20*(kz)+42*r+(17*gj+28*mk+(4*(r+dz+kz)+0)*t)+(4*t+86)<=1500:=by
 generalize hm:r+dz+kz=m at*;have C6:=y5 m;have F:m=0\/m=1\/m=2\/m=3\/m=4\/m=5\/m=6\/m=7\/m=8\/m=9\/m=10\/m=11\/m=12\/m=13\/m=14\/m=15\/m=16\/m=17\/m=18\/m=19:=by omega
 rcases F with rfl|rfl|rfl|rfl|rfl|rfl|rfl|rfl|rfl|rfl|rfl|rfl|rfl|rfl|rfl|rfl|rfl|rfl|rfl|rfl<;>omega
theorem aaj(r dz kz t gj mk:Nat)(h0:kz=0)(h1:r<=12)(u:dz<=7)(h4:gj+mk+r<=12)(h5:t+dz+r+mk<=20):4*ko (r+dz+kz)+21*dz+20*(kz)+42*r+(17*gj+28*mk+(4*(r+dz+kz)+0)*t)+(0)<=1500:=by
 generalize hm:r+dz+kz=m at*;have C6:=y5 m;have F:m=0\/m=1\/m=2\/m=3\/m=4\/m=5\/m=6\/m=7\/m=8\/m=9\/m=10\/m=11\/m=12\/m=13\/m=14\/m=15\/m=16\/m=17\/m=18\/m=19:=by omega
 rcases F with rfl|rfl|rfl|rfl|rfl|rfl|rfl|rfl|rfl|rfl|rfl|rfl|rfl|rfl|rfl|rfl|rfl|rfl|rfl|rfl<;>omega
section
variable{N aB S:Nat}{l:aI}{V:Vw}{qs:List (Q Lk)}{aw X:List Int}{g:dF}{w:Nat}{q:Q Lk}{aa B:Nat}{ro:Or}{op:a9}
theorem Tt(W:Ws)(o:Or)(f:Fk)(D cur:Int):n8 aa W X o f D cur<=9+rB aa X o f:=by have:=Gh X cur;unfold n8 rB;split<;>omega
theorem VZ(W:Ws)(o:Or)(f:Fk)(D cur w:Int):rV aa W X o f D cur w<=11+rB aa X o f:=by
 have:=Gh X cur;unfold rV rB;split
 ·split<;>omega
 ·omega
theorem agJ(W:Ws)(o:Or)(f:Fk)(D cur w:Int):uu aa W X o f D cur w<=10+rB aa X o f:=by have:=Gh X cur;unfold uu rB;split<;>omega
theorem abs(W:Ws)(o:Or)(f:Fk)(D cur:Int):wf aa W X o f D cur<=1+rB aa X o f:=by have:=Gh X cur;unfold wf rB;split<;>omega
theorem Ew(W:Ws)(o:Or)(D cur:Int):hd aa W X o D cur<=1+rB aa X o (.put 0 0):=by unfold hd rB;simp only[eF];split<;>omega
theorem RQ(W:Ws)(D cur:Int):oT W X D cur<=4+4*X.length:=by unfold oT;split<;>omega
theorem BQ(hB:∀f,sx op f->eF aa ro f<=B){f:Fk}(h:sx op f):rB aa X ro f<=4*X.length+B:=by have:=hB f h;unfold rB;omega
theorem ahS(hS:S<=3)(hI:Inv (a7 N) l S N aB V qs aw X g)(hq:qs[w]?=some q)(aF:cJ q)(bL:ie ro op q.R)(hB:∀f,sx op f->eF aa ro f<=B)(K:bO N q<=6):nu aa S V X q<=4*X.length+53+B:=by
 have Z:=hI.loc w _ hq;obtain⟨R,s⟩:=q;have ct:=Z.R;have yx:=Qd V.er s;have FV:op.kind=2->rB aa X ro (.put 0 0)<=4*X.length+B:=λ h=>by
  have:=hB (.put op.b 0) ⟨h,rfl⟩;unfold rB;exact Nat.add_le_add_left this _
 have ad5:op.kind=3->30<=B:=λ h=>hB .del h
 have gk:∀{k:Lk}{i:Int}{c:Ad},Q2 k i c->xf ro op k->∀v,gK aa V.W X k v<=11+4*X.length+B:=by
  intro k i c hk bL v;rcases hk with⟨o,f,rfl⟩|⟨o,f,a,D,cur,rfl,_⟩
  ·obtain⟨rfl,hf⟩:=bL;have h1:=Tt (aa:=aa) (X:=X) V.W o f o.d (av v).idx;have u:=BQ (X:=X) hB hf;show n8 aa V.W X o f o.d (av v).idx<=_;omega
  ·obtain⟨rfl,hf⟩:=bL;have h1:=VZ (aa:=aa) (X:=X) V.W o f D cur v;have u:=BQ (X:=X) hB hf;show rV aa V.W X o f D cur v<=_;omega
 have rk:∀{k:Lk},e9 k->xf ro op k->rK aa V.W X k<=18+4*X.length+B:=by
  intro k hk bL;rcases hk with⟨o,f,a,b,D,nx,pt,rfl⟩|⟨a,rfl⟩
  ·obtain⟨rfl,hf⟩:=bL;have h1:=Tt (aa:=aa) (X:=X) V.W o f D nx;have u:=BQ (X:=X) hB hf;show 9+n8 aa V.W X o f D nx<=_;omega
  ·exact Nat.zero_le _
 have tk:∀{k:Lk},(∃o v D cur,k=.tk o v D cur)->xf ro op k->tK aa V.W X k<=4+4*X.length+B:=by intro k hk bL;obtain⟨o,v,D,cur,rfl⟩:=hk;obtain⟨rfl,u,_⟩:=bL;have h1:=Ew (aa:=aa) (X:=X) V.W o D cur;have J:=FV u;show 3+hd aa V.W X o D cur<=_;omega
 cases R with
 |fin o=>exact Nat.zero_le _
 |bn k=>exact absurd aF id
 |at_ k=>
  show cK aa V.W X k+sg V.er s<=_;cases k with
  |ls o f a b D cur w t=>obtain⟨rfl,hf⟩:=bL;have h1:=VZ (aa:=aa) (X:=X) V.W o f D cur w;have u:=BQ (X:=X) hB hf;simp only[cK];omega
  |lo o f a b D cur w t k=>obtain⟨rfl,hf⟩:=bL;have h1:=agJ (aa:=aa) (X:=X) V.W o f D cur w;have u:=BQ (X:=X) hB hf;simp only[cK];omega
  |cu o f a b D cur w=>obtain⟨rfl,hf⟩:=bL;have h1:=abs (aa:=aa) (X:=X) V.W o f D cur;have u:=BQ (X:=X) hB hf;simp only[cK];omega
  |gv o cur pt=>simp only[cK];omega
  |p1 o v n D cur=>obtain⟨rfl,u,_⟩:=bL;have h1:=Ew (aa:=aa) (X:=X) V.W o D cur;have J:=FV u;simp only[cK];omega
  |p2 o v n D cur=>obtain⟨rfl,u,_⟩:=bL;have h1:=Ew (aa:=aa) (X:=X) V.W o D cur;have J:=FV u;simp only[cK];omega
  |p0 o v n D cur=>obtain⟨rfl,u,_⟩:=bL;have h1:=Ew (aa:=aa) (X:=X) V.W o D cur;have J:=FV u;simp only[cK];omega
  |cp o v n D cur=>obtain⟨rfl,u,_⟩:=bL;have h1:=Ew (aa:=aa) (X:=X) V.W o D cur;have J:=FV u;simp only[cK];omega
  |cm o D cur w=>obtain⟨rfl,u⟩:=bL;have h1:=RQ (X:=X) V.W D cur;have J:=ad5 u;have h4:=BQ (X:=X) hB (f:=.del) u;simp only[cK];split<;>omega
  |cd o D cur nx a=>have h1:=RQ (X:=X) V.W D cur;simp only[cK];omega
  |_=>exact absurd aF id
 |t1 k=>have:=tk aF bL;show 5+tK aa V.W X k+sg V.er s<=_;omega
 |t2 k f=>have:=tk aF bL;show(if V.fr=f then 4 else 7)+tK aa V.W X k+sg V.er s<=_;split<;>omega
 |t3 k f lk=>have:=tk aF bL;show(if V.fr=f then 3 else 6)+tK aa V.W X k+sg V.er s<=_;split<;>omega
 |t4 k n a=>have:=tk aF bL;show 2+tK aa V.W X k+sg V.er s<=_;omega
 |t5 k n a b=>have:=tk aF bL;show 1+tK aa V.W X k+sg V.er s<=_;omega
 |g1 k i c=>have:=gk aF bL (V.W.get c);show 2+gK aa V.W X k (V.W.get c)+sg V.er s<=_;omega
 |g2 k i c v a=>have h1:=gk aF bL (V.W.get c);have u:=gk aF bL v;show(if V.er=s.e i then 1+gK aa V.W X k v+sg V.er s else 1+gK aa V.W X k (V.W.get c)+sg V.er s)<=_;split<;>omega
 |g3 k i c er=>have h1:=gk aF bL (V.W.get c);show(if V.er=er/\V.er≠s.e i then gK aa V.W X k (V.W.get c)+sg V.er s else gK aa V.W X k (V.W.get c)+sg V.er s+6)<=_;split<;>omega
 |c k i=>
  have h1:=JR s;have u:bO N ⟨.c k i,s⟩=(iL k).length+s.gone.length:=gB _ _ λ _=>rfl
  show nz s+kC S s k<=_;rcases aF.2.2.2 with⟨o,rfl⟩|⟨n,a,rfl⟩
  ·simp only[kC];omega
  ·have J:(iL (.rx n a)).length=1:=rfl;simp only[kC];omega
 |v1 k n=>show 6<=_;omega
 |v2 k n f=>show(if V.fr=f then 5 else 8)<=_;split<;>omega
 |v3 k n f=>show(if V.fr=f then 4 else 7)<=_;split<;>omega
 |r1 k n=>
  have h1:=rk aF bL;have u:bO N ⟨.r1 k n,s⟩=(n::iL k).length+s.gone.length:=gB _ _ λ _=>rfl
  rw[List.length_cons] at u;show 2+3*S+4*(s.gone.length+1)+rK aa V.W X k<=_;omega
 |r2 k n er=>
  have h1:=rk aF bL;have u:bO N ⟨.r2 k n er,s⟩=(n::iL k).length+s.gone.length:=gB _ _ λ _=>rfl
  rw[List.length_cons] at u;show 1+3*S+4*(s.gone.length+1)+rK aa V.W X k<=_;omega
 |rs k held c cs=>
  have h1:=rk aF bL;have u:bO N ⟨.rs k held c cs,s⟩=(iL k).length+s.gone.length:=gB _ _ λ _=>rfl
  have J:=ct.2.2.1;simp only[List.length_cons] at J;show 1+cs.length+4*s.gone.length+rK aa V.W X k<=_;omega
 |s1 k held y gs stay=>have h1:=rk aF bL;have u:bO N ⟨.s1 k held y gs stay,s⟩=(iL k++(y::(gs++stay)).map (·.1)).length:=rfl;simp only[List.length_append,List.length_map,List.length_cons] at u;show 4+4*gs.length+rK aa V.W X k<=_;omega
 |w1 k held y gs stay=>have h1:=rk aF bL;have u:bO N ⟨.w1 k held y gs stay,s⟩=(iL k++(y::(gs++stay)).map (·.1)).length:=rfl;simp only[List.length_append,List.length_map,List.length_cons] at u;show 3+4*gs.length+rK aa V.W X k<=_;omega
 |w2 k held y gs stay f=>have h1:=rk aF bL;have u:bO N ⟨.w2 k held y gs stay f,s⟩=(iL k++(y::(gs++stay)).map (·.1)).length:=rfl;simp only[List.length_append,List.length_map,List.length_cons] at u;show(if V.fr=f then 2 else 5)+4*gs.length+rK aa V.W X k<=_;split<;>omega
 |w3 k held y gs stay f=>have h1:=rk aF bL;have u:bO N ⟨.w3 k held y gs stay f,s⟩=(iL k++(y::(gs++stay)).map (·.1)).length:=rfl;simp only[List.length_append,List.length_map,List.length_cons] at u;show(if V.fr=f then 1 else 4)+4*gs.length+rK aa V.W X k<=_;split<;>omega
theorem Wx{x:Int}(aF:cJ q)(bL:ie ro op q.R)(hk:op.kind=2)(G:cC q.R=some x):nu aa S V X q<=8:=by
 obtain⟨R,s⟩:=q;have lz:∀{f:Fk},sx op f->k6 f=some x->False:=λ{f} h1 u=>by
  cases f with
  |fin a=>have h1:op.kind=3:=h1;omega
  |_=>cases u
 cases R with
 |fin o=>exact Nat.zero_le _
 |bn k=>exact absurd aF id
 |at_ k=>
  cases k with
  |ls o f a b D cur w t=>exact absurd G λ h=>lz bL.2 h
  |lo o f a b D cur w t k=>exact absurd G λ h=>lz bL.2 h
  |cu o f a b D cur w=>exact absurd G λ h=>lz bL.2 h
  |gv o cur pt=>have:op.kind=1:=bL.2;omega
  |cd o D cur nx a=>have:op.kind=3:=bL.2;omega
  |p1=>cases G
  |p2=>cases G
  |p0=>cases G
  |cp=>cases G
  |cm=>cases G
  |_=>exact absurd aF id
 |t1 k=>obtain⟨o,v,D,cur,rfl⟩:=aF;cases G
 |t2 k f=>obtain⟨o,v,D,cur,rfl⟩:=aF;cases G
 |t3 k f lk=>obtain⟨o,v,D,cur,rfl⟩:=aF;cases G
 |t4 k n a=>obtain⟨o,v,D,cur,rfl⟩:=aF;cases G
 |t5 k n a b=>obtain⟨o,v,D,cur,rfl⟩:=aF;cases G
 |g1 k i c=>rcases aF with⟨o,f,rfl⟩|⟨o,f,a,D,cur,rfl,_⟩<;>exact absurd G λ h=>lz bL.2 h
 |g2 k i c v a=>rcases aF with⟨o,f,rfl⟩|⟨o,f,bF,D,cur,rfl,_⟩<;>exact absurd G λ h=>lz bL.2 h
 |g3 k i c er=>rcases aF with⟨o,f,rfl⟩|⟨o,f,a,D,cur,rfl,_⟩<;>exact absurd G λ h=>lz bL.2 h
 |c k i=>
  have h1:=JR s;rcases aF.2.2.2 with⟨o,rfl⟩|⟨n,a,rfl⟩
  ·show nz s+0<=8;omega
  ·have:op.kind=3:=bL;omega
 |v1 k n=>show 6<=_;omega
 |v2 k n f=>show(if V.fr=f then 5 else 8)<=_;split<;>omega
 |v3 k n f=>show(if V.fr=f then 4 else 7)<=_;split<;>omega
 |r1 k n=>rcases aF with⟨o,f,a,b,D,nx,pt,rfl⟩|⟨a,rfl⟩<;>first|exact absurd G λ h=>lz bL.2 h|(have:op.kind=3:=bL;omega)
 |r2 k n er=>rcases aF with⟨o,f,a,b,D,nx,pt,rfl⟩|⟨a,rfl⟩<;>first|exact absurd G λ h=>lz bL.2 h|(have:op.kind=3:=bL;omega)
 |rs k held c cs=>rcases aF with⟨o,f,a,b,D,nx,pt,rfl⟩|⟨a,rfl⟩<;>first|exact absurd G λ h=>lz bL.2 h|(have:op.kind=3:=bL;omega)
 |s1 k held y gs stay=>rcases aF with⟨o,f,a,b,D,nx,pt,rfl⟩|⟨a,rfl⟩<;>first|exact absurd G λ h=>lz bL.2 h|(have:op.kind=3:=bL;omega)
 |w1 k held y gs stay=>rcases aF with⟨o,f,a,b,D,nx,pt,rfl⟩|⟨a,rfl⟩<;>first|exact absurd G λ h=>lz bL.2 h|(have:op.kind=3:=bL;omega)
 |w2 k held y gs stay f=>rcases aF with⟨o,f,a,b,D,nx,pt,rfl⟩|⟨a,rfl⟩<;>first|exact absurd G λ h=>lz bL.2 h|(have:op.kind=3:=bL;omega)
 |w3 k held y gs stay f=>rcases aF with⟨o,f,a,b,D,nx,pt,rfl⟩|⟨a,rfl⟩<;>first|exact absurd G λ h=>lz bL.2 h|(have:op.kind=3:=bL;omega)
end
section
variable{p:bU}{W:Ws}
theorem abS{b:Int}{ex:List Int}(h0:0<=b)(h1:b<p.b)(hx:b∉ex):eK p W (b::ex)+(if W.ob (aQ p b)=0 then 1 else 0)=eK p W ex:=by
 by_cases hw:W.ob (aQ p b)=0
 ·rw[if_pos hw];exact Sr h0 h1 hw hx
 ·rw[if_neg hw,Nat.add_zero];unfold eK;refine List.countP_congr λ x _=>?_
  by_cases e:(x:Int)=b
  ·rw[e];simp[hw]
  ·simp[e]
theorem xW:∀{ex:List Int},ex.Nodup->(∀c∈ex,0<=c/\c<p.b)->eK p W ex+jl p W ex=zN p W
 |[],_,_=>by
  unfold eK jl zN;simp
 |c::ex,K,hr=>by
  have h1:=List.nodup_cons.1 K;have u:=xW h1.2 λ x hx=>hr x (by simp[hx])
  have J:=hr c (by simp);have h4:=abS (W:=W) J.1 J.2 h1.1;have h5:jl p W (c::ex)=jl p W ex+if W.ob (aQ p c)=0 then 1 else 0:=by
   unfold jl;rw[List.countP_cons]
   by_cases h:W.ob (aQ p c)=0<;>simp[h]
  omega
theorem QE(G:dZ p){op:a9}{z:Int}(hz:lI p z):∀{al:List Int}{b:Int},s9 op z b al->al.Nodup
 |[],_,_=>List.nodup_nil
 |c::al,b,⟨_,_,_,h4⟩=>List.nodup_cons.2 ⟨λ h=>by have:=(B3 G hz h4 c h).1;omega,QE G hz h4⟩
def Af(b:Int):Nat:=if b=0 then 3 else if b=1\/b=2\/b=4 then 2 else if b=3\/b=5\/b=6 then 1 else 0
theorem abC{c:Int}(h0:0<c)(h1:c<8):Af c+1<=Af (eH c):=by
 obtain⟨p1,p2,p3,p4,p5,p6,p7⟩:=WZ;rcases Cy (by omega) h1 with rfl|rfl|rfl|rfl|rfl|rfl|rfl|rfl
 ·omega
 ·rw[p1];decide
 ·rw[p2];decide
 ·rw[p3];decide
 ·rw[p4];decide
 ·rw[p5];decide
 ·rw[p6];decide
 ·rw[p7];decide
theorem KF(G:dZ p){op:a9}{z:Int}(hz:lI p z):∀{al:List Int}{b:Int},s9 op z b al->al.length<=Af b
 |[],_,_=>Nat.zero_le _
 |c::al,b,⟨h1,u,J,h4⟩=>by
  have:=hz.e8 G;have h5:=KF G hz h4;have h6:=abC u (show c<8 by omega);rw[<-h1] at h6;rw[List.length_cons];omega
theorem abB(b:Int):Af b<=3:=by unfold Af;split;omega;split;omega;split<;>omega
theorem Sh{b:Int}(h:0<b):Af b<=2:=by unfold Af;rw[if_neg (by omega)];split;omega;split<;>omega
theorem Gf{ex:List Int}(hb:1<=p.b)(h0:W.ob (aQ p 0)≠0)(K:ex.Nodup)(hr:∀c∈ex,0<c/\c<p.b):zN p W+c9 p W ex+1<=p.b.toNat:=by
 have hz:=List.length_eq_countP_add_countP (λ(c:Nat)=>decide (W.ob (aQ p (c:Int))=0)) (l:=List.range p.b.toNat);rw[List.length_range] at hz;have h1:((0:Int)::ex.filter λ c=>decide (W.ob (aQ p c)≠0)).length<=(((List.range p.b.toNat).filter λ(c:Nat)=>decide ¬(decide (W.ob (aQ p (c:Int))=0)=true)).map λ(c:Nat)=>(c:Int)).length:=by
  refine GG (List.nodup_cons.2 ⟨λ h=>?_,List.Pairwise.sublist List.filter_sublist K⟩) λ x hx=>?_
  ·have:=(hr 0 (List.mem_filter.1 h).1).1;omega
  ·have cX:0<=x/\x<p.b/\W.ob (aQ p x)≠0:=by
    rcases List.mem_cons.1 hx with rfl|hx
    ·exact⟨Int.le_refl 0,by omega,h0⟩
    ·obtain⟨a1,a2⟩:=List.mem_filter.1 hx;have:=hr x a1;exact⟨by omega,by omega,of_decide_eq_true a2⟩
   refine List.mem_map.2 ⟨x.toNat,List.mem_filter.2 ⟨List.mem_range.2 (by omega),?_⟩,by omega⟩;rw[show((x.toNat:Nat):Int)=x by omega];simp[cX.2.2]
 rw[List.length_cons,List.length_map,<-List.countP_eq_length_filter,<-List.countP_eq_length_filter] at h1;unfold zN c9;omega
end
section
variable{p:bU}{i:Nat}{t:cP}{V:Vw}{aw X:List Int}{g:dF}
theorem GS(G:dZ p){W:Ws}{r:Nat}(hz:zN p W+1<=p.b.toNat)(h1:r<=11){gj mk tl:Nat}(h4:gj+mk+r<=12)(h5:tl+zN p W+r+mk<=p.b.toNat+12){c:Nat}(F:c<=4*tl+86):4*ko (mM p W r [] [])+21*eK p W []+20*0+42*r+(17*gj+28*mk+(4*mM p W r [] []+4*c9 p W []+4*0)*tl)+c<=1500:=by
 have nt:=iX G;have yD:=xW (p:=p) (W:=W) (ex:=[]) List.nodup_nil (λ c h=>by cases h);have e2:c9 p W []=0:=rfl;have e3:jl p W []=0:=rfl;have h:=aak r (eK p W []) 0 tl gj mk rfl h1 (by omega) h4 (by omega);unfold mM;rw[e2,e3];have e:(4*(r+eK p W []+0)+4*0+4*0)*tl=(4*(r+eK p W []+0)+0)*tl:=by rfl
 omega
theorem SR(G:dZ p){op:a9}{z c:Int}{al:List Int}(hz:lI p z)(h0:0<c)(h1:c<z)(T:s9 op z c al):(c::al).Nodup/\∀x∈c::al,0<x/\x<p.b:=by
 have afP:=hz.2;refine⟨List.nodup_cons.2 ⟨λ h=>by have:=(B3 G hz T c h).1;omega,QE G hz T⟩,λ x hx=>?_⟩;rcases List.mem_cons.1 hx with rfl|hx
 ·omega
 ·have:=B3 G hz T x hx;omega
theorem Vz(W:Ws)(c:Int)(al:List Int):jl p W (c::al)=jl p W al+(if W.ob (aQ p c)=0 then 1 else 0)/\c9 p W (c::al)=c9 p W al+(if W.ob (aQ p c)=0 then 0 else 1):=by
 unfold jl c9;rw[List.countP_cons,List.countP_cons]
 by_cases h:W.ob (aQ p c)=0<;>simp[h]
theorem aiC(G:dZ p)(hG:GH p i t V aw X g)(hC:CJ p t V.W X g)(hN:NJ p t){w:Nat}{x:bp}{ws:List a9}(hx:t.ar[w]?=some x)(hw:p.want[w]?=some ws)(h0:x.op.kind≠0)(pN:1<=x.next):iN p V X (ws.length-x.next) (bo p x)<=1500:=by
 have nt:=iX G;have ads:=pm G;obtain⟨tb,akm⟩:=QG G hG hC hx hw;have fD:=hC.next w x ws hx hw;have Fm:2*g.ret+dT V.W X+dS V.W X+yQ p t<=(t.ar.map (·.next)).sum:=hC.jS;have F0:=(Ds hG hC).2 w x ws hx hw;have Az:=G.sum;have jH:ws.length<=(p.want.map List.length).sum:=sU List.length hw;have I3:one (fz (bo p x))<=yQ p t:=sU (λ x=>one (fz (bo p x))) hx;have fC:bO (nQ p) (bo p x).q<=g.ret:=Nat.le_trans (sU (λ x=>bO (nQ p) (bo p x).q) hx) hC.dead;have yy:=hG.iv w x hx;have bv:=yy.op.resolve_left h0;have hk:=yy.hk h0;have Bh:=xv (p:=p) hx;have o6:=hN.err w x hx;have jD:V.W.ob (aQ p 0)≠0:=by rw[hG.nh.b0];omega
 generalize hr:ws.length-x.next=r;generalize bo p x=h at*;have sQ:r<=11:=by omega
 have yD:zN p V.W+1<=p.b.toNat:=by have:=Gf (p:=p) (W:=V.W) (ex:=[]) (by omega) jD List.nodup_nil (λ c h=>by cases h);omega
 have alR:dT V.W X+dS V.W X+one (fz h)+r<=12:=by omega
 have U6:X.length+zN p V.W+dS V.W X+one (fz h)+r<=p.b.toNat+12+one (iQ h).isSome:=by omega
 have ad4:bO (nQ p) h.q<=6:=by omega
 obtain⟨ph,q,made⟩:=h;have Bh:(jK p t.ar)[w]?=some q:=Bh;cases ph with
 |sz=>have e1:one (fz ⟨.sz,q,made⟩)=1:=rfl;have e2:one (iQ ⟨.sz,q,made⟩).isSome=0:=rfl;have yE:=xW (p:=p) (W:=V.W) (ex:=[]) List.nodup_nil (λ c h=>by cases h);have e3:jl p V.W []=0:=rfl;have e4:c9 p V.W []=0:=rfl;have:=Rq r (eK p V.W []) (jl p V.W []) (c9 p V.W []) X.length (dT V.W X) (dS V.W X) sQ (by omega) (by omega) (by omega) (by omega);rw[Px];unfold mM bj;omega
 |ld z al b=>
  have e1:one (fz ⟨.ld z al b,q,made⟩)=1:=rfl;have e2:one (iQ ⟨.ld z al b,q,made⟩).isSome=0:=rfl;obtain⟨hz,hb,T,hi⟩:=hk;have hnd:=QE G hz T;have ou:∀c∈al,0<c/\c<p.b:=λ c F=>by have:=B3 G hz T c F;have:=hz.2;omega
  have yE:=xW (p:=p) (W:=V.W) hnd λ c F=>by have:=ou c F;omega
  have vi:=Gf (p:=p) (W:=V.W) (by omega) jD hnd ou;have Z:=KF G hz T;have NZ:=abB b;have rF:=OE (p:=p) (W:=V.W) (al:=al);have:=Rq r (eK p V.W al) (jl p V.W al) (c9 p V.W al) X.length (dT V.W X) (dS V.W X) sQ (by omega) (by omega) (by omega) (by omega);rw[GU];unfold mM bj;rw[<-rF];omega
 |li z aU d aN=>
  have NC:=hk;obtain⟨hz,ht,K,⟨gone,ap,hR,nG,hm⟩,io,rJ⟩:=hk;have hR:q=_:=hR;have aF:cJ q:=A1 bv NC;have eN:=vL (op:=x.op) (l:=aO p) (aU:=aU) (d:=d) bv.1;have bL:ie (eu x.op aU d) (cB (aO p) x.op aU d) q.R:=by rw[hR];exact yL ap (xB _ _ _) ⟨rfl,B1 eN⟩
  have Nf:∀(aa B:Nat),(∀f,sx (cB (aO p) x.op aU d) f->eF aa (eu x.op aU d) f<=B)->nu aa p.want.length V X q<=4*X.length+53+B:=λ aa B hB=>ahS G.w3 hG.inv Bh aF bL hB ad4
  cases aU with
  |nil=>
   rw[Pv];have e2:one (iQ ⟨.li z [] d aN,q,made⟩).isSome=0:=rfl
   by_cases u:x.op.kind=2
   ·cases cW:cC q.R with
    |none=>
     have e1:one (fz ⟨.li z [] d aN,q,made⟩)=1:=by show one (cC q.R).isNone=1;rw[cW];rfl
     have J:=Nf (4*mM p V.W r [] []+4*c9 p V.W []+4*0) (29+(4*mM p V.W r [] []+4*c9 p V.W []+4*0)) λ f hf=>by
      cases f with
      |put v n=>simp only[eF,oE];split<;>omega
      |get=>have:x.op.kind=1:=hf;omega
      |del=>have:x.op.kind=3:=hf;omega
      |fin a=>have:x.op.kind=3:=hf;omega
     have yE:=xW (p:=p) (W:=V.W) (ex:=[]) List.nodup_nil (λ c h=>by cases h);have e3:jl p V.W []=0:=rfl;have e4:c9 p V.W []=0:=rfl;have h4:=aal r (eK p V.W []) 0 X.length (dT V.W X) (dS V.W X) rfl sQ (by omega) (by omega) (by omega);unfold mM at J⊢;rw[e3,e4] at J⊢;unfold bj;have e:(4*(r+eK p V.W []+0)+4*0+4*0)*X.length=(4*(r+eK p V.W []+0)+0)*X.length:=by rfl
     omega
    |some y=>have J:=Wx (aa:=4*mM p V.W r [] []+4*c9 p V.W []+4*0) (S:=p.want.length) (V:=V) (X:=X) aF bL u cW;exact GS G yD sQ (by omega) (by omega) (by omega)
   ·have J:=Nf (4*mM p V.W r [] []+4*c9 p V.W []+4*0) 30 λ f hf=>by
     cases f with
     |put v n=>have:x.op.kind=2:=hf.1;omega
     |get=>show 4<=30;omega
     |del=>show 30<=30;omega
     |fin a=>show 3<=30;omega
    exact GS G yD sQ (by omega) (by omega) (by omega)
  |cons c al=>
   rw[Pw];have e1:one (fz ⟨.li z (c::al) d aN,q,made⟩)=1:=rfl;obtain⟨hnd,ou⟩:=SR G hz ht.1 ht.2.1 ht.2.2;have yE:=xW (p:=p) (W:=V.W) hnd λ c F=>by have:=ou c F;omega
   have vi:=Gf (p:=p) (W:=V.W) (by omega) jD hnd ou;obtain⟨k1,k2⟩:=Vz (p:=p) V.W c al;have Z:=KF G hz ht.2.2;have NZ:=Sh ht.1;have rF:=OE (p:=p) (W:=V.W) (al:=al);have c8:oE (eu x.op (c::al) d)=0:=by have:=xV G hz (c:=c) (by have:=ht.1;omega) ht.2.1;unfold oE;rw[if_neg (show¬(eu x.op (c::al) d).o%2=1 from by show¬fv c%2=1;omega)]
   have J:∀aa,nu aa p.want.length V X q<=4*X.length+53+(12+aa):=λ aa=>Nf aa (12+aa) λ f hf=>by
    cases f with
    |put v n=>simp only[eF];omega
    |get=>have:(2:Int)=1:=hf;omega
    |del=>have:(2:Int)=3:=hf;omega
    |fin a=>have:(2:Int)=3:=hf;omega
   cases Nv:iQ ⟨.li z (c::al) d aN,q,made⟩ with
   |some aT=>
    rw[Nv] at U6;have e2:one (some aT).isSome=1:=rfl;obtain⟨amL,v,b,_,ho⟩:=RO Nv;obtain⟨y,hy⟩:=GN ho;have h4:∀aa,nu aa p.want.length V X q<=8:=λ aa=>Wx aF bL rfl hy
    have h5:=h4 (if V.W.ob (aQ p c)=0 then 4*mM p V.W r (c::al) al+4*c9 p V.W al+4 else 0);have k3:(if V.W.ob (aQ p c)=0 then 1 else 0:Nat)+(if V.W.ob (aQ p c)=0 then 0 else 1:Nat)=1:=by split<;>rfl
    have h6:=Rp r (eK p V.W (c::al)) (jl p V.W al) (c9 p V.W al) X.length (dT V.W X) (dS V.W X) sQ (by omega) (by omega) (by omega) (by omega);unfold mM at h5⊢;unfold bj;rw[<-rF];omega
   |none=>
    rw[Nv] at U6;have e2:one (none:Option Int).isSome=0:=rfl
    by_cases Jf:V.W.ob (aQ p c)=0
    ·rw[if_pos Jf] at k1 k2⊢;have h5:=J (4*mM p V.W r (c::al) al+4*c9 p V.W al+4);have h6:=aai r (eK p V.W (c::al)) (jl p V.W al) (c9 p V.W al) X.length (dT V.W X) (dS V.W X) sQ (by omega) (by omega) (by omega) (by omega);unfold mM at h5⊢;unfold bj;rw[<-rF];omega
    ·rw[if_neg Jf] at k1 k2⊢;have h5:=J 0;have h6:=aah r (eK p V.W (c::al)) (jl p V.W al) (c9 p V.W al) X.length (dT V.W X) (dS V.W X) sQ (by omega) (by omega) (by omega) (by omega);unfold mM;unfold bj;rw[<-rF];omega
 |cb z al c n=>
  have e1:one (fz ⟨.cb z al c n,q,made⟩)=1:=rfl;have e2:one (iQ ⟨.cb z al c n,q,made⟩).isSome=1:=rfl;obtain⟨hz,F,T,hn,hi⟩:=hk;obtain⟨hnd,ou⟩:=SR G hz F.1 F.2 T;have yE:=xW (p:=p) (W:=V.W) hnd λ c F=>by have:=ou c F;omega
  have vi:=Gf (p:=p) (W:=V.W) (by omega) jD hnd ou;obtain⟨k1,k2⟩:=Vz (p:=p) V.W c al;have Z:=KF G hz T;have NZ:=Sh F.1;have rF:=OE (p:=p) (W:=V.W) (al:=al);have k3:(if V.W.ob (aQ p c)=0 then 1 else 0:Nat)+(if V.W.ob (aQ p c)=0 then 0 else 1:Nat)=1:=by split<;>rfl
  have:=Rp r (eK p V.W (c::al)) (jl p V.W al) (c9 p V.W al) X.length (dT V.W X) (dS V.W X) sQ (by omega) (by omega) (by omega) (by omega);rw[Pu];unfold mM bj;rw[<-rF];omega
 |ad z o=>rw[sW r ⟨.ad z o,q,made⟩ 3 rfl rfl rfl rfl];have e2:one (iQ ⟨.ad z o,q,made⟩).isSome=0:=rfl;exact GS G yD sQ (by omega) (by omega) (by omega)
 |cz z o=>rw[sW r ⟨.cz z o,q,made⟩ 2 rfl rfl rfl rfl];have e2:one (iQ ⟨.cz z o,q,made⟩).isSome=0:=rfl;exact GS G yD sQ (by omega) (by omega) (by omega)
 |fin o=>rw[sW r ⟨.fin o,q,made⟩ 1 rfl rfl rfl rfl];have e2:one (iQ ⟨.fin o,q,made⟩).isSome=0:=rfl;exact GS G yD sQ (by omega) (by omega) (by omega)
def pX(p:bU)(V:Vw)(X:List Int)(ws:List a9)(x:bp):Nat:=if x.op.kind=0 then(if ws.length<=x.next then 0 else iN p V X (ws.length-x.next) (bo p x)-1) else iN p V X (ws.length-x.next) (bo p x)
theorem XA(G:dZ p)(hG:GH p i t V aw X g)(hC:CJ p t V.W X g)(hN:NJ p t)(hO:∀(w:Nat)(x:bp),t.ar[w]?=some x->x.op.kind≠0->1<=x.next){w:Nat}{x:bp}{ws:List a9}(hx:t.ar[w]?=some x)(hw:p.want[w]?=some ws):pX p V X ws x<=1500:=by
 unfold pX
 by_cases h0:x.op.kind=0
 ·rw[if_pos h0];split
  ·omega
  ·have nt:=iX G;obtain⟨tb,akm⟩:=QG G hG hC hx hw;have Fm:2*g.ret+dT V.W X+dS V.W X+yQ p t<=(t.ar.map (·.next)).sum:=hC.jS;have F0:=(Ds hG hC).2 w x ws hx hw;have Az:=G.sum;have jH:ws.length<=(p.want.map List.length).sum:=sU List.length hw;have jD:V.W.ob (aQ p 0)≠0:=by rw[hG.nh.b0];omega
   have yD:=Gf (p:=p) (W:=V.W) (ex:=[]) (by omega) jD List.nodup_nil (λ c h=>by cases h);have yE:=xW (p:=p) (W:=V.W) (ex:=[]) List.nodup_nil (λ c h=>by cases h);rw[oW h0] at tb⊢;have e1:one (fz (⟨.fin gl,pS x.gone,0⟩:Hq))=0:=rfl;have e2:one (iQ (⟨.fin gl,pS x.gone,0⟩:Hq)).isSome=0:=rfl;have e3:jl p V.W []=0:=rfl;have e4:c9 p V.W []=0:=rfl;generalize hr:ws.length-x.next=r;rw[sW r ⟨.fin gl,pS x.gone,0⟩ 1 rfl rfl rfl rfl];have h:=aaj r (eK p V.W []) 0 X.length (dT V.W X) (dS V.W X) rfl (by omega) (by omega) (by omega) (by omega);unfold mM bj;rw[e3,e4];have e:(4*(r+eK p V.W []+0)+4*0+4*0)*X.length=(4*(r+eK p V.W []+0)+0)*X.length:=by rfl
   omega
 ·rw[if_neg h0];exact aiC G hG hC hN hx hw h0 (hO w x hx h0)
theorem W6{r:Nat}{h:Hq}:1<=iN p V X r h:=by
 have:1<=L3 p V X r h:=by
  obtain⟨ph,q,made⟩:=h;cases ph with
  |li z aU d aN=>
   cases aU with
   |nil=>show 1<=nu _ _ _ _ _+3;omega
   |cons c al=>show 1<=nu _ _ _ _ _+41+_;omega
  |sz=>show 1<=42+_;omega
  |ld z al b=>show 1<=41+_;omega
  |cb z al c n=>show 1<=41+_;omega
  |ad z o=>show 1<=3;omega
  |cz z o=>show 1<=2;omega
  |fin o=>show 1<=1;omega
 unfold iN;omega
theorem Ki{ws:List a9}{x:bp}:pX p V X ws x=0↔x.op.kind=0/\ws.length<=x.next:=by
 unfold pX
 by_cases h0:x.op.kind=0
 ·rw[if_pos h0];split
  ·rename_i h;exact⟨λ _=>⟨h0,h⟩,λ _=>rfl⟩
  ·rename_i h;refine⟨λ h1=>?_,λ h1=>absurd h1.2 h⟩;unfold iN at h1;omega
 ·rw[if_neg h0];have:=W6 (p:=p) (V:=V) (X:=X) (r:=ws.length-x.next) (h:=bo p x);exact⟨λ h=>by omega,λ h=>absurd h.1 h0⟩
def OJ(t:cP):Prop:=∀(w:Nat)(x:bp),t.ar[w]?=some x->x.op.kind≠0->1<=x.next
theorem OJ.step{fA:cP}{ba:Vw}{cE be:List Int}{bg:dF}{au:Nat}(hS:nW p au t V aw X g fA ba cE be bg)(h:OJ t):OJ fA:=by
 cases hS with
 |idle=>exact h
 |done x hh o hx h0 cU ct Z cW hi=>
  intro w z hz h1;rw[AO] at hz;rcases pw hx hz with⟨_,rfl⟩|⟨_,u⟩
  ·exact absurd rfl h1
  ·exact h w z u h1
 |acc x y ws hh aB hx hw hy ho cU fe hk hm Z hK hq hI=>
  intro w z hz h1;simp only at hz;rcases pw hx hz with⟨_,rfl⟩|⟨_,u⟩
  ·show 1<=y.next;rcases tD hy with⟨J,e⟩|⟨h0,_,J,_⟩
   ·rw[e];exact h au x hx J
   ·omega
  ·exact h w z u h1
theorem aju(G:dZ p){fA:cP}{ba:Vw}{cE be:List Int}{bg:dF}{au:Nat}(hG:GH p i t V aw X g)(hC:CJ p t V.W X g)(hN:NJ p t)(hS:nW p au t V aw X g fA ba cE be bg){x y:bp}{ws:List a9}(hx:t.ar[au]?=some x)(hy:fA.ar[au]?=some y)(hw:p.want[au]?=some ws):pX p ba be ws y<pX p V X ws x\/pX p ba be ws y=0:=by
 cases hS with
 |idle qV akL cX F4 h0 ha=>rw[hx] at hy;cases hy;rw[hx] at cX;cases cX;rw[hw] at F4;cases F4;exact .inr (Ki.2 ⟨h0,ha⟩)
 |done qV hh o cX h0 cU ct Z cW hi=>
  rw[hx] at cX;cases cX;rw[AO,uG hx] at hy;cases hy;unfold pX;rw[if_neg h0,if_pos (show({x with op:=gZ,gone:=hh.q.s.gone}:bp).op.kind=0 from rfl)];split
  ·exact .inr rfl
  ·left;have h1:=W6 (p:=p) (V:=V) (X:=X) (r:=ws.length-x.next) (h:=bo p x);have e:iN p V X (ws.length-x.next) (bo p {x with op:=gZ,gone:=hh.q.s.gone})=iN p V X (ws.length-x.next) (bo p x):=by
    rw[<-cU,oW rfl];obtain⟨ph,q,made⟩:=hh;simp only at ct;subst ct
    rfl
   show iN p V X (ws.length-x.next) (bo p {x with op:=gZ,gone:=hh.q.s.gone})-1<_;omega
 |acc qV nV akL hh aB cX F4 Nz ho cU fe hk hm Z hK hq hI=>
  rw[hx] at cX;cases cX;rw[hw] at F4;cases F4;simp only at hy;rw[uG hx] at hy;cases hy;left;have o4:=tD Nz;have yt:hh.q=(bo p x).q:=by
   have u:=xv (p:=p) hx;rw[hq] at u
   simpa using u
  have NS:∀c,wF hh=some c->V.W.ob (aQ p (eH c))≠0:=by
   intro c F;rcases o4 with⟨_,e⟩|⟨h0,_,_,_,mr,_⟩
   ·rw[cU,e] at F;exact hC.head au x hx c F
   ·rw[cU,AC ho mr] at F;cases F
  have hn:oI hh:=by
   rcases o4 with⟨_,e⟩|⟨h0,_,_,_,mr,_⟩
   ·rw[cU,e];exact hN.err au x hx
   ·rw[cU,AC ho mr];trivial
  have um:2*g.ret+dT V.W X+dS V.W X<=12:=by have:=(QG G hG hC hx hw).2;omega
  have Fq:bO (nQ p) hh.q<=g.ret:=by rw[yt];exact Nat.le_trans (sU (λ x=>bO (nQ p) (bo p x).q) hx) hC.dead
  have K:=aim G hI hK hq ho hk hG.nh fe hC.par NS um Fq (Wq G hG hC hx ho hk yt fe hn) (ws.length-nV.next);have e1:bo p {nV with log:=nV.log++[(cF p au nV.op hh V).2],steps:=nV.steps++[t.step]}=eW (aO p) p.want.length nV.op hh (cF p au nV.op hh V).2:=by rw[wv ho,<-cU]
  have e2:pX p (cF p au nV.op hh V).1 (ot (nQ p) V.W X g hh).1 ws {nV with log:=nV.log++[(cF p au nV.op hh V).2],steps:=nV.steps++[t.step]}=iN p (cF p au nV.op hh V).1 (ot (nQ p) V.W X g hh).1 (ws.length-nV.next) (eW (aO p) p.want.length nV.op hh (cF p au nV.op hh V).2):=by unfold pX;rw[if_neg (yO ho),e1]
  rw[e2];refine Nat.lt_of_lt_of_le K ?_;rcases o4 with⟨h0,e⟩|⟨h0,h1,u,_,mr,_⟩
  ·unfold pX;rw[if_neg h0,cU,e];exact Nat.le_refl _
  ·unfold pX;rw[if_pos h0,if_neg (by omega),cU,AC ho mr,oW h0,u];obtain⟨m,hm⟩:∃m,ws.length-x.next=m+1:=⟨ws.length-x.next-1,by omega⟩;rw[hm,show ws.length-(x.next+1)=m by omega,sW (m+1) ⟨.fin gl,pS x.gone,0⟩ 1 rfl rfl rfl rfl];show iN p V X m ⟨.sz,_,_⟩<=_;rw[Px];have e3:mM p V.W (m+1) [] []=mM p V.W m [] []+1:=by unfold mM;omega
   rw[e3,ko,show 4*(mM p V.W m [] []+1)+4*c9 p V.W []+4*0=4*mM p V.W m [] []+4*c9 p V.W []+4 by omega];omega
theorem Kt{fA:cP}{ba:Vw}{cE be:List Int}{bg:dF}{au w:Nat}(hS:nW p au t V aw X g fA ba cE be bg)(aW:w≠au):fA.ar[w]?=t.ar[w]?:=by
 cases hS with
 |idle=>rfl
 |done x hh o hx h0 cU ct Z cW hi=>rw[AO,List.getElem?_set_ne (by omega)]
 |acc x y ws hh aB hx hw hy ho cU fe hk hm Z hK hq hI=>simp only;rw[List.getElem?_set_ne (by omega)]
def Zo(p:bU)(ts:List Int)(i:Nat)(t:cP)(V:Vw)(X:List Int):Prop:=∀(w:Nat)(x:bp)(ws:List a9),t.ar[w]?=some x->p.want[w]?=some ws->pX p V X ws x<=1500-(i-(ts.length+1500*w))
end
structure QY(p:bU)(ts:List Int)(i:Nat)(t:cP)(V:Vw)(X:List Int)(g:dF):Prop where
 c:CJ p t V.W X g
 n:NJ p t
 o:OJ t
 e:Zo p ts i t V X
theorem xC{p:bU}(G:dZ p){ts:List Int}(dR:ts.length<=300):∀i,i<=hZ p ts->∃V aw X g,GH p (2*i+1) (bb p ts i) V aw X g/\QY p ts i (bb p ts i) V X g:=by
 have UL:OJ (i6 (aO p) p.want.length):=λ w x hx h=>by
  simp only[i6,List.getElem?_replicate] at hx;split at hx
  ·cases hx;exact absurd rfl h
  ·cases hx
 refine KD G dR (λ i V _ X g=>QY p ts i (bb p ts i) V X g) ⟨CJ.start G,NJ.start p,UL,λ w x ws hx hw=>?_⟩ (λ i V aw X g ba cE be bg hi hG hS tP h=>?_)
 ·have:=XA G (KZ G) (CJ.start G) (NJ.start p) UL hx hw;omega
 ·have aT:=h.c.step G hG hS;have cO:=h.n.step G hG h.c hS;have o':=h.o.step hS;refine⟨aT,cO,o',λ w y ws hy jH=>?_⟩;have fD:=XA G tP aT cO o' hy jH
  by_cases alU:i+1<=ts.length+1500*w
  ·omega
  by_cases UE:w=bN p.want.length ts i
  ·subst UE;obtain⟨x,hx⟩:∃x,(bb p ts i).ar[bN p.want.length ts i]?=some x:=⟨_,List.getElem?_eq_getElem (by have:=hG.n;have:=KN G hi;omega)⟩;have h1:=h.e _ x ws hx jH;rcases aju G hG h.c h.n hS hx hy jH with u|u<;>omega
  ·have afL:(bb p ts i).ar[w]?=some y:=by rw[<-Kt hS UE];exact hy
   have h0:=h.e w y ws afL jH;have aml:1500<=i-(ts.length+1500*w):=by
    have afy:ts[i]?=none:=List.getElem?_eq_none (by omega);have vu:bN p.want.length ts i=(i-ts.length)/1500:=by unfold bN;rw[afy]
    omega
   have hz:pX p V X ws y=0:=by omega
   rw[Ki.2 (Ki.1 hz)];exact Nat.zero_le _
theorem PB{p:bU}(G:dZ p){ts:List Int}(dR:ts.length<=300):vo (aO p) p.want ts=bb p ts (hZ p ts)/\∀(w:Nat)(x:bp)(ws:List a9),(bb p ts (hZ p ts)).ar[w]?=some x->p.want[w]?=some ws->x.op.kind=0/\ws.length<=x.next:=by
 have key:∀i,i<=hZ p ts->∀(w:Nat)(x:bp)(ws:List a9),ts.length+1500*(w+1)<=i->(bb p ts i).ar[w]?=some x->p.want[w]?=some ws->x.op.kind=0/\ws.length<=x.next:=by intro i hi w x ws h1 hx hw;obtain⟨V,aw,X,g,hG,hJ⟩:=xC G dR i hi;have:=hJ.e w x ws hx hw;exact Ki.1 (show pX p V X ws x=0 by omega)
 have dH:hZ p ts=ts.length+1500*p.want.length:=rfl;refine⟨aiF G dR λ w hw=>?_,λ w x ws hx hw=>?_⟩
 ·have hi:ts.length+1500*(w+1)<=hZ p ts:=by omega
  obtain⟨V,aw,X,g,hG,hJ⟩:=xC G dR _ hi;obtain⟨x,hx⟩:∃x,(bb p ts (ts.length+1500*(w+1))).ar[w]?=some x:=⟨_,List.getElem?_eq_getElem (by have:=hG.n;omega)⟩;have jH:p.want[w]?=some p.want[w]:=List.getElem?_eq_getElem hw;obtain⟨a,b⟩:=key _ hi w x _ (Nat.le_refl _) hx jH;unfold CO;rw[hx,jH];simp[a,b]
 ·have C7:=(List.getElem?_eq_some_iff.1 hw).1;exact key _ (Nat.le_refl _) w x ws (by omega) hx hw
end Go.Proofs.YtkkldicehapklaaGreat.Tq
