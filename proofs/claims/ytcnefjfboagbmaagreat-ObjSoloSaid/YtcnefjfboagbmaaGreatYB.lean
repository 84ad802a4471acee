/- One seat alone at a map. -/
import Derived.Test.YtcnefjfboagbmaaGreatYA
import Derived.Test.YtcnefjfboagbmaaGreatPA
namespace Go.Proofs.YtcnefjfboagbmaaGreat
set_option maxRecDepth 100000
theorem zx:gO 0=0/\gO 1=65536/\gO 2=32768/\gO 3=98304:=by decide
theorem vV{j:Int}(h0:0<=j)(h1:j<4):(j=0/\gO j=0)\/(j=1/\gO j=65536)\/(j=2/\gO j=32768)\/(j=3/\gO j=98304):=by
 have h:=zx;have:j=0\/j=1\/j=2\/j=3:=by omega
 rcases this with rfl|rfl|rfl|rfl
 ·exact .inl ⟨rfl,h.1⟩
 ·exact .inr (.inl ⟨rfl,h.2.1⟩)
 ·exact .inr (.inr (.inl ⟨rfl,h.2.2.1⟩))
 ·exact .inr (.inr (.inr ⟨rfl,h.2.2.2⟩))
theorem VQ{k z:Int}(h0:0<=k)(h1:k<65536)(hz:z=1\/z=2\/z=4):(0<=k%z/\k%z<z)/\gO (k%z)<l4 k:=by
 have h:=acV h0 h1;have hr:=LS h0 h1;unfold l4 gO;rcases hz with rfl|rfl|rfl
 ·rw[Int.emod_one,show fW 0=0 by decide];omega
 ·omega
 ·omega
theorem Ed{k:Int}(h0:0<=k)(h1:k<65536):0<l4 k/\l4 k<131072/\l4 k%2=1:=by have:=LS h0 h1;unfold l4;omega
theorem Ob{f:Nat->Bool}{k:Nat}:∀(n i:Nat),i<=k->k<=i+n->(∀j,i<=j->j<k->f j=false)->f k=true->nv f n i=k
 |0,i,h1,A,_,_=>by simp[nv];omega
 |n+1,i,h1,A,K,h4=>by
  rw[nv]
  by_cases X:i=k
  ·rw[X,if_pos h4]
  ·rw[if_neg (by rw[K i (Nat.le_refl _) (by omega)];simp)];exact Ob n (i+1) (by omega) (by omega) (λ j h5 h6=>K j (by omega) h6) h4
section
variable{l:ag}{N:Nat}{B o v:Int}{V aR:Vw}{s M:ah}{am aV:List Int}{al:List eW}
theorem aae{d kind:Int}{Q:List Hk->Vw->bf->ah->Prop}(hnd:0<=aE l d 0/\aE l d 0<l.size)(I:kind=1\/kind=2\/kind=3)(h:Rn l N (λ _=>DQ l (aE l d 0) kind o v) ⟨0,s.gone,0,0,0⟩ V Q)(hQ:∀ab aR x M,Q ab aR x M->0<=x.bS/\x.bS<M.made):
 Rn l N (λ _=>oh l 0 kind d o v) s V λ ab aR x M=>∃out s1,Q ab aR out s1/\x.1={out with bS:=out.bS+s.made,gone:=s1.gone}/\(∀a,ab[out.bS.toNat]?=some a->x.2=a.acc l)/\M={s with made:=s.made+s1.made,gone:=s1.gone}:=by
 obtain⟨ab,aR,out,s1,E,hq⟩:=h;have pH:=hQ _ _ _ _ hq;have Dh:s1.made=ab.length:=by rw[E.md];simp
 have CT:∀W:List aD,km l 0 s.gone kind d o v W=lB (DQ l (aE l d 0) kind o v W ⟨0,s.gone,0,0,0⟩):=by intro W;unfold km dw DQ;simp only;rw[if_neg (show¬aE l d 0<0 by omega),if_neg (λ h=>by have:=h.2.1;omega),if_neg (by omega)];rcases I with rfl|rfl|rfl<;>rfl
 have Jv:∀j(hj:j<ab.length),km l 0 s.gone kind d o v ((jk V ab).take j)=(ab[j].acc l,j8,false):=λ j hj=>by
  rw[CT];have:=E.er [] j ab[j] (j+1) rfl (List.getElem?_eq_getElem hj) (by omega);rw[List.nil_append] at this;rw[this];rfl
 have wj:∀W:List aD,km l 0 s.gone kind d o v (jk V ab++W)=(eN,{out with gone:=s1.gone},true):=λ W=>by
  rw[CT];have:=E.ok [] W (ab.length+1) rfl (by omega);rw[List.nil_append] at this;rw[this];rfl
 have Z:=sU ab V;refine⟨ab,aR,({out with bS:=out.bS+s.made,gone:=s1.gone},(ab[out.bS.toNat]'(by omega)).acc l),{s with made:=s.made+s1.made,gone:=s1.gone},⟨E.sf,E.ed,by rw[Dh],λ P rest _ hP _=>?_,λ P j a _ hP hj _=>?_⟩,out,s1,hq,rfl,λ a ha=>?_,rfl⟩
 ·unfold oh;simp only;rw[List.drop_append,List.drop_eq_nil_of_le (by omega),List.nil_append,show s.made-P.length=0 by omega,List.drop_zero,wj rest,if_neg (by simp),if_neg (by simp only;omega)];have C4:nv (λ k=>(km l 0 s.gone kind d o v ((jk V ab++rest).take k)).2.2) ((jk V ab++rest).length-(out.bS.toNat+1)) (out.bS.toNat+1)=ab.length:=by
   refine Ob _ _ (by omega) (by rw[List.length_append];omega) (λ j h1 A=>?_) ?_
   ·show(km l 0 s.gone kind d o v ((jk V ab++rest).take j)).2.2=false;rw[List.take_append_of_le_length (by omega),Jv j A]
   ·show(km l 0 s.gone kind d o v ((jk V ab++rest).take ab.length)).2.2=true;rw[<-Z,List.take_left,<-List.append_nil (jk V ab),wj]
  simp only;rw[C4,List.take_append_of_le_length (by omega),Jv _ (by omega),Dh]
 ·have mg:j<ab.length:=by
   rcases Nat.lt_or_ge j ab.length with h|h
   ·exact h
   ·rw[List.getElem?_eq_none h] at hj;cases hj
  unfold oh;simp only;rw[List.drop_append,List.drop_eq_nil_of_le (by omega),List.nil_append,show s.made-P.length=0 by omega,List.drop_zero,Jv j mg,if_pos rfl];rw[List.getElem?_eq_getElem mg] at hj;injection hj with hj
  rw[hj]
 ·rw[List.getElem?_eq_getElem (by omega)] at ha;injection ha with ha
  rw[ha]
def iL(al:List eW):List (Int×Int):=(al.filter λ x=>decide (x.2.1%2=1)).map λ x=>(yB x.2.1,x.2.2)
def il(al:List eW):Nat:=(al.filter λ x=>decide (x.2.1%2=0)).length
theorem IT{al ea:List eW}(h:al.Perm ea):(iL al).Perm (iL ea):=(h.filter _).map _
theorem IQ{al ea:List eW}(h:al.Perm ea):il al=il ea:=(h.filter _).length_eq
theorem Cy(x:eW)(al:List eW):iL (x::al)=if x.2.1%2=1 then(yB x.2.1,x.2.2)::iL al else iL al:=by
 unfold iL;rw[List.filter_cons]
 by_cases h:x.2.1%2=1
 ·rw[if_pos (by simpa using h),if_pos h];rfl
 ·rw[if_neg (by simpa using h),if_neg h]
theorem Fa(x:eW)(al:List eW):il (x::al)=if x.2.1%2=0 then il al+1 else il al:=by
 unfold il;rw[List.filter_cons]
 by_cases h:x.2.1%2=0
 ·rw[if_pos (by simpa using h),if_pos h];rfl
 ·rw[if_neg (by simpa using h),if_neg h]
theorem KM:∀al:List eW,al.length=(iL al).length+il al
 |[]=>rfl
 |x::al=>by
  have:=KM al;rw[Cy,Fa];have:x.2.1%2=0\/x.2.1%2=1:=by omega
  rcases this with h|h
  ·rw[if_neg (by omega),if_pos h,List.length_cons];omega
  ·rw[if_pos h,if_neg (by omega),List.length_cons,List.length_cons];omega
structure EJ(l:ag)(m base:Int):Prop where
 c0:hl l m 0=base
 c1:hl l m 1=base+1
 bk:∀b:Int,0<=b->b<l.buckets->hL l m b=base+2+b
 b4:l.buckets=1\/l.buckets=2\/l.buckets=4
 lo:9<=base
 X:base+2+l.buckets<=l.node
structure t8(l:ag)(base:Int)(ob:Int->Int)(al:List eW):Prop where
 sz:(ob base=1\/ob base=2\/ob base=4)/\ob base<=l.buckets
 bk:∀j:Int,0<=j->j<l.buckets->(ob (base+2+j)=0/\j≠0/\∀x∈al,x.2.1≠gO j)\/(ob (base+2+j),gO j,0)∈al
 od:∀x∈al,(∃k,(0<=k/\k<65536)/\x.2.1=l4 k)\/∃j,(0<=j/\j<l.buckets)/\x.2.1=gO j
structure Mo(l:ag)(N:Nat)(base B:Int)(V:Vw)(s:ah)(am aV:List Int)(al:List eW):Prop where
 cl:Cl N B V s am aV al
 mi:t8 l base V.W.ob al
 z:∀i,s.e i=0
 gl:s.gone.length<=1
theorem t8.IP(h:t8 l B V.W.ob al)(hr:Rw V.W.nd al)(T:l.buckets<=4):il al<=4:=by
 unfold il;rw[<-List.length_map (f:=λ x:eW=>x.2.1/32768+1)];refine wJ 4 _ ?_ λ y hy=>?_
 ·rw[List.Nodup,List.pairwise_map];have hp:(al.filter λ x=>decide (x.2.1%2=0)).Pairwise λ x y=>x.2.1<y.2.1:=List.Pairwise.sublist List.filter_sublist hr.up
  refine hp.imp_of_mem λ{a b} ha eC r8=>?_
  have key:∀a∈al.filter λ x=>decide (x.2.1%2=0),∃c:Int,a.2.1=32768*c:=λ a ha=>by
   obtain⟨h1,A⟩:=List.mem_filter.1 ha;have A:a.2.1%2=0:=by simpa using A
   rcases h.od a h1 with⟨k,I,e⟩|⟨j,hj,e⟩
   ·have:=Ed I.1 I.2;omega
   ·have:=vV hj.1 (by omega);rcases this with⟨_,h⟩|⟨_,h⟩|⟨_,h⟩|⟨_,h⟩
    ·exact⟨0,by omega⟩
    ·exact⟨2,by omega⟩
    ·exact⟨1,by omega⟩
    ·exact⟨3,by omega⟩
  obtain⟨c,L⟩:=key a ha;obtain⟨bw,ey⟩:=key b eC;omega
 ·obtain⟨x,O,rfl⟩:=List.mem_map.1 hy;obtain⟨h1,A⟩:=List.mem_filter.1 O;have A:x.2.1%2=0:=by simpa using A
  rcases h.od x h1 with⟨k,I,e⟩|⟨j,hj,e⟩
  ·have:=Ed I.1 I.2;omega
  ·have:=vV hj.1 (by omega);omega
theorem Lv.zero{s1:ah}(h:Lv N B V s1 am)(h1:∀i,s1.e i=0)(A:∀i,M.e i=0):Lv N B V M am:=⟨h.fo,h.er,h.bd,λ i i0 i2=>by rw[h.rv i i0 i2,h1,A],λ i=>.inl (A i)⟩
theorem BP.mem{kind n:Int}{ea:List eW}{out:bf}(h:BP kind o v al ea out n):(∀x∈ea,x∈al\/(kind=2/\x=(n,o,v)))/\(∀x∈al,x.2.1≠o\/kind=2->x∈ea):=by
 have same:(∀x∈al,x∈al\/(kind=2/\x=(n,o,v)))/\(∀x∈al,x.2.1≠o\/kind=2->x∈al):=⟨λ x O=>.inl O,λ x O _=>O⟩;rcases h with⟨x,O,uR,⟨_,e,_⟩|⟨_,e,_⟩|⟨K,hp,_⟩⟩|⟨_,⟨_,e,_⟩|⟨A,hp,_⟩⟩
 ·rw[e];exact same
 ·rw[e];exact same
 ·refine⟨λ y hy=>.inl (hp.mem_iff.2 (List.mem_cons_of_mem _ hy)),λ y hy tJ=>?_⟩;rcases List.mem_cons.1 (hp.mem_iff.1 hy) with rfl|hy
  ·omega
  ·exact hy
 ·rw[e];exact same
 ·refine⟨λ y hy=>?_,λ y hy _=>hp.mem_iff.2 (List.mem_cons_of_mem _ hy)⟩;rcases List.mem_cons.1 (hp.mem_iff.1 hy) with rfl|hy
  ·exact .inr ⟨A,rfl⟩
  ·exact .inl hy
theorem Rm{kind base:Int}{d:eW}(hN:N<=100)(hB:B<=70000)(hS:l.az=1)(AG:∀n i:Int,1<=n->n<=N->0<=i->i<=7->0<=aE l n i/\aE l n i<l.size)(I:kind=1\/kind=2\/kind=3)(h:Mo l N base B V s am aV al)(F:d∈al)(qt:d.2.1<o)(hF:am≠[])(Dr:o<9223372036854775808)(DA:v<9223372036854775808):
 Rn l N (λ _=>oh l 0 kind d.1 o v) s V λ _ aR x M=>∃bV ea n,Cl N (B+4) aR M bV aV ea/\(ea.map (·.1)++(bV++(M.gone.map (·.1)++aV))).Perm (al.map (·.1)++(am++(s.gone.map (·.1)++aV)))/\BP kind o v al ea x.1 n/\(kind=2->x.1.is=true->(1<=n/\n<=(N:Int))/\x.2.new=n)/\(∀m∈aV,aR.W.nd m=V.W.nd m)/\aR.W.ob=V.W.ob/\(∀i,M.e i=0)/\x.1.err=0/\(0<=x.1.bS/\x.1.bS<M.made)/\M.gone.length<=1/\M.made<=s.made+4*al.length+25/\am.length<=bV.length+1:=by
 have h2:Cl N B V ⟨0,s.gone,0,0,0⟩ am aV al:=⟨h.cl.lv.zero h.z λ i=>by unfold ah.e;simp,h.cl.rw,h.cl.nd,h.cl.rg⟩;have CW:=h.cl.mem F;have R:=aag (l:=l) (v:=v) hN hB hS I h2 F qt rfl h.gl hF Dr DA;refine(aae (AG d.1 0 CW.1.1 CW.1.2 (by omega) (by omega)) I R ?_).mono ?_
 ·rintro ab aR x M ⟨bV,ea,n,hh⟩;exact hh.pt
 ·rintro ab aR x M ⟨out,s1,⟨bV,ea,n,hh⟩,O,ha,rfl⟩-;have hz:∀i,({s with made:=s.made+s1.made,gone:=s1.gone}:ah).e i=0:=h.z;refine⟨bV,ea,n,⟨hh.cl.lv.zero hh.z hz,hh.cl.rw,hh.cl.nd,hh.cl.rg⟩,hh.pm,by rw[O];exact hh.IR,λ A K=>?_,λ m hm=>hh.fr m (λ h1=>?_) (λ h1=>?_),hh.ob,hz,by rw[O];exact hh.err,?_,hh.gl,?_,hh.fl⟩
  ·rw[O] at K;obtain⟨h4,a,w,h5⟩:=hh.nw A K;exact⟨h4,by rw[ha _ h5];rfl⟩
  ·exact(List.nodup_append.1 h.cl.nd).2.2 m h1 m (by simp[hm]) rfl
  ·exact(List.nodup_append.1 (List.nodup_append.1 h.cl.nd).2.1).2.2 m h1 m (by simp[hm]) rfl
  ·have:=hh.pt;rw[O];show 0<=out.bS+(s.made:Int)/\out.bS+(s.made:Int)<((s.made+s1.made:Nat):Int);omega
  ·have:=hh.cost;show s.made+s1.made<=_;omega
end
section
variable{l:ag}{N:Nat}{V aR:Vw}{s M:ah}{am aV:List Int}{al:List eW}
theorem Mo.sf{base B:Int}(h:Mo l N base B V s am aV al)(hB:B<=90000){a:Hk}{c:Int}(ha:a.nS=.ob c)(ho:9<=c/\c<l.node)(hw:a.wr<9223372036854775808):Sf l N V a:=h.cl.lv.rD hB ha ho hw
theorem Mo.up{base B:Int}(h:Mo l N base B V s am aV al):Mo l N base B V s.up am aV al:=⟨h.cl.up,h.mi,h.z,h.gl⟩
theorem Mo.more{base B j9:Int}(h:Mo l N base B V s am aV al)(T:B<=j9):Mo l N base j9 V s am aV al:=⟨h.cl.more T,h.mi,h.z,h.gl⟩
theorem Cl.ob{B c v:Int}(h:Cl N B V s am aV al):Cl N B (V.put (.ob c) v) s am aV al:=⟨h.lv.ob c v,h.rw,h.nd,h.rg⟩
theorem abD:iU 1=0/\iU 2=0/\iU 3=1:=by decide
theorem Vn{m base:Int}(hN:N<=100)(hS:l.az=1)(AG:∀n i:Int,1<=n->n<=N->0<=i->i<=7->0<=aE l n i/\aE l n i<l.size)(hM:EJ l m base)(k:Nat):∀(r:Nat){B b:Int}{V:Vw}{s:ah}{am:List Int}{al:List eW},(0<=b/\b<l.buckets)->(b=0\/(b<=2/\1<=r)\/2<=r)->B+4*r<=70000->Mo l N base B V s am aV al->r<am.length->
 Rn l N (λ _=>lu l 0 m (k+r+1) b) s V λ _ aR x M=>∃bV ea j,Mo l N base (B+4*r) aR M bV aV ea/\(ea.map (·.1)++(bV++(M.gone.map (·.1)++aV))).Perm (al.map (·.1)++(am++(s.gone.map (·.1)++aV)))/\Fr (base+1) (base+3+b) V aR aV/\x.2=j8/\(x.1,gO b,0)∈ea/\(iL ea).Perm (iL al)/\il ea=il al+j/\M.made<=s.made+1+j*(4*(iL al).length+39)/\am.length<=bV.length+j/\j<=r:=by
 intro r;have b4:=hM.b4;have gU:=hM.lo;have kw:=hM.X;induction r with
 |zero=>
  intro B b V s am al T hr hB h hF;have qX:b=0:=by omega
  subst qX;rcases h.mi.bk 0 T.1 T.2 with⟨_,e,_⟩|hm
  ·exact absurd rfl e
  have hw:=(h.cl.mem hm).1;rw[lu];refine Rn.qj (a:=.ak (.ld (.ob (base+2+0)))) (by rw[hM.bk 0 T.1 T.2];rfl) (h.sf (by omega) rfl (by omega) fq) ?_;show Rn l N (λ _=>if(ay (V.W.ob (base+2+0))).idx≠0 then .pure ((ay (V.W.ob (base+2+0))).idx,j8) else _) _ _ _;simp only at hw;rw[uS (by omega) (by omega)];exact Rn.fm (by omega) (Rn.pure ⟨am,al,0,h.up.more (by omega),.refl _,⟨λ _ _=>rfl,λ _ _=>rfl⟩,rfl,hm,.refl _,rfl,by show s.made+1<=_;omega,by omega,by omega⟩)
 |succ r ih=>
  intro B b V s am al T hr hB h hF;rw[lu];refine Rn.qj (a:=.ak (.ld (.ob (base+2+b)))) (by rw[hM.bk b T.1 T.2];rfl) (h.sf (by omega) rfl (by omega) fq) ?_;show Rn l N (λ _=>if(ay (V.W.ob (base+2+b))).idx≠0 then .pure ((ay (V.W.ob (base+2+b))).idx,j8) else _) _ _ _;rcases h.mi.bk b T.1 T.2 with⟨hz,qX,Dq⟩|hm
  case inr=>have hw:=(h.cl.mem hm).1;simp only at hw;rw[uS (by omega) (by omega)];exact Rn.fm (by omega) (Rn.pure ⟨am,al,0,h.up.more (by omega),.refl _,⟨λ _ _=>rfl,λ _ _=>rfl⟩,rfl,hm,.refl _,rfl,by show s.made+1<=_;omega,by omega,by omega⟩)
  have AI:(0<=iU b/\iU b<b)/\gO (iU b)<gO b/\(iU b=0\/(iU b<=2/\1<=r)\/2<=r):=by
   have hp:=abD;have F:=zx;have:b=1\/b=2\/b=3:=by omega
   rcases this with rfl|rfl|rfl
   ·rw[hp.1,F.1,F.2.1];omega
   ·rw[hp.2.1,F.1,F.2.2.1];omega
   ·rw[hp.2.2,F.2.1,F.2.2.2];omega
  rw[hz];refine Rn.gY (by decide) (Rn.gY qX (Rn.bind ((ih ⟨AI.1.1,by omega⟩ AI.2.2 (by omega) h.up (by omega)).mono ?_)));rintro _ V1 x1 s1 ⟨F1,R1,j,h1,mX,nW,bO,ky,sb,kr,bR,ia,JV⟩-;obtain⟨n1,o1⟩:=x1;have bO:o1=j8:=bO;subst bO;refine Rn.gY (by show¬(0:Int)≠0;omega) ?_;have P4:V1.W.ob (base+2+b)=0/\∀x∈R1,x.2.1≠gO b:=by
   have hv:V1.W.ob (base+2+b)=0:=by rw[nW.ob _ (by omega)];exact hz
   rcases h1.mi.bk b T.1 T.2 with⟨_,_,K⟩|K
   ·exact⟨hv,K⟩
   ·have:=(h1.cl.mem K).1;simp only at this;omega
  have afh:=vV T.1 (by omega);refine Rn.bind ((Rm (o:=gO b) (v:=0) (d:=(n1,gO (iU b),0)) hN (by omega) hS AG (.inr (.inl rfl)) h1 ky AI.2.1 (by intro e;rw[e] at ia;simp at ia;omega) (by omega) fq).mono ?_);rintro _ V2 o s2 ⟨F2,R2,n,c1,c2,c3,c4,c5,c6,c7,c8,c9,Ix,Va,Vb⟩-;refine Rn.gY (by rw[c8];simp) ?_;rcases c3 with⟨x,O,uR,_⟩|⟨_,⟨I,_⟩|⟨_,n8,_,x4⟩⟩
  ·exact absurd uR (P4.2 x O)
  ·exact absurd rfl I
  obtain⟨hn,lT⟩:=c4 rfl x4;refine Rn.act (s1:=s2) (x:=n) (λ log=>?_) rfl ?_
  ·unfold HF;rw[if_pos x4,lT,uS (by omega) (by omega)]
  have wx:V2.W.ob (base+2+b)=0:=by rw[c6];exact P4.1
  refine Rn.qj (a:=.ak (.cs (.ob (base+2+b)) 0 n)) ?_ (c1.lv.rD (by omega) rfl (by omega) (by show n<_;omega)) ?_
  ·rw[hM.bk b T.1 T.2];show(⟨3,base+2+b,0,n⟩:aT)=⟨3,base+2+b,0,fO n⟩;rw[yQ (by omega) (by omega)]
  have Xn:(ny V2 (.ak (.cs (.ob (base+2+b)) 0 n))).1=V2.put (.ob (base+2+b)) n:=by show(if V2.W.ob (base+2+b)=0 then _ else _:Vw×aD).1=_;rw[if_pos wx]
  rw[Xn];have P2:(n,gO b,0)∈R2:=n8.mem_iff.2 (by simp);have pG:∀c,(V2.put (.ob (base+2+b)) n).W.ob c=if c=base+2+b then n else V1.W.ob c:=λ c=>by
   rw[<-c6];rfl
  have yd:t8 l base (V2.put (.ob (base+2+b)) n).W.ob R2:=by
   refine⟨?_,λ j j0 j1=>?_,λ x O=>?_⟩
   ·rw[pG,if_neg (by omega)];exact h1.mi.sz
   ·rw[pG]
    by_cases Yl:j=b
    ·rw[Yl,if_pos rfl];exact .inr P2
    ·rw[if_neg (by omega)];rcases h1.mi.bk j j0 j1 with⟨K,h4,h5⟩|K
     ·refine .inl ⟨K,h4,λ x O=>?_⟩;rcases List.mem_cons.1 (n8.mem_iff.1 O) with rfl|O
      ·have:=vV j0 (show j<4 by omega);show gO b≠gO j;omega
      ·exact h5 x O
     ·exact .inr (n8.mem_iff.2 (List.mem_cons_of_mem _ K))
   ·rcases List.mem_cons.1 (n8.mem_iff.1 O) with rfl|O
    ·exact .inr ⟨b,T,rfl⟩
    ·exact h1.mi.od x O
  have dk:gO b%2=0:=by omega
  have CX:(iL R2).Perm (iL R1):=by have:=IT n8;rw[Cy,if_neg (by show¬gO b%2=1;omega)] at this;exact this
  have oS:il R2=il R1+1:=by have:=IQ n8;rw[Fa,if_pos (by exact dk)] at this;exact this
  have O8:=yd.IP c1.rw (by omega);refine Rn.pure ⟨F2,R2,j+1,⟨(c1.ob.up).more (by omega),yd,c7,Ix⟩,c2.trans mX,⟨λ m hm=>?_,λ c L=>?_⟩,rfl,P2,CX.trans sb,by omega,?_,by omega,by omega⟩
  ·show V2.W.nd m=_;rw[c5 m hm,nW.nd m hm]
  ·rw[pG,if_neg (by omega)];exact nW.ob c (by omega)
  ·have ci:=KM R1;have ir:=sb.length_eq;show s2.made+1<=_;rw[Nat.add_mul];have:s.up.made=s.made+1:=rfl;omega
theorem Ur{m base B kind:Int}(hM:EJ l m base)(hB:B<=90000)(h:Mo l N base B V s am aV al):
 Rn l N (λ _=>p7 l m kind (V.W.ob base)) s V λ _ aR _ M=>Mo l N base B aR M am aV al/\Fr base (base+2+l.buckets) V aR aV/\M.gone=s.gone/\M.made<=s.made+2:=by
 have b4:=hM.b4;have gU:=hM.lo;have kw:=hM.X;have mX:∀w,Mo l N base B (V.put (.ob (base+1)) w) s.up am aV al/\Fr base (base+2+l.buckets) V (V.put (.ob (base+1)) w) aV:=λ w=>by
  have pG:∀c,(V.put (.ob (base+1)) w).W.ob c=if c=base+1 then w else V.W.ob c:=λ c=>rfl
  refine⟨⟨h.cl.ob.up,⟨?_,λ j j0 j1=>?_,h.mi.od⟩,h.z,h.gl⟩,⟨λ _ _=>rfl,λ c L=>?_⟩⟩
  ·rw[pG,if_neg (by omega)];exact h.mi.sz
  ·rw[pG,if_neg (by omega)];exact h.mi.bk j j0 j1
  ·rw[pG,if_neg (by omega)]
 unfold p7
 by_cases A:kind=2
 ·refine Rn.fm A (Rn.qj (a:=.ad (base+1) 1) (by rw[hM.c1];rfl) (h.sf hB rfl (by omega) fq) ?_);obtain⟨q1,q2⟩:=mX (lm (V.W.ob (base+1)+1));show Rn l N (λ _=>if 2*V.W.ob base<=V.W.ob (base+1)/\V.W.ob base<l.buckets then _ else _) s.up (V.put (.ob (base+1)) (lm (V.W.ob (base+1)+1))) _
  by_cases hg:2*V.W.ob base<=V.W.ob (base+1)/\V.W.ob base<l.buckets
  ·refine Rn.fm hg ?_;have hv:(V.put (.ob (base+1)) (lm (V.W.ob (base+1)+1))).W.ob base=V.W.ob base:=if_neg (by omega);have bQ:=h.mi.sz;refine Rn.qj (a:=.ak (.cs (.ob base) (V.W.ob base) (2*V.W.ob base))) (by rw[hM.c0];rfl) (q1.sf hB rfl (by omega) (by show 2*V.W.ob base<_;omega)) ?_;have ha:(ny (V.put (.ob (base+1)) (lm (V.W.ob (base+1)+1))) (.ak (.cs (.ob base) (V.W.ob base) (2*V.W.ob base)))).1=(V.put (.ob (base+1)) (lm (V.W.ob (base+1)+1))).put (.ob base) (2*V.W.ob base):=by
    show(if(V.put (.ob (base+1)) (lm (V.W.ob (base+1)+1))).W.ob base=V.W.ob base then _ else _:Vw×aD).1=_;rw[if_pos hv]
   rw[ha];generalize V.put (.ob (base+1)) (lm (V.W.ob (base+1)+1))=V1 at*;have pG:∀c,(V1.put (.ob base) (2*V.W.ob base)).W.ob c=if c=base then 2*V.W.ob base else V1.W.ob c:=λ c=>rfl
   refine Rn.pure ⟨⟨q1.cl.ob.up,⟨?_,λ j j0 j1=>?_,q1.mi.od⟩,q1.z,q1.gl⟩,q2.trans ⟨λ _ _=>rfl,λ c L=>?_⟩,rfl,Nat.le_refl _⟩
   ·rw[pG,if_pos rfl];omega
   ·rw[pG,if_neg (by omega)];exact q1.mi.bk j j0 j1
   ·rw[pG,if_neg (by omega)]
  ·exact Rn.gY hg (Rn.pure ⟨q1,q2,rfl,by show s.made+1<=_;omega⟩)
 ·refine Rn.gY A ?_
  by_cases K:kind=3
  ·obtain⟨q1,q2⟩:=mX (lm (V.W.ob (base+1)+-1));exact Rn.fm K (Rn.qj (a:=.ad (base+1) (-1)) (by rw[hM.c1];rfl) (h.sf hB rfl (by omega) fq) (Rn.pure ⟨q1,q2,rfl,by show s.made+1<=_;omega⟩))
  ·exact Rn.gY K (Rn.pure ⟨h,⟨λ _ _=>rfl,λ _ _=>rfl⟩,rfl,by omega⟩)
def BQ(op:bt)(aJ BO:List (Int×Int))(out:bf):Prop:=
 (∃v,(op.a,v)∈aJ/\((op.kind=1/\BO.Perm aJ/\out.val=v/\out.is=true)\/(op.kind=2/\BO.Perm aJ/\out.val=0/\out.is=false)\/(op.kind=3/\aJ.Perm ((op.a,v)::BO)/\out.val=0/\out.is=true)))
 \/((∀v,(op.a,v)∉aJ)/\((op.kind≠2/\BO.Perm aJ/\out.val=0/\out.is=false)\/(op.kind=2/\BO.Perm ((op.a,op.b)::aJ)/\out.val=0/\out.is=true)))
theorem t8.Rx{base:Int}{ob:Int->Int}(h:t8 l base ob al){k v:Int}(T:l.buckets<=4)(h0:0<=k)(h1:k<65536):(k,v)∈iL al↔∃x∈al,x.2.1=l4 k/\x.2.2=v:=by
 unfold iL;rw[List.mem_map];constructor
 ·rintro⟨x,O,e⟩;obtain⟨O,ho⟩:=List.mem_filter.1 O;injection e with e1 e2
  refine⟨x,O,?_,e2⟩;have ho:x.2.1%2=1:=by simpa using ho
  rcases h.od x O with⟨jd,I,e⟩|⟨j,hj,e⟩
  ·rw[e,Gx I.1 I.2] at e1;rw[e,e1]
  ·have:=vV hj.1 (by omega);omega
 ·rintro⟨x,O,e1,e2⟩;exact⟨x,List.mem_filter.2 ⟨O,by rw[e1];exact decide_eq_true (Ed h0 h1).2.2⟩,by rw[e1,Gx h0 h1,e2]⟩
theorem ady{m base B:Int}{op:bt}{g:List (Int×Int)}(hN:N<=100)(hS:l.az=1)(AG:∀n i:Int,1<=n->n<=N->0<=i->i<=7->0<=aE l n i/\aE l n i<l.size)(hM:EJ l m base)(hB:B<=60000)(h:Mo l N base B V ⟨0,g,0,0,0⟩ am aV al)(hF:4<=am.length)(I:op.kind=1\/op.kind=2\/op.kind=3)(ho:op.obj=m)(ha:0<=op.a/\op.a<65536)(hv:op.b<9223372036854775808):
 Rn l N (λ _=>sL l 0 op) ⟨0,g,0,0,0⟩ V λ _ aR out M=>∃bV ea j,Mo l N base (B+12) aR M bV aV ea/\(ea.map (·.1)++(bV++(M.gone.map (·.1)++aV))).Perm (al.map (·.1)++(am++(g.map (·.1)++aV)))/\Fr base (base+2+l.buckets) V aR aV/\BQ op (iL al) (iL ea) out/\out.err=0/\(0<=out.bS/\out.bS<M.made)/\il ea=il al+j/\M.made<=4*(iL al).length+45+j*(4*(iL al).length+39)/\am.length<=bV.length+j+1:=by
 have b4:=hM.b4;have gU:=hM.lo;have kw:=hM.X;have bQ:=h.mi.sz;unfold sL;rw[ho];refine Rn.qj (a:=.ak (.ld (.ob base))) (by rw[hM.c0];rfl) (h.sf (by omega) rfl (by omega) fq) ?_;show Rn l N (λ _=>if V.W.ob base<1\/l.buckets<V.W.ob base\/Bt (V.W.ob base)=false then _ else(lu l 0 m 64 (op.a%V.W.ob base)).bind _) _ V _;refine Rn.gY ?_ ?_
 ·rcases bQ with⟨e|e|e,ir⟩<;>rw[e] at ir⊢<;>(rintro(h1|h1|h1);omega;omega;revert h1;decide)
 have O9:=VQ ha.1 ha.2 bQ.1;have Qh:=Ed ha.1 ha.2;refine Rn.bind ((Vn (b:=op.a%V.W.ob base) hN hS AG hM 61 2 ⟨O9.1.1,by omega⟩ (by omega) (by omega) h.up (by omega)).mono ?_);rintro _ V1 x1 s1 ⟨F1,R1,j,h1,mX,nW,bO,ky,sb,kr,bR,ia,JV⟩-;obtain⟨n1,o1⟩:=x1;have bO:o1=j8:=bO;subst bO;refine Rn.gY (by show¬(0:Int)≠0;omega) ?_;have AP:V1.W.ob base=V.W.ob base:=nW.ob base (by omega);refine Rn.bind ((Rm (kind:=op.kind) (o:=l4 op.a) (v:=op.b) (d:=(n1,gO (op.a%V.W.ob base),0)) hN (by omega) hS AG I h1 ky O9.2 (by intro e;rw[e] at ia;simp at ia;omega) (by omega) hv).mono ?_);rintro _ V2 o s2 ⟨F2,R2,n,c1,c2,c3,c4,c5,c6,c7,c8,c9,Ix,Va,Vb⟩-;have n5:=c3.mem;have yd:t8 l base V2.W.ob R2:=by
  rw[c6];have cE:∀j,(0<=j/\j<l.buckets)->gO j≠l4 op.a:=λ j hj=>by
   have:=vV hj.1 (by omega);omega
  refine⟨h1.mi.sz,λ j j0 j1=>?_,λ x O=>?_⟩
  ·rcases h1.mi.bk j j0 j1 with⟨K,h4,h5⟩|K
   ·refine .inl ⟨K,h4,λ x O=>?_⟩;rcases n5.1 x O with O|⟨_,rfl⟩
    ·exact h5 x O
    ·exact λ e=>cE j ⟨j0,j1⟩ e.symm
   ·exact .inr (n5.2 _ K (.inl (cE j ⟨j0,j1⟩)))
  ·rcases n5.1 x O with O|⟨_,rfl⟩
   ·exact h1.mi.od x O
   ·exact .inl ⟨op.a,ha,rfl⟩
 have OQ:Mo l N base (B+12) V2 s2 F2 aV R2:=⟨c1.more (by omega),yd,c7,Ix⟩;have lc:Fr base (base+2+l.buckets) V V2 aV:=(nW.wide (by omega) (by omega)).trans ⟨c5,λ c _=>by rw[c6]⟩;have ym:=Qh.2.2;have Pa:BQ op (iL al) (iL R2) o.1/\il R2=il R1:=by
  have Rv:(∀x∈R1,x.2.1≠l4 op.a)->∀v,(op.a,v)∉iL al:=λ hn v hm=>by
   obtain⟨x,O,e1,_⟩:=(h1.mi.Rx (by omega) ha.1 ha.2).1 (sb.symm.mem_iff.1 hm);exact hn x O e1
  have there:∀x∈R1,x.2.1=l4 op.a->(op.a,x.2.2)∈iL al:=λ x O e=>sb.mem_iff.1 ((h1.mi.Rx (by omega) ha.1 ha.2).2 ⟨x,O,e,rfl⟩)
  rcases c3 with⟨x,O,uR,h5⟩|⟨hn,h5⟩
  ·rcases h5 with⟨k1,e,e1,e2⟩|⟨k1,e,e1,e2⟩|⟨k1,hp,e1,e2⟩
   ·rw[e];exact⟨.inl ⟨x.2.2,there x O uR,.inl ⟨k1,sb,e1,e2⟩⟩,rfl⟩
   ·rw[e];exact⟨.inl ⟨x.2.2,there x O uR,.inr (.inl ⟨k1,sb,e1,e2⟩)⟩,rfl⟩
   ·refine⟨.inl ⟨x.2.2,there x O uR,.inr (.inr ⟨k1,?_,e1,e2⟩)⟩,?_⟩
    ·have:=IT hp;rw[Cy,if_pos (by rw[uR];exact ym),uR,Gx ha.1 ha.2] at this;exact sb.symm.trans this
    ·have:=IQ hp;rw[Fa,if_neg (by rw[uR];omega)] at this;exact this.symm
  ·rcases h5 with⟨k1,e,e1,e2⟩|⟨k1,hp,e1,e2⟩
   ·rw[e];exact⟨.inr ⟨Rv hn,.inl ⟨k1,sb,e1,e2⟩⟩,rfl⟩
   ·refine⟨.inr ⟨Rv hn,.inr ⟨k1,?_,e1,e2⟩⟩,?_⟩
    ·have:=IT hp;rw[Cy,if_pos (show l4 op.a%2=1 from ym),Gx ha.1 ha.2] at this;exact this.trans (List.Perm.cons _ sb)
    ·have:=IQ hp;rw[Fa,if_neg (by show¬l4 op.a%2=0;omega)] at this;exact this
 have O8:=h1.mi.IP h1.cl.rw (by omega);have ci:=KM R1;have ir:=sb.length_eq;have Dh:(⟨0,g,0,0,0⟩:ah).up.made=1:=rfl;have iR:=c2.trans mX
 by_cases x4:o.1.is=true
 ·refine Rn.fm x4 (Rn.bind ?_);have OZ:=Ur (kind:=op.kind) hM (by omega) OQ;rw[show V2.W.ob base=V.W.ob base by rw[c6,AP]] at OZ;refine OZ.mono ?_;rintro _ V3 _ s3 ⟨d1,d2,d3,d4⟩ yc;exact Rn.pure ⟨F2,R2,j,d1,by rw[d3];exact iR,lc.trans d2,Pa.1,c8,by omega,by omega,by omega,by omega⟩
 ·exact Rn.gY x4 (Rn.pure ⟨F2,R2,j,OQ,iR,lc,Pa.1,c8,c9,by omega,by omega,by omega⟩)
end
def flat(nd:Int->Int->Int)(S:List Int):List Int:=S.flatMap λ n=>Sg.iG.map (nd n)
theorem Fo{nd u5:Int->Int->Int}{S:List Int}(h:∀n∈S,∀i,i≠0->u5 n i=nd n i):flat u5 S=flat nd S:=by
 unfold flat;induction S with
 |nil=>rfl
 |cons n S ih=>
  rw[List.flatMap_cons,List.flatMap_cons,ih λ m hm=>h m (by simp[hm])]
  congr 1
  refine List.map_congr_left λ i X=>h n (by simp) i ?_
  intro e;subst e;revert X;decide
theorem Of(nd:Int->Int->Int):∀S:List Int,(flat nd S).length=5*S.length
 |[]=>rfl
 |n::S=>by
  have:=Of nd S;show(Sg.iG.map (nd n)++flat nd S).length=_;rw[List.length_append,List.length_map,this,List.length_cons,show Sg.iG.length=5 from rfl];omega
theorem I2(nd:Int->Int->Int)(aa ap:List Int):flat nd (aa++ap)=flat nd aa++flat nd ap:=List.flatMap_append
theorem Uz{ar:Type}{aa ap ab fj:List ar}(h:aa++ap=ab++fj)(R:fj.length<=ap.length):∃da,ab=aa++da/\ap=da++fj:=by
 rcases List.append_eq_append_iff.1 h with⟨W,h1,A⟩|⟨W,h1,A⟩
 ·exact⟨W,h1,A⟩
 ·have:W=[]:=by
   have:=congrArg List.length A;rw[List.length_append] at this;exact List.eq_nil_of_length_eq_zero (by omega)
  subst this;exact⟨[],by simpa using h1.symm,by simpa using A.symm⟩
theorem Bl{i:Int}(h:i∈Sg.iG):1<=i/\i<=5:=by
 have:i=1\/i=2\/i=3\/i=4\/i=5:=by simpa[Sg.iG] using h
 omega
theorem RK{nd:Int->Int}{ab fj:List Int}(h:Sg.iG.map nd=ab++fj):∃P Q,Sg.iG=P++Q/\P.map nd=ab/\Q.map nd=fj/\P.length=ab.length:=by
 have R:ab.length<=5:=by have:=congrArg List.length h;simp[Sg.iG] at this;omega
 refine⟨Sg.iG.take ab.length,Sg.iG.drop ab.length,(List.take_append_drop _ _).symm,by rw[List.map_take,h,List.take_left],by rw[List.map_drop,h,List.drop_left],?_⟩;rw[List.length_take];show min ab.length 5=_;omega
theorem RL{nd u5:Int->Int}{P Q:List Int}{i w:Int}(h:Sg.iG=P++i::Q)(X:u5 i=w)(ho:∀j,j≠i->u5 j=nd j):Sg.iG.map u5=P.map nd++w::Q.map nd:=by
 have hnd:Sg.iG.Nodup:=by decide
 rw[h] at hnd⊢;have h1:=List.nodup_append.1 hnd;rw[List.map_append,List.map_cons,X]
 congr 1
 ·exact List.map_congr_left λ j hj=>ho j λ e=>h1.2.2 j hj i (by simp) e
 ·congr 1
  exact List.map_congr_left λ j hj=>ho j λ e=>(List.nodup_cons.1 h1.2.1).1 (e▸hj)
structure Ch(F tl aL:Int)(W:Ws)(S:List Int)(r z:Nat)(xs:List Int):Prop where
 ne:S≠[]
 wh:Wc (W.ob F) (S.headD 0) aL
 wt:Wc (W.ob tl) (S.getLastD 0) aL
 ln:gF (λ n=>W.nd n 0) S
 ce:flat W.nd S=List.replicate r 1++(xs.map (·+2)++List.replicate z 0)
 r5:r<=5
 z5:z<=5
 vb:∀x∈xs,0<=x/\x<65536
theorem Ch.more{F tl aL nP:Int}{W:Ws}{S:List Int}{r z:Nat}{xs:List Int}(h:Ch F tl aL W S r z xs)(I:aL<=nP):Ch F tl nP W S r z xs:=⟨h.ne,h.wh.more I,h.wt.more I,h.ln,h.ce,h.r5,h.z5,h.vb⟩
section
variable{l:ag}{N:Nat}{B:Int}{V aR:Vw}{s M:ah}{am aV:List Int}
theorem RY{n v:Int}(hB:B<=90000)(hv:v+2<9223372036854775808)(hn:1<=n/\n<=(N:Int))(iC:n∉am):∀(P:List Int){Q:List Int}{V:Vw}{s:ah},Lv N B V s am->(∀j∈P,V.W.nd n j≠0)->(∀j∈P++Q,1<=j/\j<=5)->(∀i d9,Q=i::d9->V.W.nd n i=0)->
 Rn l N (λ _=>Sg.wS l n v (P++Q)) s V λ _ aR x M=>Lv N B aR M am/\M={s with made:=M.made}/\((Q=[]/\x=none/\aR=V/\M.made=s.made+P.length)\/∃i d9,Q=i::d9/\x=some ((M.made:Int)-1)/\aR=V.put (.nd n i) (v+2)/\M.made=s.made+P.length+2)
 |[],[],V,s,Z,_,_,_=>Rn.pure ⟨Z,rfl,.inl ⟨rfl,rfl,rfl,rfl⟩⟩
 |[],i::Q,V,s,Z,_,hr,h0=>by
  have X:=hr i (by simp);have hz:=h0 i Q rfl;refine Rn.load (a:=.nd n i) rfl (Z.fY hB rfl hn iC (by omega) fq) ?_;refine Rn.fm hz (Rn.rO (a:=.nd n i) rfl hz (Z.up.fY hB rfl hn iC (by omega) hv) (Rn.fm rfl (Rn.last (Rn.pure ⟨(Z.nd n i (v+2)).up.up,rfl,.inr ⟨i,Q,rfl,rfl,rfl,rfl⟩⟩))))
 |j::P,Q,V,s,Z,hj,hr,h0=>by
  have X:=hr j (by simp);refine Rn.load (a:=.nd n j) rfl (Z.fY hB rfl hn iC (by omega) fq) ?_;refine Rn.gY (hj j (by simp)) ((RY hB hv hn iC P Z.up (λ j eF=>hj j (by simp[eF])) (λ j eF=>hr j (by simp only[List.cons_append,List.mem_cons];exact .inr eF)) h0).mono ?_);rintro _ V1 x s1 ⟨h1,A,K⟩-;refine⟨h1,A,?_⟩;have hm:s.up.made=s.made+1:=rfl;rcases K with⟨a,b,c,d⟩|⟨i,d9,a,b,c,d⟩
  ·exact .inl ⟨a,b,c,by rw[d,hm,List.length_cons];omega⟩
  ·exact .inr ⟨i,d9,a,b,c,by rw[d,hm,List.length_cons];omega⟩
theorem Lr{n:Int}(hB:B<=90000)(hn:1<=n/\n<=(N:Int))(iC:n∉am):∀(P:List Int){Q:List Int}{V:Vw}{s:ah},Lv N B V s am->(∀j∈P,V.W.nd n j=1)->(∀j∈P++Q,1<=j/\j<=5)->(∀i d9,Q=i::d9->V.W.nd n i=0\/∃y,(0<=y/\y<65536)/\V.W.nd n i=y+2)->
 Rn l N (λ _=>Sg.wR l n (P++Q)) s V λ _ aR x M=>Lv N B aR M am/\M={s with made:=M.made}/\M.made<=s.made+P.length+2/\((Q=[]/\x=none/\aR=V)\/(∃i d9 o,Q=i::d9/\x=some o/\o.err=0/\((V.W.nd n i=0/\aR=V/\o.val=0/\o.is=false)\/∃y,0<=y/\V.W.nd n i=y+2/\aR=V.put (.nd n i) 1/\o.val=y/\o.is=true)))
 |[],[],V,s,Z,_,_,_=>Rn.pure ⟨Z,rfl,by omega,.inl ⟨rfl,rfl,rfl⟩⟩
 |[],i::Q,V,s,Z,_,hr,h0=>by
  have X:=hr i (by simp);refine Rn.load (a:=.nd n i) rfl (Z.fY hB rfl hn iC (by omega) fq) (Rn.last ?_);rcases h0 i Q rfl with hz|⟨y,hy,hz⟩
  ·exact Rn.fm hz (Rn.pure ⟨Z.up,rfl,by show s.made+1<=_;omega,.inr ⟨i,Q,_,rfl,rfl,rfl,.inl ⟨hz,rfl,rfl,rfl⟩⟩⟩)
  ·refine Rn.gY (by show¬V.W.nd n i=0;omega) (Rn.gY (by show¬V.W.nd n i=1;omega) (Rn.rO (a:=.nd n i) rfl rfl (Z.up.fY hB rfl hn iC (by omega) (by show(1:Int)<_;omega)) (Rn.fm rfl (Rn.last (Rn.pure ⟨(Z.nd n i 1).up.up,rfl,by show s.made+1+1<=_;omega,.inr ⟨i,Q,_,rfl,rfl,rfl,.inr ⟨y,hy.1,hz,rfl,?_,rfl⟩⟩⟩)))));show lm (V.W.nd n i-2)=y;rw[hz,Tu (by omega) (by omega)];omega
 |j::P,Q,V,s,Z,hj,hr,h0=>by
  have X:=hr j (by simp);have h1:=hj j (by simp);refine Rn.load (a:=.nd n j) rfl (Z.fY hB rfl hn iC (by omega) fq) (Rn.last ?_);refine Rn.gY (by show¬V.W.nd n j=0;omega) (Rn.fm h1 ((Lr hB hn iC P Z.up (λ j eF=>hj j (by simp[eF])) (λ j eF=>hr j (by simp only[List.cons_append,List.mem_cons];exact .inr eF)) h0).mono ?_));rintro _ V1 x s1 ⟨h1,A,K,h4⟩-;have hm:s.up.made=s.made+1:=rfl;exact⟨h1,A,by rw[List.length_cons];omega,h4⟩
theorem Wl{n v:Int}(hB:B<=90000)(hv:v+2<9223372036854775808)(hn:1<=n/\n<=(N:Int))(iC:n∉am)(Z:Lv N B V s am):
 Rn l N (λ _=>Sg.tg l n v) s V λ _ aR _ M=>Lv N B aR M am/\M={s with made:=s.made+6}/\(∀m,m≠n->aR.W.nd m=V.W.nd m)/\aR.W.nd n 0=0/\Sg.iG.map (aR.W.nd n)=[v+2,0,0,0,0]/\aR.W.ob=V.W.ob/\aR.er=V.er:=by
 unfold Sg.tg;refine Rn.store (a:=.nd n 0) rfl (Z.fY hB rfl hn iC (by omega) fq) ?_;refine Rn.store (a:=.nd n 1) rfl ((Z.nd n 0 0).up.fY hB rfl hn iC (by omega) hv) ?_;have A:=((Z.nd n 0 0).nd n 1 (v+2)).up.up;show Rn l N (λ _=>(eH (aE l n 2) 0).bind λ _=>(eH (aE l n 3) 0).bind λ _=>(eH (aE l n 4) 0).bind λ _=>(eH (aE l n 5) 0).bind λ _=>.pure ()) _ _ _;refine Rn.store (a:=.nd n 2) rfl (A.fY hB rfl hn iC (by omega) fq) ?_;have K:=(A.nd n 2 0).up;refine Rn.store (a:=.nd n 3) rfl (K.fY hB rfl hn iC (by omega) fq) ?_;have h4:=(K.nd n 3 0).up;refine Rn.store (a:=.nd n 4) rfl (h4.fY hB rfl hn iC (by omega) fq) ?_;have h5:=(h4.nd n 4 0).up;refine Rn.store (a:=.nd n 5) rfl (h5.fY hB rfl hn iC (by omega) fq) (Rn.pure ⟨(h5.nd n 5 0).up,rfl,λ m hm=>?_,?_,?_,rfl,rfl⟩)
 ·funext i
  simp[Vw.put,Ws.BD,hm]
 ·simp[Vw.put,Ws.BD]
 ·simp[Vw.put,Ws.BD,Sg.iG]
theorem QU{aa:List Int}{n:Int}:(aa++[n]).getLastD 0=n:=by rw[List.getLastD_eq_getLast?,List.getLast?_append];rfl
theorem gF.snoc{nx om:Int->Int}{n m:Int}(hn:om n=m)(hm:om m=0):∀{aa:List Int},gF nx (aa++[n])->(∀x∈aa,om x=nx x)->gF om (aa++[n,m])
 |[],_,_=>⟨hn,hm,trivial⟩
 |x::aa,h,hs=>⟨(hs x (by simp)).trans (h.1.trans (by cases aa<;>rfl)),gF.snoc hn hm h.2 λ y hy=>hs y (by simp[hy])⟩
theorem gF.end_{nx:Int->Int}{n:Int}:∀{aa:List Int},gF nx (aa++[n])->nx n=0
 |[],h=>h.1
 |_::aa,h=>gF.end_ (aa:=aa) h.2
theorem ac9{F tl v aL:Int}{S:List Int}{r z:Nat}{xs:List Int}(hN:N<=100)(hB:B<=70000)(hK:aL<=90000)(lP:9<=F/\F<l.node)(gz:tl=F+1/\tl<l.node)(h:Nd N B V s am aV S)(I:Ch F tl aL V.W S r z xs)(hF:am≠[])(hv:0<=v/\v<65536):
 Rn l N (λ _=>Sg.vo l 0 tl v) s V λ _ aR x M=>∃bV iY sO,Nd N (B+4) aR M bV aV iY/\Ch F tl (aL+1) aR.W iY r sO (xs++[v])/\(iY++(bV++(M.gone.map (·.1)++aV))).Perm (S++(am++(s.gone.map (·.1)++aV)))/\Fr F (F+2) V aR aV/\(∀i,M.e i=0)/\M.gone=s.gone/\x.val=0/\x.is=true/\x.err=0/\s.made<M.made/\M.made<=s.made+40/\am.length<=bV.length+1:=by
 have Kf:=wU V.er s;obtain⟨aa,n,rfl⟩:∃aa n,S=aa++[n]:=⟨_,_,(List.dropLast_concat_getLast I.ne).symm⟩;have hn:=h.mem (n:=n) (by simp);have yy:=I.wt;rw[QU] at yy;have j3:=yy.idx (by omega) (by omega);have CU:=I.ce;rw[I2,<-List.append_assoc] at CU;obtain⟨da,Am,wc⟩:=Uz CU (by rw[List.length_replicate,Of];have:=I.z5;simp;omega);have wc:Sg.iG.map (V.W.nd n)=da++List.replicate z 0:=by simpa[flat] using wc
 obtain⟨P,Q,oP,hP,hQ,FA⟩:=RK wc;have WW:∀a∈da,a≠0:=λ a ha=>by
  have:a∈List.replicate r (1:Int)++xs.map (·+2):=by rw[Am];exact List.mem_append_right _ ha
  rcases List.mem_append.1 this with h|h
  ·rw[List.eq_of_mem_replicate h];omega
  ·obtain⟨x,O,rfl⟩:=List.mem_map.1 h;have:=I.vb x O;omega
 have Jp:P.length<=5:=by have:=congrArg List.length oP;rw[List.length_append] at this;have h5:Sg.iG.length=5:=rfl;omega
 unfold Sg.vo;refine Rn.at (f:=λ k=>Sg.BC l 0 tl v k 0) (λ _=>Nat.le_refl _) (Rn.loop (λ k=>rfl) ?_);unfold Sg.xu;refine Rn.bind ((xL (a:=.ob tl) (by omega) h.lv (by omega) (by omega) rfl (λ _ _ _=>rfl) λ V s h=>h.rD (by omega) rfl (by omega) fq).mono ?_);rintro A1 V1 _ s1 ⟨a1,a2,rfl,a3,a4,a5⟩-;have h1:=h.to a2 a3;dsimp only;rw[show V.get (.ob tl)=V.W.ob tl from rfl,j3,oP];refine Rn.bind ((RY (n:=n) (v:=v) (Q:=Q) (by omega) (by omega) hn.1 hn.2 P a2 (λ j hj=>?_) (λ j hj=>Bl (by rw[oP];exact hj)) (λ i d9 e=>?_)).mono ?_)
 ·rw[a1.W];exact WW _ (by rw[<-hP];exact List.mem_map_of_mem hj)
 ·rw[a1.W];have:V.W.nd n i∈Q.map (V.W.nd n):=List.mem_map_of_mem (by rw[e];simp);rw[hQ] at this;exact List.eq_of_mem_replicate this
 rintro A2 V2 x s2 ⟨b1,b2,b3⟩-;have de:s2.gone=s.gone:=by rw[b2];exact a3
 have AJ:fF V.er s2=fF V.er s1:=by rw[b2];rfl
 rcases b3 with⟨rfl,rfl,rfl,b4⟩|⟨i,d9,rfl,rfl,rfl,b4⟩
 ·
  have Qy:z=0:=by have:=congrArg List.length hQ;simp at this;omega
  subst Qy;have A:=h.to b1 de;refine Rn.load (a:=.nd n 0) rfl (A.fY (by omega) (by simp) rfl (by omega) fq) ?_;have xY:V2.get (.nd n 0)=0:=by show V2.W.nd n 0=0;rw[a1.W];exact gF.end_ (nx:=λ n=>V.W.nd n 0) I.ln
  refine Rn.fm xY (Rn.fm rfl (Rn.bind ?_));cases am with
  |nil=>exact absurd rfl hF
  |cons cU am=>
  refine(Ms hN (by omega) A.lv.up).mono ?_;rintro A3 V3 _ s3 ⟨rfl,rfl,c1,c2,c3⟩-;have uI:=h.rg cU (by simp);have hnd:=List.nodup_append.1 h.nd;have iC:cU∉am:=λ hm=>(List.nodup_cons.1 (List.nodup_append.1 hnd.2.1).1).1 hm
  have J7:cU∉aa++[n]:=λ hm=>hnd.2.2 cU hm cU (by simp) rfl
  have iu:cU≠n:=λ e=>J7 (by rw[e];simp)
  refine Rn.fm rfl (Rn.bind ((Wl (by omega) (by omega) uI iC c3).mono ?_));rintro A4 V4 _ s4 ⟨d1,rfl,d2,d3,d4,d5,d6⟩-;have FF:∀m,m≠cU->V4.W.nd m=V.W.nd m:=λ m hm=>by rw[d2 m hm,c1,a1.W]
  have OS:V4.W.ob=V.W.ob:=by rw[d5,c1,a1.W]
  unfold Sg.vJ;dsimp only;rw[j3];have YI:n∉am:=λ hm=>hn.2 (by simp[hm])
  refine Rn.rO (a:=.nd n 0) rfl (by show V4.W.nd n 0=0;rw[FF n (λ e=>iu e.symm)];exact gF.end_ (nx:=λ n=>V.W.nd n 0) I.ln) (d1.fY (by omega) rfl hn.1 YI (by omega) (by show cU<_;omega)) (Rn.fm rfl (Rn.last ?_));refine Rn.rO (a:=.ob tl) rfl (by show V4.W.ob tl=_;rw[OS]) ((d1.nd n 0 cU).up.rD (by omega) rfl (by omega) (Bp _)) ?_;have OO:=((d1.nd n 0 cU).ob tl (cf (co (ay (V.W.ob tl)) cU))).up.up;have yf:∀m i,((V4.put (.nd n 0) cU).put (.ob tl) (cf (co (ay (V.W.ob tl)) cU))).W.nd m i=if m=n/\i=0 then cU else V4.W.nd m i:=λ m i=>rfl
  have F9:∀c,((V4.put (.nd n 0) cU).put (.ob tl) (cf (co (ay (V.W.ob tl)) cU))).W.ob c=if c=tl then cf (co (ay (V.W.ob tl)) cU) else V.W.ob c:=λ c=>by rw[<-OS];rfl
  have Pf:((V4.put (.nd n 0) cU).put (.ob tl) (cf (co (ay (V.W.ob tl)) cU))).er=V.er:=by rw[<-a1.er,<-c2,<-d6];rfl
  generalize(V4.put (.nd n 0) cU).put (.ob tl) (cf (co (ay (V.W.ob tl)) cU))=V5 at OO yf F9 Pf;refine Rn.bind ((ui (by omega) OO).mono ?_);rintro aew aeH _ s6 ⟨e1,e2,e3,e4,e5⟩ PX;have e4:s6.gone=s.gone:=e4.trans de;rw[Pf] at e5;have m5:({s2.up.up.up.up.up.up with made:=s2.up.up.up.up.up.up.made+6}:ah).up.up.made=s2.made+14:=rfl;have abu:fF V.er ({s2.up.up.up.up.up.up with made:=s2.up.up.up.up.up.up.made+6}:ah).up.up=fF V.er s2:=rfl;rw[m5,abu] at e5;rw[m5] at PX;have iR:((aa++[n,cU])++(am++(s6.gone.map (·.1)++aV))).Perm ((aa++[n])++(cU::am++(s.gone.map (·.1)++aV))):=by rw[e4];simp
  refine Rn.pure ⟨by omega,Rn.pure ⟨am,aa++[n,cU],4,Nd.of h (e2.more (by omega)) iR,⟨by simp,?_,?_,?_,?_,I.r5,by omega,λ y hy=>?_⟩,iR,⟨λ m hm=>?_,λ c L=>?_⟩,e3,e4,rfl,rfl,rfl,by omega,by omega,by simp⟩⟩
  ·rw[e1.W,F9,if_neg (by omega)];have:=I.wh.more (show aL<=aL+1 by omega);have hh:(aa++[n,cU]).headD 0=(aa++[n]).headD 0:=by cases aa<;>rfl
   rw[hh];exact this
  ·rw[e1.W,F9,if_pos rfl,show aa++[n,cU]=(aa++[n])++[cU] by simp,QU];exact yy.HH (by omega) (by omega) (by omega)
  ·rw[e1.W];refine gF.snoc (nx:=λ n=>V.W.nd n 0) ?_ ?_ I.ln λ y hy=>?_
   ·show V5.W.nd n 0=cU;rw[yf,if_pos ⟨rfl,rfl⟩]
   ·show V5.W.nd cU 0=0;rw[yf,if_neg (by omega)];exact d3
   ·have Qx:y≠n:=λ e=>by
     have:=(List.nodup_append.1 hnd.1).2.2 y hy n (by simp);exact this e
    have Kw:y≠cU:=λ e=>J7 (by rw[<-e];simp[hy])
    show V5.W.nd y 0=V.W.nd y 0;rw[yf,if_neg (by omega),FF y Kw]
  ·rw[e1.W,show aa++[n,cU]=(aa++[n])++[cU] by simp,I2];have nW:flat V5.W.nd (aa++[n])=flat V.W.nd (aa++[n]):=Fo λ y hy i X=>by
    have Kw:y≠cU:=λ e=>J7 (by rw[<-e];exact hy)
    rw[yf,if_neg (by omega),FF y Kw]
   have lc:flat V5.W.nd [cU]=[v+2,0,0,0,0]:=by
    have:Sg.iG.map (V5.W.nd cU)=Sg.iG.map (V4.W.nd cU):=List.map_congr_left λ i X=>by rw[yf,if_neg (by omega)]
    simp only[flat,List.flatMap_cons,List.flatMap_nil,List.append_nil];rw[this];exact d4
   rw[nW,lc,I.ce];simp[List.replicate]
  ·rcases List.mem_append.1 hy with hy|hy
   ·exact I.vb y hy
   ·rw[List.mem_singleton] at hy;rw[hy];exact hv
  ·have h1:=h.G5 hm;have F3:m≠n:=λ e=>h1.1 (by rw[e];simp)
   have YE:m≠cU:=λ e=>h1.2 (by rw[e];simp)
   funext i
   rw[e1.W,yf,if_neg (by omega),FF m YE]
  ·rw[e1.W,F9,if_neg (by omega)]
 ·
  obtain⟨sO,rfl⟩:∃sO,z=sO+1:=by
   cases z with
   |zero=>simp at hQ
   |succ sO=>exact⟨sO,rfl⟩
  have Xe:d9.map (V.W.nd n)=List.replicate sO 0:=by rw[List.map_cons,List.replicate_succ] at hQ;injection hQ
  refine Rn.fm rfl (Rn.bind ((ui (by omega) b1).mono ?_));rintro A3 V3 _ s3 ⟨e1,e2,e3,e4,e5⟩ yc;have e4:s3.gone=s.gone:=e4.trans de;have JE:(V1.put (.nd n i) (v+2)).er=V.er:=by rw[<-a1.er];rfl
  rw[JE,AJ] at e5;have n6:∀m j,V3.W.nd m j=if m=n/\j=i then v+2 else V.W.nd m j:=λ m j=>by rw[e1.W,<-a1.W];rfl
  have re:V3.W.ob=V.W.ob:=by rw[e1.W,<-a1.W];rfl
  have X:=Bl (i:=i) (by rw[oP];simp);have iR:((aa++[n])++(am++(s3.gone.map (·.1)++aV))).Perm ((aa++[n])++(am++(s.gone.map (·.1)++aV))):=by rw[e4]
  refine Rn.pure ⟨by omega,Rn.pure ⟨am,aa++[n],sO,Nd.of h (e2.more (by omega)) iR,⟨by simp,?_,?_,?_,?_,I.r5,by have:=I.z5;omega,λ y hy=>?_⟩,iR,⟨λ m hm=>?_,λ c _=>by rw[re]⟩,e3,e4,rfl,rfl,rfl,by omega,by omega,by omega⟩⟩
  ·rw[re];exact I.wh.more (by omega)
  ·rw[re];exact I.wt.more (by omega)
  ·exact I.ln.same λ y _=>by rw[n6,if_neg (by omega)]
  ·have Xm:n∉aa:=λ hm=>(List.nodup_append.1 (List.nodup_append.1 h.nd).1).2.2 n hm n (by simp) rfl
   have nW:flat V3.W.nd aa=flat V.W.nd aa:=Fo λ y hy j _=>by
    have Qx:y≠n:=λ e=>Xm (e▸hy)
    rw[n6,if_neg (by omega)]
   have lc:flat V3.W.nd [n]=da++(v+2)::List.replicate sO 0:=by simp only[flat,List.flatMap_cons,List.flatMap_nil,List.append_nil];rw[RL (nd:=V.W.nd n) oP (by rw[n6,if_pos ⟨rfl,rfl⟩]) (λ j hj=>by rw[n6,if_neg (by omega)]),hP,Xe]
   rw[I2,nW,lc,<-List.append_assoc,<-Am];simp
  ·rcases List.mem_append.1 hy with hy|hy
   ·exact I.vb y hy
   ·rw[List.mem_singleton] at hy;rw[hy];exact hv
  ·have h1:=h.G5 hm;have F3:m≠n:=λ e=>h1.1 (by rw[e];simp)
   funext j
   rw[n6,if_neg (by omega)]
end
theorem UA{ar:Type}{aa ap ab fj:List ar}(h:aa++ap=ab++fj)(R:ab.length<=aa.length):∃C,aa=ab++C/\fj=C++ap:=by
 rcases List.append_eq_append_iff.1 h with⟨W,h1,A⟩|⟨W,h1,A⟩
 ·have:W=[]:=by
   have:=congrArg List.length h1;rw[List.length_append] at this;exact List.eq_nil_of_length_eq_zero (by omega)
  subst this;exact⟨[],by simpa using h1.symm,by simpa using A.symm⟩
 ·exact⟨W,h1,A⟩
section
variable{l:ag}{N:Nat}{B:Int}{V aR:Vw}{s M:ah}{am aV:List Int}
theorem Ch.first{F tl aL:Int}{W:Ws}{n:Int}{ap:List Int}{r z:Nat}{xs:List Int}(h:Ch F tl aL W (n::ap) r z xs):∃P Q C,Sg.iG=P++Q/\P.map (W.nd n)=List.replicate r 1/\Q.map (W.nd n)=C/\P.length=r/\xs.map (·+2)++List.replicate z 0=C++flat W.nd ap:=by have CU:=h.ce;have hf:flat W.nd (n::ap)=Sg.iG.map (W.nd n)++flat W.nd ap:=rfl;rw[hf] at CU;obtain⟨C,h1,A⟩:=UA CU (by rw[List.length_replicate,List.length_map];exact h.r5);obtain⟨P,Q,K,h4,h5,h6⟩:=RK h1;exact⟨P,Q,C,K,h4,h5,by rw[h6,List.length_replicate],A⟩
theorem Nh{F tl aL n:Int}{ap:List Int}{r z:Nat}{xs:List Int}(hB:B<=80000)(hN:N<=100)(lP:9<=F/\F<l.node)(h:Nd N B V s am aV (n::ap))(I:Ch F tl aL V.W (n::ap) r z xs)(hr:r<5\/ap=[]):
 Rn l N (λ _=>Sg.sV l 0 F tl) s V λ _ aR x M=>∃o iH kG,x=some o/\Nd N B aR M am aV (n::ap)/\Ch F tl aL aR.W (n::ap) iH z kG/\Fr F (F+2) V aR aV/\(∀i,M.e i=0)/\M.gone=s.gone/\o.err=0/\((xs=[]/\kG=[]/\o.val=0/\o.is=false)\/∃y,xs=y::kG/\o.val=y/\o.is=true)/\s.made<M.made/\M.made<=s.made+22:=by
 have Kf:=wU V.er s;have hn:=h.mem (n:=n) (by simp);have j3:(ay (V.W.ob F)).idx=n:=I.wh.idx (show 0<=n by omega) (show n<65536 by omega);obtain⟨P,Q,C,oP,hP,hQ,FA,hC⟩:=I.first;have Jp:P.length+Q.length=5:=by have:=congrArg List.length oP;rw[List.length_append] at this;have h5:Sg.iG.length=5:=rfl;omega
 unfold Sg.sV;refine Rn.bind ((xL (a:=.ob F) (by omega) h.lv (by omega) (by omega) rfl (λ _ _ _=>rfl) λ V s h=>h.rD (by omega) rfl (by omega) fq).mono ?_);rintro A1 V1 _ s1 ⟨a1,a2,rfl,a3,a4,a5⟩-;have h1:=h.to a2 a3;dsimp only;rw[show V.get (.ob F)=V.W.ob F from rfl,j3,oP];have CL:∀i d9,Q=i::d9->(V.W.nd n i=0/\xs=[])\/∃y kG,(0<=y/\y<65536)/\V.W.nd n i=y+2/\xs=y::kG/\kG.map (·+2)++List.replicate z 0=d9.map (V.W.nd n)++flat V.W.nd ap:=λ i d9 e=>by
  rw[<-hQ,e,List.map_cons,List.cons_append] at hC;cases xs with
  |nil=>
   cases z with
   |zero=>simp at hC
   |succ z=>
    rw[List.map_nil,List.nil_append,List.replicate_succ] at hC;injection hC with h1 _
    exact .inl ⟨h1.symm,rfl⟩
  |cons y kG=>
   rw[List.map_cons,List.cons_append] at hC;injection hC with h1 A
   exact .inr ⟨y,kG,I.vb y (by simp),h1.symm,rfl,A⟩
 refine Rn.bind ((Lr (n:=n) (Q:=Q) (by omega) hn.1 hn.2 P a2 (λ j hj=>?_) (λ j hj=>Bl (by rw[oP];exact hj)) (λ i d9 e=>?_)).mono ?_)
 ·rw[a1.W];have:V.W.nd n j∈P.map (V.W.nd n):=List.mem_map_of_mem hj;rw[hP] at this;exact List.eq_of_mem_replicate this
 ·rw[a1.W];rcases CL i d9 e with⟨h1,_⟩|⟨y,_,h1,A,_⟩
  ·exact .inl h1
  ·exact .inr ⟨y,h1,A⟩
 rintro A2 V2 x s2 ⟨b1,b2,b4,b3⟩ n4;have de:s2.gone=s.gone:=by rw[b2];exact a3
 have AJ:fF V.er s2=fF V.er s1:=by rw[b2];rfl
 have same:∀(o:bf)(s3:ah),V2=V1->Lv N B V2 s3 am->s3.gone=s.gone->fF V.er s3=fF V.er s1->s3.made<=s1.made+8->s1.made<=s3.made->o.err=0->o.val=0->o.is=false->xs=[]->Rn l N (λ _=>(ge l 0).bind λ _=>.pure (some o)) s3 V2 λ _ aR x M=>∃o iH kG,x=some o/\Nd N B aR M am aV (n::ap)/\Ch F tl aL aR.W (n::ap) iH z kG/\Fr F (F+2) V aR aV/\(∀i,M.e i=0)/\M.gone=s.gone/\o.err=0/\((xs=[]/\kG=[]/\o.val=0/\o.is=false)\/∃y,xs=y::kG/\o.val=y/\o.is=true)/\s.made<M.made/\M.made<=s.made+22:=by
  intro o s3 e1 we fV wz yc afw he hv x4 AO;subst e1;refine Rn.bind ((ui (by omega) we).mono ?_);rintro A3 V3 _ s4 ⟨c1,c2,c3,c4,c5⟩ AD;rw[a1.er,wz] at c5;have hW:V3.W=V.W:=by rw[c1.W,a1.W]
  exact Rn.pure ⟨o,r,xs,rfl,h.to c2 (c4.trans fV),by rw[hW];exact I,⟨λ m _=>by rw[hW],λ c _=>by rw[hW]⟩,c3,c4.trans fV,he,.inl ⟨AO,AO,hv,x4⟩,by omega,by omega⟩
 rcases b3 with⟨rfl,rfl,rfl⟩|⟨i,d9,o,rfl,rfl,b5,⟨b6,rfl,b7,b8⟩|⟨y,aeL,b6,rfl,b7,b8⟩⟩
 ·
  have Qg:r=5:=by simp at Jp;omega
  have hY:ap=[]:=hr.resolve_left (by omega);subst hY;have AO:xs=[]:=by rw[<-hQ] at hC;simp[flat] at hC;exact hC.1
  refine Rn.load (a:=.nd n 0) rfl ((h.to b1 de).fY (by omega) (by simp) rfl (by omega) fq) ?_;have xY:V2.get (.nd n 0)=0:=by show V2.W.nd n 0=0;rw[a1.W];exact I.ln.1
  refine Rn.fm xY (Rn.last ?_);exact same _ s2.up rfl b1.up de AJ (by show s2.made+1<=_;omega) (by show _<=s2.made+1;omega) rfl rfl rfl AO
 ·have AO:xs=[]:=by
   rcases CL i d9 rfl with⟨_,A⟩|⟨y,_,h1,A,_⟩
   ·exact A
   ·rw[a1.W] at b6;omega
  exact same o s2 rfl b1 de AJ (by omega) (by omega) b5 b7 b8 AO
 ·rcases CL i d9 rfl with⟨A,_⟩|⟨HM,kG,aP,A,K,h4⟩
  ·rw[a1.W] at b6;omega
  rw[a1.W] at b6;have ZA:HM=y:=by omega
  subst ZA;refine Rn.bind ((ui (by omega) b1).mono ?_);rintro A3 V3 _ s3 ⟨e1,e2,e3,e4,e5⟩ yc;have e4:s3.gone=s.gone:=e4.trans de;have JE:(V1.put (.nd n i) 1).er=V.er:=by rw[<-a1.er];rfl
  rw[JE,AJ] at e5;have n6:∀m j,V3.W.nd m j=if m=n/\j=i then 1 else V.W.nd m j:=λ m j=>by rw[e1.W,<-a1.W];rfl
  have re:V3.W.ob=V.W.ob:=by rw[e1.W,<-a1.W];rfl
  have X:=Bl (i:=i) (by rw[oP];simp);have Jt:n∉ap:=λ hm=>(List.nodup_cons.1 (List.nodup_append.1 h.nd).1).1 hm
  refine Rn.pure ⟨o,r+1,kG,rfl,h.to e2 e4,⟨by simp,?_,?_,?_,?_,by simp at Jp;omega,I.z5,λ w hw=>I.vb w (by rw[K];simp[hw])⟩,⟨λ m hm=>?_,λ c _=>by rw[re]⟩,e3,e4,b5,.inr ⟨HM,K,b7,b8⟩,by omega,by omega⟩
  ·rw[re];exact I.wh
  ·rw[re];exact I.wt
  ·exact I.ln.same λ y _=>by rw[n6,if_neg (by omega)]
  ·have nW:flat V3.W.nd ap=flat V.W.nd ap:=Fo λ y hy j _=>by
    have Qx:y≠n:=λ e=>Jt (e▸hy)
    rw[n6,if_neg (by omega)]
   show Sg.iG.map (V3.W.nd n)++flat V3.W.nd ap=_;rw[RL (nd:=V.W.nd n) oP (by rw[n6,if_pos ⟨rfl,rfl⟩]) (λ j hj=>by rw[n6,if_neg (by omega)]),hP,nW,h4,List.replicate_succ'];simp
  ·have h1:=h.G5 hm;have F3:m≠n:=λ e=>h1.1 (by rw[e];simp)
   funext j
   rw[n6,if_neg (by omega)]
theorem ZS:∀{ap:List Int},ap≠[]->ap.getLastD 0∈ap
 |[],h=>absurd rfl h
 |y::ap,_=>by
  rw[List.getLastD_eq_getLast?,List.getLast?_eq_some_getLast (by simp)];exact List.getLast_mem _
theorem UJ{F tl aL n:Int}{ap:List Int}{z:Nat}{xs:List Int}(hB:B<=70000)(hN:N<=100)(hK:aL<=90000)(hS:l.az=1)(lP:9<=F/\F<l.node)(gz:tl=F+1/\tl<l.node)(h:Nd N B V s am aV (n::ap))(I:Ch F tl aL V.W (n::ap) 5 z xs)(hY:ap≠[])(dp:s.gone.length<=1):
 Rn l N (λ _=>Sg.sV l 0 F tl) s V λ _ aR x M=>x=none/\∃bV,Nd N (B+3) aR M bV aV ap/\Ch F tl (aL+1) aR.W ap 0 z xs/\(ap++(bV++(M.gone.map (·.1)++aV))).Perm ((n::ap)++(am++(s.gone.map (·.1)++aV)))/\Fr F (F+2) V aR aV/\(∀i,M.e i=0)/\M.gone.length<=1/\s.made<M.made/\M.made<=s.made+37/\am.length<=bV.length:=by
 have Kf:=wU V.er s;have hn:=h.mem (n:=n) (by simp);have j3:(ay (V.W.ob F)).idx=n:=I.wh.idx (show 0<=n by omega) (show n<65536 by omega);have hnd:=List.nodup_append.1 h.nd;have Jt:n∉ap:=(List.nodup_cons.1 hnd.1).1;obtain⟨P,Q,C,oP,hP,hQ,FA,hC⟩:=I.first;have CL:Q=[]:=by have:=congrArg List.length oP;rw[List.length_append] at this;have h5:Sg.iG.length=5:=rfl;exact List.eq_nil_of_length_eq_zero (by omega)
 subst CL;have afj:=sc (N:=N) (am:=ap) λ x O=>(h.mem (n:=x) (by simp[O])).1
 have x9:=ZS hY;have afu:=h.mem (n:=ap.getLastD 0) (List.mem_cons_of_mem _ x9);have Yu:(n::ap).getLastD 0=ap.getLastD 0:=by cases ap with|nil=>exact absurd rfl hY|cons y ap=>rfl
 have yy:=I.wt;rw[Yu] at yy;have Zw:=yy.idx (by omega) (by omega);unfold Sg.sV;refine Rn.bind ((xL (a:=.ob F) (by omega) h.lv (by omega) (by omega) rfl (λ _ _ _=>rfl) λ V s h=>h.rD (by omega) rfl (by omega) fq).mono ?_);rintro A1 V1 _ s1 ⟨a1,a2,rfl,a3,a4,a5⟩-;dsimp only;rw[show V.get (.ob F)=V.W.ob F from rfl,j3,oP];refine Rn.bind ((Lr (n:=n) (Q:=[]) (by omega) hn.1 hn.2 P a2 (λ j hj=>?_) (λ j hj=>Bl (by rw[oP];exact hj)) (λ i d9 e=>by cases e)).mono ?_)
 ·rw[a1.W];have:V.W.nd n j∈P.map (V.W.nd n):=List.mem_map_of_mem hj;rw[hP] at this;exact List.eq_of_mem_replicate this
 rintro A2 V2 x s2 ⟨b1,b2,b4,b3⟩ n4;have de:s2.gone=s.gone:=by rw[b2];exact a3
 have AJ:fF V.er s2=fF V.er s1:=by rw[b2];rfl
 rcases b3 with⟨_,rfl,rfl⟩|⟨i,d9,o,e,_⟩
 case inr=>cases e
 have A:=h.to b1 de;refine Rn.load (a:=.nd n 0) rfl (A.fY (by omega) (by simp) rfl (by omega) fq) ?_;have xY:V2.get (.nd n 0)=ap.headD 0:=by show V2.W.nd n 0=_;rw[a1.W];exact I.ln.1
 have FG:ap.headD 0≠0:=by
  cases ap with
  |nil=>exact absurd rfl hY
  |cons y ap=>have:=(h.mem (n:=y) (by simp)).1;simp;omega
 rw[xY];refine Rn.gY FG (Rn.load (a:=.ob tl) rfl (A.lv.up.rD (by omega) rfl (by omega) fq) ?_);have JQ:V2.get (.ob tl)=V.W.ob tl:=by show V2.W.ob tl=_;rw[a1.W]
 rw[JQ,Zw];refine Rn.gY (λ e=>Jt (by rw[<-e];exact x9)) ?_;unfold Sg.vH;rw[j3];refine Rn.rO (a:=.ob F) rfl (by show V2.W.ob F=_;rw[a1.W]) (A.lv.up.up.rD (by omega) rfl (by omega) (Bp _)) (Rn.fm rfl ?_);have we:=((A.lv.ob F (cf (co (ay (V.W.ob F)) (ap.headD 0)))).up.up.up);have n6:(V2.put (.ob F) (cf (co (ay (V.W.ob F)) (ap.headD 0)))).W.nd=V.W.nd:=by rw[<-a1.W];rfl
 have re:∀c,(V2.put (.ob F) (cf (co (ay (V.W.ob F)) (ap.headD 0)))).W.ob c=if c=F then cf (co (ay (V.W.ob F)) (ap.headD 0)) else V.W.ob c:=λ c=>by rw[<-a1.W];rfl
 have Pe:(V2.put (.ob F) (cf (co (ay (V.W.ob F)) (ap.headD 0)))).er=V.er:=by rw[<-a1.er];rfl
 generalize V2.put (.ob F) (cf (co (ay (V.W.ob F)) (ap.headD 0)))=V3 at we n6 re Pe;refine Rn.bind ((ui (by omega) we).mono ?_);rintro A4 V4 _ s4 ⟨c1,c2,c3,c4,c5⟩ AD;have iq:s4.gone=s.gone:=c4.trans de;have h4:Nd N B V4 s4 am aV (n::ap):=h.to c2 iq;have tK:=h4.ret (n:=n) (by simp);refine Rn.bind ((LP (n:=n) hN (by omega) hS c2 c3 tK.1 tK.2 (by rw[iq];exact dp)).mono ?_);rintro A5 V5 _ s5 ⟨F5,d1,d2,d3,d4,d5,d6⟩ Df;have hW:V5.W=V3.W:=by rw[d3,c1.W]
 rw[iq] at d2;have iR:(ap++(F5++(s5.gone.map (·.1)++aV))).Perm ((n::ap)++(am++(s.gone.map (·.1)++aV))):=by
  have h1:(F5++(s5.gone.map (·.1)++aV)).Perm (n::(am++(s.gone.map (·.1)++aV))):=by
   have:=d2.append_right aV
   simpa[List.append_assoc] using this
  exact(List.Perm.append_left _ h1).trans List.perm_middle
 rw[Pe] at c5;have m3:s2.up.up.up.made=s2.made+3:=rfl;have p3:fF V.er s2.up.up.up=fF V.er s2:=rfl;rw[m3,p3] at c5;rw[m3] at AD;have ae8:P.length=5:=FA;refine Rn.pure ⟨rfl,F5,Nd.of h d1 iR,⟨hY,?_,?_,?_,?_,by omega,I.z5,I.vb⟩,iR,⟨λ m _=>by rw[hW,n6],λ c L=>by rw[hW,re,if_neg (by omega)]⟩,d4,d5,by omega,by omega,?_⟩
 ·rw[hW,re,if_pos rfl];exact I.wh.HH (by omega) (by show 0<=n/\n<65536;omega) (by omega)
 ·rw[hW,re,if_neg (by omega)];exact yy.more (by omega)
 ·rw[hW,n6];exact I.ln.2
 ·rw[hW,n6];have:C=[]:=by rw[<-hQ];rfl
  rw[this,List.nil_append] at hC;rw[<-hC];rfl
 ·have:=d2.length_eq;simp only[List.length_append,List.length_cons,List.length_map] at this;omega
theorem acz{F tl aL:Int}{S:List Int}{r z:Nat}{xs:List Int}(hN:N<=100)(hB:B<=60000)(hK:aL<=90000)(hS:l.az=1)(lP:9<=F/\F<l.node)(gz:tl=F+1/\tl<l.node)(h:Nd N B V s am aV S)(I:Ch F tl aL V.W S r z xs)(dp:s.gone.length<=1):
 Rn l N (λ _=>Sg.vh l 0 F tl) s V λ _ aR x M=>∃bV iY iH kG,Nd N (B+4) aR M bV aV iY/\Ch F tl (aL+1) aR.W iY iH z kG/\(iY++(bV++(M.gone.map (·.1)++aV))).Perm (S++(am++(s.gone.map (·.1)++aV)))/\Fr F (F+2) V aR aV/\(∀i,M.e i=0)/\M.gone.length<=1/\x.err=0/\((xs=[]/\kG=[]/\x.val=0/\x.is=false)\/∃y,xs=y::kG/\x.val=y/\x.is=true)/\s.made<M.made/\M.made<=s.made+59/\am.length<=bV.length:=by
 obtain⟨n,ap,rfl⟩:∃n ap,S=n::ap:=by
  cases S with
  |nil=>exact absurd rfl I.ne
  |cons n ap=>exact⟨n,ap,rfl⟩
 have h5:=I.r5;unfold Sg.vh;refine Rn.at (λ _=>Nat.le_refl _) (Rn.loop (λ k=>rfl) ?_)
 by_cases hr:r<5\/ap=[]
 ·refine(Nh (by omega) hN lP h I hr).mono ?_;rintro A1 V1 _ s1 ⟨o,iH,kG,rfl,a1,a2,a3,a4,a5,a6,a7,a8,a9⟩-;exact⟨a8,Rn.pure ⟨am,n::ap,iH,kG,⟨a1.lv.more (by omega),a1.nd,a1.rg⟩,a2.more (by omega),by rw[a5],a3,a4,by rw[a5];exact dp,a6,a7,a8,by omega,by omega⟩⟩
 ·have Qg:r=5:=by omega
  have hY:ap≠[]:=λ e=>hr (.inr e)
  subst Qg;refine(UJ (by omega) hN hK hS lP gz h I hY dp).mono ?_;rintro A1 V1 _ s1 ⟨rfl,F1,a1,a2,a3,a4,a5,a6,a7,a8,a9⟩-;refine⟨a7,Rn.loop (λ k=>rfl) ?_⟩;obtain⟨cU,B9,rfl⟩:∃n B9,ap=n::B9:=by
   cases ap with
   |nil=>exact absurd rfl hY
   |cons n B9=>exact⟨n,B9,rfl⟩
  refine(Nh (by omega) hN lP a1 a2 (.inl (by omega))).mono ?_;rintro A2 V2 _ s2 ⟨o,iH,kG,rfl,b1,b2,b3,b4,b5,b6,b7,b8,b9⟩-;exact⟨b8,Rn.pure ⟨F1,cU::B9,iH,kG,⟨b1.lv.more (by omega),b1.nd,b1.rg⟩,b2,by rw[b5];exact a3,a4.trans b3,b4,by rw[b5];exact a6,b6,b7,by omega,by omega,a9⟩⟩
end
def lS(b:Int):ag:=gm ⟨1,30,b,2,1,0,2,1,2⟩
def fT(b:Int):Prop:=b=1\/b=2\/b=4
theorem pM(b:Int):(lS b).az=1/\(lS b).nodes=30/\(lS b).buckets=b/\(lS b).bP=2/\(lS b).maps=2/\(lS b).cZ=1/\(lS b).bo=2/\(lS b).era=2/\(lS b).free=3/\(lS b).kV=6/\(lS b).map=20/\(lS b).stack=24+2*b/\(lS b).chan=27+2*b/\(lS b).node=31+2*b/\(lS b).size=271+2*b:=by
 have e:ng 1=1:=by decide
 refine⟨rfl,rfl,rfl,rfl,rfl,rfl,rfl,rfl,rfl,rfl,?_,?_,?_,?_,?_⟩<;>simp only[lS,gm,e,sJ]<;>omega
theorem DN{b n i:Int}(h1:1<=n/\n<=30)(A:0<=i/\i<=7):aE (lS b) n i=31+2*b+8*(n-1)+i:=by have h:=pM b;unfold aE;rw[if_neg (by omega),y7 (by omega) (by rw[h.2.1];omega) (by omega) (by omega),h.2.2.2.2.2.2.2.2.2.2.2.2.2.1];omega
theorem KG{b:Int}(T:fT b):oH (lS b) 1 30:=by
 have h:=pM b;unfold fT at T;refine⟨h.1,h.2.1,h.2.2.2.2.2.2.2.1,h.2.2.2.2.2.2.2.2.1,?_,?_,by omega,by omega,Nat.le_refl _⟩
 ·intro w i a1 a2 a3 a4;unfold cg;rw[y7 (by omega) (by rw[h.1];omega) (by omega) (by omega)];omega
 ·intro n i a1 a2 a3 a4;rw[DN ⟨a1,by omega⟩ (by omega)];omega
theorem Iz{nx nd:Int->Int}{N:Int}:∀(aC acc:List Int)(k:Nat),(∀x∈aC,1<=x/\x<=N)->(acc++aC).Nodup->aC.length<k->gF nd aC->(∀x∈aC,nx x=nd x)->ko nx N k acc (aC.headD 0)=acc++aC
 |[],acc,0,_,_,I,_,_=>by simp at I
 |[],acc,k+1,_,_,_,_,_=>by
  rw[ko,if_neg (by simp)];simp
 |x::aC,acc,0,_,_,I,_,_=>by simp at I
 |x::aC,acc,k+1,T,F,I,R,hn=>by
  have O:=T x (by simp);have Dl:x∉acc:=λ h=>by
   rw[List.nodup_append] at F;exact F.2.2 x h x (by simp) rfl
  rw[List.headD_cons,ko,if_pos ⟨O.1,O.2,Dl⟩,hn x (by simp),R.1,Iz aC (acc++[x]) k (λ y hy=>T y (by simp[hy])) (by simpa using F) (by simp at I;omega) R.2 (λ y hy=>hn y (by simp[hy]))];simp
theorem zi{l:ag}{N:Nat}{m:List Int}{V:Vw}(Z:oH l 1 N)(hV:lq l 1 N m V){a:Ad}(ha:a.ok l 1 N):bv m (a.cell l)=V.get a:=by have h:=Ad.Cj Z ha;have R:=hV.len;unfold bv;rw[if_neg (by omega)];exact hV.at_ a ha
theorem WB{l:ag}{N:Nat}{m:List Int}{V:Vw}{am:List Int}(Z:oH l 1 N)(hN:N<=100)(hV:lq l 1 N m V)(hF:BU N V.fr V.lk am):uY l m=am:=by
 unfold uY;rw[show bv m l.free=V.fr from zi Z hV (a:=.free) trivial,hF.idx hN];have ci:=wJ N am hF.nd hF.rg;have:=Iz (nx:=λ n=>bv m (aE l n 7)) (N:=l.nodes) am [] (l.nodes.toNat+1) (λ x O=>by rw[Z.nodes];exact hF.rg x O) (by simpa using hF.nd) (by rw[Z.nodes];omega) hF.lf (λ x O=>zi Z hV (a:=.lk x) (hF.rg x O))
 simpa using this
theorem Xo{l:ag}{N:Nat}{m:List Int}{V:Vw}(Z:oH l 1 N)(hN:N<=100)(hV:lq l 1 N m V){a:Hk}(hs:Sf l N V a):lM m.length (a.acc l)=0/\lq l 1 N (gE m (a.acc l)).1 (ny V a).1/\(gE m (a.acc l)).2=(ny V a).2/\uA l m (a.acc l)=false:=by
 obtain⟨h1,_,K,am,h4,h5⟩:=hs;have PT:=Z.low;have bQ:=Z.size;have CF:lM m.length (a.acc l)=0/\lq l 1 N (gE m (a.acc l)).1 (ny V a).1/\(gE m (a.acc l)).2=(ny V a).2:=by
  cases a with
  |ak a=>have h:=Uk Z hV (by omega) h1;exact⟨h.fault,h.view,h.res⟩
  |ad c v=>
   have h1:(Ad.ob c).ok l 1 N:=h1;have dz:=Ad.Cj Z h1;have ci:=hV.len;have hi:ef m c=V.W.ob c:=hV.at_ _ h1;have ht:gE m (Hk.acc l (.ad c v))=(m.set c.toNat (lm (ef m c+v)),⟨ef m c,true⟩):=by simp[gE,Hk.acc]
   refine⟨CC dz.1 (by show c<_;have:(Ad.ob c).cell l=c:=rfl;omega) (.inr (.inr (.inr ⟨rfl,rfl⟩))),?_,?_⟩
   ·rw[ht,hi];exact hV.put Z (a:=.ob c) h1 _
   ·rw[ht,hi];rfl
 refine⟨CF.1,CF.2.1,CF.2.2,?_⟩;have L:(a.acc l).cell=a.nS.cell l:=by cases a with|ak a=>cases a<;>rfl|ad c v=>rfl
 unfold uA;rw[L,WB Z hN hV h4];generalize a.nS=d at h1 h5;cases d with
 |era=>rw[if_pos (.inl (by show l.era<_;rw[Z.era];omega))]
 |free=>rw[if_pos (.inl (by show l.free<_;rw[Z.free];omega))]
 |ob c=>rw[if_pos (.inl h1.2)]
 |rv w i=>obtain⟨b1,b2,b3,b4⟩:=h1;rw[if_pos (.inl (by show cg l w i<_;rw[Z.kV w i b1 b2 b3 b4];omega))]
 |nd n i=>
  obtain⟨b1,b2,b3,b4⟩:=h1;rw[show Ad.cell l (.nd n i)=_ from Z.node n i b1 b2 b3 (by omega),if_neg (by omega),List.any_eq_false];intro x O e;have e:x=(l.node+8*(n-1)+i-l.node)/8+1:=by simpa using e
  exact(h5 x O).1 i (by rw[e,show(l.node+8*(n-1)+i-l.node)/8+1=n by omega])
 |bi n=>
  obtain⟨b1,b2⟩:=h1;rw[show Ad.cell l (.bi n)=_ from Z.node n 6 b1 b2 (by omega) (by omega),if_neg (by omega),List.any_eq_false];intro x O e;have e:x=(l.node+8*(n-1)+6-l.node)/8+1:=by simpa using e
  exact(h5 x O).2 (by rw[e,show(l.node+8*(n-1)+6-l.node)/8+1=n by omega])
 |lk n=>obtain⟨b1,b2⟩:=h1;rw[show Ad.cell l (.lk n)=_ from Z.node n 7 b1 b2 (by omega) (by omega),if_pos (.inr (.inr (by omega)))]
def p5(m:List Int):Prop:=∀x∈m,x<9223372036854775808
theorem Tv(n:Int):lm n<9223372036854775808:=by unfold lm;split<;>omega
theorem ad3{l:ag}{N:Nat}{m:List Int}{V:Vw}{a:Hk}(hm:p5 m)(hs:Sf l N V a):p5 (gE m (a.acc l)).1:=by
 have key:∀c v:Int,v<9223372036854775808->p5 (m.set c.toNat v):=λ c v hv x O=>by
  rcases List.mem_or_eq_of_mem_set O with h|h
  ·exact hm x h
  ·rw[h];exact hv
 have hw:=hs.wr;cases a with
 |ad c v=>exact key _ _ (Tv _)
 |ak a=>
  cases a with
  |ld a=>exact hm
  |st a v=>exact key _ _ hw
  |cs a o v=>
   show p5 (gE m ⟨3,a.cell l,o,v⟩).1;rw[Mv];split
   ·exact key _ _ hw
   ·exact hm
  |up=>exact key _ _ (Tv _)
def oz(s:Int)(j:Nat):List Int:=(List.range j).map λ(i:Nat)=>s+(i:Int)
theorem ack(s:Int)(j:Nat):(oz s j).length=j:=by simp[oz]
theorem acl(s:Int)(j:Nat):oz s j++[s+(j:Int)]=oz s (j+1):=by unfold oz;rw[List.range_succ,List.map_append];rfl
theorem M9{l:ag}{N:Nat}:∀(ab:List Hk)(V:Vw)(j:Nat)(a:Hk),ab[j]?=some a->vw l N V ab->(jk V ab).take j++[(ny (mJ V (ab.take j)) a).2]=(jk V ab).take (j+1)/\mJ V (ab.take (j+1))=(ny (mJ V (ab.take j)) a).1/\Sf l N (mJ V (ab.take j)) a
 |[],_,_,_,h,_=>by simp at h
 |b::ab,V,0,a,h,hs=>by
  have:b=a:=by simpa using h
  subst this;exact⟨rfl,rfl,hs.1⟩
 |b::ab,V,j+1,a,h,hs=>by
  obtain⟨h1,A,K⟩:=M9 ab (ny V b).1 j a (by simpa using h) hs.2;exact⟨by simp only[jk,List.take_succ_cons,List.cons_append,mJ];rw[h1],A,K⟩
section
variable{l:ag}{N:Nat}{ops:List bt}{op:bt}{m:Pm bf}{V aR:Vw}{ab:List Hk}{g:List (Int×Int)}{out:bf}{M:ah}
theorem MY(Z:oH l 1 N)(hN:N<=100)(iD:∀log,oq l ((0:Nat):Int) g op log=lB (m log ⟨0,g,0,0,0⟩))(E:Ev l N (λ _=>m) ⟨0,g,0,0,0⟩ V ab aR out M){t:dG}{j k:Nat}{a:Hk}{st:List Int}(ha:ab[j]?=some a)(hV:lq l 1 N t.m (mJ V (ab.take j)))(R:t.az.length=1)(hw:t.cD=false)(T:t.bad=false)(hm:p5 t.m):
 ∃m,p5 m/\lq l 1 N m (mJ V (ab.take (j+1)))/\mu l t 0 ⟨op,(jk V ab).take j,st,k,g⟩=⟨m,t.step+1,[⟨op,(jk V ab).take (j+1),st++[t.step],k,g⟩],t.calls,t.full,false,false⟩:=by
 obtain⟨h1,A,K⟩:=M9 ab V j a ha E.sf;obtain⟨b1,b2,b3,b4⟩:=Xo Z hN hV K;have he:=E.er [] j a (j+1) rfl ha (by omega);rw[List.nil_append] at he;refine⟨(gE t.m (a.acc l)).1,ad3 hm K,by rw[A];exact b2,?_⟩;unfold mu;simp only;rw[iD,he];simp only[lB,Bool.false_eq_true,if_false];simp only[b1,if_true,b3,h1,b4,hw,T,Bool.or_self]
 match t.az,R with
 |[x],_=>rfl
theorem Be{l:ag}{want:List (List bt)}{w:Nat}:∀(a b:Nat)(t:dG),iy l want w (a+b) t=iy l want w b (iy l want w a t)
 |0,b,t=>by rw[Nat.zero_add];rfl
 |a+1,b,t=>by
  rw[show a+1+b=(a+b)+1 by omega,iy,iy]
  by_cases h:t.bad=true
  ·rw[if_pos h,if_pos h];have:∀b:Nat,iy l want w b t=t:=λ b=>by cases b<;>simp[iy,h]
   rw[this]
  ·rw[if_neg h,if_neg h,Be a b]
theorem Ld{l:ag}{want:List (List bt)}{w:Nat}{t:dG}(h:t.bad=false):iy l want w 1 t=kC l want t w:=by rw[iy,if_neg (by simp[h])];rfl
theorem Uh(Z:oH l 1 N)(hN:N<=100)(h0:op.kind≠0)(iD:∀log,oq l ((0:Nat):Int) g op log=lB (m log ⟨0,g,0,0,0⟩))(E:Ev l N (λ _=>m) ⟨0,g,0,0,0⟩ V ab aR out M){t:dG}{k:Nat}{lg:List aD}{st:List Int}(I:ops[k]?=some op)(hV:lq l 1 N t.m V)(hs:t.az=[⟨jV,lg,st,k,g⟩])(hw:t.cD=false)(T:t.bad=false)(hm:p5 t.m):
 ∀j:Nat,j+1<=ab.length->∃m,p5 m/\lq l 1 N m (mJ V (ab.take (j+1)))/\iy l [ops] 0 (j+1) t=⟨m,t.step+((j+1:Nat):Int),[⟨op,(jk V ab).take (j+1),oz t.step (j+1),k+1,g⟩],t.calls,t.full,false,false⟩:=by
 intro j;induction j with
 |zero=>
  intro hj;have hg:ab[0]?=some ab[0]:=List.getElem?_eq_getElem (by omega);obtain⟨m,WR,h1,A⟩:=MY Z hN iD E (t:=t) (j:=0) (k:=k+1) (st:=[]) hg (by simpa[mJ] using hV) (by rw[hs];rfl) hw T hm;refine⟨m,WR,h1,?_⟩;rw[show(0:Nat)+1=1 from rfl,Ld T];have:kC l [ops] t 0=mu l t 0 ⟨op,[],[],k+1,g⟩:=by unfold kC;rw[hs];simp only[List.getElem?_cons_zero,jV,if_true];rw[I]
  rw[this];rw[List.take_zero] at A;rw[A,show oz t.step (0+1)=[]++[t.step] by simp[oz]]
  rfl
 |succ j ih=>intro hj;obtain⟨m,h5,h1,A⟩:=ih (by omega);have hg:ab[j+1]?=some ab[j+1]:=List.getElem?_eq_getElem (by omega);obtain⟨wG,h6,K,h4⟩:=MY Z hN iD E (t:=⟨m,t.step+((j+1:Nat):Int),[⟨op,(jk V ab).take (j+1),oz t.step (j+1),k+1,g⟩],t.calls,t.full,false,false⟩) (j:=j+1) (k:=k+1) (st:=oz t.step (j+1)) hg h1 rfl rfl rfl h5;refine⟨wG,h6,K,?_⟩;rw[Be (j+1) 1,A,Ld rfl];unfold kC;simp only[List.getElem?_cons_zero];rw[if_neg h0,h4,acl,show t.step+((j+1:Nat):Int)+1=t.step+((j+1+1:Nat):Int) by omega]
theorem abh(Z:oH l 1 N)(hN:N<=100)(h0:op.kind≠0)(iD:∀log,oq l ((0:Nat):Int) g op log=lB (m log ⟨0,g,0,0,0⟩))(E:Ev l N (λ _=>m) ⟨0,g,0,0,0⟩ V ab aR out M)(hA:1<=ab.length)(he:out.err=0){t:dG}{k:Nat}{lg:List aD}{st:List Int}(I:ops[k]?=some op)(hV:lq l 1 N t.m V)(hs:t.az=[⟨jV,lg,st,k,g⟩])(hw:t.cD=false)(T:t.bad=false)(hm:p5 t.m):
 ∃m c KQ L7,p5 m/\lq l 1 N m aR/\iy l [ops] 0 (ab.length+1) t=⟨m,t.step+(ab.length:Int),[⟨jV,KQ,L7,k+1,M.gone⟩],t.calls++[c],t.full,false,false⟩/\c.op=op/\c.val=out.val/\c.is=out.is:=by
 obtain⟨m1,ky,hm,ht⟩:=Uh Z hN h0 iD E I hV hs hw T hm (ab.length-1) (by omega);rw[show ab.length-1+1=ab.length by omega,List.take_of_length_le (Nat.le_refl _)] at hm;rw[show ab.length-1+1=ab.length by omega,List.take_of_length_le (by rw[sU];omega)] at ht;have aQ:=E.ok [] [] (ab.length+1) rfl (by omega);rw[List.nil_append,List.append_nil] at aQ;rw[E.ed] at hm;refine⟨m1,⟨((0:Nat):Int),op,out.val,out.is,(oz t.step ab.length).getD 0 0,(oz t.step ab.length).getD ((oz t.step ab.length).length-1) 0,if 0<=out.bS/\out.bS<(oz t.step ab.length).length then(oz t.step ab.length).getD out.bS.toNat 0 else-1⟩,jk V ab,oz t.step ab.length,ky,hm,?_,rfl,rfl,rfl⟩;rw[Be ab.length 1,ht,Ld rfl];unfold kC;simp only[List.getElem?_cons_zero];rw[if_neg h0];unfold mu;simp only;rw[iD,aQ];simp only[lB,if_true];unfold pz;simp only[he];rw[if_neg (by omega),if_neg (by rw[ack];omega)]
 rfl
theorem Qz{t:dG}{lg:List aD}{st:List Int}{k:Nat}(hs:t.az=[⟨jV,lg,st,k,g⟩])(I:ops.length<=k):∀j:Nat,iy l [ops] 0 j t=t
 |0=>rfl
 |j+1=>by
  have:kC l [ops] t 0=t:=by unfold kC;rw[hs];simp only[List.getElem?_cons_zero,jV,if_true];rw[List.getElem?_eq_none I]
  rw[iy,this,Qz hs I j];simp
end
def kM(c:jM)(op:bt):jM×Int×Bool:=
 if op.kind<=3 then((1,(nU (c.2.1.zip c.2.2) op).1.map (·.1),(nU (c.2.1.zip c.2.2) op).1.map (·.2)),(nU (c.2.1.zip c.2.2) op).2)
 else if op.kind=4 then((2,[],op.a::c.2.2),0,true)
 else if op.kind=6 then((3,[],c.2.2++[op.a]),0,true)
 else match c.2.2 with
  |[]=>(c,0,false)
  |v::vs=>((c.1,[],vs),v,true)
def wN(o:bt):Prop:=((1<=o.kind/\o.kind<=3/\0<=o.obj/\o.obj<2)\/(4<=o.kind/\o.kind<=5/\o.obj=0)\/(6<=o.kind/\o.kind<=7/\0<=o.obj/\o.obj<2))/\(0<=o.a/\o.a<65536)/\o.b<9223372036854775808
def sB(o:bt):Nat:=if o.kind<=3 then o.obj.toNat else if o.kind<=5 then 2 else 3+o.obj.toNat
def K6(i:Nat):jM:=if i<=1 then(1,[],[]) else if i=2 then(2,[],[]) else(3,[],[])
def za:jM->List fH->jM->Prop
 |c,[],bw=>bw=c
 |c,h::hs,bw=>∃c1,kM c h.op=(c1,h.val,h.is)/\za c1 hs bw
theorem za.snoc:∀{hs:List fH}{c c1 c2:jM}{h:fH},za c hs c1->kM c1 h.op=(c2,h.val,h.is)->za c (hs++[h]) c2
 |[],_,_,c2,_,e,h=>by
  have e:_=_:=e;subst e;exact⟨c2,h,rfl⟩
 |_::_,_,_,_,_,⟨c1,h1,A⟩,h=>⟨c1,h1,A.snoc h⟩
inductive lJ where
 |mp (al:List eW)|st (aC:List (Int×Int))|ch (S:List Int) (r z:Nat) (xs:List Int)
def lJ.nodes:lJ->List Int
 |.mp al=>al.map (·.1)
 |.st aC=>aC.map (·.1)
 |.ch S _ _ _=>S
def lJ.oM:lJ->Nat
 |.mp al=>il al
 |_=>0
def lJ.fit:lJ->Nat->Prop
 |.mp al,n=>(iL al).length<=n
 |_,_=>True
def zr(n d:Nat):Nat:=2*(n*n)+44*n+4*(d*n)+39*d
def lJ.cost:lJ->Nat->Nat
 |.mp al,n=>zr n (il al-1)
 |_,n=>61*n
def fg(b:Int)(i:Nat):Int:=if i=0 then 20 else if i=1 then 22+b else if i=2 then 24+2*b else if i=3 then 27+2*b else 29+2*b
def oU(b:Int)(i:Nat):Int:=if i=0 then 22+b else if i=1 then 24+2*b else if i=2 then 25+2*b else if i=3 then 29+2*b else 31+2*b
def nR(b aL:Int)(W:Ws)(i:Nat):lJ->Prop
 |.mp al=>i<=1/\Rw W.nd al/\t8 (lS b) (fg b i) W.ob al
 |.st aC=>i=2/\B8 (fg b i) aL W aC
 |.ch S r z xs=>(i=3\/i=4)/\Ch (fg b i) (fg b i+1) aL W S r z xs
def EG:lJ->jM->Prop
 |.mp al,c=>∃S:aZ,c=(1,S.map (·.1),S.map (·.2))/\uc S/\S.Perm (iL al)
 |.st aC,c=>c=(2,[],aC.map (·.2))
 |.ch _ _ _ xs,c=>c=(3,[],xs)
theorem Rw.same{nd u5:Int->Int->Int}{al:List eW}(h:Rw nd al)(hs:∀m∈al.map (·.1),u5 m=nd m):Rw u5 al:=⟨h.ln.same λ x O=>by rw[hs x O],λ x O=>by rw[hs x.1 (List.mem_map_of_mem O)];exact h.od x O,h.up⟩
theorem nR.same{b aL:Int}{W W':Ws}{i:Nat}{o:lJ}(T:fT b)(X:i<=4)(h:nR b aL W i o)(hn:∀m∈o.nodes,W'.nd m=W.nd m)(ho:∀c,fg b i<=c->c<oU b i->W'.ob c=W.ob c):nR b aL W' i o:=by
 have nz:(lS b).buckets=b:=(pM b).2.2.1;unfold fT at T;cases o with
 |mp al=>
  obtain⟨h1,A,K⟩:=h;have hh:oU b i=fg b i+2+b:=by unfold oU fg;rcases(show i=0\/i=1 by omega) with rfl|rfl<;>simp<;>omega
  refine⟨h1,A.same hn,⟨?_,λ j j0 j1=>?_,K.od⟩⟩
  ·rw[ho _ (by omega) (by omega)];exact K.sz
  ·rw[nz] at j1;rw[ho _ (by omega) (by omega)];exact K.bk j j0 (by rw[nz];exact j1)
 |st aC=>obtain⟨rfl,A⟩:=h;refine⟨rfl,⟨?_,A.ln.same λ x O=>by rw[hn x O],λ x O=>by rw[hn x.1 (List.mem_map_of_mem O)];exact A.vl x O⟩⟩;rw[ho _ (by omega) (by simp[fg,oU]<;>omega)];exact A.w
 |ch S r z xs=>
  obtain⟨h1,A⟩:=h;have hh:oU b i=fg b i+2:=by unfold oU fg;rcases h1 with rfl|rfl<;>simp<;>omega
  refine⟨h1,⟨A.ne,?_,?_,A.ln.same λ x O=>by rw[hn x O],?_,A.r5,A.z5,A.vb⟩⟩
  ·rw[ho _ (by omega) (by omega)];exact A.wh
  ·rw[ho _ (by omega) (by omega)];exact A.wt
  ·rw[Fo λ x O _ _=>by rw[hn x O]];exact A.ce
theorem nR.more{b aL nP:Int}{W:Ws}{i:Nat}{o:lJ}(h:nR b aL W i o)(hK:aL<=nP):nR b nP W i o:=by
 cases o with
 |mp al=>exact h
 |st aC=>exact⟨h.1,⟨h.2.w.more hK,h.2.ln,h.2.vl⟩⟩
 |ch S r z xs=>exact⟨h.1,h.2.more hK⟩
theorem aev(S:aZ):(S.map (·.1)).zip (S.map (·.2))=S:=by
 induction S with
 |nil=>rfl
 |cons x S ih=>simp[ih]
theorem VV{op:bt}{S aJ E1:aZ}{out:bf}(I:op.kind=1\/op.kind=2\/op.kind=3)(hu:uc S)(hp:S.Perm aJ)(h:BQ op aJ E1 out):∃S1,nU S op=(S1,out.val,out.is)/\uc S1/\S1.Perm E1:=by
 rcases h with⟨v,h1,A⟩|⟨h1,A⟩
 ·obtain⟨aa,ap,e1,e2⟩:=Oa hu (hp.mem_iff.2 h1);have ba:iN S op.a<S.length:=by rw[e2,e1];simp
  rcases A with⟨k,uL,e3,e4⟩|⟨k,uL,e3,e4⟩|⟨k,uL,e3,e4⟩
  ·refine⟨S,?_,hu,hp.trans uL.symm⟩;unfold nU;rw[if_pos k,if_pos ba,e2,e3,e4,e1];simp
  ·refine⟨S,?_,hu,hp.trans uL.symm⟩;unfold nU;rw[if_neg (by omega),if_pos k,if_pos ba,e3,e4]
  ·have he:S.eraseIdx (iN S op.a)=aa++ap:=by
    rw[e2,e1,List.eraseIdx_append_of_length_le (Nat.le_refl _),Nat.sub_self];rfl
   refine⟨aa++ap,?_,?_,?_⟩
   ·unfold nU;rw[if_neg (by omega),if_neg (by omega),if_pos k,if_pos ba,e3,e4,he]
   ·rw[e1] at hu;exact List.Pairwise.sublist (by simp) hu
   ·have h5:((op.a,v)::(aa++ap)).Perm ((op.a,v)::E1):=by
     rw[e1] at hp;exact(List.perm_middle.symm.trans hp).trans uL
    exact h5.cons_inv
 ·have gV:=Ww (a:=op.a) (S:=S) λ v hv=>h1 v (hp.mem_iff.1 hv)
  rcases A with⟨k,uL,e3,e4⟩|⟨k,uL,e3,e4⟩
  ·refine⟨S,?_,hu,hp.trans uL.symm⟩;unfold nU;rw[e3,e4];rcases I with e|e|e
   ·rw[if_pos e,if_neg gV]
   ·exact absurd e k
   ·rw[if_neg (by omega),if_neg (by omega),if_pos e,if_neg gV]
  ·refine⟨nG S (op.a,op.b),?_,QH hu λ y hy e=>h1 y.2 (hp.mem_iff.1 (by have e:y.1=op.a:=e;rw[<-e];exact hy)),(Gv _ S).trans ((List.Perm.cons _ hp).trans uL.symm)⟩;unfold nU;rw[if_neg (by omega),if_pos k,if_neg gV,e3,e4]
theorem BQ.len{op:bt}{aJ E1:aZ}{out:bf}(h:BQ op aJ E1 out):E1.length<=aJ.length+1:=by rcases h with⟨v,h1,⟨_,A,_⟩|⟨_,A,_⟩|⟨_,A,_⟩⟩|⟨h1,⟨_,A,_⟩|⟨_,A,_⟩⟩<;>have:=A.length_eq<;>(try simp only[List.length_cons] at this)<;>omega
def Ea(l:ag)(op:bt):Pm bf:=
 if op.kind<=3 then sL l 0 op
 else if op.kind=4 then Em.rz l (jK l op.obj) (Em.pg l 0 op.obj) op.a
 else if op.kind=5 then Em.tU l 0 (jK l op.obj) (Em.pg l 0 op.obj)
 else if op.kind=6 then Sg.vo l 0 (nL l op.obj) op.a
 else Sg.vh l 0 (jw l op.obj) (nL l op.obj)
theorem KH{b o i:Int}(T:fT b)(ho:0<=o/\o<2)(X:0<=i/\i<=1):hl (lS b) o i=20+o*(2+b)+i:=by have h:=pM b;unfold fT at T;unfold hl;rw[if_neg (by omega),y7 ho.1 (by rw[h.2.2.2.2.1];omega) X.1 (by rw[h.2.2.1];omega),h.2.2.1,h.2.2.2.2.2.2.2.2.2.2.1]
theorem QS{b:Int}(T:fT b){i:Nat}(X:i<=1):EJ (lS b) (i:Int) (fg b i):=by
 have h:=pM b;have eC:=T;unfold fT at eC;have gU:fg b i=20+(i:Int)*(2+b):=by rcases(show i=0\/i=1 by omega) with rfl|rfl<;>simp[fg]<;>omega
 have PJ:(i:Int)*(2+b)=0\/(i:Int)*(2+b)=2+b:=by rcases(show i=0\/i=1 by omega) with rfl|rfl<;>simp
 refine⟨?_,?_,λ c c0 c1=>?_,?_,?_,?_⟩
 ·rw[KH T (by omega) (by omega),gU];omega
 ·rw[KH T (by omega) (by omega),gU]
 ·rw[h.2.2.1] at c1;unfold hL;rw[h.2.2.1,if_neg (by omega),y7 (by omega) (by rw[h.2.2.2.2.1];omega) (by omega) (by omega),h.2.2.2.2.2.2.2.2.2.2.1,gU];omega
 ·rw[h.2.2.1];exact eC
 ·omega
 ·rw[h.2.2.1,gU,h.2.2.2.2.2.2.2.2.2.2.2.2.2.1];omega
theorem KI{b:Int}:jK (lS b) 0=24+2*b:=by have h:=pM b;unfold jK;rw[y7 (by omega) (by rw[h.2.2.2.2.2.1];omega) (by omega) (by rw[h.2.2.2.1];omega),h.2.2.2.2.2.2.2.2.2.2.2.1];omega
theorem KF{b c:Int}(L:0<=c/\c<2):jw (lS b) c=27+2*b+2*c/\nL (lS b) c=27+2*b+2*c+1:=by have h:=pM b;unfold jw nL;rw[y7 L.1 (by rw[h.2.2.2.2.2.2.1];omega) (by omega) (by omega),y7 L.1 (by rw[h.2.2.2.2.2.2.1];omega) (by omega) (by omega),h.2.2.2.2.2.2.2.2.2.2.2.2.1];omega
theorem abc{b:Int}(T:fT b){op:bt}(h:wN op)(g:List (Int×Int))(log:List aD):oq (lS b) ((0:Nat):Int) g op log=lB (Ea (lS b) op log ⟨0,g,0,0,0⟩):=by
 obtain⟨h1,A,_⟩:=h;unfold fT at T;unfold oq Ea;rcases h1 with⟨k1,k2,k3,k4⟩|⟨k1,k2,k3⟩|⟨k1,k2,k3,k4⟩
 ·rw[if_pos ⟨k1,k2⟩,if_pos k2];unfold rd;have hp:0<=op.obj*(2+b):=Int.mul_nonneg (by omega) (by omega);rw[if_neg (by rw[KH T ⟨k3,k4⟩ (by omega)];omega)]
  rfl
 ·rw[if_neg (by omega),if_pos (by omega),if_neg (by omega),k3];unfold Em.dw;rw[k3,KI,if_neg (by omega)];rcases(show op.kind=4\/op.kind=5 by omega) with e|e
  ·rw[if_pos ⟨e,A.1,by omega⟩,if_pos e];rfl
  ·rw[if_neg (by omega),if_pos e,if_neg (by omega),if_pos e];rfl
 ·rw[if_neg (by omega),if_neg (by omega),if_pos (by omega),if_neg (by omega),if_neg (by omega),if_neg (by omega)];unfold Sg.dw;rw[(KF (b:=b) ⟨k3,k4⟩).1,if_neg (by omega)];rcases(show op.kind=6\/op.kind=7 by omega) with e|e
  ·rw[if_pos e,if_pos e];rfl
  ·rw[if_neg (by omega),if_pos e,if_neg (by omega)];rfl
theorem Vr(n d j:Nat):zr n d+(4*n+46)+j*(4*n+39)<=zr (n+1) (d+j):=by
 unfold zr;have e1:(n+1)*(n+1)=n*n+2*n+1:=by rw[Nat.add_mul,Nat.mul_add];omega
 have e2:(d+j)*(n+1)=d*n+j*n+d+j:=by rw[Nat.mul_add,Nat.add_mul];omega
 have e3:j*(4*n+39)=4*(j*n)+39*j:=by rw[Nat.mul_add,Nat.mul_comm j 39,Nat.mul_left_comm]
 rw[e1,e2,e3];omega
section
variable{b B aL:Int}{V:Vw}{g:List (Int×Int)}{am aV:List Int}
structure TQ(b B aL:Int)(V:Vw)(g:List (Int×Int))(am aV:List Int)(i:Nat)(op:bt)(o:lJ)(aR:Vw)(out:bf)(M:ah)(bV:List Int)(o':lJ):Prop where
 lv:Lv 30 (B+12) aR M bV
 inv:nR b (aL+1) aR.W i o'
 pm:(o'.nodes++(bV++(M.gone.map (·.1)++aV))).Perm (o.nodes++(am++(g.map (·.1)++aV)))
 fr:Fr (fg b i) (oU b i) V aR aV
 z:∀i,M.e i=0
 gl:M.gone.length<=1
 err:out.err=0
 IR:∀c,EG o c->∃bw,kM c op=(bw,out.val,out.is)/\EG o' bw
 md:0<M.made
 cost:∀n,o.fit n->o'.fit (n+1)/\o.cost n+M.made+1<=o'.cost (n+1)
 fl:am.length+o.oM<=bV.length+o'.oM+1
theorem abg{i:Nat}{op:bt}{o:lJ}(T:fT b)(iD:wN op)(X:sB op=i)(hB:B<=50000)(hK:aL<=80000)(Z:Lv 30 B V ⟨0,g,0,0,0⟩ am)(F:(o.nodes++(am++(g.map (·.1)++aV))).Nodup)(hr:∀n∈o.nodes++(am++(g.map (·.1)++aV)),1<=n/\n<=((30:Nat):Int))(hI:nR b aL V.W i o)(dp:g.length<=1)(hF:4<=am.length):
 Rn (lS b) 30 (λ _=>Ea (lS b) op) ⟨0,g,0,0,0⟩ V λ _ aR x M=>∃bV o',TQ b B aL V g am aV i op o aR x M bV o':=by
 have R:=pM b;have hz:∀i,(⟨0,g,0,0,0⟩:ah).e i=0:=λ i=>by unfold ah.e;simp
 have CH:am≠[]:=by intro e;rw[e] at hF;simp at hF
 obtain⟨I,ha,hv⟩:=iD;unfold Ea;have qZ:=T;unfold fT at qZ;cases o with
 |mp al=>
  obtain⟨h1,A,K⟩:=hI;have mS:op.kind<=3:=by unfold sB at X;split at X<;>(try split at X)<;>omega
  have Yf:op.obj=(i:Int):=by unfold sB at X;rw[if_pos mS] at X;omega
  refine Rn.fm mS ?_;have hM:=QS T h1;have nz:=R.2.2.1;have hh:oU b i=fg b i+2+b:=by unfold oU fg;rcases(show i=0\/i=1 by omega) with rfl|rfl<;>simp<;>omega
  refine(ady (by omega) R.1 (λ n j n1 n2 j1 j2=>?_) hM (by omega) ⟨⟨Z,A,F,hr⟩,K,hz,dp⟩ hF (by omega) Yf ha hv).mono ?_
  ·rw[DN ⟨n1,n2⟩ ⟨j1,j2⟩];omega
  ·rintro ab aR x M ⟨bV,ea,j,a1,a2,a3,a4,a5,a6,a7,a8,a9⟩-;have dV:1<=il al:=by
    rcases K.bk 0 (by omega) (by rw[nz];omega) with⟨_,e,_⟩|hm
    ·exact absurd rfl e
    ·have:(V.W.ob (fg b i+2+0),gO 0,(0:Int))∈al.filter λ x=>decide (x.2.1%2=0):=List.mem_filter.2 ⟨hm,by rw[zx.1];rfl⟩
     exact List.length_pos_of_mem this
   refine⟨bV,.mp ea,⟨a1.cl.lv,⟨h1,a1.cl.rw,a1.mi⟩,a2,by rw[hh,<-nz];exact a3,a1.z,a1.gl,a5,?_,?_,?_,by show am.length+il al<=bV.length+il ea+1;omega⟩⟩
   ·rintro c ⟨S,rfl,hu,hp⟩;obtain⟨S1,e1,e2,e3⟩:=VV (by omega) hu hp a4;refine⟨_,?_,S1,rfl,e2,e3⟩;unfold kM;rw[if_pos mS];simp only;rw[aev,e1]
   ·have:=a6.1;omega
   ·intro n hn;have hn:(iL al).length<=n:=hn;refine⟨by show(iL ea).length<=n+1;have:=a4.len;omega,?_⟩;show zr n (il al-1)+M.made+1<=zr (n+1) (il ea-1);have hs:=Vr n (il al-1) j;rw[show il al-1+j=il ea-1 by omega] at hs;have:j*(4*(iL al).length+39)<=j*(4*n+39):=Nat.mul_le_mul_left _ (by omega);omega
 |st aC=>
  obtain⟨rfl,A⟩:=hI;have x5:(op.kind=4\/op.kind=5)/\op.obj=0:=by unfold sB at X;split at X<;>(try split at X)<;>omega
  have yv:jK (lS b) op.obj=24+2*b:=by rw[x5.2];exact KI
  have gU:fg b 2=24+2*b:=rfl;have kw:oU b 2=fg b 2+1:=by simp[oU,fg]<;>omega
  have hN:Nd 30 B V ⟨0,g,0,0,0⟩ am aV (aC.map (·.1)):=⟨Z,F,hr⟩;refine Rn.gY (by omega) ?_;rw[yv];rcases x5.1 with e|e
  ·refine Rn.fm e ((ab2 (aL:=aL) (by omega) (by omega) (by omega) (by omega) hN A hz CH (by omega)).mono ?_);rintro ab aR x M ⟨bV,n,a1,a2,a3,a4,a5,a6,a7,a8,a9,p6,vE⟩-;refine⟨bV,.st ((n,op.a)::aC),⟨a1.lv.more (by omega),⟨rfl,a2⟩,a3,by rw[kw];exact a4,a5,by rw[a6];exact dp,a9,?_,by rw[p6];show 0<0+9;omega,λ n _=>⟨trivial,?_⟩,by show am.length+0<=bV.length+0+1;omega⟩⟩
   ·rintro c rfl;refine⟨_,?_,rfl⟩;unfold kM;rw[if_neg (by omega),if_pos e,a7,a8];rfl
   ·show 61*n+M.made+1<=61*(n+1);rw[p6];show 61*n+(0+9)+1<=_;omega
  ·refine Rn.gY (by omega) (Rn.fm e ((abQ (aL:=aL) (by omega) (by omega) (by omega) R.1 (by omega) hN A dp).mono ?_));rintro ab aR x M ⟨bV,pZ,a1,a2,a3,a4,a5,a6,a7,a8,a9,p6,vE⟩-;have p6:M.made<=0+40:=p6;refine⟨bV,.st pZ,⟨a1.lv.more (by omega),⟨rfl,a2⟩,a3,by rw[kw];exact a4,a5,a6,a8,?_,a9,λ n _=>⟨trivial,?_⟩,by show am.length+0<=bV.length+0+1;omega⟩⟩
   ·rintro c rfl;unfold kM;rw[if_neg (by omega),if_neg (by omega),if_neg (by omega)];rcases a7 with⟨rfl,rfl,e1,e2⟩|⟨y,rfl,e1,e2⟩
    ·exact⟨_,by rw[e1,e2];rfl,rfl⟩
    ·exact⟨_,by rw[e1,e2];rfl,rfl⟩
   ·show 61*n+M.made+1<=61*(n+1);omega
 |ch S r z xs=>
  obtain⟨h1,A⟩:=hI;have FT:(op.kind=6\/op.kind=7)/\(0<=op.obj/\op.obj<2)/\(i:Int)=3+op.obj:=by unfold sB at X;split at X<;>(try split at X)<;>omega
  have lP:=(KF (b:=b) FT.2.1);have gU:fg b i=27+2*b+2*op.obj:=by unfold fg;rcases h1 with rfl|rfl<;>simp<;>omega
  have kw:oU b i=fg b i+2:=by unfold oU fg;rcases h1 with rfl|rfl<;>simp<;>omega
  have hN:Nd 30 B V ⟨0,g,0,0,0⟩ am aV S:=⟨Z,F,hr⟩;refine Rn.gY (by omega) (Rn.gY (by omega) (Rn.gY (by omega) ?_));rw[lP.1,lP.2,<-gU];rcases FT.1 with e|e
  ·refine Rn.fm e ((ac9 (aL:=aL) (by omega) (by omega) (by omega) (by omega) (by omega) hN A CH ha).mono ?_);rintro ab aR x M ⟨bV,iY,sO,a1,a2,a3,a4,a5,a6,a7,a8,a9,p6,vE,Ie⟩-;have vE:M.made<=0+40:=vE;refine⟨bV,.ch iY r sO (xs++[op.a]),⟨a1.lv.more (by omega),⟨h1,a2⟩,a3,by rw[kw];exact a4,a5,by rw[a6];exact dp,a9,?_,p6,λ n _=>⟨trivial,?_⟩,by show am.length+0<=bV.length+0+1;omega⟩⟩
   ·rintro c rfl;refine⟨_,?_,rfl⟩;unfold kM;rw[if_neg (by omega),if_neg (by omega),if_pos e,a7,a8]
   ·show 61*n+M.made+1<=61*(n+1);omega
  ·refine Rn.gY (by omega) ((acz (aL:=aL) (by omega) (by omega) (by omega) R.1 (by omega) (by omega) hN A dp).mono ?_);rintro ab aR x M ⟨bV,iY,iH,kG,a1,a2,a3,a4,a5,a6,a7,a8,a9,p6,vE⟩-;have p6:M.made<=0+59:=p6;refine⟨bV,.ch iY iH z kG,⟨a1.lv.more (by omega),⟨h1,a2⟩,a3,by rw[kw];exact a4,a5,a6,a7,?_,a9,λ n _=>⟨trivial,?_⟩,by show am.length+0<=bV.length+0+1;omega⟩⟩
   ·rintro c rfl;unfold kM;rw[if_neg (by omega),if_neg (by omega),if_neg (by omega)];rcases a8 with⟨rfl,rfl,e1,e2⟩|⟨y,rfl,e1,e2⟩
    ·exact⟨_,by rw[e1,e2],rfl⟩
    ·exact⟨_,by rw[e1,e2],rfl⟩
   ·show 61*n+M.made+1<=61*(n+1);omega
end
abbrev Oe:=lJ×Nat×jM
structure Wd(b aL B:Int)(V:Vw)(g:List (Int×Int))(calls:List fH)(k:Nat)(step:Int)(os:List Oe)(am:List Int):Prop where
 len:os.length=5
 ob:∀i e,os[i]?=some e->nR b aL V.W i e.1/\e.1.fit e.2.1/\EG e.1 e.2.2/\za (K6 i) (calls.filter λ c=>decide (sB c.op=i)) e.2.2
 lv:Lv 30 B V ⟨0,g,0,0,0⟩ am
 nd:(os.flatMap (·.1.nodes)++(am++g.map (·.1))).Nodup
 rg:∀n∈os.flatMap (·.1.nodes)++(am++g.map (·.1)),1<=n/\n<=((30:Nat):Int)
 gl:g.length<=1
 fl:28<=am.length+k+(os.map (·.1.oM)).sum
 kn:(os.map (·.2.1)).sum=k
 st:step+k<=((os.map λ e=>e.1.cost e.2.1).sum:Nat)
theorem Su{b:Int}{i j:Nat}(T:fT b)(h:j<i)(X:i<=4):oU b j<=fg b i:=by
 unfold fT at T;have:i=1\/i=2\/i=3\/i=4:=by omega
 unfold oU fg;rcases this with rfl|rfl|rfl|rfl
 ·rw[show j=0 by omega];simp
 ·rcases(show j=0\/j=1 by omega) with rfl|rfl<;>simp<;>omega
 ·rcases(show j=0\/j=1\/j=2 by omega) with rfl|rfl|rfl<;>simp<;>omega
 ·rcases(show j=0\/j=1\/j=2\/j=3 by omega) with rfl|rfl|rfl|rfl<;>simp<;>omega
theorem Od{os:List Oe}(h:os.length=5):∃e0 e1 e2 e3 e4,os=[e0,e1,e2,e3,e4]:=by
 match os,h with
 |[e0,e1,e2,e3,e4],_=>exact⟨e0,e1,e2,e3,e4,rfl⟩
theorem nR.oM{b aL:Int}{W:Ws}{i:Nat}{o:lJ}(T:fT b)(h:nR b aL W i o):o.oM<=(if i<=1 then 4 else 0):=by
 unfold fT at T;cases o with
 |mp al=>obtain⟨h1,A,K⟩:=h;rw[if_pos h1];exact t8.IP (V:=⟨0,0,λ _ _=>0,λ _=>0,λ _=>0,W⟩) K A (by rw[(pM b).2.2.1];omega)
 |st aC=>exact Nat.zero_le _
 |ch S r z xs=>exact Nat.zero_le _
theorem nR.cost{b aL:Int}{W:Ws}{i n:Nat}{o:lJ}(T:fT b)(h:nR b aL W i o)(hn:n<=14):o.cost n<=(if i<=1 then 84*n+117 else 61*n):=by
 have F:=h.oM T;cases o with
 |mp al=>have h1:=h.1;rw[if_pos h1] at F⊢;show 2*(n*n)+44*n+4*((il al-1)*n)+39*(il al-1)<=_;have F:il al<=4:=F;have e1:n*n<=14*n:=Nat.mul_le_mul_right n hn;have e2:(il al-1)*n<=3*n:=Nat.mul_le_mul_right n (by omega);omega
 |st aC=>show 61*n<=_;split<;>omega
 |ch S r z xs=>show 61*n<=_;split<;>omega
section
variable{b aL B:Int}{V:Vw}{g:List (Int×Int)}{calls:List fH}{k:Nat}{step:Int}{os:List Oe}{am:List Int}
theorem Wd.oM(T:fT b)(h:Wd b aL B V g calls k step os am):(os.map (·.1.oM)).sum<=8:=by obtain⟨e0,e1,e2,e3,e4,rfl⟩:=Od h.len;have h0:=(h.ob 0 e0 rfl).1.oM T;have h1:=(h.ob 1 e1 rfl).1.oM T;have A:=(h.ob 2 e2 rfl).1.oM T;have K:=(h.ob 3 e3 rfl).1.oM T;have h4:=(h.ob 4 e4 rfl).1.oM T;simp at h0 h1 A K h4⊢;omega
theorem Wd.cost(T:fT b)(h:Wd b aL B V g calls k step os am)(I:k<=14):step+k<=1500:=by obtain⟨e0,e1,e2,e3,e4,rfl⟩:=Od h.len;have hn:=h.kn;have hs:=h.st;simp only[List.map_cons,List.map_nil,List.sum_cons,List.sum_nil] at hn hs;have h0:=(h.ob 0 e0 rfl).1.cost T (n:=e0.2.1) (by omega);have h1:=(h.ob 1 e1 rfl).1.cost T (n:=e1.2.1) (by omega);have A:=(h.ob 2 e2 rfl).1.cost T (n:=e2.2.1) (by omega);have K:=(h.ob 3 e3 rfl).1.cost T (n:=e3.2.1) (by omega);have h4:=(h.ob 4 e4 rfl).1.cost T (n:=e4.2.1) (by omega);simp at h0 h1 A K h4;omega
theorem Lv.start{V:Vw}{s:ah}{g:List (Int×Int)}(h:Lv 30 B V s am)(hz:∀i,s.e i=0):Lv 30 B V ⟨0,g,0,0,0⟩ am:=h.zero hz λ i=>by unfold ah.e;simp
theorem aef{op:bt}(T:fT b)(iD:wN op)(I:k<=13)(hB:B<=50000)(hK:aL<=80000)(h:Wd b aL B V g calls k step os am):∃ab aR out M Lj bV,Ev (lS b) 30 (λ _=>Ea (lS b) op) ⟨0,g,0,0,0⟩ V ab aR out M/\out.err=0/\1<=ab.length/\∀c:fH,c.op=op->c.val=out.val->c.is=out.is->Wd b (aL+1) (B+12) aR M.gone (calls++[c]) (k+1) (step+ab.length) Lj bV:=by
 have JT:sB op<=4:=by
  obtain⟨h1,_⟩:=iD;unfold sB;split
  ·omega
  ·split<;>omega
 generalize X:sB op=i at JT;have ci:=h.len;have du:i<os.length:=by omega
 have fB:os[i]?=some os[i]:=List.getElem?_eq_getElem du;generalize os[i]=e at fB;obtain⟨o,n,c0⟩:=e;obtain⟨q1,q2,q3,q4⟩:=h.ob i _ fB;have Gd:os=os.take i++(o,n,c0)::os.drop (i+1):=by
  have:=List.set_eq_take_append_cons_drop (l:=os) (i:=i) (a:=(o,n,c0));rw[if_pos du] at this;rw[<-this];apply List.ext_getElem?;intro j;rw[List.getElem?_set]
  by_cases hj:i=j
  ·subst hj;rw[if_pos rfl,if_pos du];exact fB
  ·rw[if_neg hj]
 have oZ:∀Y,os.set i Y=os.take i++Y::os.drop (i+1):=λ Y=>by rw[List.set_eq_take_append_cons_drop,if_pos du]
 have hX:∀j e,os[j]?=some e->j≠i->e∈os.take i++os.drop (i+1):=λ j e hj cE=>by
  rcases Nat.lt_or_ge j i with ba|afi
  ·exact List.mem_append_left _ (List.mem_of_getElem? (i:=j) (by rw[List.getElem?_take_of_lt ba];exact hj))
  ·refine List.mem_append_right _ (List.mem_of_getElem? (i:=j-(i+1)) ?_);rw[List.getElem?_drop,show i+1+(j-(i+1))=j by omega];exact hj
 generalize os.take i=aa at Gd oZ hX;generalize os.drop (i+1)=ap at Gd oZ hX;have Ph:∀(m:Int)(o':lJ)(cU:Nat)(bw:jM)(bV:List Int)(dS:List (Int×Int)),((os.set i (o',cU,bw)).flatMap (·.1.nodes)++(bV++dS.map (·.1))).Perm (o'.nodes++(bV++(dS.map (·.1)++(aa.flatMap (·.1.nodes)++ap.flatMap (·.1.nodes))))):=λ m o' cU bw bV dS=>by
  rw[oZ,List.perm_iff_count];intro a;simp only[List.flatMap_append,List.flatMap_cons,List.count_append];omega
 have Zc:os.set i (o,n,c0)=os:=by rw[oZ,<-Gd]
 have Ge:=Ph 0 o n c0 am g;rw[Zc] at Ge;obtain⟨ab,aR,out,M,E,bV,o',hO⟩:=abg (i:=i) (aV:=aa.flatMap (·.1.nodes)++ap.flatMap (·.1.nodes)) T iD X hB hK h.lv (Ge.nodup_iff.1 h.nd) (λ x O=>h.rg x (Ge.mem_iff.2 O)) q1 h.gl (by have:=h.fl;have:=h.oM T;omega);obtain⟨bw,kr,oS⟩:=hO.IR c0 q3;have Dh:M.made=ab.length:=by rw[E.md];simp
 have Qe:=(Ph 0 o' (n+1) bw bV M.gone).trans (hO.pm.trans Ge.symm);obtain⟨nW,lc⟩:=hO.cost n q2;have Kr:∀(f:Oe->Nat),((os.set i (o',n+1,bw)).map f).sum+f (o,n,c0)=(os.map f).sum+f (o',n+1,bw):=λ f=>by
  rw[oZ]
  conv=>rhs;rw[Gd]
  simp only[List.map_append,List.map_cons,List.sum_append,List.sum_cons];omega
 refine⟨ab,aR,out,M,os.set i (o',n+1,bw),bV,E,hO.err,by have:=hO.md;omega,λ c bR eE io=>⟨by rw[List.length_set];exact ci,λ j e hj=>?_,hO.lv.start hO.z,Qe.nodup_iff.2 h.nd,λ x O=>h.rg x (Qe.mem_iff.1 O),hO.gl,?_,?_,?_⟩⟩
 ·rw[List.getElem?_set] at hj
  by_cases iB:i=j
  ·subst iB;rw[if_pos rfl,if_pos du] at hj;injection hj with hj
   subst hj;refine⟨hO.inv,nW,oS,?_⟩;rw[List.filter_append,List.filter_cons,List.filter_nil,if_pos (by rw[bR,X];simp)];refine q4.snoc ?_;rw[bR,eE,io];exact kr
  ·rw[if_neg iB] at hj;obtain⟨p1,p2,p3,abt⟩:=h.ob j e hj;have PL:j<=4:=by
    rcases Nat.lt_or_ge j os.length with h1|h1
    ·omega
    ·rw[List.getElem?_eq_none h1] at hj;cases hj
   refine⟨(p1.more (by omega)).same T PL (λ m hm=>hO.fr.nd m ?_) (λ d d0 d1=>hO.fr.ob d ?_),p2,p3,?_⟩
   ·rw[<-List.flatMap_append];exact List.mem_flatMap.2 ⟨e,hX j e hj (λ e=>iB e.symm),hm⟩
   ·rcases Nat.lt_or_gt_of_ne iB with h1|h1
    ·have:=Su T h1 PL;omega
    ·have:=Su T h1 JT;omega
   ·rw[List.filter_append,List.filter_cons,List.filter_nil,if_neg (by rw[bR,X];simpa using iB),List.append_nil];exact abt
 ·have h1:=h.fl;have A:=hO.fl;have K:=Kr (·.1.oM);simp only at K;omega
 ·have h1:=h.kn;have K:=Kr (·.2.1);simp only at K;omega
 ·have h1:=h.st;have K:=Kr λ e=>e.1.cost e.2.1
  simp only at K;omega
structure zf(b:Int)(ops:List bt)(k:Nat)(t:dG):Prop where
 mem:∃V g os am,lq (lS b) 1 30 t.m V/\Wd b k (1+12*(k:Int)) V g t.calls k t.step os am/\∃lg st,t.az=[⟨jV,lg,st,k,g⟩]
 bad:t.bad=false
 cD:t.cD=false
 full:t.full=0
 mG:t.calls.length=k
 op:∀c∈t.calls,c.op∈ops
 sm:p5 t.m
theorem abb{ops:List bt}{t:dG}{k:Nat}(T:fT b)(uK:∀o∈ops,wN o)(I:k<ops.length)(mS:k<=13)(h:zf b ops k t):∃j,zf b ops (k+1) (iy (lS b) [ops] 0 j t)/\((j:Nat):Int)=(iy (lS b) [ops] 0 j t).step-t.step+1:=by
 obtain⟨V,g,os,am,hV,hW,lg,st,hs⟩:=h.mem;have hg:ops[k]?=some ops[k]:=List.getElem?_eq_getElem I;have n5:ops[k]∈ops:=List.getElem_mem I;have iD:=uK _ n5;generalize ops[k]=op at hg iD n5;obtain⟨ab,aR,out,M,Lj,bV,E,he,hA,hn⟩:=aef T iD mS (by omega) (by omega) hW;have h0:op.kind≠0:=by obtain⟨h1,_⟩:=iD;omega
 obtain⟨m,c,KQ,L7,h6,h1,A,K,h4,h5⟩:=abh (KG T) (by omega) h0 (abc T iD g) E hA he hg hV hs h.cD h.bad h.sm;have hW':=hn c K h4 h5;refine⟨ab.length+1,?_,by rw[A];show _=t.step+(ab.length:Int)-t.step+1;omega⟩;rw[A];refine⟨⟨aR,M.gone,Lj,bV,h1,?_,KQ,L7,rfl⟩,rfl,rfl,h.full,by simp[h.mG],λ x O=>?_,h6⟩
 ·have e1:((k:Int)+1)=((k+1:Nat):Int):=by omega
  have e2:(1+12*(k:Int)+12)=1+12*((k+1:Nat):Int):=by omega
  rw[e1,e2] at hW';exact hW'
 ·rcases List.mem_append.1 O with O|O
  ·exact h.op x O
  ·rw[List.mem_singleton] at O;rw[O,K];exact n5
theorem M5{ops:List bt}{t:dG}(T:fT b)(uK:∀o∈ops,wN o)(R:ops.length<=14)(h0:t.step=0)(h:zf b ops 0 t):∀k:Nat,k<=ops.length->∃j,zf b ops k (iy (lS b) [ops] 0 j t)/\((j:Nat):Int)=(iy (lS b) [ops] 0 j t).step+k
 |0,_=>⟨0,h,by show(0:Int)=t.step+0;omega⟩
 |k+1,I=>by
  obtain⟨j,h1,A⟩:=M5 T uK R h0 h k (by omega);obtain⟨i,K,h4⟩:=abb T uK (by omega) (by omega) h1;refine⟨j+i,by rw[Be];exact K,?_⟩;rw[Be];omega
end
def oD(b:Int):Vw:=⟨1,5,λ _ _=>0,λ n=>if n<=2 then 1 else 0,λ n=>if n<5\/n=30 then 0 else n+1,⟨λ c=>if c=20\/c=22\/c=22+b then 1 else if c=24+b then 2 else if c=27+2*b\/c=28+2*b then 3 else if c=29+2*b\/c=30+2*b then 4 else 0,λ _ _=>0⟩⟩
def Mj(b:Int):Bool:=
 let m:=rn (lS b)
 decide (m.length=(lS b).size.toNat)&&decide (ef m 2=1)&&decide (ef m 3=5)&&decide (ef m 6=0)&&decide (ef m 7=0)&&decide (ef m 8=0)&&m.all (λ x=>decide (x<9223372036854775808))
 &&(List.range 30).all (λ n=>decide (ef m (31+2*b+8*n+6)=(oD b).bi (n+1))&&decide (ef m (31+2*b+8*n+7)=(oD b).lk (n+1))&&(List.range 6).all λ i=>decide (ef m (31+2*b+8*n+i)=0))
 &&(List.range (22+2*b).toNat).all λ c=>decide (ef m (9+c)=(oD b).W.ob (9+c))
theorem S6{b:Int}(T:fT b):Mj b=true:=by rcases T with rfl|rfl|rfl<;>decide+kernel
theorem adI{b:Int}(T:fT b):lq (lS b) 1 30 (rn (lS b)) (oD b):=by
 have h:=S6 T;have R:=pM b;have eC:=T;unfold fT at eC;unfold Mj at h;simp only[Bool.and_eq_true,List.all_eq_true,List.mem_range,decide_eq_true_eq] at h;obtain⟨⟨⟨⟨⟨⟨⟨⟨h1,A⟩,K⟩,h4⟩,h5⟩,h6⟩,_⟩,h7⟩,h8⟩:=h;refine⟨h1,λ a ha=>?_⟩;cases a with
 |era=>exact A
 |free=>exact K
 |ob c=>obtain⟨c1,c2⟩:=ha;rw[R.2.2.2.2.2.2.2.2.2.2.2.2.2.1] at c2;have:=h8 (c-9).toNat (by omega);rw[show(9:Int)+((c-9).toNat:Int)=c by omega] at this;exact this
 |rv w i=>
  obtain⟨b1,b2,b3,b4⟩:=ha;rw[show Ad.cell (lS b) (.rv w i)=_ from(KG T).kV w i b1 b2 b3 b4];have:i=0\/i=1\/i=2:=by omega
  have hw:w=0:=by omega
  subst hw;rcases this with rfl|rfl|rfl
  ·exact h4
  ·exact h5
  ·exact h6
 |nd n i=>obtain⟨b1,b2,b3,b4⟩:=ha;rw[show Ad.cell (lS b) (.nd n i)=_ from DN ⟨b1,b2⟩ ⟨b3,by omega⟩];have:=(h7 (n-1).toNat (by omega)).2 i.toNat (by omega);rw[show(31:Int)+2*b+8*((n-1).toNat:Int)+(i.toNat:Int)=31+2*b+8*(n-1)+i by omega] at this;exact this
 |bi n=>obtain⟨b1,b2⟩:=ha;rw[show Ad.cell (lS b) (.bi n)=_ from DN ⟨b1,b2⟩ (by omega)];have:=(h7 (n-1).toNat (by omega)).1.1;rw[show(31:Int)+2*b+8*((n-1).toNat:Int)+6=31+2*b+8*(n-1)+6 by omega,show((n-1).toNat:Int)+1=n by omega] at this;exact this
 |lk n=>obtain⟨b1,b2⟩:=ha;rw[show Ad.cell (lS b) (.lk n)=_ from DN ⟨b1,b2⟩ (by omega)];have:=(h7 (n-1).toNat (by omega)).1.2;rw[show(31:Int)+2*b+8*((n-1).toNat:Int)+7=31+2*b+8*(n-1)+7 by omega,show((n-1).toNat:Int)+1=n by omega] at this;exact this
theorem adH{b:Int}(T:fT b):p5 (rn (lS b)):=by have h:=S6 T;unfold Mj at h;simp only[Bool.and_eq_true,List.all_eq_true,decide_eq_true_eq] at h;exact h.1.1.2
def I6:List Int:=(List.range 26).map λ(i:Nat)=>5+(i:Int)
theorem Q6{nx:Int->Int}(h:∀n,5<=n->n<=30->nx n=if n=30 then 0 else n+1):∀(d:Nat)(a:Nat),a+d=26->gF nx ((List.range' a d).map λ(i:Nat)=>5+(i:Int))
 |0,_,_=>trivial
 |d+1,a,F=>by
  rw[List.range'_succ,List.map_cons];refine⟨?_,Q6 h d (a+1) (by omega)⟩;rw[h _ (by omega) (by omega)];cases d with
  |zero=>rw[if_pos (by omega)];rfl
  |succ d=>rw[if_neg (by omega),List.range'_succ];show _=5+((a+1:Nat):Int);omega
theorem adJ{b:Int}(T:fT b):Wd b 0 1 (oD b) [] [] 0 0 [(.mp [(1,0,0)],0,(1,[],[])),(.mp [(2,0,0)],0,(1,[],[])),(.st [],0,(2,[],[])),(.ch [3] 0 5 [],0,(3,[],[])),(.ch [4] 0 5 [],0,(3,[],[]))] I6:=by
 have R:=pM b;have nz:(lS b).buckets=b:=R.2.2.1;have eC:=T;unfold fT at eC;have wx:∀c,(oD b).W.ob c=if c=20\/c=22\/c=22+b then 1 else if c=24+b then 2 else if c=27+2*b\/c=28+2*b then 3 else if c=29+2*b\/c=30+2*b then 4 else 0:=λ _=>rfl
 have F6:∀i:Nat,i<=1->nR b 0 (oD b).W i (.mp [((i:Int)+1,0,0)]):=λ i X=>by
  have gU:fg b i=20+(i:Int)*(2+b):=by rcases(show i=0\/i=1 by omega) with rfl|rfl<;>simp[fg]<;>omega
  have PJ:((i:Int)=0/\(i:Int)*(2+b)=0)\/((i:Int)=1/\(i:Int)*(2+b)=2+b):=by rcases(show i=0\/i=1 by omega) with rfl|rfl<;>simp
  have bQ:(oD b).W.ob (fg b i)=1:=by rw[wx,if_pos (by omega)]
  refine⟨X,⟨⟨rfl,trivial⟩,λ x O=>?_,List.pairwise_singleton _ _⟩,⟨?_,λ j j0 j1=>?_,λ x O=>?_⟩⟩
  ·rw[List.mem_singleton] at O;subst O;exact⟨rfl,rfl⟩
  ·rw[bQ,nz];omega
  ·rw[nz] at j1
   by_cases hj:j=0
   ·subst hj;refine .inr ?_;rw[zx.1];have:(oD b).W.ob (fg b i+2+0)=(i:Int)+1:=by
     rw[wx];rcases PJ with⟨h1,A⟩|⟨h1,A⟩
     ·rw[if_pos (by omega)];omega
     ·rw[if_neg (by omega),if_pos (by omega)];omega
    rw[this];simp
   ·refine .inl ⟨?_,hj,λ x O=>?_⟩
    ·rw[wx,if_neg (by omega),if_neg (by omega),if_neg (by omega),if_neg (by omega)]
    ·rw[List.mem_singleton] at O;subst O;have:=vV j0 (by omega);show(0:Int)≠gO j;omega
  ·rw[List.mem_singleton] at O;subst O;exact .inr ⟨0,⟨by omega,by rw[nz];omega⟩,zx.1.symm⟩
 have tx:∀i:Nat,i=3\/i=4->nR b 0 (oD b).W i (.ch [(i:Int)] 0 5 []):=λ i X=>by
  have gU:fg b i=27+2*b+2*((i:Int)-3):=by rcases X with rfl|rfl<;>simp[fg]<;>omega
  have h1:(oD b).W.ob (fg b i)=(i:Int):=by
   rw[wx,if_neg (by omega),if_neg (by omega)]
   by_cases K:i=3
   ·rw[if_pos (by omega)];omega
   ·rw[if_neg (by omega),if_pos (by omega)];omega
  have A:(oD b).W.ob (fg b i+1)=(i:Int):=by
   rw[wx,if_neg (by omega),if_neg (by omega)]
   by_cases K:i=3
   ·rw[if_pos (by omega)];omega
   ·rw[if_neg (by omega),if_pos (by omega)];omega
  have hw:∀w:Int,w=(i:Int)->Wc w (i:Int) 0:=λ w e=>by subst e;exact⟨by omega,by omega⟩
  refine⟨X,⟨by simp,hw _ h1,hw _ A,⟨rfl,trivial⟩,rfl,by omega,by omega,by simp⟩⟩
 refine⟨rfl,λ i e he=>?_,⟨⟨rfl,show(0:Int)<=5/131072 by decide,?_,by decide,by decide⟩,show(1:Int)<=1 by decide,show(1:Int)+5/131072<=1 by decide,λ _ _ _=>by unfold ah.e;simp[oD],λ _=>.inl ?_⟩,by decide,by decide,by decide,by decide,rfl,by decide⟩
 ·match i,he with
  |0,he=>injection he with he;subst he;exact⟨F6 0 (by omega),Nat.le_refl _,⟨[],rfl,List.Pairwise.nil,.refl _⟩,rfl⟩
  |1,he=>injection he with he;subst he;exact⟨F6 1 (by omega),Nat.le_refl _,⟨[],rfl,List.Pairwise.nil,.refl _⟩,rfl⟩
  |2,he=>
   injection he with he;subst he
   refine⟨⟨rfl,⟨?_,trivial,by simp⟩⟩,trivial,rfl,rfl⟩;have:(oD b).W.ob (fg b 2)=0:=by have gU:fg b 2=24+2*b:=rfl;rw[wx,if_neg (by omega),if_neg (by omega),if_neg (by omega),if_neg (by omega)]
   rw[this];exact⟨by decide,by decide⟩
  |3,he=>injection he with he;subst he;exact⟨tx 3 (.inl rfl),trivial,rfl,rfl⟩
  |4,he=>injection he with he;subst he;exact⟨tx 4 (.inr rfl),trivial,rfl,rfl⟩
  |j+5,he=>cases he
 ·have:=Q6 (nx:=(oD b).lk) (λ n h1 A=>by
   show(if n<5\/n=30 then 0 else n+1)=_
   by_cases K:n=30
   ·rw[if_pos (.inr K),if_pos K]
   ·rw[if_neg (by omega),if_neg K]) 26 0 rfl
  unfold I6;rw[List.range_eq_range'];exact this
 ·unfold ah.e;simp
theorem adG{b:Int}{ops:List bt}(T:fT b):zf b ops 0 (oo (lS b) 1):=⟨⟨oD b,[],_,I6,adI T,adJ T,[],[],rfl⟩,rfl,rfl,rfl,rfl,λ c L=>(by cases L),adH T⟩
theorem ads{b:Int}{ops:List bt}(T:fT b)(uK:∀o∈ops,wN o)(R:ops.length<=14):zf b ops ops.length (tR (lS b) [ops] []):=by
 obtain⟨j,A,h1⟩:=M5 T uK R rfl (adG T) ops.length (Nat.le_refl _);obtain⟨V,g,os,am,hV,hW,lg,st,hs⟩:=A.mem;have hj:j<=1500:=by have:=hW.cost T R;omega
 have K:iy (lS b) [ops] 0 1500 (oo (lS b) 1)=iy (lS b) [ops] 0 j (oo (lS b) 1):=by rw[show 1500=j+(1500-j) by omega,Be,Qz hs (Nat.le_refl _)]
 have h4:tR (lS b) [ops] []={iy (lS b) [ops] 0 1500 (oo (lS b) 1) with bad:=(iy (lS b) [ops] 0 1500 (oo (lS b) 1)).bad||!Ax (iy (lS b) [ops] 0 1500 (oo (lS b) 1)) [ops] 0}:=rfl;rw[h4,K];have F:Ax (iy (lS b) [ops] 0 j (oo (lS b) 1)) [ops] 0=true:=by unfold Ax;rw[hs];simp[jV]
 exact⟨⟨V,g,os,am,hV,hW,lg,st,hs⟩,by simp only[F,A.bad];rfl,A.cD,A.full,A.mG,A.op,A.sm⟩
def iE(k:Int):Int:=if 1<=k/\k<=3 then 1 else if 4<=k/\k<=5 then 2 else if 6<=k/\k<=7 then 3 else 0
def jf(calls:List fH)(kind obj:Int):List fH:=calls.filter λ c=>decide (iE c.op.kind=kind/\c.op.obj=obj)
def GQ(kind:Int):jM:=(kind,[],[])
def pP(kind:Int):Int:=if kind=1 then 2 else if kind=2 then 1 else 2
theorem adu(S:aZ):(xd S).Perm S:=by
 rw[List.perm_iff_count];intro x;have h:=(Hx S).px x.1;have e:∀ae:aZ,ae.count x=(oR x.1 ae).count x:=λ ae=>by
  unfold oR;rw[List.count_filter];simp
 rw[e,e S,h]
theorem adw{S aJ:aZ}(hu:uc S)(hp:S.Perm aJ):xd aJ=S:=by
 have h1:=(adu aJ).trans hp.symm;have hnd:(S.map (·.1)).Nodup:=by rw[List.Nodup,List.pairwise_map];exact hu.imp λ h e=>by omega
 have wv:((xd aJ).map (·.1)).Nodup:=(h1.map _).nodup_iff.2 hnd;refine Tt ?_ hu h1;have A:=(Hx aJ).up;rw[List.Nodup,List.pairwise_map] at wv;exact(List.pairwise_and_iff.2 ⟨A,wv⟩).imp λ⟨K,h4⟩=>by omega
section
variable{l:ag}{N:Nat}{m:List Int}{V:Vw}
theorem IA(Z:oH l 1 N){nx nd:Int->Int}{aC:List Int}(hn:aC.Nodup)(hr:∀x∈aC,1<=x/\x<=(N:Int))(R:gF nd aC)(O:∀x∈aC,nx x=nd x):ko nx l.nodes (l.nodes.toNat+1) [] (aC.headD 0)=aC:=by
 have ci:=wJ N aC hn hr;have:=Iz (nx:=nx) (N:=l.nodes) aC [] (l.nodes.toNat+1) (λ x O=>by rw[Z.nodes];exact hr x O) (by simpa using hn) (by rw[Z.nodes];omega) R O
 simpa using this
theorem ue(Z:oH l 1 N)(hV:lq l 1 N m V){n i:Int}(hn:1<=n/\n<=(N:Int))(X:0<=i/\i<=5):bv m (aE l n i)=V.W.nd n i:=zi Z hV (a:=.nd n i) ⟨hn.1,hn.2,X.1,X.2⟩
theorem aab{nd:Int->Int}{aC:List Int}(hr:∀x∈aC,1<=x/\x<=(N:Int))(R:gF nd aC):∀x∈aC,0<=nd x/\nd x<=(N:Int):=by
 induction aC with
 |nil=>intro x O;cases O
 |cons y aC ih=>
  intro x O;rcases List.mem_cons.1 O with rfl|O
  ·rw[R.1];exact sc λ z hz=>hr z (by simp[hz])
  ·exact ih (λ z hz=>hr z (by simp[hz])) R.2 x O
theorem ac1(Z:oH l 1 N)(hN:N<=100)(hV:lq l 1 N m V){d:Int}{x:Int×Int}{R1:List eW}(hR:Rw V.W.nd ((d,x)::R1))(hn:(R1.map (·.1)).Nodup)(F:1<=d/\d<=(N:Int))(hr:∀x∈R1.map (·.1),1<=x/\x<=(N:Int)):nh l m (aE l d 0)=R1.map (·.2):=by
 have n3:=hR.ln;have dz:=aab hr n3.2;have lP:=sc hr;have YM:fp l m (aE l d 0)=R1.map (·.1):=by
  unfold fp;rw[ue Z hV F (by omega),show V.W.nd d 0=(R1.map (·.1)).headD 0 from n3.1,uS lP.1 (by omega)];refine IA Z hn hr n3.2 λ y hy=>?_
  have:=dz y hy;show(ay (bv m (aE l y 0))).idx=V.W.nd y 0;rw[ue Z hV (hr y hy) (by omega)];exact uS this.1 (by omega)
 unfold nh;rw[YM];have hf:∀ae:List eW,(∀y∈ae,y∈R1)->((ae.map (·.1)).filter λ n=>!(ay (bv m (aE l n 0))).mark).map (λ n=>(bv m (aE l n 1),bv m (aE l n 2)))=ae.map (·.2):=by
  intro ae;induction ae with
  |nil=>intro _;rfl
  |cons y ae ih=>intro hT;have hy:=hT y (by simp);have hm:y.1∈R1.map (·.1):=List.mem_map_of_mem hy;have A:=dz y.1 hm;have K:=hR.od y (by simp[hy]);rw[List.map_cons,List.filter_cons,ue Z hV (hr _ hm) (by omega),K1 A.1 (by omega)];simp only[Bool.not_false,if_true,List.map_cons];rw[ih λ z hz=>hT z (by simp[hz]),ue Z hV (hr _ hm) (by omega),ue Z hV (hr _ hm) (by omega),K.1,K.2]
 exact hf R1 λ x O=>O
end
theorem Vp{b aL:Int}{m:List Int}{V:Vw}{i:Nat}{o:lJ}{c:jM}{kind obj:Int}(T:fT b)(hV:lq (lS b) 1 30 m V)(hI:nR b aL V.W i o)(hn:o.nodes.Nodup)(hr:∀x∈o.nodes,1<=x/\x<=((30:Nat):Int))(L:EG o c)(I:(kind=1/\(i:Int)=obj/\i<=1)\/(kind=2/\i=2/\obj=0)\/(kind=3/\(i:Int)=3+obj/\(i=3\/i=4))):pQ (lS b) m kind obj=c:=by
 have Z:=KG T;have R:=pM b;have eC:=T;unfold fT at eC;cases o with
 |mp al=>
  obtain⟨h1,A,K⟩:=hI;obtain⟨S,rfl,hu,hp⟩:=L;have I:kind=1/\(i:Int)=obj:=by omega
  obtain⟨rfl,rfl⟩:=I;have hM:=QS T h1;have nz:hL (lS b) i 0=fg b i+2+0:=hM.bk 0 (by omega) (by rw[R.2.2.1];omega);have kw:=hM.X;rw[R.2.2.1,R.2.2.2.2.2.2.2.2.2.2.2.2.2.1] at kw;have gU:=hM.lo;have hm:=hV.len;rw[R.2.2.2.2.2.2.2.2.2.2.2.2.2.2] at hm;have dV:(V.W.ob (fg b i+2+0),0,0)∈al:=by
   rcases K.bk 0 (by omega) (by rw[R.2.2.1];omega) with⟨_,e,_⟩|hm
   ·exact absurd rfl e
   ·rw[zx.1] at hm;exact hm
  obtain⟨aa,R1,e⟩:=List.append_of_mem dV;have hX:aa=[]:=by
   cases aa with
   |nil=>rfl
   |cons x aa=>
    have mn:=A.up;rw[e] at mn;have h4:=(List.pairwise_append.1 mn).2.2 x (by simp) _ (List.mem_cons_self);have h5:=K.od x (by rw[e];simp);simp only at h4;rcases h5 with⟨k,I,h5⟩|⟨j,hj,h5⟩
    ·have:=Ed I.1 I.2;omega
    ·have:=vV hj.1 (by rw[R.2.2.1] at hj;omega);omega
  subst hX;rw[List.nil_append] at e;have hn:(al.map (·.1)).Nodup:=hn;have hr:∀x∈al.map (·.1),1<=x/\x<=((30:Nat):Int):=hr;rw[e] at hn hr A;have F:=hr (V.W.ob (fg b i+2+0)) (by simp);have su:=ac1 Z (by omega) hV A (List.nodup_cons.1 hn).2 F λ x O=>hr x (by simp only[List.map_cons];exact List.mem_cons_of_mem _ O)
  have XE:uZ (lS b) m i=S:=by
   unfold uZ;rw[nz,if_neg (by omega),show bv m (fg b i+2+0)=V.W.ob (fg b i+2+0) from zi Z hV (a:=.ob (fg b i+2+0)) ⟨by omega,by rw[R.2.2.2.2.2.2.2.2.2.2.2.2.2.1];omega⟩,uS (by omega) (by omega),su];have CY:iL al=ox (R1.map (·.2)):=by
    rw[e,Cy,if_neg (by show¬(0:Int)%2=1;omega)];unfold iL ox;rw[List.filter_map,List.map_map]
    rfl
   rw[<-CY];exact adw hu hp
  unfold pQ;rw[if_pos rfl,XE]
 |st aC=>
  obtain⟨h1,A⟩:=hI;have L:c=(2,[],aC.map (·.2)):=L;subst L;have I:kind=2/\obj=0:=by omega
  obtain⟨rfl,rfl⟩:=I;subst h1;have hn:(aC.map (·.1)).Nodup:=hn;have hr:∀x∈aC.map (·.1),1<=x/\x<=((30:Nat):Int):=hr;have lP:=sc hr;have gU:fg b 2=24+2*b:=rfl;unfold pQ;rw[if_neg (by omega),if_pos rfl];unfold Em.nh Em.fp;rw[KI,if_neg (by omega),show bv m (24+2*b)=V.W.ob (24+2*b) from zi Z hV (a:=.ob (24+2*b)) ⟨by omega,by rw[R.2.2.2.2.2.2.2.2.2.2.2.2.2.1];omega⟩,<-gU,A.w.idx lP.1 (by omega),IA Z hn hr A.ln λ x O=>ue Z hV (hr x O) (by omega),List.map_map]
  congr 2
  refine List.map_congr_left λ x O=>?_
  have hm:x.1∈aC.map (·.1):=List.mem_map_of_mem O;show bv m (aE (lS b) x.1 1)=x.2;rw[ue Z hV (hr _ hm) (by omega)];exact A.vl x O
 |ch S r z xs=>
  obtain⟨h1,A⟩:=hI;have L:c=(3,[],xs):=L;subst L;have I:kind=3/\(i:Int)=3+obj:=by omega
  obtain⟨rfl,ho⟩:=I;have hn:S.Nodup:=hn;have hr:∀x∈S,1<=x/\x<=((30:Nat):Int):=hr;have lP:=sc hr;have Yb:=(KF (b:=b) (c:=obj) (by omega)).1;have gU:fg b i=27+2*b+2*obj:=by unfold fg;rcases h1 with rfl|rfl<;>simp<;>omega
  unfold pQ;rw[if_neg (by omega),if_neg (by omega),if_pos rfl];unfold Sg.nh Sg.fp;rw[Yb,if_neg (by omega),show bv m (27+2*b+2*obj)=V.W.ob (27+2*b+2*obj) from zi Z hV (a:=.ob _) ⟨by omega,by rw[R.2.2.2.2.2.2.2.2.2.2.2.2.2.1];omega⟩,<-gU,A.wh.idx lP.1 (by omega),IA Z hn hr A.ln λ x O=>ue Z hV (hr x O) (by omega)];have hf:S.flatMap (Sg.kD (lS b) m)=flat V.W.nd S:=by
   unfold flat;have:∀ae:List Int,(∀x∈ae,x∈S)->ae.flatMap (Sg.kD (lS b) m)=ae.flatMap λ n=>Sg.iG.map (V.W.nd n):=by
    intro ae;induction ae with
    |nil=>intro _;rfl
    |cons y ae ih=>
     intro hT;rw[List.flatMap_cons,List.flatMap_cons,ih λ z hz=>hT z (by simp[hz])]
     congr 1
     unfold Sg.kD;refine List.map_congr_left λ j hj=>?_
     have:=Bl hj;exact ue Z hV (hr y (hT y (by simp))) (by omega)
   exact this S λ x O=>O
  rw[hf,A.ce,List.filter_append,List.filter_append];have qT:(List.replicate r (1:Int)).filter (λ v=>decide (1<v))=[]:=List.filter_eq_nil_iff.2 λ a ha=>by rw[List.eq_of_mem_replicate ha];decide
  have zZ:(List.replicate z (0:Int)).filter (λ v=>decide (1<v))=[]:=List.filter_eq_nil_iff.2 λ a ha=>by rw[List.eq_of_mem_replicate ha];decide
  have te:(xs.map (·+2)).filter (λ v=>decide (1<v))=xs.map (·+2):=List.filter_eq_self.2 λ a ha=>by
   obtain⟨x,O,rfl⟩:=List.mem_map.1 ha;have:=A.vb x O;exact decide_eq_true (by omega)
  rw[qT,zZ,te,List.nil_append,List.append_nil,List.map_map];have:∀ae:List Int,ae.map ((λ v:Int=>v-2)∘λ x=>x+2)=ae:=λ ae=>by
   induction ae with
   |nil=>rfl
   |cons y ae ih=>
    rw[List.map_cons,ih]
    congr 1
    show y+2-2=y;omega
  rw[this]
structure EF(kind:Int)(n:Nat)(c:jM):Prop where
 k:c.1=kind
 m:kind=1->c.2.1.length=c.2.2.length
 o:kind≠1->c.2.1=[]
 l:c.2.2.length<=n
theorem VK(S:aZ)(op:bt):(nU S op).1.length<=S.length+1:=by
 unfold nU
 repeat' split
 all_goals simp only
 all_goals first
  |omega
  |(rw[(Gv _ _).length_eq];simp)
  |(have:=List.length_eraseIdx_le (l:=S) (i:=iN S op.a);omega)
theorem VJ{kind:Int}{n:Nat}{c:jM}{op:bt}(h:EF kind n c)(I:iE op.kind=kind)(h0:kind≠0):EF kind (n+1) (kM c op).1:=by
 obtain⟨c1,c2,c3⟩:=c;obtain⟨h1,A,K,h4⟩:=h;simp only at h1 A K h4;subst h1;have R:=VK (c2.zip c3) op;rw[List.length_zip] at R;unfold iE at I;unfold kM
 by_cases h:op.kind<=3
 ·rw[if_pos h];have:c1=1:=by split at I<;>(try split at I)<;>(try split at I)<;>omega
  exact⟨this.symm,λ _=>by simp,λ h=>absurd this h,by simp only[List.length_map];omega⟩
 ·rw[if_neg h];have bR:c1≠1:=by intro e;split at I<;>(try split at I)<;>(try split at I)<;>omega
  have e2:c2=[]:=K bR
  by_cases oN:op.kind=4
  ·rw[if_pos oN];rw[oN] at I;exact⟨I,λ e=>absurd e bR,λ _=>rfl,by simp only[List.length_cons];omega⟩
  ·rw[if_neg oN]
   by_cases h6:op.kind=6
   ·rw[if_pos h6];rw[h6] at I;exact⟨I,λ e=>absurd e bR,λ _=>rfl,by simp only[List.length_append,List.length_cons,List.length_nil];omega⟩
   ·rw[if_neg h6];cases c3 with
    |nil=>exact⟨rfl,A,K,by simp⟩
    |cons v vs=>exact⟨rfl,λ e=>absurd e bR,λ _=>rfl,by simp only[List.length_cons] at h4⊢;omega⟩
theorem Oi:∀{hs:List fH}{c bw:jM},za c hs bw->∃C:Nat->jM,C 0=c/\C hs.length=bw/\∀n h,hs[n]?=some h->kM (C n) h.op=(C (n+1),h.val,h.is)
 |[],c,bw,h=>⟨λ _=>c,rfl,h.symm,λ n h hn=>by simp at hn⟩
 |h::hs,c,bw,⟨c1,h1,A⟩=>by
  obtain⟨C,e1,e2,e3⟩:=Oi A;refine⟨λ n=>match n with|0=>c|n+1=>C n,rfl,e2,λ n x hn=>?_⟩;cases n with
  |zero=>
   have:h=x:=by simpa using hn
   subst this;show kM c h.op=(C 0,h.val,h.is);rw[h1,e1]
  |succ n=>exact e3 n x (by simpa using hn)
structure T2(b:Int)(ops:List bt)(t:dG):Prop where
 len:t.m.length=(271+2*b).toNat
 bad:t.bad=false
 cD:t.cD=false
 full:t.full=0
 mG:t.calls.length=ops.length
 op:∀c∈t.calls,c.op∈ops
 sm:p5 t.m
 obj:∀kind obj:Int,1<=kind->kind<=3->0<=obj->obj<pP kind->∃C:Nat->jM,C 0=GQ kind/\C (jf t.calls kind obj).length=pQ (lS b) t.m kind obj/\(∀n,n<=(jf t.calls kind obj).length->EF kind n (C n))/\∀n h,(jf t.calls kind obj)[n]?=some h->kM (C n) h.op=(C (n+1),h.val,h.is)/\iE h.op.kind=kind
theorem adr{b:Int}{ops:List bt}(T:fT b)(uK:∀o∈ops,wN o)(R:ops.length<=14):T2 b ops (tR (lS b) [ops] []):=by
 have h:=ads T uK R;generalize tR (lS b) [ops] []=t at h;obtain⟨V,g,os,am,hV,hW,_⟩:=h.mem;refine⟨by rw[hV.len,(pM b).2.2.2.2.2.2.2.2.2.2.2.2.2.2],h.bad,h.cD,h.full,h.mG,h.op,h.sm,λ kind obj k1 k3 o0 o1=>?_⟩;obtain⟨i,JT,I⟩:∃i:Nat,i<=4/\((kind=1/\(i:Int)=obj/\i<=1)\/(kind=2/\i=2/\obj=0)\/(kind=3/\(i:Int)=3+obj/\(i=3\/i=4))):=by
  unfold pP at o1;rcases(show kind=1\/kind=2\/kind=3 by omega) with rfl|rfl|rfl
  ·exact⟨obj.toNat,by simp at o1;omega,.inl ⟨rfl,by omega,by simp at o1;omega⟩⟩
  ·exact⟨2,by omega,.inr (.inl ⟨rfl,rfl,by simp at o1;omega⟩)⟩
  ·exact⟨3+obj.toNat,by simp at o1;omega,.inr (.inr ⟨rfl,by omega,by simp at o1;omega⟩)⟩
 have fB:os[i]?=some (os[i]'(by rw[hW.len];omega)):=List.getElem?_eq_getElem _;generalize os[i]'(by rw[hW.len];omega)=e at fB;obtain⟨q1,q2,q3,q4⟩:=hW.ob i e fB;have Zf:∀x∈e.1.nodes,x∈os.flatMap (·.1.nodes):=λ x O=>List.mem_flatMap.2 ⟨e,List.mem_of_getElem? fB,O⟩
 have hnd:e.1.nodes.Nodup:=by have h1:=(List.nodup_append.1 hW.nd).1;obtain⟨aa,ap,Y⟩:=List.append_of_mem (List.mem_of_getElem? fB);rw[Y,List.flatMap_append,List.flatMap_cons] at h1;exact(List.nodup_append.1 (List.nodup_append.1 h1).2.1).1
 have L:=Vp T hV q1 hnd (λ x O=>hW.rg x (List.mem_append_left _ (Zf x O))) q3 I;have wy:jf t.calls kind obj=t.calls.filter λ c=>decide (sB c.op=i):=by
  unfold jf;refine List.filter_congr λ c L=>?_
  obtain⟨h1,_⟩:=uK _ (h.op c L);rw[decide_eq_decide];unfold iE sB;constructor
  ·rintro⟨e1,e2⟩;split at e1<;>(try split at e1)<;>(try split at e1)<;>split<;>(try split)<;>omega
  ·intro e1;split at e1<;>(try split at e1)<;>split<;>(try split)<;>(try split)<;>omega
 have lT:K6 i=GQ kind:=by
  unfold K6 GQ;rcases I with⟨rfl,_,K⟩|⟨rfl,rfl,_⟩|⟨rfl,_,K⟩
  ·rw[if_pos K]
  ·rfl
  ·rw[if_neg (by omega),if_neg (by omega)]
 rw[<-wy,lT] at q4;obtain⟨C,e1,e2,e3⟩:=Oi q4;have gy:∀(n:Nat)(hh:fH),(jf t.calls kind obj)[n]?=some hh->iE hh.op.kind=kind:=λ n hh hn=>by
  have:=(List.mem_filter.1 (List.mem_of_getElem? hn)).2;exact(of_decide_eq_true this).1
 refine⟨C,e1,e2.trans L.symm,λ n=>?_,λ n hh hn=>⟨e3 n hh hn,gy n hh hn⟩⟩;induction n with
 |zero=>intro _;rw[e1];exact⟨rfl,λ _=>rfl,λ _=>rfl,Nat.le_refl _⟩
 |succ n ih=>intro hn;have hg:(jf t.calls kind obj)[n]?=some (jf t.calls kind obj)[n]:=List.getElem?_eq_getElem (by omega);have:=VJ (ih (by omega)) (gy n _ hg) (by omega);rw[e3 n _ hg] at this;exact this
end Go.Proofs.YtcnefjfboagbmaaGreat
