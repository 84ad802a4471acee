/- The memory in which all objects are laid: what its cells have. -/
import Derived.Test.YtcnefjfboagbmaaGreatXG
import Derived.Test.YtcnefjfboagbmaaGreatXC
import Derived.Test.YtcnefjfboagbmaaGreatWE
import Derived.Test.YtcnefjfboagbmaaGreatWA
import Derived.Test.YtcnefjfboagbmaaGreatXH
import Derived.Test.YtcnefjfboagbmaaGreatXD
namespace Go.Proofs.YtcnefjfboagbmaaGreat
open Go.Proofs.Tryz
set_option maxRecDepth 100000
def uI(m:List Int)(i5:List aS):List Int:=i5.foldl (λ m a=>m.set a.cell.toNat a.new) m
theorem Kd(tN:List Int):∀(i5:List aS)(cur:List Int)(gE:List aB),vu cur.length i5->∃lg,jX tN cur gE i5=(uI cur i5,lg,0)
 |[],cur,gE,_=>⟨gE,rfl⟩
 |a::i5,cur,gE,h=>by
  have ha:=h a (by simp);rw[jX,if_pos (K0 ha),PS ha.1];obtain⟨lg,u⟩:=Kd tN i5 (cur.set a.cell.toNat a.new) (gE++[⟨fe cur a.cell,true⟩]) (λ b R=>by rw[List.length_set];exact h b (by simp[R]));exact⟨lg,u⟩
theorem EE{c:Int}:∀{i5:List aS}{m:List Int},vu m.length i5->(∀a∈i5,a.cell≠c)->aG (uI m i5) c=aG m c
 |[],_,_,_=>rfl
 |a::i5,m,h,L=>by
  have ha:=h a (by simp);have u:aG (uI (m.set a.cell.toNat a.new) i5) c=aG (m.set a.cell.toNat a.new) c:=EE (λ b R=>by rw[List.length_set];exact h b (by simp[R])) λ b R=>L b (by simp[R])
  show aG (uI (m.set a.cell.toNat a.new) i5) c=_;rw[u];unfold aG fe;rw[List.length_set];split
  ·rfl
  ·have cP:a.cell.toNat≠c.toNat:=λ e=>L a (by simp) (by omega)
   rw[List.getD_eq_getElem?_getD,List.getD_eq_getElem?_getD,List.getElem?_set_ne cP]
theorem NB{c v:Int}:∀{i5:List aS}{m:List Int},vu m.length i5->(∀a∈i5,a.cell=c->a.new=v)->(∃a∈i5,a.cell=c)->aG (uI m i5) c=v
 |[],_,_,_,h=>by obtain⟨a,ha,_⟩:=h;cases ha
 |a::i5,m,h,hv,he=>by
  have hs:vu (m.set a.cell.toNat a.new).length i5:=λ b R=>by rw[List.length_set];exact h b (by simp[R])
  by_cases hm:∃b∈i5,b.cell=c
  ·exact NB (i5:=i5) (m:=m.set a.cell.toNat a.new) hs (λ b R=>hv b (by simp[R])) hm
  ·have ie:∀b∈i5,b.cell≠c:=λ b R e=>hm ⟨b,R,e⟩
   have LC:a.cell=c:=by
    obtain⟨b,R,e⟩:=he;rcases List.mem_cons.1 R with rfl|R
    ·exact e
    ·exact absurd e (ie b R)
   show aG (uI (m.set a.cell.toNat a.new) i5) c=v;rw[EE hs ie];have ha:=h a (by simp);unfold aG fe;rw[List.length_set,if_neg (by omega),List.getD_eq_getElem?_getD,LC,List.getElem?_set_self (by omega)];exact hv a (by simp) LC
structure CL(l:ab):Prop where
 ok:∃c,vm c/\l=cO c
theorem CL.facts{l:ab}(h:CL l):(0<=l.nodes/\l.nodes<=1000)/\(0<=l.maps/\l.maps<=8)/\(0<=l.bo/\l.bo<=8)/\(0<=l.aL/\l.aL<=8)/\l.maps+l.aL<=l.nodes/\(1<=l.buckets/\l.buckets<=64)/\(1<=l.bm/\l.bm<=8)/\4<=l.map/\l.map<=1400/\l.stack=l.map+l.maps*(l.buckets+2)/\l.chan=l.stack+l.bo*(l.bm+1)/\l.chan<=2100/\l.node=l.chan+2*l.aL/\l.size=l.node+8*l.nodes/\l.era=2/\l.free=3:=by obtain⟨c,hC,rfl⟩:=h.ok;obtain⟨s1,s2,s3,s4,s5,s6,s7,s8,aaJ,Yl,Ym,aaI⟩:=Ii hC;have R:=uC hC.b;have u:=hC.n;have D:=hC.m;have K:=hC.st;have h4:=hC.ch;have h5:=hC.sl;refine⟨⟨?_,u.2⟩,D,K,h4,u.1,R,h5,s1,s2,Yl,Ym,s6,s7,s8,rfl,rfl⟩;show 0<=c.nodes;omega
theorem EH{l:ab}{n i:Int}(hn:1<=n/\n<=l.nodes)(Z:0<=i/\i<=7):am l n i=l.node+(n-1)*8+i:=by unfold am iq;rw[if_neg (by omega),if_neg (by omega)]
theorem Ny{l:ab}{o i:Int}(X:0<=o/\o<l.maps)(Z:0<=i/\i<=1)(R:0<=l.buckets):hb l o i=l.map+o*(2+l.buckets)+i:=by unfold hb iq;rw[if_neg (by omega),if_neg (by omega)]
theorem Rk{l:ab}{o:Int}(X:0<=o/\o<l.maps)(R:1<=l.buckets):fA l o 0=l.map+o*(2+l.buckets)+2:=by unfold fA iq;rw[if_neg (by omega),if_neg (by omega)];omega
theorem DH{l:ab}{c:Int}(L:0<=c/\c<l.aL):gV l c=l.chan+c*2:=by unfold gV iq;rw[if_neg (by omega)];omega
theorem YW{l:ab}{c:Int}(L:0<=c/\c<l.aL):mU l c=l.chan+c*2+1:=by unfold mU iq;rw[if_neg (by omega)]
theorem Y2{l:ab}{s:Int}(hs:0<=s/\s<l.bo)(M:0<=l.bm):hd l s=l.stack+s*(1+l.bm):=by unfold hd iq;rw[if_neg (by omega)];omega
theorem OZ{o k w i:Int}(X:0<=o/\o<k)(Z:0<=i/\i<w):0<=o*w+i/\o*w+i<k*w:=by have u:0<=o*w:=Int.mul_nonneg (by omega) (by omega);have D:(o+1)*w<=k*w:=Int.mul_le_mul_of_nonneg_right (by omega) (by omega);rw[Int.add_mul] at D;omega
theorem Yi{o p w i j:Int}(Z:0<=i/\i<w)(hj:0<=j/\j<w)(h:o*w+i=p*w+j):o=p/\i=j:=by
 have hw:w≠0:=by omega
 have e1:(o*w+i)/w=o:=by rw[Int.add_comm,Int.add_mul_ediv_right _ _ hw,Int.ediv_eq_zero_of_lt Z.1 Z.2,Int.zero_add]
 have e2:(p*w+j)/w=p:=by rw[Int.add_comm,Int.add_mul_ediv_right _ _ hw,Int.ediv_eq_zero_of_lt hj.1 hj.2,Int.zero_add]
 have e:o=p:=by rw[<-e1,<-e2,h]
 subst e;exact⟨rfl,by omega⟩
inductive mo(l:ab):Int->Int->Prop where
 |node (n i:Int) (hn:1<=n/\n<=l.nodes) (Z:0<=i/\i<=7):mo l (l.node+(n-1)*8+i) (if i=7 then(if n=l.nodes then 0 else n+1) else if i=6 then 1 else 0)
 |map (o i:Int) (X:0<=o/\o<l.maps) (Z:0<=i/\i<=2):mo l (l.map+o*(2+l.buckets)+i) (if i=0 then 1 else if i=1 then 0 else o+1)
 |chan (c i:Int) (L:0<=c/\c<l.aL) (Z:0<=i/\i<=1):mo l (l.chan+c*2+i) (l.maps+c+1)
 |free:mo l 3 (if l.nodes<l.maps+l.aL+1 then 0 else l.maps+l.aL+1)
 |era:mo l 2 1
theorem mo.at{l:ab}(h:CL l){c v:Int}(hs:mo l c v):(∃n i,c=l.node+(n-1)*8+i/\(1<=n/\n<=l.nodes)/\(0<=i/\i<=7)/\v=(if i=7 then(if n=l.nodes then 0 else n+1) else if i=6 then 1 else 0))\/(∃o i,c=l.map+(o*(l.buckets+2)+i)/\(0<=o/\o<l.maps)/\(0<=i/\i<l.buckets+2)/\(l.map<=c/\c<l.stack)/\v=(if i=0 then 1 else if i=1 then 0 else o+1))\/(∃k i,c=l.chan+k*2+i/\(0<=k/\k<l.aL)/\(0<=i/\i<=1)/\v=l.maps+k+1)\/(c=3/\v=if l.nodes<l.maps+l.aL+1 then 0 else l.maps+l.aL+1)\/(c=2/\v=1):=by
 obtain⟨gT,iN,f3,i7,kR,mF,f7,mG,mH,mA,mB,mC,mD,mE,lq,lT⟩:=h.facts;cases hs with
 |node n i hn Z=>exact .inl ⟨n,i,rfl,hn,Z,rfl⟩
 |map o i X Z=>have:=OZ (w:=l.buckets+2) (i:=i) X (by omega);exact .inr (.inl ⟨o,i,by rw[show 2+l.buckets=l.buckets+2 by omega];omega,X,by omega,by rw[show 2+l.buckets=l.buckets+2 by omega];omega,rfl⟩)
 |chan c i L Z=>exact .inr (.inr (.inl ⟨c,i,rfl,L,Z,rfl⟩))
 |free=>exact .inr (.inr (.inr (.inl ⟨rfl,rfl⟩)))
 |era=>exact .inr (.inr (.inr (.inr ⟨rfl,rfl⟩)))
theorem mo.fun{l:ab}(h:CL l){c v jh:Int}(hs:mo l c v)(HY:mo l c jh):v=jh:=by
 obtain⟨gT,iN,f3,i7,kR,mF,f7,mG,mH,mA,mB,mC,mD,mE,lq,lT⟩:=h.facts;have pX:l.map<=l.stack:=by have:0<=l.maps*(l.buckets+2):=Int.mul_nonneg (by omega) (by omega);omega
 have yP:l.stack<=l.chan:=by have:0<=l.bo*(l.bm+1):=Int.mul_nonneg (by omega) (by omega);omega
 rcases hs.at h with⟨n,i,e,q1,q2,rfl⟩|⟨o,i,e,q1,q2,q3,rfl⟩|⟨k,i,e,q1,q2,rfl⟩|⟨e,rfl⟩|⟨e,rfl⟩<;>rcases HY.at h with⟨iD,r7,V,p1,p2,rfl⟩|⟨o',r7,V,p1,p2,aaD,rfl⟩|⟨jb,r7,V,p1,p2,rfl⟩|⟨V,rfl⟩|⟨V,rfl⟩<;>first|(exfalso;omega)|skip
 ·obtain⟨rfl,rfl⟩:n=iD/\i=r7:=by omega
  rfl
 ·obtain⟨rfl,rfl⟩:=Yi q2 p2 (show o*(l.buckets+2)+i=o'*(l.buckets+2)+r7 by omega)
  rfl
 ·omega
 ·rfl
 ·rfl
theorem mo.inside{l:ab}(h:CL l){c v:Int}(hs:mo l c v):0<=c/\c<l.size:=by obtain⟨gT,iN,f3,i7,kR,mF,f7,mG,mH,mA,mB,mC,mD,mE,lq,lT⟩:=h.facts;have pX:0<=l.maps*(l.buckets+2):=Int.mul_nonneg (by omega) (by omega);have yP:0<=l.bo*(l.bm+1):=Int.mul_nonneg (by omega) (by omega);rcases hs.at h with⟨n,i,e,q1,q2,rfl⟩|⟨o,i,e,q1,q2,q3,rfl⟩|⟨k,i,e,q1,q2,rfl⟩|⟨e,rfl⟩|⟨e,rfl⟩<;>omega
theorem zr{n:Int}(hn:0<=n/\n<65536):dJ ⟨n,false,0⟩=n:=by unfold dJ;simp;omega
theorem EK{n:Int}(hn:0<=n/\n<65536):(az n).idx=n:=by show n%65536=n;omega
theorem Ci{l:ab}(h:CL l):∀a∈eX l,a.kind=2/\a.eh=0/\mo l a.cell a.new:=by
 obtain⟨gT,iN,f3,i7,kR,mF,f7,mG,mH,mA,mB,mC,mD,mE,lq,lT⟩:=h.facts;intro a ha;unfold eX at ha;simp only[List.mem_append,List.mem_flatMap,List.mem_range,List.mem_cons,List.not_mem_nil,or_false] at ha;have yM:∀n i:Int,1<=n/\n<=l.nodes->0<=i/\i<=7->∀v,v=(if i=7 then(if n=l.nodes then 0 else n+1) else if i=6 then 1 else 0)->mo l (am l n i) v:=λ n i hn Z v hv=>by
  rw[hv,EH hn Z];exact .node n i hn Z
 rcases ha with((⟨m,hm,ha⟩|⟨c,L,ha⟩)|ha)|rfl
 ·have l5:0<=(m:Int)/\(m:Int)<l.maps:=by omega
  simp only[fE,List.mem_cons,List.not_mem_nil,or_false] at ha;rcases ha with rfl|rfl|rfl|rfl|rfl|rfl|rfl<;>refine⟨rfl,rfl,?_⟩<;>simp only
  ·exact yM _ 0 (by omega) (by omega) _ (by simp)
  ·exact yM _ 1 (by omega) (by omega) _ (by simp)
  ·exact yM _ 2 (by omega) (by omega) _ (by simp)
  ·exact yM _ 6 (by omega) (by omega) _ (by simp)
  ·rw[Ny l5 (by omega) (by omega)];exact .map m 0 l5 (by omega)
  ·rw[Ny l5 (by omega) (by omega)];exact .map m 1 l5 (by omega)
  ·rw[Rk l5 (by omega),zr (by omega)];exact .map m 2 l5 (by omega)
 ·have ea:0<=(c:Int)/\(c:Int)<l.aL:=by omega
  have pX:0<=l.maps*(l.buckets+2):=Int.mul_nonneg (by omega) (by omega);have yP:0<=l.bo*(l.bm+1):=Int.mul_nonneg (by omega) (by omega);unfold Sg.kv at ha;rw[DH ea,EH (by omega) (by omega),if_neg (by omega)] at ha;simp only[List.mem_append,List.mem_map,List.mem_range,List.mem_cons,List.not_mem_nil,or_false] at ha;rcases ha with⟨i,Z,rfl⟩|rfl|rfl<;>refine⟨rfl,rfl,?_⟩<;>simp only
  ·exact yM _ i (by omega) (by omega) _ (by rw[if_neg (by omega),if_neg (by omega)])
  ·rw[zr (by omega)];have:=mo.chan (l:=l) c 0 ea (by omega)
   rwa [Int.add_zero] at this
  ·rw[YW ea,zr (by omega)];exact .chan c 1 ea (by omega)
 ·unfold lp at ha;have hf:=mo.free (l:=l);rw[<-lT] at hf;split at ha
  ·rename_i bh;simp only[List.mem_cons,List.not_mem_nil,or_false] at ha;subst ha;refine⟨rfl,rfl,?_⟩;simp only
   rwa [if_pos (by omega)] at hf
  ·rename_i bh;unfold r8 jQ at ha;simp only[List.mem_append,List.mem_map,List.mem_range,List.mem_cons,List.not_mem_nil,or_false] at ha;rcases ha with⟨i,Z,rfl⟩|rfl<;>refine⟨rfl,rfl,?_⟩<;>simp only
   ·exact yM _ 7 (by omega) (by omega) _ (by simp)
   ·rw[if_neg (by omega)] at hf
    rwa [show(((l.maps+l.aL+1).toNat:Nat):Int)=l.maps+l.aL+1 by omega]
 ·refine⟨rfl,rfl,?_⟩;simp only;rw[lq];exact .era
theorem EM{l:ab}(h:CL l):vu l.size.toNat (eX l):=λ a ha=>by
 obtain⟨u,D,K⟩:=Ci h a ha;have:=K.inside h;exact⟨u,D,this.1,by omega⟩
theorem EJ{l:ab}(h:CL l):eT l=uI (List.replicate l.size.toNat 0) (eX l)/\∃lg,jX (List.replicate l.size.toNat 0) (List.replicate l.size.toNat 0) [] (eX l)=(eT l,lg,0):=by
 obtain⟨lg,u⟩:=Kd (List.replicate l.size.toNat 0) (eX l) (List.replicate l.size.toNat 0) [] (by rw[List.length_replicate];exact EM h);have e:eT l=uI (List.replicate l.size.toNat 0) (eX l):=by unfold eT;rw[u]
 exact⟨e,lg,by rw[u,e]⟩
theorem tx{l:ab}(h:CL l){a:aS}(ha:a∈eX l):aG (eT l) a.cell=a.new:=by rw[(EJ h).1];refine NB (by rw[List.length_replicate];exact EM h) (λ b R e=>?_) ⟨a,ha,rfl⟩;have u:=(Ci h a ha).2.2;have D:=(Ci h b R).2.2;rw[e] at D;exact(u.fun h D).symm
theorem WF{l:ab}(h:CL l){c:Int}(L:∀v,¬mo l c v):aG (eT l) c=0:=by
 rw[(EJ h).1,EE (by rw[List.length_replicate];exact EM h) (λ a ha e=>L a.new (by rw[<-e];exact(Ci h a ha).2.2))];unfold aG fe;split
 ·rfl
 ·rw[List.getD_eq_getElem?_getD];rcases hq:(List.replicate l.size.toNat (0:Int))[c.toNat]? with _|x
  ·rfl
  ·have:=List.mem_of_getElem? hq;rw[List.mem_replicate] at this;exact this.2
section
variable{l:ab}(h:CL l)
include h
theorem NT{o i:Int}(X:0<=o/\o<l.maps)(Z:i=0\/i=1\/i=2):aG (eT l) (am l (o+1) i)=0:=by
 have hm:(⟨2,am l (o+1) i,0,0⟩:aS)∈eX l:=by unfold eX;simp only[List.mem_append,List.mem_flatMap,List.mem_range];refine .inl (.inl (.inl ⟨o.toNat,by omega,?_⟩));rw[show((o.toNat:Nat):Int)=o by omega];rcases Z with rfl|rfl|rfl<;>simp[fE]
 exact tx h hm
theorem NQ{o:Int}(X:0<=o/\o<l.maps):aG (eT l) (fA l o 0)=o+1:=by
 obtain⟨gT,iN,f3,i7,kR,mF,f7,mG,mH,mA,mB,mC,mD,mE,lq,lT⟩:=h.facts;have hm:(⟨2,fA l o 0,0,dJ ⟨o+1,false,0⟩⟩:aS)∈eX l:=by unfold eX;simp only[List.mem_append,List.mem_flatMap,List.mem_range];refine .inl (.inl (.inl ⟨o.toNat,by omega,?_⟩));rw[show((o.toNat:Nat):Int)=o by omega];simp[fE]
 exact(tx h hm).trans (zr (by omega))
theorem zk{c i:Int}(L:0<=c/\c<l.aL)(Z:0<=i/\i<6):aG (eT l) (am l (l.maps+c+1) i)=0:=by
 obtain⟨gT,iN,f3,i7,kR,mF,f7,mG,mH,mA,mB,mC,mD,mE,lq,lT⟩:=h.facts;have pX:0<=l.maps*(l.buckets+2):=Int.mul_nonneg (by omega) (by omega);have yP:0<=l.bo*(l.bm+1):=Int.mul_nonneg (by omega) (by omega);have hm:(⟨2,am l (l.maps+c+1) i,0,0⟩:aS)∈eX l:=by unfold eX;simp only[List.mem_append,List.mem_flatMap,List.mem_range];refine .inl (.inl (.inr ⟨c.toNat,by omega,?_⟩));rw[show((c.toNat:Nat):Int)=c by omega];unfold Sg.kv;rw[if_neg (by rw[DH L,EH (by omega) (by omega)];omega)];simp only[List.mem_append,List.mem_map,List.mem_range];exact .inl ⟨i.toNat,by omega,by rw[show((i.toNat:Nat):Int)=i by omega]⟩
 exact tx h hm
theorem Wv{c:Int}(L:0<=c/\c<l.aL):aG (eT l) (gV l c)=l.maps+c+1/\aG (eT l) (mU l c)=l.maps+c+1:=by
 obtain⟨gT,iN,f3,i7,kR,mF,f7,mG,mH,mA,mB,mC,mD,mE,lq,lT⟩:=h.facts;have pX:0<=l.maps*(l.buckets+2):=Int.mul_nonneg (by omega) (by omega);have yP:0<=l.bo*(l.bm+1):=Int.mul_nonneg (by omega) (by omega);have hm:∀a:aS,a=⟨2,gV l c,0,dJ ⟨l.maps+c+1,false,0⟩⟩\/a=⟨2,mU l c,0,dJ ⟨l.maps+c+1,false,0⟩⟩->a∈eX l:=λ a ha=>by
  unfold eX;simp only[List.mem_append,List.mem_flatMap,List.mem_range];refine .inl (.inl (.inr ⟨c.toNat,by omega,?_⟩));rw[show((c.toNat:Nat):Int)=c by omega];unfold Sg.kv;rw[if_neg (by rw[DH L,EH (by omega) (by omega)];omega)];simp only[List.mem_append,List.mem_cons,List.not_mem_nil,or_false];exact .inr ha
 exact⟨(tx h (hm _ (.inl rfl))).trans (zr (by omega)),(tx h (hm _ (.inr rfl))).trans (zr (by omega))⟩
theorem Wt:aG (eT l) l.era=1:=by
 have hm:(⟨2,l.era,0,1⟩:aS)∈eX l:=by unfold eX;simp
 exact tx h hm
theorem Wu:aG (eT l) l.free=if l.nodes<l.maps+l.aL+1 then 0 else l.maps+l.aL+1:=by
 obtain⟨gT,iN,f3,i7,kR,mF,f7,mG,mH,mA,mB,mC,mD,mE,lq,lT⟩:=h.facts;have hm:(⟨2,l.free,0,if l.nodes<l.maps+l.aL+1 then 0 else l.maps+l.aL+1⟩:aS)∈eX l:=by
  unfold eX;simp only[List.mem_append];refine .inl (.inr ?_);unfold lp
  by_cases bh:l.nodes<l.maps+l.aL+1
  ·rw[if_pos bh,if_pos (by omega)];simp
  ·rw[if_neg bh,if_neg (by omega)];unfold r8;simp only[List.mem_append,List.mem_cons,List.not_mem_nil,or_false];refine .inr ?_;rw[show(((l.maps+l.aL+1).toNat:Nat):Int)=l.maps+l.aL+1 by omega]
 exact tx h hm
theorem Ww{n:Int}(hn:l.maps+l.aL+1<=n/\n<=l.nodes):aG (eT l) (am l n 7)=if n=l.nodes then 0 else n+1:=by
 obtain⟨gT,iN,f3,i7,kR,mF,f7,mG,mH,mA,mB,mC,mD,mE,lq,lT⟩:=h.facts;have hm:(⟨2,am l n 7,0,if n=l.nodes then 0 else n+1⟩:aS)∈eX l:=by unfold eX;simp only[List.mem_append];refine .inl (.inr ?_);unfold lp;rw[if_neg (by omega)];unfold r8 jQ;simp only[List.mem_append,List.mem_map,List.mem_range];refine .inl ⟨(n-(l.maps+l.aL+1)).toNat,by omega,?_⟩;rw[show(((l.maps+l.aL+1).toNat:Nat):Int)+(((n-(l.maps+l.aL+1)).toNat:Nat):Int)=n by omega]
 exact tx h hm
theorem WC{s:Int}(hs:0<=s/\s<l.bo):aG (eT l) (hd l s)=0:=by
 obtain⟨gT,iN,f3,i7,kR,mF,f7,mG,mH,mA,mB,mC,mD,mE,lq,lT⟩:=h.facts;refine WF h λ v hv=>?_
 rw[Y2 hs (by omega)] at hv;have hr:=OZ (w:=l.bm+1) (i:=0) hs (by omega);have pX:0<=l.maps*(l.buckets+2):=Int.mul_nonneg (by omega) (by omega);rw[show 1+l.bm=l.bm+1 by omega] at hv;rcases hv.at h with⟨n,i,e,q1,q2,_⟩|⟨o,i,e,q1,q2,q3,_⟩|⟨k,i,e,q1,q2,_⟩|⟨e,_⟩|⟨e,_⟩<;>omega
end
theorem GK{aq dP:Type}{f g:aq->List dP}:∀{l:List aq},(∀a∈l,f a=g a)->l.flatMap f=l.flatMap g
 |[],_=>rfl
 |a::l,h=>by rw[List.flatMap_cons,List.flatMap_cons,h a (by simp),GK λ b R=>h b (by simp[R])]
theorem ye{nx:Int->Int}{N:Int}{k:Nat}{acc:List Int}:fL nx N k acc 0=acc:=by
 cases k with
 |zero=>rfl
 |succ k=>rw[fL,if_neg (by omega)]
def mW(n:Int)(d:Nat):List Int:=(List.range d).map λ(i:Nat)=>n+i
theorem PX(n:Int)(d:Nat):mW n (d+1)=n::mW (n+1) d:=by
 unfold mW;rw[List.range_succ_eq_map,List.map_cons,List.map_map]
 congr 1
 ·simp
 ·refine List.map_congr_left λ i _=>?_
  simp only[Function.comp_def];omega
theorem Kv{nx:Int->Int}{N a:Int}(ha:1<=a)(nO:∀n,a<=n->n<=N->nx n=if n=N then 0 else n+1):∀(d k:Nat)(acc:List Int)(n:Int),a<=n->n+d=N+1->d<=k->0<d->(∀x∈acc,x<n)->fL nx N k acc n=acc++mW n d
 |0,_,_,_,_,_,_,h,_=>by omega
 |d+1,k,acc,n,hn,G,J,_,LD=>by
  obtain⟨k,rfl⟩:∃j,k=j+1:=⟨k-1,by omega⟩;rw[fL,if_pos ⟨by omega,by omega,λ hm=>by have:=LD n hm;omega⟩,nO n hn (by omega),PX]
  by_cases hN:n=N
  ·rw[if_pos hN,ye];obtain rfl:d=0:=by omega
   simp[mW]
  ·rw[if_neg hN,Kv ha nO d k (acc++[n]) (n+1) (by omega) (by omega) (by omega) (by omega) λ x T=>by
    rcases List.mem_append.1 T with T|T
    ·have:=LD x T;omega
    ·have:x=n:=by simpa using T
     omega]
   simp
theorem IA{n:Int}{d:Nat}{x:Int}:x∈mW n d↔n<=x/\x<n+d:=by
 unfold mW;simp only[List.mem_map,List.mem_range];constructor
 ·rintro⟨i,Z,rfl⟩;omega
 ·intro T;exact⟨(x-n).toNat,by omega,by omega⟩
theorem NN:∀(d:Nat)(n:Int),(mW n d).Nodup
 |0,n=>by simp[mW]
 |d+1,n=>by
  rw[PX,List.nodup_cons,IA];exact⟨by omega,NN d (n+1)⟩
theorem KD(n:Int)(d:Nat)(x:Int):(mW n d).count x=if n<=x/\x<n+d then 1 else 0:=by
 by_cases T:n<=x/\x<n+d
 ·rw[if_pos T];have u:=List.nodup_iff_count.1 (NN d n) x;have D:=List.count_pos_iff.2 (IA.2 T);omega
 ·rw[if_neg T];exact List.count_eq_zero_of_not_mem λ hm=>T (IA.1 hm)
section
variable{l:ab}(h:CL l)
include h
theorem Wz{o:Int}(X:0<=o/\o<l.maps):p6 l (eT l) o=[o+1]:=by obtain⟨gT,iN,f3,i7,kR,mF,f7,mG,mH,mA,mB,mC,mD,mE,lq,lT⟩:=h.facts;unfold p6;rw[NQ h X,EK (by omega),if_neg (by omega)];unfold cW;rw[NT h X (.inl rfl),show(az 0).idx=0 by decide,ye]
theorem Wy{o:Int}(X:0<=o/\o<l.maps):oH l (eT l) o=[]:=by
 obtain⟨gT,iN,f3,i7,kR,mF,f7,mG,mH,mA,mB,mC,mD,mE,lq,lT⟩:=h.facts;unfold oH;split
 ·rfl
 ·rw[NQ h X,EK (by omega)];unfold hc cW;rw[NT h X (.inl rfl),show(az 0).idx=0 by decide,ye]
  rfl
theorem NU{s:Int}(hs:0<=s/\s<l.bo):Em.cW l (eT l) s=[]:=by
 unfold Em.cW;split
 ·rfl
 ·rw[WC h hs,show(az 0).idx=0 by decide,ye]
theorem NR{c:Int}(L:0<=c/\c<l.aL):Sg.cW l (eT l) c=[l.maps+c+1]:=by
 obtain⟨gT,iN,f3,i7,kR,mF,f7,mG,mH,mA,mB,mC,mD,mE,lq,lT⟩:=h.facts;have pX:0<=l.maps*(l.buckets+2):=Int.mul_nonneg (by omega) (by omega);have yP:0<=l.bo*(l.bm+1):=Int.mul_nonneg (by omega) (by omega);unfold Sg.cW;rw[if_neg (by rw[DH L];omega),(Wv h L).1,EK (by omega),fL,if_pos ⟨by omega,by omega,by simp⟩,zk h L (by omega),ye]
 rfl
theorem Wr{c:Int}(L:0<=c/\c<l.aL):Sg.hc l (eT l) c=[]:=by
 unfold Sg.hc;rw[NR h L];simp only[List.flatMap_cons,List.flatMap_nil,List.append_nil,Sg.fD,Sg.zu,List.map_cons,List.map_nil];rw[zk h L (by omega),zk h L (by omega),zk h L (by omega),zk h L (by omega),zk h L (by omega)]
 rfl
theorem Wx:nl l (eT l)=mW (l.maps+l.aL+1) (l.nodes-(l.maps+l.aL)).toNat:=by
 obtain⟨gT,iN,f3,i7,kR,mF,f7,mG,mH,mA,mB,mC,mD,mE,lq,lT⟩:=h.facts;unfold nl;rw[Wu h]
 by_cases bh:l.nodes<l.maps+l.aL+1
 ·rw[if_pos bh,show(az 0).idx=0 by decide,ye,show(l.nodes-(l.maps+l.aL)).toNat=0 by omega]
  rfl
 ·rw[if_neg bh,EK (by omega)];have:=Kv (nx:=λ n=>aG (eT l) (am l n 7)) (N:=l.nodes) (a:=l.maps+l.aL+1) (by omega) (λ n u D=>Ww h ⟨u,D⟩) (l.nodes-(l.maps+l.aL)).toNat (l.nodes.toNat+1) [] (l.maps+l.aL+1) (Int.le_refl _) (by omega) (by omega) (by omega) (λ x T=>by cases T);rw[this,List.nil_append]
theorem WA:mR l (eT l)=mW 1 (l.maps+l.aL).toNat:=by
 obtain⟨gT,iN,f3,i7,kR,mF,f7,mG,mH,mA,mB,mC,mD,mE,lq,lT⟩:=h.facts;have e1:(List.range l.maps.toNat).flatMap (λ(o:Nat)=>p6 l (eT l) o)=mW 1 l.maps.toNat:=by
  unfold mW;rw[List.map_eq_flatMap];refine GK λ o X=>?_
  rw[List.mem_range] at X;rw[Wz h (by omega),Int.add_comm]
 have e2:(List.range l.bo.toNat).flatMap (λ(o:Nat)=>Em.cW l (eT l) o)=[]:=by rw[List.flatMap_eq_nil_iff];intro o X;rw[List.mem_range] at X;exact NU h (by omega)
 have e3:(List.range l.aL.toNat).flatMap (λ(o:Nat)=>Sg.cW l (eT l) o)=mW (l.maps+1) l.aL.toNat:=by
  unfold mW;rw[List.map_eq_flatMap];refine GK λ o X=>?_
  rw[List.mem_range] at X;rw[NR h (by omega),show l.maps+(o:Int)+1=l.maps+1+o by omega]
 unfold mR;rw[e1,e2,e3,List.append_nil];unfold mW;rw[show(l.maps+l.aL).toNat=l.maps.toNat+l.aL.toNat by omega,List.range_add,List.map_append,List.map_map]
 congr 1
 refine List.map_congr_left λ i _=>?_
 simp only[Function.comp_def];omega
theorem Wq{kind i:Int}(J:(kind=1/\0<=i/\i<l.maps)\/(kind=2/\0<=i/\i<l.bo)\/(kind=3/\0<=i/\i<l.aL)):lh l (eT l) kind i=(kind,[],[]):=by
 unfold lh;rcases J with⟨rfl,Z⟩|⟨rfl,Z⟩|⟨rfl,Z⟩
 ·rw[if_pos rfl,Wy h Z];rfl
 ·rw[if_neg (by omega),if_pos rfl];unfold Em.hc;rw[NU h Z];rfl
 ·rw[if_neg (by omega),if_neg (by omega),if_pos rfl,Wr h Z]
theorem WD(n:Int):(nl l (eT l)++mR l (eT l)).count n=if 1<=n/\n<=l.nodes then 1 else 0:=by
 obtain⟨gT,iN,f3,i7,kR,mF,f7,mG,mH,mA,mB,mC,mD,mE,lq,lT⟩:=h.facts;rw[List.count_append,Wx h,WA h,KD,KD]
 by_cases u:l.maps+l.aL+1<=n/\n<l.maps+l.aL+1+((l.nodes-(l.maps+l.aL)).toNat:Nat)
 ·rw[if_pos u,if_neg (by omega),if_pos (by omega)]
 ·rw[if_neg u]
  by_cases D:1<=n/\n<1+((l.maps+l.aL).toNat:Nat)
  ·rw[if_pos D,if_pos (by omega)]
  ·rw[if_neg D,if_neg (by omega)]
theorem WB:∀x∈eT l,x<9223372036854775808:=by
 obtain⟨gT,iN,f3,i7,kR,mF,f7,mG,mH,mA,mB,mC,mD,mE,lq,lT⟩:=h.facts;intro x T;obtain⟨i,Z⟩:=List.getElem?_of_mem T;have dw:=(List.getElem?_eq_some_iff.1 Z).1;have mJ:aG (eT l) i=x:=by
  unfold aG fe;rw[if_neg (by omega),List.getD_eq_getElem?_getD,Int.toNat_natCast,Z]
  rfl
 by_cases hv:∃a∈eX l,a.cell=i
 ·obtain⟨a,ha,e⟩:=hv;have u:=tx h ha;rw[e,mJ] at u;rw[u];rcases((Ci h a ha).2.2).at h with⟨n,i,e,q1,q2,q3⟩|⟨o,i,e,q1,q2,q3,q4⟩|⟨k,i,e,q1,q2,q3⟩|⟨e,q3⟩|⟨e,q3⟩
  ·rw[q3];repeat' split
   all_goals omega
  ·rw[q4];repeat' split
   all_goals omega
  ·omega
  ·rw[q3];split<;>omega
  ·omega
 ·have u:aG (eT l) i=0:=by
   rw[(EJ h).1,EE (by rw[List.length_replicate];exact EM h) (λ a ha e=>hv ⟨a,ha,e⟩)];unfold aG fe;split
   ·rfl
   ·rw[List.getD_eq_getElem?_getD];rcases hq:(List.replicate l.size.toNat (0:Int))[(i:Int).toNat]? with _|x
    ·rfl
    ·have:=List.mem_of_getElem? hq;rw[List.mem_replicate] at this;exact this.2
  rw[mJ] at u;omega
end
open Go.RowKit
set_option maxHeartbeats 4000000 in
theorem VY(xs:List Int)(l:List aS)(h0:0<xs.length)(hn:xs.length<=1000000)(M:l.length<=100000):aW prog 27 [fg xs,jl l] (.bc [fg (jX xs xs [] l).1,fS (jX xs xs [] l).2.1,z (jX xs xs [] l).2.2]):=by
 generalize A:jX xs xs [] l=aK;refine sP func27 ntmps27 λ w cl=>?_
 refine go ?_;refine gk (Kx xs h0 hn) rfl (λ a w=>call66 a w) rfl rfl trivial trivial rfl rfl rfl rfl ?_ ?_
 ·rintro d O ⟨c,cs,rfl,rfl,_⟩;exact⟨.inr rfl,trivial⟩
 rintro d O ⟨c,cs,rfl,rfl,nM,L,jp,mP,bG⟩;refine go ?_;refine da (gO 8 0 108 2 rfl rfl rfl) ?_;refine bL (λ p:Nat×List Int×List aB×List F=>p.1<=l.length/\p.2.1.length=xs.length/\p.2.2.1.length=p.1/\p.2.2.2.length=c/\p.2.2.2.take p.2.1.length=(aZ p.2.1).map F.p/\eN p.2.2.2/\jX xs p.2.1 p.2.2.1 (l.drop p.1)=aK) (λ p=>⟨[(17,z p.1),(16,z l.length),(15,jl l),(8,.aU 0 p.2.2.1.length (fQ p.2.2.1)),(7,.arr 9 0 xs.length c),(2,.ptr 0 0),(4,.ptr 1 0)],[(9,p.2.2.2),(1,[.p (.sl true 0 [])]),(0,[aV xs])],[(0,⟨108,2,p.2.2.1.length⟩)]⟩) (λ p=>l.length-p.1) (0,xs,[],cs) ⟨Nat.zero_le _,rfl,rfl,nM,mP,bG,A⟩ (dO (by(repeat(first|exact trivial|refine⟨⟨rfl,rfl⟩,?_⟩))) (by(repeat(first|exact trivial|refine⟨⟨rfl,rfl⟩,?_⟩|refine⟨⟨rfl,bG _ _⟩,?_⟩))) (by(repeat(first|exact trivial|refine⟨rfl,?_⟩))) (by(repeat(first|exact trivial|refine⟨rfl,?_⟩)))) ?_;rintro⟨i,cur,gE,ck⟩ ⟨Z,de,gq,o6,wd,Hj,A⟩;simp only at Z de gq o6 wd Hj A;refine(show aJ _ _ _ _ ⟨[(17,z i),(16,z l.length),(15,jl l),(8,.aU 0 gE.length (fQ gE)),(7,.arr 9 0 xs.length c),(2,.ptr 0 0),(4,.ptr 1 0)],[(9,ck),(1,[.p (.sl true 0 [])]),(0,[aV xs])],[(0,⟨108,2,gE.length⟩)]⟩ from ?_);refine go ?_;refine cz (λ u=>?_) (λ u=>?_)<;>try rw[u]
 ·have aN:=of_decide_eq_true u;have dw:i<l.length:=by omega
  obtain⟨a,ha⟩:=j3 (l:=l) (i:=i) (by omega) aN;have G:l.drop i=a::l.drop (i+1):=by rw[List.drop_eq_getElem_cons dw];simp only[Int.toNat_natCast] at ha;rw[(List.getElem?_eq_some_iff.1 ha).2]
  rw[G,jX,de] at A;refine go ?_;refine ai [pI a.kind,pI a.cell,pI a.eh,pI a.new] (CZ ha) ?_;refine gA (KZ xs.length a) ?_;generalize D:decide (mI xs.length a=0)=cc;cases cc
  ·rw[if_neg (of_decide_eq_false D)] at A;refine gf ?_;rw[<-A]
   rfl
  ·have bd:=of_decide_eq_true D;rw[if_pos bd] at A;obtain⟨q0,q1⟩:=K1 bd;have kX:=Al cur a;have hT:=PQ cur a.kind a.cell.toNat a.eh a.new (by omega) (by omega) c ck o6 (by omega) wd Hj;rw[show((a.cell.toNat:Nat):Int)=a.cell by omega,de] at hT;refine go ?_;refine gk hT rfl (λ a w=>call68 a w) rfl rfl (by(repeat(first|exact trivial|refine⟨⟨rfl,Hj _ _⟩,?_⟩))) (by(repeat(first|exact trivial|refine⟨.inr rfl,?_⟩))) rfl rfl rfl rfl ?_ ?_
   ·rintro d O ⟨_,aO,rfl,_⟩;exact⟨.inl rfl,trivial⟩
   rintro d O ⟨rfl,aO,rfl,k1,k2,k3⟩;refine go ?_;refine pA rfl ?_;rw[<-Oc gE (kj cur a).2,show gE.length+1=(gE++[(kj cur a).2]).length by simp];refine go ?_;exact⟨(i+1,(kj cur a).1,gE++[(kj cur a).2],aO),⟨by simp only;omega,by simp only;omega,by simp only[List.length_append,List.length_cons,List.length_nil];omega,k1,by simp only[kX,de];exact k2,k3,A⟩,by simp only;omega,dO (by(repeat(first|exact trivial|refine⟨⟨rfl,rfl⟩,?_⟩))) (by(repeat(first|exact trivial|refine⟨⟨rfl,rfl⟩,?_⟩|refine⟨⟨rfl,k3 _ _⟩,?_⟩))) (by(repeat(first|exact trivial|refine⟨rfl,?_⟩))) (by(repeat(first|exact trivial|refine⟨rfl,?_⟩)))⟩
 ·have aN:=of_decide_eq_false u;rw[List.drop_of_length_le (by omega),jX] at A;refine da (Du 7 9 (aZ cur) rfl rfl rfl rfl o6 L (by rw[kL,de]) (by rw[<-de];exact wd) jp (En _)) ?_;refine gf ?_;rw[<-A];simp only[fg,aV,de]
set_option maxHeartbeats 4000000 in
theorem X0(l:ab)(hL:bQ l)(m:List Int):xJ prog 69 [cF l,fg m] 3 1 (nl l m).length (aZ (nl l m)):=by
 generalize A:nl l m=aK;unfold nl at A;obtain⟨iP,fk⟩:=hL.nodes;refine Lb (t:=4) func69 rfl ntmps69 rfl rfl rfl λ w cl=>?_
 refine gA (m4 m l.free) ?_;refine cA (uX (aG m l.free)) ?_;refine go ?_;generalize(az (aG m l.free)).idx=n0 at A;refine da (gO 5 0 3 1 rfl rfl rfl) ?_;refine bL (λ p:Nat×List Int×Int=>p.1+p.2.1.length=l.nodes.toNat+1/\fL (λ n=>aG m (am l n 7)) l.nodes p.1 p.2.1 p.2.2=aK) (λ p=>⟨[(7,z p.2.2),(5,.aU 0 p.2.1.length (aZ p.2.1)),(2,.ptr 0 0),(3,.ptr 1 0)],[(1,[aV m]),(0,bs l)],[(0,⟨3,1,p.2.1.length⟩)]⟩) (λ p=>p.1) (l.nodes.toNat+1,[],n0) ⟨by simp,A⟩ (zX) ?_;rintro⟨k,acc,n⟩ ⟨J,A⟩;simp only at J A;refine(show aJ _ _ _ _ ⟨[(7,z n),(5,.aU 0 acc.length (aZ acc)),(2,.ptr 0 0),(3,.ptr 1 0)],[(1,[aV m]),(0,bs l)],[(0,⟨3,1,acc.length⟩)]⟩ from ?_);refine go ?_;refine cz (λ D=>?_) (λ D=>?_)<;>try rw[D]
 ·have bd:=of_decide_eq_true D;obtain⟨k,rfl⟩:∃j,k=j+1:=⟨k-1,by omega⟩;rw[fL] at A;refine gA (yU acc n (by omega)) ?_;generalize K:decide (n<1)=cc;cases cc
  ·have cK:=of_decide_eq_false K;refine go ?_;generalize h4:decide (n>l.nodes)=cc;cases cc
   ·have jM:=of_decide_eq_false h4;refine go ?_;generalize h5:decide (n∈acc)=cc;cases cc
    ·rw[if_pos ⟨by omega,by omega,of_decide_eq_false h5⟩] at A;refine go ?_;refine pA rfl ?_;rw[ku,show acc.length+1=(acc++[n]).length by simp];refine go ?_;refine dQ [] ?_;refine gQ (ll l hL n 7 (by omega)) ?_;refine cQ (m4 m (am l n 7)) ?_;refine qg ?_;exact⟨(k,acc++[n],aG m (am l n 7)),⟨by simp;omega,A⟩,by simp only;omega,zX⟩
    ·rw[if_neg (λ hh=>hh.2.2 (of_decide_eq_true h5))] at A;refine go ?_;subst A;exact A6 rfl rfl
   ·have jM:=of_decide_eq_true h4;rw[if_neg (λ hh=>by omega)] at A;refine go ?_;subst A;exact A6 rfl rfl
  ·have cK:=of_decide_eq_true K;rw[if_neg (λ hh=>by omega)] at A;refine go ?_;subst A;exact A6 rfl rfl
 ·have bd:=of_decide_eq_false D;obtain rfl:k=0:=by omega
  rw[fL] at A;refine go ?_;subst A;exact A6 rfl rfl
abbrev kH(l:List Int):List F:=l.map z
theorem Vf(l:List Int):eN (kH l):=by
 intro B ak;induction l with
 |nil=>rfl
 |cons a l ih=>exact ih
theorem MU{l:List Int}{i:Int}(h0:0<=i)(u:i<l.length):(kH l)[i.toNat]?=some (z (fe l i)):=by
 have:i.toNat<l.length:=by omega
 simp[kH,fe,this]
theorem Vg(l:List Int)(i:Nat)(v:Int):(kH l).set i (z v)=kH (l.set i v):=by simp[kH]
theorem Vh(n:Nat):List.replicate n (oo (.int .i64 0))=kH (List.replicate n 0):=by simp[kH];exact .inr rfl
def jB(N:Nat)(l:List Int):List Int:=(List.range (N+1)).map λ(i:Nat)=>((l.count (i:Int):Nat):Int)
theorem IB(N:Nat)(l:List Int):(jB N l).length=N+1:=by simp[jB]
theorem ND(N:Nat)(l:List Int)(n:Int)(h0:0<=n)(u:n<=N):fe (jB N l) n=(l.count n:Nat):=by
 have:n.toNat<N+1:=by omega
 simp[fe,jB,this,show((n.toNat:Nat):Int)=n by omega]
theorem V3(N:Nat)(l:List Int)(n:Int)(h0:0<=n):(jB N l).set n.toNat ((l.count n:Nat)+1)=jB N (l++[n]):=by
 apply List.ext_getElem
 ·simp[jB]
 ·intro j u D;rw[List.getElem_set];split
  ·rename_i hj;subst hj;simp[jB,List.count_append,show((n.toNat:Nat):Int)=n by omega]
  ·rename_i hj;have:¬n=(j:Int):=by omega
   simp[jB,List.count_append,List.count_cons,this]
theorem V2(N:Nat):List.replicate (N+1) 0=jB N []:=by
 apply List.ext_getElem
 ·simp[jB]
 ·intro j u D;simp[jB]
theorem Rw{l:List Int}{N:Nat}(h:∀n,l.count n=if 1<=n/\n<=(N:Int) then 1 else 0):l.length<=N:=by
 refine zj N l ?_ (λ x T=>?_)
 ·rw[List.nodup_iff_count];intro x;rw[h x];split<;>omega
 ·have u:=List.count_pos_iff.2 T;rw[h x] at u;split at u
  ·assumption
  ·omega
set_option maxHeartbeats 8000000 in
theorem Za(l:ab)(hL:bQ l)(hn:0<=l.nodes/\l.nodes<=1000)(m ns:List Int)(Bm:∀n,(nl l m++ns).count n=if 1<=n/\n<=l.nodes then 1 else 0):aW prog 29 [cF l,fg m,aV ns,.p (.sl false 0 [])] (dB true):=by
 have SD:=X0 l hL m;obtain⟨N,hN⟩:∃N:Nat,(N:Int)=l.nodes:=⟨l.nodes.toNat,by omega⟩;rw[<-hN] at Bm;have dc:=Rw Bm;rw[List.length_append] at dc;generalize nl l m=fl at*;refine sP func29 ntmps29 λ w cl=>?_
 refine go ?_;refine xQ (Nv aw 300 (c:=N+1) rfl rfl rfl rfl rfl rfl rfl (by omega) (by omega) (by show _*8<=_;omega) (by unfold maxLen;omega)) rfl rfl rfl rfl ?_;rw[show List.replicate (N+1) (oo (Value.int .i64 0))=kH (jB N []) by rw[Vh,V2]];have BM:∀{xs:List Int}(B:Nat->Bool)(ak:Nat->Bool),F.ok.ec B ak (kH xs)=true:=λ B ak=>Vf _ B ak
 refine go ?_;refine CW 0 SD rfl (λ a w=>call69 a w) rfl rfl rfl rfl rfl (by rw[kL];show _=_*1;omega) ?_;refine go ?_;refine ln (m:=ns.length) (qs:=aZ ns) aw rfl rfl rfl rfl rfl rfl rfl rfl rfl rfl rfl rfl (by rw[kL];show _=_*1;omega) (by unfold maxLen;omega) (by show(_+_)*8<=_;omega) ?_;rw[<-xg,show fl.length+ns.length=(fl++ns).length by simp];have ly:(fl++ns).length<=2000:=by rw[List.length_append];omega
 generalize fl++ns=al at*;have eP:∀x∈al,1<=x/\x<=(N:Int):=λ x T=>by
  have u:=List.count_pos_iff.2 T;rw[Bm x] at u;split at u
  ·assumption
  ·omega
 refine go ?_;refine bL (λ _:Unit=>True) (λ _=>⟨[(11,z 0),(10,aV al),(9,.arr 300 0 (N+1) (N+1)),(3,.p (.sl false 0 [])),(4,.ptr 0 0),(5,.ptr 1 0)],[(300,kH (jB N [])),(1,[aV m]),(0,bs l)],[]⟩) (λ _=>0) () trivial ((wV 10 rfl rfl).trans (dO (by(repeat(first|exact trivial|refine⟨⟨rfl,rfl⟩,?_⟩))) (by(repeat(first|exact trivial|refine⟨⟨rfl,rfl⟩,?_⟩|refine⟨⟨rfl,BM _ _⟩,?_⟩))) (by(repeat(first|exact trivial|refine⟨rfl,?_⟩))) (by(repeat(first|exact trivial|refine⟨rfl,?_⟩))))) ?_;intro _ _;refine go ?_;refine(show CK false _ _ from ?_);refine go ?_;refine bL (λ j:Nat=>j<=al.length) (λ j=>⟨[(13,z j),(10,aV al),(9,.arr 300 0 (N+1) (N+1)),(4,.ptr 0 0),(5,.ptr 1 0)],[(300,kH (jB N (al.take j))),(1,[aV m]),(0,bs l)],[]⟩) (λ j=>al.length-j) 0 (by omega) (by show bF _ _ ⟨[(13,z 0),(10,aV al),(9,.arr 300 0 (N+1) (N+1)),(4,.ptr 0 0),(5,.ptr 1 0)],[(300,kH (jB N [])),(1,[aV m]),(0,bs l)],[]⟩;exact dO (by(repeat(first|exact trivial|refine⟨⟨rfl,rfl⟩,?_⟩))) (by(repeat(first|exact trivial|refine⟨⟨rfl,rfl⟩,?_⟩|refine⟨⟨rfl,BM _ _⟩,?_⟩))) (by(repeat(first|exact trivial|refine⟨rfl,?_⟩))) (by(repeat(first|exact trivial|refine⟨rfl,?_⟩)))) ?_;intro j hj;refine(show aJ _ _ _ _ ⟨[(13,z j),(10,aV al),(9,.arr 300 0 (N+1) (N+1)),(4,.ptr 0 0),(5,.ptr 1 0)],[(300,kH (jB N (al.take j))),(1,[aV m]),(0,bs l)],[]⟩ from ?_);refine go ?_;refine cz (λ D=>?_) (λ D=>?_)<;>try rw[D]
 ·have bd:j<al.length:=by have:=of_decide_eq_true D;omega
  obtain⟨x,T⟩:=j3 (l:=al) (i:=j) (by omega) (by omega);have fJ:=T;simp only[Int.toNat_natCast] at fJ;have UX:=eP x (List.mem_of_getElem? fJ);have TL:al.take (j+1)=al.take j++[x]:=by rw[List.take_add_one,fJ];rfl
  have pX:=V3 N (al.take j) x (by omega);have yI:=MU (l:=jB N (al.take j)) (i:=x) (by omega) (by rw[IB];omega);rw[ND N (al.take j) x (by omega) (by omega)] at yI;have ZV:(al.take j).count x<=2000:=Nat.le_trans List.count_le_length (by rw[List.length_take];omega);have Z9:=IB N (al.take j);generalize(al.take j).count x=cx at*;generalize Mr:jB N (al.take j)=mt at*;refine go ?_;refine gD [] ?_;refine ri [pI x] (gK T) ?_;refine ba ?_;rw[show decide (x<1)=false by rw[decide_eq_false_iff_not];omega];refine ba ?_;refine ri [pI x] (gK T) ?_;refine qg ?_;rw[show decide (x>l.nodes)=false by rw[decide_eq_false_iff_not];omega];refine go ?_;refine ai [pI x] (gK T) ?_;refine go ?_;refine aj x.toNat 1 ?_;refine bf (kI aw rfl rfl rfl rfl rfl yI) rfl rfl rfl ?_;refine go ?_;refine aj x.toNat 1 ?_;refine pE (of:=x.toNat) (cs:=kH mt) aw rfl rfl rfl rfl rfl rfl rfl rfl rfl (by rw[List.length_map];omega) ?_;rw[show(kH mt).set x.toNat (z ((cx:Int)+1))=kH (jB N (al.take j++[x])) by rw[Vg,pX]];refine go ?_;refine⟨j+1,by omega,by omega,?_⟩;rw[TL];exact dO (by(repeat(first|exact trivial|refine⟨⟨rfl,rfl⟩,?_⟩))) (by(repeat(first|exact trivial|refine⟨⟨rfl,rfl⟩,?_⟩|refine⟨⟨rfl,BM _ _⟩,?_⟩))) (by(repeat(first|exact trivial|refine⟨rfl,?_⟩))) (by(repeat(first|exact trivial|refine⟨rfl,?_⟩)))
 ·have bd:j=al.length:=by have:=of_decide_eq_false D;omega
  rw[bd,List.take_length];have T8:∀n:Nat,1<=n->n<=N->(kH (jB N al))[n]?=some (z 1):=λ n n1 n2=>by
   have K:=MU (l:=jB N al) (i:=n) (by omega) (by rw[IB];omega);rw[ND N al n (by omega) (by omega),Bm n,if_pos (by omega)] at K
   simpa using K
  refine go ?_;refine bL (λ n:Nat=>1<=n/\n<=N+1) (λ n=>⟨[(14,z n),(9,.arr 300 0 (N+1) (N+1)),(4,.ptr 0 0),(5,.ptr 1 0)],[(300,kH (jB N al)),(1,[aV m]),(0,bs l)],[]⟩) (λ n=>N+1-n) 1 ⟨by omega,by omega⟩ (by show bF _ _ ⟨[(14,z 1),(9,.arr 300 0 (N+1) (N+1)),(4,.ptr 0 0),(5,.ptr 1 0)],[(300,kH (jB N al)),(1,[aV m]),(0,bs l)],[]⟩;exact dO (by(repeat(first|exact trivial|refine⟨⟨rfl,rfl⟩,?_⟩))) (by(repeat(first|exact trivial|refine⟨⟨rfl,rfl⟩,?_⟩|refine⟨⟨rfl,BM _ _⟩,?_⟩))) (by(repeat(first|exact trivial|refine⟨rfl,?_⟩))) (by(repeat(first|exact trivial|refine⟨rfl,?_⟩)))) ?_;rintro n ⟨fk,aac⟩;refine(show aJ _ _ _ _ ⟨[(14,z n),(9,.arr 300 0 (N+1) (N+1)),(4,.ptr 0 0),(5,.ptr 1 0)],[(300,kH (jB N al)),(1,[aV m]),(0,bs l)],[]⟩ from ?_);refine go ?_;refine cz (λ K=>?_) (λ K=>?_)<;>try rw[K]
  ·have cK:n<=N:=by have:=of_decide_eq_true K;omega
   refine go ?_;refine aj n 1 ?_;refine bf (kI aw rfl rfl rfl rfl rfl (T8 n fk cK)) rfl rfl rfl ?_;refine go ?_;rw[show decide ((1:Int)=1)=true from rfl];refine go ?_;exact⟨n+1,⟨by omega,by omega⟩,by omega,dO (by(repeat(first|exact trivial|refine⟨⟨rfl,rfl⟩,?_⟩))) (by(repeat(first|exact trivial|refine⟨⟨rfl,rfl⟩,?_⟩|refine⟨⟨rfl,BM _ _⟩,?_⟩))) (by(repeat(first|exact trivial|refine⟨rfl,?_⟩))) (by(repeat(first|exact trivial|refine⟨rfl,?_⟩)))⟩
  ·refine gf ?_
   rfl
theorem Ro{l:ab}(h:CL l):OL l:=by obtain⟨c,hC,rfl⟩:=h.ok;have:=hC.n;have:=hC.m;have:=hC.ch;exact⟨Ih hC,Ig hC,(uC hC.b).1,⟨by show 0<=c.nodes;omega,by show c.nodes<=1000;omega⟩,hC.m,hC.st,hC.ch⟩
def uG(l:ab)(k:Int):Int:=if k=1 then l.maps else if k=2 then l.bo else if k=3 then l.aL else 0
theorem MZ{l:ab}(u:0<=l.maps/\l.maps<=8)(D:0<=l.bo/\l.bo<=8)(K:0<=l.aL/\l.aL<=8)(k:Int):0<=uG l k/\uG l k<=8:=by
 unfold uG
 repeat' split
 all_goals omega
theorem kindlt{l:ab}{k i:Int}(hi:0<=i)(h:i<uG l k):(k=1/\0<=i/\i<l.maps)\/(k=2/\0<=i/\i<l.bo)\/(k=3/\0<=i/\i<l.aL):=by
 unfold uG at h;split at h
 ·exact .inl ⟨by omega,hi,h⟩
 ·split at h
  ·exact .inr (.inl ⟨by omega,hi,h⟩)
  ·split at h
   ·exact .inr (.inr ⟨by omega,hi,h⟩)
   ·omega
theorem Vk{l:ab}{a b c:Int}(e6:a=l.maps)(e7:b=l.bo)(e8:c=l.aL){k:Nat}(u:1<=k)(K:k<=3):∀(m:Nat)(q:Pl),[pI (uG l k)][m]?=some q->[pI 0,pI a,pI b,pI c][(k:Int).toNat*1+m]?=some q:=by
 subst e6 e7 e8;intro m q h;rcases m with _|m
 ·have:k=1\/k=2\/k=3:=by omega
  rcases this with rfl|rfl|rfl<;>exact h
 ·cases h
set_option maxHeartbeats 16000000 in
theorem new_w(c:kO):aW prog 7 [tZ c] (dB true):=by
 have ig:=IU c;unfold zl at ig;cases L:sy c with
 |false=>
  rw[L] at ig;refine sP func7 ntmps7 λ w cl=>?_
  refine gA CF ?_;refine cA ig ?_;refine gf ?_
  rfl
 |true=>
  rw[L,if_pos rfl] at ig;have hC:=AN L;have M:CL (cO c):=⟨c,hC,rfl⟩;obtain⟨gT,iN,f3,i7,kR,mF,f7,mG,mH,mA,mB,mC,mD,mE,lq,lT⟩:=M.facts;have hO:=Ro M;have e1:c.nodes=(cO c).nodes:=rfl;have e6:c.maps=(cO c).maps:=rfl;have e7:c.bo=(cO c).bo:=rfl;have e8:c.aL=(cO c).aL:=rfl
  by_cases k1:c.nodes>60
  ·refine sP func7 ntmps7 λ w cl=>?_
   refine gA CF ?_;refine cA ig ?_;refine go ?_;rw[decide_eq_true k1];refine gf ?_
   rfl
  ·have bT:4<=(cO c).size/\(cO c).size<=90000:=by
    have pX:0<=(cO c).maps*((cO c).buckets+2):=Int.mul_nonneg (by omega) (by omega);have yP:0<=(cO c).bo*((cO c).bm+1):=Int.mul_nonneg (by omega) (by omega);omega
   obtain⟨N,hN⟩:∃N:Nat,(N:Int)=(cO c).size:=⟨(cO c).size.toNat,by omega⟩;have hI:=IP (cO c) hO.ok hO.m hO.b hO.maps hO.aL;have hM:=NA N (by omega);rw[hN] at hM;have hA:=VY (List.replicate N 0) (eX (cO c)) (by rw[List.length_replicate];omega) (by rw[List.length_replicate];omega) (NY _ hO);obtain⟨lg,R⟩:=(EJ M).2;rw[show(cO c).size.toNat=N by omega] at R;rw[R] at hA;dsimp only at hA ig;have l6:xL (eT (cO c)):=WB M;have ie:=IT (cO c) hO _ l6;have UT:=Za (cO c) hO.ok hO.n (eT (cO c)) (mR (cO c) (eT (cO c))) (WD M);have wg:=Wt M;have wd:=λ(kind i:Int)(h:(kind=1/\0<=i/\i<(cO c).maps)\/(kind=2/\0<=i/\i<(cO c).bo)\/(kind=3/\0<=i/\i<(cO c).aL))=>(Wq M h)▸Cg (cO c) hO _ l6 kind i
   have wb:=λ(kind:Int)=>AT (kind,[],[]) (kind,[],[]) (by simp) (by simp)
   simp only[decide_true] at wb;generalize eT (cO c)=m at*;generalize mR (cO c) m=ns at*;generalize eX (cO c)=aax at*;generalize nM:cO c=l at*;have T:m[l.era.toNat]?=some 1:=by
    rw[lq] at wg⊢;unfold aG fe at wg;rw[if_neg (by omega),List.getD_eq_getElem?_getD] at wg;cases hh:m[(2:Int).toNat]? with
    |none=>rw[hh] at wg;simp at wg
    |some x=>rw[hh] at wg;exact congrArg some wg
   have H7:l.era.toNat<m.length:=(List.getElem?_eq_some_iff.1 T).1;refine sP func7 ntmps7 λ w cl=>?_
   refine gA CF ?_;refine cA ig ?_;refine go ?_;rw[decide_eq_false k1];refine go ?_;refine dQ [] ?_;refine gQ hM ?_;refine cQ hI ?_;refine gQ hA ?_;refine go ?_;refine(show CK false _ _ from ?_);refine go ?_;refine bL (λ k:Nat=>1<=k/\k<=4) (λ k=>⟨[(9,z k),(6,.ptr 3 0),(4,.ptr 1 0),(3,dB true),(1,.ptr 0 0)],[(3,[aV m]),(1,bs l),(0,pJ c)],[]⟩) (λ k=>4-k) 1 ⟨by omega,by omega⟩ (zX) ?_;rintro k ⟨nL,DP⟩;refine(show aJ _ _ _ _ ⟨[(9,z k),(6,.ptr 3 0),(4,.ptr 1 0),(3,dB true),(1,.ptr 0 0)],[(3,[aV m]),(1,bs l),(0,pJ c)],[]⟩ from ?_);refine go ?_;refine cz (λ D=>?_) (λ D=>?_)<;>try rw[D]
   ·have bd:k<=3:=by have:=of_decide_eq_true D;omega
    refine go ?_;have dv:=MZ iN f3 i7 k;refine bL (λ i:Nat=>(i:Int)<=uG l k) (λ i=>⟨[(10,z i),(9,z k),(6,.ptr 3 0),(4,.ptr 1 0),(3,dB true),(1,.ptr 0 0)],[(3,[aV m]),(1,bs l),(0,pJ c)],[]⟩) (λ i=>(uG l k).toNat-i) 0 (by have:=MZ iN f3 i7 k;omega) (by show bF _ _ ⟨[(10,z 0),(9,z k),(6,.ptr 3 0),(4,.ptr 1 0),(3,dB true),(1,.ptr 0 0)],[(3,[aV m]),(1,bs l),(0,pJ c)],[]⟩;exact zX) ?_;intro i Z;refine(show aJ _ _ _ _ ⟨[(10,z i),(9,z k),(6,.ptr 3 0),(4,.ptr 1 0),(3,dB true),(1,.ptr 0 0)],[(3,[aV m]),(1,bs l),(0,pJ c)],[]⟩ from ?_);refine go ?_;refine ai [pI (uG l k)] (Vk e6 e7 e8 nL bd) ?_;refine go ?_;refine cz (λ h4=>?_) (λ h4=>?_)<;>try rw[h4]
    ·have jM:=of_decide_eq_true h4;have TQ:=wd k i (kindlt (by omega) jM)
     refine gA TQ ?_;refine cA (wb k) ?_;refine go ?_;exact⟨i+1,by omega,by omega,zX⟩
    ·refine go ?_;exact⟨k+1,⟨by omega,by omega⟩,by omega,zX⟩
   ·refine go ?_;refine gD [] ?_;refine ri [pI 1] (gK T) ?_;refine gQ ie ?_;refine cQ UT ?_;refine ba ?_;refine gf ?_
    rfl
end Go.Proofs.YtcnefjfboagbmaaGreat
