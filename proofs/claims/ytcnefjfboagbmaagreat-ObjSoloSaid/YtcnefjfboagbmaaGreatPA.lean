/- Plain words, layouts, memories and programs of accesses: what they are. -/
namespace Go.Proofs.YtcnefjfboagbmaaGreat
set_option maxRecDepth 100000
structure vu where
 idx:Int
 mark:Bool
 mG:Int
deriving DecidableEq
def ay(n:Int):vu:=⟨n%65536,decide (n/65536%2=1),n/131072%268435456⟩
def co(r:vu)(i:Int):vu:=⟨i%65536,false,(r.mG+1)%268435456⟩
def cf(r:vu):Int:=r.idx%65536+65536*(if r.mark then 1 else 0)+131072*(r.mG%268435456)
theorem lj(n:Int):0<=(ay n).idx/\(ay n).idx<65536:=⟨Int.emod_nonneg _ (by omega),Int.emod_lt_of_pos _ (by omega)⟩
theorem sE(n:Int):0<=(ay n).mG/\(ay n).mG<268435456:=⟨Int.emod_nonneg _ (by omega),Int.emod_lt_of_pos _ (by omega)⟩
structure ag where
 az:Int
 nodes:Int
 buckets:Int
 bP:Int
 tasks:Int
 cells:Int
 maps:Int
 cZ:Int
 bo:Int
 done:Int
 count:Int
 era:Int
 free:Int
 alive:Int
 owner:Int
 kV:Int
 rU:Int
 ring:Int
 task:Int
 cell:Int
 map:Int
 stack:Int
 chan:Int
 node:Int
 size:Int
deriving DecidableEq
def lH(n:Int):Prop:=0<=n/\n<=1000000
structure ca(l:ag):Prop where
 az:lH l.az
 nodes:lH l.nodes
 bP:0<=l.bP/\l.bP<=8
 cZ:lH l.cZ
 bo:lH l.bo
 era:lH l.era
 free:lH l.free
 kV:lH l.kV
 map:lH l.map
 stack:lH l.stack
 chan:lH l.chan
 node:lH l.node
 size:lH l.size
def kZ(first o7 qS row i:Int):Int:=if row<0\/o7<=row\/i<0\/qS<=i then-1 else first+row*qS+i
def aE(l:ag)(n i:Int):Int:=if n<1 then-1 else kZ l.node l.nodes 8 (n-1) i
def cg(l:ag)(s i:Int):Int:=kZ l.kV l.az 3 s i
def jK(l:ag)(s:Int):Int:=kZ l.stack l.cZ (1+l.bP) s 0
def Et(l:ag)(s i:Int):Int:=if i<0\/l.bP<=i then-1 else kZ l.stack l.cZ (1+l.bP) s (1+i)
def jw(l:ag)(c:Int):Int:=kZ l.chan l.bo 2 c 0
def nL(l:ag)(c:Int):Int:=kZ l.chan l.bo 2 c 1
def ZW(s n ma st ch:Int):ag:=⟨s,n,1,1,1,0,ma,st,ch,0,1,2,3,4,4+s,4+2*s,4+5*s,4+8*s,4+12*s,8+12*s,8+12*s,8+12*s+3*ma,8+12*s+3*ma+2*st,8+12*s+3*ma+2*st+2*ch,8+12*s+3*ma+2*st+2*ch+8*n⟩
structure aey(s n ma st ch:Int):Prop where
 hs:1<=s/\s<=8
 Dg:0<=ma/\ma<=8
 dg:0<=st/\st<=8
 tx:0<=ch/\ch<=8
 hn:ma+ch<=n/\n<=1000
structure aT where
 kind:Int
 cell:Int
 fz:Int
 new:Int
deriving DecidableEq
structure aD where
 val:Int
 ok:Bool
deriving DecidableEq
def eN:aT:=⟨0,0,0,0⟩
def lm(n:Int):Int:=if n%18446744073709551616<9223372036854775808 then n%18446744073709551616 else n%18446744073709551616-18446744073709551616
theorem Tu{n:Int}(h1:-9223372036854775808<=n)(A:n<=9223372036854775807):lm n=n:=by unfold lm;split<;>omega
def vk(a:aT):Bool:=decide (0<=a.cell)&&(if a.kind=1 then decide (a.new=0)&&decide (a.fz=0) else if a.kind=2\/a.kind=4\/a.kind=5 then decide (a.fz=0) else decide (a.kind=3))
def lM(n:Int)(a:aT):Int:=if vk a then(if n<=a.cell then 12 else 0) else 1
def ef(xs:List Int)(i:Int):Int:=xs.getD i.toNat 0
def gE(xs:List Int)(a:aT):List Int×aD:=
 if a.kind=3 then(if ef xs a.cell=a.fz then(xs.set a.cell.toNat a.new,⟨ef xs a.cell,true⟩) else(xs,⟨ef xs a.cell,false⟩))
 else if a.kind=2\/a.kind=5 then(xs.set a.cell.toNat a.new,⟨ef xs a.cell,true⟩)
 else if a.kind=4 then(xs.set a.cell.toNat (lm (ef xs a.cell+a.new)),⟨ef xs a.cell,true⟩)
 else(xs,⟨ef xs a.cell,true⟩)
def Bb(xs:List Int)(a:aT):List Int×aD×Int:=if lM xs.length a=0 then((gE xs a).1,(gE xs a).2,0) else(xs,⟨0,false⟩,lM xs.length a)
def bv(xs:List Int)(i:Int):Int:=if i<0\/(xs.length:Int)<=i then 0 else ef xs i
def pk(BK:List Int):List Int->List aD->List aT->List Int×List aD×Int
 |cur,mz,[]=>(cur,mz,0)
 |cur,mz,a::more=>if lM cur.length a=0 then pk BK (gE cur a).1 (mz++[(gE cur a).2]) more else(BK,[],lM cur.length a)
theorem wJ:∀(N:Nat)(l:List Int),l.Nodup->(∀x∈l,1<=x/\x<=(N:Int))->l.length<=N
 |0,l,_,h=>by
  cases l with
  |nil=>simp
  |cons x l=>have:=h x (by simp);omega
 |N+1,l,F,h=>by
  by_cases hm:((N+1:Nat):Int)∈l
  ·have h1:=wJ N (l.erase ((N+1:Nat):Int)) (F.erase _) (λ x O=>by
    rw[F.mem_erase_iff] at O;have:=h x O.2;have:=O.1;omega)
   rw[List.length_erase_of_mem hm] at h1;omega
  ·have h1:=wJ N l F (λ x O=>by
    have:=h x O;have:x≠((N+1:Nat):Int):=λ e=>hm (e▸O)
    omega)
   omega
def ko(nx:Int->Int)(N:Int):Nat->List Int->Int->List Int
 |0,acc,_=>acc
 |k+1,acc,n=>if 1<=n/\n<=N/\n∉acc then ko nx N k (acc++[n]) (nx n) else acc
def uY(l:ag)(m:List Int):List Int:=ko (λ n=>bv m (aE l n 7)) l.nodes (l.nodes.toNat+1) [] (ay (bv m l.free)).idx
structure ah where
 made:Nat
 gone:List (Int×Int)
 e0:Int
 e1:Int
 e2:Int
deriving DecidableEq
def ah.e(s:ah)(i:Int):Int:=if i=0 then s.e0 else if i=1 then s.e1 else s.e2
def ah.gp(s:ah)(i v:Int):ah:=if i=0 then{s with e0:=v} else if i=1 then{s with e1:=v} else{s with e2:=v}
structure bf where
 val:Int
 is:Bool
 err:Int
 bS:Int
 gone:List (Int×Int)
deriving DecidableEq
structure bt where
 kind:Int
 obj:Int
 a:Int
 b:Int
deriving DecidableEq
def j8:bf:=⟨0,false,0,0,[]⟩
abbrev Pm(ar:Type):=List aD->ah->Except aT (ar×ah)
def fk(a:aT):Pm aD:=λ log s=>match log[s.made]? with
 |some r=>.ok (r,{s with made:=s.made+1})
 |none=>.error a
def Pm.bind{ar dh:Type}(m:Pm ar)(f:ar->Pm dh):Pm dh:=λ log s=>match m log s with
 |.ok (x,M)=>f x log M
 |.error a=>.error a
def Pm.pure{ar:Type}(x:ar):Pm ar:=λ _ s=>.ok (x,s)
theorem aw{ar dh:Type}{m:Pm ar}{f:ar->Pm dh}{log:List aD}{s M:ah}{x:ar}(h:m log s=.ok (x,M)):m.bind f log s=f x log M:=by unfold Pm.bind;rw[h]
theorem bl{ar dh:Type}{m:Pm ar}{f:ar->Pm dh}{log:List aD}{s:ah}{a:aT}(h:m log s=.error a):m.bind f log s=.error a:=by unfold Pm.bind;rw[h]
theorem bind_assoc{ar dh y9:Type}(m:Pm ar)(f:ar->Pm dh)(k:dh->Pm y9):(m.bind f).bind k=m.bind λ x=>(f x).bind k:=by
 funext log s
 unfold Pm.bind;cases m log s with
 |error a=>rfl
 |ok q=>rfl
def j4:Pm Int:=λ _ s=>.ok ((s.made:Int)-1,s)
theorem eT{log:List aD}{s:ah}:j4 log s=.ok ((s.made:Int)-1,s):=rfl
def cj(c:Int):Pm Int:=(fk ⟨1,c,0,0⟩).bind λ r=>.pure r.val
def eH(c v:Int):Pm Unit:=(fk ⟨2,c,0,v⟩).bind λ _=>.pure ()
def eZ(c o v:Int):Pm Bool:=(fk ⟨3,c,o,v⟩).bind λ r=>.pure r.ok
def nM(l:ag):Nat->Pm (Int×Int×Bool)
 |0=>.pure (0,0,false)
 |k+1=>(cj l.free).bind λ free=>
  if(ay free).idx=0 then j4.bind λ at_=>.pure (0,at_,false)
  else(cj (aE l (ay free).idx 7)).bind λ aaa=>(eZ l.free free (cf (co (ay free) aaa))).bind λ ok=>
   if ok then j4.bind λ at_=>(cj l.era).bind λ U7=>(eH (aE l (ay free).idx 6) U7).bind λ _=>.pure ((ay free).idx,at_,true)
   else nM l k
def pT(l:ag):Pm (Int×Int×Bool):=λ log s=>nM l (log.length+1-s.made) log s
def l9(l:ag)(n:Int):Nat->Pm Unit
 |0=>.pure ()
 |k+1=>(cj l.free).bind λ free=>(eH (aE l n 7) (ay free).idx).bind λ _=>(eZ l.free free (cf (co (ay free) n))).bind λ ok=>if ok then .pure () else l9 l n k
def mM(l:ag)(n:Int):Pm Unit:=λ log s=>l9 l n (log.length+1-s.made) log s
def kO(l:ag)(D i cell:Int):Nat->Pm (Int×Int)
 |0=>.pure (0,0)
 |k+1=>(cj cell).bind λ v=>j4.bind λ at_=>(cj l.era).bind λ era=>λ log s=>if era=s.e i then .ok ((v,at_),s) else(eH (cg l D i) era).bind (λ _ log s=>kO l D i cell k log (s.gp i era)) log s
def kP(l:ag)(D i cell:Int):Pm (Int×Int):=λ log s=>kO l D i cell (log.length+1-s.made) log s
def oC(i:Nat):Pm Unit:=λ _ s=>.ok ((),match i with|0=>{s with e0:=0}|1=>{s with e1:=0}|_=>{s with e2:=0})
def cX(l:ag)(D:Int)(i:Nat)(e:Int):Pm Unit:=if e=0 then .pure () else(eH (cg l D i) 0).bind λ _=>oC i
def gG(l:ag)(D:Int)(i:Nat):List Int->Pm Unit
 |[]=>.pure ()
 |e::es=>(cX l D i e).bind λ _=>gG l D (i+1) es
def ge(l:ag)(D:Int):Pm Unit:=λ log s=>gG l D 0 [s.e0,s.e1,s.e2] log s
def gZ(WD to r:Int):Bool:=decide (WD<=r)&&decide (r<=to)
def nI(x:Int):Int:=if 1>x then 1 else x
def jE(l:ag)(j:Nat):Nat->List Int
 |0=>[]
 |m+1=>cg l j 0::cg l j 1::cg l j 2::jE l (j+1) m
def j5:List Int->List Int->Pm (List Int)
 |acc,[]=>.pure acc
 |acc,c::cs=>(cj c).bind λ v=>j5 (acc++[v]) cs
def fa(l:ag)(aM:List Int):List (Int×Int)->List (Int×Int)->Pm (List (Int×Int))
 |[],aY=>.pure aY
 |g::gs,aY=>(cj (aE l g.1 6)).bind λ b=>if aM.any (gZ (nI b) g.2) then fa l aM gs (aY++[g]) else(mM l g.1).bind λ _=>fa l aM gs aY
def ji(g:List (Int×Int)):Pm Unit:=λ _ s=>.ok ((),{s with gone:=g})
def pR(l:ag)(gone:List (Int×Int)):Pm Unit:=(j5 [] (jE l 0 l.az.toNat)).bind λ aM=>(fa l aM gone []).bind λ aY=>ji aY
def jF(l:ag)(n:Int):Pm Unit:=(cj l.era).bind λ era=>(fk ⟨4,l.era,0,1⟩).bind λ _=>λ log s=>
 if((s.gone.length:Int)+1)<2*l.az then .ok ((),{s with gone:=s.gone++[(n,era)]})
 else pR l (s.gone++[(n,era)]) log {s with gone:=s.gone++[(n,era)]}
def lB(m:Except aT (bf×ah)):aT×bf×Bool:=match m with
 |.ok (x,M)=>(eN,{x with gone:=M.gone},true)
 |.error a=>(a,j8,false)
theorem VM{ar:Type}{a:aT}{f:aD->Pm ar}{log:List aD}{s:ah}(h:log.drop s.made=[]):(fk a).bind f log s=.error a:=by
 have:log[s.made]?=none:=by rw[List.drop_eq_nil_iff] at h;exact List.getElem?_eq_none h
 unfold Pm.bind fk;rw[this]
theorem NR{log rest:List aD}{n:Nat}{r:aD}(h:log.drop n=r::rest):log[n]?=some r/\log.drop (n+1)=rest/\n<log.length:=by
 have ba:n<log.length:=by
  rcases Nat.lt_or_ge n log.length with h1|h1
  ·exact h1
  ·rw[List.drop_eq_nil_of_le h1] at h;cases h
 rw[List.drop_eq_getElem_cons ba] at h;injection h with h1 A
 exact⟨by rw[List.getElem?_eq_getElem ba,h1],A,ba⟩
theorem VL{ar:Type}{a:aT}{f:aD->Pm ar}{log rest:List aD}{s:ah}{r:aD}(h:log.drop s.made=r::rest):(fk a).bind f log s=f r log {s with made:=s.made+1}:=by have:=(NR h).1;unfold Pm.bind fk;rw[this]
theorem pO{ar:Type}(c:Int)(f:Int->Pm ar):(cj c).bind f=(fk ⟨1,c,0,0⟩).bind λ r=>f r.val:=by unfold cj;rw[bind_assoc];rfl
theorem sN{ar:Type}(c v:Int)(f:Unit->Pm ar):(eH c v).bind f=(fk ⟨2,c,0,v⟩).bind λ _=>f ():=by unfold eH;rw[bind_assoc];rfl
theorem vO{ar:Type}(c o v:Int)(f:Bool->Pm ar):(eZ c o v).bind f=(fk ⟨3,c,o,v⟩).bind λ r=>f r.ok:=by unfold eZ;rw[bind_assoc];rfl
structure Ws where
 ob:Int->Int
 nd:Int->Int->Int
structure Vw where
 er:Int
 fr:Int
 rv:Int->Int->Int
 bi:Int->Int
 lk:Int->Int
 W:Ws
inductive Ad where
 |era|free|ob (c:Int)|rv (w i:Int)|nd (n i:Int)|bi (n:Int)|lk (n:Int)
deriving DecidableEq
def Ad.cell(l:ag):Ad->Int
 |.era=>l.era
 |.free=>l.free
 |.ob c=>c
 |.rv w i=>cg l w i
 |.nd n i=>aE l n i
 |.bi n=>aE l n 6
 |.lk n=>aE l n 7
def Ad.ok(l:ag)(S N:Nat):Ad->Prop
 |.era=>True
 |.free=>True
 |.ob c=>4+5*(S:Int)<=c/\c<l.node
 |.rv w i=>0<=w/\w<S/\0<=i/\i<=2
 |.nd n i=>1<=n/\n<=N/\0<=i/\i<=5
 |.bi n=>1<=n/\n<=N
 |.lk n=>1<=n/\n<=N
def Ad.str(l:ag)(S N:Nat):Ad->Prop
 |.ob c=>4+5*(S:Int)<=c/\c<l.node
 |.nd n i=>1<=n/\n<=N/\0<=i/\i<=5
 |_=>False
def Ws.L1(W:Ws)(c v:Int):Ws:={W with ob:=λ bw=>if bw=c then v else W.ob bw}
def Ws.BD(W:Ws)(n i v:Int):Ws:={W with nd:=λ cU DE=>if cU=n/\DE=i then v else W.nd cU DE}
def Ws.get(W:Ws):Ad->Int
 |.ob c=>W.ob c
 |.nd n i=>W.nd n i
 |_=>0
def Ws.put(W:Ws)(a:Ad)(v:Int):Ws:=match a with
 |.ob c=>W.L1 c v
 |.nd n i=>W.BD n i v
 |_=>W
def Vw.get(V:Vw):Ad->Int
 |.era=>V.er
 |.free=>V.fr
 |.ob c=>V.W.ob c
 |.rv w i=>V.rv w i
 |.nd n i=>V.W.nd n i
 |.bi n=>V.bi n
 |.lk n=>V.lk n
def Vw.put(V:Vw)(a:Ad)(v:Int):Vw:=match a with
 |.era=>{V with er:=v}
 |.free=>{V with fr:=v}
 |.ob c=>{V with W:=V.W.L1 c v}
 |.rv w i=>{V with rv:=λ aI DE=>if aI=w/\DE=i then v else V.rv aI DE}
 |.nd n i=>{V with W:=V.W.BD n i v}
 |.bi n=>{V with bi:=λ cU=>if cU=n then v else V.bi cU}
 |.lk n=>{V with lk:=λ cU=>if cU=n then v else V.lk cU}
theorem Vw.WF(V:Vw)(a b:Ad)(v:Int):(V.put a v).get b=if b=a then v else V.get b:=by cases a<;>cases b<;>simp[Vw.get,Vw.put,Ws.L1,Ws.BD]
structure oH(l:ag)(S N:Nat):Prop where
 az:l.az=S
 nodes:l.nodes=N
 era:l.era=2
 free:l.free=3
 kV:∀w i:Int,0<=w->w<S->0<=i->i<=2->cg l w i=4+2*(S:Int)+3*w+i
 node:∀n i:Int,1<=n->n<=N->0<=i->i<=7->aE l n i=l.node+8*(n-1)+i
 low:4+5*(S:Int)<=l.node
 size:l.size=l.node+8*(N:Int)
 s1:1<=S
theorem y7{f k e r i:Int}(h1:0<=r)(A:r<k)(K:0<=i)(h4:i<e):kZ f k e r i=f+r*e+i:=by unfold kZ;rw[if_neg (by omega)]
theorem Ad.Cj{l:ag}{S N:Nat}(Z:oH l S N){a:Ad}(h:a.ok l S N):0<=a.cell l/\a.cell l<l.size:=by
 have h1:=Z.size;have A:=Z.low;have K:=Z.s1;cases a with
 |era=>simp only[Ad.cell,Z.era];omega
 |free=>simp only[Ad.cell,Z.free];omega
 |ob c=>simp only[Ad.cell,Ad.ok] at h⊢;omega
 |rv w i=>obtain⟨a1,a2,a3,a4⟩:=h;simp only[Ad.cell,Z.kV w i a1 a2 a3 a4];omega
 |nd n i=>obtain⟨a1,a2,a3,a4⟩:=h;simp only[Ad.cell,Z.node n i a1 a2 a3 (by omega)];omega
 |bi n=>obtain⟨a1,a2⟩:=h;simp only[Ad.cell,Z.node n 6 a1 a2 (by omega) (by omega)];omega
 |lk n=>obtain⟨a1,a2⟩:=h;simp only[Ad.cell,Z.node n 7 a1 a2 (by omega) (by omega)];omega
def Ad.dec(l:ag)(S:Nat)(c:Int):Ad:=
 if c=2 then .era else if c=3 then .free else if c<4+5*(S:Int) then .rv ((c-(4+2*(S:Int)))/3) ((c-(4+2*(S:Int)))%3) else if c<l.node then .ob c
 else if(c-l.node)%8=6 then .bi ((c-l.node)/8+1) else if(c-l.node)%8=7 then .lk ((c-l.node)/8+1) else .nd ((c-l.node)/8+1) ((c-l.node)%8)
theorem Ad.NK{l:ag}{S N:Nat}(Z:oH l S N){a:Ad}(ha:a.ok l S N):Ad.dec l S (a.cell l)=a:=by
 have A:=Z.low;have h5:=Z.s1;cases a with
 |era=>rw[show Ad.cell l .era=2 from Z.era];rfl
 |free=>rw[show Ad.cell l .free=3 from Z.free];rfl
 |ob c=>simp only[Ad.ok] at ha;rw[show Ad.cell l (.ob c)=c from rfl];unfold Ad.dec;rw[if_neg (by omega),if_neg (by omega),if_neg (by omega),if_pos (by omega)]
 |rv w i=>obtain⟨a1,a2,a3,a4⟩:=ha;rw[show Ad.cell l (.rv w i)=_ from Z.kV w i a1 a2 a3 a4];unfold Ad.dec;rw[if_neg (by omega),if_neg (by omega),if_pos (by omega),show(4+2*(S:Int)+3*w+i-(4+2*(S:Int)))/3=w by omega,show(4+2*(S:Int)+3*w+i-(4+2*(S:Int)))%3=i by omega]
 |nd n i=>obtain⟨a1,a2,a3,a4⟩:=ha;rw[show Ad.cell l (.nd n i)=_ from Z.node n i a1 a2 a3 (by omega)];unfold Ad.dec;rw[if_neg (by omega),if_neg (by omega),if_neg (by omega),if_neg (by omega),if_neg (by omega),if_neg (by omega),show(l.node+8*(n-1)+i-l.node)/8+1=n by omega,show(l.node+8*(n-1)+i-l.node)%8=i by omega]
 |bi n=>obtain⟨a1,a2⟩:=ha;rw[show Ad.cell l (.bi n)=_ from Z.node n 6 a1 a2 (by omega) (by omega)];unfold Ad.dec;rw[if_neg (by omega),if_neg (by omega),if_neg (by omega),if_neg (by omega),if_pos (by omega),show(l.node+8*(n-1)+6-l.node)/8+1=n by omega]
 |lk n=>obtain⟨a1,a2⟩:=ha;rw[show Ad.cell l (.lk n)=_ from Z.node n 7 a1 a2 (by omega) (by omega)];unfold Ad.dec;rw[if_neg (by omega),if_neg (by omega),if_neg (by omega),if_neg (by omega),if_neg (by omega),if_pos (by omega),show(l.node+8*(n-1)+7-l.node)/8+1=n by omega]
theorem Ad.Vf{l:ag}{S N:Nat}(Z:oH l S N){a b:Ad}(ha:a.ok l S N)(T:b.ok l S N)(h:a.cell l=b.cell l):a=b:=by rw[<-Ad.NK Z ha,<-Ad.NK Z T,h]
structure lq(l:ag)(S N:Nat)(m:List Int)(V:Vw):Prop where
 len:m.length=l.size.toNat
 at_:∀a:Ad,a.ok l S N->ef m (a.cell l)=V.get a
theorem Ve{m:List Int}{c d v:Int}(h0:0<=c)(h1:c<m.length)(F:0<=d):ef (m.set c.toNat v) d=if d=c then v else ef m d:=by
 unfold ef;have L:c.toNat<m.length:=by omega
 by_cases h:d=c
 ·subst h;rw[if_pos rfl,List.getD_eq_getElem?_getD,List.getElem?_set_self L];rfl
 ·rw[if_neg h,List.getD_eq_getElem?_getD,List.getD_eq_getElem?_getD,List.getElem?_set_ne (by omega)]
theorem lq.put{l:ag}{S N:Nat}{m:List Int}{V:Vw}(Z:oH l S N)(hV:lq l S N m V){a:Ad}(ha:a.ok l S N)(v:Int):lq l S N (m.set (a.cell l).toNat v) (V.put a v):=by
 have dz:=Ad.Cj Z ha;have ci:=hV.len;refine⟨by rw[List.length_set];exact ci,λ b T=>?_⟩;have Yi:=Ad.Cj Z T;rw[Ve dz.1 (by omega) Yi.1,Vw.WF]
 by_cases h:b=a
 ·rw[if_pos (by rw[h]),if_pos h]
 ·rw[if_neg (λ e=>h (Ad.Vf Z T ha e)),if_neg h];exact hV.at_ b T
inductive Ak where
 |ld (a:Ad)|st (a:Ad) (v:Int)|cs (a:Ad) (o v:Int)|up
def Ak.acc(l:ag):Ak->aT
 |.ld a=>⟨1,a.cell l,0,0⟩
 |.st a v=>⟨2,a.cell l,0,v⟩
 |.cs a o v=>⟨3,a.cell l,o,v⟩
 |.up=>⟨4,l.era,0,1⟩
def Ak.ad:Ak->Ad
 |.ld a=>a
 |.st a _=>a
 |.cs a _ _=>a
 |.up=>.era
def act(V:Vw):Ak->Vw×aD
 |.ld a=>(V,⟨V.get a,true⟩)
 |.st a v=>(V.put a v,⟨V.get a,true⟩)
 |.cs a o v=>if V.get a=o then(V.put a v,⟨V.get a,true⟩) else(V,⟨V.get a,false⟩)
 |.up=>({V with er:=V.er+1},⟨V.er,true⟩)
theorem Tm(m:List Int)(c:Int):gE m ⟨1,c,0,0⟩=(m,⟨ef m c,true⟩):=by simp[gE]
theorem To(m:List Int)(c v:Int):gE m ⟨2,c,0,v⟩=(m.set c.toNat v,⟨ef m c,true⟩):=by simp[gE]
theorem Mv(m:List Int)(c o v:Int):gE m ⟨3,c,o,v⟩=if ef m c=o then(m.set c.toNat v,⟨ef m c,true⟩) else(m,⟨ef m c,false⟩):=by simp[gE]
theorem Tl(m:List Int)(c:Int):gE m ⟨4,c,0,1⟩=(m.set c.toNat (lm (ef m c+1)),⟨ef m c,true⟩):=by simp[gE]
theorem CC{n:Int}{a:aT}(h0:0<=a.cell)(h1:a.cell<n)(I:(a.kind=1/\a.new=0/\a.fz=0)\/(a.kind=2/\a.fz=0)\/a.kind=3\/(a.kind=4/\a.fz=0)):lM n a=0:=by
 have hr:vk a=true:=by
  unfold vk;rcases I with⟨k1,k2,k3⟩|⟨k1,k2⟩|k1|⟨k1,k2⟩
  ·simp[k1,k2,k3,h0]
  ·simp[k1,k2,h0]
  ·simp[k1,h0]
  ·simp[k1,k2,h0]
 unfold lM;rw[if_pos hr,if_neg (by omega)]
structure TL(l:ag)(S N:Nat)(m:List Int)(a:aT)(V:Vw)(r:aD):Prop where
 fault:lM m.length a=0
 view:lq l S N (gE m a).1 V
 res:(gE m a).2=r
theorem Uk{l:ag}{S N:Nat}{m:List Int}{V:Vw}(Z:oH l S N)(hV:lq l S N m V)(he:0<=V.er/\V.er<=1000000){a:Ak}(ha:a.ad.ok l S N):TL l S N m (a.acc l) (act V a).1 (act V a).2:=by
 have dz:=Ad.Cj Z ha;have ci:=hV.len;have hi:=hV.at_ _ ha;cases a with
 |ld a=>
  refine⟨CC dz.1 (by simp only[Ak.acc,Ak.ad] at dz⊢;omega) (.inl ⟨rfl,rfl,rfl⟩),?_,?_⟩
  ·simp only[Ak.acc];rw[Tm];exact hV
  ·simp only[Ak.acc];rw[Tm];simp only[Ak.ad] at hi;rw[hi];rfl
 |st a v=>
  refine⟨CC dz.1 (by simp only[Ak.acc,Ak.ad] at dz⊢;omega) (.inr (.inl ⟨rfl,rfl⟩)),?_,?_⟩
  ·simp only[Ak.acc];rw[To];exact hV.put Z ha v
  ·simp only[Ak.acc];rw[To];simp only[Ak.ad] at hi;rw[hi];rfl
 |cs a o v=>
  simp only[Ak.ad] at hi;refine⟨CC dz.1 (by simp only[Ak.acc,Ak.ad] at dz⊢;omega) (.inr (.inr (.inl rfl))),?_,?_⟩
  ·simp only[Ak.acc,act];rw[Mv,hi];split
   ·exact hV.put Z ha v
   ·exact hV
  ·simp only[Ak.acc,act];rw[Mv,hi];split<;>rfl
 |up=>
  have hi:ef m l.era=V.er:=hi;refine⟨CC dz.1 (by simp only[Ak.acc,Ak.ad,Ad.cell] at dz⊢;omega) (.inr (.inr (.inr ⟨rfl,rfl⟩))),?_,?_⟩
  ·simp only[Ak.acc,act];rw[Tl,hi,Tu (by omega) (by omega)];exact hV.put Z (a:=.era) trivial _
  ·simp only[Ak.acc,act];rw[Tl,hi]
inductive Pc(cF:Type) where
 |at_ (k:cF)
 |t1 (k:cF)|t2 (k:cF) (f:Int)|t3 (k:cF) (f lk:Int)|t4 (k:cF) (n a:Int)|t5 (k:cF) (n a b:Int)
 |g1 (k:cF) (i:Int) (c:Ad)|g2 (k:cF) (i:Int) (c:Ad) (v a:Int)|g3 (k:cF) (i:Int) (c:Ad) (er:Int)
 |iK (k:cF)|c (k:cF) (i:Int)
 |v1 (k:cF) (n:Int)|v2 (k:cF) (n f:Int)|v3 (k:cF) (n f:Int)
 |r1 (k:cF) (n:Int)|r2 (k:cF) (n er:Int)
 |rs (k:cF) (aM:List Int) (c:Ad) (cs:List Ad)
 |s1 (k:cF) (aM:List Int) (g:Int×Int) (gs aY:List (Int×Int))
 |w1 (k:cF) (aM:List Int) (g:Int×Int) (gs aY:List (Int×Int))
 |w2 (k:cF) (aM:List Int) (g:Int×Int) (gs aY:List (Int×Int)) (f:Int)
 |w3 (k:cF) (aM:List Int) (g:Int×Int) (gs aY:List (Int×Int)) (f:Int)
 |fin (o:bf)
structure rJ(cF:Type) where
 ask:cF->Ak
 tell:cF->Nat->aD->Pc cF
 Mu:cF->Int->Int->Pc cF
 full:cF->Int->Pc cF
 guarded:cF->Int->Int->Pc cF
 IC:cF->Pc cF
 I8:cF->Pc cF
 retired:cF->Pc cF
structure Q(cF:Type) where
 pc:Pc cF
 s:ah
variable{cF:Type}
def Io(av:rJ cF)(w:Int):Pc cF->Ak
 |.at_ k=>av.ask k
 |.t1 _=>.ld .free
 |.t2 _ f=>.ld (.lk (ay f).idx)
 |.t3 _ f lk=>.cs .free f (cf (co (ay f) lk))
 |.t4 _ _ _=>.ld .era
 |.t5 _ n _ b=>.st (.bi n) b
 |.g1 _ _ c=>.ld c
 |.g2 _ _ _ _ _=>.ld .era
 |.g3 _ i _ er=>.st (.rv w i) er
 |.iK _=>.ld .free
 |.c _ i=>.st (.rv w i) 0
 |.v1 _ _=>.ld .free
 |.v2 _ n f=>.st (.lk n) (ay f).idx
 |.v3 _ n f=>.cs .free f (cf (co (ay f) n))
 |.r1 _ _=>.ld .era
 |.r2 _ _ _=>.up
 |.rs _ _ c _=>.ld c
 |.s1 _ _ g _ _=>.ld (.bi g.1)
 |.w1 ..=>.ld .free
 |.w2 _ _ g _ _ f=>.st (.lk g.1) (ay f).idx
 |.w3 _ _ g _ _ f=>.cs .free f (cf (co (ay f) g.1))
 |.fin _=>.ld .free
def nq(av:rJ cF)(k:cF)(s:ah):Q cF:=if s.e0≠0 then⟨.c k 0,s⟩ else if s.e1≠0 then⟨.c k 1,s⟩ else if s.e2≠0 then⟨.c k 2,s⟩ else⟨av.IC k,s⟩
def fN(av:rJ cF)(pc:Pc cF)(s:ah):Q cF:=match pc with
 |.iK k=>nq av k s
 |pc=>⟨pc,s⟩
def vq(av:rJ cF)(k:cF)(aM:List Int)(s:ah):List (Int×Int)->List (Int×Int)->Q cF
 |[],aY=>fN av (av.retired k) {s with gone:=aY}
 |g::gs,aY=>⟨.s1 k aM g gs aY,s⟩
def yY(av:rJ cF)(k:cF)(aM:List Int)(s:ah):List Ad->Q cF
 |[]=>vq av k aM s s.gone []
 |c::cs=>⟨.rs k aM c cs,s⟩
def Ei(j:Nat):Nat->List Ad
 |0=>[]
 |m+1=>.rv j 0::.rv j 1::.rv j 2::Ei (j+1) m
def ah.up(s:ah):ah:={s with made:=s.made+1}
theorem Hf(x:ah)(i v:Int):(x.gp i v).made=x.made:=by
 unfold ah.gp;split
 ·rfl
 ·split<;>rfl
def tell(av:rJ cF)(S:Nat)(q:Q cF)(r:aD):Q cF:=match q.pc with
 |.at_ k=>fN av (av.tell k q.s.made r) q.s.up
 |.t1 k=>if(ay r.val).idx=0 then fN av (av.full k q.s.made) q.s.up else⟨.t2 k r.val,q.s.up⟩
 |.t2 k f=>⟨.t3 k f r.val,q.s.up⟩
 |.t3 k f _=>if r.ok then⟨.t4 k (ay f).idx q.s.made,q.s.up⟩ else⟨.t1 k,q.s.up⟩
 |.t4 k n a=>⟨.t5 k n a r.val,q.s.up⟩
 |.t5 k n a _=>fN av (av.Mu k n a) q.s.up
 |.g1 k i c=>⟨.g2 k i c r.val q.s.made,q.s.up⟩
 |.g2 k i c v a=>if r.val=q.s.e i then fN av (av.guarded k v a) q.s.up else⟨.g3 k i c r.val,q.s.up⟩
 |.g3 k i c er=>⟨.g1 k i c,q.s.up.gp i er⟩
 |.iK _=>q
 |.c k i=>nq av k (q.s.up.gp i 0)
 |.v1 k n=>⟨.v2 k n r.val,q.s.up⟩
 |.v2 k n f=>⟨.v3 k n f,q.s.up⟩
 |.v3 k n _=>if r.ok then fN av (av.I8 k) q.s.up else⟨.v1 k n,q.s.up⟩
 |.r1 k n=>⟨.r2 k n r.val,q.s.up⟩
 |.r2 k n er=>if(q.s.gone.length:Int)+1<2*(S:Int) then fN av (av.retired k) {q.s.up with gone:=q.s.gone++[(n,er)]} else yY av k [] {q.s.up with gone:=q.s.gone++[(n,er)]} (Ei 0 S)
 |.rs k aM _ cs=>yY av k (aM++[r.val]) q.s.up cs
 |.s1 k aM g gs aY=>if aM.any (gZ (nI r.val) g.2) then vq av k aM q.s.up gs (aY++[g]) else⟨.w1 k aM g gs aY,q.s.up⟩
 |.w1 k aM g gs aY=>⟨.w2 k aM g gs aY r.val,q.s.up⟩
 |.w2 k aM g gs aY f=>⟨.w3 k aM g gs aY f,q.s.up⟩
 |.w3 k aM g gs aY _=>if r.ok then vq av k aM q.s.up gs aY else⟨.w1 k aM g gs aY,q.s.up⟩
 |.fin _=>q
def sK(av:rJ cF)(S:Nat)(q:Q cF)(log:List aD):Q cF:=log.foldl (tell av S) q
def Fe(av:rJ cF)(l:ag)(w:Int)(q:Q cF):aT×bf×Bool:=match q.pc with
 |.fin o=>(eN,{o with gone:=q.s.gone},true)
 |pc=>((Io av w pc).acc l,j8,false)
def Pc.In:Pc cF->Prop
 |.fin _=>False
 |.iK _=>False
 |_=>True
section
variable{av:rJ cF}{l:ag}{S:Nat}{D:Int}
def di(av:rJ cF)(l:ag)(S:Nat)(D:Int)(q:Q cF)(x:Except aT (bf×ah))(rest:List aD):Prop:=lB x=Fe av l D (sK av S q rest)
theorem VN{q:Q cF}{a:aT}{f:aD->Pm bf}{log:List aD}{s:ah}(ha:(Io av D q.pc).acc l=a)(hf:q.pc.In)
 (h:∀r rest,log.drop s.made=r::rest->di av l S D (tell av S q r) (f r log s.up) rest):di av l S D q ((fk a).bind f log s) (log.drop s.made):=by
 cases F:log.drop s.made with
 |nil=>
  rw[VM F];show(a,j8,false)=Fe av l D q;unfold Fe;split
  ·rename_i o ho;rw[ho] at hf;exact absurd hf id
  ·rw[ha]
 |cons r rest=>rw[VL F];exact h r rest F
theorem Sw{o:bf}{s:ah}:∀rest:List aD,sK av S ⟨.fin o,s⟩ rest=⟨.fin o,s⟩
 |[]=>rfl
 |_::rest=>Sw rest
theorem NP{o:bf}{s:ah}{rest:List aD}:di av l S D ⟨.fin o,s⟩ (.ok (o,s)) rest:=by
 unfold di;rw[Sw]
 rfl
theorem ij{q:Q cF}{a:aT}{f:aD->Pm bf}{log:List aD}{s:ah}(ha:(Io av D q.pc).acc l=a)(hf:q.pc.In)
 (h:∀r,s.made<log.length->di av l S D (tell av S q r) (f r log s.up) (log.drop s.up.made)):di av l S D q ((fk a).bind f log s) (log.drop s.made):=by
 refine VN ha hf λ r rest F=>?_
 obtain⟨_,oS,XH⟩:=NR F;subst oS;exact h r XH
theorem Tg{k:cF}{f:Int×Int×Bool->Pm bf}{log:List aD}{M0:Nat}(hf:∀n a s,M0<=s.made->s.made<=log.length->di av l S D (fN av (av.Mu k n a) s) (f (n,a,true) log s) (log.drop s.made))(lc:∀a s,M0<=s.made->s.made<=log.length->di av l S D (fN av (av.full k a) s) (f (0,a,false) log s) (log.drop s.made)):
 ∀(j:Nat)(s:ah),M0<=s.made->log.length-s.made<j->di av l S D ⟨.t1 k,s⟩ ((nM l j).bind f log s) (log.drop s.made)
 |0,s,_,h=>by omega
 |j+1,s,hM,h=>by
  rw[nM,bind_assoc,pO];refine ij rfl trivial λ r h1=>?_
  show di av l S D (if(ay r.val).idx=0 then _ else _) _ _;split
  ·rw[bind_assoc,aw eT];have:=lc (s.made:Int) s.up (by simp only[ah.up];omega) (by simp only[ah.up];omega);show di av l S D _ (f (0,((s.made+1:Nat):Int)-1,false) log _) _;rw[show((s.made+1:Nat):Int)-1=(s.made:Int) by omega];exact this
  ·rw[bind_assoc,pO];refine ij (s:=s.up) rfl trivial λ r2 A=>?_
   rw[bind_assoc,vO];refine ij (q:=⟨.t3 k r.val r2.val,s.up.up⟩) (s:=s.up.up) rfl trivial λ r3 K=>?_
   show di av l S D (if r3.ok then _ else _) _ _;split
   ·rw[bind_assoc,aw eT,bind_assoc,pO];refine ij (s:=s.up.up.up) rfl trivial λ r4 h4=>?_
    rw[bind_assoc,sN];refine ij (q:=⟨.t5 k (ay r.val).idx s.up.up.made r4.val,s.up.up.up.up⟩) (s:=s.up.up.up.up) rfl trivial λ r5 h5=>?_
    have:=hf (ay r.val).idx (s.up.up.made:Int) s.up.up.up.up.up (by simp only[ah.up];omega) (by simp only[ah.up] at h5⊢;omega);show di av l S D _ (f ((ay r.val).idx,((s.up.up.up.made:Nat):Int)-1,true) log _) _;rw[show((s.up.up.up.made:Nat):Int)-1=(s.up.up.made:Int) by simp only[ah.up];omega];exact this
   ·exact Tg hf lc j s.up.up.up (by simp only[ah.up];omega) (by simp only[ah.up] at K⊢;omega)
theorem Ov{k:cF}{n:Int}{f:Unit->Pm bf}{log:List aD}{M0:Nat}(hf:∀s,M0<=s.made->s.made<=log.length->di av l S D (fN av (av.I8 k) s) (f () log s) (log.drop s.made)):
 ∀(j:Nat)(s:ah),M0<=s.made->log.length-s.made<j->di av l S D ⟨.v1 k n,s⟩ ((l9 l n j).bind f log s) (log.drop s.made)
 |0,s,_,h=>by omega
 |j+1,s,hM,h=>by
  rw[l9,bind_assoc,pO];refine ij rfl trivial λ r h1=>?_
  rw[bind_assoc,sN];refine ij (q:=⟨.v2 k n r.val,s.up⟩) (s:=s.up) rfl trivial λ r2 A=>?_
  rw[bind_assoc,vO];refine ij (q:=⟨.v3 k n r.val,s.up.up⟩) (s:=s.up.up) rfl trivial λ r3 K=>?_
  show di av l S D (if r3.ok then _ else _) _ _;split
  ·exact hf s.up.up.up (by simp only[ah.up];omega) (by simp only[ah.up] at K⊢;omega)
  ·exact Ov hf j s.up.up.up (by simp only[ah.up];omega) (by simp only[ah.up] at K⊢;omega)
theorem Tx{k:cF}{aM:List Int}{g:Int×Int}{gs aY:List (Int×Int)}{f:Unit->Pm bf}{log:List aD}{M0:Nat}(hf:∀s,M0<=s.made->s.made<=log.length->di av l S D (vq av k aM s gs aY) (f () log s) (log.drop s.made)):
 ∀(j:Nat)(s:ah),M0<=s.made->log.length-s.made<j->di av l S D ⟨.w1 k aM g gs aY,s⟩ ((l9 l g.1 j).bind f log s) (log.drop s.made)
 |0,s,_,h=>by omega
 |j+1,s,hM,h=>by
  rw[l9,bind_assoc,pO];refine ij rfl trivial λ r h1=>?_
  rw[bind_assoc,sN];refine ij (q:=⟨.w2 k aM g gs aY r.val,s.up⟩) (s:=s.up) rfl trivial λ r2 A=>?_
  rw[bind_assoc,vO];refine ij (q:=⟨.w3 k aM g gs aY r.val,s.up.up⟩) (s:=s.up.up) rfl trivial λ r3 K=>?_
  show di av l S D (if r3.ok then _ else _) _ _;split
  ·exact hf s.up.up.up (by simp only[ah.up];omega) (by simp only[ah.up] at K⊢;omega)
  ·exact Tx hf j s.up.up.up (by simp only[ah.up];omega) (by simp only[ah.up] at K⊢;omega)
theorem L4{k:cF}{aM:List Int}{f:Unit->Pm bf}{log:List aD}{M0:Nat}(hf:∀s,M0<=s.made->s.made<=log.length->di av l S D (fN av (av.retired k) s) (f () log s) (log.drop s.made)):
 ∀(gs aY:List (Int×Int))(s:ah),M0<=s.made->s.made<=log.length->di av l S D (vq av k aM s gs aY) ((fa l aM gs aY).bind (λ st=>(ji st).bind f) log s) (log.drop s.made)
 |[],aY,s,hM,hs=>by
  rw[fa];exact hf {s with gone:=aY} hM hs
 |g::gs,aY,s,hM,hs=>by
  rw[fa,bind_assoc,pO];refine ij (q:=⟨.s1 k aM g gs aY,s⟩) rfl trivial λ r h1=>?_
  show di av l S D (if aM.any (gZ (nI r.val) g.2) then _ else _) _ _;split
  ·exact L4 hf gs (aY++[g]) s.up (by simp only[ah.up];omega) (by simp only[ah.up];omega)
  ·rw[bind_assoc];exact Tx (λ s hM hs=>L4 hf gs aY s hM hs) (log.length+1-s.up.made) s.up (by simp only[ah.up];omega) (by simp only[ah.up];omega)
theorem So(l:ag):∀(m j:Nat),(Ei j m).map (Ad.cell l)=jE l j m
 |0,_=>rfl
 |m+1,j=>by simp only[Ei,jE,List.map_cons,So l m (j+1)];rfl
theorem SB{k:cF}{gone:List (Int×Int)}{f:Unit->Pm bf}{log:List aD}{M0:Nat}(hf:∀s,M0<=s.made->s.made<=log.length->di av l S D (fN av (av.retired k) s) (f () log s) (log.drop s.made)):
 ∀(cs:List Ad)(aM:List Int)(s:ah),s.gone=gone->M0<=s.made->s.made<=log.length->di av l S D (yY av k aM s cs) ((j5 aM (cs.map (Ad.cell l))).bind (λ aM=>(fa l aM gone []).bind (λ st=>(ji st).bind f)) log s) (log.drop s.made)
 |[],aM,s,hg,hM,hs=>by
  rw[List.map_nil,j5];subst hg;exact L4 hf s.gone [] s hM hs
 |c::cs,aM,s,hg,hM,hs=>by
  rw[List.map_cons,j5,bind_assoc,pO];refine ij (q:=⟨.rs k aM c cs,s⟩) rfl trivial λ r h1=>?_
  exact SB hf cs (aM++[r.val]) s.up hg (by simp only[ah.up];omega) (by simp only[ah.up];omega)
theorem ac4(gone:List (Int×Int))(f:Unit->Pm bf):(pR l gone).bind f=(j5 [] (jE l 0 l.az.toNat)).bind (λ aM=>(fa l aM gone []).bind (λ st=>(ji st).bind f)):=by
 unfold pR;rw[bind_assoc]
 congr 1
 funext aM
 rw[bind_assoc]
theorem Sp(hS:l.az=(S:Int)){k:cF}{n:Int}{f:Unit->Pm bf}{log:List aD}{M0:Nat}(hf:∀s,M0<=s.made->s.made<=log.length->di av l S D (fN av (av.retired k) s) (f () log s) (log.drop s.made))(s:ah)(hM:M0<=s.made):di av l S D ⟨.r1 k n,s⟩ ((jF l n).bind f log s) (log.drop s.made):=by
 rw[jF,bind_assoc,pO];refine ij rfl trivial λ r h1=>?_
 rw[bind_assoc];refine ij (q:=⟨.r2 k n r.val,s.up⟩) (s:=s.up) rfl trivial λ r2 A=>?_
 show di av l S D (if(s.gone.length:Int)+1<2*(S:Int) then _ else _) _ _;unfold Pm.bind;simp only;rw[hS]
 by_cases ba:(s.gone.length:Int)+1<2*(S:Int)
 ·rw[if_pos ba,if_pos (show((s.up.up.gone.length:Int)+1<2*(S:Int)) from ba)];exact hf {s.up.up with gone:=s.gone++[(n,r.val)]} (by simp only[ah.up];omega) (by simp only[ah.up] at A⊢;omega)
 ·rw[if_neg ba,if_neg (show¬((s.up.up.gone.length:Int)+1<2*(S:Int)) from ba)];have:=SB (l:=l) (D:=D) (av:=av) (S:=S) (k:=k) (gone:=s.gone++[(n,r.val)]) hf (Ei 0 S) [] {s.up.up with gone:=s.gone++[(n,r.val)]} rfl (by simp only[ah.up];omega) (by simp only[ah.up] at A⊢;omega);show di av l S D _ ((pR l (s.gone++[(n,r.val)])).bind f log {s.up.up with gone:=s.gone++[(n,r.val)]}) _;rw[ac4,hS,Int.toNat_natCast,<-So];exact this
theorem Jd{k:cF}{i:Int}{c:Ad}{f:Int×Int->Pm bf}{log:List aD}{M0:Nat}(hf:∀v a s,M0<=s.made->s.made<=log.length->di av l S D (fN av (av.guarded k v a) s) (f (v,a) log s) (log.drop s.made)):
 ∀(j:Nat)(s:ah),M0<=s.made->log.length-s.made<j->di av l S D ⟨.g1 k i c,s⟩ ((kO l D i (c.cell l) j).bind f log s) (log.drop s.made)
 |0,s,_,h=>by omega
 |j+1,s,hM,h=>by
  rw[kO,bind_assoc,pO];refine ij rfl trivial λ r h1=>?_
  rw[bind_assoc,aw eT,bind_assoc,pO];refine ij (q:=⟨.g2 k i c r.val s.made,s.up⟩) (s:=s.up) rfl trivial λ r2 A=>?_
  have key:∀m:Pm bf,m=((eH (cg l D i) r2.val).bind (λ _ log s=>kO l D i (c.cell l) j log (s.gp i r2.val))).bind f->di av l S D ⟨.g3 k i c r2.val,s.up.up⟩ (m log s.up.up) (log.drop s.up.up.made):=by
   intro m hm;rw[hm,bind_assoc,sN];refine ij (s:=s.up.up) rfl trivial λ r3 K=>?_
   have iR:=Hf;have:=Jd (k:=k) (i:=i) (c:=c) hf j (s.up.up.up.gp i r2.val) (by rw[iR];simp only[ah.up];omega) (by rw[iR];simp only[ah.up] at K⊢;omega);rw[iR] at this;exact this
  show di av l S D (if r2.val=s.e i then _ else _) _ _;unfold Pm.bind;simp only
  by_cases he:r2.val=s.e i
  ·rw[if_pos he,if_pos (show r2.val=s.up.up.e i from he)];have:=hf r.val (s.made:Int) s.up.up (by simp only[ah.up];omega) (by simp only[ah.up] at A⊢;omega);show di av l S D _ (f (r.val,((s.made+1:Nat):Int)-1) log s.up.up) _;rw[show((s.made+1:Nat):Int)-1=(s.made:Int) by omega];exact this
  ·rw[if_neg he,if_neg (show¬r2.val=s.up.up.e i from he)];exact key _ rfl
theorem NB{k:cF}{f:Unit->Pm bf}{log:List aD}{M0:Nat}(hf:∀s,s.e0=0->s.e1=0->s.e2=0->M0<=s.made->s.made<=log.length->di av l S D ⟨av.IC k,s⟩ (f () log s) (log.drop s.made))(s:ah)(hM:M0<=s.made)(hs:s.made<=log.length):di av l S D (fN av (.iK k) s) ((ge l D).bind f log s) (log.drop s.made):=by
 have A:∀s:ah,s.e0=0->s.e1=0->M0<=s.made->s.made<=log.length->di av l S D (nq av k s) ((cX l D 2 s.e2).bind f log s) (log.drop s.made):=by
  intro s z0 z1 hM hs;unfold nq;rw[if_neg (by simp[z0]),if_neg (by simp[z1])];unfold cX
  by_cases h:s.e2=0
  ·rw[if_neg (by simp[h]),if_pos h];exact hf s z0 z1 h hM hs
  ·rw[if_pos h,if_neg h,bind_assoc,sN];refine ij rfl trivial λ r h1=>?_
   have:=hf {s.up with e2:=0} z0 z1 rfl (by simp only[ah.up];omega) (by simp only[ah.up];omega);show di av l S D (nq av k {s.up with e2:=0}) (f () log {s.up with e2:=0}) _;unfold nq;rw[if_neg (by simp[ah.up,z0]),if_neg (by simp[ah.up,z1]),if_neg (by simp)];exact this
 have h1:∀s:ah,s.e0=0->M0<=s.made->s.made<=log.length->di av l S D (nq av k s) (((cX l D 1 s.e1).bind λ _=>(cX l D 2 s.e2).bind f) log s) (log.drop s.made):=by
  intro s z0 hM hs
  by_cases h:s.e1=0
  ·have e:((cX l D 1 s.e1).bind λ _=>(cX l D 2 s.e2).bind f) log s=((cX l D 2 s.e2).bind f) log s:=by unfold cX;rw[if_pos h];rfl
   rw[e];exact A s z0 h hM hs
  ·unfold nq;rw[if_neg (by simp[z0]),if_pos h];have e:((cX l D 1 s.e1).bind λ _=>(cX l D 2 s.e2).bind f)=((eH (cg l D 1) 0).bind λ _=>(oC 1).bind λ _=>(cX l D 2 s.e2).bind f):=by
    have:cX l D 1 s.e1=(eH (cg l D 1) 0).bind λ _=>oC 1:=by unfold cX;rw[if_neg h];rfl
    rw[this,bind_assoc]
   rw[e,sN];refine ij rfl trivial λ r K=>?_
   exact A {s.up with e1:=0} z0 rfl (by simp only[ah.up];omega) (by simp only[ah.up];omega)
 have e:(ge l D).bind f log s=((cX l D 0 s.e0).bind λ _=>(cX l D 1 s.e1).bind λ _=>(cX l D 2 s.e2).bind f) log s:=by
  have e1:ge l D log s=((cX l D 0 s.e0).bind λ _=>(cX l D 1 s.e1).bind λ _=>(cX l D 2 s.e2).bind λ _=>.pure ()) log s:=rfl;have T:∀m:Pm Unit,ge l D log s=m log s->(ge l D).bind f log s=m.bind f log s:=λ m hm=>by unfold Pm.bind;rw[hm]
  rw[T _ e1,bind_assoc]
  congr 1
  congr 1
  funext _
  rw[bind_assoc]
  congr 1
  funext _
  rw[bind_assoc]
  rfl
 rw[e];show di av l S D (nq av k s) _ _
 by_cases h:s.e0=0
 ·have e2:((cX l D 0 s.e0).bind λ _=>(cX l D 1 s.e1).bind λ _=>(cX l D 2 s.e2).bind f) log s=((cX l D 1 s.e1).bind λ _=>(cX l D 2 s.e2).bind f) log s:=by unfold cX;rw[if_pos h];rfl
  rw[e2];exact h1 s h hM hs
 ·unfold nq;rw[if_pos h];have e2:((cX l D 0 s.e0).bind λ _=>(cX l D 1 s.e1).bind λ _=>(cX l D 2 s.e2).bind f)=((eH (cg l D 0) 0).bind λ _=>(oC 0).bind λ _=>(cX l D 1 s.e1).bind λ _=>(cX l D 2 s.e2).bind f):=by
   have:cX l D 0 s.e0=(eH (cg l D 0) 0).bind λ _=>oC 0:=by unfold cX;rw[if_neg h];rfl
   rw[this,bind_assoc]
  rw[e2,sN];refine ij rfl trivial λ r K=>?_
  exact h1 {s.up with e0:=0} rfl (by simp only[ah.up];omega) (by simp only[ah.up];omega)
end
def fO(n:Int):Int:=cf ⟨n,false,0⟩
def ol(n:Int):Int:=cf ⟨n,true,0⟩
structure kc where
 there:Bool
 prev:Int
 cur:Int
 next:Int
 bS:Int
deriving DecidableEq
def xK:kc:=⟨false,0,0,0,0⟩
structure EM where
 a:Int
 b:Int
 prev:Int
 cur:Int
 pt:Int
def ju(l:ag)(D F o:Int):Nat->Option EM->Pm kc
 |0,_=>.pure xK
 |k+1,none=>(kP l D 0 F).bind λ p=>ju l D F o k (some ⟨0,1,F,(ay p.1).idx,p.2⟩)
 |k+1,some x=>if x.cur=0 then .pure ⟨false,x.prev,0,0,x.pt⟩
  else(kP l D x.b (aE l x.cur 0)).bind λ p=>(cj x.prev).bind λ seen=>j4.bind λ look=>if seen=fO x.cur then
   (cj (aE l x.cur 1)).bind λ dX=>
    if(ay p.1).mark then(eZ x.prev (fO x.cur) (fO (ay p.1).idx)).bind λ ok=>if ok then j4.bind λ at_=>(jF l x.cur).bind λ _=>ju l D F o k (some ⟨x.b,x.a,x.prev,(ay p.1).idx,at_⟩) else ju l D F o k none
    else if dX<o then ju l D F o k (some ⟨x.b,3-x.a-x.b,aE l x.cur 0,(ay p.1).idx,p.2⟩)
    else if dX=o then .pure ⟨true,x.prev,x.cur,p.1,p.2⟩
    else .pure ⟨false,x.prev,x.cur,0,look⟩
   else ju l D F o k none
def qU(l:ag)(D F o:Int):Pm kc:=λ log s=>ju l D F o (2*(log.length-s.made)+2) none log s
def jC(l:ag)(D:Int)(o:bf):Pm bf:=(ge l D).bind λ _=>.pure o
def getM(l:ag)(D F o:Int):Pm bf:=(qU l D F o).bind λ f=>if f.there then(cj (aE l f.cur 2)).bind λ v=>jC l D ⟨v,true,0,f.bS,[]⟩ else jC l D ⟨0,false,0,f.bS,[]⟩
def vf(l:ag)(f:kc)(n:Int):Pm (Option Int):=(eH (aE l n 0) (fO f.cur)).bind λ _=>(eZ f.prev (fO f.cur) (fO n)).bind λ ok=>if ok then j4.bind λ a=>.pure (some a) else .pure none
def tV(l:ag)(D F o v:Int):Nat->Int->Pm bf
 |0,_=>.pure ⟨0,false,0,0,[]⟩
 |k+1,n=>(qU l D F o).bind λ f=>if f.there then(if n=0 then jC l D ⟨0,false,0,f.bS,[]⟩ else(mM l n).bind λ _=>jC l D ⟨0,false,0,f.bS,[]⟩)
  else if n=0 then(pT l).bind λ t=>if t.2.2 then(eH (aE l t.1 1) o).bind λ _=>(eH (aE l t.1 2) v).bind λ _=>(vf l f t.1).bind λ r=>match r with
   |some a=>jC l D ⟨0,true,0,a,[]⟩
   |none=>tV l D F o v k t.1
   else jC l D ⟨0,false,8,t.2.1,[]⟩
  else(vf l f n).bind λ r=>match r with
   |some a=>jC l D ⟨0,true,0,a,[]⟩
   |none=>tV l D F o v k n
def rA(l:ag)(D F o v:Int):Pm bf:=λ log s=>tV l D F o v (log.length+1-s.made) 0 log s
def vT(l:ag)(D F o:Int):Nat->Pm bf
 |0=>.pure ⟨0,false,0,0,[]⟩
 |k+1=>(qU l D F o).bind λ f=>if f.there then(eZ (aE l f.cur 0) f.next (ol (ay f.next).idx)).bind λ ok=>if ok then j4.bind λ a=>(eZ f.prev (fO f.cur) (fO (ay f.next).idx)).bind λ ok=>if ok then(ge l D).bind λ _=>(jF l f.cur).bind λ _=>.pure ⟨0,true,0,a,[]⟩ else(qU l D F o).bind λ _=>jC l D ⟨0,true,0,a,[]⟩
   else vT l D F o k
  else jC l D ⟨0,false,0,f.bS,[]⟩
def qR(l:ag)(D F o:Int):Pm bf:=λ log s=>vT l D F o (log.length+1-s.made) log s
def dw(l:ag)(D:Int)(gone:List (Int×Int))(op:bt)(log:List aD):aT×bf×Bool:=
 if op.obj<0\/l.size<=op.obj then(eN,⟨0,false,1,-1,gone⟩,true)
 else if op.kind=1 then lB (getM l D op.obj op.a log ⟨0,gone,0,0,0⟩)
 else if op.kind=2 then lB (rA l D op.obj op.a op.b log ⟨0,gone,0,0,0⟩)
 else if op.kind=3 then lB (qR l D op.obj op.a log ⟨0,gone,0,0,0⟩)
 else(eN,⟨0,false,1,-1,gone⟩,true)
def li(l:ag)(a:Nat)(k:Nat):List aT:=(List.range k).map λ(i:Nat)=>⟨2,aE l ((a:Int)+i) 7,0,if(a:Int)+i=l.nodes then 0 else(a:Int)+i+1⟩
def yz(l:ag)(a:Nat):List aT:=li l a (l.nodes.toNat+1-a)++[⟨2,l.free,0,a⟩]
def UW(l:ag):List aT:=yz l 1++[⟨2,l.era,0,1⟩]
def UX(l:ag):List Int:=(pk (List.replicate l.size.toNat 0) (List.replicate l.size.toNat 0) [] (UW l)).1
def fp(l:ag)(m:List Int)(h:Int):List Int:=ko (λ n=>(ay (bv m (aE l n 0))).idx) l.nodes (l.nodes.toNat+1) [] (ay (bv m h)).idx
def nh(l:ag)(m:List Int)(h:Int):List (Int×Int):=((fp l m h).filter λ n=>!(ay (bv m (aE l n 0))).mark).map λ n=>(bv m (aE l n 1),bv m (aE l n 2))
structure H5 where
 nodes:Int
 want:List (List bt)
 turns:List Int
def ZY(p:H5):ag:=ZW p.want.length (2+p.nodes%8) 1 0 0
structure TZ where
 at_:Nat
 log:List aD
 gone:List (Int×Int)
structure MN where
 aN:Int
 at_:Int
 op:bt
 gone:List (Int×Int)
 acc:aT
 res:aD
 done:Bool
 out:bf
structure TS where
 m:List Int
 az:List TZ
 out:List MN
def start(p:H5):TS:=⟨UX (ZY p),List.replicate p.want.length ⟨0,[],[]⟩,[]⟩
structure aeD where
 steps:List MN
 m:List Int
 gone:List (List (Int×Int))
 ends:Bool
structure aeC(p:H5):Prop where
 w1:1<=p.want.length
 w3:p.want.length<=3
 t:p.turns.length<=200
 n0:0<=p.nodes
 af:∀x∈p.turns,0<=x/\x<=255
 l:∀w∈p.want,w.length<=4
inductive Fk where
 |get|put (v n:Int)|del|fin (a:Int)
inductive Lk where
 |ga (o:Int) (f:Fk)
 |gb (o:Int) (f:Fk) (a b pn cur:Int)
 |ls (o:Int) (f:Fk) (a b pn cur w t:Int)
 |lo (o:Int) (f:Fk) (a b pn cur w t k:Int)
 |cu (o:Int) (f:Fk) (a b pn cur w:Int)
 |rr (o:Int) (f:Fk) (a b pn nx pt:Int)
 |gv (o cur pt:Int)
 |tk (o v pn cur:Int)
 |p1 (o v n pn cur:Int)|p2 (o v n pn cur:Int)|p0 (o v n pn cur:Int)|cp (o v n pn cur:Int)
 |sv (a:Int)
 |cm (o pn cur w:Int)|cd (o pn cur nx at_:Int)
 |rx (n a:Int)|ry (a:Int)
 |fi (o:bf)
def Bf(a:Int):bf:=⟨0,true,0,a,[]⟩
def GR(a:Int):bf:=⟨0,false,0,a,[]⟩
section
variable(F:Ad)
def pb(pn:Int):Ad:=if pn=0 then F else .nd pn 0
def aar:Lk->Ak
 |.ls _ _ _ _ pn _ _ _=>.ld (pb F pn)
 |.lo _ _ _ _ _ cur _ _ _=>.ld (.nd cur 1)
 |.cu _ _ _ _ pn cur w=>.cs (pb F pn) (fO cur) (fO (ay w).idx)
 |.gv _ cur _=>.ld (.nd cur 2)
 |.p1 o _ n _ _=>.st (.nd n 1) o
 |.p2 _ v n _ _=>.st (.nd n 2) v
 |.p0 _ _ n _ cur=>.st (.nd n 0) (fO cur)
 |.cp _ _ n pn cur=>.cs (pb F pn) (fO cur) (fO n)
 |.cm _ _ cur w=>.cs (.nd cur 0) w (ol (ay w).idx)
 |.cd _ pn cur nx _=>.cs (pb F pn) (fO cur) (fO nx)
 |_=>.ld (F)
def vZ(o:Int)(f:Fk)(pn cur pt:Int):Pc Lk:=match f with
 |.get=>.iK (.fi (GR pt))
 |.put v n=>if n=0 then .t1 (.tk o v pn cur) else .at_ (.p0 o v n pn cur)
 |.del=>.iK (.fi (GR pt))
 |.fin a=>.iK (.fi (Bf a))
def v6(o:Int)(f:Fk)(pn cur w pt:Int):Pc Lk:=match f with
 |.get=>.at_ (.gv o cur pt)
 |.put _ n=>if n=0 then .iK (.fi (GR pt)) else .v1 (.sv pt) n
 |.del=>.at_ (.cm o pn cur w)
 |.fin a=>.iK (.fi (Bf a))
def wb(o:Int)(f:Fk)(a b pn cur pt:Int):Pc Lk:=if cur=0 then vZ o f pn 0 pt else .g1 (.gb o f a b pn cur) b (.nd cur 0)
def nn(o:Int)(f:Fk):Pc Lk:=.g1 (.ga o f) 0 (F)
def wF:Lk->Nat->aD->Pc Lk
 |.ls o f a b pn cur w t,made,r=>if r.val=fO cur then .at_ (.lo o f a b pn cur w t made) else nn F o f
 |.lo o f a b pn cur w t k,_,r=>if(ay w).mark then .at_ (.cu o f a b pn cur w) else if r.val<o then wb o f b (3-a-b) cur (ay w).idx t else if r.val=o then v6 o f pn cur w t else vZ o f pn cur k
 |.cu o f a b pn cur w,made,r=>if r.ok then .r1 (.rr o f a b pn (ay w).idx made) cur else nn F o f
 |.gv _ _ pt,_,r=>.iK (.fi ⟨r.val,true,0,pt,[]⟩)
 |.p1 o v n pn cur,_,_=>.at_ (.p2 o v n pn cur)
 |.p2 o v n pn cur,_,_=>.at_ (.p0 o v n pn cur)
 |.p0 o v n pn cur,_,_=>.at_ (.cp o v n pn cur)
 |.cp o v n _ _,made,r=>if r.ok then .iK (.fi (Bf made)) else nn F o (.put v n)
 |.cm o pn cur w,made,r=>if r.ok then .at_ (.cd o pn cur (ay w).idx made) else nn F o .del
 |.cd o _ cur _ at_,_,r=>if r.ok then .iK (.rx cur at_) else nn F o (.fin at_)
 |k,_,_=>.at_ k
def cz:rJ Lk where
 ask:=aar F
 tell:=wF F
 Mu:=λ k n _=>match k with
  |.tk o v pn cur=>.at_ (.p1 o v n pn cur)
  |k=>.v1 k n
 full:=λ k a=>match k with
  |.tk _ _ _ _=>.iK (.fi ⟨0,false,8,a,[]⟩)
  |k=>.at_ k
 guarded:=λ k v t=>match k with
  |.ga o f=>wb o f 0 1 0 (ay v).idx t
  |.gb o f a b pn cur=>.at_ (.ls o f a b pn cur v t)
  |k=>.at_ k
 IC:=λ k=>match k with
  |.fi o=>.fin o
  |.rx n a=>.r1 (.ry a) n
  |k=>.at_ k
 I8:=λ k=>match k with
  |.sv a=>.iK (.fi (GR a))
  |k=>.at_ k
 retired:=λ k=>match k with
  |.rr o f a b pn nx pt=>wb o f b a pn nx pt
  |.ry a=>.fin (Bf a)
  |k=>.at_ k
end
section
variable{F:Ad}{l:ag}{S:Nat}{D:Int}{log:List aD}
theorem ad9(s:ah):s.up.made=s.made+1:=rfl
theorem Gz(s:ah):((s.up.made:Nat):Int)-1=(s.made:Int):=by rw[ad9];omega
theorem R4(pn:Int):(pb F pn).cell l=if pn=0 then F.cell l else aE l pn 0:=by unfold pb;split<;>rfl
theorem ur{o:bf}{s:ah}(hs:s.made<=log.length):di (cz F) l S D (fN (cz F) (.iK (.fi o)) s) (jC l D o log s) (log.drop s.made):=
 NB (M0:=s.made) (f:=λ _=>.pure o) (λ _ _ _ _ _ _=>NP) s (Nat.le_refl _) hs
theorem Ab(hS:l.az=(S:Int)){o:Int}{f:Fk}{g:kc->Pm bf}{M0:Nat}
 (hN:∀(pn cur pt:Int)(s:ah),M0<=s.made->s.made<=log.length->di (cz F) l S D (fN (cz F) (vZ o f pn cur pt) s) (g ⟨false,(pb F pn).cell l,cur,0,pt⟩ log s) (log.drop s.made))
 (hY:∀(pn cur w pt:Int)(s:ah),M0<=s.made->s.made<=log.length->di (cz F) l S D (fN (cz F) (v6 o f pn cur w pt) s) (g ⟨true,(pb F pn).cell l,cur,w,pt⟩ log s) (log.drop s.made)):
 ∀(k:Nat)(s:ah),M0<=s.made->s.made<=log.length->
  (2*(log.length-s.made)+2<=k->di (cz F) l S D (fN (cz F) (nn F o f) s) ((ju l D (F.cell l) o k none).bind g log s) (log.drop s.made))/\
  (∀a b pn cur pt,2*(log.length-s.made)+1<=k->di (cz F) l S D (fN (cz F) (wb o f a b pn cur pt) s) ((ju l D (F.cell l) o k (some ⟨a,b,(pb F pn).cell l,cur,pt⟩)).bind g log s) (log.drop s.made))
 |0,s,_,_=>⟨λ h=>by omega,λ a b pn cur pt h=>by omega⟩
 |k+1,s,hM,hs=>by
  refine⟨λ I=>?_,λ a b pn cur pt I=>?_⟩
  ·rw[ju,bind_assoc];refine Jd (M0:=s.made) (k:=Lk.ga o f) (i:=0) (c:=F) (λ v t M ae7 Y8=>?_) (log.length+1-s.made) s (Nat.le_refl _) (by omega);have:=(Ab hS hN hY k M (by omega) Y8).2 0 1 0 (ay v).idx t (by omega);rw[show(pb F 0).cell l=F.cell l from by rw[R4,if_pos rfl]] at this;exact this
  ·rw[ju];unfold wb
   by_cases h0:cur=0
   ·subst h0;simp only[if_true];exact hN pn 0 pt s hM hs
   ·simp only[h0,if_false];rw[bind_assoc];refine Jd (M0:=s.made) (k:=Lk.gb o f a b pn cur) (i:=b) (c:=.nd cur 0) (λ w t s1 tr e8=>?_) (log.length+1-s.made) s (Nat.le_refl _) (by omega);show di (cz F) l S D ⟨.at_ (.ls o f a b pn cur w t),s1⟩ _ _;rw[bind_assoc,pO];refine ij (q:=⟨.at_ (Lk.ls o f a b pn cur w t),s1⟩) (s:=s1) rfl trivial λ r1 h1=>?_
    rw[bind_assoc,aw eT,Gz];show di (cz F) l S D (fN (cz F) (if r1.val=fO cur then .at_ (.lo o f a b pn cur w t s1.made) else nn F o f) s1.up) _ _
    by_cases hv:r1.val=fO cur
    ·rw[if_pos hv,if_pos hv,bind_assoc,pO];refine ij (q:=⟨.at_ (Lk.lo o f a b pn cur w t s1.made),s1.up⟩) (s:=s1.up) rfl trivial λ r2 A=>?_
     have bs:s1.made+1<log.length:=A;have m2:s1.up.up.made=s1.made+2:=rfl;have Je:s1.up.up.made<=log.length:=by omega
     show di (cz F) l S D (fN (cz F) (if(ay w).mark then .at_ (.cu o f a b pn cur w) else if r2.val<o then wb o f b (3-a-b) cur (ay w).idx t else if r2.val=o then v6 o f pn cur w t else vZ o f pn cur s1.made) s1.up.up) _ _
     by_cases hm:(ay w).mark=true
     ·rw[if_pos hm,if_pos hm,bind_assoc,vO];refine ij (q:=⟨.at_ (Lk.cu o f a b pn cur w),s1.up.up⟩) (s:=s1.up.up) rfl trivial λ r3 K=>?_
      have dc:s1.made+2<log.length:=K;have m3:s1.up.up.up.made=s1.made+3:=rfl;show di (cz F) l S D (fN (cz F) (if r3.ok then .r1 (.rr o f a b pn (ay w).idx s1.up.up.made) cur else nn F o f) s1.up.up.up) _ _
      by_cases mS:r3.ok=true
      ·rw[if_pos mS,if_pos mS,bind_assoc,aw eT,Gz,bind_assoc];show di (cz F) l S D ⟨.r1 (.rr o f a b pn (ay w).idx s1.up.up.made) cur,s1.up.up.up⟩ _ _;refine Sp hS (M0:=s1.up.up.up.made) (λ s2 Fy iv=>?_) s1.up.up.up (Nat.le_refl _);exact(Ab hS hN hY k s2 (by omega) iv).2 b a pn (ay w).idx s1.up.up.made (by omega)
      ·rw[if_neg mS,if_neg mS];exact(Ab hS hN hY k s1.up.up.up (by omega) (by omega)).1 (by omega)
     ·rw[if_neg hm,if_neg hm]
      by_cases ba:r2.val<o
      ·rw[if_pos ba,if_pos ba];have:=(Ab hS hN hY k s1.up.up (by omega) Je).2 b (3-a-b) cur (ay w).idx t (by omega);rw[show(pb F cur).cell l=aE l cur 0 from by rw[R4,if_neg h0]] at this;exact this
      ·rw[if_neg ba,if_neg ba]
       by_cases he:r2.val=o
       ·rw[if_pos he,if_pos he];exact hY pn cur w t s1.up.up (by omega) Je
       ·rw[if_neg he,if_neg he];exact hN pn cur s1.made s1.up.up (by omega) Je
    ·rw[if_neg hv,if_neg hv];have m1:s1.up.made=s1.made+1:=rfl;exact(Ab hS hN hY k s1.up (by omega) (by omega)).1 (by omega)
theorem Fh(hS:l.az=(S:Int)){o:Int}{f:Fk}{g:kc->Pm bf}{M0:Nat}
 (hN:∀(pn cur pt:Int)(s:ah),M0<=s.made->s.made<=log.length->di (cz F) l S D (fN (cz F) (vZ o f pn cur pt) s) (g ⟨false,(pb F pn).cell l,cur,0,pt⟩ log s) (log.drop s.made))
 (hY:∀(pn cur w pt:Int)(s:ah),M0<=s.made->s.made<=log.length->di (cz F) l S D (fN (cz F) (v6 o f pn cur w pt) s) (g ⟨true,(pb F pn).cell l,cur,w,pt⟩ log s) (log.drop s.made))
 (s:ah)(hM:M0<=s.made)(hs:s.made<=log.length):di (cz F) l S D (fN (cz F) (nn F o f) s) ((qU l D (F.cell l) o).bind g log s) (log.drop s.made):=
 (Ab hS hN hY _ s hM hs).1 (Nat.le_refl _)
theorem WH(hS:l.az=(S:Int)){o:Int}(s:ah)(hs:s.made<=log.length):di (cz F) l S D (fN (cz F) (nn F o .get) s) (getM l D (F.cell l) o log s) (log.drop s.made):=by
 unfold getM;refine Fh hS (M0:=s.made) (λ pn cur pt s1 _ e8=>?_) (λ pn cur w pt s1 _ e8=>?_) s (Nat.le_refl _) hs
 ·simp only[Bool.false_eq_true,if_false];exact ur e8
 ·simp only[if_true];rw[pO];refine ij (q:=⟨.at_ (Lk.gv o cur pt),s1⟩) (s:=s1) rfl trivial λ r1 h1=>?_
  exact ur (by simp only[ah.up];omega)
theorem ab4{o v n pn cur:Int}{M0:Nat}{c pt nx:Int}{th:Bool}{g:Option Int->Pm bf}(L:c=(pb F pn).cell l)
 (h1:∀(a:Nat)(s:ah),s.made<=log.length->di (cz F) l S D (fN (cz F) (.iK (.fi (Bf a))) s) (g (some (a:Int)) log s) (log.drop s.made))
 (A:∀s:ah,M0<s.made->s.made<=log.length->di (cz F) l S D (fN (cz F) (nn F o (.put v n)) s) (g none log s) (log.drop s.made))
 (s:ah)(hM:M0<=s.made):di (cz F) l S D ⟨.at_ (.p0 o v n pn cur),s⟩ ((vf l ⟨th,c,cur,nx,pt⟩ n).bind g log s) (log.drop s.made):=by
 subst L;rw[vf,bind_assoc,sN];refine ij (q:=⟨.at_ (Lk.p0 o v n pn cur),s⟩) (s:=s) rfl trivial λ r1 K=>?_
 rw[bind_assoc,vO];refine ij (q:=⟨.at_ (Lk.cp o v n pn cur),s.up⟩) (s:=s.up) rfl trivial λ r2 h4=>?_
 have oN:s.made+1<log.length:=h4;have m2:s.up.up.made=s.made+2:=rfl;show di (cz F) l S D (fN (cz F) (if r2.ok then .iK (.fi (Bf s.up.made)) else nn F o (.put v n)) s.up.up) _ _
 by_cases I:r2.ok=true
 ·rw[if_pos I,if_pos I,bind_assoc,aw eT,Gz];exact h1 s.up.made s.up.up (by omega)
 ·rw[if_neg I,if_neg I];exact A s.up.up (by omega) (by omega)
theorem Sa(hS:l.az=(S:Int)){o v:Int}:∀(k:Nat)(n:Int)(s:ah),s.made<=log.length->log.length-s.made<k->di (cz F) l S D (fN (cz F) (nn F o (.put v n)) s) (tV l D (F.cell l) o v k n log s) (log.drop s.made)
 |0,n,s,_,h=>by omega
 |k+1,n,s,hs,h=>by
  rw[tV];have hB:∀(n pn cur pt:Int)(s1:ah),s.made<=s1.made->di (cz F) l S D ⟨.at_ (.p0 o v n pn cur),s1⟩ ((vf l ⟨false,(pb F pn).cell l,cur,0,pt⟩ n).bind (λ r=>match r with
   |some a=>jC l D ⟨0,true,0,a,[]⟩
   |none=>tV l D (F.cell l) o v k n) log s1) (log.drop s1.made):=λ n pn cur pt s1 tr=>
   ab4 (M0:=s1.made) rfl (λ a s2 iv=>ur iv) (λ s2 Fy iv=>Sa hS k n s2 iv (by omega)) s1 (Nat.le_refl _)
  refine Fh hS (M0:=s.made) (λ pn cur pt s1 tr e8=>?_) (λ pn cur w pt s1 tr e8=>?_) s (Nat.le_refl _) hs
  ·simp only[Bool.false_eq_true,if_false];unfold vZ
   by_cases hn:n=0
   ·simp only[hn,if_true];refine Tg (M0:=s1.made) (k:=Lk.tk o v pn cur) (λ t a s2 Fy iv=>?_) (λ a s2 Fy iv=>?_) (log.length+1-s1.made) s1 (Nat.le_refl _) (by omega)
    ·simp only[if_true];show di (cz F) l S D ⟨.at_ (.p1 o v t pn cur),s2⟩ _ _;rw[sN];refine ij (q:=⟨.at_ (Lk.p1 o v t pn cur),s2⟩) (s:=s2) rfl trivial λ r1 K=>?_
     rw[sN];refine ij (q:=⟨.at_ (Lk.p2 o v t pn cur),s2.up⟩) (s:=s2.up) rfl trivial λ r2 h4=>?_
     exact hB t pn cur pt s2.up.up (by simp only[ah.up];omega)
    ·simp only[Bool.false_eq_true,if_false];exact ur iv
   ·simp only[hn,if_false];exact hB n pn cur pt s1 tr
  ·simp only[if_true];unfold v6
   by_cases hn:n=0
   ·simp only[hn,if_true];exact ur e8
   ·simp only[hn,if_false];refine Ov (k:=Lk.sv pt) (n:=n) (M0:=s1.made) (λ s2 _ iv=>?_) (log.length+1-s1.made) s1 (Nat.le_refl _) (by omega);exact ur iv
theorem NL(hS:l.az=(S:Int)){o:Int}:∀(k:Nat)(s:ah),s.made<=log.length->log.length-s.made<k->di (cz F) l S D (fN (cz F) (nn F o .del) s) (vT l D (F.cell l) o k log s) (log.drop s.made)
 |0,s,_,h=>by omega
 |k+1,s,hs,h=>by
  rw[vT];refine Fh hS (M0:=s.made) (λ pn cur pt s1 tr e8=>?_) (λ pn cur w pt s1 tr e8=>?_) s (Nat.le_refl _) hs
  ·simp only[Bool.false_eq_true,if_false];exact ur e8
  ·simp only[if_true];unfold v6;simp only;rw[vO];refine ij (q:=⟨.at_ (Lk.cm o pn cur w),s1⟩) (s:=s1) rfl trivial λ r1 K=>?_
   have m1:s1.up.made=s1.made+1:=rfl;show di (cz F) l S D (fN (cz F) (if r1.ok then .at_ (.cd o pn cur (ay w).idx s1.made) else nn F o .del) s1.up) _ _
   by_cases I:r1.ok=true
   ·rw[if_pos I,if_pos I,aw eT,Gz,vO];refine ij (q:=⟨.at_ (Lk.cd o pn cur (ay w).idx s1.made),s1.up⟩) (s:=s1.up) rfl trivial λ r2 h4=>?_
    have oN:s1.made+1<log.length:=h4;have m2:s1.up.up.made=s1.made+2:=rfl;show di (cz F) l S D (fN (cz F) (if r2.ok then .iK (.rx cur s1.made) else nn F o (.fin s1.made)) s1.up.up) _ _
    by_cases mR:r2.ok=true
    ·rw[if_pos mR,if_pos mR];refine NB (M0:=s1.up.up.made) (λ s2 _ _ _ Fy iv=>?_) s1.up.up (Nat.le_refl _) (by omega);show di (cz F) l S D ⟨.r1 (.ry s1.made) cur,s2⟩ _ _;refine Sp hS (M0:=s2.made) (λ s3 OP gJ=>?_) s2 (Nat.le_refl _);exact NP
    ·rw[if_neg mR,if_neg mR];refine Fh hS (M0:=s1.up.up.made) (λ abP kL abX s3 OP gJ=>?_) (λ abP kL aI abX s3 OP gJ=>?_) s1.up.up (Nat.le_refl _) (by omega)
     ·exact ur gJ
     ·exact ur gJ
   ·rw[if_neg I,if_neg I];exact NL hS k s1.up (by omega) (by omega)
end
def Ac(op:bt):Fk:=if op.kind=1 then .get else if op.kind=2 then .put op.b 0 else .del
def xe(F:Ad)(op:bt)(gone:List (Int×Int)):Q Lk:=⟨nn F op.a (Ac op),⟨0,gone,0,0,0⟩⟩
theorem K8{l:ag}{S:Nat}{D:Int}(hS:l.az=(S:Int)){gone:List (Int×Int)}{op:bt}{log:List aD}{h:Ad}(ho:h.cell l=op.obj)(hh:¬(op.obj<0\/l.size<=op.obj))(I:op.kind=1\/op.kind=2\/op.kind=3):
 dw l D gone op log=Fe (cz h) l D (sK (cz h) S (xe h op gone) log):=by
 unfold dw;rw[if_neg hh];unfold xe Ac;rw[<-ho];rcases I with I|I|I
 ·rw[if_pos I,if_pos I];exact WH hS ⟨0,gone,0,0,0⟩ (Nat.zero_le _)
 ·rw[if_neg (by omega),if_pos I,if_neg (by omega),if_pos I];exact Sa hS (log.length+1) 0 ⟨0,gone,0,0,0⟩ (Nat.zero_le _) (by simp)
 ·rw[if_neg (by omega),if_neg (by omega),if_pos I,if_neg (by omega),if_neg (by omega)];exact NL hS (log.length+1) ⟨0,gone,0,0,0⟩ (Nat.zero_le _) (by simp)
def hl(l:ag)(m i:Int):Int:=if 1<i then-1 else kZ l.map l.maps (2+l.buckets) m i
def hL(l:ag)(m b:Int):Int:=if b<0\/l.buckets<=b then-1 else kZ l.map l.maps (2+l.buckets) m (2+b)
def fW(k:Int):Int:=((List.range 16).map λ(i:Nat)=>k/2^i%2*2^(15-i)).sum
def l4(k:Int):Int:=2*fW k+1
def gO(b:Int):Int:=2*fW b
def yB(n:Int):Int:=fW (n%131072/2)
def iU(b:Int):Int:=if b<1 then 0 else b-2^(Nat.log2 b.toNat)
def Bt(n:Int):Bool:=decide (n=2^(Nat.log2 n.toNat))
def km(l:ag)(D:Int)(gone:List (Int×Int))(kind eP dX v:Int)(lg:List aD):aT×bf×Bool:=
 let F:=aE l eP 0
 let ob:=if F<0 then l.done else F
 let r:=dw l D gone ⟨kind,ob,dX,v⟩ lg
 if r.2.2=false/\F<0/\r.1.cell=ob then({r.1 with cell:=F},r.2) else r
def nv(f:Nat->Bool):Nat->Nat->Nat
 |0,k=>k
 |n+1,k=>if f k then k else nv f n (k+1)
def oh(l:ag)(D kind eP dX v:Int):Pm (bf×aT):=λ log s=>
 let lg:=log.drop s.made
 let r:=km l D s.gone kind eP dX v lg
 if r.2.2=false then .error r.1
 else if r.2.1.bS<0 then .ok ((r.2.1,eN),s)
 else
  let f:=λ k=>(km l D s.gone kind eP dX v (lg.take k)).2.2
  let k:=nv f (lg.length-(r.2.1.bS.toNat+1)) (r.2.1.bS.toNat+1)
  .ok (({r.2.1 with bS:=r.2.1.bS+s.made},(km l D s.gone kind eP dX v (lg.take r.2.1.bS.toNat)).1),{s with made:=s.made+k,gone:=r.2.1.gone})
def HF(o:bf×aT):Pm Int:=λ log s=>.ok (if o.1.is then(ay o.2.new).idx else(ay ((log.getD (o.1.bS.toNat+2) ⟨0,false⟩).val)).idx,s)
def lu(l:ag)(D m:Int):Nat->Int->Pm (Int×bf)
 |0,_=>.pure (0,j8)
 |k+1,b=>(fk ⟨1,hL l m b,0,0⟩).bind λ r=>if(ay r.val).idx≠0 then .pure ((ay r.val).idx,j8)
  else if b=0 then .pure (0,⟨0,false,1,-1,[]⟩)
  else(lu l D m k (iU b)).bind λ a=>if a.2.err≠0 then .pure (0,a.2)
  else(oh l D 2 a.1 (gO b) 0).bind λ o=>if o.1.err≠0 then .pure (0,o.1)
  else(HF o).bind λ n=>(fk ⟨3,hL l m b,0,cf ⟨n,false,0⟩⟩).bind λ _=>.pure (n,j8)
def p7(l:ag)(m kind size:Int):Pm Unit:=if kind=2 then(fk ⟨4,hl l m 1,0,1⟩).bind λ r=>if 2*size<=r.val/\size<l.buckets then(fk ⟨3,hl l m 0,size,2*size⟩).bind λ _=>.pure () else .pure ()
 else if kind=3 then(fk ⟨4,hl l m 1,0,-1⟩).bind λ _=>.pure () else .pure ()
def sL(l:ag)(D:Int)(op:bt):Pm bf:=(fk ⟨1,hl l op.obj 0,0,0⟩).bind λ r=>if r.val<1\/l.buckets<r.val\/Bt r.val=false then .pure ⟨0,false,1,-1,[]⟩
 else(lu l D op.obj 64 (op.a%r.val)).bind λ d=>if d.2.err≠0 then .pure d.2
 else(oh l D op.kind d.1 (l4 op.a) op.b).bind λ o=>if o.1.is then(p7 l op.obj op.kind r.val).bind λ _=>.pure o.1 else .pure o.1
def rd(l:ag)(D:Int)(gone:List (Int×Int))(op:bt)(log:List aD):aT×bf×Bool:=
 if op.kind<1\/3<op.kind\/hl l op.obj 0<0\/op.a<0\/65536<=op.a then(eN,⟨0,false,1,-1,gone⟩,true)
 else lB (sL l D op log ⟨0,gone,0,0,0⟩)
def gC(l:ag)(m n:Int):List aT:=[⟨2,aE l n 0,0,0⟩,⟨2,aE l n 1,0,0⟩,⟨2,aE l n 2,0,0⟩,⟨2,aE l n 6,0,1⟩,⟨2,hl l m 0,0,1⟩,⟨2,hl l m 1,0,0⟩,⟨2,hL l m 0,0,cf ⟨n,false,0⟩⟩]
structure fH where
 aN:Int
 op:bt
 val:Int
 is:Bool
 first:Int
 last:Int
 bS:Int
structure ek where
 op:bt
 log:List aD
 steps:List Int
 next:Nat
 gone:List (Int×Int)
structure dG where
 m:List Int
 step:Int
 az:List ek
 calls:List fH
 full:Int
 cD:Bool
 bad:Bool
def jV:bt:=⟨0,0,0,0⟩
def qy:ek:=⟨jV,[],[],0,[]⟩
def uA(l:ag)(m:List Int)(a:aT):Bool:=if a.cell<l.node\/l.size<=a.cell\/(a.cell-l.node)%8=7 then false else(uY l m).any λ x=>decide (x=(a.cell-l.node)/8+1)
def pz(t:dG)(aN:Nat)(x:ek)(out:bf):dG:=
 let kX:dG:={t with az:=t.az.set aN {x with op:=jV,gone:=out.gone}}
 if out.err=8 then{kX with full:=t.full+1}
 else if out.err≠0\/x.steps.length=0 then{kX with bad:=true}
 else{kX with calls:=t.calls++[⟨aN,x.op,out.val,out.is,x.steps.getD 0 0,x.steps.getD (x.steps.length-1) 0,if 0<=out.bS/\out.bS<x.steps.length then x.steps.getD out.bS.toNat 0 else-1⟩]}
def Ax(t:dG)(want:List (List bt))(aN:Nat):Bool:=match t.az[aN]?,want[aN]? with
 |some x,some ws=>decide (x.op.kind=0)&&decide (ws.length<=x.next)
 |_,_=>true
theorem RR{n:Nat}(h:n≠0):iU n=((n-2^n.log2:Nat):Int)/\2^n.log2<=n/\n<2^(n.log2+1):=by
 have h1:=Nat.log2_self_le h;have A:=(Nat.log2_lt h (k:=n.log2+1)).1 (Nat.lt_succ_self _);refine⟨?_,h1,A⟩;unfold iU;rw[if_neg (by omega),Int.toNat_natCast];have:((2^n.log2:Nat):Int)=2^n.log2:=by simp
 omega
theorem abG{n:Nat}(h:n≠0):0<=iU n/\iU n<n/\iU n<n-iU n:=by obtain⟨h1,A,K⟩:=RR h;rw[Nat.pow_succ] at K;rw[h1];omega
theorem abE{n k:Nat}(h:n≠0)(I:n<2^(k+1)):iU n<2^k:=by
 obtain⟨h1,A,K⟩:=RR h;have R:n.log2<=k:=by have:=(Nat.log2_lt h (k:=k+1)).2 I;omega
 have hp:2^n.log2<=2^k:=Nat.pow_le_pow_right (by omega) R;rw[Nat.pow_succ] at K;rw[h1];have:((2^k:Nat):Int)=2^k:=by simp
 omega
section
variable(kd:Int)
def lb(m:Nat):Fk->Prop
 |.put _ _=>kd=2
 |.fin a=>kd≠2/\0<=a/\a<m
 |_=>kd≠2
def N8(m:Nat)(o:bf):Prop:=0<=o.bS/\o.bS<m/\(kd=2->o.is=false->o.err=0->o.bS+2<m)
def ep(m:Nat):Lk->Prop
 |.ga _ f=>lb kd m f
 |.gb _ f _ _ _ _=>lb kd m f
 |.ls _ f _ _ _ _ _ t=>lb kd m f/\0<=t/\t+2<=m
 |.lo _ f _ _ _ _ _ t k=>lb kd m f/\0<=t/\t+3<=m/\0<=k/\k<m
 |.cu _ f _ _ _ _ _=>lb kd m f
 |.rr _ f _ _ _ _ pt=>lb kd m f/\0<=pt/\pt<m
 |.gv _ _ pt=>kd≠2/\0<=pt/\pt<m
 |.sv a=>0<=a/\a+2<m
 |.cm _ _ _ _=>kd≠2
 |.cd _ _ _ _ a=>kd≠2/\0<=a/\a<m
 |.rx _ a=>kd≠2/\0<=a/\a<m
 |.ry a=>kd≠2/\0<=a/\a<m
 |.fi o=>N8 kd m o
 |_=>kd=2
def m8(m:Nat):Pc Lk->Prop
 |.at_ k=>ep kd m k
 |.t1 k=>ep kd m k
 |.t2 k _=>ep kd m k
 |.t3 k _ _=>ep kd m k
 |.t4 k _ _=>ep kd m k
 |.t5 k _ _ _=>ep kd m k
 |.g1 k _ _=>ep kd m k
 |.g2 k _ _ _ a=>ep kd m k/\0<=a/\a<m
 |.g3 k _ _ _=>ep kd m k
 |.iK k=>ep kd m k
 |.c k _=>ep kd m k
 |.v1 k _=>ep kd m k
 |.v2 k _ _=>ep kd m k
 |.v3 k _ _=>ep kd m k
 |.r1 k _=>ep kd m k
 |.r2 k _ _=>ep kd m k
 |.rs k _ _ _=>ep kd m k
 |.s1 k _ _ _ _=>ep kd m k
 |.w1 k _ _ _ _=>ep kd m k
 |.w2 k _ _ _ _ _=>ep kd m k
 |.w3 k _ _ _ _ _=>ep kd m k
 |.fin o=>N8 kd m o
end
section
variable{kd:Int}{m wG:Nat}{h:Ad}
theorem lb.mono(hm:m<=wG){f:Fk}(hf:lb kd m f):lb kd wG f:=by cases f<;>simp only[lb] at hf⊢<;>omega
theorem ep.mono(hm:m<=wG){k:Lk}(I:ep kd m k):ep kd wG k:=by
 cases k with
 |ga o f=>exact lb.mono hm I
 |gb o f a b pn cur=>exact lb.mono hm I
 |ls o f a b pn cur w t=>exact⟨I.1.mono hm,I.2.1,by have:=I.2.2;omega⟩
 |lo o f a b pn cur w t k=>exact⟨I.1.mono hm,I.2.1,by have:=I.2.2.1;omega,I.2.2.2.1,by have:=I.2.2.2.2;omega⟩
 |cu o f a b pn cur w=>exact lb.mono hm I
 |rr o f a b pn nx pt=>exact⟨I.1.mono hm,I.2.1,by have:=I.2.2;omega⟩
 |gv o cur pt=>simp only[ep] at I⊢;omega
 |sv a=>simp only[ep] at I⊢;omega
 |cm o pn cur w=>exact I
 |cd o pn cur nx a=>simp only[ep] at I⊢;omega
 |rx n a=>simp only[ep] at I⊢;omega
 |ry a=>simp only[ep] at I⊢;omega
 |fi o=>obtain⟨h1,A,K⟩:=I;exact⟨h1,by omega,λ a b c=>by have:=K a b c;omega⟩
 |_=>exact I
theorem RU{o:Int}{f:Fk}{pn cur pt:Int}(hf:lb kd m f)(h0:0<=pt)(h1:pt<m):m8 kd m (vZ o f pn cur pt):=by
 cases f with
 |get=>exact⟨h0,h1,λ h=>absurd h hf⟩
 |put v n=>
  unfold vZ;simp only;split
  ·exact hf
  ·exact hf
 |del=>exact⟨h0,h1,λ h=>absurd h hf⟩
 |fin a=>exact⟨hf.2.1,hf.2.2,λ h=>absurd h hf.1⟩
theorem abI{o:Int}{f:Fk}{pn cur w pt:Int}(hf:lb kd m f)(h0:0<=pt)(h1:pt+2<m):m8 kd m (v6 o f pn cur w pt):=by
 cases f with
 |get=>exact⟨hf,h0,by omega⟩
 |put v n=>
  unfold v6;simp only;split
  ·exact⟨h0,by show pt<_;omega,λ _ _ _=>h1⟩
  ·exact⟨h0,h1⟩
 |del=>exact hf
 |fin a=>exact⟨hf.2.1,hf.2.2,λ h=>absurd h hf.1⟩
theorem Lp{o:Int}{f:Fk}{a b pn cur pt:Int}(hf:lb kd m f)(h0:0<=pt)(h1:pt<m):m8 kd m (wb o f a b pn cur pt):=by
 unfold wb;split
 ·exact RU hf h0 h1
 ·exact hf
theorem RT{k:Lk}{s:ah}(I:ep kd m k):m8 kd m (nq (cz h) k s).pc:=by
 unfold nq;split
 ·exact I
 ·split
  ·exact I
  ·split
   ·exact I
   ·cases k<;>exact I
theorem NC{k:Lk}{s:ah}:(nq (cz h) k s).s=s:=by
 unfold nq;split
 ·rfl
 ·split
  ·rfl
  ·split<;>rfl
theorem Rt{pc:Pc Lk}{s:ah}:(fN (cz h) pc s).s=s:=by cases pc<;>first|exact NC|rfl
theorem RV{pc:Pc Lk}{s:ah}(hp:m8 kd m pc):m8 kd m (fN (cz h) pc s).pc:=by cases pc<;>first|exact RT hp|exact hp
theorem L3{k:Lk}{aM:List Int}{s:ah}:∀(gs aY:List (Int×Int)),(vq (cz h) k aM s gs aY).s.made=s.made
 |[],_=>by unfold vq;rw[Rt]
 |_::_,_=>rfl
theorem RW{k:Lk}(I:ep kd m k):m8 kd m ((cz h).retired k):=by
 cases k with
 |rr o f a b pn nx pt=>exact Lp I.1 I.2.1 I.2.2
 |ry a=>exact⟨I.2.1,I.2.2,λ h=>absurd h I.1⟩
 |_=>exact I
theorem Lq{k:Lk}{aM:List Int}{s:ah}(I:ep kd m k):∀(gs aY:List (Int×Int)),m8 kd m (vq (cz h) k aM s gs aY).pc
 |[],_=>RV (RW I)
 |_::_,_=>I
theorem RX{k:Lk}{aM:List Int}{s:ah}(I:ep kd m k):∀(cs:List Ad),m8 kd m (yY (cz h) k aM s cs).pc
 |[]=>Lq I _ _
 |_::_=>I
theorem SA{k:Lk}{aM:List Int}{s:ah}:∀(cs:List Ad),(yY (cz h) k aM s cs).s.made=s.made
 |[]=>L3 _ _
 |_::_=>rfl
theorem abJ{S:Nat}{q:Q Lk}{r:aD}(hf:q.pc.In)(hq:m8 kd q.s.made q.pc):(tell (cz h) S q r).s.made=q.s.made+1/\m8 kd (q.s.made+1) (tell (cz h) S q r).pc:=by
 obtain⟨pc,s⟩:=q;have up:∀{k:Lk},ep kd s.made k->ep kd (s.made+1) k:=λ I=>I.mono (Nat.le_succ _)
 have nm:∀(pc:Pc Lk)(M:ah),M.made=s.made+1->m8 kd (s.made+1) pc->(fN (cz h) pc M).s.made=s.made+1/\m8 kd (s.made+1) (fN (cz h) pc M).pc:=λ pc M h1 A=>⟨by rw[Rt];exact h1,RV A⟩
 cases pc with
 |at_ k=>
  refine nm _ _ rfl ?_;show m8 kd _ (wF h k s.made r);simp only[m8] at hq;cases k with
  |ls o f a b pn cur w t=>
   simp only[wF];split
   ·exact⟨hq.1.mono (Nat.le_succ _),hq.2.1,by have:=hq.2.2;omega,by omega,by omega⟩
   ·exact hq.1.mono (Nat.le_succ _)
  |lo o f a b pn cur w t k=>
   simp only[wF];have Az:=hq.1.mono (Nat.le_succ s.made);have h1:=hq.2.1;have A:=hq.2.2.1;have K:=hq.2.2.2.1;have h4:=hq.2.2.2.2;split
   ·exact Az
   ·split
    ·exact Lp Az h1 (by omega)
    ·split
     ·exact abI Az h1 (by omega)
     ·exact RU Az K (by omega)
  |cu o f a b pn cur w=>
   simp only[wF];split
   ·exact⟨lb.mono (Nat.le_succ _) hq,by omega,by omega⟩
   ·exact lb.mono (Nat.le_succ _) hq
  |gv o cur pt=>exact⟨hq.2.1,by have:=hq.2.2;show pt<_;omega,λ h=>absurd h hq.1⟩
  |p1 o v n pn cur=>exact hq
  |p2 o v n pn cur=>exact hq
  |p0 o v n pn cur=>exact hq
  |cp o v n pn cur=>
   simp only[wF];split
   ·exact⟨by show(0:Int)<=(s.made:Int);omega,by show(s.made:Int)<_;omega,λ _ h=>by cases h⟩
   ·exact hq
  |cm o pn cur w=>
   simp only[wF];split
   ·exact⟨hq,by omega,by omega⟩
   ·exact hq
  |cd o pn cur nx a=>
   simp only[wF];split
   ·exact⟨hq.1,hq.2.1,by have:=hq.2.2;omega⟩
   ·exact⟨hq.1,hq.2.1,by have:=hq.2.2;omega⟩
  |ga o f=>exact up hq
  |gb o f a b pn cur=>exact up hq
  |rr o f a b pn nx pt=>exact up hq
  |tk o v pn cur=>exact up hq
  |sv a=>exact up hq
  |rx n a=>exact up hq
  |ry a=>exact up hq
  |fi o=>exact up hq
 |t1 k=>
  have hq:ep kd s.made k:=hq;unfold tell;simp only;split
  ·refine nm _ _ rfl ?_;cases k with
   |tk o v pn cur=>exact⟨by show(0:Int)<=(s.made:Int);omega,by show(s.made:Int)<_;omega,λ _ _ h=>by cases h⟩
   |_=>exact up hq
  ·exact⟨rfl,up hq⟩
 |t2 k f=>have hq:ep kd s.made k:=hq;exact⟨rfl,up hq⟩
 |t3 k f lk=>
  have hq:ep kd s.made k:=hq;unfold tell;simp only;split
  ·exact⟨rfl,up hq⟩
  ·exact⟨rfl,up hq⟩
 |t4 k n a=>have hq:ep kd s.made k:=hq;exact⟨rfl,up hq⟩
 |t5 k n a b=>have hq:ep kd s.made k:=hq;refine nm _ _ rfl ?_;cases k<;>exact up hq
 |g1 k i c=>exact⟨rfl,up hq,by omega,by omega⟩
 |g2 k i c v a=>
  have h1:=hq.2.1;have A:a<(s.made:Int):=hq.2.2;unfold tell;simp only;split
  ·refine nm _ _ rfl ?_;have I:=hq.1;cases k with
   |ga o f=>exact Lp (lb.mono (Nat.le_succ _) I) h1 (by omega)
   |gb o f br b pn cur=>exact⟨lb.mono (Nat.le_succ _) I,h1,by omega⟩
   |_=>exact up I
  ·exact⟨rfl,up hq.1⟩
 |g3 k i c er=>have hq:ep kd s.made k:=hq;exact⟨by show(s.up.gp i er).made=_;rw[Hf];rfl,up hq⟩
 |iK k=>exact absurd hf id
 |c k i=>have hq:ep kd s.made k:=hq;exact⟨by show(nq (cz h) k (s.up.gp i 0)).s.made=_;rw[NC,Hf];rfl,RT (up hq)⟩
 |v1 k n=>have hq:ep kd s.made k:=hq;exact⟨rfl,up hq⟩
 |v2 k n f=>have hq:ep kd s.made k:=hq;exact⟨rfl,up hq⟩
 |v3 k n f=>
  have hq:ep kd s.made k:=hq;unfold tell;simp only;split
  ·refine nm _ _ rfl ?_;cases k with
   |sv a=>exact⟨hq.1,by have:=hq.2;show a<_;omega,λ _ _ _=>by have:=hq.2;show a+2<_;omega⟩
   |_=>exact up hq
  ·exact⟨rfl,up hq⟩
 |r1 k n=>have hq:ep kd s.made k:=hq;exact⟨rfl,up hq⟩
 |r2 k n er=>
  have hq:ep kd s.made k:=hq;unfold tell;simp only;split
  ·exact nm _ _ rfl (RW (up hq))
  ·exact⟨by rw[SA];rfl,RX (up hq) _⟩
 |rs k aM c cs=>have hq:ep kd s.made k:=hq;exact⟨by show(yY (cz h) k _ s.up cs).s.made=_;rw[SA];rfl,RX (up hq) _⟩
 |s1 k aM g gs aY=>
  have hq:ep kd s.made k:=hq;unfold tell;simp only;split
  ·exact⟨by rw[L3];rfl,Lq (up hq) _ _⟩
  ·exact⟨rfl,up hq⟩
 |w1 k aM g gs aY=>have hq:ep kd s.made k:=hq;exact⟨rfl,up hq⟩
 |w2 k aM g gs aY f=>have hq:ep kd s.made k:=hq;exact⟨rfl,up hq⟩
 |w3 k aM g gs aY f=>
  have hq:ep kd s.made k:=hq;unfold tell;simp only;split
  ·exact⟨by rw[L3];rfl,Lq (up hq) _ _⟩
  ·exact⟨rfl,up hq⟩
 |fin o=>exact absurd hf id
def yN:Pc Lk->Prop
 |.iK _=>False
 |_=>True
theorem Rq{k:Lk}{s:ah}:yN (nq (cz h) k s).pc:=by
 unfold nq;split
 ·exact trivial
 ·split
  ·exact trivial
  ·split
   ·exact trivial
   ·cases k<;>exact trivial
theorem K9{pc:Pc Lk}{s:ah}:yN (fN (cz h) pc s).pc:=by cases pc<;>first|exact Rq|exact trivial
theorem Rs{k:Lk}{aM:List Int}{s:ah}:∀(gs aY:List (Int×Int)),yN (vq (cz h) k aM s gs aY).pc
 |[],_=>K9
 |_::_,_=>trivial
theorem Rr{k:Lk}{aM:List Int}{s:ah}:∀(cs:List Ad),yN (yY (cz h) k aM s cs).pc
 |[]=>Rs _ _
 |_::_=>trivial
theorem aaZ{S:Nat}{q:Q Lk}{r:aD}(hq:yN q.pc):yN (tell (cz h) S q r).pc:=by
 obtain⟨pc,s⟩:=q;cases pc<;>simp only[tell]
 case iK=>exact hq
 all_goals first
  |exact K9
  |exact Rq
  |exact Rr _
  |exact trivial
  |(split<;>first|exact K9|exact Rr _|exact Rs _ _|exact trivial)
theorem adU{S:Nat}{q:Q Lk}{r:aD}{o:bf}(h1:q.pc=.fin o):tell (cz h) S q r=q:=by
 obtain⟨pc,s⟩:=q;subst h1
 rfl
theorem LX{S:Nat}:∀(log:List aD)(q:Q Lk),m8 kd q.s.made q.pc->yN q.pc->∃oy,sK (cz h) S q log=oy/\m8 kd oy.s.made oy.pc/\oy.s.made<=q.s.made+log.length
 |[],q,h1,_=>⟨q,rfl,h1,Nat.le_refl _⟩
 |r::log,q,h1,A=>by
  show∃oy,sK (cz h) S (tell (cz h) S q r) log=oy/\_;have key:m8 kd (tell (cz h) S q r).s.made (tell (cz h) S q r).pc/\(tell (cz h) S q r).s.made<=q.s.made+1:=by
   cases hp:q.pc with
   |fin o=>rw[adU hp];exact⟨h1,by omega⟩
   |iK k=>rw[hp] at A;exact absurd A id
   |_=>have:=abJ (S:=S) (r:=r) (h:=h) (q:=q) (by rw[hp];exact trivial) h1;rw[this.1];exact⟨this.2,Nat.le_refl _⟩
  obtain⟨oy,e,K,h4⟩:=LX log _ key.1 (aaZ A);exact⟨oy,e,K,by have:=key.2;simp only[List.length_cons];omega⟩
end
theorem Rp{l:ag}(hS:0<=l.az){D:Int}{gone:List (Int×Int)}{op:bt}{log:List aD}(F:(dw l D gone op log).2.2=true)(hp:0<=(dw l D gone op log).2.1.bS):
 (dw l D gone op log).2.1.bS<log.length/\(op.kind=2->(dw l D gone op log).2.1.is=false->(dw l D gone op log).2.1.err=0->(dw l D gone op log).2.1.bS+2<log.length):=by
 by_cases hh:op.obj<0\/l.size<=op.obj
 ·unfold dw at hp;rw[if_pos hh] at hp;exact absurd (show(0:Int)<=-1 from hp) (by omega)
 ·by_cases I:op.kind=1\/op.kind=2\/op.kind=3
  ·have e:=K8 (l:=l) (S:=l.az.toNat) (D:=D) (by omega) (gone:=gone) (op:=op) (log:=log) (h:=.ob op.obj) rfl hh I;obtain⟨oy,Y,h1,A⟩:=LX (S:=l.az.toNat) (h:=.ob op.obj) (kd:=op.kind) log (xe (.ob op.obj) op gone) (by
    show lb op.kind 0 (Ac op);unfold Ac;rcases I with I|I|I
    ·rw[if_pos I];show op.kind≠2;omega
    ·rw[if_neg (by omega),if_pos I];exact I
    ·rw[if_neg (by omega),if_neg (by omega)];show op.kind≠2;omega) trivial
   rw[Y] at e;rw[e] at hp F⊢;have A:oy.s.made<=log.length:=by have:(xe (.ob op.obj) op gone).s.made=0:=rfl;omega
   obtain⟨pc,s⟩:=oy;cases pc with
   |fin o=>obtain⟨K,h4,h5⟩:=h1;exact⟨by show o.bS<_;have:s.made<=log.length:=A;omega,λ a b c=>by have:=h5 a b c;show o.bS+2<_;have:s.made<=log.length:=A;omega⟩
   |_=>cases F
  ·unfold dw at hp;rw[if_neg hh,if_neg (by omega),if_neg (by omega),if_neg (by omega)] at hp;exact absurd (show(0:Int)<=-1 from hp) (by omega)
def k9(g:List (Int×Int)):Prop:=∀p∈g,p.1<9223372036854775808
structure Hs(n:Nat)(s M:ah):Prop where
 le:s.made<=n->M.made<=n
 ok:k9 s.gone->k9 M.gone
 made:s.made<=M.made
 len:M.gone.length+s.made<=s.gone.length+M.made
theorem Hs.refl{n:Nat}(s:ah):Hs n s s:=⟨id,id,Nat.le_refl _,Nat.le_refl _⟩
theorem Hs.trans{n:Nat}{a b c:ah}(h1:Hs n a b)(A:Hs n b c):Hs n a c:=⟨λ h=>A.le (h1.le h),λ h=>A.ok (h1.ok h),Nat.le_trans h1.made A.made,by have:=h1.len;have:=A.len;have:=h1.made;have:=A.made;omega⟩
def Hg{ar:Type}(m:Pm ar)(P:ar->Prop):Prop:=∀log s x M,m log s=.ok (x,M)->Hs log.length s M/\P x
section
variable{ar dh:Type}
theorem dP{x:ar}{P:ar->Prop}(h:P x):Hg (Pm.pure x) P:=λ log s y M e=>by
 cases e;exact⟨Hs.refl _,h⟩
theorem bC{m:Pm ar}{f:ar->Pm dh}{P:ar->Prop}{al:dh->Prop}(h1:Hg m P)(A:∀x,P x->Hg (f x) al):Hg (m.bind f) al:=λ log s y M e=>by
 unfold Pm.bind at e;cases h:m log s with
 |error a=>rw[h] at e;cases e
 |ok q=>obtain⟨x,s1⟩:=q;rw[h] at e;obtain⟨a1,a2⟩:=h1 log s x s1 h;obtain⟨b1,b2⟩:=A x a2 log s1 y M e;exact⟨a1.trans b1,b2⟩
theorem JI{m:Pm ar}{P al:ar->Prop}(h:Hg m P)(hp:∀x,P x->al x):Hg m al:=λ log s x M e=>⟨(h log s x M e).1,hp x (h log s x M e).2⟩
theorem XW{m:Pm ar}{P:ar->Prop}(h:Hg m P):Hg m (λ _=>True):=JI h λ _ _=>trivial
theorem FO(a:aT):Hg (fk a) (λ _=>True):=λ log s x M e=>by
 unfold fk at e;split at e
 ·rename_i r hr;cases e;have:=(List.getElem?_eq_some_iff.1 hr).1;exact⟨⟨λ _=>this,id,by simp,by simp⟩,trivial⟩
 ·cases e
theorem e6{c:Prop}[Decidable c]{m n:Pm ar}{P:ar->Prop}(h1:c->Hg m P)(A:¬c->Hg n P):Hg (if c then m else n) P:=by
 split
 ·exact h1 ‹_›
 ·exact A ‹_›
theorem ku(c:Int):Hg (cj c) (λ _=>True):=bC (FO _) λ _ _=>dP trivial
theorem qv(c v:Int):Hg (eH c v) (λ _=>True):=bC (FO _) λ _ _=>dP trivial
theorem mP(c o v:Int):Hg (eZ c o v) (λ _=>True):=bC (FO _) λ _ _=>dP trivial
theorem nC:Hg j4 (λ _=>True):=λ log s x M e=>by
 cases e;exact⟨Hs.refl _,trivial⟩
theorem PD(l:ag):∀k,Hg (nM l k) (λ _=>True)
 |0=>dP trivial
 |k+1=>bC (ku _) λ _ _=>e6 (λ _=>bC nC λ _ _=>dP trivial) λ _=>bC (ku _) λ _ _=>bC (mP _ _ _) λ _ _=>e6 (λ _=>bC nC λ _ _=>bC (ku _) λ _ _=>bC (qv _ _) λ _ _=>dP trivial) λ _=>PD l k
theorem JO(l:ag):Hg (pT l) (λ _=>True):=λ log s=>PD l _ log s
theorem Pw(l:ag)(n:Int):∀k,Hg (l9 l n k) (λ _=>True)
 |0=>dP trivial
 |k+1=>bC (ku _) λ _ _=>bC (qv _ _) λ _ _=>bC (mP _ _ _) λ _ _=>e6 (λ _=>dP trivial) λ _=>Pw l n k
theorem FQ(l:ag)(n:Int):Hg (mM l n) (λ _=>True):=λ log s=>Pw l n _ log s
theorem Zb{n:Nat}{s M:ah}{i v:Int}(h:Hs n (s.gp i v) M):Hs n s M:=by
 have h1:=Hf s i v;have A:(s.gp i v).gone=s.gone:=by
  unfold ah.gp;split
  ·rfl
  ·split<;>rfl
 exact⟨λ g=>h.le (by rw[h1];exact g),λ g=>h.ok (by rw[A];exact g),by have:=h.made;omega,by have:=h.len;rw[A] at this;omega⟩
theorem Px(l:ag)(D i c:Int):∀k,Hg (kO l D i c k) (λ _=>True)
 |0=>dP trivial
 |k+1=>bC (ku _) λ v _=>bC nC λ at_ _=>bC (ku _) λ era _=>λ log s x M e=>by
  split at e
  ·cases e;exact⟨Hs.refl _,trivial⟩
  ·refine bC (al:=λ _=>True) (qv _ _) (λ _ _=>?_) log s x M e;intro log s x M e;exact⟨Zb (Px l D i c k log _ x M e).1,trivial⟩
theorem C6(l:ag)(D i c:Int):Hg (kP l D i c) (λ _=>True):=λ log s=>Px l D i c _ log s
theorem Pr(l:ag)(D:Int):∀(es:List Int)(i:Nat),Hg (gG l D i es) (λ _=>True)
 |[],_=>dP trivial
 |e::es,i=>bC (P:=λ _=>True) (e6 (λ _=>dP trivial) λ _=>bC (qv _ _) λ _ _=>λ log s x M h=>by
   cases h;refine⟨?_,trivial⟩
   match i with
   |0=>exact⟨id,id,Nat.le_refl _,Nat.le_refl _⟩
   |1=>exact⟨id,id,Nat.le_refl _,Nat.le_refl _⟩
   |_+2=>exact⟨id,id,Nat.le_refl _,Nat.le_refl _⟩) λ _ _=>Pr l D es (i+1)
theorem q8(l:ag)(D:Int):Hg (ge l D) (λ _=>True):=λ log s=>Pr l D _ _ log s
theorem Py:∀(cs acc:List Int),Hg (j5 acc cs) (λ _=>True)
 |[],_=>dP trivial
 |_::cs,_=>bC (ku _) λ _ _=>Py cs _
theorem JN(l:ag)(aM:List Int):∀(gs aY:List (Int×Int)),Hg (fa l aM gs aY) (λ r=>r.length<=gs.length+aY.length/\(k9 gs->k9 aY->k9 r))
 |[],aY=>dP ⟨by simp,λ _ h=>h⟩
 |g::gs,aY=>bC (ku _) λ _ _=>e6 (λ _=>JI (JN l aM gs (aY++[g])) λ r h=>⟨by have:=h.1;simp only[List.length_append,List.length_cons,List.length_nil] at this⊢;omega,λ h1 A=>h.2 (λ p hp=>h1 p (List.mem_cons_of_mem _ hp)) λ p hp=>by
  rcases List.mem_append.1 hp with hp|hp
  ·exact A p hp
  ·simp only[List.mem_singleton] at hp;subst hp;exact h1 _ List.mem_cons_self⟩)
   λ _=>bC (FQ l g.1) λ _ _=>JI (JN l aM gs aY) λ r h=>⟨by have:=h.1;simp only[List.length_cons];omega,λ h1 A=>h.2 (λ p hp=>h1 p (List.mem_cons_of_mem _ hp)) A⟩
theorem EU{m:Pm ar}{f:ar->Pm dh}{log:List aD}{s M:ah}{y:dh}(e:m.bind f log s=.ok (y,M)):∃x s1,m log s=.ok (x,s1)/\f x log s1=.ok (y,M):=by
 unfold Pm.bind at e;cases h:m log s with
 |error a=>rw[h] at e;cases e
 |ok q=>rw[h] at e;exact⟨q.1,q.2,rfl,e⟩
theorem ac5{l:ag}{g:List (Int×Int)}{log:List aD}{s M:ah}{af:Unit}(e:pR l g log s=.ok (af,M)):s.made<=M.made/\M.gone.length<=g.length/\(k9 g->k9 M.gone)/\(s.made<=log.length->M.made<=log.length):=by obtain⟨aM,s1,e1,e⟩:=EU e;obtain⟨aY,s2,e2,e⟩:=EU e;cases e;have h1:=(Py _ _ _ _ _ _ e1).1;have A:=JN l aM g [] _ _ _ _ e2;exact⟨Nat.le_trans h1.made A.1.made,by simpa using A.2.1,λ h=>A.2.2 h (λ p hp=>absurd hp List.not_mem_nil),λ h=>A.1.le (h1.le h)⟩
theorem FS(l:ag)(n:Int)(hn:n<9223372036854775808):Hg (jF l n) (λ _=>True):=by
 refine bC (ku _) λ era _=>?_
 intro log s x M e;obtain⟨r,s1,e1,e⟩:=EU e;have e8:s1={s with made:=s.made+1}/\s.made<log.length:=by
  unfold fk at e1;split at e1
  ·rename_i r hr;cases e1;exact⟨rfl,(List.getElem?_eq_some_iff.1 hr).1⟩
  ·cases e1
 obtain⟨e8,ba⟩:=e8;subst e8;have CR:k9 s.gone->k9 (s.gone++[(n,era)]):=λ h p hp=>by
  rcases List.mem_append.1 hp with hp|hp
  ·exact h p hp
  ·simp only[List.mem_singleton] at hp;subst hp;exact hn
 simp only at e;split at e
 ·cases e;exact⟨⟨λ _=>ba,CR,by simp,by simp;omega⟩,trivial⟩
 ·obtain⟨h1,A,K,h4⟩:=ac5 e;simp only[List.length_append,List.length_cons,List.length_nil] at h1 A;exact⟨⟨λ _=>h4 ba,λ h=>K (CR h),by omega,by omega⟩,trivial⟩
theorem D6(n:Int):(ay n).idx<9223372036854775808:=by have:=(lj n).2;omega
theorem AB(l:ag)(D F o:Int):∀(k:Nat)(x:Option EM),(∀w,x=some w->w.cur<9223372036854775808)->Hg (ju l D F o k x) (λ f=>f.cur<9223372036854775808)
 |0,_,_=>dP (by show(0:Int)<_;omega)
 |k+1,none,_=>bC (C6 _ _ _ _) λ p _=>AB l D F o k _ λ w hw=>by cases hw;exact D6 _
 |k+1,some x,O=>e6 (λ _=>dP (by show(0:Int)<_;omega)) λ _=>bC (C6 _ _ _ _) λ p _=>bC (ku _) λ seen _=>bC nC λ look _=>
   e6 (λ _=>bC (ku _) λ dX _=>
    e6 (λ _=>bC (mP _ _ _) λ ok _=>e6 (λ _=>bC nC λ at_ _=>bC (FS l _ (O _ rfl)) λ _ _=>AB l D F o k _ λ w hw=>by cases hw;exact D6 _) λ _=>AB l D F o k none λ w hw=>by cases hw) λ _=>
    e6 (λ _=>AB l D F o k _ λ w hw=>by cases hw;exact D6 _) λ _=>
    e6 (λ _=>dP (O _ rfl)) λ _=>dP (O _ rfl))
   λ _=>AB l D F o k none λ w hw=>by cases hw
theorem FP(l:ag)(D F o:Int):Hg (qU l D F o) (λ f=>f.cur<9223372036854775808):=λ log s=>AB l D F o _ none (λ w hw=>by cases hw) log s
theorem uC(l:ag)(D:Int)(o:bf):Hg (jC l D o) (λ _=>True):=bC (q8 _ _) λ _ _=>dP trivial
theorem Pv(l:ag)(D F o:Int):Hg (getM l D F o) (λ _=>True):=bC (FP _ _ _ _) λ _ _=>e6 (λ _=>bC (ku _) λ _ _=>uC _ _ _) λ _=>uC _ _ _
theorem Pz(l:ag)(f:kc)(n:Int):Hg (vf l f n) (λ _=>True):=bC (qv _ _) λ _ _=>bC (mP _ _ _) λ _ _=>e6 (λ _=>bC nC λ _ _=>dP trivial) λ _=>dP trivial
theorem JM(l:ag)(D F o v:Int):∀(k:Nat)(n:Int),Hg (tV l D F o v k n) (λ _=>True)
 |0,_=>dP trivial
 |k+1,n=>bC (FP _ _ _ _) λ _ _=>e6 (λ _=>e6 (λ _=>uC _ _ _) λ _=>bC (FQ _ _) λ _ _=>uC _ _ _) λ _=>
   e6 (λ _=>bC (JO _) λ t _=>e6 (λ _=>bC (qv _ _) λ _ _=>bC (qv _ _) λ _ _=>bC (Pz _ _ _) λ r _=>by
    cases r with
    |some a=>exact uC _ _ _
    |none=>exact JM l D F o v k _) λ _=>uC _ _ _) λ _=>bC (Pz _ _ _) λ r _=>by
    cases r with
    |some a=>exact uC _ _ _
    |none=>exact JM l D F o v k _
theorem PA(l:ag)(D F o v:Int):Hg (rA l D F o v) (λ _=>True):=λ log s=>JM l D F o v _ 0 log s
theorem Ps(l:ag)(D F o:Int):∀(k:Nat),Hg (vT l D F o k) (λ _=>True)
 |0=>dP trivial
 |k+1=>bC (FP _ _ _ _) λ _ hf=>e6 (λ _=>bC (mP _ _ _) λ _ _=>e6 (λ _=>bC nC λ _ _=>bC (mP _ _ _) λ _ _=>e6 (λ _=>bC (q8 _ _) λ _ _=>bC (FS l _ hf) λ _ _=>dP trivial) λ _=>bC (XW (FP _ _ _ _)) λ _ _=>uC _ _ _) λ _=>Ps l D F o k) λ _=>uC _ _ _
theorem Pt(l:ag)(D F o:Int):Hg (qR l D F o) (λ _=>True):=λ log s=>Ps l D F o _ log s
end
theorem xJ{m:Pm bf}{P:bf->Prop}(hm:Hg m P){gone:List (Int×Int)}{log:List aD}(F:(lB (m log ⟨0,gone,0,0,0⟩)).2.2=true)(hg:k9 gone):k9 (lB (m log ⟨0,gone,0,0,0⟩)).2.1.gone/\(lB (m log ⟨0,gone,0,0,0⟩)).2.1.gone.length<=gone.length+log.length:=by
 cases h:m log ⟨0,gone,0,0,0⟩ with
 |error a=>rw[h] at F;cases F
 |ok q=>obtain⟨x,M⟩:=q;obtain⟨h1,_⟩:=hm _ _ _ _ h;have:=h1.len;have:=h1.le (Nat.zero_le _);exact⟨h1.ok hg,by show M.gone.length<=_;simp only at*;omega⟩
theorem IX{m:Pm bf}{P:bf->Prop}(hm:Hg m P){gone:List (Int×Int)}{log:List aD}(F:(lB (m log ⟨0,gone,0,0,0⟩)).2.2=true):(lB (m log ⟨0,gone,0,0,0⟩)).2.1.gone.length<=gone.length+log.length:=by
 cases h:m log ⟨0,gone,0,0,0⟩ with
 |error a=>rw[h] at F;cases F
 |ok q=>obtain⟨x,M⟩:=q;obtain⟨h1,_⟩:=hm _ _ _ _ h;have:=h1.len;have:=h1.le (Nat.zero_le _);show M.gone.length<=_;simp only at*;omega
theorem aaS{l:ag}{D:Int}{gone:List (Int×Int)}{op:bt}{log:List aD}(F:(dw l D gone op log).2.2=true):(dw l D gone op log).2.1.gone.length<=gone.length+log.length:=by
 unfold dw at F⊢;split at F
 ·rw[if_pos ‹_›];exact Nat.le_add_right _ _
 ·rw[if_neg ‹_›];split at F
  ·rw[if_pos ‹_›];exact IX (Pv _ _ _ _) F
  ·rw[if_neg ‹_›];split at F
   ·rw[if_pos ‹_›];exact IX (PA _ _ _ _ _) F
   ·rw[if_neg ‹_›];split at F
    ·rw[if_pos ‹_›];exact IX (Pt _ _ _ _) F
    ·rw[if_neg ‹_›];exact Nat.le_add_right _ _
theorem D0{l:ag}{D:Int}{gone:List (Int×Int)}{op:bt}{log:List aD}(F:(dw l D gone op log).2.2=true)(hg:k9 gone):k9 (dw l D gone op log).2.1.gone/\(dw l D gone op log).2.1.gone.length<=gone.length+log.length:=by
 unfold dw at F⊢;split at F
 ·rw[if_pos ‹_›];exact⟨hg,Nat.le_add_right _ _⟩
 ·rw[if_neg ‹_›];split at F
  ·rw[if_pos ‹_›];exact xJ (Pv _ _ _ _) F hg
  ·rw[if_neg ‹_›];split at F
   ·rw[if_pos ‹_›];exact xJ (PA _ _ _ _ _) F hg
   ·rw[if_neg ‹_›];split at F
    ·rw[if_pos ‹_›];exact xJ (Pt _ _ _ _) F hg
    ·rw[if_neg ‹_›];exact⟨hg,Nat.le_add_right _ _⟩
theorem aaU{l:ag}(hS:0<=l.az){D:Int}{gone:List (Int×Int)}{op:bt}{log:List aD}{k:Nat}(F:(dw l D gone op (log.take k)).2.2=true):dw l D gone op log=dw l D gone op (log.take k):=by
 by_cases hh:op.obj<0\/l.size<=op.obj
 ·unfold dw;rw[if_pos hh,if_pos hh]
 ·by_cases I:op.kind=1\/op.kind=2\/op.kind=3
  ·have e:=λ log=>K8 (l:=l) (S:=l.az.toNat) (D:=D) (by omega) (gone:=gone) (op:=op) (log:=log) (h:=.ob op.obj) rfl hh I
   rw[e] at F;rw[e,e];have hr:sK (cz (.ob op.obj)) l.az.toNat (xe (.ob op.obj) op gone) log=sK (cz (.ob op.obj)) l.az.toNat (sK (cz (.ob op.obj)) l.az.toNat (xe (.ob op.obj) op gone) (log.take k)) (log.drop k):=by unfold sK;rw[<-List.foldl_append,List.take_append_drop]
   rw[hr];generalize sK (cz (.ob op.obj)) l.az.toNat (xe (.ob op.obj) op gone) (log.take k)=q at F⊢;obtain⟨pc,s⟩:=q;cases pc with
   |fin o=>
    have:∀rest:List aD,sK (cz (.ob op.obj)) l.az.toNat ⟨.fin o,s⟩ rest=⟨.fin o,s⟩:=λ rest=>by
     induction rest with
     |nil=>rfl
     |cons r rest ih=>exact ih
    rw[this]
   |_=>cases F
  ·unfold dw;rw[if_neg hh,if_neg (by omega),if_neg (by omega),if_neg (by omega),if_neg hh,if_neg (by omega),if_neg (by omega),if_neg (by omega)]
theorem aaT{l:ag}(hS:0<=l.az){D:Int}{gone:List (Int×Int)}{op:bt}{log:List aD}(F:(dw l D gone op log).2.2=true)(he:(dw l D gone op log).2.1.err=0):0<=(dw l D gone op log).2.1.bS:=by
 by_cases hh:op.obj<0\/l.size<=op.obj
 ·unfold dw at he;rw[if_pos hh] at he;exact absurd (show(1:Int)=0 from he) (by omega)
 ·by_cases I:op.kind=1\/op.kind=2\/op.kind=3
  ·have e:=K8 (l:=l) (S:=l.az.toNat) (D:=D) (by omega) (gone:=gone) (op:=op) (log:=log) (h:=.ob op.obj) rfl hh I;obtain⟨oy,Y,h1,A⟩:=LX (S:=l.az.toNat) (h:=.ob op.obj) (kd:=op.kind) log (xe (.ob op.obj) op gone) (by
    show lb op.kind 0 (Ac op);unfold Ac;rcases I with I|I|I
    ·rw[if_pos I];show op.kind≠2;omega
    ·rw[if_neg (by omega),if_pos I];exact I
    ·rw[if_neg (by omega),if_neg (by omega)];show op.kind≠2;omega) trivial
   rw[Y] at e;rw[e] at F⊢;obtain⟨pc,s⟩:=oy;cases pc with
   |fin o=>exact h1.1
   |_=>cases F
  ·unfold dw at he;rw[if_neg hh,if_neg (by omega),if_neg (by omega),if_neg (by omega)] at he;exact absurd (show(1:Int)=0 from he) (by omega)
def GU(l:ag)(eP:Int):Int:=if aE l eP 0<0 then l.done else aE l eP 0
theorem uf{l:ag}{D:Int}{gone:List (Int×Int)}{kind eP dX v:Int}{lg:List aD}:(km l D gone kind eP dX v lg).2=(dw l D gone ⟨kind,GU l eP,dX,v⟩ lg).2:=by unfold km GU;simp only;generalize(if aE l eP 0<0 then l.done else aE l eP 0)=ob;split<;>rfl
theorem Oc{f:Nat->Bool}:∀(n k:Nat),f (k+n)=true->f (nv f n k)=true/\k<=nv f n k/\nv f n k<=k+n
 |0,k,h=>⟨h,Nat.le_refl _,Nat.le_refl _⟩
 |n+1,k,h=>by
  unfold nv;split
  ·exact⟨‹_›,Nat.le_refl _,Nat.le_add_right _ _⟩
  ·obtain⟨h1,A,K⟩:=Oc n (k+1) (by rw[show k+1+n=k+(n+1) by omega];exact h);exact⟨h1,by omega,by omega⟩
section
variable{l:ag}{D kind eP dX v:Int}{log:List aD}{s M:ah}{o:bf×aT}
theorem KS(hS:0<=l.az)(hm:s.made<=log.length)(e:oh l D kind eP dX v log s=.ok (o,M)):
 Hs log.length s M/\(kind=2->o.1.is=false->o.1.err=0->0<=o.1.bS/\o.1.bS+2<log.length):=by
 unfold oh at e;simp only at e
 by_cases F:(km l D s.gone kind eP dX v (log.drop s.made)).2.2=false
 ·rw[if_pos F] at e;cases e
 rw[if_neg F] at e;have xW:(km l D s.gone kind eP dX v (log.drop s.made)).2.2=true:=by simpa using F
 rw[uf] at xW
 by_cases hp:(km l D s.gone kind eP dX v (log.drop s.made)).2.1.bS<0
 ·rw[if_pos hp] at e;cases e;refine⟨Hs.refl _,λ h1 A K=>?_⟩;rw[uf] at hp K;have:=aaT hS xW K;omega
 ·rw[if_neg hp] at e;have YS:=hp;rw[uf] at YS;obtain⟨q1,q2⟩:=Rp hS xW (by omega);have ci:(log.drop s.made).length=log.length-s.made:=List.length_drop;have pH:(km l D s.gone kind eP dX v (log.drop s.made)).2.1.bS.toNat+1<=(log.drop s.made).length:=by rw[uf];omega
  generalize hf:(λ k=>(km l D s.gone kind eP dX v ((log.drop s.made).take k)).2.2)=f at e;have JH:f (((km l D s.gone kind eP dX v (log.drop s.made)).2.1.bS.toNat+1)+((log.drop s.made).length-((km l D s.gone kind eP dX v (log.drop s.made)).2.1.bS.toNat+1)))=true:=by rw[show((km l D s.gone kind eP dX v (log.drop s.made)).2.1.bS.toNat+1)+((log.drop s.made).length-((km l D s.gone kind eP dX v (log.drop s.made)).2.1.bS.toNat+1))=(log.drop s.made).length by omega,<-hf];simp only[List.take_length];rw[uf];exact xW
  obtain⟨k1,k2,k3⟩:=Oc _ _ JH;generalize hK:nv f _ _=aL at e k1 k2 k3;rw[<-hf] at k1;simp only at k1;rw[uf] at k1;have same:=aaU hS k1;cases e;refine⟨⟨λ _=>by simp only;omega,λ hg=>?_,by simp,?_⟩,λ h1 A K=>?_⟩
  ·show k9 (km l D s.gone kind eP dX v (log.drop s.made)).2.1.gone;rw[uf,same];exact(D0 k1 hg).1
  ·show(km l D s.gone kind eP dX v (log.drop s.made)).2.1.gone.length+s.made<=s.gone.length+(s.made+aL);rw[uf,same];have cT:(dw l D s.gone ⟨kind,GU l eP,dX,v⟩ ((log.drop s.made).take aL)).2.1.gone.length<=s.gone.length+((log.drop s.made).take aL).length:=by
    have:=@aaS l D s.gone ⟨kind,GU l eP,dX,v⟩ ((log.drop s.made).take aL) k1;exact this
   rw[List.length_take] at cT;omega
  ·simp only at A K⊢;rw[uf] at A K⊢;have:=q2 h1 A K;omega
end
def Hl{ar:Type}(m:Pm ar):Prop:=∀log s x M,s.made<=log.length->m log s=.ok (x,M)->Hs log.length s M
section
variable{ar dh:Type}
theorem pE{x:ar}:Hl (Pm.pure x):=λ _ _ _ _ _ e=>by cases e;exact Hs.refl _
theorem AC(a:aT):Hl (fk a):=λ log s x M _ e=>(FO a log s x M e).1
theorem q9{m:Pm ar}{f:ar->Pm dh}(h1:Hl m)(A:∀x,Hl (f x)):Hl (m.bind f):=λ log s y M hm e=>by
 obtain⟨x,s1,e1,e2⟩:=EU e;have a:=h1 log s x s1 hm e1;exact a.trans (A x log s1 y M (a.le hm) e2)
theorem tD{c:Prop}[Decidable c]{m n:Pm ar}(h1:Hl m)(A:Hl n):Hl (if c then m else n):=by
 split
 ·exact h1
 ·exact A
theorem Yt(o:bf×aT):Hl (HF o):=λ _ _ _ _ _ e=>by cases e;exact Hs.refl _
theorem PQ{l:ag}(hS:0<=l.az)(D kind eP dX v:Int):Hl (oh l D kind eP dX v):=λ _ _ _ _ hm e=>(KS hS hm e).1
theorem PP{l:ag}(hS:0<=l.az)(D m:Int):∀(k:Nat)(b:Int),Hl (lu l D m k b)
 |0,_=>pE
 |k+1,_=>q9 (AC _) λ _=>tD pE (tD pE (q9 (PP hS D m k _) λ _=>tD pE (q9 (PQ hS _ _ _ _ _) λ _=>tD pE (q9 (Yt _) λ _=>q9 (AC _) λ _=>pE))))
theorem Yr{l:ag}(m kind size:Int):Hl (p7 l m kind size):=tD (q9 (AC _) λ _=>tD (q9 (AC _) λ _=>pE) pE) (tD (q9 (AC _) λ _=>pE) pE)
theorem Ys{l:ag}(hS:0<=l.az)(D:Int)(op:bt):Hl (sL l D op):=q9 (AC _) λ _=>tD pE (q9 (PP hS _ _ _ _) λ _=>tD pE (q9 (PQ hS _ _ _ _ _) λ _=>tD (q9 (Yr _ _ _) λ _=>pE) pE))
end
theorem YL{l:ag}(hS:0<=l.az){D:Int}{gone:List (Int×Int)}{op:bt}{log:List aD}(F:(rd l D gone op log).2.2=true)(hg:k9 gone):k9 (rd l D gone op log).2.1.gone/\(rd l D gone op log).2.1.gone.length<=gone.length+log.length:=by
 unfold rd at F⊢;split at F
 ·rw[if_pos ‹_›];exact⟨hg,Nat.le_add_right _ _⟩
 ·rw[if_neg ‹_›];cases h:sL l D op log ⟨0,gone,0,0,0⟩ with
  |error a=>rw[h] at F;cases F
  |ok q=>obtain⟨x,M⟩:=q;have h1:=Ys hS D op _ _ _ _ (Nat.zero_le _) h;have:=h1.len;have:=h1.le (Nat.zero_le _);exact⟨h1.ok hg,by show M.gone.length<=_;simp only at*;omega⟩
abbrev aZ:=List (Int×Int)
def uc(S:aZ):Prop:=S.Pairwise λ x y=>x.1<y.1
def iN(S:aZ)(a:Int):Nat:=S.findIdx λ y=>decide (y.1=a)
def nG:aZ->Int×Int->aZ
 |[],x=>[x]
 |y::S,x=>if x.1<y.1 then x::y::S else y::nG S x
def nU(S:aZ)(op:bt):aZ×Int×Bool:=
 if op.kind=1 then(if iN S op.a<S.length then(S,(S.getD (iN S op.a) (0,0)).2,true) else(S,0,false))
 else if op.kind=2 then(if iN S op.a<S.length then(S,0,false) else(nG S (op.a,op.b),0,true))
 else if op.kind=3 then(if iN S op.a<S.length then(S.eraseIdx (iN S op.a),0,true) else(S,0,false))
 else(S,0,false)
theorem Gv(x:Int×Int):∀S:aZ,(nG S x).Perm (x::S)
 |[]=>.refl _
 |y::S=>by
  rw[nG];split
  ·exact .refl _
  ·exact(List.Perm.cons _ (Gv x S)).trans (List.Perm.swap _ _ _)
theorem QH{x:Int×Int}:∀{S:aZ},uc S->(∀y∈S,y.1≠x.1)->uc (nG S x)
 |[],_,_=>List.pairwise_singleton _ _
 |y::S,h,hn=>by
  have h1:=List.pairwise_cons.1 h;rw[nG];split
  ·rename_i ba;refine List.pairwise_cons.2 ⟨λ z hz=>?_,h⟩;rcases List.mem_cons.1 hz with rfl|hz
   ·exact ba
   ·have:=h1.1 z hz;omega
  ·rename_i ba;refine List.pairwise_cons.2 ⟨λ z hz=>?_,QH h1.2 λ z hz=>hn z (by simp[hz])⟩;rcases List.mem_cons.1 ((Gv x S).mem_iff.1 hz) with rfl|hz
   ·have:=hn y (by simp);omega
   ·exact h1.1 z hz
theorem Oa{a v:Int}:∀{S:aZ},uc S->(a,v)∈S->∃aa ap,S=aa++(a,v)::ap/\iN S a=aa.length
 |[],_,h=>by cases h
 |y::S,h,hm=>by
  have h1:=List.pairwise_cons.1 h;unfold iN;rw[List.findIdx_cons]
  by_cases hy:y.1=a
  ·rcases List.mem_cons.1 hm with e|hm
   ·exact⟨[],S,by rw[e];rfl,by simp[hy]⟩
   ·have:=h1.1 _ hm;simp only at this;omega
  ·rcases List.mem_cons.1 hm with e|hm
   ·exact absurd (by rw[<-e]) hy
   ·obtain⟨aa,ap,e1,e2⟩:=Oa h1.2 hm;unfold iN at e2;exact⟨y::aa,ap,by rw[e1];rfl,by simp[hy,e2]⟩
theorem Ww{a:Int}{S:aZ}(h:∀v,(a,v)∉S):¬iN S a<S.length:=by intro ba;have h1:=List.findIdx_getElem (w:=ba);have A:(S[iN S a]'ba).1=a:=of_decide_eq_true h1;have K:S[iN S a]'ba∈S:=List.getElem_mem ba;generalize S[iN S a]'ba=y at A K;exact h y.2 (by rw[<-A];exact K)
theorem Tt:∀{S ae:aZ},uc S->uc ae->S.Perm ae->S=ae
 |[],ae,_,_,hp=>(List.nil_perm.1 hp).symm
 |x::S,[],_,_,hp=>absurd (List.perm_nil.1 hp) (by simp)
 |x::S,y::ae,hS,hT,hp=>by
  have h1:=List.pairwise_cons.1 hS;have A:=List.pairwise_cons.1 hT;have e:x=y:=by
   rcases List.mem_cons.1 (hp.mem_iff.1 (show x∈x::S by simp)) with e|O
   ·exact e
   ·rcases List.mem_cons.1 (hp.mem_iff.2 (show y∈y::ae by simp)) with e|hy
    ·exact e.symm
    ·have:=h1.1 y hy;have:=A.1 x O;omega
  subst e;rw[Tt h1.2 A.2 hp.cons_inv]
def dZ(S:aZ):Prop:=S.Pairwise λ x y=>x.1<=y.1
def oR(k:Int)(S:aZ):aZ:=S.filter λ x=>decide (x.1=k)
def gq(S ae:aZ):Prop:=∀k,oR k S=oR k ae
theorem gq.refl(S:aZ):gq S S:=λ _=>rfl
theorem gq.trans{S ae bJ:aZ}(h:gq S ae)(bL:gq ae bJ):gq S bJ:=λ k=>(h k).trans (bL k)
theorem gq.symm{S ae:aZ}(h:gq S ae):gq ae S:=λ k=>(h k).symm
theorem FH(k:Int)(S ae:aZ):oR k (S++ae)=oR k S++oR k ae:=List.filter_append ..
theorem gq.app{S ae bJ V:aZ}(h:gq S ae)(bL:gq bJ V):gq (S++bJ) (ae++V):=λ k=>by rw[FH,FH,h k,bL k]
theorem gq.swap{ab B:aZ}(h:∀x∈ab,∀y∈B,x.1≠y.1):gq (ab++B) (B++ab):=λ k=>by
 rw[FH,FH]
 by_cases ha:oR k ab=[]
 ·rw[ha];simp
 ·have T:oR k B=[]:=by
   rw[oR,List.filter_eq_nil_iff];intro y hy he;obtain⟨x,O⟩:=List.exists_mem_of_ne_nil _ ha;obtain⟨bO,dj⟩:=List.mem_filter.1 O;exact h x bO y hy ((of_decide_eq_true dj).trans (of_decide_eq_true he).symm)
  rw[T];simp
theorem gq.mem{S ae:aZ}(h:gq S ae){x:Int×Int}(O:x∈S):x∈ae:=by have h1:x∈oR x.1 S:=List.mem_filter.2 ⟨O,decide_eq_true rfl⟩;rw[h x.1] at h1;exact(List.mem_filter.1 h1).1
theorem N6:∀{S ae:aZ},dZ S->dZ ae->gq S ae->S=ae
 |[],[],_,_,_=>rfl
 |[],y::ae,_,_,h=>by have:=h.symm.mem (x:=y) (by simp);cases this
 |x::S,[],_,_,h=>by have:=h.mem (x:=x) (by simp);cases this
 |x::S,y::ae,hS,hT,h=>by
  have h1:=List.pairwise_cons.1 hS;have A:=List.pairwise_cons.1 hT;have e:x.1=y.1:=by
   have q1:y.1<=x.1:=by
    rcases List.mem_cons.1 (h.mem (x:=x) (by simp)) with e|O
    ·rw[e];exact Int.le_refl _
    ·exact A.1 x O
   have q2:x.1<=y.1:=by
    rcases List.mem_cons.1 (h.symm.mem (x:=y) (by simp)) with e|hy
    ·rw[e];exact Int.le_refl _
    ·exact h1.1 y hy
   omega
  have L:∀(k:Int)(z:Int×Int)(bJ:aZ),oR k (z::bJ)=if z.1=k then z::oR k bJ else oR k bJ:=λ k z bJ=>by
   unfold oR;rw[List.filter_cons]
   by_cases hz:z.1=k
   ·rw[if_pos (decide_eq_true hz),if_pos hz]
   ·rw[if_neg (by simpa using hz),if_neg hz]
  have O:=h x.1;rw[L,L,if_pos rfl,if_pos e.symm] at O;injection O with bO dj
  subst bO;rw[N6 h1.2 A.2 λ k=>by
   have I:=h k;rw[L,L] at I
   by_cases hz:x.1=k
   ·rw[if_pos hz,if_pos hz] at I;injection I
   ·rw[if_neg hz,if_neg hz] at I;exact I]
structure jj(S ae:aZ):Prop where
 len:ae.length=S.length
 up:dZ ae
 px:gq S ae
theorem dZ.app{ab B:aZ}(hA:dZ ab)(hB:dZ B)(h:∀x∈ab,∀y∈B,x.1<=y.1):dZ (ab++B):=List.pairwise_append.2 ⟨hA,hB,h⟩
theorem dZ.left{ab B:aZ}(h:dZ (ab++B)):dZ ab:=(List.pairwise_append.1 h).1
theorem dZ.right{ab B:aZ}(h:dZ (ab++B)):dZ B:=(List.pairwise_append.1 h).2.1
theorem dZ.le{ab B:aZ}(h:dZ (ab++B)):∀x∈ab,∀y∈B,x.1<=y.1:=(List.pairwise_append.1 h).2.2
theorem dZ.nil:dZ []:=List.Pairwise.nil
theorem dZ.one(x:Int×Int):dZ [x]:=List.pairwise_singleton _ _
theorem dZ.at{S:aZ}(h:dZ S){i j:Nat}{x y:Int×Int}(X:S[i]?=some x)(hj:S[j]?=some y)(jT:i<=j):x.1<=y.1:=by
 rcases Nat.eq_or_lt_of_le jT with rfl|ba
 ·rw[X] at hj;cases hj;exact Int.le_refl _
 ·obtain⟨q1,q2⟩:=List.getElem?_eq_some_iff.1 X;obtain⟨q3,q4⟩:=List.getElem?_eq_some_iff.1 hj;rw[<-q2,<-q4];exact List.pairwise_iff_getElem.1 h i j q1 q3 ba
theorem Ts{ab B:aZ}{x:Int×Int}(h:dZ (ab++B))(ha:∀y∈ab,y.1<=x.1)(T:∀y∈B,x.1<=y.1):dZ (ab++x::B):=
 h.left.app (List.pairwise_cons.2 ⟨T,h.right⟩) λ y hy z hz=>by
  rcases List.mem_cons.1 hz with rfl|hz
  ·exact ha y hy
  ·exact h.le y hy z hz
theorem adB{P Q:aZ}{x:Int×Int}(h:dZ (P++Q))(hp:∀y∈P,y.1<x.1)(hq:∀y∈Q,x.1<=y.1):jj (x::(P++Q)) (P++x::Q):=
 ⟨by simp;omega,Ts h (λ y hy=>by have:=hp y hy;omega) hq,by
  have h1:=gq.swap (ab:=[x]) (B:=P) λ a ha y hy=>by
   have:a=x:=by simpa using ha
   subst this;have:=hp y hy;omega
  have:=h1.app (.refl Q)
  simpa using this⟩
theorem L6{P Q:aZ}{x:Int×Int}(h:dZ (P++Q))(hp:∀y∈P,y.1<=x.1)(hq:∀y∈Q,x.1<y.1):jj ((P++Q)++[x]) (P++x::Q):=
 ⟨by simp,Ts h hp (λ y hy=>by have:=hq y hy;omega),by
  have h1:=gq.swap (ab:=Q) (B:=[x]) λ y hy a ha=>by
   have:a=x:=by simpa using ha
   subst this;have:=hq y hy;omega
  have:=(gq.refl P).app h1
  simpa using this⟩
theorem adA{A1 A2 B1 B2 aC al:aZ}(h1:dZ (A1++A2))(A:dZ (B1++B2))(r8:∀x∈A1,∀y∈B2,x.1<=y.1)(O3:∀y∈B1,∀x∈A2,y.1<x.1)(Z:jj (A1++B1) aC)(hR:jj (A2++B2) al):jj (A1++A2++(B1++B2)) (aC++al):=by
 refine⟨by have:=Z.len;have:=hR.len;simp only[List.length_append] at*;omega,Z.up.app hR.up λ x O y hy=>?_,?_⟩
 ·rcases List.mem_append.1 (Z.px.symm.mem O) with O|O<;>rcases List.mem_append.1 (hR.px.symm.mem hy) with hy|hy
  ·exact h1.le x O y hy
  ·exact r8 x O y hy
  ·have:=O3 x O y hy;omega
  ·exact A.le x O y hy
 ·have K:gq (A1++A2++(B1++B2)) (A1++B1++(A2++B2)):=by
   have h4:=gq.swap (ab:=A2) (B:=B1) λ x O y hy=>by have:=O3 y hy x O;omega
   have:=((gq.refl A1).app h4).app (.refl B2)
   simpa using this
  exact K.trans (Z.px.app hR.px)
theorem SO{B:aZ}(h:dZ B):jj ([]++B) B:=⟨rfl,h,.refl _⟩
theorem SP{ab:aZ}(h:dZ ab):jj (ab++[]) ab:=⟨by simp,h,by rw[List.append_nil];exact .refl _⟩
inductive oK(k:Nat):aZ->Prop where
 |nil:oK k []
 |cons {ab aH:aZ} (hA:ab.length=k) (hU:dZ ab) (hD:oK k aH):oK k (ab++aH)
theorem oK.snoc{k:Nat}{aH ab:aZ}(h:oK k aH)(hA:ab.length=k)(hU:dZ ab):oK k (aH++ab):=by
 induction h with
 |nil=>have:=oK.cons hA hU .nil;simpa using this
 |cons hB hV hD ih=>rw[List.append_assoc];exact .cons hB hV ih
theorem oK.len{k:Nat}{aH:aZ}(h:oK k aH):∃q,aH.length=q*k:=by
 induction h with
 |nil=>exact⟨0,by simp⟩
 |cons hB hV hD ih=>obtain⟨q,hq⟩:=ih;exact⟨q+1,by rw[List.length_append,hB,hq,Nat.add_mul];omega⟩
theorem oK.take{k:Nat}{aH:aZ}(h:oK k aH)(I:k<=aH.length)(h0:0<k):∃ab pX,aH=ab++pX/\ab.length=k/\dZ ab/\oK k pX:=by
 cases h with
 |nil=>simp at I;omega
 |cons hA hU hD=>exact⟨_,_,rfl,hA,hU,hD⟩
structure sT(k:Nat)(aH al:aZ):Prop where
 runs:oK k aH
 up:dZ al
 lt:al.length<k
theorem sT.one{k:Nat}{aH al:aZ}(h:sT k aH al)(I:(aH++al).length<=k):dZ (aH++al):=by
 obtain⟨q,hq⟩:=h.runs.len;have R:=h.lt;rw[List.length_append] at I;rcases Nat.eq_zero_or_pos aH.length with h0|h0
 ·rw[List.length_eq_zero_iff.1 h0];exact h.up
 ·have bG:1<=q:=by
   rcases Nat.eq_zero_or_pos q with e|e
   ·subst e;omega
   ·exact e
  have:k<=q*k:=Nat.le_mul_of_pos_left k bG;obtain⟨ab,pX,rfl,hA,hU,hD⟩:=h.runs.take (by omega) (by omega);rw[List.length_append] at I;have e1:pX=[]:=List.length_eq_zero_iff.1 (by omega);have e2:al=[]:=List.length_eq_zero_iff.1 (by omega);subst e1;subst e2
  simpa using hU
theorem sT.two{k:Nat}{aH al:aZ}(h:sT k aH al)(h0:0<k)(I:2*k<=(aH++al).length):∃ab B pX,aH=ab++(B++pX)/\ab.length=k/\B.length=k/\dZ ab/\dZ B/\sT k pX al:=by
 have R:=h.lt;rw[List.length_append] at I;obtain⟨ab,D1,rfl,hA,hU,hD⟩:=h.runs.take (by omega) h0;rw[List.length_append] at I;have kr:k<=D1.length:=by
  obtain⟨q,hq⟩:=hD.len;rcases Nat.eq_zero_or_pos q with e|e
  ·subst e;simp at hq;simp[hq] at I;omega
  ·have:k<=q*k:=Nat.le_mul_of_pos_left k e;omega
 obtain⟨B,D2,rfl,hB,hV,E⟩:=hD.take kr h0;exact⟨ab,B,D2,rfl,hA,hB,hU,hV,E,h.up,h.lt⟩
theorem sT.rest{k:Nat}{aH al:aZ}(h:sT k aH al)(h0:0<k)(I:k<(aH++al).length)(mR:(aH++al).length<2*k):aH.length=k/\dZ aH/\al≠[]:=by
 have R:=h.lt;rw[List.length_append] at I mR;have F:k<=aH.length:=by
  obtain⟨q,hq⟩:=h.runs.len;rcases Nat.eq_zero_or_pos q with e|e
  ·subst e;simp at hq;simp[hq] at I;omega
  ·have:k<=q*k:=Nat.le_mul_of_pos_left k e;omega
 obtain⟨ab,D1,rfl,hA,hU,hD⟩:=h.runs.take F h0;obtain⟨q,hq⟩:=hD.len;rw[List.length_append] at I mR;have Du:q=0:=by
  rcases Nat.eq_zero_or_pos q with e|e
  ·exact e
  ·have:k<=q*k:=Nat.le_mul_of_pos_left k e;omega
 subst Du;have e1:D1=[]:=List.length_eq_zero_iff.1 (by omega);subst e1;simp only[List.append_nil,List.length_nil,Nat.add_zero] at*;exact⟨hA,hU,λ e=>by subst e;simp at I;omega⟩
def DK(ae:aZ)(x:Int×Int):aZ:=ae.takeWhile (λ y=>decide (y.1<=x.1))++x::ae.dropWhile (λ y=>decide (y.1<=x.1))
def xd(S:aZ):aZ:=S.foldl DK []
theorem ZO{ae:aZ}(h:dZ ae)(x:Int×Int):jj (ae++[x]) (DK ae x):=by
 unfold DK;have e:=List.takeWhile_append_dropWhile (p:=λ y:Int×Int=>decide (y.1<=x.1)) (l:=ae);have hp:∀y∈ae.takeWhile (λ y=>decide (y.1<=x.1)),y.1<=x.1:=λ y hy=>of_decide_eq_true (List.all_eq_true.1 (List.all_takeWhile (l:=ae) (p:=λ y:Int×Int=>decide (y.1<=x.1))) y hy)
 have hq:∀y∈ae.dropWhile (λ y=>decide (y.1<=x.1)),x.1<y.1:=by
  intro y hy;rcases F:ae.dropWhile (λ y=>decide (y.1<=x.1)) with _|⟨z,aH⟩
  ·rw[F] at hy;cases hy
  ·have hz:¬z.1<=x.1:=by
    have:=List.head?_dropWhile_not (λ y:Int×Int=>decide (y.1<=x.1)) ae;rw[F] at this
    simpa using this
   have hu:dZ (z::aH):=by rw[<-F];rw[<-e] at h;exact h.right
   rw[F] at hy;rcases List.mem_cons.1 hy with rfl|hy
   ·omega
   ·have:=(List.pairwise_cons.1 hu).1 y hy;omega
 rw[<-e] at h;have:=L6 h hp hq;rw[e] at this;exact this
theorem Oj:∀(S ae:aZ),dZ ae->jj (ae++S) (S.foldl DK ae)
 |[],ae,h=>by rw[List.append_nil];exact⟨rfl,h,.refl _⟩
 |x::S,ae,h=>by
  have h1:=ZO h x;have A:=Oj S (DK ae x) h1.up;refine⟨?_,A.up,?_⟩
  ·have:=h1.len;have:=A.len;simp only[List.length_append,List.length_cons,List.foldl_cons] at*;simp at*;omega
  ·have K:=h1.px.app (gq.refl S);rw[List.append_assoc] at K;exact K.trans A.px
theorem Hx(S:aZ):jj S (xd S):=Oj S [] .nil
theorem adC{S ae:aZ}(h:jj S ae):ae=xd S:=N6 h.up (Hx S).up (h.px.symm.trans (Hx S).px)
end Go.Proofs.YtcnefjfboagbmaaGreat
namespace Go.Proofs.YtcnefjfboagbmaaGreat.Em
set_option maxRecDepth 100000
def mr(v k c:Int):Int:=v%4294967296+4294967296*(k%4)+17179869184*(c%268435456)
def u7(w:Int):Int:=w%4294967296
def wK(w:Int):Int:=w/4294967296%4
def ll(w:Int):Int:=w/17179869184%268435456
def vt(l:ag)(aS n:Int):Pm Bool:=(cj aS).bind λ bM=>(eH (aE l n 0) (ay bM).idx).bind λ _=>eZ aS bM (cf (co (ay bM) n))
def yK(c bX no:Int):Pm Bool:=(cj c).bind λ x=>if x=bX then(cj c).bind λ y=>if y=bX then(eZ c bX no).bind λ ok=>.pure (!ok) else .pure true else .pure true
def ve(l:ag)(aS c v n:Int):Nat->Pm bf
 |0=>.pure ⟨0,false,0,0,[]⟩
 |k+1=>(vt l aS n).bind λ ok=>if ok then j4.bind λ a=>.pure ⟨0,true,0,a,[]⟩
  else(cj c).bind λ w=>if wK w=0 then(eZ c w (mr v 1 (ll w+1))).bind λ ok=>if ok then j4.bind λ a=>(yK c (mr v 1 (ll w+1)) (mr 0 0 (ll w+1))).bind λ aaA=>if aaA then(eH c (mr 0 0 (ll w+1))).bind λ _=>(mM l n).bind λ _=>.pure ⟨0,true,0,-a-2,[]⟩ else ve l aS c v n k
   else ve l aS c v n k
  else ve l aS c v n k
def rz(l:ag)(aS c v:Int):Pm bf:=(pT l).bind λ t=>if t.2.2 then(eH (aE l t.1 1) v).bind λ _=>λ log s=>ve l aS c v t.1 (log.length+1-s.made) log s else .pure ⟨0,false,8,t.2.1,[]⟩
def vr(l:ag)(D aS:Int):Pm (Int×Int×Int):=(kP l D 0 aS).bind λ p=>if(ay p.1).idx=0 then .pure (0,p.2,0)
 else(cj (aE l (ay p.1).idx 0)).bind λ below=>(eZ aS p.1 (cf (co (ay p.1) below))).bind λ ok=>if ok then j4.bind λ a=>.pure ((ay p.1).idx,a,2) else j4.bind λ a=>.pure (0,a,1)
def wT(l:ag)(D aS c:Int):Nat->Pm bf
 |0=>.pure ⟨0,false,0,0,[]⟩
 |k+1=>(vr l D aS).bind λ t=>if t.2.2=0 then(ge l D).bind λ _=>.pure ⟨0,false,0,t.2.1,[]⟩
  else if t.2.2=2 then(cj (aE l t.1 1)).bind λ v=>(ge l D).bind λ _=>(jF l t.1).bind λ _=>.pure ⟨v,true,0,t.2.1,[]⟩
  else(cj c).bind λ w=>if wK w=1 then(eZ c w (mr (u7 w) 2 (ll w))).bind λ ok=>if ok then j4.bind λ a=>(ge l D).bind λ _=>.pure ⟨u7 w,true,0,a,[]⟩ else wT l D aS c k
   else wT l D aS c k
def tU(l:ag)(D aS c:Int):Pm bf:=λ log s=>wT l D aS c (log.length+1-s.made) log s
def pg(l:ag)(D s:Int):Int:=if l.bP<1 then-1 else Et l s ((D%l.bP+l.bP)%l.bP)
def dw(l:ag)(D:Int)(gone:List (Int×Int))(op:bt)(log:List aD):aT×bf×Bool:=
 if jK l op.obj<0 then(eN,⟨0,false,1,-1,gone⟩,true)
 else if op.kind=4/\0<=op.a/\op.a<4294967296 then lB (rz l (jK l op.obj) (pg l D op.obj) op.a log ⟨0,gone,0,0,0⟩)
 else if op.kind=5 then lB (tU l D (jK l op.obj) (pg l D op.obj) log ⟨0,gone,0,0,0⟩)
 else(eN,⟨0,false,1,-1,gone⟩,true)
def fp(l:ag)(m:List Int)(s:Int):List Int:=if jK l s<0 then[] else ko (λ n=>bv m (aE l n 0)) l.nodes (l.nodes.toNat+1) [] (ay (bv m (jK l s))).idx
def nh(l:ag)(m:List Int)(s:Int):List Int:=(fp l m s).map λ n=>bv m (aE l n 1)
end Go.Proofs.YtcnefjfboagbmaaGreat.Em
namespace Go.Proofs.YtcnefjfboagbmaaGreat.Sg
set_option maxRecDepth 100000
def wS(l:ag)(n v:Int):List Int->Pm (Option Int)
 |[]=>.pure none
 |i::is=>(cj (aE l n i)).bind λ x=>if x=0 then(eZ (aE l n i) 0 (v+2)).bind λ ok=>if ok then j4.bind λ a=>.pure (some a) else wS l n v is else wS l n v is
def tf(l:ag)(n:Int):List Int->Pm Unit
 |[]=>.pure ()
 |i::is=>(eH (aE l n i) 0).bind λ _=>tf l n is
def tg(l:ag)(n v:Int):Pm Unit:=(eH (aE l n 0) 0).bind λ _=>(eH (aE l n 1) (v+2)).bind λ _=>tf l n [2,3,4,5]
def iG:List Int:=[1,2,3,4,5]
def vJ(l:ag)(D tl bM bX:Int):Pm (Option bf×Int):=
 (eZ (aE l (ay bM).idx 0) 0 bX).bind λ ok=>if ok then j4.bind λ a=>(eZ tl bM (cf (co (ay bM) bX))).bind λ _=>(ge l D).bind λ _=>.pure (some ⟨0,true,0,a,[]⟩,bX) else .pure (none,bX)
def xu(l:ag)(D tl v bX:Int):Pm (Option bf×Int):=(kP l D 0 tl).bind λ p=>(wS l (ay p.1).idx v iG).bind λ o=>match o with
 |some a=>if bX=0 then(ge l D).bind λ _=>.pure (some ⟨0,true,0,a,[]⟩,bX) else(mM l bX).bind λ _=>(ge l D).bind λ _=>.pure (some ⟨0,true,0,a,[]⟩,bX)
 |none=>(cj (aE l (ay p.1).idx 0)).bind λ next=>if next=0 then(if bX=0 then(pT l).bind λ t=>if t.2.2 then(tg l t.1 v).bind λ _=>vJ l D tl p.1 t.1 else(ge l D).bind λ _=>.pure (some ⟨0,false,8,t.2.1,[]⟩,bX) else vJ l D tl p.1 bX)
  else(eZ tl p.1 (cf (co (ay p.1) next))).bind λ _=>.pure (none,bX)
def BC(l:ag)(D tl v:Int):Nat->Int->Pm bf
 |0,_=>.pure ⟨0,false,0,0,[]⟩
 |k+1,bX=>(xu l D tl v bX).bind λ r=>match r.1 with
  |some o=>.pure o
  |none=>BC l D tl v k r.2
def vo(l:ag)(D tl v:Int):Pm bf:=λ log s=>BC l D tl v (log.length+1-s.made) 0 log s
def wR(l:ag)(n:Int):List Int->Pm (Option bf)
 |[]=>.pure none
 |i::is=>(cj (aE l n i)).bind λ x=>j4.bind λ a=>if x=0 then .pure (some ⟨0,false,0,a,[]⟩) else if x=1 then wR l n is else(eZ (aE l n i) x 1).bind λ ok=>if ok then j4.bind λ a=>.pure (some ⟨lm (x-2),true,0,a,[]⟩) else wR l n is
def vH(l:ag)(D F bM next:Int):Pm (Option bf):=
 (eZ F bM (cf (co (ay bM) next))).bind λ ok=>if ok then(ge l D).bind λ _=>(jF l (ay bM).idx).bind λ _=>.pure none else .pure none
def sV(l:ag)(D F tl:Int):Pm (Option bf):=(kP l D 0 F).bind λ p=>(wR l (ay p.1).idx iG).bind λ o=>match o with
 |some o=>(ge l D).bind λ _=>.pure (some o)
 |none=>(cj (aE l (ay p.1).idx 0)).bind λ next=>if next=0 then j4.bind λ a=>(ge l D).bind λ _=>.pure (some ⟨0,false,0,a,[]⟩)
  else(cj tl).bind λ en=>if(ay en).idx=(ay p.1).idx then(eZ tl en (cf (co (ay en) next))).bind λ _=>vH l D F p.1 next else vH l D F p.1 next
def Ee(l:ag)(D F tl:Int):Nat->Pm bf
 |0=>.pure ⟨0,false,0,0,[]⟩
 |k+1=>(sV l D F tl).bind λ r=>match r with
  |some o=>.pure o
  |none=>Ee l D F tl k
def vh(l:ag)(D F tl:Int):Pm bf:=λ log s=>Ee l D F tl (log.length+1-s.made) log s
def dw(l:ag)(D:Int)(gone:List (Int×Int))(op:bt)(log:List aD):aT×bf×Bool:=
 if jw l op.obj<0 then(eN,⟨0,false,1,-1,gone⟩,true)
 else if op.kind=6 then lB (vo l D (nL l op.obj) op.a log ⟨0,gone,0,0,0⟩)
 else if op.kind=7 then lB (vh l D (jw l op.obj) (nL l op.obj) log ⟨0,gone,0,0,0⟩)
 else(eN,⟨0,false,1,-1,gone⟩,true)
def li(l:ag)(a:Nat)(k:Nat):List aT:=(List.range k).map λ(i:Nat)=>⟨2,aE l ((a:Int)+i) 7,0,if(a:Int)+i=l.nodes then 0 else(a:Int)+i+1⟩
def yz(l:ag)(a:Nat):List aT:=li l a (l.nodes.toNat+1-a)++[⟨2,l.free,0,a⟩]
def mw(l:ag)(c node:Int):List aT:=if jw l c<0\/aE l node 0<0 then[] else
 ((List.range 6).map λ(i:Nat)=>(⟨2,aE l node i,0,0⟩:aT))++[⟨2,jw l c,0,cf ⟨node,false,0⟩⟩,⟨2,nL l c,0,cf ⟨node,false,0⟩⟩]
def fp(l:ag)(m:List Int)(c:Int):List Int:=if jw l c<0 then[] else ko (λ n=>bv m (aE l n 0)) l.nodes (l.nodes.toNat+1) [] (ay (bv m (jw l c))).idx
def kD(l:ag)(m:List Int)(n:Int):List Int:=iG.map λ i=>bv m (aE l n i)
def nh(l:ag)(m:List Int)(c:Int):List Int:=(((fp l m c).flatMap (kD l m)).filter λ v=>decide (1<v)).map λ v=>v-2
end Go.Proofs.YtcnefjfboagbmaaGreat.Sg
namespace Go.Proofs.YtcnefjfboagbmaaGreat
set_option maxRecDepth 100000
structure oF where
 az:Int
 nodes:Int
 buckets:Int
 bP:Int
 tasks:Int
 cells:Int
 maps:Int
 cZ:Int
 bo:Int
deriving DecidableEq
def mZ(n lo X:Int):Bool:=decide (lo<=n)&&decide (n<=X)
def uV(b:Int):Bool:=decide (b=1)||decide (b=2)||decide (b=4)||decide (b=8)||decide (b=16)||decide (b=32)||decide (b=64)
def yJ(c:oF):Bool:=uV c.buckets&&mZ c.az 1 8&&mZ c.bP 1 8&&mZ c.tasks 1 64&&mZ c.cells 0 16&&mZ c.maps 0 8&&mZ c.cZ 0 8&&mZ c.bo 0 8
def ng(t:Int):Nat:=if t<=4 then 1 else if t<=8 then 2 else if t<=16 then 3 else if t<=32 then 4 else 5
def sJ(n:Nat):Int:=4*2^n-4
def gm(c:oF):ag:=
 let owner:=4+c.az
 let kV:=owner+c.az
 let rU:=kV+3*c.az
 let ring:=rU+3*c.az
 let task:=ring+c.az*sJ (ng c.tasks)
 let cell:=task+4*c.tasks
 let map:=cell+c.cells
 let stack:=map+c.maps*(c.buckets+2)
 let chan:=stack+c.cZ*(c.bP+1)
 let node:=chan+2*c.bo
 ⟨c.az,c.nodes,c.buckets,c.bP,c.tasks,c.cells,c.maps,c.cZ,c.bo,0,1,2,3,4,owner,kV,rU,ring,task,cell,map,stack,chan,node,node+8*c.nodes⟩
def xx(c:oF):Bool:=yJ c&&mZ c.nodes (c.maps+c.bo) 1000
structure BL(c:oF):Prop where
 b:uV c.buckets=true
 s:1<=c.az/\c.az<=8
 sl:1<=c.bP/\c.bP<=8
 t:1<=c.tasks/\c.tasks<=64
 ce:0<=c.cells/\c.cells<=16
 m:0<=c.maps/\c.maps<=8
 st:0<=c.cZ/\c.cZ<=8
 ch:0<=c.bo/\c.bo<=8
 n:c.maps+c.bo<=c.nodes/\c.nodes<=1000
theorem QD{n lo X:Int}:mZ n lo X=true↔lo<=n/\n<=X:=by simp[mZ]
theorem Iy{c:oF}(h:xx c=true):BL c:=by simp only[xx,yJ,Bool.and_eq_true,QD] at h;obtain⟨⟨⟨⟨⟨⟨⟨⟨h1,A⟩,K⟩,h4⟩,h5⟩,h6⟩,h7⟩,h8⟩,h9⟩:=h;exact⟨h1,A,K,h4,h5,h6,h7,h8,h9⟩
theorem DL{b:Int}(h:uV b=true):1<=b/\b<=64:=by simp only[uV,Bool.or_eq_true,decide_eq_true_eq] at h;omega
theorem acZ(t:Int):1<=ng t/\ng t<=5:=by
 unfold ng
 repeat' (first|split|exact⟨by omega,by omega⟩)
theorem Sv(t:Int):4<=sJ (ng t)/\sJ (ng t)<=124:=by
 unfold ng
 repeat' (first|split|exact⟨by decide,by decide⟩)
theorem ZV{c:oF}(h:BL c):4<=(gm c).map/\(gm c).map<=1400/\(gm c).map<=(gm c).stack/\(gm c).stack<=2000/\(gm c).stack<=(gm c).chan/\(gm c).chan<=2100/\(gm c).node=(gm c).chan+2*c.bo/\(gm c).size=(gm c).node+8*c.nodes/\(gm c).kV=4+2*c.az/\(gm c).stack=(gm c).map+c.maps*(c.buckets+2)/\(gm c).chan=(gm c).stack+c.cZ*(c.bP+1)/\4+8*c.az<=(gm c).map:=by obtain⟨T,⟨a1,a2⟩,⟨a3,a4⟩,⟨a5,a6⟩,⟨a7,a8⟩,⟨a9,p6⟩,⟨vE,Ie⟩,⟨MR,MS⟩,⟨MT,MU⟩⟩:=h;have h0:=DL T;have h1:=Sv c.tasks;have A:c.az*sJ (ng c.tasks)<=8*124:=Int.mul_le_mul (by omega) (by omega) (by omega) (by omega);have K:0<=c.az*sJ (ng c.tasks):=Int.mul_nonneg (by omega) (by omega);have h4:c.maps*(c.buckets+2)<=8*66:=Int.mul_le_mul (by omega) (by omega) (by omega) (by omega);have h5:0<=c.maps*(c.buckets+2):=Int.mul_nonneg (by omega) (by omega);have h6:c.cZ*(c.bP+1)<=8*9:=Int.mul_le_mul (by omega) (by omega) (by omega) (by omega);have h7:0<=c.cZ*(c.bP+1):=Int.mul_nonneg (by omega) (by omega);refine⟨?_,?_,?_,?_,?_,?_,?_,?_,?_,?_,?_,?_⟩<;>simp only[gm]<;>omega
theorem QX{c:oF}(h:BL c):ca (gm c):=by have h1:=ZV h;obtain⟨T,⟨a1,a2⟩,⟨a3,a4⟩,⟨a5,a6⟩,⟨a7,a8⟩,⟨a9,p6⟩,⟨vE,Ie⟩,⟨MR,MS⟩,⟨MT,MU⟩⟩:=h;have e1:(gm c).az=c.az:=rfl;have e2:(gm c).nodes=c.nodes:=rfl;have e3:(gm c).bP=c.bP:=rfl;have e4:(gm c).cZ=c.cZ:=rfl;have e5:(gm c).bo=c.bo:=rfl;have aeV:(gm c).era=2:=rfl;have aeW:(gm c).free=3:=rfl;refine⟨?_,?_,?_,?_,?_,?_,?_,?_,?_,?_,?_,?_,?_⟩<;>(try simp only[lH])<;>omega
def oq(l:ag)(D:Int)(gone:List (Int×Int))(op:bt)(log:List aD):aT×bf×Bool:=
 if 1<=op.kind/\op.kind<=3 then rd l D gone op log
 else if op.kind=4\/op.kind=5 then Em.dw l D gone op log
 else if op.kind=7\/(op.kind=6/\0<=op.a/\op.a<4294967296) then Sg.dw l D gone op log
 else(eN,⟨0,false,1,-1,gone⟩,true)
def po(l:ag)(a:Nat):List aT:=if l.nodes<a then[⟨2,l.free,0,0⟩] else yz l a
def nJ(l:ag):List aT:=(List.range l.maps.toNat).flatMap (λ(m:Nat)=>gC l m ((m:Int)+1))++(List.range l.bo.toNat).flatMap (λ(c:Nat)=>Sg.mw l c (l.maps+c+1))++po l (l.maps+l.bo+1).toNat++[⟨2,l.era,0,1⟩]
def rn(l:ag):List Int:=(pk (List.replicate l.size.toNat 0) (List.replicate l.size.toNat 0) [] (nJ l)).1
def yL(l:ag)(m:List Int)(o:Int):List Int:=if(ay (bv m (hL l o 0))).idx=0 then[] else(ay (bv m (hL l o 0))).idx::fp l m (aE l (ay (bv m (hL l o 0))).idx 0)
def Bg(l:ag)(m:List Int):List Int:=(List.range l.maps.toNat).flatMap (λ(o:Nat)=>yL l m o)++(List.range l.cZ.toNat).flatMap (λ(o:Nat)=>Em.fp l m o)++(List.range l.bo.toNat).flatMap (λ(o:Nat)=>Sg.fp l m o)
abbrev jM:=Int×List Int×List Int
def ox(al:List (Int×Int)):List (Int×Int):=(al.filter λ r=>decide (r.1%2=1)).map λ r=>(yB r.1,r.2)
def uZ(l:ag)(m:List Int)(o:Int):aZ:=if hL l o 0<0\/(m.length:Int)<=hL l o 0 then[] else xd (ox (nh l m (aE l (ay (bv m (hL l o 0))).idx 0)))
def pQ(l:ag)(m:List Int)(kind o:Int):jM:=
 if kind=1 then(1,(uZ l m o).map (·.1),(uZ l m o).map (·.2))
 else if kind=2 then(2,[],Em.nh l m o)
 else if kind=3 then(3,[],Sg.nh l m o)
 else(kind,[],[])
def oo(l:ag)(az:Nat):dG:=⟨rn l,0,List.replicate az qy,[],0,false,false⟩
def mu(l:ag)(t:dG)(aN:Nat)(x:ek):dG:=
 let r:=oq l aN x.gone x.op x.log
 if r.2.2 then pz t aN x r.2.1
 else if lM t.m.length r.1=0 then⟨(gE t.m r.1).1,t.step+1,t.az.set aN {x with log:=x.log++[(gE t.m r.1).2],steps:=x.steps++[t.step]},t.calls,t.full,t.cD||uA l t.m r.1,t.bad⟩
 else{t with az:=t.az.set aN {x with op:=jV},cD:=t.cD||uA l t.m r.1,bad:=true}
def kC(l:ag)(want:List (List bt))(t:dG)(aN:Nat):dG:=
 match t.az[aN]?,want[aN]? with
 |some x,some ws=>if x.op.kind=0 then match ws[x.next]? with
  |none=>t
  |some op=>mu l t aN ⟨op,[],[],x.next+1,x.gone⟩
  else mu l t aN x
 |_,_=>t
def wP(l:ag)(want:List (List bt)):dG->List Nat->dG
 |t,[]=>t
 |t,w::ws=>wP l want (kC l want t w) ws
def iy(l:ag)(want:List (List bt))(aN:Nat):Nat->dG->dG
 |0,t=>t
 |k+1,t=>if t.bad then t else iy l want aN k (kC l want t aN)
def D7(l:ag)(want:List (List bt)):Nat->Nat->dG->dG
 |_,0,t=>t
 |aN,k+1,t=>let kX:=iy l want aN 1500 t;D7 l want (aN+1) k {kX with bad:=kX.bad||!Ax kX want aN}
def tR(l:ag)(want:List (List bt))(turns:List Int):dG:=D7 l want 0 want.length (wP l want (oo l want.length) (turns.map λ x=>(x%(want.length:Int)).toNat))
namespace Em
theorem X6(l:ag)(aS n:Int):Hg (vt l aS n) (λ _=>True):=bC (ku _) λ _ _=>bC (qv _ _) λ _ _=>mP _ _ _
theorem X0(c bX no:Int):Hg (yK c bX no) (λ _=>True):=bC (ku _) λ _ _=>e6 (λ _=>bC (ku _) λ _ _=>e6 (λ _=>bC (mP _ _ _) λ _ _=>dP trivial) λ _=>dP trivial) λ _=>dP trivial
theorem FR(l:ag)(aS c v n:Int):∀k,Hg (ve l aS c v n k) (λ _=>True)
 |0=>dP trivial
 |k+1=>bC (X6 _ _ _) λ _ _=>e6 (λ _=>bC nC λ _ _=>dP trivial) λ _=>bC (ku _) λ _ _=>e6 (λ _=>bC (mP _ _ _) λ _ _=>e6 (λ _=>bC nC λ _ _=>bC (X0 _ _ _) λ _ _=>e6 (λ _=>bC (qv _ _) λ _ _=>bC (FQ _ _) λ _ _=>dP trivial) λ _=>FR l aS c v n k) λ _=>FR l aS c v n k) λ _=>FR l aS c v n k
theorem X2(l:ag)(aS c v:Int):Hg (rz l aS c v) (λ _=>True):=bC (JO l) λ _ _=>e6 (λ _=>bC (qv _ _) λ _ _=>λ log s=>FR l aS c v _ _ log s) λ _=>dP trivial
theorem X5(l:ag)(D aS:Int):Hg (vr l D aS) (λ t=>t.1<9223372036854775808):=bC (C6 _ _ _ _) λ _ _=>e6 (λ _=>dP (by show(0:Int)<_;omega)) λ _=>bC (ku _) λ _ _=>bC (mP _ _ _) λ _ _=>e6 (λ _=>bC nC λ _ _=>dP (D6 _)) λ _=>bC nC λ _ _=>dP (by show(0:Int)<_;omega)
theorem JL(l:ag)(D aS c:Int):∀k,Hg (wT l D aS c k) (λ _=>True)
 |0=>dP trivial
 |k+1=>bC (X5 _ _ _) λ _ ht=>e6 (λ _=>bC (q8 _ _) λ _ _=>dP trivial) λ _=>e6 (λ _=>bC (ku _) λ _ _=>bC (q8 _ _) λ _ _=>bC (FS l _ ht) λ _ _=>dP trivial) λ _=>bC (ku _) λ _ _=>e6 (λ _=>bC (mP _ _ _) λ _ _=>e6 (λ _=>bC nC λ _ _=>bC (q8 _ _) λ _ _=>dP trivial) λ _=>JL l D aS c k) λ _=>JL l D aS c k
theorem X1(l:ag)(D aS c:Int):Hg (tU l D aS c) (λ _=>True):=λ log s=>JL l D aS c _ log s
theorem D0{l:ag}{D:Int}{gone:List (Int×Int)}{op:bt}{log:List aD}(F:(dw l D gone op log).2.2=true)(hg:k9 gone):k9 (dw l D gone op log).2.1.gone/\(dw l D gone op log).2.1.gone.length<=gone.length+log.length:=by
 unfold dw at F⊢;split at F
 ·rw[if_pos ‹_›];exact⟨hg,Nat.le_add_right _ _⟩
 ·rw[if_neg ‹_›];split at F
  ·rw[if_pos ‹_›];exact xJ (X2 _ _ _ _) F hg
  ·rw[if_neg ‹_›];split at F
   ·rw[if_pos ‹_›];exact xJ (X1 _ _ _ _) F hg
   ·rw[if_neg ‹_›];exact⟨hg,Nat.le_add_right _ _⟩
end Em
namespace Sg
theorem JK(l:ag)(n v:Int):∀is,Hg (wS l n v is) (λ _=>True)
 |[]=>dP trivial
 |_::is=>bC (ku _) λ _ _=>e6 (λ _=>bC (mP _ _ _) λ _ _=>e6 (λ _=>bC nC λ _ _=>dP trivial) λ _=>JK l n v is) λ _=>JK l n v is
theorem Pu(l:ag)(n:Int):∀is,Hg (tf l n is) (λ _=>True)
 |[]=>dP trivial
 |_::is=>bC (qv _ _) λ _ _=>Pu l n is
theorem XZ(l:ag)(n v:Int):Hg (tg l n v) (λ _=>True):=bC (qv _ _) λ _ _=>bC (qv _ _) λ _ _=>Pu l n _
theorem Pq(l:ag)(D tl bM bX:Int):Hg (vJ l D tl bM bX) (λ _=>True):=bC (mP _ _ _) λ _ _=>e6 (λ _=>bC nC λ _ _=>bC (mP _ _ _) λ _ _=>bC (q8 _ _) λ _ _=>dP trivial) λ _=>dP trivial
theorem XY(l:ag)(D tl v bX:Int):Hg (xu l D tl v bX) (λ _=>True):=bC (C6 _ _ _ _) λ _ _=>bC (JK _ _ _ _) λ o _=>by
 cases o with
 |some a=>exact e6 (λ _=>bC (q8 _ _) λ _ _=>dP trivial) λ _=>bC (FQ _ _) λ _ _=>bC (q8 _ _) λ _ _=>dP trivial
 |none=>exact bC (ku _) λ _ _=>e6 (λ _=>e6 (λ _=>bC (JO l) λ _ _=>e6 (λ _=>bC (XZ _ _ _) λ _ _=>Pq _ _ _ _ _) λ _=>bC (q8 _ _) λ _ _=>dP trivial) λ _=>Pq _ _ _ _ _) λ _=>bC (mP _ _ _) λ _ _=>dP trivial
theorem PC(l:ag)(D tl v:Int):∀(k:Nat)(bX:Int),Hg (BC l D tl v k bX) (λ _=>True)
 |0,_=>dP trivial
 |k+1,bX=>bC (XY _ _ _ _ _) λ r _=>by
  obtain⟨o,m⟩:=r;cases o with
  |some o=>exact dP trivial
  |none=>exact PC l D tl v k m
theorem X4(l:ag)(D tl v:Int):Hg (vo l D tl v) (λ _=>True):=λ log s=>PC l D tl v _ 0 log s
theorem JJ(l:ag)(n:Int):∀is,Hg (wR l n is) (λ _=>True)
 |[]=>dP trivial
 |_::is=>bC (ku _) λ _ _=>bC nC λ _ _=>e6 (λ _=>dP trivial) λ _=>e6 (λ _=>JJ l n is) λ _=>bC (mP _ _ _) λ _ _=>e6 (λ _=>bC nC λ _ _=>dP trivial) λ _=>JJ l n is
theorem Pp(l:ag)(D F bM next:Int):Hg (vH l D F bM next) (λ _=>True):=bC (mP _ _ _) λ _ _=>e6 (λ _=>bC (q8 _ _) λ _ _=>bC (FS l _ (D6 _)) λ _ _=>dP trivial) λ _=>dP trivial
theorem XX(l:ag)(D F tl:Int):Hg (sV l D F tl) (λ _=>True):=bC (C6 _ _ _ _) λ _ _=>bC (JJ _ _ _) λ o _=>by
 cases o with
 |some o=>exact bC (q8 _ _) λ _ _=>dP trivial
 |none=>exact bC (ku _) λ _ _=>e6 (λ _=>bC nC λ _ _=>bC (q8 _ _) λ _ _=>dP trivial) λ _=>bC (ku _) λ _ _=>e6 (λ _=>bC (mP _ _ _) λ _ _=>Pp _ _ _ _ _) λ _=>Pp _ _ _ _ _
theorem PB(l:ag)(D F tl:Int):∀k,Hg (Ee l D F tl k) (λ _=>True)
 |0=>dP trivial
 |k+1=>bC (XX _ _ _ _) λ r _=>by
  cases r with
  |some o=>exact dP trivial
  |none=>exact PB l D F tl k
theorem X3(l:ag)(D F tl:Int):Hg (vh l D F tl) (λ _=>True):=λ log s=>PB l D F tl _ log s
theorem D0{l:ag}{D:Int}{gone:List (Int×Int)}{op:bt}{log:List aD}(F:(dw l D gone op log).2.2=true)(hg:k9 gone):k9 (dw l D gone op log).2.1.gone/\(dw l D gone op log).2.1.gone.length<=gone.length+log.length:=by
 unfold dw at F⊢;split at F
 ·rw[if_pos ‹_›];exact⟨hg,Nat.le_add_right _ _⟩
 ·rw[if_neg ‹_›];split at F
  ·rw[if_pos ‹_›];exact xJ (X4 _ _ _ _) F hg
  ·rw[if_neg ‹_›];split at F
   ·rw[if_pos ‹_›];exact xJ (X3 _ _ _ _) F hg
   ·rw[if_neg ‹_›];exact⟨hg,Nat.le_add_right _ _⟩
end Sg
theorem abd{l:ag}(hS:0<=l.az){D:Int}{gone:List (Int×Int)}{op:bt}{log:List aD}(F:(oq l D gone op log).2.2=true)(hg:k9 gone):k9 (oq l D gone op log).2.1.gone/\(oq l D gone op log).2.1.gone.length<=gone.length+log.length:=by
 unfold oq at F⊢;split at F
 ·rw[if_pos ‹_›];exact YL hS F hg
 ·rw[if_neg ‹_›];split at F
  ·rw[if_pos ‹_›];exact Em.D0 F hg
  ·rw[if_neg ‹_›];split at F
   ·rw[if_pos ‹_›];exact Sg.D0 F hg
   ·rw[if_neg ‹_›];exact⟨hg,Nat.le_add_right _ _⟩
end Go.Proofs.YtcnefjfboagbmaaGreat
