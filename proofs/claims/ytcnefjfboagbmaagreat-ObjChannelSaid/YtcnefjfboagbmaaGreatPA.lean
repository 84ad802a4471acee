/- Plain words, layouts, memories and programs of accesses: what they are. -/
namespace Go.Proofs.YtcnefjfboagbmaaGreat
set_option maxRecDepth 100000
structure wy where
 idx:Int
 mark:Bool
 mF:Int
deriving DecidableEq
def ae(n:Int):wy:=⟨n%65536,decide (n/65536%2=1),n/131072%268435456⟩
def ca(r:wy)(i:Int):wy:=⟨i%65536,false,(r.mF+1)%268435456⟩
def bK(r:wy):Int:=r.idx%65536+65536*(if r.mark then 1 else 0)+131072*(r.mF%268435456)
theorem kU(n:Int):0<=(ae n).idx/\(ae n).idx<65536:=⟨Int.emod_nonneg _ (by omega),Int.emod_lt_of_pos _ (by omega)⟩
theorem tr(n:Int):0<=(ae n).mF/\(ae n).mF<268435456:=⟨Int.emod_nonneg _ (by omega),Int.emod_lt_of_pos _ (by omega)⟩
structure ah where
 ar:Int
 nodes:Int
 buckets:Int
 bU:Int
 tasks:Int
 cells:Int
 maps:Int
 dl:Int
 bo:Int
 done:Int
 count:Int
 era:Int
 free:Int
 alive:Int
 owner:Int
 mB:Int
 sJ:Int
 ring:Int
 task:Int
 cell:Int
 map:Int
 stack:Int
 chan:Int
 node:Int
 size:Int
deriving DecidableEq
def mb(n:Int):Prop:=0<=n/\n<=1000000
structure cr(l:ah):Prop where
 ar:mb l.ar
 nodes:mb l.nodes
 bU:0<=l.bU/\l.bU<=8
 dl:mb l.dl
 bo:mb l.bo
 era:mb l.era
 free:mb l.free
 mB:mb l.mB
 map:mb l.map
 stack:mb l.stack
 chan:mb l.chan
 node:mb l.node
 size:mb l.size
def kG(first many rF row i:Int):Int:=if row<0\/many<=row\/i<0\/rF<=i then-1 else first+row*rF+i
def aN(l:ah)(n i:Int):Int:=if n<1 then-1 else kG l.node l.nodes 8 (n-1) i
def cE(l:ah)(s i:Int):Int:=kG l.mB l.ar 3 s i
def mc(l:ah)(s:Int):Int:=kG l.stack l.dl (1+l.bU) s 0
def Fr(l:ah)(s i:Int):Int:=if i<0\/l.bU<=i then-1 else kG l.stack l.dl (1+l.bU) s (1+i)
def gm(l:ah)(c:Int):Int:=kG l.chan l.bo 2 c 0
def mY(l:ah)(c:Int):Int:=kG l.chan l.bo 2 c 1
structure af8(s n ma st ch:Int):Prop where
 hs:1<=s/\s<=8
 Eg:0<=ma/\ma<=8
 cF:0<=st/\st<=8
 yU:0<=ch/\ch<=8
 hn:ma+ch<=n/\n<=1000
structure aX where
 kind:Int
 cell:Int
 dg:Int
 new:Int
deriving DecidableEq
structure aF where
 val:Int
 ok:Bool
deriving DecidableEq
def eZ:aX:=⟨0,0,0,0⟩
def m4(n:Int):Int:=if n%18446744073709551616<9223372036854775808 then n%18446744073709551616 else n%18446744073709551616-18446744073709551616
theorem ID{n:Int}(A:-9223372036854775808<=n)(F:n<=9223372036854775807):m4 n=n:=by unfold m4;split<;>omega
def wk(a:aX):Bool:=decide (0<=a.cell)&&(if a.kind=1 then decide (a.new=0)&&decide (a.dg=0) else if a.kind=2\/a.kind=4\/a.kind=5 then decide (a.dg=0) else decide (a.kind=3))
def nc(n:Int)(a:aX):Int:=if wk a then(if n<=a.cell then 12 else 0) else 1
def dp(xs:List Int)(i:Int):Int:=xs.getD i.toNat 0
def ii(xs:List Int)(a:aX):List Int×aF:=
 if a.kind=3 then(if dp xs a.cell=a.dg then(xs.set a.cell.toNat a.new,⟨dp xs a.cell,true⟩) else(xs,⟨dp xs a.cell,false⟩))
 else if a.kind=2\/a.kind=5 then(xs.set a.cell.toNat a.new,⟨dp xs a.cell,true⟩)
 else if a.kind=4 then(xs.set a.cell.toNat (m4 (dp xs a.cell+a.new)),⟨dp xs a.cell,true⟩)
 else(xs,⟨dp xs a.cell,true⟩)
def Cc(xs:List Int)(a:aX):List Int×aF×Int:=if nc xs.length a=0 then((ii xs a).1,(ii xs a).2,0) else(xs,⟨0,false⟩,nc xs.length a)
def bE(xs:List Int)(i:Int):Int:=if i<0\/(xs.length:Int)<=i then 0 else dp xs i
def qy(CM:List Int):List Int->List aF->List aX->List Int×List aF×Int
 |cur,told,[]=>(cur,told,0)
 |cur,told,a::more=>if nc cur.length a=0 then qy CM (ii cur a).1 (told++[(ii cur a).2]) more else(CM,[],nc cur.length a)
theorem v5:∀(N:Nat)(l:List Int),l.Nodup->(∀x∈l,1<=x/\x<=(N:Int))->l.length<=N
 |0,l,_,h=>by
  cases l with
  |nil=>simp
  |cons x l=>have:=h x (by simp);omega
 |N+1,l,D,h=>by
  by_cases hm:((N+1:Nat):Int)∈l
  ·have A:=v5 N (l.erase ((N+1:Nat):Int)) (D.erase _) (λ x T=>by
    rw[D.mem_erase_iff] at T;have:=h x T.2;have:=T.1;omega)
   rw[List.length_erase_of_mem hm] at A;omega
  ·have A:=v5 N l D (λ x T=>by
    have:=h x T;have:x≠((N+1:Nat):Int):=λ e=>hm (e▸T)
    omega)
   omega
def k8(nx:Int->Int)(N:Int):Nat->List Int->Int->List Int
 |0,acc,_=>acc
 |k+1,acc,n=>if 1<=n/\n<=N/\n∉acc then k8 nx N k (acc++[n]) (nx n) else acc
def uy(l:ah)(m:List Int):List Int:=k8 (λ n=>bE m (aN l n 7)) l.nodes (l.nodes.toNat+1) [] (ae (bE m l.free)).idx
structure af where
 made:Nat
 gone:List (Int×Int)
 e0:Int
 e1:Int
 e2:Int
deriving DecidableEq
def af.e(s:af)(i:Int):Int:=if i=0 then s.e0 else if i=1 then s.e1 else s.e2
def af.fb(s:af)(i v:Int):af:=if i=0 then{s with e0:=v} else if i=1 then{s with e1:=v} else{s with e2:=v}
structure aY where
 val:Int
 is:Bool
 err:Int
 c6:Int
 gone:List (Int×Int)
deriving DecidableEq
structure bl where
 kind:Int
 obj:Int
 a:Int
 b:Int
deriving DecidableEq
def mw:aY:=⟨0,false,0,0,[]⟩
abbrev Pm(av:Type):=List aF->af->Except aX (av×af)
def fO(a:aX):Pm aF:=λ log s=>match log[s.made]? with
 |some r=>.ok (r,{s with made:=s.made+1})
 |none=>.error a
def Pm.bind{av ei:Type}(m:Pm av)(f:av->Pm ei):Pm ei:=λ log s=>match m log s with
 |.ok (x,aa)=>f x log aa
 |.error a=>.error a
def Pm.pure{av:Type}(x:av):Pm av:=λ _ s=>.ok (x,s)
theorem az{av ei:Type}{m:Pm av}{f:av->Pm ei}{log:List aF}{s aa:af}{x:av}(h:m log s=.ok (x,aa)):m.bind f log s=f x log aa:=by unfold Pm.bind;rw[h]
theorem bj{av ei:Type}{m:Pm av}{f:av->Pm ei}{log:List aF}{s:af}{a:aX}(h:m log s=.error a):m.bind f log s=.error a:=by unfold Pm.bind;rw[h]
theorem bind_assoc{av ei cC:Type}(m:Pm av)(f:av->Pm ei)(k:ei->Pm cC):(m.bind f).bind k=m.bind λ x=>(f x).bind k:=by
 funext log s
 unfold Pm.bind;cases m log s with
 |error a=>rfl
 |ok q=>rfl
def mq:Pm Int:=λ _ s=>.ok ((s.made:Int)-1,s)
theorem eu{log:List aF}{s:af}:mq log s=.ok ((s.made:Int)-1,s):=rfl
def cZ(c:Int):Pm Int:=(fO ⟨1,c,0,0⟩).bind λ r=>.pure r.val
def fA(c v:Int):Pm Unit:=(fO ⟨2,c,0,v⟩).bind λ _=>.pure ()
def fN(c o v:Int):Pm Bool:=(fO ⟨3,c,o,v⟩).bind λ r=>.pure r.ok
def ou(l:ah):Nat->Pm (Int×Int×Bool)
 |0=>.pure (0,0,false)
 |k+1=>(cZ l.free).bind λ free=>
  if(ae free).idx=0 then mq.bind λ at_=>.pure (0,at_,false)
  else(cZ (aN l (ae free).idx 7)).bind λ link=>(fN l.free free (bK (ca (ae free) link))).bind λ ok=>
   if ok then mq.bind λ at_=>(cZ l.era).bind λ FW=>(fA (aN l (ae free).idx 6) FW).bind λ _=>.pure ((ae free).idx,at_,true)
   else ou l k
def sr(l:ah):Pm (Int×Int×Bool):=λ log s=>ou l (log.length+1-s.made) log s
def mH(l:ah)(n:Int):Nat->Pm Unit
 |0=>.pure ()
 |k+1=>(cZ l.free).bind λ free=>(fA (aN l n 7) (ae free).idx).bind λ _=>(fN l.free free (bK (ca (ae free) n))).bind λ ok=>if ok then .pure () else mH l n k
def oI(l:ah)(n:Int):Pm Unit:=λ log s=>mH l n (log.length+1-s.made) log s
def lC(l:ah)(G i cell:Int):Nat->Pm (Int×Int)
 |0=>.pure (0,0)
 |k+1=>(cZ cell).bind λ v=>mq.bind λ at_=>(cZ l.era).bind λ era=>λ log s=>if era=s.e i then .ok ((v,at_),s) else(fA (cE l G i) era).bind (λ _ log s=>lC l G i cell k log (s.fb i era)) log s
def mg(l:ah)(G i cell:Int):Pm (Int×Int):=λ log s=>lC l G i cell (log.length+1-s.made) log s
def pM(i:Nat):Pm Unit:=λ _ s=>.ok ((),match i with|0=>{s with e0:=0}|1=>{s with e1:=0}|_=>{s with e2:=0})
def dw(l:ah)(G:Int)(i:Nat)(e:Int):Pm Unit:=if e=0 then .pure () else(fA (cE l G i) 0).bind λ _=>pM i
def gS(l:ah)(G:Int)(i:Nat):List Int->Pm Unit
 |[]=>.pure ()
 |e::es=>(dw l G i e).bind λ _=>gS l G (i+1) es
def gB(l:ah)(G:Int):Pm Unit:=λ log s=>gS l G 0 [s.e0,s.e1,s.e2] log s
def fE(XQ aft r:Int):Bool:=decide (XQ<=r)&&decide (r<=aft)
def kT(x:Int):Int:=if 1>x then 1 else x
def j4(l:ah)(j:Nat):Nat->List Int
 |0=>[]
 |m+1=>cE l j 0::cE l j 1::cE l j 2::j4 l (j+1) m
def kz:List Int->List Int->Pm (List Int)
 |acc,[]=>.pure acc
 |acc,c::cs=>(cZ c).bind λ v=>kz (acc++[v]) cs
def fx(l:ah)(aw:List Int):List (Int×Int)->List (Int×Int)->Pm (List (Int×Int))
 |[],aL=>.pure aL
 |g::gs,aL=>(cZ (aN l g.1 6)).bind λ b=>if aw.any (fE (kT b) g.2) then fx l aw gs (aL++[g]) else(oI l g.1).bind λ _=>fx l aw gs aL
def jq(g:List (Int×Int)):Pm Unit:=λ _ s=>.ok ((),{s with gone:=g})
def tB(l:ah)(gone:List (Int×Int)):Pm Unit:=(kz [] (j4 l 0 l.ar.toNat)).bind λ aw=>(fx l aw gone []).bind λ aL=>jq aL
def lr(l:ah)(n:Int):Pm Unit:=(cZ l.era).bind λ era=>(fO ⟨4,l.era,0,1⟩).bind λ _=>λ log s=>
 if((s.gone.length:Int)+1)<2*l.ar then .ok ((),{s with gone:=s.gone++[(n,era)]})
 else tB l (s.gone++[(n,era)]) log {s with gone:=s.gone++[(n,era)]}
def pY(m:Except aX (aY×af)):aX×aY×Bool:=match m with
 |.ok (x,aa)=>(eZ,{x with gone:=aa.gone},true)
 |.error a=>(a,mw,false)
theorem Xh{av:Type}{a:aX}{f:aF->Pm av}{log:List aF}{s:af}(h:log.drop s.made=[]):(fO a).bind f log s=.error a:=by
 have:log[s.made]?=none:=by rw[List.drop_eq_nil_iff] at h;exact List.getElem?_eq_none h
 unfold Pm.bind fO;rw[this]
theorem Ph{log rest:List aF}{n:Nat}{r:aF}(h:log.drop n=r::rest):log[n]?=some r/\log.drop (n+1)=rest/\n<log.length:=by
 have bm:n<log.length:=by
  rcases Nat.lt_or_ge n log.length with A|A
  ·exact A
  ·rw[List.drop_eq_nil_of_le A] at h;cases h
 rw[List.drop_eq_getElem_cons bm] at h;injection h with A F
 exact⟨by rw[List.getElem?_eq_getElem bm,A],F,bm⟩
theorem Xg{av:Type}{a:aX}{f:aF->Pm av}{log rest:List aF}{s:af}{r:aF}(h:log.drop s.made=r::rest):(fO a).bind f log s=f r log {s with made:=s.made+1}:=by have:=(Ph h).1;unfold Pm.bind fO;rw[this]
theorem mR{av:Type}(c:Int)(f:Int->Pm av):(cZ c).bind f=(fO ⟨1,c,0,0⟩).bind λ r=>f r.val:=by unfold cZ;rw[bind_assoc];rfl
theorem oY{av:Type}(c v:Int)(f:Unit->Pm av):(fA c v).bind f=(fO ⟨2,c,0,v⟩).bind λ _=>f ():=by unfold fA;rw[bind_assoc];rfl
theorem pd{av:Type}(c o v:Int)(f:Bool->Pm av):(fN c o v).bind f=(fO ⟨3,c,o,v⟩).bind λ r=>f r.ok:=by unfold fN;rw[bind_assoc];rfl
structure Ws where
 ob:Int->Int
 nd:Int->Int->Int
structure Vw where
 er:Int
 fr:Int
 rv:Int->Int->Int
 bi:Int->Int
 lk:Int->Int
 W:Ws
inductive Ad where
 |era|free|ob (c:Int)|rv (w i:Int)|nd (n i:Int)|bi (n:Int)|lk (n:Int)
deriving DecidableEq
def Ad.cell(l:ah):Ad->Int
 |.era=>l.era
 |.free=>l.free
 |.ob c=>c
 |.rv w i=>cE l w i
 |.nd n i=>aN l n i
 |.bi n=>aN l n 6
 |.lk n=>aN l n 7
def Ad.ok(l:ah)(S N:Nat):Ad->Prop
 |.era=>True
 |.free=>True
 |.ob c=>4+5*(S:Int)<=c/\c<l.node
 |.rv w i=>0<=w/\w<S/\0<=i/\i<=2
 |.nd n i=>1<=n/\n<=N/\0<=i/\i<=5
 |.bi n=>1<=n/\n<=N
 |.lk n=>1<=n/\n<=N
def Ad.str(l:ah)(S N:Nat):Ad->Prop
 |.ob c=>4+5*(S:Int)<=c/\c<l.node
 |.nd n i=>1<=n/\n<=N/\0<=i/\i<=5
 |_=>False
theorem Ad.Iu{l:ah}{S N:Nat}{a:Ad}(h:a.str l S N):a.ok l S N:=by cases a<;>first|exact h|exact absurd h id
def Ws.lK(W:Ws)(c v:Int):Ws:={W with ob:=λ cg=>if cg=c then v else W.ob cg}
def Ws.eT(W:Ws)(n i v:Int):Ws:={W with nd:=λ fU vR=>if fU=n/\vR=i then v else W.nd fU vR}
def Ws.get(W:Ws):Ad->Int
 |.ob c=>W.ob c
 |.nd n i=>W.nd n i
 |_=>0
def Ws.put(W:Ws)(a:Ad)(v:Int):Ws:=match a with
 |.ob c=>W.lK c v
 |.nd n i=>W.eT n i v
 |_=>W
def Vw.get(V:Vw):Ad->Int
 |.era=>V.er
 |.free=>V.fr
 |.ob c=>V.W.ob c
 |.rv w i=>V.rv w i
 |.nd n i=>V.W.nd n i
 |.bi n=>V.bi n
 |.lk n=>V.lk n
def Vw.put(V:Vw)(a:Ad)(v:Int):Vw:=match a with
 |.era=>{V with er:=v}
 |.free=>{V with fr:=v}
 |.ob c=>{V with W:=V.W.lK c v}
 |.rv w i=>{V with rv:=λ aM vR=>if aM=w/\vR=i then v else V.rv aM vR}
 |.nd n i=>{V with W:=V.W.eT n i v}
 |.bi n=>{V with bi:=λ fU=>if fU=n then v else V.bi fU}
 |.lk n=>{V with lk:=λ fU=>if fU=n then v else V.lk fU}
theorem Vw.XS(V:Vw)(a b:Ad)(v:Int):(V.put a v).get b=if b=a then v else V.get b:=by cases a<;>cases b<;>simp[Vw.get,Vw.put,Ws.lK,Ws.eT]
structure rA(l:ah)(S N:Nat):Prop where
 ar:l.ar=S
 nodes:l.nodes=N
 era:l.era=2
 free:l.free=3
 mB:∀w i:Int,0<=w->w<S->0<=i->i<=2->cE l w i=4+2*(S:Int)+3*w+i
 node:∀n i:Int,1<=n->n<=N->0<=i->i<=7->aN l n i=l.node+8*(n-1)+i
 low:4+5*(S:Int)<=l.node
 size:l.size=l.node+8*(N:Int)
 s1:1<=S
theorem Va{f k e r i:Int}(A:0<=r)(F:r<k)(O:0<=i)(h4:i<e):kG f k e r i=f+r*e+i:=by unfold kG;rw[if_neg (by omega)]
theorem Ad.F5{l:ah}{S N:Nat}(hL:rA l S N){a:Ad}(h:a.ok l S N):0<=a.cell l/\a.cell l<l.size:=by
 have A:=hL.size;have F:=hL.low;have O:=hL.s1;cases a with
 |era=>simp only[Ad.cell,hL.era];omega
 |free=>simp only[Ad.cell,hL.free];omega
 |ob c=>simp only[Ad.cell,Ad.ok] at h⊢;omega
 |rv w i=>obtain⟨a1,a2,a3,a4⟩:=h;simp only[Ad.cell,hL.mB w i a1 a2 a3 a4];omega
 |nd n i=>obtain⟨a1,a2,a3,a4⟩:=h;simp only[Ad.cell,hL.node n i a1 a2 a3 (by omega)];omega
 |bi n=>obtain⟨a1,a2⟩:=h;simp only[Ad.cell,hL.node n 6 a1 a2 (by omega) (by omega)];omega
 |lk n=>obtain⟨a1,a2⟩:=h;simp only[Ad.cell,hL.node n 7 a1 a2 (by omega) (by omega)];omega
def Ad.dec(l:ah)(S:Nat)(c:Int):Ad:=
 if c=2 then .era else if c=3 then .free else if c<4+5*(S:Int) then .rv ((c-(4+2*(S:Int)))/3) ((c-(4+2*(S:Int)))%3) else if c<l.node then .ob c
 else if(c-l.node)%8=6 then .bi ((c-l.node)/8+1) else if(c-l.node)%8=7 then .lk ((c-l.node)/8+1) else .nd ((c-l.node)/8+1) ((c-l.node)%8)
theorem Ad.Pa{l:ah}{S N:Nat}(hL:rA l S N){a:Ad}(ha:a.ok l S N):Ad.dec l S (a.cell l)=a:=by
 have F:=hL.low;have h5:=hL.s1;cases a with
 |era=>rw[show Ad.cell l .era=2 from hL.era];rfl
 |free=>rw[show Ad.cell l .free=3 from hL.free];rfl
 |ob c=>simp only[Ad.ok] at ha;rw[show Ad.cell l (.ob c)=c from rfl];unfold Ad.dec;rw[if_neg (by omega),if_neg (by omega),if_neg (by omega),if_pos (by omega)]
 |rv w i=>obtain⟨a1,a2,a3,a4⟩:=ha;rw[show Ad.cell l (.rv w i)=_ from hL.mB w i a1 a2 a3 a4];unfold Ad.dec;rw[if_neg (by omega),if_neg (by omega),if_pos (by omega),show(4+2*(S:Int)+3*w+i-(4+2*(S:Int)))/3=w by omega,show(4+2*(S:Int)+3*w+i-(4+2*(S:Int)))%3=i by omega]
 |nd n i=>obtain⟨a1,a2,a3,a4⟩:=ha;rw[show Ad.cell l (.nd n i)=_ from hL.node n i a1 a2 a3 (by omega)];unfold Ad.dec;rw[if_neg (by omega),if_neg (by omega),if_neg (by omega),if_neg (by omega),if_neg (by omega),if_neg (by omega),show(l.node+8*(n-1)+i-l.node)/8+1=n by omega,show(l.node+8*(n-1)+i-l.node)%8=i by omega]
 |bi n=>obtain⟨a1,a2⟩:=ha;rw[show Ad.cell l (.bi n)=_ from hL.node n 6 a1 a2 (by omega) (by omega)];unfold Ad.dec;rw[if_neg (by omega),if_neg (by omega),if_neg (by omega),if_neg (by omega),if_pos (by omega),show(l.node+8*(n-1)+6-l.node)/8+1=n by omega]
 |lk n=>obtain⟨a1,a2⟩:=ha;rw[show Ad.cell l (.lk n)=_ from hL.node n 7 a1 a2 (by omega) (by omega)];unfold Ad.dec;rw[if_neg (by omega),if_neg (by omega),if_neg (by omega),if_neg (by omega),if_neg (by omega),if_pos (by omega),show(l.node+8*(n-1)+7-l.node)/8+1=n by omega]
theorem Ad.Jo{l:ah}{S N:Nat}(hL:rA l S N){a b:Ad}(ha:a.ok l S N)(Z:b.ok l S N)(h:a.cell l=b.cell l):a=b:=by rw[<-Ad.Pa hL ha,<-Ad.Pa hL Z,h]
structure pP(l:ah)(S N:Nat)(m:List Int)(V:Vw):Prop where
 len:m.length=l.size.toNat
 at_:∀a:Ad,a.ok l S N->dp m (a.cell l)=V.get a
theorem WM{m:List Int}{c d v:Int}(h0:0<=c)(A:c<m.length)(D:0<=d):dp (m.set c.toNat v) d=if d=c then v else dp m d:=by
 unfold dp;have L:c.toNat<m.length:=by omega
 by_cases h:d=c
 ·subst h;rw[if_pos rfl,List.getD_eq_getElem?_getD,List.getElem?_set_self L];rfl
 ·rw[if_neg h,List.getD_eq_getElem?_getD,List.getD_eq_getElem?_getD,List.getElem?_set_ne (by omega)]
theorem pP.put{l:ah}{S N:Nat}{m:List Int}{V:Vw}(hL:rA l S N)(hV:pP l S N m V){a:Ad}(ha:a.ok l S N)(v:Int):pP l S N (m.set (a.cell l).toNat v) (V.put a v):=by
 have dH:=Ad.F5 hL ha;have cD:=hV.len;refine⟨by rw[List.length_set];exact cD,λ b Z=>?_⟩;have Zr:=Ad.F5 hL Z;rw[WM dH.1 (by omega) Zr.1,Vw.XS]
 by_cases h:b=a
 ·rw[if_pos (by rw[h]),if_pos h]
 ·rw[if_neg (λ e=>h (Ad.Jo hL Z ha e)),if_neg h];exact hV.at_ b Z
inductive Ak where
 |ld (a:Ad)|st (a:Ad) (v:Int)|cs (a:Ad) (o v:Int)|up
def Ak.acc(l:ah):Ak->aX
 |.ld a=>⟨1,a.cell l,0,0⟩
 |.st a v=>⟨2,a.cell l,0,v⟩
 |.cs a o v=>⟨3,a.cell l,o,v⟩
 |.up=>⟨4,l.era,0,1⟩
def Ak.ad:Ak->Ad
 |.ld a=>a
 |.st a _=>a
 |.cs a _ _=>a
 |.up=>.era
def bn(V:Vw):Ak->Vw×aF
 |.ld a=>(V,⟨V.get a,true⟩)
 |.st a v=>(V.put a v,⟨V.get a,true⟩)
 |.cs a o v=>if V.get a=o then(V.put a v,⟨V.get a,true⟩) else(V,⟨V.get a,false⟩)
 |.up=>({V with er:=V.er+1},⟨V.er,true⟩)
theorem NJ(m:List Int)(c:Int):ii m ⟨1,c,0,0⟩=(m,⟨dp m c,true⟩):=by simp[ii]
theorem NK(m:List Int)(c v:Int):ii m ⟨2,c,0,v⟩=(m.set c.toNat v,⟨dp m c,true⟩):=by simp[ii]
theorem NI(m:List Int)(c o v:Int):ii m ⟨3,c,o,v⟩=if dp m c=o then(m.set c.toNat v,⟨dp m c,true⟩) else(m,⟨dp m c,false⟩):=by simp[ii]
theorem NH(m:List Int)(c:Int):ii m ⟨4,c,0,1⟩=(m.set c.toNat (m4 (dp m c+1)),⟨dp m c,true⟩):=by simp[ii]
theorem Gq{n:Int}{a:aX}(h0:0<=a.cell)(A:a.cell<n)(J:(a.kind=1/\a.new=0/\a.dg=0)\/(a.kind=2/\a.dg=0)\/a.kind=3\/(a.kind=4/\a.dg=0)):nc n a=0:=by
 have hr:wk a=true:=by
  unfold wk;rcases J with⟨k1,k2,k3⟩|⟨k1,k2⟩|k1|⟨k1,k2⟩
  ·simp[k1,k2,k3,h0]
  ·simp[k1,k2,h0]
  ·simp[k1,h0]
  ·simp[k1,k2,h0]
 unfold nc;rw[if_pos hr,if_neg (by omega)]
structure Vh(l:ah)(S N:Nat)(m:List Int)(a:aX)(V:Vw)(r:aF):Prop where
 fault:nc m.length a=0
 view:pP l S N (ii m a).1 V
 res:(ii m a).2=r
theorem VR{l:ah}{S N:Nat}{m:List Int}{V:Vw}(hL:rA l S N)(hV:pP l S N m V)(he:0<=V.er/\V.er<=1000000){a:Ak}(ha:a.ad.ok l S N):Vh l S N m (a.acc l) (bn V a).1 (bn V a).2:=by
 have dH:=Ad.F5 hL ha;have cD:=hV.len;have io:=hV.at_ _ ha;cases a with
 |ld a=>
  refine⟨Gq dH.1 (by simp only[Ak.acc,Ak.ad] at dH⊢;omega) (.inl ⟨rfl,rfl,rfl⟩),?_,?_⟩
  ·simp only[Ak.acc];rw[NJ];exact hV
  ·simp only[Ak.acc];rw[NJ];simp only[Ak.ad] at io;rw[io];rfl
 |st a v=>
  refine⟨Gq dH.1 (by simp only[Ak.acc,Ak.ad] at dH⊢;omega) (.inr (.inl ⟨rfl,rfl⟩)),?_,?_⟩
  ·simp only[Ak.acc];rw[NK];exact hV.put hL ha v
  ·simp only[Ak.acc];rw[NK];simp only[Ak.ad] at io;rw[io];rfl
 |cs a o v=>
  simp only[Ak.ad] at io;refine⟨Gq dH.1 (by simp only[Ak.acc,Ak.ad] at dH⊢;omega) (.inr (.inr (.inl rfl))),?_,?_⟩
  ·simp only[Ak.acc,bn];rw[NI,io];split
   ·exact hV.put hL ha v
   ·exact hV
  ·simp only[Ak.acc,bn];rw[NI,io];split<;>rfl
 |up=>
  have io:dp m l.era=V.er:=io;refine⟨Gq dH.1 (by simp only[Ak.acc,Ak.ad,Ad.cell] at dH⊢;omega) (.inr (.inr (.inr ⟨rfl,rfl⟩))),?_,?_⟩
  ·simp only[Ak.acc,bn];rw[NH,io,ID (by omega) (by omega)];exact hV.put hL (a:=.era) trivial _
  ·simp only[Ak.acc,bn];rw[NH,io]
inductive Pc(aK:Type) where
 |at_ (k:aK)
 |t1 (k:aK)|t2 (k:aK) (f:Int)|t3 (k:aK) (f lk:Int)|t4 (k:aK) (n a:Int)|t5 (k:aK) (n a b:Int)
 |g1 (k:aK) (i:Int) (c:Ad)|g2 (k:aK) (i:Int) (c:Ad) (v a:Int)|g3 (k:aK) (i:Int) (c:Ad) (er:Int)
 |bG (k:aK)|c (k:aK) (i:Int)
 |v1 (k:aK) (n:Int)|v2 (k:aK) (n f:Int)|v3 (k:aK) (n f:Int)
 |r1 (k:aK) (n:Int)|r2 (k:aK) (n er:Int)
 |rs (k:aK) (aw:List Int) (c:Ad) (cs:List Ad)
 |s1 (k:aK) (aw:List Int) (g:Int×Int) (gs aL:List (Int×Int))
 |w1 (k:aK) (aw:List Int) (g:Int×Int) (gs aL:List (Int×Int))
 |w2 (k:aK) (aw:List Int) (g:Int×Int) (gs aL:List (Int×Int)) (f:Int)
 |w3 (k:aK) (aw:List Int) (g:Int×Int) (gs aL:List (Int×Int)) (f:Int)
 |fin (o:aY)
structure lx(aK:Type) where
 ask:aK->Ak
 tell:aK->Nat->aF->Pc aK
 uO:aK->Int->Int->Pc aK
 full:aK->Int->Pc aK
 guarded:aK->Int->Int->Pc aK
 rD:aK->Pc aK
 sN:aK->Pc aK
 retired:aK->Pc aK
structure Q(aK:Type) where
 pc:Pc aK
 s:af
variable{aK:Type}
def cf(ak:lx aK)(w:Int):Pc aK->Ak
 |.at_ k=>ak.ask k
 |.t1 _=>.ld .free
 |.t2 _ f=>.ld (.lk (ae f).idx)
 |.t3 _ f lk=>.cs .free f (bK (ca (ae f) lk))
 |.t4 _ _ _=>.ld .era
 |.t5 _ n _ b=>.st (.bi n) b
 |.g1 _ _ c=>.ld c
 |.g2 _ _ _ _ _=>.ld .era
 |.g3 _ i _ er=>.st (.rv w i) er
 |.bG _=>.ld .free
 |.c _ i=>.st (.rv w i) 0
 |.v1 _ _=>.ld .free
 |.v2 _ n f=>.st (.lk n) (ae f).idx
 |.v3 _ n f=>.cs .free f (bK (ca (ae f) n))
 |.r1 _ _=>.ld .era
 |.r2 _ _ _=>.up
 |.rs _ _ c _=>.ld c
 |.s1 _ _ g _ _=>.ld (.bi g.1)
 |.w1 ..=>.ld .free
 |.w2 _ _ g _ _ f=>.st (.lk g.1) (ae f).idx
 |.w3 _ _ g _ _ f=>.cs .free f (bK (ca (ae f) g.1))
 |.fin _=>.ld .free
def gj(ak:lx aK)(k:aK)(s:af):Q aK:=if s.e0≠0 then⟨.c k 0,s⟩ else if s.e1≠0 then⟨.c k 1,s⟩ else if s.e2≠0 then⟨.c k 2,s⟩ else⟨ak.rD k,s⟩
def aR(ak:lx aK)(pc:Pc aK)(s:af):Q aK:=match pc with
 |.bG k=>gj ak k s
 |pc=>⟨pc,s⟩
def gL(ak:lx aK)(k:aK)(aw:List Int)(s:af):List (Int×Int)->List (Int×Int)->Q aK
 |[],aL=>aR ak (ak.retired k) {s with gone:=aL}
 |g::gs,aL=>⟨.s1 k aw g gs aL,s⟩
def mU(ak:lx aK)(k:aK)(aw:List Int)(s:af):List Ad->Q aK
 |[]=>gL ak k aw s s.gone []
 |c::cs=>⟨.rs k aw c cs,s⟩
def pK(j:Nat):Nat->List Ad
 |0=>[]
 |m+1=>.rv j 0::.rv j 1::.rv j 2::pK (j+1) m
def af.up(s:af):af:={s with made:=s.made+1}
theorem Ia(x:af)(i v:Int):(x.fb i v).made=x.made:=by
 unfold af.fb;split
 ·rfl
 ·split<;>rfl
def tell(ak:lx aK)(S:Nat)(q:Q aK)(r:aF):Q aK:=match q.pc with
 |.at_ k=>aR ak (ak.tell k q.s.made r) q.s.up
 |.t1 k=>if(ae r.val).idx=0 then aR ak (ak.full k q.s.made) q.s.up else⟨.t2 k r.val,q.s.up⟩
 |.t2 k f=>⟨.t3 k f r.val,q.s.up⟩
 |.t3 k f _=>if r.ok then⟨.t4 k (ae f).idx q.s.made,q.s.up⟩ else⟨.t1 k,q.s.up⟩
 |.t4 k n a=>⟨.t5 k n a r.val,q.s.up⟩
 |.t5 k n a _=>aR ak (ak.uO k n a) q.s.up
 |.g1 k i c=>⟨.g2 k i c r.val q.s.made,q.s.up⟩
 |.g2 k i c v a=>if r.val=q.s.e i then aR ak (ak.guarded k v a) q.s.up else⟨.g3 k i c r.val,q.s.up⟩
 |.g3 k i c er=>⟨.g1 k i c,q.s.up.fb i er⟩
 |.bG _=>q
 |.c k i=>gj ak k (q.s.up.fb i 0)
 |.v1 k n=>⟨.v2 k n r.val,q.s.up⟩
 |.v2 k n f=>⟨.v3 k n f,q.s.up⟩
 |.v3 k n _=>if r.ok then aR ak (ak.sN k) q.s.up else⟨.v1 k n,q.s.up⟩
 |.r1 k n=>⟨.r2 k n r.val,q.s.up⟩
 |.r2 k n er=>if(q.s.gone.length:Int)+1<2*(S:Int) then aR ak (ak.retired k) {q.s.up with gone:=q.s.gone++[(n,er)]} else mU ak k [] {q.s.up with gone:=q.s.gone++[(n,er)]} (pK 0 S)
 |.rs k aw _ cs=>mU ak k (aw++[r.val]) q.s.up cs
 |.s1 k aw g gs aL=>if aw.any (fE (kT r.val) g.2) then gL ak k aw q.s.up gs (aL++[g]) else⟨.w1 k aw g gs aL,q.s.up⟩
 |.w1 k aw g gs aL=>⟨.w2 k aw g gs aL r.val,q.s.up⟩
 |.w2 k aw g gs aL f=>⟨.w3 k aw g gs aL f,q.s.up⟩
 |.w3 k aw g gs aL _=>if r.ok then gL ak k aw q.s.up gs aL else⟨.w1 k aw g gs aL,q.s.up⟩
 |.fin _=>q
def oo(ak:lx aK)(S:Nat)(q:Q aK)(log:List aF):Q aK:=log.foldl (tell ak S) q
def sK(ak:lx aK)(l:ah)(w:Int)(q:Q aK):aX×aY×Bool:=match q.pc with
 |.fin o=>(eZ,{o with gone:=q.s.gone},true)
 |pc=>((cf ak w pc).acc l,mw,false)
def Pc.pS:Pc aK->Prop
 |.fin _=>False
 |.bG _=>False
 |_=>True
section
variable{ak:lx aK}{l:ah}{S:Nat}{G:Int}
def bT(ak:lx aK)(l:ah)(S:Nat)(G:Int)(q:Q aK)(x:Except aX (aY×af))(rest:List aF):Prop:=pY x=sK ak l G (oo ak S q rest)
theorem Xi{q:Q aK}{a:aX}{f:aF->Pm aY}{log:List aF}{s:af}(ha:(cf ak G q.pc).acc l=a)(hf:q.pc.pS)
 (h:∀r rest,log.drop s.made=r::rest->bT ak l S G (tell ak S q r) (f r log s.up) rest):bT ak l S G q ((fO a).bind f log s) (log.drop s.made):=by
 cases D:log.drop s.made with
 |nil=>
  rw[Xh D];show(a,mw,false)=sK ak l G q;unfold sK;split
  ·rename_i o ho;rw[ho] at hf;exact absurd hf id
  ·rw[ha]
 |cons r rest=>rw[Xg D];exact h r rest D
theorem TY{o:aY}{s:af}:∀rest:List aF,oo ak S ⟨.fin o,s⟩ rest=⟨.fin o,s⟩
 |[]=>rfl
 |_::rest=>TY rest
theorem JF{o:aY}{s:af}{rest:List aF}:bT ak l S G ⟨.fin o,s⟩ (.ok (o,s)) rest:=by
 unfold bT;rw[TY]
 rfl
theorem eP{q:Q aK}{a:aX}{f:aF->Pm aY}{log:List aF}{s:af}(ha:(cf ak G q.pc).acc l=a)(hf:q.pc.pS)
 (h:∀r,s.made<log.length->bT ak l S G (tell ak S q r) (f r log s.up) (log.drop s.up.made)):bT ak l S G q ((fO a).bind f log s) (log.drop s.made):=by
 refine Xi ha hf λ r rest D=>?_
 obtain⟨_,xj,YQ⟩:=Ph D;subst xj;exact h r YQ
theorem NC{k:aK}{f:Int×Int×Bool->Pm aY}{log:List aF}{M0:Nat}(hf:∀n a s,M0<=s.made->s.made<=log.length->bT ak l S G (aR ak (ak.uO k n a) s) (f (n,a,true) log s) (log.drop s.made))(p5:∀a s,M0<=s.made->s.made<=log.length->bT ak l S G (aR ak (ak.full k a) s) (f (0,a,false) log s) (log.drop s.made)):
 ∀(j:Nat)(s:af),M0<=s.made->log.length-s.made<j->bT ak l S G ⟨.t1 k,s⟩ ((ou l j).bind f log s) (log.drop s.made)
 |0,s,_,h=>by omega
 |j+1,s,hM,h=>by
  rw[ou,bind_assoc,mR];refine eP rfl trivial λ r A=>?_
  show bT ak l S G (if(ae r.val).idx=0 then _ else _) _ _;split
  ·rw[bind_assoc,az eu];have:=p5 (s.made:Int) s.up (by simp only[af.up];omega) (by simp only[af.up];omega);show bT ak l S G _ (f (0,((s.made+1:Nat):Int)-1,false) log _) _;rw[show((s.made+1:Nat):Int)-1=(s.made:Int) by omega];exact this
  ·rw[bind_assoc,mR];refine eP (s:=s.up) rfl trivial λ r2 F=>?_
   rw[bind_assoc,pd];refine eP (q:=⟨.t3 k r.val r2.val,s.up.up⟩) (s:=s.up.up) rfl trivial λ r3 O=>?_
   show bT ak l S G (if r3.ok then _ else _) _ _;split
   ·rw[bind_assoc,az eu,bind_assoc,mR];refine eP (s:=s.up.up.up) rfl trivial λ r4 h4=>?_
    rw[bind_assoc,oY];refine eP (q:=⟨.t5 k (ae r.val).idx s.up.up.made r4.val,s.up.up.up.up⟩) (s:=s.up.up.up.up) rfl trivial λ r5 h5=>?_
    have:=hf (ae r.val).idx (s.up.up.made:Int) s.up.up.up.up.up (by simp only[af.up];omega) (by simp only[af.up] at h5⊢;omega);show bT ak l S G _ (f ((ae r.val).idx,((s.up.up.up.made:Nat):Int)-1,true) log _) _;rw[show((s.up.up.up.made:Nat):Int)-1=(s.up.up.made:Int) by simp only[af.up];omega];exact this
   ·exact NC hf p5 j s.up.up.up (by simp only[af.up];omega) (by simp only[af.up] at O⊢;omega)
theorem JV{k:aK}{n:Int}{f:Unit->Pm aY}{log:List aF}{M0:Nat}(hf:∀s,M0<=s.made->s.made<=log.length->bT ak l S G (aR ak (ak.sN k) s) (f () log s) (log.drop s.made)):
 ∀(j:Nat)(s:af),M0<=s.made->log.length-s.made<j->bT ak l S G ⟨.v1 k n,s⟩ ((mH l n j).bind f log s) (log.drop s.made)
 |0,s,_,h=>by omega
 |j+1,s,hM,h=>by
  rw[mH,bind_assoc,mR];refine eP rfl trivial λ r A=>?_
  rw[bind_assoc,oY];refine eP (q:=⟨.v2 k n r.val,s.up⟩) (s:=s.up) rfl trivial λ r2 F=>?_
  rw[bind_assoc,pd];refine eP (q:=⟨.v3 k n r.val,s.up.up⟩) (s:=s.up.up) rfl trivial λ r3 O=>?_
  show bT ak l S G (if r3.ok then _ else _) _ _;split
  ·exact hf s.up.up.up (by simp only[af.up];omega) (by simp only[af.up] at O⊢;omega)
  ·exact JV hf j s.up.up.up (by simp only[af.up];omega) (by simp only[af.up] at O⊢;omega)
theorem U8{k:aK}{aw:List Int}{g:Int×Int}{gs aL:List (Int×Int)}{f:Unit->Pm aY}{log:List aF}{M0:Nat}(hf:∀s,M0<=s.made->s.made<=log.length->bT ak l S G (gL ak k aw s gs aL) (f () log s) (log.drop s.made)):
 ∀(j:Nat)(s:af),M0<=s.made->log.length-s.made<j->bT ak l S G ⟨.w1 k aw g gs aL,s⟩ ((mH l g.1 j).bind f log s) (log.drop s.made)
 |0,s,_,h=>by omega
 |j+1,s,hM,h=>by
  rw[mH,bind_assoc,mR];refine eP rfl trivial λ r A=>?_
  rw[bind_assoc,oY];refine eP (q:=⟨.w2 k aw g gs aL r.val,s.up⟩) (s:=s.up) rfl trivial λ r2 F=>?_
  rw[bind_assoc,pd];refine eP (q:=⟨.w3 k aw g gs aL r.val,s.up.up⟩) (s:=s.up.up) rfl trivial λ r3 O=>?_
  show bT ak l S G (if r3.ok then _ else _) _ _;split
  ·exact hf s.up.up.up (by simp only[af.up];omega) (by simp only[af.up] at O⊢;omega)
  ·exact U8 hf j s.up.up.up (by simp only[af.up];omega) (by simp only[af.up] at O⊢;omega)
theorem Na{k:aK}{aw:List Int}{f:Unit->Pm aY}{log:List aF}{M0:Nat}(hf:∀s,M0<=s.made->s.made<=log.length->bT ak l S G (aR ak (ak.retired k) s) (f () log s) (log.drop s.made)):
 ∀(gs aL:List (Int×Int))(s:af),M0<=s.made->s.made<=log.length->bT ak l S G (gL ak k aw s gs aL) ((fx l aw gs aL).bind (λ st=>(jq st).bind f) log s) (log.drop s.made)
 |[],aL,s,hM,hs=>by
  rw[fx];exact hf {s with gone:=aL} hM hs
 |g::gs,aL,s,hM,hs=>by
  rw[fx,bind_assoc,mR];refine eP (q:=⟨.s1 k aw g gs aL,s⟩) rfl trivial λ r A=>?_
  show bT ak l S G (if aw.any (fE (kT r.val) g.2) then _ else _) _ _;split
  ·exact Na hf gs (aL++[g]) s.up (by simp only[af.up];omega) (by simp only[af.up];omega)
  ·rw[bind_assoc];exact U8 (λ s hM hs=>Na hf gs aL s hM hs) (log.length+1-s.up.made) s.up (by simp only[af.up];omega) (by simp only[af.up];omega)
theorem TQ(l:ah):∀(m j:Nat),(pK j m).map (Ad.cell l)=j4 l j m
 |0,_=>rfl
 |m+1,j=>by simp only[pK,j4,List.map_cons,TQ l m (j+1)];rfl
theorem T9{k:aK}{gone:List (Int×Int)}{f:Unit->Pm aY}{log:List aF}{M0:Nat}(hf:∀s,M0<=s.made->s.made<=log.length->bT ak l S G (aR ak (ak.retired k) s) (f () log s) (log.drop s.made)):
 ∀(cs:List Ad)(aw:List Int)(s:af),s.gone=gone->M0<=s.made->s.made<=log.length->bT ak l S G (mU ak k aw s cs) ((kz aw (cs.map (Ad.cell l))).bind (λ aw=>(fx l aw gone []).bind (λ st=>(jq st).bind f)) log s) (log.drop s.made)
 |[],aw,s,hg,hM,hs=>by
  rw[List.map_nil,kz];subst hg;exact Na hf s.gone [] s hM hs
 |c::cs,aw,s,hg,hM,hs=>by
  rw[List.map_cons,kz,bind_assoc,mR];refine eP (q:=⟨.rs k aw c cs,s⟩) rfl trivial λ r A=>?_
  exact T9 hf cs (aw++[r.val]) s.up hg (by simp only[af.up];omega) (by simp only[af.up];omega)
theorem aeD(gone:List (Int×Int))(f:Unit->Pm aY):(tB l gone).bind f=(kz [] (j4 l 0 l.ar.toNat)).bind (λ aw=>(fx l aw gone []).bind (λ st=>(jq st).bind f)):=by
 unfold tB;rw[bind_assoc]
 congr 1
 funext aw
 rw[bind_assoc]
theorem MM(hS:l.ar=(S:Int)){k:aK}{n:Int}{f:Unit->Pm aY}{log:List aF}{M0:Nat}(hf:∀s,M0<=s.made->s.made<=log.length->bT ak l S G (aR ak (ak.retired k) s) (f () log s) (log.drop s.made))(s:af)(hM:M0<=s.made):bT ak l S G ⟨.r1 k n,s⟩ ((lr l n).bind f log s) (log.drop s.made):=by
 rw[lr,bind_assoc,mR];refine eP rfl trivial λ r A=>?_
 rw[bind_assoc];refine eP (q:=⟨.r2 k n r.val,s.up⟩) (s:=s.up) rfl trivial λ r2 F=>?_
 show bT ak l S G (if(s.gone.length:Int)+1<2*(S:Int) then _ else _) _ _;unfold Pm.bind;simp only;rw[hS]
 by_cases bm:(s.gone.length:Int)+1<2*(S:Int)
 ·rw[if_pos bm,if_pos (show((s.up.up.gone.length:Int)+1<2*(S:Int)) from bm)];exact hf {s.up.up with gone:=s.gone++[(n,r.val)]} (by simp only[af.up];omega) (by simp only[af.up] at F⊢;omega)
 ·rw[if_neg bm,if_neg (show¬((s.up.up.gone.length:Int)+1<2*(S:Int)) from bm)];have:=T9 (l:=l) (G:=G) (ak:=ak) (S:=S) (k:=k) (gone:=s.gone++[(n,r.val)]) hf (pK 0 S) [] {s.up.up with gone:=s.gone++[(n,r.val)]} rfl (by simp only[af.up];omega) (by simp only[af.up] at F⊢;omega);show bT ak l S G _ ((tB l (s.gone++[(n,r.val)])).bind f log {s.up.up with gone:=s.gone++[(n,r.val)]}) _;rw[aeD,hS,Int.toNat_natCast,<-TQ];exact this
theorem DA{k:aK}{i:Int}{c:Ad}{f:Int×Int->Pm aY}{log:List aF}{M0:Nat}(hf:∀v a s,M0<=s.made->s.made<=log.length->bT ak l S G (aR ak (ak.guarded k v a) s) (f (v,a) log s) (log.drop s.made)):
 ∀(j:Nat)(s:af),M0<=s.made->log.length-s.made<j->bT ak l S G ⟨.g1 k i c,s⟩ ((lC l G i (c.cell l) j).bind f log s) (log.drop s.made)
 |0,s,_,h=>by omega
 |j+1,s,hM,h=>by
  rw[lC,bind_assoc,mR];refine eP rfl trivial λ r A=>?_
  rw[bind_assoc,az eu,bind_assoc,mR];refine eP (q:=⟨.g2 k i c r.val s.made,s.up⟩) (s:=s.up) rfl trivial λ r2 F=>?_
  have key:∀m:Pm aY,m=((fA (cE l G i) r2.val).bind (λ _ log s=>lC l G i (c.cell l) j log (s.fb i r2.val))).bind f->bT ak l S G ⟨.g3 k i c r2.val,s.up.up⟩ (m log s.up.up) (log.drop s.up.up.made):=by
   intro m hm;rw[hm,bind_assoc,oY];refine eP (s:=s.up.up) rfl trivial λ r3 O=>?_
   have K5:=Ia;have:=DA (k:=k) (i:=i) (c:=c) hf j (s.up.up.up.fb i r2.val) (by rw[K5];simp only[af.up];omega) (by rw[K5];simp only[af.up] at O⊢;omega);rw[K5] at this;exact this
  show bT ak l S G (if r2.val=s.e i then _ else _) _ _;unfold Pm.bind;simp only
  by_cases he:r2.val=s.e i
  ·rw[if_pos he,if_pos (show r2.val=s.up.up.e i from he)];have:=hf r.val (s.made:Int) s.up.up (by simp only[af.up];omega) (by simp only[af.up] at F⊢;omega);show bT ak l S G _ (f (r.val,((s.made+1:Nat):Int)-1) log s.up.up) _;rw[show((s.made+1:Nat):Int)-1=(s.made:Int) by omega];exact this
  ·rw[if_neg he,if_neg (show¬r2.val=s.up.up.e i from he)];exact key _ rfl
theorem F9{k:aK}{f:Unit->Pm aY}{log:List aF}{M0:Nat}(hf:∀s,s.e0=0->s.e1=0->s.e2=0->M0<=s.made->s.made<=log.length->bT ak l S G ⟨ak.rD k,s⟩ (f () log s) (log.drop s.made))(s:af)(hM:M0<=s.made)(hs:s.made<=log.length):bT ak l S G (aR ak (.bG k) s) ((gB l G).bind f log s) (log.drop s.made):=by
 have F:∀s:af,s.e0=0->s.e1=0->M0<=s.made->s.made<=log.length->bT ak l S G (gj ak k s) ((dw l G 2 s.e2).bind f log s) (log.drop s.made):=by
  intro s z0 z1 hM hs;unfold gj;rw[if_neg (by simp[z0]),if_neg (by simp[z1])];unfold dw
  by_cases h:s.e2=0
  ·rw[if_neg (by simp[h]),if_pos h];exact hf s z0 z1 h hM hs
  ·rw[if_pos h,if_neg h,bind_assoc,oY];refine eP rfl trivial λ r A=>?_
   have:=hf {s.up with e2:=0} z0 z1 rfl (by simp only[af.up];omega) (by simp only[af.up];omega);show bT ak l S G (gj ak k {s.up with e2:=0}) (f () log {s.up with e2:=0}) _;unfold gj;rw[if_neg (by simp[af.up,z0]),if_neg (by simp[af.up,z1]),if_neg (by simp)];exact this
 have A:∀s:af,s.e0=0->M0<=s.made->s.made<=log.length->bT ak l S G (gj ak k s) (((dw l G 1 s.e1).bind λ _=>(dw l G 2 s.e2).bind f) log s) (log.drop s.made):=by
  intro s z0 hM hs
  by_cases h:s.e1=0
  ·have e:((dw l G 1 s.e1).bind λ _=>(dw l G 2 s.e2).bind f) log s=((dw l G 2 s.e2).bind f) log s:=by unfold dw;rw[if_pos h];rfl
   rw[e];exact F s z0 h hM hs
  ·unfold gj;rw[if_neg (by simp[z0]),if_pos h];have e:((dw l G 1 s.e1).bind λ _=>(dw l G 2 s.e2).bind f)=((fA (cE l G 1) 0).bind λ _=>(pM 1).bind λ _=>(dw l G 2 s.e2).bind f):=by
    have:dw l G 1 s.e1=(fA (cE l G 1) 0).bind λ _=>pM 1:=by unfold dw;rw[if_neg h];rfl
    rw[this,bind_assoc]
   rw[e,oY];refine eP rfl trivial λ r O=>?_
   exact F {s.up with e1:=0} z0 rfl (by simp only[af.up];omega) (by simp only[af.up];omega)
 have e:(gB l G).bind f log s=((dw l G 0 s.e0).bind λ _=>(dw l G 1 s.e1).bind λ _=>(dw l G 2 s.e2).bind f) log s:=by
  have e1:gB l G log s=((dw l G 0 s.e0).bind λ _=>(dw l G 1 s.e1).bind λ _=>(dw l G 2 s.e2).bind λ _=>.pure ()) log s:=rfl;have Z:∀m:Pm Unit,gB l G log s=m log s->(gB l G).bind f log s=m.bind f log s:=λ m hm=>by unfold Pm.bind;rw[hm]
  rw[Z _ e1,bind_assoc]
  congr 1
  congr 1
  funext _
  rw[bind_assoc]
  congr 1
  funext _
  rw[bind_assoc]
  rfl
 rw[e];show bT ak l S G (gj ak k s) _ _
 by_cases h:s.e0=0
 ·have e2:((dw l G 0 s.e0).bind λ _=>(dw l G 1 s.e1).bind λ _=>(dw l G 2 s.e2).bind f) log s=((dw l G 1 s.e1).bind λ _=>(dw l G 2 s.e2).bind f) log s:=by unfold dw;rw[if_pos h];rfl
  rw[e2];exact A s h hM hs
 ·unfold gj;rw[if_pos h];have e2:((dw l G 0 s.e0).bind λ _=>(dw l G 1 s.e1).bind λ _=>(dw l G 2 s.e2).bind f)=((fA (cE l G 0) 0).bind λ _=>(pM 0).bind λ _=>(dw l G 1 s.e1).bind λ _=>(dw l G 2 s.e2).bind f):=by
   have:dw l G 0 s.e0=(fA (cE l G 0) 0).bind λ _=>pM 0:=by unfold dw;rw[if_neg h];rfl
   rw[this,bind_assoc]
  rw[e2,oY];refine eP rfl trivial λ r O=>?_
  exact A {s.up with e0:=0} rfl (by simp only[af.up];omega) (by simp only[af.up];omega)
end
structure jt(N:Nat)(f cur:Int):Prop where
 acf:0<=f
 form:f=131072*(f/131072)+(ae f).idx
 le:(ae f).idx<=N
 dg:f/131072<=cur/131072
 same:f/131072=cur/131072->f=cur
theorem jt.up{N:Nat}{f cur iT:Int}(h:jt N f cur)(L:iT/131072=cur/131072+1):jt N f iT:=
 ⟨h.acf,h.form,h.le,by have:=h.dg;omega,λ e=>by have:=h.dg;omega⟩
theorem jt.ne{N:Nat}{f cur iT:Int}(h:jt N f cur)(L:iT/131072=cur/131072+1):iT≠f:=λ e=>by
 subst e;have:=h.dg;omega
theorem SO(f:Int):(ae f).idx=f%65536:=rfl
theorem E4{f c i j:Int}(hf:f=131072*c+i)(L:0<=c)(cM:c<1000000)(hi:0<=i/\i<65536)(hj:0<=j/\j<65536):bK (ca (ae f) j)=131072*(c+1)+j:=by simp only[bK,ca,ae,Bool.false_eq_true,if_false];omega
def o7(nx:Int->Int):List Int->Prop
 |[]=>True
 |x::aE=>nx x=aE.headD 0/\o7 nx aE
theorem o7.same{nx Al:Int->Int}:∀{aE:List Int},o7 nx aE->(∀x∈aE,Al x=nx x)->o7 Al aE
 |[],_,_=>trivial
 |x::aE,h,hs=>⟨(hs x (by simp)).trans h.1,h.2.same λ y hy=>hs y (by simp[hy])⟩
theorem head_cons{aE:List Int}(h:1<=aE.headD 0):∃yi,aE=aE.headD 0::yi:=by
 cases aE with
 |nil=>simp at h
 |cons x aE=>exact⟨aE,rfl⟩
theorem Nw{av:Type}(f:av->Nat):∀{l:List av}{i:Nat}{x:av}(y:av),l[i]?=some x->((l.set i y).map f).sum+f x=(l.map f).sum+f y
 |[],i,x,y,h=>by simp at h
 |a::l,0,x,y,h=>by simp at h;subst h;simp;omega
 |a::l,i+1,x,y,h=>by
  have:=Nw f (l:=l) (i:=i) (x:=x) y (by simpa using h);simp only[List.set_cons_succ,List.map_cons,List.sum_cons];omega
theorem EJ{av:Type}(f:av->Nat):∀{l:List av}{i:Nat}{x:av},l[i]?=some x->f x<=(l.map f).sum
 |[],i,x,h=>by simp at h
 |a::l,0,x,h=>by simp at h;subst h;simp
 |a::l,i+1,x,h=>by
  have:=EJ f (l:=l) (i:=i) (x:=x) (by simpa using h);simp;omega
theorem R5{av:Type}(f:av->Nat):∀{l:List av}{i j:Nat}{x y:av},i≠j->l[i]?=some x->l[j]?=some y->f x+f y<=(l.map f).sum
 |[],i,j,x,y,_,h,_=>by simp at h
 |a::l,0,0,x,y,b9,h,F=>absurd rfl b9
 |a::l,0,j+1,x,y,_,h,F=>by
  have:=EJ f (l:=l) (i:=j) (x:=y) (by simpa using F);simp at h;subst h;simp;omega
 |a::l,i+1,0,x,y,_,h,F=>by
  have:=EJ f (l:=l) (i:=i) (x:=x) (by simpa using h);simp at F;subst F;simp;omega
 |a::l,i+1,j+1,x,y,b9,h,F=>by
  have:=R5 f (l:=l) (i:=i) (j:=j) (x:=x) (y:=y) (by omega) (by simpa using h) (by simpa using F);simp;omega
theorem xY{av:Type}{l:List av}{w j:Nat}{q bD x:av}(hq:l[w]?=some q)(h:(l.set w bD)[j]?=some x):(j=w/\x=bD)\/(j≠w/\l[j]?=some x):=by
 rw[List.getElem?_set] at h;split at h
 ·rename_i e;subst e;rw[if_pos (List.getElem?_eq_some_iff.1 hq).1] at h;cases h;exact .inl ⟨rfl,rfl⟩
 ·rename_i e;exact .inr ⟨λ h=>e h.symm,h⟩
theorem wn{av:Type}{l:List av}{w:Nat}{q bD:av}(hq:l[w]?=some q):(l.set w bD)[w]?=some bD:=List.getElem?_set_self (List.getElem?_eq_some_iff.1 hq).1
theorem aeT{av:Type}{l:List av}{w j:Nat}{bD x:av}(hj:j≠w)(h:l[j]?=some x):(l.set w bD)[j]?=some x:=by rw[List.getElem?_set_ne (by omega)];exact h
structure Sp(aK cC:Type) where
 aZ:aK->List Int
 dead:aK->List Int
 zero:aK->Prop
 vf:aK->Int->Ad->Prop
 SI:Nat->Ws->List Int->(Int->Prop)->cC->Prop
 KL:Ws->List Int->cC->(Int->Int->Prop)->aK->Prop
 GL:Ws->List Int->cC->(Int->Int->Prop)->aK->Int->Ad->Int->Prop
 nx:Ws->List Int->cC->aK->List Int×cC
variable{aK cC:Type}
def af.z(s:af):Prop:=s.e0=0/\s.e1=0/\s.e2=0
def Pc.cont:Pc aK->Option aK
 |.at_ k|.t1 k|.t2 k _|.t3 k _ _|.t4 k _ _|.t5 k _ _ _|.g1 k _ _|.g2 k _ _ _ _|.g3 k _ _ _|.bG k|.c k _|.v1 k _|.v2 k _ _|.v3 k _ _|.r1 k _|.r2 k _ _|.rs k _ _ _|.s1 k _ _ _ _|.w1 k _ _ _ _|.w2 k _ _ _ _ _|.w3 k _ _ _ _ _=>some k
 |.fin _=>none
def eJ(ag:Sp aK cC):Pc aK->List Int
 |.t4 k n _|.t5 k n _ _|.v1 k n|.v2 k n _|.v3 k n _=>n::ag.aZ k
 |.at_ k|.t1 k|.t2 k _|.t3 k _ _|.g1 k _ _|.g2 k _ _ _ _|.g3 k _ _ _|.bG k|.c k _|.r1 k _|.r2 k _ _|.rs k _ _ _|.s1 k _ _ _ _|.w1 k _ _ _ _|.w2 k _ _ _ _ _|.w3 k _ _ _ _ _=>ag.aZ k
 |.fin _=>[]
def d3(ag:Sp aK cC):Pc aK->List Int
 |.r1 k n|.r2 k n _=>n::ag.dead k
 |.at_ k|.t1 k|.t2 k _|.t3 k _ _|.t4 k _ _|.t5 k _ _ _|.g1 k _ _|.g2 k _ _ _ _|.g3 k _ _ _|.bG k|.c k _|.v1 k _|.v2 k _ _|.v3 k _ _|.rs k _ _ _|.s1 k _ _ _ _|.w1 k _ _ _ _|.w2 k _ _ _ _ _|.w3 k _ _ _ _ _=>ag.dead k
 |.fin _=>[]
def iU(q:Q aK):List (Int×Int):=match q.pc with
 |.s1 _ _ g gs aL|.w1 _ _ g gs aL|.w2 _ _ g gs aL _|.w3 _ _ g gs aL _=>g::(gs++aL)
 |_=>q.s.gone
def ej(ag:Sp aK cC)(q:Q aK):List Int:=d3 ag q.pc++(iU q).map (·.1)
def own(ag:Sp aK cC)(q:Q aK):List Int:=eJ ag q.pc++ej ag q
def sd(ag:Sp aK cC)(qs:List (Q aK))(n:Int):Nat:=(qs.map λ q=>(own ag q).count n).sum
def Dq(ag:Sp aK cC)(qs:List (Q aK))(n:Int):Prop:=∃(j:Nat)(q:Q aK),qs[j]?=some q/\n∈ej ag q
def jr(aE:List (Int×Int))(n e:Int):Prop:=∃er,e<=er/\(n,er)∈aE
theorem jr.mem{aE:List (Int×Int)}{n e:Int}(h:jr aE n e):n∈aE.map (·.1):=by obtain⟨er,_,hm⟩:=h;exact List.mem_map.2 ⟨_,hm,rfl⟩
theorem jr.app{aE:List (Int×Int)}{n e:Int}(h:jr aE n e)(ak:List (Int×Int)):jr (aE++ak) n e:=by obtain⟨er,A,F⟩:=h;exact⟨er,A,by simp[F]⟩
theorem jr.perm{aE ak:List (Int×Int)}{n e:Int}(h:jr aE n e)(hs:∀x∈aE,x∈ak):jr ak n e:=by obtain⟨er,A,F⟩:=h;exact⟨er,A,hs _ F⟩
def lM(ag:Sp aK cC)(w i n e:Int)(q:Q aK):Prop:=match q.pc with
 |.r1 k fU=>fU=n\/n∈ag.dead k\/jr q.s.gone n e
 |.r2 k fU er=>(fU=n/\e<=er)\/n∈ag.dead k\/jr q.s.gone n e
 |.rs k aw c cs=>n∈ag.dead k\/(jr q.s.gone n e/\(e∈aw\/Ad.rv w i∈c::cs))
 |.s1 k aw g gs aL=>n∈ag.dead k\/(jr (g::(gs++aL)) n e/\e∈aw)
 |.w1 k aw _ gs aL|.w2 k aw _ gs aL _|.w3 k aw _ gs aL _=>n∈ag.dead k\/(jr (gs++aL) n e/\e∈aw)
 |pc=>n∈d3 ag pc\/jr q.s.gone n e
theorem aa8{ag:Sp aK cC}{w i n e:Int}{q:Q aK}(h:lM ag w i n e q):n∈ej ag q:=by
 obtain⟨pc,s⟩:=q;unfold ej;rw[List.mem_append];cases pc<;>simp only[lM,d3,iU] at h⊢
 case r1 k fU=>
  rcases h with rfl|h|h
  ·exact .inl List.mem_cons_self
  ·exact .inl (List.mem_cons_of_mem _ h)
  ·exact .inr h.mem
 case r2 k fU er=>
  rcases h with⟨rfl,_⟩|h|h
  ·exact .inl List.mem_cons_self
  ·exact .inl (List.mem_cons_of_mem _ h)
  ·exact .inr h.mem
 case rs=>exact h.imp id λ h=>h.1.mem
 case s1=>exact h.imp id λ h=>h.1.mem
 case w1=>exact h.imp id λ h=>by rw[List.map_cons];exact List.mem_cons_of_mem _ h.1.mem
 case w2=>exact h.imp id λ h=>by rw[List.map_cons];exact List.mem_cons_of_mem _ h.1.mem
 case w3=>exact h.imp id λ h=>by rw[List.map_cons];exact List.mem_cons_of_mem _ h.1.mem
 all_goals exact h.imp id jr.mem
structure wx(ag:Sp aK cC)(V:Vw)(X:List Int)(qs:List (Q aK))(w i n e:Int):Prop where
 FW:kT (V.bi n)<=e
 at_:n∈X\/∃(j:Nat)(q:Q aK),qs[j]?=some q/\lM ag w i n e q
def Pr(ag:Sp aK cC)(V:Vw)(X:List Int)(qs:List (Q aK))(w:Int)(s:af)(i n:Int):Prop:=0<=i/\i<=2/\wx ag V X qs w i n (s.e i)
def qk(P:Int->Int->Prop)(i:Int):Int->Int->Prop:=λ j n=>j≠i/\P j n
def xF:Int->Int->Prop:=λ _ _=>False
def IZ(S:Nat)(c:Ad):Prop:=∃w i:Int,0<=w/\w<S/\0<=i/\i<=2/\c=.rv w i
section
variable(ag:Sp aK cC)(l:ah)(S N:Nat)
def wv(V:Vw)(X:List Int)(g:cC)(P:Int->Int->Prop)(s:af):Pc aK->Prop
 |.at_ k=>ag.KL V.W X g P k/\(ag.zero k->s.z)
 |.t1 k=>ag.KL V.W X g P k/\(ag.zero k->s.z)
 |.t2 k f=>ag.KL V.W X g P k/\(ag.zero k->s.z)/\jt N f V.fr/\1<=(ae f).idx
 |.t3 k f lk=>ag.KL V.W X g P k/\(ag.zero k->s.z)/\jt N f V.fr/\1<=(ae f).idx/\(V.fr=f->lk=V.lk (ae f).idx)
 |.t4 k _ _=>ag.KL V.W X g P k/\(ag.zero k->s.z)
 |.t5 k _ _ b=>ag.KL V.W X g P k/\(ag.zero k->s.z)/\b<=V.er
 |.g1 k i c=>ag.KL V.W X g (qk P i) k/\¬ag.zero k/\0<=i/\i<=2/\c.str l S N/\ag.vf k i c
 |.g2 k i c v _=>ag.KL V.W X g (qk P i) k/\¬ag.zero k/\0<=i/\i<=2/\c.str l S N/\ag.vf k i c/\(V.er=s.e i->ag.GL V.W X g P k i c v)
 |.g3 k i c er=>ag.KL V.W X g (qk P i) k/\¬ag.zero k/\0<=i/\i<=2/\c.str l S N/\ag.vf k i c/\1<=er/\er<=V.er
 |.bG _=>False
 |.c k i=>ag.KL V.W X g xF k/\0<=i/\i<=2
 |.v1 k _=>ag.KL V.W X g P k/\(ag.zero k->s.z)
 |.v2 k _ f=>ag.KL V.W X g P k/\(ag.zero k->s.z)/\jt N f V.fr
 |.v3 k n f=>ag.KL V.W X g P k/\(ag.zero k->s.z)/\jt N f V.fr/\V.lk n=(ae f).idx
 |.r1 k _=>ag.KL V.W X g P k/\(ag.zero k->s.z)
 |.r2 k _ er=>ag.KL V.W X g P k/\(ag.zero k->s.z)/\er<=V.er
 |.rs k _ c cs=>ag.KL V.W X g P k/\(ag.zero k->s.z)/\(c::cs).length<=3*S/\∀x∈c::cs,IZ S x
 |.s1 k _ _ _ _=>ag.KL V.W X g P k/\(ag.zero k->s.z)
 |.w1 k _ _ _ _=>ag.KL V.W X g P k/\(ag.zero k->s.z)
 |.w2 k _ _ _ _ f=>ag.KL V.W X g P k/\(ag.zero k->s.z)/\jt N f V.fr
 |.w3 k _ x _ _ f=>ag.KL V.W X g P k/\(ag.zero k->s.z)/\jt N f V.fr/\V.lk x.1=(ae f).idx
 |.fin _=>s.z
structure Loc(V:Vw)(X:List Int)(g:cC)(qs:List (Q aK))(w:Nat)(q:Q aK):Prop where
 rv:∀i:Int,0<=i->i<=2->V.rv w i=q.s.e i
 e0:∀i:Int,0<=q.s.e i/\q.s.e i<=V.er
 pc:wv ag l S N V X g (Pr ag V X qs w q.s) q.s q.pc
structure Inv(aG:Nat)(V:Vw)(qs:List (Q aK))(aA X:List Int)(g:cC):Prop where
 n:qs.length=S
 fr:V.fr=131072*(V.fr/131072)+aA.headD 0
 w7:0<=V.fr/131072/\V.fr/131072<=aG
 er:1<=V.er/\V.er<=aG+1
 lf:o7 V.lk aA
 part:∀n,aA.count n+X.count n+sd ag qs n=if 1<=n/\n<=(N:Int) then 1 else 0
 bi:∀n,1<=n->n<=(N:Int)->V.bi n<=V.er
 si:ag.SI aG V.W X (Dq ag qs) g
 loc:∀(w:Nat)(q:Q aK),qs[w]?=some q->Loc ag l S N V X g qs w q
def o8(W:Ws)(X:List Int)(g:cC)(P:Int->Int->Prop)(s:af):Pc aK->Prop
 |.at_ k=>ag.KL W X g P k/\(ag.zero k->s.z)
 |.t1 k=>ag.KL W X g P k/\(ag.zero k->s.z)
 |.v1 k _=>ag.KL W X g P k/\(ag.zero k->s.z)
 |.r1 k _=>ag.KL W X g P k/\(ag.zero k->s.z)
 |.g1 k i c=>ag.KL W X g (qk P i) k/\¬ag.zero k/\0<=i/\i<=2/\c.str l S N/\ag.vf k i c
 |.bG k=>ag.KL W X g xF k
 |.fin _=>s.z
 |_=>False
end
def fS(W:Ws):Ak->Ws×aF
 |.ld a=>(W,⟨W.get a,true⟩)
 |.st a v=>(W.put a v,⟨W.get a,true⟩)
 |.cs a o v=>if W.get a=o then(W.put a v,⟨W.get a,true⟩) else(W,⟨W.get a,false⟩)
 |.up=>(W,⟨0,true⟩)
def Ak.str(l:ah)(S N:Nat):Ak->Prop
 |.ld a=>a.str l S N
 |.st a _=>a.str l S N
 |.cs a _ _=>a.str l S N
 |.up=>False
theorem Dx{l:ah}{S N:Nat}{V:Vw}{a:Ad}(h:a.str l S N):V.get a=V.W.get a:=by cases a<;>first|rfl|exact absurd h id
theorem Tu{l:ah}{S N:Nat}{V:Vw}{a:Ad}(h:a.str l S N)(v:Int):V.put a v={V with W:=V.W.put a v}:=by cases a<;>first|rfl|exact absurd h id
theorem VQ{l:ah}{S N:Nat}{V:Vw}{a:Ak}(h:a.str l S N):bn V a=({V with W:=(fS V.W a).1},(fS V.W a).2):=by
 cases a with
 |ld a=>simp only[bn,fS,Dx h]
 |st a v=>simp only[bn,fS,Dx h,Tu h]
 |cs a o v=>simp only[bn,fS,Dx h,Tu h];split<;>rfl
 |up=>exact absurd h id
structure qx(ag:Sp aK cC)(l:ah)(S N aG:Nat)(W:Ws)(X:List Int)(ay:Int->Prop)(g:cC)(P:Int->Int->Prop)(s:af)(k:aK)(W':Ws)(dO:List Int)(bF:cC)(eK:Pc aK):Prop where
 si:ag.SI (aG+1) W' dO (λ n=>ay n\/n∈d3 ag eK) bF
 ok:o8 ag l S N W' dO bF P s eK
 Mh:∀(k2:aK)(P2:Int->Int->Prop),(∀i n,P2 i n->n∈X\/ay n)->(∀n∈ag.aZ k2,n∉X/\¬ay n/\n∉ag.aZ k)->(∀n∈ag.dead k2,ay n/\n∉X)->ag.KL W X g P2 k2->ag.KL W' dO bF P2 k2
 acO:∀(k2:aK)(P2:Int->Int->Prop)(i:Int)(c:Ad)(v:Int),(∀i n,P2 i n->n∈X\/ay n)->(∀n∈ag.aZ k2,n∉X/\¬ay n/\n∉ag.aZ k)->(∀n∈ag.dead k2,ay n/\n∉X)->ag.KL W X g (qk P2 i) k2->ag.GL W X g P2 k2 i c v->ag.GL W' dO bF P2 k2 i c v
 count:∀n,dO.count n+(eJ ag eK).count n+(d3 ag eK).count n=X.count n+(ag.aZ k).count n+(ag.dead k).count n
 Lw:∀n∈X,n∈dO\/n∈d3 ag eK
 tn:∀n∈ag.dead k,n∈d3 ag eK
structure nO(ak:lx aK)(ag:Sp aK cC)(l:ah)(S N:Nat):Prop where
 ic:∀{W X g P lN k},ag.KL W X g P k->(∀i n,P i n->lN i n)->ag.KL W X g lN k
 JX:∀{W X g P lN k i c v},ag.GL W X g P k i c v->(∀i n,P i n->lN i n)->ag.GL W X g lN k i c v
 CG:∀{W X g aG tI}{ay ox:Int->Prop},ag.SI aG W X ay g->(∀n,ox n->ay n)->aG<=tI->ag.SI tI W X ox g
 uO:∀{W X g P k}(s:af)(n a:Int),ag.KL W X g P k->(ag.zero k->s.z)->1<=n->n<=N->n∉X->o8 ag l S N W X g P s (ak.uO k n a)
 UQ:∀(k:aK)(n a x:Int),(eJ ag (ak.uO k n a)).count x=(n::ag.aZ k).count x
 Iz:∀(k:aK)(n a:Int),d3 ag (ak.uO k n a)=ag.dead k
 full:∀{W X g P k}(s:af)(a:Int),ag.KL W X g P k->(ag.zero k->s.z)->o8 ag l S N W X g P s (ak.full k a)
 PH:∀(k:aK)(a:Int),eJ ag (ak.full k a)=ag.aZ k
 Gy:∀(k:aK)(a:Int),d3 ag (ak.full k a)=ag.dead k
 sN:∀{W X g P k}(s:af),ag.KL W X g P k->(ag.zero k->s.z)->o8 ag l S N W X g P s (ak.sN k)
 PJ:∀(k:aK),eJ ag (ak.sN k)=ag.aZ k
 GB:∀(k:aK),d3 ag (ak.sN k)=ag.dead k
 retired:∀{W X g P k}(s:af),ag.KL W X g P k->(ag.zero k->s.z)->o8 ag l S N W X g P s (ak.retired k)
 MN:∀(k:aK),eJ ag (ak.retired k)=ag.aZ k
 Fh:∀(k:aK),d3 ag (ak.retired k)=ag.dead k
 rD:∀{W X g k}(s:af),ag.KL W X g xF k->s.z->o8 ag l S N W X g xF s (ak.rD k)
 O1:∀(k iG:aK),ak.rD k≠.bG iG
 O0:∀(k:aK),eJ ag (ak.rD k)=ag.aZ k
 OZ:∀(k:aK),d3 ag (ak.rD k)=ag.dead k
 PL:∀{W X g ay P k aG}(i:Int)(c:Ad),c.str l S N->ag.vf k i c->ag.SI aG W X ay g->ag.KL W X g (qk P i) k->(∀n∈X,P i n)->(∀i n,P i n->n∈X\/ay n)->ag.GL W X g P k i c (W.get c)
 guarded:∀{W X g P k i c v}(s:af)(a:Int),ag.vf k i c->ag.GL W X g P k i c v->ag.KL W X g (qk P i) k->o8 ag l S N W X g P s (ak.guarded k v a)
 PQ:∀(k:aK)(v a:Int),eJ ag (ak.guarded k v a)=ag.aZ k
 GF:∀(k:aK)(v a:Int),d3 ag (ak.guarded k v a)=ag.dead k
 ask:∀{W X g P ay k aG},ag.SI aG W X ay g->ag.KL W X g P k->(∀i n,P i n->1<=n/\n<=(N:Int))->(∀n,n∈X\/n∈ag.aZ k\/n∈ag.dead k->1<=n/\n<=(N:Int))->(ak.ask k).str l S N
 step:∀{W X ay g P k aG}(s:af)(m:Nat),aG<=100000->ag.SI aG W X ay g->ag.KL W X g P k->(ag.zero k->s.z)->(∀i n,P i n->n∈X\/ay n)->(∀n,n∈X\/n∈ag.aZ k\/ay n->1<=n/\n<=(N:Int))->X.Nodup->(ag.aZ k).Nodup->(∀n∈ag.aZ k,n∉X/\¬ay n)->(∀n,ay n->n∉X)->(∀n∈ag.dead k,ay n)->qx ag l S N aG W X ay g P s k (fS W (ak.ask k)).1 (ag.nx W X g k).1 (ag.nx W X g k).2 (ak.tell k m (fS W (ak.ask k)).2)
section
variable{ag:Sp aK cC}{l:ah}{S N aG:Nat}{V:Vw}{qs:List (Q aK)}{aA X:List Int}{g:cC}(hI:Inv ag l S N aG V qs aA X g)
include hI
end
theorem acT{ag:Sp aK cC}{qs:List (Q aK)}{w:Nat}{q:Q aK}(bD:Q aK)(n:Int)(h:qs[w]?=some q):sd ag (qs.set w bD) n+(own ag q).count n=sd ag qs n+(own ag bD).count n:=Nw (λ q=>(own ag q).count n) bD h
theorem adB{ag:Sp aK cC}{V bt:Vw}{X dO:List Int}{qs:List (Q aK)}{w:Nat}{q bD:Q aK}(hq:qs[w]?=some q){j i n e:Int}(hP:wx ag V X qs j i n e)(Z:bt.bi n=V.bi n)(hX:n∈X->n∈dO\/lM ag j i n e bD)(hK:lM ag j i n e q->lM ag j i n e bD):wx ag bt dO (qs.set w bD) j i n e:=by
 refine⟨by rw[Z];exact hP.FW,?_⟩;rcases hP.at_ with h|⟨a,x,hi,T⟩
 ·rcases hX h with h|h
  ·exact .inl h
  ·exact .inr ⟨w,bD,wn hq,h⟩
 ·by_cases QO:a=w
  ·subst QO;rw[hq] at hi;cases hi;exact .inr ⟨a,bD,wn hq,hK T⟩
  ·exact .inr ⟨a,x,aeT QO hi,T⟩
theorem uH{ag:Sp aK cC}{V:Vw}{X:List Int}{qs:List (Q aK)}{w:Int}{s:af}{i n:Int}(h:Pr ag V X qs w s i n):n∈X\/Dq ag qs n:=by
 rcases h.2.2.at_ with h|⟨j,q,hq,J⟩
 ·exact .inl h
 ·exact .inr ⟨j,q,hq,aa8 J⟩
variable{aK cC:Type}{ak:lx aK}{ag:Sp aK cC}{l:ah}{S N aG:Nat}
theorem E1{P lN:Int->Int->Prop}{i:Int}(h:∀i n,P i n->lN i n):∀j n,qk P i j n->qk lN i j n:=λ j n hj=>⟨hj.1,h j n hj.2⟩
theorem acx{P:Int->Int->Prop}{i:Int}{am:Int->Prop}(h:∀i n,P i n->am n):∀j n,qk P i j n->am n:=λ j n hj=>h j n hj.2
theorem Loc.frame(hs:nO ak ag l S N){V bt:Vw}{X dO:List Int}{g bF:cC}{qs Ib:List (Q aK)}{j:Nat}{x:Q aK}(h:Loc ag l S N V X g qs j x)
 (hP:∀i n,Pr ag V X qs j x.s i n->Pr ag bt dO Ib j x.s i n)(po:bt.fr=V.fr\/bt.fr/131072=V.fr/131072+1)(ku:bt.fr=V.fr->bt.lk (ae V.fr).idx=V.lk (ae V.fr).idx)(n6:∀n∈own ag x,bt.lk n=V.lk n)
 (xk:bt.er=V.er\/bt.er=V.er+1)(Lb:∀i,bt.rv j i=V.rv j i)
 (hK:∀k,x.pc.cont=some k->∀P,(∀i n,P i n->n∈X\/Dq ag qs n)->ag.KL V.W X g P k->ag.KL bt.W dO bF P k)
 (hG:∀k,x.pc.cont=some k->∀(P:Int->Int->Prop)(i:Int)(c:Ad)(v:Int),(∀i n,P i n->n∈X\/Dq ag qs n)->ag.KL V.W X g (qk P i) k->ag.GL V.W X g P k i c v->ag.GL bt.W dO bF P k i c v):Loc ag l S N bt dO bF Ib j x:=by
 obtain⟨a1,a2,a3⟩:=h;have dH:∀i n,Pr ag V X qs j x.s i n->n∈X\/Dq ag qs n:=λ i n h=>uH h
 have seen:∀f,jt N f V.fr->jt N f bt.fr:=λ f h=>by
  rcases po with e|e
  ·rw[e];exact h
  ·exact h.up e
 refine⟨λ i i0 i2=>by rw[Lb];exact a1 i i0 i2,λ i=>⟨(a2 i).1,by have:=(a2 i).2;omega⟩,?_⟩;obtain⟨pc,s⟩:=x;have kl:∀k,pc.cont=some k->ag.KL V.W X g (Pr ag V X qs j s) k->ag.KL bt.W dO bF (Pr ag bt dO Ib j s) k:=λ k J h=>hs.ic (hK k J _ dH h) hP
 have Lz:∀k i,pc.cont=some k->ag.KL V.W X g (qk (Pr ag V X qs j s) i) k->ag.KL bt.W dO bF (qk (Pr ag bt dO Ib j s) i) k:=λ k i J h=>hs.ic (hK k J _ (acx dH) h) (E1 hP)
 have Sf:∀n,n∈own ag ⟨pc,s⟩->bt.lk n=V.lk n:=n6;cases pc<;>simp only[wv] at a3⊢
 case at_ k=>exact⟨kl k rfl a3.1,a3.2⟩
 case t1 k=>exact⟨kl k rfl a3.1,a3.2⟩
 case t2 k f=>exact⟨kl k rfl a3.1,a3.2.1,seen f a3.2.2.1,a3.2.2.2⟩
 case t3 k f lk=>
  refine⟨kl k rfl a3.1,a3.2.1,seen f a3.2.2.1,a3.2.2.2.1,λ e=>?_⟩;rcases po with ab|ab
  ·have ef:V.fr=f:=by rw[<-ab];exact e
   have:=ku ab;rw[ef] at this;rw[this];exact a3.2.2.2.2 ef
  ·exact absurd e (a3.2.2.1.ne ab)
 case t4 k n a=>exact⟨kl k rfl a3.1,a3.2⟩
 case t5 k n a b=>exact⟨kl k rfl a3.1,a3.2.1,by have:=a3.2.2;omega⟩
 case g1 k i c=>exact⟨Lz k i rfl a3.1,a3.2⟩
 case g2 k i c v a=>refine⟨Lz k i rfl a3.1,a3.2.1,a3.2.2.1,a3.2.2.2.1,a3.2.2.2.2.1,a3.2.2.2.2.2.1,λ e=>?_⟩;have e2:=(a2 i).2;simp only at e2;exact hs.JX (hG k rfl _ i c v dH a3.1 (a3.2.2.2.2.2.2 (by omega))) hP
 case g3 k i c er=>exact⟨Lz k i rfl a3.1,a3.2.1,a3.2.2.1,a3.2.2.2.1,a3.2.2.2.2.1,a3.2.2.2.2.2.1,a3.2.2.2.2.2.2.1,by have:=a3.2.2.2.2.2.2.2;omega⟩
 case c k i=>exact⟨hK k rfl _ (λ _ _ h=>absurd h id) a3.1,a3.2⟩
 case v1 k n=>exact⟨kl k rfl a3.1,a3.2⟩
 case v2 k n f=>exact⟨kl k rfl a3.1,a3.2.1,seen f a3.2.2⟩
 case v3 k n f=>exact⟨kl k rfl a3.1,a3.2.1,seen f a3.2.2.1,by rw[Sf n (by simp[own,eJ])];exact a3.2.2.2⟩
 case r1 k n=>exact⟨kl k rfl a3.1,a3.2⟩
 case r2 k n er=>exact⟨kl k rfl a3.1,a3.2.1,by have:=a3.2.2;omega⟩
 case rs k aw c cs=>exact⟨kl k rfl a3.1,a3.2⟩
 case s1 k aw g gs aL=>exact⟨kl k rfl a3.1,a3.2⟩
 case w1 k aw g gs aL=>exact⟨kl k rfl a3.1,a3.2⟩
 case w2 k aw g gs aL f=>exact⟨kl k rfl a3.1,a3.2.1,seen f a3.2.2⟩
 case w3 k aw x gs aL f=>exact⟨kl k rfl a3.1,a3.2.1,seen f a3.2.2.1,by rw[Sf x.1 (by simp[own,ej,iU])];exact a3.2.2.2⟩
 case fin o=>exact a3
structure Move(ag:Sp aK cC)(V bt:Vw)(X dO:List Int)(qs:List (Q aK))(q bD:Q aK):Prop where
 bi:∀n,n∈X\/Dq ag qs n->bt.bi n=V.bi n
 Lw:∀n∈X,n∈dO\/∀j i e:Int,lM ag j i n e bD
 aV:∀(j:Nat)(x:Q aK)(i n:Int),qs[j]?=some x->0<=i->i<=2->wx ag V X qs j i n (x.s.e i)->lM ag j i n (x.s.e i) q->lM ag j i n (x.s.e i) bD
theorem Move.pr{V bt:Vw}{X dO:List Int}{qs:List (Q aK)}{w:Nat}{q bD:Q aK}(hm:Move ag V bt X dO qs q bD)(hq:qs[w]?=some q){j:Nat}{x:Q aK}(T:qs[j]?=some x){aa:af}{i n:Int}(he:aa.e i=x.s.e i)(h:Pr ag V X qs j x.s i n):Pr ag bt dO (qs.set w bD) j aa i n:=by refine⟨h.1,h.2.1,?_⟩;rw[he];exact adB hq h.2.2 (hm.bi n (uH h)) (λ hX=>(hm.Lw n hX).imp id λ J=>J _ _ _) (hm.aV j x i n T h.1 h.2.1 h.2.2)
theorem JG{qs:List (Q aK)}{w:Nat}{q bD:Q aK}(hq:qs[w]?=some q){n:Int}(h:Dq ag (qs.set w bD) n):Dq ag qs n\/n∈ej ag bD:=by
 obtain⟨j,x,T,hn⟩:=h;rcases xY hq T with⟨rfl,rfl⟩|⟨_,T⟩
 ·exact .inr hn
 ·exact .inl ⟨j,x,T,hn⟩
theorem A8(k:aK)(s:af):(∃i:Int,0<=i/\i<=2/\s.e i≠0/\gj ak k s=⟨.c k i,s⟩)\/(s.z/\gj ak k s=⟨ak.rD k,s⟩):=by
 unfold gj
 by_cases h0:s.e0=0
 ·by_cases A:s.e1=0
  ·by_cases F:s.e2=0
   ·exact .inr ⟨⟨h0,A,F⟩,by simp[h0,A,F]⟩
   ·exact .inl ⟨2,by omega,by omega,F,by simp[h0,A,F]⟩
  ·exact .inl ⟨1,by omega,by omega,A,by simp[h0,A]⟩
 ·exact .inl ⟨0,by omega,by omega,h0,by simp[h0]⟩
structure sy(ag:Sp aK cC)(l:ah)(S N:Nat)(V:Vw)(X:List Int)(g:cC)(P:Int->Int->Prop)(s:af)(mi de:List Int)(q:Q aK):Prop where
 hs:q.s=s
 loc:wv ag l S N V X g P s q.pc
 aZ:eJ ag q.pc=mi
 dead:d3 ag q.pc=de
 gone:iU q=s.gone
 keeps:∀{j i n e:Int},lM ag j i n e q↔n∈de\/jr s.gone n e
theorem Pu{V:Vw}{X:List Int}{g:cC}{P:Int->Int->Prop}{s:af}{pc:Pc aK}(h:o8 ag l S N V.W X g P s pc)(hn:∀k,pc≠.bG k):sy ag l S N V X g P s (eJ ag pc) (d3 ag pc) ⟨pc,s⟩:=by
 cases pc<;>simp only[o8] at h
 case at_ k=>exact⟨rfl,h,rfl,rfl,rfl,Iff.rfl⟩
 case t1 k=>exact⟨rfl,h,rfl,rfl,rfl,Iff.rfl⟩
 case v1 k n=>exact⟨rfl,h,rfl,rfl,rfl,Iff.rfl⟩
 case r1 k n=>
  refine⟨rfl,h,rfl,rfl,rfl,?_⟩;intro j i fU e;simp only[lM,d3,List.mem_cons];constructor
  ·rintro(h|h|h)
   ·exact .inl (.inl h.symm)
   ·exact .inl (.inr h)
   ·exact .inr h
  ·rintro((h|h)|h)
   ·exact .inl h.symm
   ·exact .inr (.inl h)
   ·exact .inr (.inr h)
 case g1 k i c=>exact⟨rfl,h,rfl,rfl,rfl,Iff.rfl⟩
 case bG k=>exact absurd rfl (hn k)
 case fin o=>exact⟨rfl,h,rfl,rfl,rfl,Iff.rfl⟩
theorem Sh(hs:nO ak ag l S N){V:Vw}{X:List Int}{g:cC}{P lN:Int->Int->Prop}{s:af}{pc:Pc aK}(h:o8 ag l S N V.W X g P s pc)(hP:∀i n,P i n->lN i n):o8 ag l S N V.W X g lN s pc:=by
 cases pc<;>simp only[o8] at h⊢
 case at_ k=>exact⟨hs.ic h.1 hP,h.2⟩
 case t1 k=>exact⟨hs.ic h.1 hP,h.2⟩
 case v1 k n=>exact⟨hs.ic h.1 hP,h.2⟩
 case r1 k n=>exact⟨hs.ic h.1 hP,h.2⟩
 case g1 k i c=>exact⟨hs.ic h.1 (E1 hP),h.2⟩
 case bG k=>exact h
 case fin o=>exact h
theorem JI(hs:nO ak ag l S N){V:Vw}{X:List Int}{g:cC}{P:Int->Int->Prop}{s:af}{k:aK}(h:ag.KL V.W X g xF k):sy ag l S N V X g P s (ag.aZ k) (ag.dead k) (gj ak k s):=by
 rcases A8 (ak:=ak) k s with⟨i,i0,i2,_,e⟩|⟨hz,e⟩
 ·rw[e];exact⟨rfl,⟨h,i0,i2⟩,rfl,rfl,rfl,Iff.rfl⟩
 ·rw[e];have:=Pu (V:=V) (Sh hs (hs.rD s h hz) (lN:=P) (λ _ _ h=>absurd h id)) (λ iG=>hs.O1 k iG);rw[hs.O0,hs.OZ] at this;exact this
theorem yD(hs:nO ak ag l S N){V:Vw}{X:List Int}{g:cC}{P:Int->Int->Prop}{s:af}{pc:Pc aK}(h:o8 ag l S N V.W X g P s pc):sy ag l S N V X g P s (eJ ag pc) (d3 ag pc) (aR ak pc s):=by
 by_cases L:∃k,pc=.bG k
 ·obtain⟨k,rfl⟩:=L;exact JI hs h
 ·have e:aR ak pc s=⟨pc,s⟩:=by
   unfold aR;split
   ·rename_i k;exact absurd ⟨k,rfl⟩ L
   ·rfl
  rw[e];exact Pu h λ k J=>L ⟨k,J⟩
theorem sy.ej{V:Vw}{X:List Int}{g:cC}{P:Int->Int->Prop}{s:af}{mi de:List Int}{q:Q aK}(h:sy ag l S N V X g P s mi de q):ej ag q=de++s.gone.map (·.1):=by unfold Go.Proofs.YtcnefjfboagbmaaGreat.ej;rw[h.dead,h.gone]
theorem sy.own{V:Vw}{X:List Int}{g:cC}{P:Int->Int->Prop}{s:af}{mi de:List Int}{q:Q aK}(h:sy ag l S N V X g P s mi de q):own ag q=mi++(de++s.gone.map (·.1)):=by unfold Go.Proofs.YtcnefjfboagbmaaGreat.own;rw[h.aZ,h.ej]
theorem Gn{s:af}{i j v:Int}(i0:0<=i)(i2:i<=2)(j0:0<=j)(j2:j<=2):(s.fb i v).e j=if j=i then v else s.e j:=by
 unfold af.fb af.e;have:i=0\/i=1\/i=2:=by omega
 have:j=0\/j=1\/j=2:=by omega
 rcases‹i=0\/i=1\/i=2›with rfl|rfl|rfl<;>rcases‹j=0\/j=1\/j=2›with rfl|rfl|rfl<;>rfl
theorem Ts{s:af}{i v:Int}(p:Int->Prop)(h:∀j,p (s.e j))(hv:p v):∀j,p ((s.fb i v).e j):=by
 intro j;have h0:p s.e0:=h 0;have A:p s.e1:=h 1;have F:p s.e2:=h 2;unfold af.fb af.e
 by_cases i0:i=0<;>by_cases i1:i=1<;>by_cases j0:j=0<;>by_cases j1:j=1<;>simp only[i0,i1,j0,j1,if_true,if_false]<;>first|assumption|omega
theorem Mv(x:af)(i v:Int):(x.fb i v).gone=x.gone:=by
 unfold af.fb;split
 ·rfl
 ·split<;>rfl
variable{aK cC:Type}{ak:lx aK}{ag:Sp aK cC}{l:ah}{S N aG:Nat}
def oT(V:Vw)(aA:List Int):Pc aK->List Int
 |.t3 _ f _=>if V.fr=f then aA.tail else aA
 |.v3 _ n f=>if V.fr=f then n::aA else aA
 |.w3 _ _ g _ _ f=>if V.fr=f then g.1::aA else aA
 |_=>aA
def iN(ag:Sp aK cC)(W:Ws)(X:List Int)(g:cC):Pc aK->List Int×cC
 |.at_ k=>ag.nx W X g k
 |_=>(X,g)
structure CX(ag:Sp aK cC)(l:ah)(S N:Nat)(V:Vw)(X:List Int)(g:cC)(P:Int->Int->Prop)(s:af)(mi de:List Int)(go:List (Int×Int))(C:Int->Int->Int->Int->Prop)(q:Q aK):Prop where
 e:∀i,q.s.e i=s.e i
 loc:wv ag l S N V X g P q.s q.pc
 aZ:eJ ag q.pc=mi
 dead:d3 ag q.pc=de
 gone:iU q=go
 keeps:∀{j i n e:Int},C j i n e->lM ag j i n e q
theorem sy.Ch{V:Vw}{X:List Int}{g:cC}{P:Int->Int->Prop}{s:af}{mi de:List Int}{q:Q aK}(h:sy ag l S N V X g P s mi de q):CX ag l S N V X g P s mi de s.gone (λ _ _ n e=>n∈de\/jr s.gone n e) q:=
 ⟨λ i=>by rw[h.hs],by rw[h.hs];exact h.loc,h.aZ,h.dead,h.gone,λ L=>h.keeps.2 L⟩
theorem M7(hs:nO ak ag l S N){V:Vw}{X:List Int}{g:cC}{P:Int->Int->Prop}{k:aK}{aw:List Int}{s:af}{gs aL:List (Int×Int)}(h:ag.KL V.W X g P k)(hz:ag.zero k->s.z):CX ag l S N V X g P s (ag.aZ k) (ag.dead k) (gs++aL) (λ _ _ n e=>n∈ag.dead k\/(jr (gs++aL) n e/\e∈aw)) (gL ak k aw s gs aL):=by
 cases gs with
 |nil=>have A:=(yD hs (V:=V) (s:={s with gone:=aL}) (hs.retired {s with gone:=aL} h hz)).Ch;rw[hs.MN,hs.Fh] at A;exact⟨A.e,A.loc,A.aZ,A.dead,by rw[List.nil_append];exact A.gone,λ L=>A.keeps (L.imp id λ L=>by rw[List.nil_append] at L;exact L.1)⟩
 |cons x gs=>exact⟨λ _=>rfl,⟨h,hz⟩,rfl,rfl,rfl,λ L=>L⟩
theorem T6(hs:nO ak ag l S N){V:Vw}{X:List Int}{g:cC}{P:Int->Int->Prop}{k:aK}{aw:List Int}{s:af}{cs:List Ad}(h:ag.KL V.W X g P k)(hz:ag.zero k->s.z)(U:cs.length<=3*S)(L:∀x∈cs,IZ S x):CX ag l S N V X g P s (ag.aZ k) (ag.dead k) s.gone (λ j i n e=>n∈ag.dead k\/(jr s.gone n e/\(e∈aw\/Ad.rv j i∈cs))) (mU ak k aw s cs):=by
 cases cs with
 |nil=>have A:=M7 hs (V:=V) (aw:=aw) (s:=s) (gs:=s.gone) (aL:=[]) h hz;rw[List.append_nil] at A;exact⟨A.e,A.loc,A.aZ,A.dead,A.gone,λ L=>A.keeps (L.imp id λ L=>⟨L.1,L.2.elim id λ h=>by simp at h⟩)⟩
 |cons c cs=>exact⟨λ _=>rfl,⟨h,hz,U,L⟩,rfl,rfl,rfl,λ L=>L⟩
theorem ML:∀(m j:Nat),(pK j m).length=3*m
 |0,j=>rfl
 |m+1,j=>by simp only[pK,List.length_cons,ML m (j+1)];omega
theorem TR{S:Nat}:∀(m j:Nat),j+m<=S->(∀c∈pK j m,IZ S c)/\∀(w:Nat)(i:Int),j<=w->w<j+m->0<=i->i<=2->Ad.rv w i∈pK j m
 |0,j,h=>⟨λ c L=>by simp[pK] at L,λ w i A F=>by omega⟩
 |m+1,j,h=>by
  obtain⟨A,F⟩:=TR (S:=S) m (j+1) (by omega);refine⟨λ c L=>?_,λ w i w1 w2 i0 i2=>?_⟩
  ·simp only[pK,List.mem_cons] at L;rcases L with rfl|rfl|rfl|L
   ·exact⟨j,0,by omega,by omega,by omega,by omega,rfl⟩
   ·exact⟨j,1,by omega,by omega,by omega,by omega,rfl⟩
   ·exact⟨j,2,by omega,by omega,by omega,by omega,rfl⟩
   ·exact A c L
  ·simp only[pK,List.mem_cons]
   by_cases hw:w=j
   ·subst hw;have:i=0\/i=1\/i=2:=by omega
    rcases this with rfl|rfl|rfl
    ·exact .inl rfl
    ·exact .inr (.inl rfl)
    ·exact .inr (.inr (.inl rfl))
   ·exact .inr (.inr (.inr (F w i (by omega) (by omega) i0 i2)))
theorem V4{aw:List Int}{e lo hi:Int}(he:e∈aw)(A:lo<=e)(F:e<=hi):aw.any (fE lo hi)=true:=by rw[List.any_eq_true];exact⟨e,he,by simp[fE,A,F]⟩
section
variable{V:Vw}{qs:List (Q aK)}{aA X:List Int}{g:cC}{w:Nat}{q:Q aK}
theorem abQ{pc:Pc aK}{k:aK}(h:pc.cont=some k){n:Int}(hn:n∈ag.aZ k):n∈eJ ag pc:=by cases pc<;>simp only[Pc.cont,Option.some.injEq,reduceCtorEq] at h<;>subst h<;>simp only[eJ,List.mem_cons]<;>first|exact hn|exact .inr hn
theorem Xc{pc:Pc aK}{k:aK}(h:pc.cont=some k){n:Int}(hn:n∈ag.dead k):n∈d3 ag pc:=by cases pc<;>simp only[Pc.cont,Option.some.injEq,reduceCtorEq] at h<;>subst h<;>simp only[d3,List.mem_cons]<;>first|exact hn|exact .inr hn
end
def iO(n:Int):Int:=bK ⟨n,false,0⟩
def HQ(n:Int):Int:=bK ⟨n,true,0⟩
structure kX where
 there:Bool
 prev:Int
 cur:Int
 next:Int
 c6:Int
deriving DecidableEq
def yH:kX:=⟨false,0,0,0,0⟩
structure I7 where
 a:Int
 b:Int
 prev:Int
 cur:Int
 pt:Int
def ph(l:ah)(G D o:Int):Nat->Option I7->Pm kX
 |0,_=>.pure yH
 |k+1,none=>(mg l G 0 D).bind λ p=>ph l G D o k (some ⟨0,1,D,(ae p.1).idx,p.2⟩)
 |k+1,some x=>if x.cur=0 then .pure ⟨false,x.prev,0,0,x.pt⟩
  else(mg l G x.b (aN l x.cur 0)).bind λ p=>(cZ x.prev).bind λ seen=>mq.bind λ look=>if seen=iO x.cur then
   (cZ (aN l x.cur 1)).bind λ eF=>
    if(ae p.1).mark then(fN x.prev (iO x.cur) (iO (ae p.1).idx)).bind λ ok=>if ok then mq.bind λ at_=>(lr l x.cur).bind λ _=>ph l G D o k (some ⟨x.b,x.a,x.prev,(ae p.1).idx,at_⟩) else ph l G D o k none
    else if eF<o then ph l G D o k (some ⟨x.b,3-x.a-x.b,aN l x.cur 0,(ae p.1).idx,p.2⟩)
    else if eF=o then .pure ⟨true,x.prev,x.cur,p.1,p.2⟩
    else .pure ⟨false,x.prev,x.cur,0,look⟩
   else ph l G D o k none
def tZ(l:ah)(G D o:Int):Pm kX:=λ log s=>ph l G D o (2*(log.length-s.made)+2) none log s
def ln(l:ah)(G:Int)(o:aY):Pm aY:=(gB l G).bind λ _=>.pure o
def getM(l:ah)(G D o:Int):Pm aY:=(tZ l G D o).bind λ f=>if f.there then(cZ (aN l f.cur 2)).bind λ v=>ln l G ⟨v,true,0,f.c6,[]⟩ else ln l G ⟨0,false,0,f.c6,[]⟩
def xM(l:ah)(f:kX)(n:Int):Pm (Option Int):=(fA (aN l n 0) (iO f.cur)).bind λ _=>(fN f.prev (iO f.cur) (iO n)).bind λ ok=>if ok then mq.bind λ a=>.pure (some a) else .pure none
def wf(l:ah)(G D o v:Int):Nat->Int->Pm aY
 |0,_=>.pure ⟨0,false,0,0,[]⟩
 |k+1,n=>(tZ l G D o).bind λ f=>if f.there then(if n=0 then ln l G ⟨0,false,0,f.c6,[]⟩ else(oI l n).bind λ _=>ln l G ⟨0,false,0,f.c6,[]⟩)
  else if n=0 then(sr l).bind λ t=>if t.2.2 then(fA (aN l t.1 1) o).bind λ _=>(fA (aN l t.1 2) v).bind λ _=>(xM l f t.1).bind λ r=>match r with
   |some a=>ln l G ⟨0,true,0,a,[]⟩
   |none=>wf l G D o v k t.1
   else ln l G ⟨0,false,8,t.2.1,[]⟩
  else(xM l f n).bind λ r=>match r with
   |some a=>ln l G ⟨0,true,0,a,[]⟩
   |none=>wf l G D o v k n
def wg(l:ah)(G D o v:Int):Pm aY:=λ log s=>wf l G D o v (log.length+1-s.made) 0 log s
def yA(l:ah)(G D o:Int):Nat->Pm aY
 |0=>.pure ⟨0,false,0,0,[]⟩
 |k+1=>(tZ l G D o).bind λ f=>if f.there then(fN (aN l f.cur 0) f.next (HQ (ae f.next).idx)).bind λ ok=>if ok then mq.bind λ a=>(fN f.prev (iO f.cur) (iO (ae f.next).idx)).bind λ ok=>if ok then(gB l G).bind λ _=>(lr l f.cur).bind λ _=>.pure ⟨0,true,0,a,[]⟩ else(tZ l G D o).bind λ _=>ln l G ⟨0,true,0,a,[]⟩
   else yA l G D o k
  else ln l G ⟨0,false,0,f.c6,[]⟩
def vb(l:ah)(G D o:Int):Pm aY:=λ log s=>yA l G D o (log.length+1-s.made) log s
def dJ(l:ah)(G:Int)(gone:List (Int×Int))(op:bl)(log:List aF):aX×aY×Bool:=
 if op.obj<0\/l.size<=op.obj then(eZ,⟨0,false,1,-1,gone⟩,true)
 else if op.kind=1 then pY (getM l G op.obj op.a log ⟨0,gone,0,0,0⟩)
 else if op.kind=2 then pY (wg l G op.obj op.a op.b log ⟨0,gone,0,0,0⟩)
 else if op.kind=3 then pY (vb l G op.obj op.a log ⟨0,gone,0,0,0⟩)
 else(eZ,⟨0,false,1,-1,gone⟩,true)
def lF(l:ah)(a:Nat)(k:Nat):List aX:=(List.range k).map λ(i:Nat)=>⟨2,aN l ((a:Int)+i) 7,0,if(a:Int)+i=l.nodes then 0 else(a:Int)+i+1⟩
def BT(l:ah)(a:Nat):List aX:=lF l a (l.nodes.toNat+1-a)++[⟨2,l.free,0,a⟩]
def fF(l:ah)(m:List Int)(h:Int):List Int:=k8 (λ n=>(ae (bE m (aN l n 0))).idx) l.nodes (l.nodes.toNat+1) [] (ae (bE m h)).idx
def nJ(l:ah)(m:List Int)(h:Int):List (Int×Int):=((fF l m h).filter λ n=>!(ae (bE m (aN l n 0))).mark).map λ n=>(bE m (aN l n 1),bE m (aN l n 2))
structure Vp where
 nodes:Int
 want:List (List bl)
 turns:List Int
structure Vy where
 at_:Nat
 log:List aF
 gone:List (Int×Int)
structure Oa where
 al:Int
 at_:Int
 op:bl
 gone:List (Int×Int)
 acc:aX
 res:aF
 done:Bool
 out:aY
structure agc where
 m:List Int
 ar:List Vy
 out:List Oa
structure age where
 steps:List Oa
 m:List Int
 gone:List (List (Int×Int))
 ends:Bool
structure agd(p:Vp):Prop where
 w1:1<=p.want.length
 w3:p.want.length<=3
 t:p.turns.length<=200
 n0:0<=p.nodes
 u:∀x∈p.turns,0<=x/\x<=255
 l:∀w∈p.want,w.length<=4
inductive Fk where
 |get|put (v n:Int)|del|fin (a:Int)
inductive Lk where
 |ga (o:Int) (f:Fk)
 |gb (o:Int) (f:Fk) (a b pn cur:Int)
 |ls (o:Int) (f:Fk) (a b pn cur w t:Int)
 |lo (o:Int) (f:Fk) (a b pn cur w t k:Int)
 |cu (o:Int) (f:Fk) (a b pn cur w:Int)
 |rr (o:Int) (f:Fk) (a b pn nx pt:Int)
 |gv (o cur pt:Int)
 |tk (o v pn cur:Int)
 |p1 (o v n pn cur:Int)|p2 (o v n pn cur:Int)|p0 (o v n pn cur:Int)|cp (o v n pn cur:Int)
 |sv (a:Int)
 |cm (o pn cur w:Int)|cd (o pn cur nx at_:Int)
 |rx (n a:Int)|ry (a:Int)
 |fi (o:aY)
def jm(a:Int):aY:=⟨0,true,0,a,[]⟩
def mv(a:Int):aY:=⟨0,false,0,a,[]⟩
section
variable(D:Ad)
def pH(pn:Int):Ad:=if pn=0 then D else .nd pn 0
def abF:Lk->Ak
 |.ls _ _ _ _ pn _ _ _=>.ld (pH D pn)
 |.lo _ _ _ _ _ cur _ _ _=>.ld (.nd cur 1)
 |.cu _ _ _ _ pn cur w=>.cs (pH D pn) (iO cur) (iO (ae w).idx)
 |.gv _ cur _=>.ld (.nd cur 2)
 |.p1 o _ n _ _=>.st (.nd n 1) o
 |.p2 _ v n _ _=>.st (.nd n 2) v
 |.p0 _ _ n _ cur=>.st (.nd n 0) (iO cur)
 |.cp _ _ n pn cur=>.cs (pH D pn) (iO cur) (iO n)
 |.cm _ _ cur w=>.cs (.nd cur 0) w (HQ (ae w).idx)
 |.cd _ pn cur nx _=>.cs (pH D pn) (iO cur) (iO nx)
 |_=>.ld (D)
def wW(o:Int)(f:Fk)(pn cur pt:Int):Pc Lk:=match f with
 |.get=>.bG (.fi (mv pt))
 |.put v n=>if n=0 then .t1 (.tk o v pn cur) else .at_ (.p0 o v n pn cur)
 |.del=>.bG (.fi (mv pt))
 |.fin a=>.bG (.fi (jm a))
def wX(o:Int)(f:Fk)(pn cur w pt:Int):Pc Lk:=match f with
 |.get=>.at_ (.gv o cur pt)
 |.put _ n=>if n=0 then .bG (.fi (mv pt)) else .v1 (.sv pt) n
 |.del=>.at_ (.cm o pn cur w)
 |.fin a=>.bG (.fi (jm a))
def xd(o:Int)(f:Fk)(a b pn cur pt:Int):Pc Lk:=if cur=0 then wW o f pn 0 pt else .g1 (.gb o f a b pn cur) b (.nd cur 0)
def nQ(o:Int)(f:Fk):Pc Lk:=.g1 (.ga o f) 0 (D)
def xE:Lk->Nat->aF->Pc Lk
 |.ls o f a b pn cur w t,made,r=>if r.val=iO cur then .at_ (.lo o f a b pn cur w t made) else nQ D o f
 |.lo o f a b pn cur w t k,_,r=>if(ae w).mark then .at_ (.cu o f a b pn cur w) else if r.val<o then xd o f b (3-a-b) cur (ae w).idx t else if r.val=o then wX o f pn cur w t else wW o f pn cur k
 |.cu o f a b pn cur w,made,r=>if r.ok then .r1 (.rr o f a b pn (ae w).idx made) cur else nQ D o f
 |.gv _ _ pt,_,r=>.bG (.fi ⟨r.val,true,0,pt,[]⟩)
 |.p1 o v n pn cur,_,_=>.at_ (.p2 o v n pn cur)
 |.p2 o v n pn cur,_,_=>.at_ (.p0 o v n pn cur)
 |.p0 o v n pn cur,_,_=>.at_ (.cp o v n pn cur)
 |.cp o v n _ _,made,r=>if r.ok then .bG (.fi (jm made)) else nQ D o (.put v n)
 |.cm o pn cur w,made,r=>if r.ok then .at_ (.cd o pn cur (ae w).idx made) else nQ D o .del
 |.cd o _ cur _ at_,_,r=>if r.ok then .bG (.rx cur at_) else nQ D o (.fin at_)
 |k,_,_=>.at_ k
def cW:lx Lk where
 ask:=abF D
 tell:=xE D
 uO:=λ k n _=>match k with
  |.tk o v pn cur=>.at_ (.p1 o v n pn cur)
  |k=>.v1 k n
 full:=λ k a=>match k with
  |.tk _ _ _ _=>.bG (.fi ⟨0,false,8,a,[]⟩)
  |k=>.at_ k
 guarded:=λ k v t=>match k with
  |.ga o f=>xd o f 0 1 0 (ae v).idx t
  |.gb o f a b pn cur=>.at_ (.ls o f a b pn cur v t)
  |k=>.at_ k
 rD:=λ k=>match k with
  |.fi o=>.fin o
  |.rx n a=>.r1 (.ry a) n
  |k=>.at_ k
 sN:=λ k=>match k with
  |.sv a=>.bG (.fi (mv a))
  |k=>.at_ k
 retired:=λ k=>match k with
  |.rr o f a b pn nx pt=>xd o f b a pn nx pt
  |.ry a=>.fin (jm a)
  |k=>.at_ k
end
section
variable{D:Ad}{l:ah}{S:Nat}{G:Int}{log:List aF}
theorem afJ(s:af):s.up.made=s.made+1:=rfl
theorem HD(s:af):((s.up.made:Nat):Int)-1=(s.made:Int):=by rw[afJ];omega
theorem Tn(pn:Int):(pH D pn).cell l=if pn=0 then D.cell l else aN l pn 0:=by unfold pH;split<;>rfl
theorem oH{o:aY}{s:af}(hs:s.made<=log.length):bT (cW D) l S G (aR (cW D) (.bG (.fi o)) s) (ln l G o log s) (log.drop s.made):=
 F9 (M0:=s.made) (f:=λ _=>.pure o) (λ _ _ _ _ _ _=>JF) s (Nat.le_refl _) hs
theorem Bf(hS:l.ar=(S:Int)){o:Int}{f:Fk}{g:kX->Pm aY}{M0:Nat}
 (hN:∀(pn cur pt:Int)(s:af),M0<=s.made->s.made<=log.length->bT (cW D) l S G (aR (cW D) (wW o f pn cur pt) s) (g ⟨false,(pH D pn).cell l,cur,0,pt⟩ log s) (log.drop s.made))
 (hY:∀(pn cur w pt:Int)(s:af),M0<=s.made->s.made<=log.length->bT (cW D) l S G (aR (cW D) (wX o f pn cur w pt) s) (g ⟨true,(pH D pn).cell l,cur,w,pt⟩ log s) (log.drop s.made)):
 ∀(k:Nat)(s:af),M0<=s.made->s.made<=log.length->
  (2*(log.length-s.made)+2<=k->bT (cW D) l S G (aR (cW D) (nQ D o f) s) ((ph l G (D.cell l) o k none).bind g log s) (log.drop s.made))/\
  (∀a b pn cur pt,2*(log.length-s.made)+1<=k->bT (cW D) l S G (aR (cW D) (xd o f a b pn cur pt) s) ((ph l G (D.cell l) o k (some ⟨a,b,(pH D pn).cell l,cur,pt⟩)).bind g log s) (log.drop s.made))
 |0,s,_,_=>⟨λ h=>by omega,λ a b pn cur pt h=>by omega⟩
 |k+1,s,hM,hs=>by
  refine⟨λ J=>?_,λ a b pn cur pt J=>?_⟩
  ·rw[ph,bind_assoc];refine DA (M0:=s.made) (k:=Lk.ga o f) (i:=0) (c:=D) (λ v t aa DF zf=>?_) (log.length+1-s.made) s (Nat.le_refl _) (by omega);have:=(Bf hS hN hY k aa (by omega) zf).2 0 1 0 (ae v).idx t (by omega);rw[show(pH D 0).cell l=D.cell l from by rw[Tn,if_pos rfl]] at this;exact this
  ·rw[ph];unfold xd
   by_cases h0:cur=0
   ·subst h0;simp only[if_true];exact hN pn 0 pt s hM hs
   ·simp only[h0,if_false];rw[bind_assoc];refine DA (M0:=s.made) (k:=Lk.gb o f a b pn cur) (i:=b) (c:=.nd cur 0) (λ w t s1 rL fe=>?_) (log.length+1-s.made) s (Nat.le_refl _) (by omega);show bT (cW D) l S G ⟨.at_ (.ls o f a b pn cur w t),s1⟩ _ _;rw[bind_assoc,mR];refine eP (q:=⟨.at_ (Lk.ls o f a b pn cur w t),s1⟩) (s:=s1) rfl trivial λ r1 A=>?_
    rw[bind_assoc,az eu,HD];show bT (cW D) l S G (aR (cW D) (if r1.val=iO cur then .at_ (.lo o f a b pn cur w t s1.made) else nQ D o f) s1.up) _ _
    by_cases hv:r1.val=iO cur
    ·rw[if_pos hv,if_pos hv,bind_assoc,mR];refine eP (q:=⟨.at_ (Lk.lo o f a b pn cur w t s1.made),s1.up⟩) (s:=s1.up) rfl trivial λ r2 F=>?_
     have bB:s1.made+1<log.length:=F;have m2:s1.up.up.made=s1.made+2:=rfl;have J2:s1.up.up.made<=log.length:=by omega
     show bT (cW D) l S G (aR (cW D) (if(ae w).mark then .at_ (.cu o f a b pn cur w) else if r2.val<o then xd o f b (3-a-b) cur (ae w).idx t else if r2.val=o then wX o f pn cur w t else wW o f pn cur s1.made) s1.up.up) _ _
     by_cases hm:(ae w).mark=true
     ·rw[if_pos hm,if_pos hm,bind_assoc,pd];refine eP (q:=⟨.at_ (Lk.cu o f a b pn cur w),s1.up.up⟩) (s:=s1.up.up) rfl trivial λ r3 O=>?_
      have dt:s1.made+2<log.length:=O;have m3:s1.up.up.up.made=s1.made+3:=rfl;show bT (cW D) l S G (aR (cW D) (if r3.ok then .r1 (.rr o f a b pn (ae w).idx s1.up.up.made) cur else nQ D o f) s1.up.up.up) _ _
      by_cases rP:r3.ok=true
      ·rw[if_pos rP,if_pos rP,bind_assoc,az eu,HD,bind_assoc];show bT (cW D) l S G ⟨.r1 (.rr o f a b pn (ae w).idx s1.up.up.made) cur,s1.up.up.up⟩ _ _;refine MM hS (M0:=s1.up.up.up.made) (λ s2 Bu fD=>?_) s1.up.up.up (Nat.le_refl _);exact(Bf hS hN hY k s2 (by omega) fD).2 b a pn (ae w).idx s1.up.up.made (by omega)
      ·rw[if_neg rP,if_neg rP];exact(Bf hS hN hY k s1.up.up.up (by omega) (by omega)).1 (by omega)
     ·rw[if_neg hm,if_neg hm]
      by_cases bm:r2.val<o
      ·rw[if_pos bm,if_pos bm];have:=(Bf hS hN hY k s1.up.up (by omega) J2).2 b (3-a-b) cur (ae w).idx t (by omega);rw[show(pH D cur).cell l=aN l cur 0 from by rw[Tn,if_neg h0]] at this;exact this
      ·rw[if_neg bm,if_neg bm]
       by_cases he:r2.val=o
       ·rw[if_pos he,if_pos he];exact hY pn cur w t s1.up.up (by omega) J2
       ·rw[if_neg he,if_neg he];exact hN pn cur s1.made s1.up.up (by omega) J2
    ·rw[if_neg hv,if_neg hv];have m1:s1.up.made=s1.made+1:=rfl;exact(Bf hS hN hY k s1.up (by omega) (by omega)).1 (by omega)
theorem Gt(hS:l.ar=(S:Int)){o:Int}{f:Fk}{g:kX->Pm aY}{M0:Nat}
 (hN:∀(pn cur pt:Int)(s:af),M0<=s.made->s.made<=log.length->bT (cW D) l S G (aR (cW D) (wW o f pn cur pt) s) (g ⟨false,(pH D pn).cell l,cur,0,pt⟩ log s) (log.drop s.made))
 (hY:∀(pn cur w pt:Int)(s:af),M0<=s.made->s.made<=log.length->bT (cW D) l S G (aR (cW D) (wX o f pn cur w pt) s) (g ⟨true,(pH D pn).cell l,cur,w,pt⟩ log s) (log.drop s.made))
 (s:af)(hM:M0<=s.made)(hs:s.made<=log.length):bT (cW D) l S G (aR (cW D) (nQ D o f) s) ((tZ l G (D.cell l) o).bind g log s) (log.drop s.made):=
 (Bf hS hN hY _ s hM hs).1 (Nat.le_refl _)
theorem XT(hS:l.ar=(S:Int)){o:Int}(s:af)(hs:s.made<=log.length):bT (cW D) l S G (aR (cW D) (nQ D o .get) s) (getM l G (D.cell l) o log s) (log.drop s.made):=by
 unfold getM;refine Gt hS (M0:=s.made) (λ pn cur pt s1 _ fe=>?_) (λ pn cur w pt s1 _ fe=>?_) s (Nat.le_refl _) hs
 ·simp only[Bool.false_eq_true,if_false];exact oH fe
 ·simp only[if_true];rw[mR];refine eP (q:=⟨.at_ (Lk.gv o cur pt),s1⟩) (s:=s1) rfl trivial λ r1 A=>?_
  exact oH (by simp only[af.up];omega)
theorem adL{o v n pn cur:Int}{M0:Nat}{c pt nx:Int}{th:Bool}{g:Option Int->Pm aY}(L:c=(pH D pn).cell l)
 (A:∀(a:Nat)(s:af),s.made<=log.length->bT (cW D) l S G (aR (cW D) (.bG (.fi (jm a))) s) (g (some (a:Int)) log s) (log.drop s.made))
 (F:∀s:af,M0<s.made->s.made<=log.length->bT (cW D) l S G (aR (cW D) (nQ D o (.put v n)) s) (g none log s) (log.drop s.made))
 (s:af)(hM:M0<=s.made):bT (cW D) l S G ⟨.at_ (.p0 o v n pn cur),s⟩ ((xM l ⟨th,c,cur,nx,pt⟩ n).bind g log s) (log.drop s.made):=by
 subst L;rw[xM,bind_assoc,oY];refine eP (q:=⟨.at_ (Lk.p0 o v n pn cur),s⟩) (s:=s) rfl trivial λ r1 O=>?_
 rw[bind_assoc,pd];refine eP (q:=⟨.at_ (Lk.cp o v n pn cur),s.up⟩) (s:=s.up) rfl trivial λ r2 h4=>?_
 have rI:s.made+1<log.length:=h4;have m2:s.up.up.made=s.made+2:=rfl;show bT (cW D) l S G (aR (cW D) (if r2.ok then .bG (.fi (jm s.up.made)) else nQ D o (.put v n)) s.up.up) _ _
 by_cases J:r2.ok=true
 ·rw[if_pos J,if_pos J,bind_assoc,az eu,HD];exact A s.up.made s.up.up (by omega)
 ·rw[if_neg J,if_neg J];exact F s.up.up (by omega) (by omega)
theorem Tt(hS:l.ar=(S:Int)){o v:Int}:∀(k:Nat)(n:Int)(s:af),s.made<=log.length->log.length-s.made<k->bT (cW D) l S G (aR (cW D) (nQ D o (.put v n)) s) (wf l G (D.cell l) o v k n log s) (log.drop s.made)
 |0,n,s,_,h=>by omega
 |k+1,n,s,hs,h=>by
  rw[wf];have hB:∀(n pn cur pt:Int)(s1:af),s.made<=s1.made->bT (cW D) l S G ⟨.at_ (.p0 o v n pn cur),s1⟩ ((xM l ⟨false,(pH D pn).cell l,cur,0,pt⟩ n).bind (λ r=>match r with
   |some a=>ln l G ⟨0,true,0,a,[]⟩
   |none=>wf l G (D.cell l) o v k n) log s1) (log.drop s1.made):=λ n pn cur pt s1 rL=>
   adL (M0:=s1.made) rfl (λ a s2 fD=>oH fD) (λ s2 Bu fD=>Tt hS k n s2 fD (by omega)) s1 (Nat.le_refl _)
  refine Gt hS (M0:=s.made) (λ pn cur pt s1 rL fe=>?_) (λ pn cur w pt s1 rL fe=>?_) s (Nat.le_refl _) hs
  ·simp only[Bool.false_eq_true,if_false];unfold wW
   by_cases hn:n=0
   ·simp only[hn,if_true];refine NC (M0:=s1.made) (k:=Lk.tk o v pn cur) (λ t a s2 Bu fD=>?_) (λ a s2 Bu fD=>?_) (log.length+1-s1.made) s1 (Nat.le_refl _) (by omega)
    ·simp only[if_true];show bT (cW D) l S G ⟨.at_ (.p1 o v t pn cur),s2⟩ _ _;rw[oY];refine eP (q:=⟨.at_ (Lk.p1 o v t pn cur),s2⟩) (s:=s2) rfl trivial λ r1 O=>?_
     rw[oY];refine eP (q:=⟨.at_ (Lk.p2 o v t pn cur),s2.up⟩) (s:=s2.up) rfl trivial λ r2 h4=>?_
     exact hB t pn cur pt s2.up.up (by simp only[af.up];omega)
    ·simp only[Bool.false_eq_true,if_false];exact oH fD
   ·simp only[hn,if_false];exact hB n pn cur pt s1 rL
  ·simp only[if_true];unfold wX
   by_cases hn:n=0
   ·simp only[hn,if_true];exact oH fe
   ·simp only[hn,if_false];refine JV (k:=Lk.sv pt) (n:=n) (M0:=s1.made) (λ s2 _ fD=>?_) (log.length+1-s1.made) s1 (Nat.le_refl _) (by omega);exact oH fD
theorem Pb(hS:l.ar=(S:Int)){o:Int}:∀(k:Nat)(s:af),s.made<=log.length->log.length-s.made<k->bT (cW D) l S G (aR (cW D) (nQ D o .del) s) (yA l G (D.cell l) o k log s) (log.drop s.made)
 |0,s,_,h=>by omega
 |k+1,s,hs,h=>by
  rw[yA];refine Gt hS (M0:=s.made) (λ pn cur pt s1 rL fe=>?_) (λ pn cur w pt s1 rL fe=>?_) s (Nat.le_refl _) hs
  ·simp only[Bool.false_eq_true,if_false];exact oH fe
  ·simp only[if_true];unfold wX;simp only;rw[pd];refine eP (q:=⟨.at_ (Lk.cm o pn cur w),s1⟩) (s:=s1) rfl trivial λ r1 O=>?_
   have m1:s1.up.made=s1.made+1:=rfl;show bT (cW D) l S G (aR (cW D) (if r1.ok then .at_ (.cd o pn cur (ae w).idx s1.made) else nQ D o .del) s1.up) _ _
   by_cases J:r1.ok=true
   ·rw[if_pos J,if_pos J,az eu,HD,pd];refine eP (q:=⟨.at_ (Lk.cd o pn cur (ae w).idx s1.made),s1.up⟩) (s:=s1.up) rfl trivial λ r2 h4=>?_
    have rI:s1.made+1<log.length:=h4;have m2:s1.up.up.made=s1.made+2:=rfl;show bT (cW D) l S G (aR (cW D) (if r2.ok then .bG (.rx cur s1.made) else nQ D o (.fin s1.made)) s1.up.up) _ _
    by_cases hk:r2.ok=true
    ·rw[if_pos hk,if_pos hk];refine F9 (M0:=s1.up.up.made) (λ s2 _ _ _ Bu fD=>?_) s1.up.up (Nat.le_refl _) (by omega);show bT (cW D) l S G ⟨.r1 (.ry s1.made) cur,s2⟩ _ _;refine MM hS (M0:=s2.made) (λ s3 GJ gx=>?_) s2 (Nat.le_refl _);exact JF
    ·rw[if_neg hk,if_neg hk];refine Gt hS (M0:=s1.up.up.made) (λ adt iT adC s3 GJ gx=>?_) (λ adt iT aM adC s3 GJ gx=>?_) s1.up.up (Nat.le_refl _) (by omega)
     ·exact oH gx
     ·exact oH gx
   ·rw[if_neg J,if_neg J];exact Pb hS k s1.up (by omega) (by omega)
end
def Bg(op:bl):Fk:=if op.kind=1 then .get else if op.kind=2 then .put op.b 0 else .del
def i8(D:Ad)(op:bl)(gone:List (Int×Int)):Q Lk:=⟨nQ D op.a (Bg op),⟨0,gone,0,0,0⟩⟩
theorem EW{l:ah}{S:Nat}{G:Int}(hS:l.ar=(S:Int)){gone:List (Int×Int)}{op:bl}{log:List aF}{h:Ad}(ho:h.cell l=op.obj)(hh:¬(op.obj<0\/l.size<=op.obj))(J:op.kind=1\/op.kind=2\/op.kind=3):
 dJ l G gone op log=sK (cW h) l G (oo (cW h) S (i8 h op gone) log):=by
 unfold dJ;rw[if_neg hh];unfold i8 Bg;rw[<-ho];rcases J with J|J|J
 ·rw[if_pos J,if_pos J];exact XT hS ⟨0,gone,0,0,0⟩ (Nat.zero_le _)
 ·rw[if_neg (by omega),if_pos J,if_neg (by omega),if_pos J];exact Tt hS (log.length+1) 0 ⟨0,gone,0,0,0⟩ (Nat.zero_le _) (by simp)
 ·rw[if_neg (by omega),if_neg (by omega),if_pos J,if_neg (by omega),if_neg (by omega)];exact Pb hS (log.length+1) ⟨0,gone,0,0,0⟩ (Nat.zero_le _) (by simp)
def i3(l:ah)(m i:Int):Int:=if 1<i then-1 else kG l.map l.maps (2+l.buckets) m i
def iS(l:ah)(m b:Int):Int:=if b<0\/l.buckets<=b then-1 else kG l.map l.maps (2+l.buckets) m (2+b)
def sk(k:Int):Int:=((List.range 16).map λ(i:Nat)=>k/2^i%2*2^(15-i)).sum
def Ic(k:Int):Int:=2*sk k+1
def Bc(b:Int):Int:=2*sk b
def Ly(n:Int):Int:=sk (n%131072/2)
def mz(b:Int):Int:=if b<1 then 0 else b-2^(Nat.log2 b.toNat)
def E6(n:Int):Bool:=decide (n=2^(Nat.log2 n.toNat))
def nU(l:ah)(G:Int)(gone:List (Int×Int))(kind e8 eF v:Int)(lg:List aF):aX×aY×Bool:=
 let D:=aN l e8 0
 let ob:=if D<0 then l.done else D
 let r:=dJ l G gone ⟨kind,ob,eF,v⟩ lg
 if r.2.2=false/\D<0/\r.1.cell=ob then({r.1 with cell:=D},r.2) else r
def qG(f:Nat->Bool):Nat->Nat->Nat
 |0,k=>k
 |n+1,k=>if f k then k else qG f n (k+1)
def rY(l:ah)(G kind e8 eF v:Int):Pm (aY×aX):=λ log s=>
 let lg:=log.drop s.made
 let r:=nU l G s.gone kind e8 eF v lg
 if r.2.2=false then .error r.1
 else if r.2.1.c6<0 then .ok ((r.2.1,eZ),s)
 else
  let f:=λ k=>(nU l G s.gone kind e8 eF v (lg.take k)).2.2
  let k:=qG f (lg.length-(r.2.1.c6.toNat+1)) (r.2.1.c6.toNat+1)
  .ok (({r.2.1 with c6:=r.2.1.c6+s.made},(nU l G s.gone kind e8 eF v (lg.take r.2.1.c6.toNat)).1),{s with made:=s.made+k,gone:=r.2.1.gone})
def NE(o:aY×aX):Pm Int:=λ log s=>.ok (if o.1.is then(ae o.2.new).idx else(ae ((log.getD (o.1.c6.toNat+2) ⟨0,false⟩).val)).idx,s)
def nX(l:ah)(G m:Int):Nat->Int->Pm (Int×aY)
 |0,_=>.pure (0,mw)
 |k+1,b=>(fO ⟨1,iS l m b,0,0⟩).bind λ r=>if(ae r.val).idx≠0 then .pure ((ae r.val).idx,mw)
  else if b=0 then .pure (0,⟨0,false,1,-1,[]⟩)
  else(nX l G m k (mz b)).bind λ a=>if a.2.err≠0 then .pure (0,a.2)
  else(rY l G 2 a.1 (Bc b) 0).bind λ o=>if o.1.err≠0 then .pure (0,o.1)
  else(NE o).bind λ n=>(fO ⟨3,iS l m b,0,bK ⟨n,false,0⟩⟩).bind λ _=>.pure (n,mw)
def sD(l:ah)(m kind size:Int):Pm Unit:=if kind=2 then(fO ⟨4,i3 l m 1,0,1⟩).bind λ r=>if 2*size<=r.val/\size<l.buckets then(fO ⟨3,i3 l m 0,size,2*size⟩).bind λ _=>.pure () else .pure ()
 else if kind=3 then(fO ⟨4,i3 l m 1,0,-1⟩).bind λ _=>.pure () else .pure ()
def x6(l:ah)(G:Int)(op:bl):Pm aY:=(fO ⟨1,i3 l op.obj 0,0,0⟩).bind λ r=>if r.val<1\/l.buckets<r.val\/E6 r.val=false then .pure ⟨0,false,1,-1,[]⟩
 else(nX l G op.obj 64 (op.a%r.val)).bind λ d=>if d.2.err≠0 then .pure d.2
 else(rY l G op.kind d.1 (Ic op.a) op.b).bind λ o=>if o.1.is then(sD l op.obj op.kind r.val).bind λ _=>.pure o.1 else .pure o.1
def s8(l:ah)(G:Int)(gone:List (Int×Int))(op:bl)(log:List aF):aX×aY×Bool:=
 if op.kind<1\/3<op.kind\/i3 l op.obj 0<0\/op.a<0\/65536<=op.a then(eZ,⟨0,false,1,-1,gone⟩,true)
 else pY (x6 l G op log ⟨0,gone,0,0,0⟩)
def gM(l:ah)(m n:Int):List aX:=[⟨2,aN l n 0,0,0⟩,⟨2,aN l n 1,0,0⟩,⟨2,aN l n 2,0,0⟩,⟨2,aN l n 6,0,1⟩,⟨2,i3 l m 0,0,1⟩,⟨2,i3 l m 1,0,0⟩,⟨2,iS l m 0,0,bK ⟨n,false,0⟩⟩]
structure eO where
 al:Int
 op:bl
 val:Int
 is:Bool
 first:Int
 last:Int
 c6:Int
structure bZ where
 op:bl
 log:List aF
 steps:List Int
 next:Nat
 gone:List (Int×Int)
structure cP where
 m:List Int
 step:Int
 ar:List bZ
 calls:List eO
 full:Int
 cO:Bool
 bad:Bool
def lE:bl:=⟨0,0,0,0⟩
def mn:bZ:=⟨lE,[],[],0,[]⟩
def vr(l:ah)(m:List Int)(a:aX):Bool:=if a.cell<l.node\/l.size<=a.cell\/(a.cell-l.node)%8=7 then false else(uy l m).any λ x=>decide (x=(a.cell-l.node)/8+1)
def p4(t:cP)(al:Nat)(x:bZ)(out:aY):cP:=
 let iJ:cP:={t with ar:=t.ar.set al {x with op:=lE,gone:=out.gone}}
 if out.err=8 then{iJ with full:=t.full+1}
 else if out.err≠0\/x.steps.length=0 then{iJ with bad:=true}
 else{iJ with calls:=t.calls++[⟨al,x.op,out.val,out.is,x.steps.getD 0 0,x.steps.getD (x.steps.length-1) 0,if 0<=out.c6/\out.c6<x.steps.length then x.steps.getD out.c6.toNat 0 else-1⟩]}
def p3(t:cP)(want:List (List bl))(al:Nat):Bool:=match t.ar[al]?,want[al]? with
 |some x,some ws=>decide (x.op.kind=0)&&decide (ws.length<=x.next)
 |_,_=>true
theorem Tb{n:Nat}(h:n≠0):mz n=((n-2^n.log2:Nat):Int)/\2^n.log2<=n/\n<2^(n.log2+1):=by
 have A:=Nat.log2_self_le h;have F:=(Nat.log2_lt h (k:=n.log2+1)).1 (Nat.lt_succ_self _);refine⟨?_,A,F⟩;unfold mz;rw[if_neg (by omega),Int.toNat_natCast];have:((2^n.log2:Nat):Int)=2^n.log2:=by simp
 omega
theorem ac6{n:Nat}(h:n≠0):0<=mz n/\mz n<n/\mz n<n-mz n:=by obtain⟨A,F,O⟩:=Tb h;rw[Nat.pow_succ] at O;rw[A];omega
theorem ac4{n k:Nat}(h:n≠0)(J:n<2^(k+1)):mz n<2^k:=by
 obtain⟨A,F,O⟩:=Tb h;have U:n.log2<=k:=by have:=(Nat.log2_lt h (k:=k+1)).2 J;omega
 have hp:2^n.log2<=2^k:=Nat.pow_le_pow_right (by omega) U;rw[Nat.pow_succ] at O;rw[A];have:((2^k:Nat):Int)=2^k:=by simp
 omega
section
variable(kd:Int)
def lz(m:Nat):Fk->Prop
 |.put _ _=>kd=2
 |.fin a=>kd≠2/\0<=a/\a<m
 |_=>kd≠2
def Py(m:Nat)(o:aY):Prop:=0<=o.c6/\o.c6<m/\(kd=2->o.is=false->o.err=0->o.c6+2<m)
def eM(m:Nat):Lk->Prop
 |.ga _ f=>lz kd m f
 |.gb _ f _ _ _ _=>lz kd m f
 |.ls _ f _ _ _ _ _ t=>lz kd m f/\0<=t/\t+2<=m
 |.lo _ f _ _ _ _ _ t k=>lz kd m f/\0<=t/\t+3<=m/\0<=k/\k<m
 |.cu _ f _ _ _ _ _=>lz kd m f
 |.rr _ f _ _ _ _ pt=>lz kd m f/\0<=pt/\pt<m
 |.gv _ _ pt=>kd≠2/\0<=pt/\pt<m
 |.sv a=>0<=a/\a+2<m
 |.cm _ _ _ _=>kd≠2
 |.cd _ _ _ _ a=>kd≠2/\0<=a/\a<m
 |.rx _ a=>kd≠2/\0<=a/\a<m
 |.ry a=>kd≠2/\0<=a/\a<m
 |.fi o=>Py kd m o
 |_=>kd=2
def nG(m:Nat):Pc Lk->Prop
 |.at_ k=>eM kd m k
 |.t1 k=>eM kd m k
 |.t2 k _=>eM kd m k
 |.t3 k _ _=>eM kd m k
 |.t4 k _ _=>eM kd m k
 |.t5 k _ _ _=>eM kd m k
 |.g1 k _ _=>eM kd m k
 |.g2 k _ _ _ a=>eM kd m k/\0<=a/\a<m
 |.g3 k _ _ _=>eM kd m k
 |.bG k=>eM kd m k
 |.c k _=>eM kd m k
 |.v1 k _=>eM kd m k
 |.v2 k _ _=>eM kd m k
 |.v3 k _ _=>eM kd m k
 |.r1 k _=>eM kd m k
 |.r2 k _ _=>eM kd m k
 |.rs k _ _ _=>eM kd m k
 |.s1 k _ _ _ _=>eM kd m k
 |.w1 k _ _ _ _=>eM kd m k
 |.w2 k _ _ _ _ _=>eM kd m k
 |.w3 k _ _ _ _ _=>eM kd m k
 |.fin o=>Py kd m o
end
section
variable{kd:Int}{m B7:Nat}{h:Ad}
theorem lz.mono(hm:m<=B7){f:Fk}(hf:lz kd m f):lz kd B7 f:=by cases f<;>simp only[lz] at hf⊢<;>omega
theorem eM.mono(hm:m<=B7){k:Lk}(J:eM kd m k):eM kd B7 k:=by
 cases k with
 |ga o f=>exact lz.mono hm J
 |gb o f a b pn cur=>exact lz.mono hm J
 |ls o f a b pn cur w t=>exact⟨J.1.mono hm,J.2.1,by have:=J.2.2;omega⟩
 |lo o f a b pn cur w t k=>exact⟨J.1.mono hm,J.2.1,by have:=J.2.2.1;omega,J.2.2.2.1,by have:=J.2.2.2.2;omega⟩
 |cu o f a b pn cur w=>exact lz.mono hm J
 |rr o f a b pn nx pt=>exact⟨J.1.mono hm,J.2.1,by have:=J.2.2;omega⟩
 |gv o cur pt=>simp only[eM] at J⊢;omega
 |sv a=>simp only[eM] at J⊢;omega
 |cm o pn cur w=>exact J
 |cd o pn cur nx a=>simp only[eM] at J⊢;omega
 |rx n a=>simp only[eM] at J⊢;omega
 |ry a=>simp only[eM] at J⊢;omega
 |fi o=>obtain⟨A,F,O⟩:=J;exact⟨A,by omega,λ a b c=>by have:=O a b c;omega⟩
 |_=>exact J
theorem Te{o:Int}{f:Fk}{pn cur pt:Int}(hf:lz kd m f)(h0:0<=pt)(A:pt<m):nG kd m (wW o f pn cur pt):=by
 cases f with
 |get=>exact⟨h0,A,λ h=>absurd h hf⟩
 |put v n=>
  unfold wW;simp only;split
  ·exact hf
  ·exact hf
 |del=>exact⟨h0,A,λ h=>absurd h hf⟩
 |fin a=>exact⟨hf.2.1,hf.2.2,λ h=>absurd h hf.1⟩
theorem ac8{o:Int}{f:Fk}{pn cur w pt:Int}(hf:lz kd m f)(h0:0<=pt)(A:pt+2<m):nG kd m (wX o f pn cur w pt):=by
 cases f with
 |get=>exact⟨hf,h0,by omega⟩
 |put v n=>
  unfold wX;simp only;split
  ·exact⟨h0,by show pt<_;omega,λ _ _ _=>A⟩
  ·exact⟨h0,A⟩
 |del=>exact hf
 |fin a=>exact⟨hf.2.1,hf.2.2,λ h=>absurd h hf.1⟩
theorem Mo{o:Int}{f:Fk}{a b pn cur pt:Int}(hf:lz kd m f)(h0:0<=pt)(A:pt<m):nG kd m (xd o f a b pn cur pt):=by
 unfold xd;split
 ·exact Te hf h0 A
 ·exact hf
theorem Td{k:Lk}{s:af}(J:eM kd m k):nG kd m (gj (cW h) k s).pc:=by
 unfold gj;split
 ·exact J
 ·split
  ·exact J
  ·split
   ·exact J
   ·cases k<;>exact J
theorem O2{k:Lk}{s:af}:(gj (cW h) k s).s=s:=by
 unfold gj;split
 ·rfl
 ·split
  ·rfl
  ·split<;>rfl
theorem SJ{pc:Pc Lk}{s:af}:(aR (cW h) pc s).s=s:=by cases pc<;>first|exact O2|rfl
theorem Tf{pc:Pc Lk}{s:af}(hp:nG kd m pc):nG kd m (aR (cW h) pc s).pc:=by cases pc<;>first|exact Td hp|exact hp
theorem M8{k:Lk}{aw:List Int}{s:af}:∀(gs aL:List (Int×Int)),(gL (cW h) k aw s gs aL).s.made=s.made
 |[],_=>by unfold gL;rw[SJ]
 |_::_,_=>rfl
theorem Tg{k:Lk}(J:eM kd m k):nG kd m ((cW h).retired k):=by
 cases k with
 |rr o f a b pn nx pt=>exact Mo J.1 J.2.1 J.2.2
 |ry a=>exact⟨J.2.1,J.2.2,λ h=>absurd h J.1⟩
 |_=>exact J
theorem Mp{k:Lk}{aw:List Int}{s:af}(J:eM kd m k):∀(gs aL:List (Int×Int)),nG kd m (gL (cW h) k aw s gs aL).pc
 |[],_=>Tf (Tg J)
 |_::_,_=>J
theorem Th{k:Lk}{aw:List Int}{s:af}(J:eM kd m k):∀(cs:List Ad),nG kd m (mU (cW h) k aw s cs).pc
 |[]=>Mp J _ _
 |_::_=>J
theorem T7{k:Lk}{aw:List Int}{s:af}:∀(cs:List Ad),(mU (cW h) k aw s cs).s.made=s.made
 |[]=>M8 _ _
 |_::_=>rfl
theorem ac9{S:Nat}{q:Q Lk}{r:aF}(hf:q.pc.pS)(hq:nG kd q.s.made q.pc):(tell (cW h) S q r).s.made=q.s.made+1/\nG kd (q.s.made+1) (tell (cW h) S q r).pc:=by
 obtain⟨pc,s⟩:=q;have up:∀{k:Lk},eM kd s.made k->eM kd (s.made+1) k:=λ J=>J.mono (Nat.le_succ _)
 have nm:∀(pc:Pc Lk)(aa:af),aa.made=s.made+1->nG kd (s.made+1) pc->(aR (cW h) pc aa).s.made=s.made+1/\nG kd (s.made+1) (aR (cW h) pc aa).pc:=λ pc aa A F=>⟨by rw[SJ];exact A,Tf F⟩
 cases pc with
 |at_ k=>
  refine nm _ _ rfl ?_;show nG kd _ (xE h k s.made r);simp only[nG] at hq;cases k with
  |ls o f a b pn cur w t=>
   simp only[xE];split
   ·exact⟨hq.1.mono (Nat.le_succ _),hq.2.1,by have:=hq.2.2;omega,by omega,by omega⟩
   ·exact hq.1.mono (Nat.le_succ _)
  |lo o f a b pn cur w t k=>
   simp only[xE];have BC:=hq.1.mono (Nat.le_succ s.made);have A:=hq.2.1;have F:=hq.2.2.1;have O:=hq.2.2.2.1;have h4:=hq.2.2.2.2;split
   ·exact BC
   ·split
    ·exact Mo BC A (by omega)
    ·split
     ·exact ac8 BC A (by omega)
     ·exact Te BC O (by omega)
  |cu o f a b pn cur w=>
   simp only[xE];split
   ·exact⟨lz.mono (Nat.le_succ _) hq,by omega,by omega⟩
   ·exact lz.mono (Nat.le_succ _) hq
  |gv o cur pt=>exact⟨hq.2.1,by have:=hq.2.2;show pt<_;omega,λ h=>absurd h hq.1⟩
  |p1 o v n pn cur=>exact hq
  |p2 o v n pn cur=>exact hq
  |p0 o v n pn cur=>exact hq
  |cp o v n pn cur=>
   simp only[xE];split
   ·exact⟨by show(0:Int)<=(s.made:Int);omega,by show(s.made:Int)<_;omega,λ _ h=>by cases h⟩
   ·exact hq
  |cm o pn cur w=>
   simp only[xE];split
   ·exact⟨hq,by omega,by omega⟩
   ·exact hq
  |cd o pn cur nx a=>
   simp only[xE];split
   ·exact⟨hq.1,hq.2.1,by have:=hq.2.2;omega⟩
   ·exact⟨hq.1,hq.2.1,by have:=hq.2.2;omega⟩
  |ga o f=>exact up hq
  |gb o f a b pn cur=>exact up hq
  |rr o f a b pn nx pt=>exact up hq
  |tk o v pn cur=>exact up hq
  |sv a=>exact up hq
  |rx n a=>exact up hq
  |ry a=>exact up hq
  |fi o=>exact up hq
 |t1 k=>
  have hq:eM kd s.made k:=hq;unfold tell;simp only;split
  ·refine nm _ _ rfl ?_;cases k with
   |tk o v pn cur=>exact⟨by show(0:Int)<=(s.made:Int);omega,by show(s.made:Int)<_;omega,λ _ _ h=>by cases h⟩
   |_=>exact up hq
  ·exact⟨rfl,up hq⟩
 |t2 k f=>have hq:eM kd s.made k:=hq;exact⟨rfl,up hq⟩
 |t3 k f lk=>
  have hq:eM kd s.made k:=hq;unfold tell;simp only;split
  ·exact⟨rfl,up hq⟩
  ·exact⟨rfl,up hq⟩
 |t4 k n a=>have hq:eM kd s.made k:=hq;exact⟨rfl,up hq⟩
 |t5 k n a b=>have hq:eM kd s.made k:=hq;refine nm _ _ rfl ?_;cases k<;>exact up hq
 |g1 k i c=>exact⟨rfl,up hq,by omega,by omega⟩
 |g2 k i c v a=>
  have A:=hq.2.1;have F:a<(s.made:Int):=hq.2.2;unfold tell;simp only;split
  ·refine nm _ _ rfl ?_;have J:=hq.1;cases k with
   |ga o f=>exact Mo (lz.mono (Nat.le_succ _) J) A (by omega)
   |gb o f bs b pn cur=>exact⟨lz.mono (Nat.le_succ _) J,A,by omega⟩
   |_=>exact up J
  ·exact⟨rfl,up hq.1⟩
 |g3 k i c er=>have hq:eM kd s.made k:=hq;exact⟨by show(s.up.fb i er).made=_;rw[Ia];rfl,up hq⟩
 |bG k=>exact absurd hf id
 |c k i=>have hq:eM kd s.made k:=hq;exact⟨by show(gj (cW h) k (s.up.fb i 0)).s.made=_;rw[O2,Ia];rfl,Td (up hq)⟩
 |v1 k n=>have hq:eM kd s.made k:=hq;exact⟨rfl,up hq⟩
 |v2 k n f=>have hq:eM kd s.made k:=hq;exact⟨rfl,up hq⟩
 |v3 k n f=>
  have hq:eM kd s.made k:=hq;unfold tell;simp only;split
  ·refine nm _ _ rfl ?_;cases k with
   |sv a=>exact⟨hq.1,by have:=hq.2;show a<_;omega,λ _ _ _=>by have:=hq.2;show a+2<_;omega⟩
   |_=>exact up hq
  ·exact⟨rfl,up hq⟩
 |r1 k n=>have hq:eM kd s.made k:=hq;exact⟨rfl,up hq⟩
 |r2 k n er=>
  have hq:eM kd s.made k:=hq;unfold tell;simp only;split
  ·exact nm _ _ rfl (Tg (up hq))
  ·exact⟨by rw[T7];rfl,Th (up hq) _⟩
 |rs k aw c cs=>have hq:eM kd s.made k:=hq;exact⟨by show(mU (cW h) k _ s.up cs).s.made=_;rw[T7];rfl,Th (up hq) _⟩
 |s1 k aw g gs aL=>
  have hq:eM kd s.made k:=hq;unfold tell;simp only;split
  ·exact⟨by rw[M8];rfl,Mp (up hq) _ _⟩
  ·exact⟨rfl,up hq⟩
 |w1 k aw g gs aL=>have hq:eM kd s.made k:=hq;exact⟨rfl,up hq⟩
 |w2 k aw g gs aL f=>have hq:eM kd s.made k:=hq;exact⟨rfl,up hq⟩
 |w3 k aw g gs aL f=>
  have hq:eM kd s.made k:=hq;unfold tell;simp only;split
  ·exact⟨by rw[M8];rfl,Mp (up hq) _ _⟩
  ·exact⟨rfl,up hq⟩
 |fin o=>exact absurd hf id
def Aj:Pc Lk->Prop
 |.bG _=>False
 |_=>True
theorem SF{k:Lk}{s:af}:Aj (gj (cW h) k s).pc:=by
 unfold gj;split
 ·exact trivial
 ·split
  ·exact trivial
  ·split
   ·exact trivial
   ·cases k<;>exact trivial
theorem L3{pc:Pc Lk}{s:af}:Aj (aR (cW h) pc s).pc:=by cases pc<;>first|exact SF|exact trivial
theorem SH{k:Lk}{aw:List Int}{s:af}:∀(gs aL:List (Int×Int)),Aj (gL (cW h) k aw s gs aL).pc
 |[],_=>L3
 |_::_,_=>trivial
theorem SG{k:Lk}{aw:List Int}{s:af}:∀(cs:List Ad),Aj (mU (cW h) k aw s cs).pc
 |[]=>SH _ _
 |_::_=>trivial
theorem acg{S:Nat}{q:Q Lk}{r:aF}(hq:Aj q.pc):Aj (tell (cW h) S q r).pc:=by
 obtain⟨pc,s⟩:=q;cases pc<;>simp only[tell]
 case bG=>exact hq
 all_goals first
  |exact L3
  |exact SF
  |exact SG _
  |exact trivial
  |(split<;>first|exact L3|exact SG _|exact SH _ _|exact trivial)
theorem afq{S:Nat}{q:Q Lk}{r:aF}{o:aY}(A:q.pc=.fin o):tell (cW h) S q r=q:=by
 obtain⟨pc,s⟩:=q;subst A
 rfl
theorem MT{S:Nat}:∀(log:List aF)(q:Q Lk),nG kd q.s.made q.pc->Aj q.pc->∃bD,oo (cW h) S q log=bD/\nG kd bD.s.made bD.pc/\bD.s.made<=q.s.made+log.length
 |[],q,A,_=>⟨q,rfl,A,Nat.le_refl _⟩
 |r::log,q,A,F=>by
  show∃bD,oo (cW h) S (tell (cW h) S q r) log=bD/\_;have key:nG kd (tell (cW h) S q r).s.made (tell (cW h) S q r).pc/\(tell (cW h) S q r).s.made<=q.s.made+1:=by
   cases hp:q.pc with
   |fin o=>rw[afq hp];exact⟨A,by omega⟩
   |bG k=>rw[hp] at F;exact absurd F id
   |_=>have:=ac9 (S:=S) (r:=r) (h:=h) (q:=q) (by rw[hp];exact trivial) A;rw[this.1];exact⟨this.2,Nat.le_refl _⟩
  obtain⟨bD,e,O,h4⟩:=MT log _ key.1 (acg F);exact⟨bD,e,O,by have:=key.2;simp only[List.length_cons];omega⟩
end
theorem SE{l:ah}(hS:0<=l.ar){G:Int}{gone:List (Int×Int)}{op:bl}{log:List aF}(D:(dJ l G gone op log).2.2=true)(hp:0<=(dJ l G gone op log).2.1.c6):
 (dJ l G gone op log).2.1.c6<log.length/\(op.kind=2->(dJ l G gone op log).2.1.is=false->(dJ l G gone op log).2.1.err=0->(dJ l G gone op log).2.1.c6+2<log.length):=by
 by_cases hh:op.obj<0\/l.size<=op.obj
 ·unfold dJ at hp;rw[if_pos hh] at hp;exact absurd (show(0:Int)<=-1 from hp) (by omega)
 ·by_cases J:op.kind=1\/op.kind=2\/op.kind=3
  ·have e:=EW (l:=l) (S:=l.ar.toNat) (G:=G) (by omega) (gone:=gone) (op:=op) (log:=log) (h:=.ob op.obj) rfl hh J;obtain⟨bD,ab,A,F⟩:=MT (S:=l.ar.toNat) (h:=.ob op.obj) (kd:=op.kind) log (i8 (.ob op.obj) op gone) (by
    show lz op.kind 0 (Bg op);unfold Bg;rcases J with J|J|J
    ·rw[if_pos J];show op.kind≠2;omega
    ·rw[if_neg (by omega),if_pos J];exact J
    ·rw[if_neg (by omega),if_neg (by omega)];show op.kind≠2;omega) trivial
   rw[ab] at e;rw[e] at hp D⊢;have F:bD.s.made<=log.length:=by have:(i8 (.ob op.obj) op gone).s.made=0:=rfl;omega
   obtain⟨pc,s⟩:=bD;cases pc with
   |fin o=>obtain⟨O,h4,h5⟩:=A;exact⟨by show o.c6<_;have:s.made<=log.length:=F;omega,λ a b c=>by have:=h5 a b c;show o.c6+2<_;have:s.made<=log.length:=F;omega⟩
   |_=>cases D
  ·unfold dJ at hp;rw[if_neg hh,if_neg (by omega),if_neg (by omega),if_neg (by omega)] at hp;exact absurd (show(0:Int)<=-1 from hp) (by omega)
def lw(g:List (Int×Int)):Prop:=∀p∈g,p.1<9223372036854775808
structure Hs(n:Nat)(s aa:af):Prop where
 le:s.made<=n->aa.made<=n
 ok:lw s.gone->lw aa.gone
 made:s.made<=aa.made
 len:aa.gone.length+s.made<=s.gone.length+aa.made
theorem Hs.refl{n:Nat}(s:af):Hs n s s:=⟨id,id,Nat.le_refl _,Nat.le_refl _⟩
theorem Hs.trans{n:Nat}{a b c:af}(A:Hs n a b)(F:Hs n b c):Hs n a c:=⟨λ h=>F.le (A.le h),λ h=>F.ok (A.ok h),Nat.le_trans A.made F.made,by have:=A.len;have:=F.len;have:=A.made;have:=F.made;omega⟩
def Hg{av:Type}(m:Pm av)(P:av->Prop):Prop:=∀log s x aa,m log s=.ok (x,aa)->Hs log.length s aa/\P x
section
variable{av ei:Type}
theorem d5{x:av}{P:av->Prop}(h:P x):Hg (Pm.pure x) P:=λ log s y aa e=>by
 cases e;exact⟨Hs.refl _,h⟩
theorem bC{m:Pm av}{f:av->Pm ei}{P:av->Prop}{aO:ei->Prop}(A:Hg m P)(F:∀x,P x->Hg (f x) aO):Hg (m.bind f) aO:=λ log s y aa e=>by
 unfold Pm.bind at e;cases h:m log s with
 |error a=>rw[h] at e;cases e
 |ok q=>obtain⟨x,s1⟩:=q;rw[h] at e;obtain⟨a1,a2⟩:=A log s x s1 h;obtain⟨b1,b2⟩:=F x a2 log s1 y aa e;exact⟨a1.trans b1,b2⟩
theorem Ky{m:Pm av}{P aO:av->Prop}(h:Hg m P)(hp:∀x,P x->aO x):Hg m aO:=λ log s x aa e=>⟨(h log s x aa e).1,hp x (h log s x aa e).2⟩
theorem Y6{m:Pm av}{P:av->Prop}(h:Hg m P):Hg m (λ _=>True):=Ky h λ _ _=>trivial
theorem GX(a:aX):Hg (fO a) (λ _=>True):=λ log s x aa e=>by
 unfold fO at e;split at e
 ·rename_i r hr;cases e;have:=(List.getElem?_eq_some_iff.1 hr).1;exact⟨⟨λ _=>this,id,by simp,by simp⟩,trivial⟩
 ·cases e
theorem fh{c:Prop}[Decidable c]{m n:Pm av}{P:av->Prop}(A:c->Hg m P)(F:¬c->Hg n P):Hg (if c then m else n) P:=by
 split
 ·exact A ‹_›
 ·exact F ‹_›
theorem kO(c:Int):Hg (cZ c) (λ _=>True):=bC (GX _) λ _ _=>d5 trivial
theorem qQ(c v:Int):Hg (fA c v) (λ _=>True):=bC (GX _) λ _ _=>d5 trivial
theorem nk(c o v:Int):Hg (fN c o v) (λ _=>True):=bC (GX _) λ _ _=>d5 trivial
theorem n5:Hg mq (λ _=>True):=λ log s x aa e=>by
 cases e;exact⟨Hs.refl _,trivial⟩
theorem QG(l:ah):∀k,Hg (ou l k) (λ _=>True)
 |0=>d5 trivial
 |k+1=>bC (kO _) λ _ _=>fh (λ _=>bC n5 λ _ _=>d5 trivial) λ _=>bC (kO _) λ _ _=>bC (nk _ _ _) λ _ _=>fh (λ _=>bC n5 λ _ _=>bC (kO _) λ _ _=>bC (qQ _ _) λ _ _=>d5 trivial) λ _=>QG l k
theorem KE(l:ah):Hg (sr l) (λ _=>True):=λ log s=>QG l _ log s
theorem Qz(l:ah)(n:Int):∀k,Hg (mH l n k) (λ _=>True)
 |0=>d5 trivial
 |k+1=>bC (kO _) λ _ _=>bC (qQ _ _) λ _ _=>bC (nk _ _ _) λ _ _=>fh (λ _=>d5 trivial) λ _=>Qz l n k
theorem GZ(l:ah)(n:Int):Hg (oI l n) (λ _=>True):=λ log s=>Qz l n _ log s
theorem aar{n:Nat}{s aa:af}{i v:Int}(h:Hs n (s.fb i v) aa):Hs n s aa:=by
 have A:=Ia s i v;have F:(s.fb i v).gone=s.gone:=by
  unfold af.fb;split
  ·rfl
  ·split<;>rfl
 exact⟨λ g=>h.le (by rw[A];exact g),λ g=>h.ok (by rw[F];exact g),by have:=h.made;omega,by have:=h.len;rw[F] at this;omega⟩
theorem QA(l:ah)(G i c:Int):∀k,Hg (lC l G i c k) (λ _=>True)
 |0=>d5 trivial
 |k+1=>bC (kO _) λ v _=>bC n5 λ at_ _=>bC (kO _) λ era _=>λ log s x aa e=>by
  split at e
  ·cases e;exact⟨Hs.refl _,trivial⟩
  ·refine bC (aO:=λ _=>True) (qQ _ _) (λ _ _=>?_) log s x aa e;intro log s x aa e;exact⟨aar (QA l G i c k log _ x aa e).1,trivial⟩
theorem D5(l:ah)(G i c:Int):Hg (mg l G i c) (λ _=>True):=λ log s=>QA l G i c _ log s
theorem Qu(l:ah)(G:Int):∀(es:List Int)(i:Nat),Hg (gS l G i es) (λ _=>True)
 |[],_=>d5 trivial
 |e::es,i=>bC (P:=λ _=>True) (fh (λ _=>d5 trivial) λ _=>bC (qQ _ _) λ _ _=>λ log s x aa h=>by
   cases h;refine⟨?_,trivial⟩
   match i with
   |0=>exact⟨id,id,Nat.le_refl _,Nat.le_refl _⟩
   |1=>exact⟨id,id,Nat.le_refl _,Nat.le_refl _⟩
   |_+2=>exact⟨id,id,Nat.le_refl _,Nat.le_refl _⟩) λ _ _=>Qu l G es (i+1)
theorem rO(l:ah)(G:Int):Hg (gB l G) (λ _=>True):=λ log s=>Qu l G _ _ log s
theorem QB:∀(cs acc:List Int),Hg (kz acc cs) (λ _=>True)
 |[],_=>d5 trivial
 |_::cs,_=>bC (kO _) λ _ _=>QB cs _
theorem KD(l:ah)(aw:List Int):∀(gs aL:List (Int×Int)),Hg (fx l aw gs aL) (λ r=>r.length<=gs.length+aL.length/\(lw gs->lw aL->lw r))
 |[],aL=>d5 ⟨by simp,λ _ h=>h⟩
 |g::gs,aL=>bC (kO _) λ _ _=>fh (λ _=>Ky (KD l aw gs (aL++[g])) λ r h=>⟨by have:=h.1;simp only[List.length_append,List.length_cons,List.length_nil] at this⊢;omega,λ A F=>h.2 (λ p hp=>A p (List.mem_cons_of_mem _ hp)) λ p hp=>by
  rcases List.mem_append.1 hp with hp|hp
  ·exact F p hp
  ·simp only[List.mem_singleton] at hp;subst hp;exact A _ List.mem_cons_self⟩)
   λ _=>bC (GZ l g.1) λ _ _=>Ky (KD l aw gs aL) λ r h=>⟨by have:=h.1;simp only[List.length_cons];omega,λ A F=>h.2 (λ p hp=>A p (List.mem_cons_of_mem _ hp)) F⟩
theorem FV{m:Pm av}{f:av->Pm ei}{log:List aF}{s aa:af}{y:ei}(e:m.bind f log s=.ok (y,aa)):∃x s1,m log s=.ok (x,s1)/\f x log s1=.ok (y,aa):=by
 unfold Pm.bind at e;cases h:m log s with
 |error a=>rw[h] at e;cases e
 |ok q=>rw[h] at e;exact⟨q.1,q.2,rfl,e⟩
theorem aeE{l:ah}{g:List (Int×Int)}{log:List aF}{s aa:af}{u:Unit}(e:tB l g log s=.ok (u,aa)):s.made<=aa.made/\aa.gone.length<=g.length/\(lw g->lw aa.gone)/\(s.made<=log.length->aa.made<=log.length):=by obtain⟨aw,s1,e1,e⟩:=FV e;obtain⟨aL,s2,e2,e⟩:=FV e;cases e;have A:=(QB _ _ _ _ _ _ e1).1;have F:=KD l aw g [] _ _ _ _ e2;exact⟨Nat.le_trans A.made F.1.made,by simpa using F.2.1,λ h=>F.2.2 h (λ p hp=>absurd hp List.not_mem_nil),λ h=>F.1.le (A.le h)⟩
theorem G4(l:ah)(n:Int)(hn:n<9223372036854775808):Hg (lr l n) (λ _=>True):=by
 refine bC (kO _) λ era _=>?_
 intro log s x aa e;obtain⟨r,s1,e1,e⟩:=FV e;have fe:s1={s with made:=s.made+1}/\s.made<log.length:=by
  unfold fO at e1;split at e1
  ·rename_i r hr;cases e1;exact⟨rfl,(List.getElem?_eq_some_iff.1 hr).1⟩
  ·cases e1
 obtain⟨fe,bm⟩:=fe;subst fe;have DR:lw s.gone->lw (s.gone++[(n,era)]):=λ h p hp=>by
  rcases List.mem_append.1 hp with hp|hp
  ·exact h p hp
  ·simp only[List.mem_singleton] at hp;subst hp;exact hn
 simp only at e;split at e
 ·cases e;exact⟨⟨λ _=>bm,DR,by simp,by simp;omega⟩,trivial⟩
 ·obtain⟨A,F,O,h4⟩:=aeE e;simp only[List.length_append,List.length_cons,List.length_nil] at A F;exact⟨⟨λ _=>h4 bm,λ h=>O (DR h),by omega,by omega⟩,trivial⟩
theorem E0(n:Int):(ae n).idx<9223372036854775808:=by have:=(kU n).2;omega
theorem BE(l:ah)(G D o:Int):∀(k:Nat)(x:Option I7),(∀w,x=some w->w.cur<9223372036854775808)->Hg (ph l G D o k x) (λ f=>f.cur<9223372036854775808)
 |0,_,_=>d5 (by show(0:Int)<_;omega)
 |k+1,none,_=>bC (D5 _ _ _ _) λ p _=>BE l G D o k _ λ w hw=>by cases hw;exact E0 _
 |k+1,some x,T=>fh (λ _=>d5 (by show(0:Int)<_;omega)) λ _=>bC (D5 _ _ _ _) λ p _=>bC (kO _) λ seen _=>bC n5 λ look _=>
   fh (λ _=>bC (kO _) λ eF _=>
    fh (λ _=>bC (nk _ _ _) λ ok _=>fh (λ _=>bC n5 λ at_ _=>bC (G4 l _ (T _ rfl)) λ _ _=>BE l G D o k _ λ w hw=>by cases hw;exact E0 _) λ _=>BE l G D o k none λ w hw=>by cases hw) λ _=>
    fh (λ _=>BE l G D o k _ λ w hw=>by cases hw;exact E0 _) λ _=>
    fh (λ _=>d5 (T _ rfl)) λ _=>d5 (T _ rfl))
   λ _=>BE l G D o k none λ w hw=>by cases hw
theorem GY(l:ah)(G D o:Int):Hg (tZ l G D o) (λ f=>f.cur<9223372036854775808):=λ log s=>BE l G D o _ none (λ w hw=>by cases hw) log s
theorem vu(l:ah)(G:Int)(o:aY):Hg (ln l G o) (λ _=>True):=bC (rO _ _) λ _ _=>d5 trivial
theorem Qy(l:ah)(G D o:Int):Hg (getM l G D o) (λ _=>True):=bC (GY _ _ _ _) λ _ _=>fh (λ _=>bC (kO _) λ _ _=>vu _ _ _) λ _=>vu _ _ _
theorem QC(l:ah)(f:kX)(n:Int):Hg (xM l f n) (λ _=>True):=bC (qQ _ _) λ _ _=>bC (nk _ _ _) λ _ _=>fh (λ _=>bC n5 λ _ _=>d5 trivial) λ _=>d5 trivial
theorem KC(l:ah)(G D o v:Int):∀(k:Nat)(n:Int),Hg (wf l G D o v k n) (λ _=>True)
 |0,_=>d5 trivial
 |k+1,n=>bC (GY _ _ _ _) λ _ _=>fh (λ _=>fh (λ _=>vu _ _ _) λ _=>bC (GZ _ _) λ _ _=>vu _ _ _) λ _=>
   fh (λ _=>bC (KE _) λ t _=>fh (λ _=>bC (qQ _ _) λ _ _=>bC (qQ _ _) λ _ _=>bC (QC _ _ _) λ r _=>by
    cases r with
    |some a=>exact vu _ _ _
    |none=>exact KC l G D o v k _) λ _=>vu _ _ _) λ _=>bC (QC _ _ _) λ r _=>by
    cases r with
    |some a=>exact vu _ _ _
    |none=>exact KC l G D o v k _
theorem QD(l:ah)(G D o v:Int):Hg (wg l G D o v) (λ _=>True):=λ log s=>KC l G D o v _ 0 log s
theorem Qv(l:ah)(G D o:Int):∀(k:Nat),Hg (yA l G D o k) (λ _=>True)
 |0=>d5 trivial
 |k+1=>bC (GY _ _ _ _) λ _ hf=>fh (λ _=>bC (nk _ _ _) λ _ _=>fh (λ _=>bC n5 λ _ _=>bC (nk _ _ _) λ _ _=>fh (λ _=>bC (rO _ _) λ _ _=>bC (G4 l _ hf) λ _ _=>d5 trivial) λ _=>bC (Y6 (GY _ _ _ _)) λ _ _=>vu _ _ _) λ _=>Qv l G D o k) λ _=>vu _ _ _
theorem Qw(l:ah)(G D o:Int):Hg (vb l G D o) (λ _=>True):=λ log s=>Qv l G D o _ log s
end
theorem yG{m:Pm aY}{P:aY->Prop}(hm:Hg m P){gone:List (Int×Int)}{log:List aF}(D:(pY (m log ⟨0,gone,0,0,0⟩)).2.2=true)(hg:lw gone):lw (pY (m log ⟨0,gone,0,0,0⟩)).2.1.gone/\(pY (m log ⟨0,gone,0,0,0⟩)).2.1.gone.length<=gone.length+log.length:=by
 cases h:m log ⟨0,gone,0,0,0⟩ with
 |error a=>rw[h] at D;cases D
 |ok q=>obtain⟨x,aa⟩:=q;obtain⟨A,_⟩:=hm _ _ _ _ h;have:=A.len;have:=A.le (Nat.zero_le _);exact⟨A.ok hg,by show aa.gone.length<=_;simp only at*;omega⟩
theorem JM{m:Pm aY}{P:aY->Prop}(hm:Hg m P){gone:List (Int×Int)}{log:List aF}(D:(pY (m log ⟨0,gone,0,0,0⟩)).2.2=true):(pY (m log ⟨0,gone,0,0,0⟩)).2.1.gone.length<=gone.length+log.length:=by
 cases h:m log ⟨0,gone,0,0,0⟩ with
 |error a=>rw[h] at D;cases D
 |ok q=>obtain⟨x,aa⟩:=q;obtain⟨A,_⟩:=hm _ _ _ _ h;have:=A.len;have:=A.le (Nat.zero_le _);show aa.gone.length<=_;simp only at*;omega
theorem ab7{l:ah}{G:Int}{gone:List (Int×Int)}{op:bl}{log:List aF}(D:(dJ l G gone op log).2.2=true):(dJ l G gone op log).2.1.gone.length<=gone.length+log.length:=by
 unfold dJ at D⊢;split at D
 ·rw[if_pos ‹_›];exact Nat.le_add_right _ _
 ·rw[if_neg ‹_›];split at D
  ·rw[if_pos ‹_›];exact JM (Qy _ _ _ _) D
  ·rw[if_neg ‹_›];split at D
   ·rw[if_pos ‹_›];exact JM (QD _ _ _ _ _) D
   ·rw[if_neg ‹_›];split at D
    ·rw[if_pos ‹_›];exact JM (Qw _ _ _ _) D
    ·rw[if_neg ‹_›];exact Nat.le_add_right _ _
theorem EV{l:ah}{G:Int}{gone:List (Int×Int)}{op:bl}{log:List aF}(D:(dJ l G gone op log).2.2=true)(hg:lw gone):lw (dJ l G gone op log).2.1.gone/\(dJ l G gone op log).2.1.gone.length<=gone.length+log.length:=by
 unfold dJ at D⊢;split at D
 ·rw[if_pos ‹_›];exact⟨hg,Nat.le_add_right _ _⟩
 ·rw[if_neg ‹_›];split at D
  ·rw[if_pos ‹_›];exact yG (Qy _ _ _ _) D hg
  ·rw[if_neg ‹_›];split at D
   ·rw[if_pos ‹_›];exact yG (QD _ _ _ _ _) D hg
   ·rw[if_neg ‹_›];split at D
    ·rw[if_pos ‹_›];exact yG (Qw _ _ _ _) D hg
    ·rw[if_neg ‹_›];exact⟨hg,Nat.le_add_right _ _⟩
theorem ab9{l:ah}(hS:0<=l.ar){G:Int}{gone:List (Int×Int)}{op:bl}{log:List aF}{k:Nat}(D:(dJ l G gone op (log.take k)).2.2=true):dJ l G gone op log=dJ l G gone op (log.take k):=by
 by_cases hh:op.obj<0\/l.size<=op.obj
 ·unfold dJ;rw[if_pos hh,if_pos hh]
 ·by_cases J:op.kind=1\/op.kind=2\/op.kind=3
  ·have e:=λ log=>EW (l:=l) (S:=l.ar.toNat) (G:=G) (by omega) (gone:=gone) (op:=op) (log:=log) (h:=.ob op.obj) rfl hh J
   rw[e] at D;rw[e,e];have hr:oo (cW (.ob op.obj)) l.ar.toNat (i8 (.ob op.obj) op gone) log=oo (cW (.ob op.obj)) l.ar.toNat (oo (cW (.ob op.obj)) l.ar.toNat (i8 (.ob op.obj) op gone) (log.take k)) (log.drop k):=by unfold oo;rw[<-List.foldl_append,List.take_append_drop]
   rw[hr];generalize oo (cW (.ob op.obj)) l.ar.toNat (i8 (.ob op.obj) op gone) (log.take k)=q at D⊢;obtain⟨pc,s⟩:=q;cases pc with
   |fin o=>
    have:∀rest:List aF,oo (cW (.ob op.obj)) l.ar.toNat ⟨.fin o,s⟩ rest=⟨.fin o,s⟩:=λ rest=>by
     induction rest with
     |nil=>rfl
     |cons r rest ih=>exact ih
    rw[this]
   |_=>cases D
  ·unfold dJ;rw[if_neg hh,if_neg (by omega),if_neg (by omega),if_neg (by omega),if_neg hh,if_neg (by omega),if_neg (by omega),if_neg (by omega)]
theorem ab8{l:ah}(hS:0<=l.ar){G:Int}{gone:List (Int×Int)}{op:bl}{log:List aF}(D:(dJ l G gone op log).2.2=true)(he:(dJ l G gone op log).2.1.err=0):0<=(dJ l G gone op log).2.1.c6:=by
 by_cases hh:op.obj<0\/l.size<=op.obj
 ·unfold dJ at he;rw[if_pos hh] at he;exact absurd (show(1:Int)=0 from he) (by omega)
 ·by_cases J:op.kind=1\/op.kind=2\/op.kind=3
  ·have e:=EW (l:=l) (S:=l.ar.toNat) (G:=G) (by omega) (gone:=gone) (op:=op) (log:=log) (h:=.ob op.obj) rfl hh J;obtain⟨bD,ab,A,F⟩:=MT (S:=l.ar.toNat) (h:=.ob op.obj) (kd:=op.kind) log (i8 (.ob op.obj) op gone) (by
    show lz op.kind 0 (Bg op);unfold Bg;rcases J with J|J|J
    ·rw[if_pos J];show op.kind≠2;omega
    ·rw[if_neg (by omega),if_pos J];exact J
    ·rw[if_neg (by omega),if_neg (by omega)];show op.kind≠2;omega) trivial
   rw[ab] at e;rw[e] at D⊢;obtain⟨pc,s⟩:=bD;cases pc with
   |fin o=>exact A.1
   |_=>cases D
  ·unfold dJ at he;rw[if_neg hh,if_neg (by omega),if_neg (by omega),if_neg (by omega)] at he;exact absurd (show(1:Int)=0 from he) (by omega)
def HW(l:ah)(e8:Int):Int:=if aN l e8 0<0 then l.done else aN l e8 0
theorem uX{l:ah}{G:Int}{gone:List (Int×Int)}{kind e8 eF v:Int}{lg:List aF}:(nU l G gone kind e8 eF v lg).2=(dJ l G gone ⟨kind,HW l e8,eF,v⟩ lg).2:=by unfold nU HW;simp only;generalize(if aN l e8 0<0 then l.done else aN l e8 0)=ob;split<;>rfl
theorem PA{f:Nat->Bool}:∀(n k:Nat),f (k+n)=true->f (qG f n k)=true/\k<=qG f n k/\qG f n k<=k+n
 |0,k,h=>⟨h,Nat.le_refl _,Nat.le_refl _⟩
 |n+1,k,h=>by
  unfold qG;split
  ·exact⟨‹_›,Nat.le_refl _,Nat.le_add_right _ _⟩
  ·obtain⟨A,F,O⟩:=PA n (k+1) (by rw[show k+1+n=k+(n+1) by omega];exact h);exact⟨A,by omega,by omega⟩
section
variable{l:ah}{G kind e8 eF v:Int}{log:List aF}{s aa:af}{o:aY×aX}
theorem LN(hS:0<=l.ar)(hm:s.made<=log.length)(e:rY l G kind e8 eF v log s=.ok (o,aa)):
 Hs log.length s aa/\(kind=2->o.1.is=false->o.1.err=0->0<=o.1.c6/\o.1.c6+2<log.length):=by
 unfold rY at e;simp only at e
 by_cases D:(nU l G s.gone kind e8 eF v (log.drop s.made)).2.2=false
 ·rw[if_pos D] at e;cases e
 rw[if_neg D] at e;have qO:(nU l G s.gone kind e8 eF v (log.drop s.made)).2.2=true:=by simpa using D
 rw[uX] at qO
 by_cases hp:(nU l G s.gone kind e8 eF v (log.drop s.made)).2.1.c6<0
 ·rw[if_pos hp] at e;cases e;refine⟨Hs.refl _,λ A F O=>?_⟩;rw[uX] at hp O;have:=ab8 hS qO O;omega
 ·rw[if_neg hp] at e;have aab:=hp;rw[uX] at aab;obtain⟨q1,q2⟩:=SE hS qO (by omega);have cD:(log.drop s.made).length=log.length-s.made:=List.length_drop;have qc:(nU l G s.gone kind e8 eF v (log.drop s.made)).2.1.c6.toNat+1<=(log.drop s.made).length:=by rw[uX];omega
  generalize hf:(λ k=>(nU l G s.gone kind e8 eF v ((log.drop s.made).take k)).2.2)=f at e;have Kv:f (((nU l G s.gone kind e8 eF v (log.drop s.made)).2.1.c6.toNat+1)+((log.drop s.made).length-((nU l G s.gone kind e8 eF v (log.drop s.made)).2.1.c6.toNat+1)))=true:=by rw[show((nU l G s.gone kind e8 eF v (log.drop s.made)).2.1.c6.toNat+1)+((log.drop s.made).length-((nU l G s.gone kind e8 eF v (log.drop s.made)).2.1.c6.toNat+1))=(log.drop s.made).length by omega,<-hf];simp only[List.take_length];rw[uX];exact qO
  obtain⟨k1,k2,k3⟩:=PA _ _ Kv;generalize hK:qG f _ _=aG at e k1 k2 k3;rw[<-hf] at k1;simp only at k1;rw[uX] at k1;have same:=ab9 hS k1;cases e;refine⟨⟨λ _=>by simp only;omega,λ hg=>?_,by simp,?_⟩,λ A F O=>?_⟩
  ·show lw (nU l G s.gone kind e8 eF v (log.drop s.made)).2.1.gone;rw[uX,same];exact(EV k1 hg).1
  ·show(nU l G s.gone kind e8 eF v (log.drop s.made)).2.1.gone.length+s.made<=s.gone.length+(s.made+aG);rw[uX,same];have dF:(dJ l G s.gone ⟨kind,HW l e8,eF,v⟩ ((log.drop s.made).take aG)).2.1.gone.length<=s.gone.length+((log.drop s.made).take aG).length:=by
    have:=@ab7 l G s.gone ⟨kind,HW l e8,eF,v⟩ ((log.drop s.made).take aG) k1;exact this
   rw[List.length_take] at dF;omega
  ·simp only at F O⊢;rw[uX] at F O⊢;have:=q2 A F O;omega
end
def Hl{av:Type}(m:Pm av):Prop:=∀log s x aa,s.made<=log.length->m log s=.ok (x,aa)->Hs log.length s aa
section
variable{av ei:Type}
theorem p9{x:av}:Hl (Pm.pure x):=λ _ _ _ _ _ e=>by cases e;exact Hs.refl _
theorem BG(a:aX):Hl (fO a):=λ log s x aa _ e=>(GX a log s x aa e).1
theorem rQ{m:Pm av}{f:av->Pm ei}(A:Hl m)(F:∀x,Hl (f x)):Hl (m.bind f):=λ log s y aa hm e=>by
 obtain⟨x,s1,e1,e2⟩:=FV e;have a:=A log s x s1 hm e1;exact a.trans (F x log s1 y aa (a.le hm) e2)
theorem uj{c:Prop}[Decidable c]{m n:Pm av}(A:Hl m)(F:Hl n):Hl (if c then m else n):=by
 split
 ·exact A
 ·exact F
theorem ZE(o:aY×aX):Hl (NE o):=λ _ _ _ _ _ e=>by cases e;exact Hs.refl _
theorem QU{l:ah}(hS:0<=l.ar)(G kind e8 eF v:Int):Hl (rY l G kind e8 eF v):=λ _ _ _ _ hm e=>(LN hS hm e).1
theorem QT{l:ah}(hS:0<=l.ar)(G m:Int):∀(k:Nat)(b:Int),Hl (nX l G m k b)
 |0,_=>p9
 |k+1,_=>rQ (BG _) λ _=>uj p9 (uj p9 (rQ (QT hS G m k _) λ _=>uj p9 (rQ (QU hS _ _ _ _ _) λ _=>uj p9 (rQ (ZE _) λ _=>rQ (BG _) λ _=>p9))))
theorem ZC{l:ah}(m kind size:Int):Hl (sD l m kind size):=uj (rQ (BG _) λ _=>uj (rQ (BG _) λ _=>p9) p9) (uj (rQ (BG _) λ _=>p9) p9)
theorem ZD{l:ah}(hS:0<=l.ar)(G:Int)(op:bl):Hl (x6 l G op):=rQ (BG _) λ _=>uj p9 (rQ (QT hS _ _ _ _) λ _=>uj p9 (rQ (QU hS _ _ _ _ _) λ _=>uj (rQ (ZC _ _ _) λ _=>p9) p9))
end
theorem Z2{l:ah}(hS:0<=l.ar){G:Int}{gone:List (Int×Int)}{op:bl}{log:List aF}(D:(s8 l G gone op log).2.2=true)(hg:lw gone):lw (s8 l G gone op log).2.1.gone/\(s8 l G gone op log).2.1.gone.length<=gone.length+log.length:=by
 unfold s8 at D⊢;split at D
 ·rw[if_pos ‹_›];exact⟨hg,Nat.le_add_right _ _⟩
 ·rw[if_neg ‹_›];cases h:x6 l G op log ⟨0,gone,0,0,0⟩ with
  |error a=>rw[h] at D;cases D
  |ok q=>obtain⟨x,aa⟩:=q;have A:=ZD hS G op _ _ _ _ (Nat.zero_le _) h;have:=A.len;have:=A.le (Nat.zero_le _);exact⟨A.ok hg,by show aa.gone.length<=_;simp only at*;omega⟩
abbrev bL:=List (Int×Int)
def ee(S:bL):Prop:=S.Pairwise λ x y=>x.1<=y.1
def qM(k:Int)(S:bL):bL:=S.filter λ x=>decide (x.1=k)
def gz(S ap:bL):Prop:=∀k,qM k S=qM k ap
theorem gz.refl(S:bL):gz S S:=λ _=>rfl
theorem gz.trans{S ap bP:bL}(h:gz S ap)(bQ:gz ap bP):gz S bP:=λ k=>(h k).trans (bQ k)
theorem gz.symm{S ap:bL}(h:gz S ap):gz ap S:=λ k=>(h k).symm
theorem GM(k:Int)(S ap:bL):qM k (S++ap)=qM k S++qM k ap:=List.filter_append ..
theorem gz.app{S ap bP V:bL}(h:gz S ap)(bQ:gz bP V):gz (S++bP) (ap++V):=λ k=>by rw[GM,GM,h k,bQ k]
theorem gz.swap{am B:bL}(h:∀x∈am,∀y∈B,x.1≠y.1):gz (am++B) (B++am):=λ k=>by
 rw[GM,GM]
 by_cases ha:qM k am=[]
 ·rw[ha];simp
 ·have Z:qM k B=[]:=by
   rw[qM,List.filter_eq_nil_iff];intro y hy he;obtain⟨x,T⟩:=List.exists_mem_of_ne_nil _ ha;obtain⟨cj,du⟩:=List.mem_filter.1 T;exact h x cj y hy ((of_decide_eq_true du).trans (of_decide_eq_true he).symm)
  rw[Z];simp
theorem gz.mem{S ap:bL}(h:gz S ap){x:Int×Int}(T:x∈S):x∈ap:=by have A:x∈qM x.1 S:=List.mem_filter.2 ⟨T,decide_eq_true rfl⟩;rw[h x.1] at A;exact(List.mem_filter.1 A).1
theorem Pw:∀{S ap:bL},ee S->ee ap->gz S ap->S=ap
 |[],[],_,_,_=>rfl
 |[],y::ap,_,_,h=>by have:=h.symm.mem (x:=y) (by simp);cases this
 |x::S,[],_,_,h=>by have:=h.mem (x:=x) (by simp);cases this
 |x::S,y::ap,hS,hT,h=>by
  have A:=List.pairwise_cons.1 hS;have F:=List.pairwise_cons.1 hT;have e:x.1=y.1:=by
   have q1:y.1<=x.1:=by
    rcases List.mem_cons.1 (h.mem (x:=x) (by simp)) with e|T
    ·rw[e];exact Int.le_refl _
    ·exact F.1 x T
   have q2:x.1<=y.1:=by
    rcases List.mem_cons.1 (h.symm.mem (x:=y) (by simp)) with e|hy
    ·rw[e];exact Int.le_refl _
    ·exact A.1 y hy
   omega
  have L:∀(k:Int)(z:Int×Int)(bP:bL),qM k (z::bP)=if z.1=k then z::qM k bP else qM k bP:=λ k z bP=>by
   unfold qM;rw[List.filter_cons]
   by_cases hz:z.1=k
   ·rw[if_pos (decide_eq_true hz),if_pos hz]
   ·rw[if_neg (by simpa using hz),if_neg hz]
  have T:=h x.1;rw[L,L,if_pos rfl,if_pos e.symm] at T;injection T with cj du
  subst cj;rw[Pw A.2 F.2 λ k=>by
   have J:=h k;rw[L,L] at J
   by_cases hz:x.1=k
   ·rw[if_pos hz,if_pos hz] at J;injection J
   ·rw[if_neg hz,if_neg hz] at J;exact J]
structure ju(S ap:bL):Prop where
 len:ap.length=S.length
 up:ee ap
 qF:gz S ap
theorem ee.app{am B:bL}(hA:ee am)(hB:ee B)(h:∀x∈am,∀y∈B,x.1<=y.1):ee (am++B):=List.pairwise_append.2 ⟨hA,hB,h⟩
theorem ee.left{am B:bL}(h:ee (am++B)):ee am:=(List.pairwise_append.1 h).1
theorem ee.right{am B:bL}(h:ee (am++B)):ee B:=(List.pairwise_append.1 h).2.1
theorem ee.le{am B:bL}(h:ee (am++B)):∀x∈am,∀y∈B,x.1<=y.1:=(List.pairwise_append.1 h).2.2
theorem ee.nil:ee []:=List.Pairwise.nil
theorem ee.one(x:Int×Int):ee [x]:=List.pairwise_singleton _ _
theorem ee.at{S:bL}(h:ee S){i j:Nat}{x y:Int×Int}(hi:S[i]?=some x)(hj:S[j]?=some y)(kq:i<=j):x.1<=y.1:=by
 rcases Nat.eq_or_lt_of_le kq with rfl|bm
 ·rw[hi] at hj;cases hj;exact Int.le_refl _
 ·obtain⟨q1,q2⟩:=List.getElem?_eq_some_iff.1 hi;obtain⟨q3,q4⟩:=List.getElem?_eq_some_iff.1 hj;rw[<-q2,<-q4];exact List.pairwise_iff_getElem.1 h i j q1 q3 bm
theorem U4{am B:bL}{x:Int×Int}(h:ee (am++B))(ha:∀y∈am,y.1<=x.1)(Z:∀y∈B,x.1<=y.1):ee (am++x::B):=
 h.left.app (List.pairwise_cons.2 ⟨Z,h.right⟩) λ y hy z hz=>by
  rcases List.mem_cons.1 hz with rfl|hz
  ·exact ha y hy
  ·exact h.le y hy z hz
theorem afd{P Q:bL}{x:Int×Int}(h:ee (P++Q))(hp:∀y∈P,y.1<x.1)(hq:∀y∈Q,x.1<=y.1):ju (x::(P++Q)) (P++x::Q):=
 ⟨by simp;omega,U4 h (λ y hy=>by have:=hp y hy;omega) hq,by
  have A:=gz.swap (am:=[x]) (B:=P) λ a ha y hy=>by
   have:a=x:=by simpa using ha
   subst this;have:=hp y hy;omega
  have:=A.app (.refl Q)
  simpa using this⟩
theorem Nf{P Q:bL}{x:Int×Int}(h:ee (P++Q))(hp:∀y∈P,y.1<=x.1)(hq:∀y∈Q,x.1<y.1):ju ((P++Q)++[x]) (P++x::Q):=
 ⟨by simp,U4 h hp (λ y hy=>by have:=hq y hy;omega),by
  have A:=gz.swap (am:=Q) (B:=[x]) λ y hy a ha=>by
   have:a=x:=by simpa using ha
   subst this;have:=hq y hy;omega
  have:=(gz.refl P).app A
  simpa using this⟩
theorem afc{A1 A2 B1 B2 aE aO:bL}(A:ee (A1++A2))(F:ee (B1++B2))(yS:∀x∈A1,∀y∈B2,x.1<=y.1)(Qf:∀y∈B1,∀x∈A2,y.1<x.1)(hL:ju (A1++B1) aE)(hR:ju (A2++B2) aO):ju (A1++A2++(B1++B2)) (aE++aO):=by
 refine⟨by have:=hL.len;have:=hR.len;simp only[List.length_append] at*;omega,hL.up.app hR.up λ x T y hy=>?_,?_⟩
 ·rcases List.mem_append.1 (hL.qF.symm.mem T) with T|T<;>rcases List.mem_append.1 (hR.qF.symm.mem hy) with hy|hy
  ·exact A.le x T y hy
  ·exact yS x T y hy
  ·have:=Qf x T y hy;omega
  ·exact F.le x T y hy
 ·have O:gz (A1++A2++(B1++B2)) (A1++B1++(A2++B2)):=by
   have h4:=gz.swap (am:=A2) (B:=B1) λ x T y hy=>by have:=Qf y hy x T;omega
   have:=((gz.refl A1).app h4).app (.refl B2)
   simpa using this
  exact O.trans (hL.qF.app hR.qF)
theorem Uo{B:bL}(h:ee B):ju ([]++B) B:=⟨rfl,h,.refl _⟩
theorem Up{am:bL}(h:ee am):ju (am++[]) am:=⟨by simp,h,by rw[List.append_nil];exact .refl _⟩
inductive pb(k:Nat):bL->Prop where
 |nil:pb k []
 |cons {am ay:bL} (hA:am.length=k) (hU:ee am) (hD:pb k ay):pb k (am++ay)
theorem pb.snoc{k:Nat}{ay am:bL}(h:pb k ay)(hA:am.length=k)(hU:ee am):pb k (ay++am):=by
 induction h with
 |nil=>have:=pb.cons hA hU .nil;simpa using this
 |cons hB hV hD ih=>rw[List.append_assoc];exact .cons hB hV ih
theorem pb.len{k:Nat}{ay:bL}(h:pb k ay):∃q,ay.length=q*k:=by
 induction h with
 |nil=>exact⟨0,by simp⟩
 |cons hB hV hD ih=>obtain⟨q,hq⟩:=ih;exact⟨q+1,by rw[List.length_append,hB,hq,Nat.add_mul];omega⟩
theorem pb.take{k:Nat}{ay:bL}(h:pb k ay)(J:k<=ay.length)(h0:0<k):∃am ox,ay=am++ox/\am.length=k/\ee am/\pb k ox:=by
 cases h with
 |nil=>simp at J;omega
 |cons hA hU hD=>exact⟨_,_,rfl,hA,hU,hD⟩
structure tL(k:Nat)(ay aO:bL):Prop where
 runs:pb k ay
 up:ee aO
 lt:aO.length<k
theorem tL.one{k:Nat}{ay aO:bL}(h:tL k ay aO)(J:(ay++aO).length<=k):ee (ay++aO):=by
 obtain⟨q,hq⟩:=h.runs.len;have U:=h.lt;rw[List.length_append] at J;rcases Nat.eq_zero_or_pos ay.length with h0|h0
 ·rw[List.length_eq_zero_iff.1 h0];exact h.up
 ·have bO:1<=q:=by
   rcases Nat.eq_zero_or_pos q with e|e
   ·subst e;omega
   ·exact e
  have:k<=q*k:=Nat.le_mul_of_pos_left k bO;obtain⟨am,ox,rfl,hA,hU,hD⟩:=h.runs.take (by omega) (by omega);rw[List.length_append] at J;have e1:ox=[]:=List.length_eq_zero_iff.1 (by omega);have e2:aO=[]:=List.length_eq_zero_iff.1 (by omega);subst e1;subst e2
  simpa using hU
theorem tL.two{k:Nat}{ay aO:bL}(h:tL k ay aO)(h0:0<k)(J:2*k<=(ay++aO).length):∃am B ox,ay=am++(B++ox)/\am.length=k/\B.length=k/\ee am/\ee B/\tL k ox aO:=by
 have U:=h.lt;rw[List.length_append] at J;obtain⟨am,D1,rfl,hA,hU,hD⟩:=h.runs.take (by omega) h0;rw[List.length_append] at J;have mL:k<=D1.length:=by
  obtain⟨q,hq⟩:=hD.len;rcases Nat.eq_zero_or_pos q with e|e
  ·subst e;simp at hq;simp[hq] at J;omega
  ·have:k<=q*k:=Nat.le_mul_of_pos_left k e;omega
 obtain⟨B,D2,rfl,hB,hV,I⟩:=hD.take mL h0;exact⟨am,B,D2,rfl,hA,hB,hU,hV,I,h.up,h.lt⟩
theorem tL.rest{k:Nat}{ay aO:bL}(h:tL k ay aO)(h0:0<k)(J:k<(ay++aO).length)(hk:(ay++aO).length<2*k):ay.length=k/\ee ay/\aO≠[]:=by
 have U:=h.lt;rw[List.length_append] at J hk;have D:k<=ay.length:=by
  obtain⟨q,hq⟩:=h.runs.len;rcases Nat.eq_zero_or_pos q with e|e
  ·subst e;simp at hq;simp[hq] at J;omega
  ·have:k<=q*k:=Nat.le_mul_of_pos_left k e;omega
 obtain⟨am,D1,rfl,hA,hU,hD⟩:=h.runs.take D h0;obtain⟨q,hq⟩:=hD.len;rw[List.length_append] at J hk;have xy:q=0:=by
  rcases Nat.eq_zero_or_pos q with e|e
  ·exact e
  ·have:k<=q*k:=Nat.le_mul_of_pos_left k e;omega
 subst xy;have e1:D1=[]:=List.length_eq_zero_iff.1 (by omega);subst e1;simp only[List.append_nil,List.length_nil,Nat.add_zero] at*;exact⟨hA,hU,λ e=>by subst e;simp at J;omega⟩
def EG(ap:bL)(x:Int×Int):bL:=ap.takeWhile (λ y=>decide (y.1<=x.1))++x::ap.dropWhile (λ y=>decide (y.1<=x.1))
def Ft(S:bL):bL:=S.foldl EG []
theorem aa5{ap:bL}(h:ee ap)(x:Int×Int):ju (ap++[x]) (EG ap x):=by
 unfold EG;have e:=List.takeWhile_append_dropWhile (p:=λ y:Int×Int=>decide (y.1<=x.1)) (l:=ap);have hp:∀y∈ap.takeWhile (λ y=>decide (y.1<=x.1)),y.1<=x.1:=λ y hy=>of_decide_eq_true (List.all_eq_true.1 (List.all_takeWhile (l:=ap) (p:=λ y:Int×Int=>decide (y.1<=x.1))) y hy)
 have hq:∀y∈ap.dropWhile (λ y=>decide (y.1<=x.1)),x.1<y.1:=by
  intro y hy;rcases D:ap.dropWhile (λ y=>decide (y.1<=x.1)) with _|⟨z,ay⟩
  ·rw[D] at hy;cases hy
  ·have hz:¬z.1<=x.1:=by
    have:=List.head?_dropWhile_not (λ y:Int×Int=>decide (y.1<=x.1)) ap;rw[D] at this
    simpa using this
   have hu:ee (z::ay):=by rw[<-D];rw[<-e] at h;exact h.right
   rw[D] at hy;rcases List.mem_cons.1 hy with rfl|hy
   ·omega
   ·have:=(List.pairwise_cons.1 hu).1 y hy;omega
 rw[<-e] at h;have:=Nf h hp hq;rw[e] at this;exact this
theorem PE:∀(S ap:bL),ee ap->ju (ap++S) (S.foldl EG ap)
 |[],ap,h=>by rw[List.append_nil];exact⟨rfl,h,.refl _⟩
 |x::S,ap,h=>by
  have A:=aa5 h x;have F:=PE S (EG ap x) A.up;refine⟨?_,F.up,?_⟩
  ·have:=A.len;have:=F.len;simp only[List.length_append,List.length_cons,List.foldl_cons] at*;simp at*;omega
  ·have O:=A.qF.app (gz.refl S);rw[List.append_assoc] at O;exact O.trans F.qF
theorem Un(S:bL):ju S (Ft S):=PE S [] .nil
theorem afe{S ap:bL}(h:ju S ap):ap=Ft S:=Pw h.up (Un S).up (h.qF.symm.trans (Un S).qF)
end Go.Proofs.YtcnefjfboagbmaaGreat
namespace Go.Proofs.YtcnefjfboagbmaaGreat.Em
set_option maxRecDepth 100000
def mS(v k c:Int):Int:=v%4294967296+4294967296*(k%4)+17179869184*(c%268435456)
def v6(w:Int):Int:=w%4294967296
def xH(w:Int):Int:=w/4294967296%4
def lG(w:Int):Int:=w/17179869184%268435456
def yc(l:ah)(bI n:Int):Pm Bool:=(cZ bI).bind λ bR=>(fA (aN l n 0) (ae bR).idx).bind λ _=>fN bI bR (bK (ca (ae bR) n))
def Ag(c aZ no:Int):Pm Bool:=(cZ c).bind λ x=>if x=aZ then(cZ c).bind λ y=>if y=aZ then(fN c aZ no).bind λ ok=>.pure (!ok) else .pure true else .pure true
def wd(l:ah)(bI c v n:Int):Nat->Pm aY
 |0=>.pure ⟨0,false,0,0,[]⟩
 |k+1=>(yc l bI n).bind λ ok=>if ok then mq.bind λ a=>.pure ⟨0,true,0,a,[]⟩
  else(cZ c).bind λ w=>if xH w=0 then(fN c w (mS v 1 (lG w+1))).bind λ ok=>if ok then mq.bind λ a=>(Ag c (mS v 1 (lG w+1)) (mS 0 0 (lG w+1))).bind λ abN=>if abN then(fA c (mS 0 0 (lG w+1))).bind λ _=>(oI l n).bind λ _=>.pure ⟨0,true,0,-a-2,[]⟩ else wd l bI c v n k
   else wd l bI c v n k
  else wd l bI c v n k
def we(l:ah)(bI c v:Int):Pm aY:=(sr l).bind λ t=>if t.2.2 then(fA (aN l t.1 1) v).bind λ _=>λ log s=>wd l bI c v t.1 (log.length+1-s.made) log s else .pure ⟨0,false,8,t.2.1,[]⟩
def ya(l:ah)(G bI:Int):Pm (Int×Int×Int):=(mg l G 0 bI).bind λ p=>if(ae p.1).idx=0 then .pure (0,p.2,0)
 else(cZ (aN l (ae p.1).idx 0)).bind λ below=>(fN bI p.1 (bK (ca (ae p.1) below))).bind λ ok=>if ok then mq.bind λ a=>.pure ((ae p.1).idx,a,2) else mq.bind λ a=>.pure (0,a,1)
def xK(l:ah)(G bI c:Int):Nat->Pm aY
 |0=>.pure ⟨0,false,0,0,[]⟩
 |k+1=>(ya l G bI).bind λ t=>if t.2.2=0 then(gB l G).bind λ _=>.pure ⟨0,false,0,t.2.1,[]⟩
  else if t.2.2=2 then(cZ (aN l t.1 1)).bind λ v=>(gB l G).bind λ _=>(lr l t.1).bind λ _=>.pure ⟨v,true,0,t.2.1,[]⟩
  else(cZ c).bind λ w=>if xH w=1 then(fN c w (mS (v6 w) 2 (lG w))).bind λ ok=>if ok then mq.bind λ a=>(gB l G).bind λ _=>.pure ⟨v6 w,true,0,a,[]⟩ else xK l G bI c k
   else xK l G bI c k
def At(l:ah)(G bI c:Int):Pm aY:=λ log s=>xK l G bI c (log.length+1-s.made) log s
def rm(l:ah)(G s:Int):Int:=if l.bU<1 then-1 else Fr l s ((G%l.bU+l.bU)%l.bU)
def dJ(l:ah)(G:Int)(gone:List (Int×Int))(op:bl)(log:List aF):aX×aY×Bool:=
 if mc l op.obj<0 then(eZ,⟨0,false,1,-1,gone⟩,true)
 else if op.kind=4/\0<=op.a/\op.a<4294967296 then pY (we l (mc l op.obj) (rm l G op.obj) op.a log ⟨0,gone,0,0,0⟩)
 else if op.kind=5 then pY (At l G (mc l op.obj) (rm l G op.obj) log ⟨0,gone,0,0,0⟩)
 else(eZ,⟨0,false,1,-1,gone⟩,true)
def fF(l:ah)(m:List Int)(s:Int):List Int:=if mc l s<0 then[] else k8 (λ n=>bE m (aN l n 0)) l.nodes (l.nodes.toNat+1) [] (ae (bE m (mc l s))).idx
def nJ(l:ah)(m:List Int)(s:Int):List Int:=(fF l m s).map λ n=>bE m (aN l n 1)
end Go.Proofs.YtcnefjfboagbmaaGreat.Em
namespace Go.Proofs.YtcnefjfboagbmaaGreat.Sg
set_option maxRecDepth 100000
def uG(l:ah)(n v:Int):List Int->Pm (Option Int)
 |[]=>.pure none
 |i::is=>(cZ (aN l n i)).bind λ x=>if x=0 then(fN (aN l n i) 0 (v+2)).bind λ ok=>if ok then mq.bind λ a=>.pure (some a) else uG l n v is else uG l n v is
def pX(l:ah)(n:Int):List Int->Pm Unit
 |[]=>.pure ()
 |i::is=>(fA (aN l n i) 0).bind λ _=>pX l n is
def tY(l:ah)(n v:Int):Pm Unit:=(fA (aN l n 0) 0).bind λ _=>(fA (aN l n 1) (v+2)).bind λ _=>pX l n [2,3,4,5]
def Aq:List Int:=[1,2,3,4,5]
def uW(l:ah)(G R bR aZ:Int):Pm (Option aY×Int):=
 (fN (aN l (ae bR).idx 0) 0 aZ).bind λ ok=>if ok then mq.bind λ a=>(fN R bR (bK (ca (ae bR) aZ))).bind λ _=>(gB l G).bind λ _=>.pure (some ⟨0,true,0,a,[]⟩,aZ) else .pure (none,aZ)
def wK(l:ah)(G R v aZ:Int):Pm (Option aY×Int):=(mg l G 0 R).bind λ p=>(uG l (ae p.1).idx v Aq).bind λ o=>match o with
 |some a=>if aZ=0 then(gB l G).bind λ _=>.pure (some ⟨0,true,0,a,[]⟩,aZ) else(oI l aZ).bind λ _=>(gB l G).bind λ _=>.pure (some ⟨0,true,0,a,[]⟩,aZ)
 |none=>(cZ (aN l (ae p.1).idx 0)).bind λ next=>if next=0 then(if aZ=0 then(sr l).bind λ t=>if t.2.2 then(tY l t.1 v).bind λ _=>uW l G R p.1 t.1 else(gB l G).bind λ _=>.pure (some ⟨0,false,8,t.2.1,[]⟩,aZ) else uW l G R p.1 aZ)
  else(fN R p.1 (bK (ca (ae p.1) next))).bind λ _=>.pure (none,aZ)
def AD(l:ah)(G R v:Int):Nat->Int->Pm aY
 |0,_=>.pure ⟨0,false,0,0,[]⟩
 |k+1,aZ=>(wK l G R v aZ).bind λ r=>match r.1 with
  |some o=>.pure o
  |none=>AD l G R v k r.2
def CD(l:ah)(G R v:Int):Pm aY:=λ log s=>AD l G R v (log.length+1-s.made) 0 log s
def tu(l:ah)(n:Int):List Int->Pm (Option aY)
 |[]=>.pure none
 |i::is=>(cZ (aN l n i)).bind λ x=>mq.bind λ a=>if x=0 then .pure (some ⟨0,false,0,a,[]⟩) else if x=1 then tu l n is else(fN (aN l n i) x 1).bind λ ok=>if ok then mq.bind λ a=>.pure (some ⟨m4 (x-2),true,0,a,[]⟩) else tu l n is
def uV(l:ah)(G D bR next:Int):Pm (Option aY):=
 (fN D bR (bK (ca (ae bR) next))).bind λ ok=>if ok then(gB l G).bind λ _=>(lr l (ae bR).idx).bind λ _=>.pure none else .pure none
def wJ(l:ah)(G D R:Int):Pm (Option aY):=(mg l G 0 D).bind λ p=>(tu l (ae p.1).idx Aq).bind λ o=>match o with
 |some o=>(gB l G).bind λ _=>.pure (some o)
 |none=>(cZ (aN l (ae p.1).idx 0)).bind λ next=>if next=0 then mq.bind λ a=>(gB l G).bind λ _=>.pure (some ⟨0,false,0,a,[]⟩)
  else(cZ R).bind λ en=>if(ae en).idx=(ae p.1).idx then(fN R en (bK (ca (ae en) next))).bind λ _=>uV l G D p.1 next else uV l G D p.1 next
def Ax(l:ah)(G D R:Int):Nat->Pm aY
 |0=>.pure ⟨0,false,0,0,[]⟩
 |k+1=>(wJ l G D R).bind λ r=>match r with
  |some o=>.pure o
  |none=>Ax l G D R k
def Cv(l:ah)(G D R:Int):Pm aY:=λ log s=>Ax l G D R (log.length+1-s.made) log s
def dJ(l:ah)(G:Int)(gone:List (Int×Int))(op:bl)(log:List aF):aX×aY×Bool:=
 if gm l op.obj<0 then(eZ,⟨0,false,1,-1,gone⟩,true)
 else if op.kind=6 then pY (CD l G (mY l op.obj) op.a log ⟨0,gone,0,0,0⟩)
 else if op.kind=7 then pY (Cv l G (gm l op.obj) (mY l op.obj) log ⟨0,gone,0,0,0⟩)
 else(eZ,⟨0,false,1,-1,gone⟩,true)
def lF(l:ah)(a:Nat)(k:Nat):List aX:=(List.range k).map λ(i:Nat)=>⟨2,aN l ((a:Int)+i) 7,0,if(a:Int)+i=l.nodes then 0 else(a:Int)+i+1⟩
def BT(l:ah)(a:Nat):List aX:=lF l a (l.nodes.toNat+1-a)++[⟨2,l.free,0,a⟩]
def mV(l:ah)(c node:Int):List aX:=if gm l c<0\/aN l node 0<0 then[] else
 ((List.range 6).map λ(i:Nat)=>(⟨2,aN l node i,0,0⟩:aX))++[⟨2,gm l c,0,bK ⟨node,false,0⟩⟩,⟨2,mY l c,0,bK ⟨node,false,0⟩⟩]
def fF(l:ah)(m:List Int)(c:Int):List Int:=if gm l c<0 then[] else k8 (λ n=>bE m (aN l n 0)) l.nodes (l.nodes.toNat+1) [] (ae (bE m (gm l c))).idx
def lp(l:ah)(m:List Int)(n:Int):List Int:=Aq.map λ i=>bE m (aN l n i)
def nJ(l:ah)(m:List Int)(c:Int):List Int:=(((fF l m c).flatMap (lp l m)).filter λ v=>decide (1<v)).map λ v=>v-2
end Go.Proofs.YtcnefjfboagbmaaGreat.Sg
namespace Go.Proofs.YtcnefjfboagbmaaGreat
set_option maxRecDepth 100000
structure o5 where
 ar:Int
 nodes:Int
 buckets:Int
 bU:Int
 tasks:Int
 cells:Int
 maps:Int
 dl:Int
 bo:Int
deriving DecidableEq
def nC(n lo hi:Int):Bool:=decide (lo<=n)&&decide (n<=hi)
def vU(b:Int):Bool:=decide (b=1)||decide (b=2)||decide (b=4)||decide (b=8)||decide (b=16)||decide (b=32)||decide (b=64)
def Ae(c:o5):Bool:=vU c.buckets&&nC c.ar 1 8&&nC c.bU 1 8&&nC c.tasks 1 64&&nC c.cells 0 16&&nC c.maps 0 8&&nC c.dl 0 8&&nC c.bo 0 8
def om(t:Int):Nat:=if t<=4 then 1 else if t<=8 then 2 else if t<=16 then 3 else if t<=32 then 4 else 5
def uM(n:Nat):Int:=4*2^n-4
def gZ(c:o5):ah:=
 let owner:=4+c.ar
 let mB:=owner+c.ar
 let sJ:=mB+3*c.ar
 let ring:=sJ+3*c.ar
 let task:=ring+c.ar*uM (om c.tasks)
 let cell:=task+4*c.tasks
 let map:=cell+c.cells
 let stack:=map+c.maps*(c.buckets+2)
 let chan:=stack+c.dl*(c.bU+1)
 let node:=chan+2*c.bo
 ⟨c.ar,c.nodes,c.buckets,c.bU,c.tasks,c.cells,c.maps,c.dl,c.bo,0,1,2,3,4,owner,mB,sJ,ring,task,cell,map,stack,chan,node,node+8*c.nodes⟩
def yu(c:o5):Bool:=Ae c&&nC c.nodes (c.maps+c.bo) 1000
structure AM(c:o5):Prop where
 b:vU c.buckets=true
 s:1<=c.ar/\c.ar<=8
 sl:1<=c.bU/\c.bU<=8
 t:1<=c.tasks/\c.tasks<=64
 ce:0<=c.cells/\c.cells<=16
 m:0<=c.maps/\c.maps<=8
 st:0<=c.dl/\c.dl<=8
 ch:0<=c.bo/\c.bo<=8
 n:c.maps+c.bo<=c.nodes/\c.nodes<=1000
theorem RE{n lo hi:Int}:nC n lo hi=true↔lo<=n/\n<=hi:=by simp[nC]
theorem Jq{c:o5}(h:yu c=true):AM c:=by simp only[yu,Ae,Bool.and_eq_true,RE] at h;obtain⟨⟨⟨⟨⟨⟨⟨⟨A,F⟩,O⟩,h4⟩,h5⟩,h6⟩,h7⟩,h8⟩,h9⟩:=h;exact⟨A,F,O,h4,h5,h6,h7,h8,h9⟩
theorem EH{b:Int}(h:vU b=true):1<=b/\b<=64:=by simp only[vU,Bool.or_eq_true,decide_eq_true_eq] at h;omega
theorem aev(t:Int):1<=om t/\om t<=5:=by
 unfold om
 repeat' (first|split|exact⟨by omega,by omega⟩)
theorem TW(t:Int):4<=uM (om t)/\uM (om t)<=124:=by
 unfold om
 repeat' (first|split|exact⟨by decide,by decide⟩)
theorem abf{c:o5}(h:AM c):4<=(gZ c).map/\(gZ c).map<=1400/\(gZ c).map<=(gZ c).stack/\(gZ c).stack<=2000/\(gZ c).stack<=(gZ c).chan/\(gZ c).chan<=2100/\(gZ c).node=(gZ c).chan+2*c.bo/\(gZ c).size=(gZ c).node+8*c.nodes/\(gZ c).mB=4+2*c.ar/\(gZ c).stack=(gZ c).map+c.maps*(c.buckets+2)/\(gZ c).chan=(gZ c).stack+c.dl*(c.bU+1)/\4+8*c.ar<=(gZ c).map:=by obtain⟨Z,⟨a1,a2⟩,⟨a3,a4⟩,⟨a5,a6⟩,⟨a7,a8⟩,⟨a9,Oe⟩,⟨Of,Og⟩,⟨Oh,Oi⟩,⟨Oj,Ok⟩⟩:=h;have h0:=EH Z;have A:=TW c.tasks;have F:c.ar*uM (om c.tasks)<=8*124:=Int.mul_le_mul (by omega) (by omega) (by omega) (by omega);have O:0<=c.ar*uM (om c.tasks):=Int.mul_nonneg (by omega) (by omega);have h4:c.maps*(c.buckets+2)<=8*66:=Int.mul_le_mul (by omega) (by omega) (by omega) (by omega);have h5:0<=c.maps*(c.buckets+2):=Int.mul_nonneg (by omega) (by omega);have h6:c.dl*(c.bU+1)<=8*9:=Int.mul_le_mul (by omega) (by omega) (by omega) (by omega);have h7:0<=c.dl*(c.bU+1):=Int.mul_nonneg (by omega) (by omega);refine⟨?_,?_,?_,?_,?_,?_,?_,?_,?_,?_,?_,?_⟩<;>simp only[gZ]<;>omega
theorem R3{c:o5}(h:AM c):cr (gZ c):=by have A:=abf h;obtain⟨Z,⟨a1,a2⟩,⟨a3,a4⟩,⟨a5,a6⟩,⟨a7,a8⟩,⟨a9,Oe⟩,⟨Of,Og⟩,⟨Oh,Oi⟩,⟨Oj,Ok⟩⟩:=h;have e1:(gZ c).ar=c.ar:=rfl;have e2:(gZ c).nodes=c.nodes:=rfl;have e3:(gZ c).bU=c.bU:=rfl;have e4:(gZ c).dl=c.dl:=rfl;have e5:(gZ c).bo=c.bo:=rfl;have e6:(gZ c).era=2:=rfl;have agw:(gZ c).free=3:=rfl;refine⟨?_,?_,?_,?_,?_,?_,?_,?_,?_,?_,?_,?_,?_⟩<;>(try simp only[mb])<;>omega
def pG(l:ah)(G:Int)(gone:List (Int×Int))(op:bl)(log:List aF):aX×aY×Bool:=
 if 1<=op.kind/\op.kind<=3 then s8 l G gone op log
 else if op.kind=4\/op.kind=5 then Em.dJ l G gone op log
 else if op.kind=7\/(op.kind=6/\0<=op.a/\op.a<4294967296) then Sg.dJ l G gone op log
 else(eZ,⟨0,false,1,-1,gone⟩,true)
def pR(l:ah)(a:Nat):List aX:=if l.nodes<a then[⟨2,l.free,0,0⟩] else BT l a
def ol(l:ah):List aX:=(List.range l.maps.toNat).flatMap (λ(m:Nat)=>gM l m ((m:Int)+1))++(List.range l.bo.toNat).flatMap (λ(c:Nat)=>Sg.mV l c (l.maps+c+1))++pR l (l.maps+l.bo+1).toNat++[⟨2,l.era,0,1⟩]
def uA(l:ah):List Int:=(qy (List.replicate l.size.toNat 0) (List.replicate l.size.toNat 0) [] (ol l)).1
def Ah(l:ah)(m:List Int)(o:Int):List Int:=if(ae (bE m (iS l o 0))).idx=0 then[] else(ae (bE m (iS l o 0))).idx::fF l m (aN l (ae (bE m (iS l o 0))).idx 0)
def Ci(l:ah)(m:List Int):List Int:=(List.range l.maps.toNat).flatMap (λ(o:Nat)=>Ah l m o)++(List.range l.dl.toNat).flatMap (λ(o:Nat)=>Em.fF l m o)++(List.range l.bo.toNat).flatMap (λ(o:Nat)=>Sg.fF l m o)
abbrev AN:=Int×List Int×List Int
def qn(aO:List (Int×Int)):List (Int×Int):=(aO.filter λ r=>decide (r.1%2=1)).map λ r=>(Ly r.1,r.2)
def Ac(l:ah)(m:List Int)(o:Int):bL:=if iS l o 0<0\/(m.length:Int)<=iS l o 0 then[] else Ft (qn (nJ l m (aN l (ae (bE m (iS l o 0))).idx 0)))
def uB(l:ah)(m:List Int)(kind o:Int):AN:=
 if kind=1 then(1,(Ac l m o).map (·.1),(Ac l m o).map (·.2))
 else if kind=2 then(2,[],Em.nJ l m o)
 else if kind=3 then(3,[],Sg.nJ l m o)
 else(kind,[],[])
def qj(l:ah)(ar:Nat):cP:=⟨uA l,0,List.replicate ar mn,[],0,false,false⟩
def lH(l:ah)(t:cP)(al:Nat)(x:bZ):cP:=
 let r:=pG l al x.gone x.op x.log
 if r.2.2 then p4 t al x r.2.1
 else if nc t.m.length r.1=0 then⟨(ii t.m r.1).1,t.step+1,t.ar.set al {x with log:=x.log++[(ii t.m r.1).2],steps:=x.steps++[t.step]},t.calls,t.full,t.cO||vr l t.m r.1,t.bad⟩
 else{t with ar:=t.ar.set al {x with op:=lE},cO:=t.cO||vr l t.m r.1,bad:=true}
def lI(l:ah)(want:List (List bl))(t:cP)(al:Nat):cP:=
 match t.ar[al]?,want[al]? with
 |some x,some ws=>if x.op.kind=0 then match ws[x.next]? with
  |none=>t
  |some op=>lH l t al ⟨op,[],[],x.next+1,x.gone⟩
  else lH l t al x
 |_,_=>t
def qm(l:ah)(want:List (List bl)):cP->List Nat->cP
 |t,[]=>t
 |t,w::ws=>qm l want (lI l want t w) ws
def jY(l:ah)(want:List (List bl))(al:Nat):Nat->cP->cP
 |0,t=>t
 |k+1,t=>if t.bad then t else jY l want al k (lI l want t al)
def ql(l:ah)(want:List (List bl)):Nat->Nat->cP->cP
 |_,0,t=>t
 |al,k+1,t=>let iJ:=jY l want al 1500 t;ql l want (al+1) k {iJ with bad:=iJ.bad||!p3 iJ want al}
def uE(l:ah)(want:List (List bl))(turns:List Int):cP:=ql l want 0 want.length (qm l want (qj l want.length) (turns.map λ x=>(x%(want.length:Int)).toNat))
namespace Em
theorem Zg(l:ah)(bI n:Int):Hg (yc l bI n) (λ _=>True):=bC (kO _) λ _ _=>bC (qQ _ _) λ _ _=>nk _ _ _
theorem Za(c aZ no:Int):Hg (Ag c aZ no) (λ _=>True):=bC (kO _) λ _ _=>fh (λ _=>bC (kO _) λ _ _=>fh (λ _=>bC (nk _ _ _) λ _ _=>d5 trivial) λ _=>d5 trivial) λ _=>d5 trivial
theorem G3(l:ah)(bI c v n:Int):∀k,Hg (wd l bI c v n k) (λ _=>True)
 |0=>d5 trivial
 |k+1=>bC (Zg _ _ _) λ _ _=>fh (λ _=>bC n5 λ _ _=>d5 trivial) λ _=>bC (kO _) λ _ _=>fh (λ _=>bC (nk _ _ _) λ _ _=>fh (λ _=>bC n5 λ _ _=>bC (Za _ _ _) λ _ _=>fh (λ _=>bC (qQ _ _) λ _ _=>bC (GZ _ _) λ _ _=>d5 trivial) λ _=>G3 l bI c v n k) λ _=>G3 l bI c v n k) λ _=>G3 l bI c v n k
theorem Zc(l:ah)(bI c v:Int):Hg (we l bI c v) (λ _=>True):=bC (KE l) λ _ _=>fh (λ _=>bC (qQ _ _) λ _ _=>λ log s=>G3 l bI c v _ _ log s) λ _=>d5 trivial
theorem Zf(l:ah)(G bI:Int):Hg (ya l G bI) (λ t=>t.1<9223372036854775808):=bC (D5 _ _ _ _) λ _ _=>fh (λ _=>d5 (by show(0:Int)<_;omega)) λ _=>bC (kO _) λ _ _=>bC (nk _ _ _) λ _ _=>fh (λ _=>bC n5 λ _ _=>d5 (E0 _)) λ _=>bC n5 λ _ _=>d5 (by show(0:Int)<_;omega)
theorem KB(l:ah)(G bI c:Int):∀k,Hg (xK l G bI c k) (λ _=>True)
 |0=>d5 trivial
 |k+1=>bC (Zf _ _ _) λ _ ht=>fh (λ _=>bC (rO _ _) λ _ _=>d5 trivial) λ _=>fh (λ _=>bC (kO _) λ _ _=>bC (rO _ _) λ _ _=>bC (G4 l _ ht) λ _ _=>d5 trivial) λ _=>bC (kO _) λ _ _=>fh (λ _=>bC (nk _ _ _) λ _ _=>fh (λ _=>bC n5 λ _ _=>bC (rO _ _) λ _ _=>d5 trivial) λ _=>KB l G bI c k) λ _=>KB l G bI c k
theorem Zb(l:ah)(G bI c:Int):Hg (At l G bI c) (λ _=>True):=λ log s=>KB l G bI c _ log s
theorem EV{l:ah}{G:Int}{gone:List (Int×Int)}{op:bl}{log:List aF}(D:(dJ l G gone op log).2.2=true)(hg:lw gone):lw (dJ l G gone op log).2.1.gone/\(dJ l G gone op log).2.1.gone.length<=gone.length+log.length:=by
 unfold dJ at D⊢;split at D
 ·rw[if_pos ‹_›];exact⟨hg,Nat.le_add_right _ _⟩
 ·rw[if_neg ‹_›];split at D
  ·rw[if_pos ‹_›];exact yG (Zc _ _ _ _) D hg
  ·rw[if_neg ‹_›];split at D
   ·rw[if_pos ‹_›];exact yG (Zb _ _ _ _) D hg
   ·rw[if_neg ‹_›];exact⟨hg,Nat.le_add_right _ _⟩
end Em
namespace Sg
theorem KA(l:ah)(n v:Int):∀is,Hg (uG l n v is) (λ _=>True)
 |[]=>d5 trivial
 |_::is=>bC (kO _) λ _ _=>fh (λ _=>bC (nk _ _ _) λ _ _=>fh (λ _=>bC n5 λ _ _=>d5 trivial) λ _=>KA l n v is) λ _=>KA l n v is
theorem Qx(l:ah)(n:Int):∀is,Hg (pX l n is) (λ _=>True)
 |[]=>d5 trivial
 |_::is=>bC (qQ _ _) λ _ _=>Qx l n is
theorem Y9(l:ah)(n v:Int):Hg (tY l n v) (λ _=>True):=bC (qQ _ _) λ _ _=>bC (qQ _ _) λ _ _=>Qx l n _
theorem Qt(l:ah)(G R bR aZ:Int):Hg (uW l G R bR aZ) (λ _=>True):=bC (nk _ _ _) λ _ _=>fh (λ _=>bC n5 λ _ _=>bC (nk _ _ _) λ _ _=>bC (rO _ _) λ _ _=>d5 trivial) λ _=>d5 trivial
theorem Y8(l:ah)(G R v aZ:Int):Hg (wK l G R v aZ) (λ _=>True):=bC (D5 _ _ _ _) λ _ _=>bC (KA _ _ _ _) λ o _=>by
 cases o with
 |some a=>exact fh (λ _=>bC (rO _ _) λ _ _=>d5 trivial) λ _=>bC (GZ _ _) λ _ _=>bC (rO _ _) λ _ _=>d5 trivial
 |none=>exact bC (kO _) λ _ _=>fh (λ _=>fh (λ _=>bC (KE l) λ _ _=>fh (λ _=>bC (Y9 _ _ _) λ _ _=>Qt _ _ _ _ _) λ _=>bC (rO _ _) λ _ _=>d5 trivial) λ _=>Qt _ _ _ _ _) λ _=>bC (nk _ _ _) λ _ _=>d5 trivial
theorem QF(l:ah)(G R v:Int):∀(k:Nat)(aZ:Int),Hg (AD l G R v k aZ) (λ _=>True)
 |0,_=>d5 trivial
 |k+1,aZ=>bC (Y8 _ _ _ _ _) λ r _=>by
  obtain⟨o,m⟩:=r;cases o with
  |some o=>exact d5 trivial
  |none=>exact QF l G R v k m
theorem Ze(l:ah)(G R v:Int):Hg (CD l G R v) (λ _=>True):=λ log s=>QF l G R v _ 0 log s
theorem Kz(l:ah)(n:Int):∀is,Hg (tu l n is) (λ _=>True)
 |[]=>d5 trivial
 |_::is=>bC (kO _) λ _ _=>bC n5 λ _ _=>fh (λ _=>d5 trivial) λ _=>fh (λ _=>Kz l n is) λ _=>bC (nk _ _ _) λ _ _=>fh (λ _=>bC n5 λ _ _=>d5 trivial) λ _=>Kz l n is
theorem Qs(l:ah)(G D bR next:Int):Hg (uV l G D bR next) (λ _=>True):=bC (nk _ _ _) λ _ _=>fh (λ _=>bC (rO _ _) λ _ _=>bC (G4 l _ (E0 _)) λ _ _=>d5 trivial) λ _=>d5 trivial
theorem Y7(l:ah)(G D R:Int):Hg (wJ l G D R) (λ _=>True):=bC (D5 _ _ _ _) λ _ _=>bC (Kz _ _ _) λ o _=>by
 cases o with
 |some o=>exact bC (rO _ _) λ _ _=>d5 trivial
 |none=>exact bC (kO _) λ _ _=>fh (λ _=>bC n5 λ _ _=>bC (rO _ _) λ _ _=>d5 trivial) λ _=>bC (kO _) λ _ _=>fh (λ _=>bC (nk _ _ _) λ _ _=>Qs _ _ _ _ _) λ _=>Qs _ _ _ _ _
theorem QE(l:ah)(G D R:Int):∀k,Hg (Ax l G D R k) (λ _=>True)
 |0=>d5 trivial
 |k+1=>bC (Y7 _ _ _ _) λ r _=>by
  cases r with
  |some o=>exact d5 trivial
  |none=>exact QE l G D R k
theorem Zd(l:ah)(G D R:Int):Hg (Cv l G D R) (λ _=>True):=λ log s=>QE l G D R _ log s
theorem EV{l:ah}{G:Int}{gone:List (Int×Int)}{op:bl}{log:List aF}(D:(dJ l G gone op log).2.2=true)(hg:lw gone):lw (dJ l G gone op log).2.1.gone/\(dJ l G gone op log).2.1.gone.length<=gone.length+log.length:=by
 unfold dJ at D⊢;split at D
 ·rw[if_pos ‹_›];exact⟨hg,Nat.le_add_right _ _⟩
 ·rw[if_neg ‹_›];split at D
  ·rw[if_pos ‹_›];exact yG (Ze _ _ _ _) D hg
  ·rw[if_neg ‹_›];split at D
   ·rw[if_pos ‹_›];exact yG (Zd _ _ _ _) D hg
   ·rw[if_neg ‹_›];exact⟨hg,Nat.le_add_right _ _⟩
end Sg
theorem acD{l:ah}(hS:0<=l.ar){G:Int}{gone:List (Int×Int)}{op:bl}{log:List aF}(D:(pG l G gone op log).2.2=true)(hg:lw gone):lw (pG l G gone op log).2.1.gone/\(pG l G gone op log).2.1.gone.length<=gone.length+log.length:=by
 unfold pG at D⊢;split at D
 ·rw[if_pos ‹_›];exact Z2 hS D hg
 ·rw[if_neg ‹_›];split at D
  ·rw[if_pos ‹_›];exact Em.EV D hg
  ·rw[if_neg ‹_›];split at D
   ·rw[if_pos ‹_›];exact Sg.EV D hg
   ·rw[if_neg ‹_›];exact⟨hg,Nat.le_add_right _ _⟩
end Go.Proofs.YtcnefjfboagbmaaGreat
