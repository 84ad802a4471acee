/- Plain words, layouts, memories and programs of accesses: what they are. -/
namespace Go.Proofs.YtkkldicehapklaaGreat
set_option maxRecDepth 100000
structure zj where
 idx:Int
 mark:Bool
 jS:Int
deriving DecidableEq
def av(n:Int):zj:=⟨n%65536,decide (n/65536%2=1),n/131072%268435456⟩
def ii(r:zj)(i:Int):zj:=⟨i%65536,false,(r.jS+1)%268435456⟩
def eh(r:zj):Int:=r.idx%65536+65536*(if r.mark then 1 else 0)+131072*(r.jS%268435456)
theorem jb(n:Int):0<=(av n).idx/\(av n).idx<65536:=⟨Int.emod_nonneg _ (by omega),Int.emod_lt_of_pos _ (by omega)⟩
theorem WA(n:Int):0<=(av n).jS/\(av n).jS<268435456:=⟨Int.emod_nonneg _ (by omega),Int.emod_lt_of_pos _ (by omega)⟩
structure aI where
 ar:Int
 nodes:Int
 buckets:Int
 dj:Int
 tasks:Int
 cells:Int
 maps:Int
 xA:Int
 uZ:Int
 done:Int
 count:Int
 era:Int
 free:Int
 alive:Int
 owner:Int
 pZ:Int
 Ag:Int
 ring:Int
 task:Int
 cell:Int
 map:Int
 stack:Int
 chan:Int
 node:Int
 size:Int
deriving DecidableEq
def mZ(n:Int):Prop:=0<=n/\n<=1000000
structure eT(l:aI):Prop where
 ar:mZ l.ar
 nodes:mZ l.nodes
 dj:0<=l.dj/\l.dj<=8
 xA:mZ l.xA
 uZ:mZ l.uZ
 era:mZ l.era
 free:mZ l.free
 pZ:mZ l.pZ
 map:mZ l.map
 stack:mZ l.stack
 chan:mZ l.chan
 node:mZ l.node
 size:mZ l.size
def jL(first many each row i:Int):Int:=if row<0\/many<=row\/i<0\/each<=i then-1 else first+row*each+i
def bf(l:aI)(n i:Int):Int:=if n<1 then-1 else jL l.node l.nodes 8 (n-1) i
def fU(l:aI)(s i:Int):Int:=jL l.pZ l.ar 3 s i
def CQ(l:aI)(c:Int):Int:=jL l.chan l.uZ 2 c 0
def agm(s n ma st ch:Int):aI:=⟨s,n,1,1,1,0,ma,st,ch,0,1,2,3,4,4+s,4+2*s,4+5*s,4+8*s,4+12*s,8+12*s,8+12*s,8+12*s+3*ma,8+12*s+3*ma+2*st,8+12*s+3*ma+2*st+2*ch,8+12*s+3*ma+2*st+2*ch+8*n⟩
structure ak0(s n ma st ch:Int):Prop where
 T:1<=s/\s<=8
 amb:0<=ma/\ma<=8
 bY:0<=st/\st<=8
 Nx:0<=ch/\ch<=8
 hn:ma+ch<=n/\n<=1000
structure bz where
 kind:Int
 cell:Int
 dL:Int
 new:Int
deriving DecidableEq
structure aJ where
 val:Int
 ok:Bool
deriving DecidableEq
def iB:bz:=⟨0,0,0,0⟩
def te(n:Int):Int:=if n%18446744073709551616<9223372036854775808 then n%18446744073709551616 else n%18446744073709551616-18446744073709551616
theorem akC{n:Int}(h1:-9223372036854775808<=n)(u:n<=9223372036854775807):te n=n:=by unfold te;split<;>omega
def xy(a:bz):Bool:=decide (0<=a.cell)&&(if a.kind=1 then decide (a.new=0)&&decide (a.dL=0) else if a.kind=2\/a.kind=4\/a.kind=5 then decide (a.dL=0) else decide (a.kind=3))
def nl(n:Int)(a:bz):Int:=if xy a then(if n<=a.cell then 12 else 0) else 1
def eY(xs:List Int)(i:Int):Int:=xs.getD i.toNat 0
def iw(xs:List Int)(a:bz):List Int×aJ:=
 if a.kind=3 then(if eY xs a.cell=a.dL then(xs.set a.cell.toNat a.new,⟨eY xs a.cell,true⟩) else(xs,⟨eY xs a.cell,false⟩))
 else if a.kind=2\/a.kind=5 then(xs.set a.cell.toNat a.new,⟨eY xs a.cell,true⟩)
 else if a.kind=4 then(xs.set a.cell.toNat (te (eY xs a.cell+a.new)),⟨eY xs a.cell,true⟩)
 else(xs,⟨eY xs a.cell,true⟩)
def Dp(xs:List Int)(a:bz):List Int×aJ×Int:=if nl xs.length a=0 then((iw xs a).1,(iw xs a).2,0) else(xs,⟨0,false⟩,nl xs.length a)
def db(xs:List Int)(i:Int):Int:=if i<0\/(xs.length:Int)<=i then 0 else eY xs i
def qn(D4:List Int):List Int->List aJ->List bz->List Int×List aJ×Int
 |cur,m5,[]=>(cur,m5,0)
 |cur,m5,a::more=>if nl cur.length a=0 then qn D4 (iw cur a).1 (m5++[(iw cur a).2]) more else(D4,[],nl cur.length a)
theorem Dw:∀(N:Nat)(l:List Int),l.Nodup->(∀x∈l,1<=x/\x<=(N:Int))->l.length<=N
 |0,l,_,h=>by
  cases l with
  |nil=>simp
  |cons x l=>have:=h x (by simp);omega
 |N+1,l,K,h=>by
  by_cases hm:((N+1:Nat):Int)∈l
  ·have h1:=Dw N (l.erase ((N+1:Nat):Int)) (K.erase _) (λ x hx=>by
    rw[K.mem_erase_iff] at hx;have:=h x hx.2;have:=hx.1;omega)
   rw[List.length_erase_of_mem hm] at h1;omega
  ·have h1:=Dw N l K (λ x hx=>by
    have:=h x hx;have:x≠((N+1:Nat):Int):=λ e=>hm (e▸hx)
    omega)
   omega
def nX(nx:Int->Int)(N:Int):Nat->List Int->Int->List Int
 |0,acc,_=>acc
 |k+1,acc,n=>if 1<=n/\n<=N/\n∉acc then nX nx N k (acc++[n]) (nx n) else acc
def vD(l:aI)(m:List Int):List Int:=nX (λ n=>db m (bf l n 7)) l.nodes (l.nodes.toNat+1) [] (av (db m l.free)).idx
structure ag where
 made:Nat
 gone:List (Int×Int)
 e0:Int
 e1:Int
 e2:Int
deriving DecidableEq
def ag.e(s:ag)(i:Int):Int:=if i=0 then s.e0 else if i=1 then s.e1 else s.e2
def ag.ej(s:ag)(i v:Int):ag:=if i=0 then{s with e0:=v} else if i=1 then{s with e1:=v} else{s with e2:=v}
structure bd where
 val:Int
 is:Bool
 err:Int
 aD:Int
 gone:List (Int×Int)
deriving DecidableEq
structure a9 where
 kind:Int
 obj:Int
 a:Int
 b:Int
deriving DecidableEq
def gl:bd:=⟨0,false,0,0,[]⟩
abbrev Pm(az:Type):=List aJ->ag->Except bz (az×ag)
def h2(a:bz):Pm aJ:=λ log s=>match log[s.made]? with
 |some r=>.ok (r,{s with made:=s.made+1})
 |none=>.error a
def Pm.bind{az dE:Type}(m:Pm az)(f:az->Pm dE):Pm dE:=λ log s=>match m log s with
 |.ok (x,ah)=>f x log ah
 |.error a=>.error a
def Pm.pure{az:Type}(x:az):Pm az:=λ _ s=>.ok (x,s)
theorem bl{az dE:Type}{m:Pm az}{f:az->Pm dE}{log:List aJ}{s ah:ag}{x:az}(h:m log s=.ok (x,ah)):m.bind f log s=f x log ah:=by unfold Pm.bind;rw[h]
theorem eA{az dE:Type}{m:Pm az}{f:az->Pm dE}{log:List aJ}{s:ag}{a:bz}(h:m log s=.error a):m.bind f log s=.error a:=by unfold Pm.bind;rw[h]
theorem bind_assoc{az dE da:Type}(m:Pm az)(f:az->Pm dE)(k:dE->Pm da):(m.bind f).bind k=m.bind λ x=>(f x).bind k:=by
 funext log s
 unfold Pm.bind;cases m log s with
 |error a=>rfl
 |ok q=>rfl
def xi:Pm Int:=λ _ s=>.ok ((s.made:Int)-1,s)
theorem jI{log:List aJ}{s:ag}:xi log s=.ok ((s.made:Int)-1,s):=rfl
def gR(c:Int):Pm Int:=(h2 ⟨1,c,0,0⟩).bind λ r=>.pure r.val
def kj(c v:Int):Pm Unit:=(h2 ⟨2,c,0,v⟩).bind λ _=>.pure ()
def oS(c o v:Int):Pm Bool:=(h2 ⟨3,c,o,v⟩).bind λ r=>.pure r.ok
def uJ(l:aI):Nat->Pm (Int×Int×Bool)
 |0=>.pure (0,0,false)
 |k+1=>(gR l.free).bind λ free=>
  if(av free).idx=0 then xi.bind λ at_=>.pure (0,at_,false)
  else(gR (bf l (av free).idx 7)).bind λ link=>(oS l.free free (eh (ii (av free) link))).bind λ ok=>
   if ok then xi.bind λ at_=>(gR l.era).bind λ Ep=>(kj (bf l (av free).idx 6) Ep).bind λ _=>.pure ((av free).idx,at_,true)
   else uJ l k
def KH(l:aI):Pm (Int×Int×Bool):=λ log s=>uJ l (log.length+1-s.made) log s
def tN(l:aI)(n:Int):Nat->Pm Unit
 |0=>.pure ()
 |k+1=>(gR l.free).bind λ free=>(kj (bf l n 7) (av free).idx).bind λ _=>(oS l.free free (eh (ii (av free) n))).bind λ ok=>if ok then .pure () else tN l n k
def Ay(l:aI)(n:Int):Pm Unit:=λ log s=>tN l n (log.length+1-s.made) log s
def oV(l:aI)(O i cell:Int):Nat->Pm (Int×Int)
 |0=>.pure (0,0)
 |k+1=>(gR cell).bind λ v=>xi.bind λ at_=>(gR l.era).bind λ era=>λ log s=>if era=s.e i then .ok ((v,at_),s) else(kj (fU l O i) era).bind (λ _ log s=>oV l O i cell k log (s.ej i era)) log s
def tO(l:aI)(O i cell:Int):Pm (Int×Int):=λ log s=>oV l O i cell (log.length+1-s.made) log s
def xz(i:Nat):Pm Unit:=λ _ s=>.ok ((),match i with|0=>{s with e0:=0}|1=>{s with e1:=0}|_=>{s with e2:=0})
def fh(l:aI)(O:Int)(i:Nat)(e:Int):Pm Unit:=if e=0 then .pure () else(kj (fU l O i) 0).bind λ _=>xz i
def pE(l:aI)(O:Int)(i:Nat):List Int->Pm Unit
 |[]=>.pure ()
 |e::es=>(fh l O i e).bind λ _=>pE l O (i+1) es
def tC(l:aI)(O:Int):Pm Unit:=λ log s=>pE l O 0 [s.e0,s.e1,s.e2] log s
def ja(acM to r:Int):Bool:=decide (acM<=r)&&decide (r<=to)
def kM(x:Int):Int:=if 1>x then 1 else x
def sa(l:aI)(j:Nat):Nat->List Int
 |0=>[]
 |m+1=>fU l j 0::fU l j 1::fU l j 2::sa l (j+1) m
def qM:List Int->List Int->Pm (List Int)
 |acc,[]=>.pure acc
 |acc,c::cs=>(gR c).bind λ v=>qM (acc++[v]) cs
def kQ(l:aI)(held:List Int):List (Int×Int)->List (Int×Int)->Pm (List (Int×Int))
 |[],stay=>.pure stay
 |g::gs,stay=>(gR (bf l g.1 6)).bind λ b=>if held.any (ja (kM b) g.2) then kQ l held gs (stay++[g]) else(Ay l g.1).bind λ _=>kQ l held gs stay
def sb(g:List (Int×Int)):Pm Unit:=λ _ s=>.ok ((),{s with gone:=g})
def yU(l:aI)(gone:List (Int×Int)):Pm Unit:=(qM [] (sa l 0 l.ar.toNat)).bind λ held=>(kQ l held gone []).bind λ stay=>sb stay
def s7(l:aI)(n:Int):Pm Unit:=(gR l.era).bind λ era=>(h2 ⟨4,l.era,0,1⟩).bind λ _=>λ log s=>
 if((s.gone.length:Int)+1)<2*l.ar then .ok ((),{s with gone:=s.gone++[(n,era)]})
 else yU l (s.gone++[(n,era)]) log {s with gone:=s.gone++[(n,era)]}
def tI(m:Except bz (bd×ag)):bz×bd×Bool:=match m with
 |.ok (x,ah)=>(iB,{x with gone:=ah.gone},true)
 |.error a=>(a,gl,false)
theorem Sm{az:Type}{a:bz}{f:aJ->Pm az}{log:List aJ}{s:ag}(h:log.drop s.made=[]):(h2 a).bind f log s=.error a:=by
 have:log[s.made]?=none:=by rw[List.drop_eq_nil_iff] at h;exact List.getElem?_eq_none h
 unfold Pm.bind h2;rw[this]
theorem Mg{log rest:List aJ}{n:Nat}{r:aJ}(h:log.drop n=r::rest):log[n]?=some r/\log.drop (n+1)=rest/\n<log.length:=by
 have aY:n<log.length:=by
  rcases Nat.lt_or_ge n log.length with h1|h1
  ·exact h1
  ·rw[List.drop_eq_nil_of_le h1] at h;cases h
 rw[List.drop_eq_getElem_cons aY] at h;injection h with h1 u
 exact⟨by rw[List.getElem?_eq_getElem aY,h1],u,aY⟩
theorem Sl{az:Type}{a:bz}{f:aJ->Pm az}{log rest:List aJ}{s:ag}{r:aJ}(h:log.drop s.made=r::rest):(h2 a).bind f log s=f r log {s with made:=s.made+1}:=by have:=(Mg h).1;unfold Pm.bind h2;rw[this]
theorem pj{az:Type}(c:Int)(f:Int->Pm az):(gR c).bind f=(h2 ⟨1,c,0,0⟩).bind λ r=>f r.val:=by unfold gR;rw[bind_assoc];rfl
theorem se{az:Type}(c v:Int)(f:Unit->Pm az):(kj c v).bind f=(h2 ⟨2,c,0,v⟩).bind λ _=>f ():=by unfold kj;rw[bind_assoc];rfl
theorem tz{az:Type}(c o v:Int)(f:Bool->Pm az):(oS c o v).bind f=(h2 ⟨3,c,o,v⟩).bind λ r=>f r.ok:=by unfold oS;rw[bind_assoc];rfl
structure Ws where
 ob:Int->Int
 nd:Int->Int->Int
structure Vw where
 er:Int
 fr:Int
 rv:Int->Int->Int
 bi:Int->Int
 lk:Int->Int
 W:Ws
inductive Ad where
 |era|free|ob (c:Int)|rv (w i:Int)|nd (n i:Int)|bi (n:Int)|lk (n:Int)
deriving DecidableEq
def Ad.cell(l:aI):Ad->Int
 |.era=>l.era
 |.free=>l.free
 |.ob c=>c
 |.rv w i=>fU l w i
 |.nd n i=>bf l n i
 |.bi n=>bf l n 6
 |.lk n=>bf l n 7
def Ad.ok(l:aI)(S N:Nat):Ad->Prop
 |.era=>True
 |.free=>True
 |.ob c=>4+5*(S:Int)<=c/\c<l.node
 |.rv w i=>0<=w/\w<S/\0<=i/\i<=2
 |.nd n i=>1<=n/\n<=N/\0<=i/\i<=5
 |.bi n=>1<=n/\n<=N
 |.lk n=>1<=n/\n<=N
def Ad.str(l:aI)(S N:Nat):Ad->Prop
 |.ob c=>4+5*(S:Int)<=c/\c<l.node
 |.nd n i=>1<=n/\n<=N/\0<=i/\i<=5
 |_=>False
theorem Ad.sf{l:aI}{S N:Nat}{a:Ad}(h:a.str l S N):a.ok l S N:=by cases a<;>first|exact h|exact absurd h id
def Ws.hE(W:Ws)(c v:Int):Ws:={W with ob:=λ aT=>if aT=c then v else W.ob aT}
def Ws.fF(W:Ws)(n i v:Int):Ws:={W with nd:=λ cO xd=>if cO=n/\xd=i then v else W.nd cO xd}
def Ws.get(W:Ws):Ad->Int
 |.ob c=>W.ob c
 |.nd n i=>W.nd n i
 |_=>0
def Ws.put(W:Ws)(a:Ad)(v:Int):Ws:=match a with
 |.ob c=>W.hE c v
 |.nd n i=>W.fF n i v
 |_=>W
def Vw.get(V:Vw):Ad->Int
 |.era=>V.er
 |.free=>V.fr
 |.ob c=>V.W.ob c
 |.rv w i=>V.rv w i
 |.nd n i=>V.W.nd n i
 |.bi n=>V.bi n
 |.lk n=>V.lk n
def Vw.put(V:Vw)(a:Ad)(v:Int):Vw:=match a with
 |.era=>{V with er:=v}
 |.free=>{V with fr:=v}
 |.ob c=>{V with W:=V.W.hE c v}
 |.rv w i=>{V with rv:=λ aA xd=>if aA=w/\xd=i then v else V.rv aA xd}
 |.nd n i=>{V with W:=V.W.fF n i v}
 |.bi n=>{V with bi:=λ cO=>if cO=n then v else V.bi cO}
 |.lk n=>{V with lk:=λ cO=>if cO=n then v else V.lk cO}
theorem Vw.acP(V:Vw)(a b:Ad)(v:Int):(V.put a v).get b=if b=a then v else V.get b:=by cases a<;>cases b<;>simp[Vw.get,Vw.put,Ws.hE,Ws.fF]
structure oO(l:aI)(S N:Nat):Prop where
 ar:l.ar=S
 nodes:l.nodes=N
 era:l.era=2
 free:l.free=3
 pZ:∀w i:Int,0<=w->w<S->0<=i->i<=2->fU l w i=4+2*(S:Int)+3*w+i
 node:∀n i:Int,1<=n->n<=N->0<=i->i<=7->bf l n i=l.node+8*(n-1)+i
 low:4+5*(S:Int)<=l.node
 size:l.size=l.node+8*(N:Int)
 s1:1<=S
theorem Hk{f k e r i:Int}(h1:0<=r)(u:r<k)(J:0<=i)(h4:i<e):jL f k e r i=f+r*e+i:=by unfold jL;rw[if_neg (by omega)]
theorem Ad.zx{l:aI}{S N:Nat}(hL:oO l S N){a:Ad}(h:a.ok l S N):0<=a.cell l/\a.cell l<l.size:=by
 have h1:=hL.size;have u:=hL.low;have J:=hL.s1;cases a with
 |era=>simp only[Ad.cell,hL.era];omega
 |free=>simp only[Ad.cell,hL.free];omega
 |ob c=>simp only[Ad.cell,Ad.ok] at h⊢;omega
 |rv w i=>obtain⟨a1,a2,a3,a4⟩:=h;simp only[Ad.cell,hL.pZ w i a1 a2 a3 a4];omega
 |nd n i=>obtain⟨a1,a2,a3,a4⟩:=h;simp only[Ad.cell,hL.node n i a1 a2 a3 (by omega)];omega
 |bi n=>obtain⟨a1,a2⟩:=h;simp only[Ad.cell,hL.node n 6 a1 a2 (by omega) (by omega)];omega
 |lk n=>obtain⟨a1,a2⟩:=h;simp only[Ad.cell,hL.node n 7 a1 a2 (by omega) (by omega)];omega
def Ad.dec(l:aI)(S:Nat)(c:Int):Ad:=
 if c=2 then .era else if c=3 then .free else if c<4+5*(S:Int) then .rv ((c-(4+2*(S:Int)))/3) ((c-(4+2*(S:Int)))%3) else if c<l.node then .ob c
 else if(c-l.node)%8=6 then .bi ((c-l.node)/8+1) else if(c-l.node)%8=7 then .lk ((c-l.node)/8+1) else .nd ((c-l.node)/8+1) ((c-l.node)%8)
theorem Ad.Sg{l:aI}{S N:Nat}(hL:oO l S N){a:Ad}(ha:a.ok l S N):Ad.dec l S (a.cell l)=a:=by
 have u:=hL.low;have h5:=hL.s1;cases a with
 |era=>rw[show Ad.cell l .era=2 from hL.era];rfl
 |free=>rw[show Ad.cell l .free=3 from hL.free];rfl
 |ob c=>simp only[Ad.ok] at ha;rw[show Ad.cell l (.ob c)=c from rfl];unfold Ad.dec;rw[if_neg (by omega),if_neg (by omega),if_neg (by omega),if_pos (by omega)]
 |rv w i=>obtain⟨a1,a2,a3,a4⟩:=ha;rw[show Ad.cell l (.rv w i)=_ from hL.pZ w i a1 a2 a3 a4];unfold Ad.dec;rw[if_neg (by omega),if_neg (by omega),if_pos (by omega),show(4+2*(S:Int)+3*w+i-(4+2*(S:Int)))/3=w by omega,show(4+2*(S:Int)+3*w+i-(4+2*(S:Int)))%3=i by omega]
 |nd n i=>obtain⟨a1,a2,a3,a4⟩:=ha;rw[show Ad.cell l (.nd n i)=_ from hL.node n i a1 a2 a3 (by omega)];unfold Ad.dec;rw[if_neg (by omega),if_neg (by omega),if_neg (by omega),if_neg (by omega),if_neg (by omega),if_neg (by omega),show(l.node+8*(n-1)+i-l.node)/8+1=n by omega,show(l.node+8*(n-1)+i-l.node)%8=i by omega]
 |bi n=>obtain⟨a1,a2⟩:=ha;rw[show Ad.cell l (.bi n)=_ from hL.node n 6 a1 a2 (by omega) (by omega)];unfold Ad.dec;rw[if_neg (by omega),if_neg (by omega),if_neg (by omega),if_neg (by omega),if_pos (by omega),show(l.node+8*(n-1)+6-l.node)/8+1=n by omega]
 |lk n=>obtain⟨a1,a2⟩:=ha;rw[show Ad.cell l (.lk n)=_ from hL.node n 7 a1 a2 (by omega) (by omega)];unfold Ad.dec;rw[if_neg (by omega),if_neg (by omega),if_neg (by omega),if_neg (by omega),if_neg (by omega),if_pos (by omega),show(l.node+8*(n-1)+7-l.node)/8+1=n by omega]
theorem Ad.LM{l:aI}{S N:Nat}(hL:oO l S N){a b:Ad}(ha:a.ok l S N)(hb:b.ok l S N)(h:a.cell l=b.cell l):a=b:=by rw[<-Ad.Sg hL ha,<-Ad.Sg hL hb,h]
structure qm(l:aI)(S N:Nat)(m:List Int)(V:Vw):Prop where
 len:m.length=l.size.toNat
 at_:∀a:Ad,a.ok l S N->eY m (a.cell l)=V.get a
theorem aa8{m:List Int}{c d v:Int}(h0:0<=c)(h1:c<m.length)(K:0<=d):eY (m.set c.toNat v) d=if d=c then v else eY m d:=by
 unfold eY;have F:c.toNat<m.length:=by omega
 by_cases h:d=c
 ·subst h;rw[if_pos rfl,List.getD_eq_getElem?_getD,List.getElem?_set_self F];rfl
 ·rw[if_neg h,List.getD_eq_getElem?_getD,List.getD_eq_getElem?_getD,List.getElem?_set_ne (by omega)]
theorem qm.put{l:aI}{S N:Nat}{m:List Int}{V:Vw}(hL:oO l S N)(hV:qm l S N m V){a:Ad}(ha:a.ok l S N)(v:Int):qm l S N (m.set (a.cell l).toNat v) (V.put a v):=by
 have dk:=Ad.zx hL ha;have cx:=hV.len;refine⟨by rw[List.length_set];exact cx,λ b hb=>?_⟩;have aet:=Ad.zx hL hb;rw[aa8 dk.1 (by omega) aet.1,Vw.acP]
 by_cases h:b=a
 ·rw[if_pos (by rw[h]),if_pos h]
 ·rw[if_neg (λ e=>h (Ad.LM hL hb ha e)),if_neg h];exact hV.at_ b hb
inductive Ak where
 |ld (a:Ad)|st (a:Ad) (v:Int)|cs (a:Ad) (o v:Int)|up
def Ak.acc(l:aI):Ak->bz
 |.ld a=>⟨1,a.cell l,0,0⟩
 |.st a v=>⟨2,a.cell l,0,v⟩
 |.cs a o v=>⟨3,a.cell l,o,v⟩
 |.up=>⟨4,l.era,0,1⟩
def Ak.ad:Ak->Ad
 |.ld a=>a
 |.st a _=>a
 |.cs a _ _=>a
 |.up=>.era
def act(V:Vw):Ak->Vw×aJ
 |.ld a=>(V,⟨V.get a,true⟩)
 |.st a v=>(V.put a v,⟨V.get a,true⟩)
 |.cs a o v=>if V.get a=o then(V.put a v,⟨V.get a,true⟩) else(V,⟨V.get a,false⟩)
 |.up=>({V with er:=V.er+1},⟨V.er,true⟩)
theorem YX(m:List Int)(c:Int):iw m ⟨1,c,0,0⟩=(m,⟨eY m c,true⟩):=by simp[iw]
theorem YZ(m:List Int)(c v:Int):iw m ⟨2,c,0,v⟩=(m.set c.toNat v,⟨eY m c,true⟩):=by simp[iw]
theorem YW(m:List Int)(c o v:Int):iw m ⟨3,c,o,v⟩=if eY m c=o then(m.set c.toNat v,⟨eY m c,true⟩) else(m,⟨eY m c,false⟩):=by simp[iw]
theorem YT(m:List Int)(c:Int):iw m ⟨4,c,0,1⟩=(m.set c.toNat (te (eY m c+1)),⟨eY m c,true⟩):=by simp[iw]
theorem EL{n:Int}{a:bz}(h0:0<=a.cell)(h1:a.cell<n)(hk:(a.kind=1/\a.new=0/\a.dL=0)\/(a.kind=2/\a.dL=0)\/a.kind=3\/(a.kind=4/\a.dL=0)):nl n a=0:=by
 have hr:xy a=true:=by
  unfold xy;rcases hk with⟨k1,k2,k3⟩|⟨k1,k2⟩|k1|⟨k1,k2⟩
  ·simp[k1,k2,k3,h0]
  ·simp[k1,k2,h0]
  ·simp[k1,h0]
  ·simp[k1,k2,h0]
 unfold nl;rw[if_pos hr,if_neg (by omega)]
structure QX(l:aI)(S N:Nat)(m:List Int)(a:bz)(V:Vw)(r:aJ):Prop where
 fault:nl m.length a=0
 view:qm l S N (iw m a).1 V
 res:(iw m a).2=r
theorem Ek{l:aI}{S N:Nat}{m:List Int}{V:Vw}(hL:oO l S N)(hV:qm l S N m V)(he:0<=V.er/\V.er<=1000000){a:Ak}(ha:a.ad.ok l S N):QX l S N m (a.acc l) (act V a).1 (act V a).2:=by
 have dk:=Ad.zx hL ha;have cx:=hV.len;have iC:=hV.at_ _ ha;cases a with
 |ld a=>
  refine⟨EL dk.1 (by simp only[Ak.acc,Ak.ad] at dk⊢;omega) (.inl ⟨rfl,rfl,rfl⟩),?_,?_⟩
  ·simp only[Ak.acc];rw[YX];exact hV
  ·simp only[Ak.acc];rw[YX];simp only[Ak.ad] at iC;rw[iC];rfl
 |st a v=>
  refine⟨EL dk.1 (by simp only[Ak.acc,Ak.ad] at dk⊢;omega) (.inr (.inl ⟨rfl,rfl⟩)),?_,?_⟩
  ·simp only[Ak.acc];rw[YZ];exact hV.put hL ha v
  ·simp only[Ak.acc];rw[YZ];simp only[Ak.ad] at iC;rw[iC];rfl
 |cs a o v=>
  simp only[Ak.ad] at iC;refine⟨EL dk.1 (by simp only[Ak.acc,Ak.ad] at dk⊢;omega) (.inr (.inr (.inl rfl))),?_,?_⟩
  ·simp only[Ak.acc,act];rw[YW,iC];split
   ·exact hV.put hL ha v
   ·exact hV
  ·simp only[Ak.acc,act];rw[YW,iC];split<;>rfl
 |up=>
  have iC:eY m l.era=V.er:=iC;refine⟨EL dk.1 (by simp only[Ak.acc,Ak.ad,Ad.cell] at dk⊢;omega) (.inr (.inr (.inr ⟨rfl,rfl⟩))),?_,?_⟩
  ·simp only[Ak.acc,act];rw[YT,iC,akC (by omega) (by omega)];exact hV.put hL (a:=.era) trivial _
  ·simp only[Ak.acc,act];rw[YT,iC]
inductive Pc(aM:Type) where
 |at_ (k:aM)
 |t1 (k:aM)|t2 (k:aM) (f:Int)|t3 (k:aM) (f lk:Int)|t4 (k:aM) (n a:Int)|t5 (k:aM) (n a b:Int)
 |g1 (k:aM) (i:Int) (c:Ad)|g2 (k:aM) (i:Int) (c:Ad) (v a:Int)|g3 (k:aM) (i:Int) (c:Ad) (er:Int)
 |bn (k:aM)|c (k:aM) (i:Int)
 |v1 (k:aM) (n:Int)|v2 (k:aM) (n f:Int)|v3 (k:aM) (n f:Int)
 |r1 (k:aM) (n:Int)|r2 (k:aM) (n er:Int)
 |rs (k:aM) (held:List Int) (c:Ad) (cs:List Ad)
 |s1 (k:aM) (held:List Int) (g:Int×Int) (gs stay:List (Int×Int))
 |w1 (k:aM) (held:List Int) (g:Int×Int) (gs stay:List (Int×Int))
 |w2 (k:aM) (held:List Int) (g:Int×Int) (gs stay:List (Int×Int)) (f:Int)
 |w3 (k:aM) (held:List Int) (g:Int×Int) (gs stay:List (Int×Int)) (f:Int)
 |fin (o:bd)
structure lO(aM:Type) where
 ask:aM->Ak
 tell:aM->Nat->aJ->Pc aM
 vV:aM->Int->Int->Pc aM
 full:aM->Int->Pc aM
 guarded:aM->Int->Int->Pc aM
 pD:aM->Pc aM
 tM:aM->Pc aM
 retired:aM->Pc aM
structure Q(aM:Type) where
 R:Pc aM
 s:ag
variable{aM:Type}
def aS(am:lO aM)(w:Int):Pc aM->Ak
 |.at_ k=>am.ask k
 |.t1 _=>.ld .free
 |.t2 _ f=>.ld (.lk (av f).idx)
 |.t3 _ f lk=>.cs .free f (eh (ii (av f) lk))
 |.t4 _ _ _=>.ld .era
 |.t5 _ n _ b=>.st (.bi n) b
 |.g1 _ _ c=>.ld c
 |.g2 _ _ _ _ _=>.ld .era
 |.g3 _ i _ er=>.st (.rv w i) er
 |.bn _=>.ld .free
 |.c _ i=>.st (.rv w i) 0
 |.v1 _ _=>.ld .free
 |.v2 _ n f=>.st (.lk n) (av f).idx
 |.v3 _ n f=>.cs .free f (eh (ii (av f) n))
 |.r1 _ _=>.ld .era
 |.r2 _ _ _=>.up
 |.rs _ _ c _=>.ld c
 |.s1 _ _ g _ _=>.ld (.bi g.1)
 |.w1 ..=>.ld .free
 |.w2 _ _ g _ _ f=>.st (.lk g.1) (av f).idx
 |.w3 _ _ g _ _ f=>.cs .free f (eh (ii (av f) g.1))
 |.fin _=>.ld .free
def dJ(am:lO aM)(k:aM)(s:ag):Q aM:=if s.e0≠0 then⟨.c k 0,s⟩ else if s.e1≠0 then⟨.c k 1,s⟩ else if s.e2≠0 then⟨.c k 2,s⟩ else⟨am.pD k,s⟩
def aG(am:lO aM)(R:Pc aM)(s:ag):Q aM:=match R with
 |.bn k=>dJ am k s
 |R=>⟨R,s⟩
def du(am:lO aM)(k:aM)(held:List Int)(s:ag):List (Int×Int)->List (Int×Int)->Q aM
 |[],stay=>aG am (am.retired k) {s with gone:=stay}
 |g::gs,stay=>⟨.s1 k held g gs stay,s⟩
def gG(am:lO aM)(k:aM)(held:List Int)(s:ag):List Ad->Q aM
 |[]=>du am k held s s.gone []
 |c::cs=>⟨.rs k held c cs,s⟩
def nP(j:Nat):Nat->List Ad
 |0=>[]
 |m+1=>.rv j 0::.rv j 1::.rv j 2::nP (j+1) m
def ag.up(s:ag):ag:={s with made:=s.made+1}
theorem DF(x:ag)(i v:Int):(x.ej i v).made=x.made:=by
 unfold ag.ej;split
 ·rfl
 ·split<;>rfl
def tell(am:lO aM)(S:Nat)(q:Q aM)(r:aJ):Q aM:=match q.R with
 |.at_ k=>aG am (am.tell k q.s.made r) q.s.up
 |.t1 k=>if(av r.val).idx=0 then aG am (am.full k q.s.made) q.s.up else⟨.t2 k r.val,q.s.up⟩
 |.t2 k f=>⟨.t3 k f r.val,q.s.up⟩
 |.t3 k f _=>if r.ok then⟨.t4 k (av f).idx q.s.made,q.s.up⟩ else⟨.t1 k,q.s.up⟩
 |.t4 k n a=>⟨.t5 k n a r.val,q.s.up⟩
 |.t5 k n a _=>aG am (am.vV k n a) q.s.up
 |.g1 k i c=>⟨.g2 k i c r.val q.s.made,q.s.up⟩
 |.g2 k i c v a=>if r.val=q.s.e i then aG am (am.guarded k v a) q.s.up else⟨.g3 k i c r.val,q.s.up⟩
 |.g3 k i c er=>⟨.g1 k i c,q.s.up.ej i er⟩
 |.bn _=>q
 |.c k i=>dJ am k (q.s.up.ej i 0)
 |.v1 k n=>⟨.v2 k n r.val,q.s.up⟩
 |.v2 k n f=>⟨.v3 k n f,q.s.up⟩
 |.v3 k n _=>if r.ok then aG am (am.tM k) q.s.up else⟨.v1 k n,q.s.up⟩
 |.r1 k n=>⟨.r2 k n r.val,q.s.up⟩
 |.r2 k n er=>if(q.s.gone.length:Int)+1<2*(S:Int) then aG am (am.retired k) {q.s.up with gone:=q.s.gone++[(n,er)]} else gG am k [] {q.s.up with gone:=q.s.gone++[(n,er)]} (nP 0 S)
 |.rs k held _ cs=>gG am k (held++[r.val]) q.s.up cs
 |.s1 k held g gs stay=>if held.any (ja (kM r.val) g.2) then du am k held q.s.up gs (stay++[g]) else⟨.w1 k held g gs stay,q.s.up⟩
 |.w1 k held g gs stay=>⟨.w2 k held g gs stay r.val,q.s.up⟩
 |.w2 k held g gs stay f=>⟨.w3 k held g gs stay f,q.s.up⟩
 |.w3 k held g gs stay _=>if r.ok then du am k held q.s.up gs stay else⟨.w1 k held g gs stay,q.s.up⟩
 |.fin _=>q
def bZ(am:lO aM)(S:Nat)(q:Q aM)(log:List aJ):Q aM:=log.foldl (tell am S) q
def rn(am:lO aM)(l:aI)(w:Int)(q:Q aM):bz×bd×Bool:=match q.R with
 |.fin o=>(iB,{o with gone:=q.s.gone},true)
 |R=>((aS am w R).acc l,gl,false)
def Pc.gX:Pc aM->Prop
 |.fin _=>False
 |.bn _=>False
 |_=>True
section
variable{am:lO aM}{l:aI}{S:Nat}{O:Int}
def cf(am:lO aM)(l:aI)(S:Nat)(O:Int)(q:Q aM)(x:Except bz (bd×ag))(rest:List aJ):Prop:=tI x=rn am l O (bZ am S q rest)
theorem abH{q:Q aM}{a:bz}{f:aJ->Pm bd}{log:List aJ}{s:ag}(ha:(aS am O q.R).acc l=a)(hf:q.R.gX)
 (h:∀r rest,log.drop s.made=r::rest->cf am l S O (tell am S q r) (f r log s.up) rest):cf am l S O q ((h2 a).bind f log s) (log.drop s.made):=by
 cases K:log.drop s.made with
 |nil=>
  rw[Sm K];show(a,gl,false)=rn am l O q;unfold rn;split
  ·rename_i o ho;rw[ho] at hf;exact absurd hf id
  ·rw[ha]
 |cons r rest=>rw[Sl K];exact h r rest K
theorem Ko{o:bd}{s:ag}:∀rest:List aJ,bZ am S ⟨.fin o,s⟩ rest=⟨.fin o,s⟩
 |[]=>rfl
 |_::rest=>Ko rest
theorem Me{o:bd}{s:ag}{rest:List aJ}:cf am l S O ⟨.fin o,s⟩ (.ok (o,s)) rest:=by
 unfold cf;rw[Ko]
 rfl
theorem fM{q:Q aM}{a:bz}{f:aJ->Pm bd}{log:List aJ}{s:ag}(ha:(aS am O q.R).acc l=a)(hf:q.R.gX)
 (h:∀r,s.made<log.length->cf am l S O (tell am S q r) (f r log s.up) (log.drop s.up.made)):cf am l S O q ((h2 a).bind f log s) (log.drop s.made):=by
 refine abH ha hf λ r rest K=>?_
 obtain⟨_,tV,NB⟩:=Mg K;subst tV;exact h r NB
theorem QK{k:aM}{f:Int×Int×Bool->Pm bd}{log:List aJ}{M0:Nat}(hf:∀n a s,M0<=s.made->s.made<=log.length->cf am l S O (aG am (am.vV k n a) s) (f (n,a,true) log s) (log.drop s.made))(ly:∀a s,M0<=s.made->s.made<=log.length->cf am l S O (aG am (am.full k a) s) (f (0,a,false) log s) (log.drop s.made)):
 ∀(j:Nat)(s:ag),M0<=s.made->log.length-s.made<j->cf am l S O ⟨.t1 k,s⟩ ((uJ l j).bind f log s) (log.drop s.made)
 |0,s,_,h=>by omega
 |j+1,s,hM,h=>by
  rw[uJ,bind_assoc,pj];refine fM rfl trivial λ r h1=>?_
  show cf am l S O (if(av r.val).idx=0 then _ else _) _ _;split
  ·rw[bind_assoc,bl jI];have:=ly (s.made:Int) s.up (by simp only[ag.up];omega) (by simp only[ag.up];omega);show cf am l S O _ (f (0,((s.made+1:Nat):Int)-1,false) log _) _;rw[show((s.made+1:Nat):Int)-1=(s.made:Int) by omega];exact this
  ·rw[bind_assoc,pj];refine fM (s:=s.up) rfl trivial λ r2 u=>?_
   rw[bind_assoc,tz];refine fM (q:=⟨.t3 k r.val r2.val,s.up.up⟩) (s:=s.up.up) rfl trivial λ r3 J=>?_
   show cf am l S O (if r3.ok then _ else _) _ _;split
   ·rw[bind_assoc,bl jI,bind_assoc,pj];refine fM (s:=s.up.up.up) rfl trivial λ r4 h4=>?_
    rw[bind_assoc,se];refine fM (q:=⟨.t5 k (av r.val).idx s.up.up.made r4.val,s.up.up.up.up⟩) (s:=s.up.up.up.up) rfl trivial λ ai1 h5=>?_
    have:=hf (av r.val).idx (s.up.up.made:Int) s.up.up.up.up.up (by simp only[ag.up];omega) (by simp only[ag.up] at h5⊢;omega);show cf am l S O _ (f ((av r.val).idx,((s.up.up.up.made:Nat):Int)-1,true) log _) _;rw[show((s.up.up.up.made:Nat):Int)-1=(s.up.up.made:Int) by simp only[ag.up];omega];exact this
   ·exact QK hf ly j s.up.up.up (by simp only[ag.up];omega) (by simp only[ag.up] at J⊢;omega)
theorem MI{k:aM}{n:Int}{f:Unit->Pm bd}{log:List aJ}{M0:Nat}(hf:∀s,M0<=s.made->s.made<=log.length->cf am l S O (aG am (am.tM k) s) (f () log s) (log.drop s.made)):
 ∀(j:Nat)(s:ag),M0<=s.made->log.length-s.made<j->cf am l S O ⟨.v1 k n,s⟩ ((tN l n j).bind f log s) (log.drop s.made)
 |0,s,_,h=>by omega
 |j+1,s,hM,h=>by
  rw[tN,bind_assoc,pj];refine fM rfl trivial λ r h1=>?_
  rw[bind_assoc,se];refine fM (q:=⟨.v2 k n r.val,s.up⟩) (s:=s.up) rfl trivial λ r2 u=>?_
  rw[bind_assoc,tz];refine fM (q:=⟨.v3 k n r.val,s.up.up⟩) (s:=s.up.up) rfl trivial λ r3 J=>?_
  show cf am l S O (if r3.ok then _ else _) _ _;split
  ·exact hf s.up.up.up (by simp only[ag.up];omega) (by simp only[ag.up] at J⊢;omega)
  ·exact MI hf j s.up.up.up (by simp only[ag.up];omega) (by simp only[ag.up] at J⊢;omega)
theorem Y8{k:aM}{held:List Int}{g:Int×Int}{gs stay:List (Int×Int)}{f:Unit->Pm bd}{log:List aJ}{M0:Nat}(hf:∀s,M0<=s.made->s.made<=log.length->cf am l S O (du am k held s gs stay) (f () log s) (log.drop s.made)):
 ∀(j:Nat)(s:ag),M0<=s.made->log.length-s.made<j->cf am l S O ⟨.w1 k held g gs stay,s⟩ ((tN l g.1 j).bind f log s) (log.drop s.made)
 |0,s,_,h=>by omega
 |j+1,s,hM,h=>by
  rw[tN,bind_assoc,pj];refine fM rfl trivial λ r h1=>?_
  rw[bind_assoc,se];refine fM (q:=⟨.w2 k held g gs stay r.val,s.up⟩) (s:=s.up) rfl trivial λ r2 u=>?_
  rw[bind_assoc,tz];refine fM (q:=⟨.w3 k held g gs stay r.val,s.up.up⟩) (s:=s.up.up) rfl trivial λ r3 J=>?_
  show cf am l S O (if r3.ok then _ else _) _ _;split
  ·exact hf s.up.up.up (by simp only[ag.up];omega) (by simp only[ag.up] at J⊢;omega)
  ·exact Y8 hf j s.up.up.up (by simp only[ag.up];omega) (by simp only[ag.up] at J⊢;omega)
theorem Qs{k:aM}{held:List Int}{f:Unit->Pm bd}{log:List aJ}{M0:Nat}(hf:∀s,M0<=s.made->s.made<=log.length->cf am l S O (aG am (am.retired k) s) (f () log s) (log.drop s.made)):
 ∀(gs stay:List (Int×Int))(s:ag),M0<=s.made->s.made<=log.length->cf am l S O (du am k held s gs stay) ((kQ l held gs stay).bind (λ st=>(sb st).bind f) log s) (log.drop s.made)
 |[],stay,s,hM,T=>by
  rw[kQ];exact hf {s with gone:=stay} hM T
 |g::gs,stay,s,hM,T=>by
  rw[kQ,bind_assoc,pj];refine fM (q:=⟨.s1 k held g gs stay,s⟩) rfl trivial λ r h1=>?_
  show cf am l S O (if held.any (ja (kM r.val) g.2) then _ else _) _ _;split
  ·exact Qs hf gs (stay++[g]) s.up (by simp only[ag.up];omega) (by simp only[ag.up];omega)
  ·rw[bind_assoc];exact Y8 (λ s hM T=>Qs hf gs stay s hM T) (log.length+1-s.up.made) s.up (by simp only[ag.up];omega) (by simp only[ag.up];omega)
theorem XD(l:aI):∀(m j:Nat),(nP j m).map (Ad.cell l)=sa l j m
 |0,_=>rfl
 |m+1,j=>by simp only[nP,sa,List.map_cons,XD l m (j+1)];rfl
theorem Ye{k:aM}{gone:List (Int×Int)}{f:Unit->Pm bd}{log:List aJ}{M0:Nat}(hf:∀s,M0<=s.made->s.made<=log.length->cf am l S O (aG am (am.retired k) s) (f () log s) (log.drop s.made)):
 ∀(cs:List Ad)(held:List Int)(s:ag),s.gone=gone->M0<=s.made->s.made<=log.length->cf am l S O (gG am k held s cs) ((qM held (cs.map (Ad.cell l))).bind (λ held=>(kQ l held gone []).bind (λ st=>(sb st).bind f)) log s) (log.drop s.made)
 |[],held,s,hg,hM,T=>by
  rw[List.map_nil,qM];subst hg;exact Qs hf s.gone [] s hM T
 |c::cs,held,s,hg,hM,T=>by
  rw[List.map_cons,qM,bind_assoc,pj];refine fM (q:=⟨.rs k held c cs,s⟩) rfl trivial λ r h1=>?_
  exact Ye hf cs (held++[r.val]) s.up hg (by simp only[ag.up];omega) (by simp only[ag.up];omega)
theorem ajN(gone:List (Int×Int))(f:Unit->Pm bd):(yU l gone).bind f=(qM [] (sa l 0 l.ar.toNat)).bind (λ held=>(kQ l held gone []).bind (λ st=>(sb st).bind f)):=by
 unfold yU;rw[bind_assoc]
 congr 1
 funext held
 rw[bind_assoc]
theorem Kk(hS:l.ar=(S:Int)){k:aM}{n:Int}{f:Unit->Pm bd}{log:List aJ}{M0:Nat}(hf:∀s,M0<=s.made->s.made<=log.length->cf am l S O (aG am (am.retired k) s) (f () log s) (log.drop s.made))(s:ag)(hM:M0<=s.made):cf am l S O ⟨.r1 k n,s⟩ ((s7 l n).bind f log s) (log.drop s.made):=by
 rw[s7,bind_assoc,pj];refine fM rfl trivial λ r h1=>?_
 rw[bind_assoc];refine fM (q:=⟨.r2 k n r.val,s.up⟩) (s:=s.up) rfl trivial λ r2 u=>?_
 show cf am l S O (if(s.gone.length:Int)+1<2*(S:Int) then _ else _) _ _;unfold Pm.bind;simp only;rw[hS]
 by_cases aY:(s.gone.length:Int)+1<2*(S:Int)
 ·rw[if_pos aY,if_pos (show((s.up.up.gone.length:Int)+1<2*(S:Int)) from aY)];exact hf {s.up.up with gone:=s.gone++[(n,r.val)]} (by simp only[ag.up];omega) (by simp only[ag.up] at u⊢;omega)
 ·rw[if_neg aY,if_neg (show¬((s.up.up.gone.length:Int)+1<2*(S:Int)) from aY)];have:=Ye (l:=l) (O:=O) (am:=am) (S:=S) (k:=k) (gone:=s.gone++[(n,r.val)]) hf (nP 0 S) [] {s.up.up with gone:=s.gone++[(n,r.val)]} rfl (by simp only[ag.up];omega) (by simp only[ag.up] at u⊢;omega);show cf am l S O _ ((yU l (s.gone++[(n,r.val)])).bind f log {s.up.up with gone:=s.gone++[(n,r.val)]}) _;rw[ajN,hS,Int.toNat_natCast,<-XD];exact this
theorem EP{k:aM}{i:Int}{c:Ad}{f:Int×Int->Pm bd}{log:List aJ}{M0:Nat}(hf:∀v a s,M0<=s.made->s.made<=log.length->cf am l S O (aG am (am.guarded k v a) s) (f (v,a) log s) (log.drop s.made)):
 ∀(j:Nat)(s:ag),M0<=s.made->log.length-s.made<j->cf am l S O ⟨.g1 k i c,s⟩ ((oV l O i (c.cell l) j).bind f log s) (log.drop s.made)
 |0,s,_,h=>by omega
 |j+1,s,hM,h=>by
  rw[oV,bind_assoc,pj];refine fM rfl trivial λ r h1=>?_
  rw[bind_assoc,bl jI,bind_assoc,pj];refine fM (q:=⟨.g2 k i c r.val s.made,s.up⟩) (s:=s.up) rfl trivial λ r2 u=>?_
  have key:∀m:Pm bd,m=((kj (fU l O i) r2.val).bind (λ _ log s=>oV l O i (c.cell l) j log (s.ej i r2.val))).bind f->cf am l S O ⟨.g3 k i c r2.val,s.up.up⟩ (m log s.up.up) (log.drop s.up.up.made):=by
   intro m hm;rw[hm,bind_assoc,se];refine fM (s:=s.up.up) rfl trivial λ r3 J=>?_
   have I3:=DF;have:=EP (k:=k) (i:=i) (c:=c) hf j (s.up.up.up.ej i r2.val) (by rw[I3];simp only[ag.up];omega) (by rw[I3];simp only[ag.up] at J⊢;omega);rw[I3] at this;exact this
  show cf am l S O (if r2.val=s.e i then _ else _) _ _;unfold Pm.bind;simp only
  by_cases he:r2.val=s.e i
  ·rw[if_pos he,if_pos (show r2.val=s.up.up.e i from he)];have:=hf r.val (s.made:Int) s.up.up (by simp only[ag.up];omega) (by simp only[ag.up] at u⊢;omega);show cf am l S O _ (f (r.val,((s.made+1:Nat):Int)-1) log s.up.up) _;rw[show((s.made+1:Nat):Int)-1=(s.made:Int) by omega];exact this
  ·rw[if_neg he,if_neg (show¬r2.val=s.up.up.e i from he)];exact key _ rfl
theorem HT{k:aM}{f:Unit->Pm bd}{log:List aJ}{M0:Nat}(hf:∀s,s.e0=0->s.e1=0->s.e2=0->M0<=s.made->s.made<=log.length->cf am l S O ⟨am.pD k,s⟩ (f () log s) (log.drop s.made))(s:ag)(hM:M0<=s.made)(T:s.made<=log.length):cf am l S O (aG am (.bn k) s) ((tC l O).bind f log s) (log.drop s.made):=by
 have u:∀s:ag,s.e0=0->s.e1=0->M0<=s.made->s.made<=log.length->cf am l S O (dJ am k s) ((fh l O 2 s.e2).bind f log s) (log.drop s.made):=by
  intro s z0 z1 hM T;unfold dJ;rw[if_neg (by simp[z0]),if_neg (by simp[z1])];unfold fh
  by_cases h:s.e2=0
  ·rw[if_neg (by simp[h]),if_pos h];exact hf s z0 z1 h hM T
  ·rw[if_pos h,if_neg h,bind_assoc,se];refine fM rfl trivial λ r h1=>?_
   have:=hf {s.up with e2:=0} z0 z1 rfl (by simp only[ag.up];omega) (by simp only[ag.up];omega);show cf am l S O (dJ am k {s.up with e2:=0}) (f () log {s.up with e2:=0}) _;unfold dJ;rw[if_neg (by simp[ag.up,z0]),if_neg (by simp[ag.up,z1]),if_neg (by simp)];exact this
 have h1:∀s:ag,s.e0=0->M0<=s.made->s.made<=log.length->cf am l S O (dJ am k s) (((fh l O 1 s.e1).bind λ _=>(fh l O 2 s.e2).bind f) log s) (log.drop s.made):=by
  intro s z0 hM T
  by_cases h:s.e1=0
  ·have e:((fh l O 1 s.e1).bind λ _=>(fh l O 2 s.e2).bind f) log s=((fh l O 2 s.e2).bind f) log s:=by unfold fh;rw[if_pos h];rfl
   rw[e];exact u s z0 h hM T
  ·unfold dJ;rw[if_neg (by simp[z0]),if_pos h];have e:((fh l O 1 s.e1).bind λ _=>(fh l O 2 s.e2).bind f)=((kj (fU l O 1) 0).bind λ _=>(xz 1).bind λ _=>(fh l O 2 s.e2).bind f):=by
    have:fh l O 1 s.e1=(kj (fU l O 1) 0).bind λ _=>xz 1:=by unfold fh;rw[if_neg h];rfl
    rw[this,bind_assoc]
   rw[e,se];refine fM rfl trivial λ r J=>?_
   exact u {s.up with e1:=0} z0 rfl (by simp only[ag.up];omega) (by simp only[ag.up];omega)
 have e:(tC l O).bind f log s=((fh l O 0 s.e0).bind λ _=>(fh l O 1 s.e1).bind λ _=>(fh l O 2 s.e2).bind f) log s:=by
  have e1:tC l O log s=((fh l O 0 s.e0).bind λ _=>(fh l O 1 s.e1).bind λ _=>(fh l O 2 s.e2).bind λ _=>.pure ()) log s:=rfl;have hb:∀m:Pm Unit,tC l O log s=m log s->(tC l O).bind f log s=m.bind f log s:=λ m hm=>by unfold Pm.bind;rw[hm]
  rw[hb _ e1,bind_assoc]
  congr 1
  congr 1
  funext _
  rw[bind_assoc]
  congr 1
  funext _
  rw[bind_assoc]
  rfl
 rw[e];show cf am l S O (dJ am k s) _ _
 by_cases h:s.e0=0
 ·have e2:((fh l O 0 s.e0).bind λ _=>(fh l O 1 s.e1).bind λ _=>(fh l O 2 s.e2).bind f) log s=((fh l O 1 s.e1).bind λ _=>(fh l O 2 s.e2).bind f) log s:=by unfold fh;rw[if_pos h];rfl
  rw[e2];exact h1 s h hM T
 ·unfold dJ;rw[if_pos h];have e2:((fh l O 0 s.e0).bind λ _=>(fh l O 1 s.e1).bind λ _=>(fh l O 2 s.e2).bind f)=((kj (fU l O 0) 0).bind λ _=>(xz 0).bind λ _=>(fh l O 1 s.e1).bind λ _=>(fh l O 2 s.e2).bind f):=by
   have:fh l O 0 s.e0=(kj (fU l O 0) 0).bind λ _=>xz 0:=by unfold fh;rw[if_neg h];rfl
   rw[this,bind_assoc]
  rw[e2,se];refine fM rfl trivial λ r J=>?_
  exact h1 {s.up with e0:=0} rfl (by simp only[ag.up];omega) (by simp only[ag.up];omega)
end
structure ql(N:Nat)(f cur:Int):Prop where
 nn:0<=f
 form:f=131072*(f/131072)+(av f).idx
 le:(av f).idx<=N
 dL:f/131072<=cur/131072
 same:f/131072=cur/131072->f=cur
theorem ql.up{N:Nat}{f cur fj:Int}(h:ql N f cur)(F:fj/131072=cur/131072+1):ql N f fj:=
 ⟨h.nn,h.form,h.le,by have:=h.dL;omega,λ e=>by have:=h.dL;omega⟩
theorem ql.ne{N:Nat}{f cur fj:Int}(h:ql N f cur)(F:fj/131072=cur/131072+1):fj≠f:=λ e=>by
 subst e;have:=h.dL;omega
theorem xn(f:Int):(av f).idx=f%65536:=rfl
theorem Pq{f c i j:Int}(hf:f=131072*c+i)(F:0<=c)(c7:c<1000000)(hi:0<=i/\i<65536)(hj:0<=j/\j<65536):eh (ii (av f) j)=131072*(c+1)+j:=by simp only[eh,ii,av,Bool.false_eq_true,if_false];omega
def md(nx:Int->Int):List Int->Prop
 |[]=>True
 |x::aR=>nx x=aR.headD 0/\md nx aR
theorem md.same{nx BK:Int->Int}:∀{aR:List Int},md nx aR->(∀x∈aR,BK x=nx x)->md BK aR
 |[],_,_=>trivial
 |x::aR,h,T=>⟨(T x (by simp)).trans h.1,h.2.same λ y hy=>T y (by simp[hy])⟩
theorem head_cons{aR:List Int}(h:1<=aR.headD 0):∃ze,aR=aR.headD 0::ze:=by
 cases aR with
 |nil=>simp at h
 |cons x aR=>exact⟨aR,rfl⟩
theorem tc{az:Type}(f:az->Nat):∀{l:List az}{i:Nat}{x:az}(y:az),l[i]?=some x->((l.set i y).map f).sum+f x=(l.map f).sum+f y
 |[],i,x,y,h=>by simp at h
 |a::l,0,x,y,h=>by simp at h;subst h;simp;omega
 |a::l,i+1,x,y,h=>by
  have:=tc f (l:=l) (i:=i) (x:=x) y (by simpa using h);simp only[List.set_cons_succ,List.map_cons,List.sum_cons];omega
theorem sU{az:Type}(f:az->Nat):∀{l:List az}{i:Nat}{x:az},l[i]?=some x->f x<=(l.map f).sum
 |[],i,x,h=>by simp at h
 |a::l,0,x,h=>by simp at h;subst h;simp
 |a::l,i+1,x,h=>by
  have:=sU f (l:=l) (i:=i) (x:=x) (by simpa using h);simp;omega
theorem VF{az:Type}(f:az->Nat):∀{l:List az}{i j:Nat}{x y:az},i≠j->l[i]?=some x->l[j]?=some y->f x+f y<=(l.map f).sum
 |[],i,j,x,y,_,h,_=>by simp at h
 |a::l,0,0,x,y,aW,h,u=>absurd rfl aW
 |a::l,0,j+1,x,y,_,h,u=>by
  have:=sU f (l:=l) (i:=j) (x:=y) (by simpa using u);simp at h;subst h;simp;omega
 |a::l,i+1,0,x,y,_,h,u=>by
  have:=sU f (l:=l) (i:=i) (x:=x) (by simpa using h);simp at u;subst u;simp;omega
 |a::l,i+1,j+1,x,y,aW,h,u=>by
  have:=VF f (l:=l) (i:=i) (j:=j) (x:=x) (y:=y) (by omega) (by simpa using h) (by simpa using u);simp;omega
theorem pw{az:Type}{l:List az}{w j:Nat}{q a6 x:az}(hq:l[w]?=some q)(h:(l.set w a6)[j]?=some x):(j=w/\x=a6)\/(j≠w/\l[j]?=some x):=by
 rw[List.getElem?_set] at h;split at h
 ·rename_i e;subst e;rw[if_pos (List.getElem?_eq_some_iff.1 hq).1] at h;cases h;exact .inl ⟨rfl,rfl⟩
 ·rename_i e;exact .inr ⟨λ h=>e h.symm,h⟩
theorem uG{az:Type}{l:List az}{w:Nat}{q a6:az}(hq:l[w]?=some q):(l.set w a6)[w]?=some a6:=List.getElem?_set_self (List.getElem?_eq_some_iff.1 hq).1
theorem Qc{az:Type}{l:List az}{w j:Nat}{a6 x:az}(hj:j≠w)(h:l[j]?=some x):(l.set w a6)[j]?=some x:=by rw[List.getElem?_set_ne (by omega)];exact h
structure Sp(aM da:Type) where
 gh:aM->List Int
 dead:aM->List Int
 zero:aM->Prop
 Ax:aM->Int->Ad->Prop
 SI:Nat->Ws->List Int->(Int->Prop)->da->Prop
 KL:Ws->List Int->da->(Int->Int->Prop)->aM->Prop
 GL:Ws->List Int->da->(Int->Int->Prop)->aM->Int->Ad->Int->Prop
 nx:Ws->List Int->da->aM->List Int×da
variable{aM da:Type}
def ag.z(s:ag):Prop:=s.e0=0/\s.e1=0/\s.e2=0
def Pc.cont:Pc aM->Option aM
 |.at_ k|.t1 k|.t2 k _|.t3 k _ _|.t4 k _ _|.t5 k _ _ _|.g1 k _ _|.g2 k _ _ _ _|.g3 k _ _ _|.bn k|.c k _|.v1 k _|.v2 k _ _|.v3 k _ _|.r1 k _|.r2 k _ _|.rs k _ _ _|.s1 k _ _ _ _|.w1 k _ _ _ _|.w2 k _ _ _ _ _|.w3 k _ _ _ _ _=>some k
 |.fin _=>none
def eQ(af:Sp aM da):Pc aM->List Int
 |.t4 k n _|.t5 k n _ _|.v1 k n|.v2 k n _|.v3 k n _=>n::af.gh k
 |.at_ k|.t1 k|.t2 k _|.t3 k _ _|.g1 k _ _|.g2 k _ _ _ _|.g3 k _ _ _|.bn k|.c k _|.r1 k _|.r2 k _ _|.rs k _ _ _|.s1 k _ _ _ _|.w1 k _ _ _ _|.w2 k _ _ _ _ _|.w3 k _ _ _ _ _=>af.gh k
 |.fin _=>[]
def eJ(af:Sp aM da):Pc aM->List Int
 |.r1 k n|.r2 k n _=>n::af.dead k
 |.at_ k|.t1 k|.t2 k _|.t3 k _ _|.t4 k _ _|.t5 k _ _ _|.g1 k _ _|.g2 k _ _ _ _|.g3 k _ _ _|.bn k|.c k _|.v1 k _|.v2 k _ _|.v3 k _ _|.rs k _ _ _|.s1 k _ _ _ _|.w1 k _ _ _ _|.w2 k _ _ _ _ _|.w3 k _ _ _ _ _=>af.dead k
 |.fin _=>[]
def k7(q:Q aM):List (Int×Int):=match q.R with
 |.s1 _ _ g gs stay|.w1 _ _ g gs stay|.w2 _ _ g gs stay _|.w3 _ _ g gs stay _=>g::(gs++stay)
 |_=>q.s.gone
def eC(af:Sp aM da)(q:Q aM):List Int:=eJ af q.R++(k7 q).map (·.1)
def own(af:Sp aM da)(q:Q aM):List Int:=eQ af q.R++eC af q
def r6(af:Sp aM da)(qs:List (Q aM))(n:Int):Nat:=(qs.map λ q=>(own af q).count n).sum
def Dq(af:Sp aM da)(qs:List (Q aM))(n:Int):Prop:=∃(j:Nat)(q:Q aM),qs[j]?=some q/\n∈eC af q
def jO(aR:List (Int×Int))(n e:Int):Prop:=∃er,e<=er/\(n,er)∈aR
theorem jO.mem{aR:List (Int×Int)}{n e:Int}(h:jO aR n e):n∈aR.map (·.1):=by obtain⟨er,_,hm⟩:=h;exact List.mem_map.2 ⟨_,hm,rfl⟩
theorem jO.app{aR:List (Int×Int)}{n e:Int}(h:jO aR n e)(am:List (Int×Int)):jO (aR++am) n e:=by obtain⟨er,h1,u⟩:=h;exact⟨er,h1,by simp[u]⟩
theorem jO.perm{aR am:List (Int×Int)}{n e:Int}(h:jO aR n e)(T:∀x∈aR,x∈am):jO am n e:=by obtain⟨er,h1,u⟩:=h;exact⟨er,h1,T _ u⟩
def mc(af:Sp aM da)(w i n e:Int)(q:Q aM):Prop:=match q.R with
 |.r1 k cO=>cO=n\/n∈af.dead k\/jO q.s.gone n e
 |.r2 k cO er=>(cO=n/\e<=er)\/n∈af.dead k\/jO q.s.gone n e
 |.rs k held c cs=>n∈af.dead k\/(jO q.s.gone n e/\(e∈held\/Ad.rv w i∈c::cs))
 |.s1 k held g gs stay=>n∈af.dead k\/(jO (g::(gs++stay)) n e/\e∈held)
 |.w1 k held _ gs stay|.w2 k held _ gs stay _|.w3 k held _ gs stay _=>n∈af.dead k\/(jO (gs++stay) n e/\e∈held)
 |R=>n∈eJ af R\/jO q.s.gone n e
theorem age{af:Sp aM da}{w i n e:Int}{q:Q aM}(h:mc af w i n e q):n∈eC af q:=by
 obtain⟨R,s⟩:=q;unfold eC;rw[List.mem_append];cases R<;>simp only[mc,eJ,k7] at h⊢
 case r1 k cO=>
  rcases h with rfl|h|h
  ·exact .inl List.mem_cons_self
  ·exact .inl (List.mem_cons_of_mem _ h)
  ·exact .inr h.mem
 case r2 k cO er=>
  rcases h with⟨rfl,_⟩|h|h
  ·exact .inl List.mem_cons_self
  ·exact .inl (List.mem_cons_of_mem _ h)
  ·exact .inr h.mem
 case rs=>exact h.imp id λ h=>h.1.mem
 case s1=>exact h.imp id λ h=>h.1.mem
 case w1=>exact h.imp id λ h=>by rw[List.map_cons];exact List.mem_cons_of_mem _ h.1.mem
 case w2=>exact h.imp id λ h=>by rw[List.map_cons];exact List.mem_cons_of_mem _ h.1.mem
 case w3=>exact h.imp id λ h=>by rw[List.map_cons];exact List.mem_cons_of_mem _ h.1.mem
 all_goals exact h.imp id jO.mem
structure xJ(af:Sp aM da)(V:Vw)(X:List Int)(qs:List (Q aM))(w i n e:Int):Prop where
 Ep:kM (V.bi n)<=e
 at_:n∈X\/∃(j:Nat)(q:Q aM),qs[j]?=some q/\mc af w i n e q
def Pr(af:Sp aM da)(V:Vw)(X:List Int)(qs:List (Q aM))(w:Int)(s:ag)(i n:Int):Prop:=0<=i/\i<=2/\xJ af V X qs w i n (s.e i)
def mB(P:Int->Int->Prop)(i:Int):Int->Int->Prop:=λ j n=>j≠i/\P j n
def Du:Int->Int->Prop:=λ _ _=>False
def Lc(S:Nat)(c:Ad):Prop:=∃w i:Int,0<=w/\w<S/\0<=i/\i<=2/\c=.rv w i
section
variable(af:Sp aM da)(l:aI)(S N:Nat)
def xI(V:Vw)(X:List Int)(g:da)(P:Int->Int->Prop)(s:ag):Pc aM->Prop
 |.at_ k=>af.KL V.W X g P k/\(af.zero k->s.z)
 |.t1 k=>af.KL V.W X g P k/\(af.zero k->s.z)
 |.t2 k f=>af.KL V.W X g P k/\(af.zero k->s.z)/\ql N f V.fr/\1<=(av f).idx
 |.t3 k f lk=>af.KL V.W X g P k/\(af.zero k->s.z)/\ql N f V.fr/\1<=(av f).idx/\(V.fr=f->lk=V.lk (av f).idx)
 |.t4 k _ _=>af.KL V.W X g P k/\(af.zero k->s.z)
 |.t5 k _ _ b=>af.KL V.W X g P k/\(af.zero k->s.z)/\b<=V.er
 |.g1 k i c=>af.KL V.W X g (mB P i) k/\¬af.zero k/\0<=i/\i<=2/\c.str l S N/\af.Ax k i c
 |.g2 k i c v _=>af.KL V.W X g (mB P i) k/\¬af.zero k/\0<=i/\i<=2/\c.str l S N/\af.Ax k i c/\(V.er=s.e i->af.GL V.W X g P k i c v)
 |.g3 k i c er=>af.KL V.W X g (mB P i) k/\¬af.zero k/\0<=i/\i<=2/\c.str l S N/\af.Ax k i c/\1<=er/\er<=V.er
 |.bn _=>False
 |.c k i=>af.KL V.W X g Du k/\0<=i/\i<=2
 |.v1 k _=>af.KL V.W X g P k/\(af.zero k->s.z)
 |.v2 k _ f=>af.KL V.W X g P k/\(af.zero k->s.z)/\ql N f V.fr
 |.v3 k n f=>af.KL V.W X g P k/\(af.zero k->s.z)/\ql N f V.fr/\V.lk n=(av f).idx
 |.r1 k _=>af.KL V.W X g P k/\(af.zero k->s.z)
 |.r2 k _ er=>af.KL V.W X g P k/\(af.zero k->s.z)/\er<=V.er
 |.rs k _ c cs=>af.KL V.W X g P k/\(af.zero k->s.z)/\(c::cs).length<=3*S/\∀x∈c::cs,Lc S x
 |.s1 k _ _ _ _=>af.KL V.W X g P k/\(af.zero k->s.z)
 |.w1 k _ _ _ _=>af.KL V.W X g P k/\(af.zero k->s.z)
 |.w2 k _ _ _ _ f=>af.KL V.W X g P k/\(af.zero k->s.z)/\ql N f V.fr
 |.w3 k _ x _ _ f=>af.KL V.W X g P k/\(af.zero k->s.z)/\ql N f V.fr/\V.lk x.1=(av f).idx
 |.fin _=>s.z
structure Loc(V:Vw)(X:List Int)(g:da)(qs:List (Q aM))(w:Nat)(q:Q aM):Prop where
 rv:∀i:Int,0<=i->i<=2->V.rv w i=q.s.e i
 e0:∀i:Int,0<=q.s.e i/\q.s.e i<=V.er
 R:xI af l S N V X g (Pr af V X qs w q.s) q.s q.R
structure Inv(aB:Nat)(V:Vw)(qs:List (Q aM))(aw X:List Int)(g:da):Prop where
 n:qs.length=S
 fr:V.fr=131072*(V.fr/131072)+aw.headD 0
 x6:0<=V.fr/131072/\V.fr/131072<=aB
 er:1<=V.er/\V.er<=aB+1
 lf:md V.lk aw
 part:∀n,aw.count n+X.count n+r6 af qs n=if 1<=n/\n<=(N:Int) then 1 else 0
 bi:∀n,1<=n->n<=(N:Int)->V.bi n<=V.er
 si:af.SI aB V.W X (Dq af qs) g
 loc:∀(w:Nat)(q:Q aM),qs[w]?=some q->Loc af l S N V X g qs w q
def oP(W:Ws)(X:List Int)(g:da)(P:Int->Int->Prop)(s:ag):Pc aM->Prop
 |.at_ k=>af.KL W X g P k/\(af.zero k->s.z)
 |.t1 k=>af.KL W X g P k/\(af.zero k->s.z)
 |.v1 k _=>af.KL W X g P k/\(af.zero k->s.z)
 |.r1 k _=>af.KL W X g P k/\(af.zero k->s.z)
 |.g1 k i c=>af.KL W X g (mB P i) k/\¬af.zero k/\0<=i/\i<=2/\c.str l S N/\af.Ax k i c
 |.bn k=>af.KL W X g Du k
 |.fin _=>s.z
 |_=>False
end
def br(W:Ws):Ak->Ws×aJ
 |.ld a=>(W,⟨W.get a,true⟩)
 |.st a v=>(W.put a v,⟨W.get a,true⟩)
 |.cs a o v=>if W.get a=o then(W.put a v,⟨W.get a,true⟩) else(W,⟨W.get a,false⟩)
 |.up=>(W,⟨0,true⟩)
def Ak.str(l:aI)(S N:Nat):Ak->Prop
 |.ld a=>a.str l S N
 |.st a _=>a.str l S N
 |.cs a _ _=>a.str l S N
 |.up=>False
theorem CB{l:aI}{S N:Nat}{V:Vw}{a:Ad}(h:a.str l S N):V.get a=V.W.get a:=by cases a<;>first|rfl|exact absurd h id
theorem Xj{l:aI}{S N:Nat}{V:Vw}{a:Ad}(h:a.str l S N)(v:Int):V.put a v={V with W:=V.W.put a v}:=by cases a<;>first|rfl|exact absurd h id
theorem Rg{l:aI}{S N:Nat}{V:Vw}{a:Ak}(h:a.str l S N):act V a=({V with W:=(br V.W a).1},(br V.W a).2):=by
 cases a with
 |ld a=>simp only[act,br,CB h]
 |st a v=>simp only[act,br,CB h,Xj h]
 |cs a o v=>simp only[act,br,CB h,Xj h];split<;>rfl
 |up=>exact absurd h id
structure zl(af:Sp aM da)(l:aI)(S N aB:Nat)(W:Ws)(X:List Int)(aC:Int->Prop)(g:da)(P:Int->Int->Prop)(s:ag)(k:aM)(W':Ws)(be:List Int)(bg:da)(gS:Pc aM):Prop where
 si:af.SI (aB+1) W' be (λ n=>aC n\/n∈eJ af gS) bg
 ok:oP af l S N W' be bg P s gS
 aie:∀(k2:aM)(P2:Int->Int->Prop),(∀i n,P2 i n->n∈X\/aC n)->(∀n∈af.gh k2,n∉X/\¬aC n/\n∉af.gh k)->(∀n∈af.dead k2,aC n/\n∉X)->af.KL W X g P2 k2->af.KL W' be bg P2 k2
 aif:∀(k2:aM)(P2:Int->Int->Prop)(i:Int)(c:Ad)(v:Int),(∀i n,P2 i n->n∈X\/aC n)->(∀n∈af.gh k2,n∉X/\¬aC n/\n∉af.gh k)->(∀n∈af.dead k2,aC n/\n∉X)->af.KL W X g (mB P2 i) k2->af.GL W X g P2 k2 i c v->af.GL W' be bg P2 k2 i c v
 count:∀n,be.count n+(eQ af gS).count n+(eJ af gS).count n=X.count n+(af.gh k).count n+(af.dead k).count n
 OA:∀n∈X,n∈be\/n∈eJ af gS
 ut:∀n∈af.dead k,n∈eJ af gS
structure mf(am:lO aM)(af:Sp aM da)(l:aI)(S N:Nat):Prop where
 iu:∀{W X g P ik k},af.KL W X g P k->(∀i n,P i n->ik i n)->af.KL W X g ik k
 MJ:∀{W X g P ik k i c v},af.GL W X g P k i c v->(∀i n,P i n->ik i n)->af.GL W X g ik k i c v
 DS:∀{W X g aB qY}{aC lK:Int->Prop},af.SI aB W X aC g->(∀n,lK n->aC n)->aB<=qY->af.SI qY W X lK g
 vV:∀{W X g P k}(s:ag)(n a:Int),af.KL W X g P k->(af.zero k->s.z)->1<=n->n<=N->n∉X->oP af l S N W X g P s (am.vV k n a)
 YR:∀(k:aM)(n a x:Int),(eQ af (am.vV k n a)).count x=(n::af.gh k).count x
 KJ:∀(k:aM)(n a:Int),eJ af (am.vV k n a)=af.dead k
 full:∀{W X g P k}(s:ag)(a:Int),af.KL W X g P k->(af.zero k->s.z)->oP af l S N W X g P s (am.full k a)
 Td:∀(k:aM)(a:Int),eQ af (am.full k a)=af.gh k
 Ic:∀(k:aM)(a:Int),eJ af (am.full k a)=af.dead k
 tM:∀{W X g P k}(s:ag),af.KL W X g P k->(af.zero k->s.z)->oP af l S N W X g P s (am.tM k)
 Tm:∀(k:aM),eQ af (am.tM k)=af.gh k
 Ih:∀(k:aM),eJ af (am.tM k)=af.dead k
 retired:∀{W X g P k}(s:ag),af.KL W X g P k->(af.zero k->s.z)->oP af l S N W X g P s (am.retired k)
 P0:∀(k:aM),eQ af (am.retired k)=af.gh k
 G7:∀(k:aM),eJ af (am.retired k)=af.dead k
 pD:∀{W X g k}(s:ag),af.KL W X g Du k->s.z->oP af l S N W X g Du s (am.pD k)
 RV:∀(k iJ:aM),am.pD k≠.bn iJ
 RU:∀(k:aM),eQ af (am.pD k)=af.gh k
 RT:∀(k:aM),eJ af (am.pD k)=af.dead k
 Ts:∀{W X g aC P k aB}(i:Int)(c:Ad),c.str l S N->af.Ax k i c->af.SI aB W X aC g->af.KL W X g (mB P i) k->(∀n∈X,P i n)->(∀i n,P i n->n∈X\/aC n)->af.GL W X g P k i c (W.get c)
 guarded:∀{W X g P k i c v}(s:ag)(a:Int),af.Ax k i c->af.GL W X g P k i c v->af.KL W X g (mB P i) k->oP af l S N W X g P s (am.guarded k v a)
 Tx:∀(k:aM)(v a:Int),eQ af (am.guarded k v a)=af.gh k
 Im:∀(k:aM)(v a:Int),eJ af (am.guarded k v a)=af.dead k
 ask:∀{W X g P aC k aB},af.SI aB W X aC g->af.KL W X g P k->(∀i n,P i n->1<=n/\n<=(N:Int))->(∀n,n∈X\/n∈af.gh k\/n∈af.dead k->1<=n/\n<=(N:Int))->(am.ask k).str l S N
 step:∀{W X aC g P k aB}(s:ag)(m:Nat),aB<=100000->af.SI aB W X aC g->af.KL W X g P k->(af.zero k->s.z)->(∀i n,P i n->n∈X\/aC n)->(∀n,n∈X\/n∈af.gh k\/aC n->1<=n/\n<=(N:Int))->X.Nodup->(af.gh k).Nodup->(∀n∈af.gh k,n∉X/\¬aC n)->(∀n,aC n->n∉X)->(∀n∈af.dead k,aC n)->zl af l S N aB W X aC g P s k (br W (am.ask k)).1 (af.nx W X g k).1 (af.nx W X g k).2 (am.tell k m (br W (am.ask k)).2)
section
variable{af:Sp aM da}{l:aI}{S N aB:Nat}{V:Vw}{qs:List (Q aM)}{aw X:List Int}{g:da}(hI:Inv af l S N aB V qs aw X g)
include hI
theorem Inv.bound{n:Int}(h:0<aw.count n+X.count n+r6 af qs n):1<=n/\n<=(N:Int):=by
 have:=hI.part n
 by_cases F:1<=n/\n<=(N:Int)
 ·exact F
 ·rw[if_neg F] at this;omega
theorem Inv.one(n:Int):aw.count n+X.count n+r6 af qs n<=1:=by have:=hI.part n;split at this<;>omega
theorem Inv.Bt{n:Int}(h:n∈aw):1<=n/\n<=(N:Int):=hI.bound (by have:=List.count_pos_iff.2 h;omega)
theorem Inv.oz{n:Int}(h:n∈X):1<=n/\n<=(N:Int):=hI.bound (by have:=List.count_pos_iff.2 h;omega)
theorem Inv.mX{n:Int}{w:Nat}{q:Q aM}(hq:qs[w]?=some q)(h:n∈own af q):1<=n/\n<=(N:Int):=hI.bound (by
 have h1:=List.count_pos_iff.2 h;have u:=sU (λ q=>(own af q).count n) hq;unfold r6;omega)
theorem Inv.CQ:0<=aw.headD 0/\aw.headD 0<=(N:Int):=by
 cases aw with
 |nil=>simp
 |cons x aw=>have:=hI.Bt (n:=x) (by simp);simp;omega
theorem Inv.vN{n:Int}{w:Nat}{q:Q aM}(hq:qs[w]?=some q)(h:n∈own af q):n∉aw/\n∉X/\(own af q).count n=1/\∀(j:Nat)(a6:Q aM),j≠w->qs[j]?=some a6->n∉own af a6:=by have h0:=hI.one n;have h1:=List.count_pos_iff.2 h;have u:=sU (λ q=>(own af q).count n) hq;have cj:(own af q).count n<=r6 af qs n:=u;refine⟨λ hf=>by have:=List.count_pos_iff.2 hf;omega,λ hf=>by have:=List.count_pos_iff.2 hf;omega,by omega,λ j a6 hj eO hm=>?_⟩;have J:=List.count_pos_iff.2 hm;have h4:=VF (λ q=>(own af q).count n) hj eO hq;have sA:(own af a6).count n+(own af q).count n<=r6 af qs n:=h4;omega
theorem Inv.Ap(hN:N<=100):(av V.fr).idx=aw.headD 0:=by have h1:=hI.fr;have u:=hI.CQ;rw[xn];omega
theorem Inv.Qb(hN:N<=100):ql N V.fr V.fr:=by have h1:=hI.fr;have u:=hI.CQ;have J:=hI.Ap hN;have h4:=hI.x6;exact⟨by omega,by rw[J];exact h1,by rw[J];exact u.2,Int.le_refl _,λ _=>rfl⟩
theorem Inv.yK:X.Nodup:=by rw[List.nodup_iff_count];intro x;have:=hI.one x;omega
theorem Inv.ahJ:aw.Nodup:=by rw[List.nodup_iff_count];intro x;have:=hI.one x;omega
theorem Inv.dq{n:Int}(h:Dq af qs n):(1<=n/\n<=(N:Int))/\n∉X/\n∉aw:=by
 obtain⟨j,q,hq,hn⟩:=h;have h1:n∈own af q:=by unfold own;rw[List.mem_append];exact .inr hn
 have u:=hI.vN hq h1;exact⟨hI.mX hq h1,u.2.1,u.1⟩
theorem Inv.JK{n:Int}{w:Nat}{q:Q aM}(hq:qs[w]?=some q)(h:n∈eQ af q.R):n∉X/\¬Dq af qs n/\n∉aw:=by
 have h1:n∈own af q:=by unfold own;rw[List.mem_append];exact .inl h
 obtain⟨u,J,h4,h5⟩:=hI.vN hq h1;refine⟨J,λ⟨j,a6,eO,hn⟩=>?_,u⟩
 by_cases hj:j=w
 ·subst hj;rw[hq] at eO;cases eO;have h6:=List.count_pos_iff.2 h;have h7:=List.count_pos_iff.2 hn;unfold own at h4;rw[List.count_append] at h4;omega
 ·exact h5 j a6 hj eO (by unfold own;rw[List.mem_append];exact .inr hn)
end
theorem aik{af:Sp aM da}{qs:List (Q aM)}{w:Nat}{q:Q aM}(a6:Q aM)(n:Int)(h:qs[w]?=some q):r6 af (qs.set w a6) n+(own af q).count n=r6 af qs n+(own af a6).count n:=tc (λ q=>(own af q).count n) a6 h
theorem aiL{af:Sp aM da}{V ba:Vw}{X be:List Int}{qs:List (Q aM)}{w:Nat}{q a6:Q aM}(hq:qs[w]?=some q){j i n e:Int}(hP:xJ af V X qs j i n e)(hb:ba.bi n=V.bi n)(hX:n∈X->n∈be\/mc af j i n e a6)(hK:mc af j i n e q->mc af j i n e a6):xJ af ba be (qs.set w a6) j i n e:=by
 refine⟨by rw[hb];exact hP.Ep,?_⟩;rcases hP.at_ with h|⟨a,x,hi,hx⟩
 ·rcases hX h with h|h
  ·exact .inl h
  ·exact .inr ⟨w,a6,uG hq,h⟩
 ·by_cases Uq:a=w
  ·subst Uq;rw[hq] at hi;cases hi;exact .inr ⟨a,a6,uG hq,hK hx⟩
  ·exact .inr ⟨a,x,Qc Uq hi,hx⟩
theorem qS{af:Sp aM da}{V:Vw}{X:List Int}{qs:List (Q aM)}{w:Int}{s:ag}{i n:Int}(h:Pr af V X qs w s i n):n∈X\/Dq af qs n:=by
 rcases h.2.2.at_ with h|⟨j,q,hq,hk⟩
 ·exact .inl h
 ·exact .inr ⟨j,q,hq,age hk⟩
variable{aM da:Type}{am:lO aM}{af:Sp aM da}{l:aI}{S N aB:Nat}
theorem GM{P ik:Int->Int->Prop}{i:Int}(h:∀i n,P i n->ik i n):∀j n,mB P i j n->mB ik i j n:=λ j n hj=>⟨hj.1,h j n hj.2⟩
theorem ah4{P:Int->Int->Prop}{i:Int}{A:Int->Prop}(h:∀i n,P i n->A n):∀j n,mB P i j n->A n:=λ j n hj=>h j n hj.2
theorem Loc.frame(T:mf am af l S N){V ba:Vw}{X be:List Int}{g bg:da}{qs Kc:List (Q aM)}{j:Nat}{x:Q aM}(h:Loc af l S N V X g qs j x)
 (hP:∀i n,Pr af V X qs j x.s i n->Pr af ba be Kc j x.s i n)(oo:ba.fr=V.fr\/ba.fr/131072=V.fr/131072+1)(fT:ba.fr=V.fr->ba.lk (av V.fr).idx=V.lk (av V.fr).idx)(pM:∀n∈own af x,ba.lk n=V.lk n)
 (AQ:ba.er=V.er\/ba.er=V.er+1)(Of:∀i,ba.rv j i=V.rv j i)
 (hK:∀k,x.R.cont=some k->∀P,(∀i n,P i n->n∈X\/Dq af qs n)->af.KL V.W X g P k->af.KL ba.W be bg P k)
 (hG:∀k,x.R.cont=some k->∀(P:Int->Int->Prop)(i:Int)(c:Ad)(v:Int),(∀i n,P i n->n∈X\/Dq af qs n)->af.KL V.W X g (mB P i) k->af.GL V.W X g P k i c v->af.GL ba.W be bg P k i c v):Loc af l S N ba be bg Kc j x:=by
 obtain⟨a1,a2,a3⟩:=h;have dk:∀i n,Pr af V X qs j x.s i n->n∈X\/Dq af qs n:=λ i n h=>qS h
 have seen:∀f,ql N f V.fr->ql N f ba.fr:=λ f h=>by
  rcases oo with e|e
  ·rw[e];exact h
  ·exact h.up e
 refine⟨λ i i0 i2=>by rw[Of];exact a1 i i0 i2,λ i=>⟨(a2 i).1,by have:=(a2 i).2;omega⟩,?_⟩;obtain⟨R,s⟩:=x;have kl:∀k,R.cont=some k->af.KL V.W X g (Pr af V X qs j s) k->af.KL ba.W be bg (Pr af ba be Kc j s) k:=λ k hk h=>T.iu (hK k hk _ dk h) hP
 have OC:∀k i,R.cont=some k->af.KL V.W X g (mB (Pr af V X qs j s) i) k->af.KL ba.W be bg (mB (Pr af ba be Kc j s) i) k:=λ k i hk h=>T.iu (hK k hk _ (ah4 dk) h) (GM hP)
 have VS:∀n,n∈own af ⟨R,s⟩->ba.lk n=V.lk n:=pM;cases R<;>simp only[xI] at a3⊢
 case at_ k=>exact⟨kl k rfl a3.1,a3.2⟩
 case t1 k=>exact⟨kl k rfl a3.1,a3.2⟩
 case t2 k f=>exact⟨kl k rfl a3.1,a3.2.1,seen f a3.2.2.1,a3.2.2.2⟩
 case t3 k f lk=>
  refine⟨kl k rfl a3.1,a3.2.1,seen f a3.2.2.1,a3.2.2.2.1,λ e=>?_⟩;rcases oo with ae|ae
  ·have ef:V.fr=f:=by rw[<-ae];exact e
   have:=fT ae;rw[ef] at this;rw[this];exact a3.2.2.2.2 ef
  ·exact absurd e (a3.2.2.1.ne ae)
 case t4 k n a=>exact⟨kl k rfl a3.1,a3.2⟩
 case t5 k n a b=>exact⟨kl k rfl a3.1,a3.2.1,by have:=a3.2.2;omega⟩
 case g1 k i c=>exact⟨OC k i rfl a3.1,a3.2⟩
 case g2 k i c v a=>refine⟨OC k i rfl a3.1,a3.2.1,a3.2.2.1,a3.2.2.2.1,a3.2.2.2.2.1,a3.2.2.2.2.2.1,λ e=>?_⟩;have e2:=(a2 i).2;simp only at e2;exact T.MJ (hG k rfl _ i c v dk a3.1 (a3.2.2.2.2.2.2 (by omega))) hP
 case g3 k i c er=>exact⟨OC k i rfl a3.1,a3.2.1,a3.2.2.1,a3.2.2.2.1,a3.2.2.2.2.1,a3.2.2.2.2.2.1,a3.2.2.2.2.2.2.1,by have:=a3.2.2.2.2.2.2.2;omega⟩
 case c k i=>exact⟨hK k rfl _ (λ _ _ h=>absurd h id) a3.1,a3.2⟩
 case v1 k n=>exact⟨kl k rfl a3.1,a3.2⟩
 case v2 k n f=>exact⟨kl k rfl a3.1,a3.2.1,seen f a3.2.2⟩
 case v3 k n f=>exact⟨kl k rfl a3.1,a3.2.1,seen f a3.2.2.1,by rw[VS n (by simp[own,eQ])];exact a3.2.2.2⟩
 case r1 k n=>exact⟨kl k rfl a3.1,a3.2⟩
 case r2 k n er=>exact⟨kl k rfl a3.1,a3.2.1,by have:=a3.2.2;omega⟩
 case rs k held c cs=>exact⟨kl k rfl a3.1,a3.2⟩
 case s1 k held g gs stay=>exact⟨kl k rfl a3.1,a3.2⟩
 case w1 k held g gs stay=>exact⟨kl k rfl a3.1,a3.2⟩
 case w2 k held g gs stay f=>exact⟨kl k rfl a3.1,a3.2.1,seen f a3.2.2⟩
 case w3 k held x gs stay f=>exact⟨kl k rfl a3.1,a3.2.1,seen f a3.2.2.1,by rw[VS x.1 (by simp[own,eC,k7])];exact a3.2.2.2⟩
 case fin o=>exact a3
structure Move(af:Sp aM da)(V ba:Vw)(X be:List Int)(qs:List (Q aM))(q a6:Q aM):Prop where
 bi:∀n,n∈X\/Dq af qs n->ba.bi n=V.bi n
 OA:∀n∈X,n∈be\/∀j i e:Int,mc af j i n e a6
 bc:∀(j:Nat)(x:Q aM)(i n:Int),qs[j]?=some x->0<=i->i<=2->xJ af V X qs j i n (x.s.e i)->mc af j i n (x.s.e i) q->mc af j i n (x.s.e i) a6
theorem Move.pr{V ba:Vw}{X be:List Int}{qs:List (Q aM)}{w:Nat}{q a6:Q aM}(hm:Move af V ba X be qs q a6)(hq:qs[w]?=some q){j:Nat}{x:Q aM}(hx:qs[j]?=some x){ah:ag}{i n:Int}(he:ah.e i=x.s.e i)(h:Pr af V X qs j x.s i n):Pr af ba be (qs.set w a6) j ah i n:=by refine⟨h.1,h.2.1,?_⟩;rw[he];exact aiL hq h.2.2 (hm.bi n (qS h)) (λ hX=>(hm.OA n hX).imp id λ hk=>hk _ _ _) (hm.bc j x i n hx h.1 h.2.1 h.2.2)
theorem Mf{qs:List (Q aM)}{w:Nat}{q a6:Q aM}(hq:qs[w]?=some q){n:Int}(h:Dq af (qs.set w a6) n):Dq af qs n\/n∈eC af a6:=by
 obtain⟨j,x,hx,hn⟩:=h;rcases pw hq hx with⟨rfl,rfl⟩|⟨_,hx⟩
 ·exact .inr hn
 ·exact .inl ⟨j,x,hx,hn⟩
theorem Inv.step(T:mf am af l S N){V ba:Vw}{qs:List (Q aM)}{aw cE X be:List Int}{g bg:da}(hI:Inv af l S N aB V qs aw X g){w:Nat}{q a6:Q aM}(hq:qs[w]?=some q)(hm:Move af V ba X be qs q a6)
 (E8:ba.fr=131072*(ba.fr/131072)+cE.headD 0)(CI:ba.fr=V.fr\/ba.fr/131072=V.fr/131072+1)(E7:ba.er=V.er\/ba.er=V.er+1)(E9:md ba.lk cE)
 (wy:∀n,cE.count n+be.count n+(own af a6).count n=aw.count n+X.count n+(own af q).count n)(E6:∀n,1<=n->n<=(N:Int)->ba.bi n<=ba.er)(adI:af.SI (aB+1) ba.W be (Dq af (qs.set w a6)) bg)
 (CL:∀j:Nat,j≠w->∀i:Int,ba.rv j i=V.rv j i)(Fa:ba.fr=V.fr->ba.lk (av V.fr).idx=V.lk (av V.fr).idx)(Fb:∀n,n∉aw->n∉own af q->ba.lk n=V.lk n)
 (adF:∀(j:Nat)(x:Q aM),j≠w->qs[j]?=some x->∀k,x.R.cont=some k->∀P,(∀i n,P i n->n∈X\/Dq af qs n)->af.KL V.W X g P k->af.KL ba.W be bg P k)
 (adE:∀(j:Nat)(x:Q aM),j≠w->qs[j]?=some x->∀k,x.R.cont=some k->∀(P:Int->Int->Prop)(i:Int)(c:Ad)(v:Int),(∀i n,P i n->n∈X\/Dq af qs n)->af.KL V.W X g (mB P i) k->af.GL V.W X g P k i c v->af.GL ba.W be bg P k i c v)
 (Fe:Loc af l S N ba be bg (qs.set w a6) w a6):Inv af l S N (aB+1) ba (qs.set w a6) cE be bg:=by
 have AQ:=hI.er;have alV:=hI.x6;have oo:=hI.fr;refine⟨by rw[List.length_set];exact hI.n,E8,?_,by omega,E9,λ n=>?_,E6,adI,λ j x hx=>?_⟩
 ·rcases CI with e|e
  ·rw[e];omega
  ·rw[e];omega
 ·have h1:=hI.part n;have u:=aik (af:=af) a6 n hq;have J:=wy n;omega
 ·rcases pw hq hx with⟨rfl,rfl⟩|⟨h1,u⟩
  ·exact Fe
  ·refine(hI.loc j x u).frame T (λ i n h=>hm.pr hq u rfl h) CI Fa (λ n hn=>?_) E7 (CL j h1) (adF j x h1 u) (adE j x h1 u);obtain⟨o1,o2,o3,ahW⟩:=hI.vN u hn;exact Fb n o1 (λ h=>ahW w q (by omega) hq h)
theorem Inv.quiet(T:mf am af l S N){V:Vw}{qs:List (Q aM)}{aw X:List Int}{g:da}(hI:Inv af l S N aB V qs aw X g){w:Nat}{q a6:Q aM}(hq:qs[w]?=some q)
 (wy:∀n,(own af a6).count n=(own af q).count n)(AH:∀n∈eC af a6,n∈eC af q)(he:∀i,a6.s.e i=q.s.e i)
 (AJ:∀(j:Nat)(x:Q aM)(i n:Int),qs[j]?=some x->0<=i->i<=2->xJ af V X qs j i n (x.s.e i)->mc af j i n (x.s.e i) q->mc af j i n (x.s.e i) a6)
 (Fe:(∀i n,Pr af V X qs w q.s i n->Pr af V X (qs.set w a6) w a6.s i n)->(∀n,Dq af (qs.set w a6) n->Dq af qs n)->xI af l S N V X g (Pr af V X (qs.set w a6) w a6.s) a6.s a6.R):Inv af l S N (aB+1) V (qs.set w a6) aw X g:=by
 have Z:=hI.loc w q hq;have hm:Move af V V X X qs q a6:=⟨λ _ _=>rfl,λ n h=>.inl h,AJ⟩;have K:∀n,Dq af (qs.set w a6) n->Dq af qs n:=λ n h=>(Mf hq h).elim id λ h=>⟨w,q,hq,AH n h⟩
 refine hI.step T hq hm hI.fr (.inl rfl) (.inl rfl) hI.lf (λ n=>by rw[wy]) hI.bi (T.DS hI.si K (Nat.le_succ aB)) (λ _ _ _=>rfl) (λ _=>rfl) (λ _ _ _=>rfl) (λ _ _ _ _ _ _ _ _ h=>h) (λ _ _ _ _ _ _ _ _ _ _ _ _ h=>h) ⟨λ i i0 i2=>by rw[he];exact Z.rv i i0 i2,λ i=>by rw[he];exact Z.e0 i,Fe (λ i n h=>hm.pr hq hq (he i) h) K⟩
theorem rX(R:Pc aM)(s:ag):(aG am R s).s=s:=by
 unfold aG;split
 ·unfold dJ;split
  ·rfl
  ·split
   ·rfl
   ·split<;>rfl
 ·rfl
theorem wc(k:aM)(s:ag):(∃i:Int,0<=i/\i<=2/\s.e i≠0/\dJ am k s=⟨.c k i,s⟩)\/(s.z/\dJ am k s=⟨am.pD k,s⟩):=by
 unfold dJ
 by_cases h0:s.e0=0
 ·by_cases h1:s.e1=0
  ·by_cases u:s.e2=0
   ·exact .inr ⟨⟨h0,h1,u⟩,by simp[h0,h1,u]⟩
   ·exact .inl ⟨2,by omega,by omega,u,by simp[h0,h1,u]⟩
  ·exact .inl ⟨1,by omega,by omega,h1,by simp[h0,h1]⟩
 ·exact .inl ⟨0,by omega,by omega,h0,by simp[h0]⟩
structure tg(af:Sp aM da)(l:aI)(S N:Nat)(V:Vw)(X:List Int)(g:da)(P:Int->Int->Prop)(s:ag)(mi de:List Int)(q:Q aM):Prop where
 T:q.s=s
 loc:xI af l S N V X g P s q.R
 gh:eQ af q.R=mi
 dead:eJ af q.R=de
 gone:k7 q=s.gone
 keeps:∀{j i n e:Int},mc af j i n e q↔n∈de\/jO s.gone n e
theorem SD{V:Vw}{X:List Int}{g:da}{P:Int->Int->Prop}{s:ag}{R:Pc aM}(h:oP af l S N V.W X g P s R)(hn:∀k,R≠.bn k):tg af l S N V X g P s (eQ af R) (eJ af R) ⟨R,s⟩:=by
 cases R<;>simp only[oP] at h
 case at_ k=>exact⟨rfl,h,rfl,rfl,rfl,Iff.rfl⟩
 case t1 k=>exact⟨rfl,h,rfl,rfl,rfl,Iff.rfl⟩
 case v1 k n=>exact⟨rfl,h,rfl,rfl,rfl,Iff.rfl⟩
 case r1 k n=>
  refine⟨rfl,h,rfl,rfl,rfl,?_⟩;intro j i cO e;simp only[mc,eJ,List.mem_cons];constructor
  ·rintro(h|h|h)
   ·exact .inl (.inl h.symm)
   ·exact .inl (.inr h)
   ·exact .inr h
  ·rintro((h|h)|h)
   ·exact .inl h.symm
   ·exact .inr (.inl h)
   ·exact .inr (.inr h)
 case g1 k i c=>exact⟨rfl,h,rfl,rfl,rfl,Iff.rfl⟩
 case bn k=>exact absurd rfl (hn k)
 case fin o=>exact⟨rfl,h,rfl,rfl,rfl,Iff.rfl⟩
theorem VT(T:mf am af l S N){V:Vw}{X:List Int}{g:da}{P ik:Int->Int->Prop}{s:ag}{R:Pc aM}(h:oP af l S N V.W X g P s R)(hP:∀i n,P i n->ik i n):oP af l S N V.W X g ik s R:=by
 cases R<;>simp only[oP] at h⊢
 case at_ k=>exact⟨T.iu h.1 hP,h.2⟩
 case t1 k=>exact⟨T.iu h.1 hP,h.2⟩
 case v1 k n=>exact⟨T.iu h.1 hP,h.2⟩
 case r1 k n=>exact⟨T.iu h.1 hP,h.2⟩
 case g1 k i c=>exact⟨T.iu h.1 (GM hP),h.2⟩
 case bn k=>exact h
 case fin o=>exact h
theorem SC(T:mf am af l S N){V:Vw}{X:List Int}{g:da}{P:Int->Int->Prop}{s:ag}{k:aM}(h:af.KL V.W X g Du k):tg af l S N V X g P s (af.gh k) (af.dead k) (dJ am k s):=by
 rcases wc (am:=am) k s with⟨i,i0,i2,_,e⟩|⟨hz,e⟩
 ·rw[e];exact⟨rfl,⟨h,i0,i2⟩,rfl,rfl,rfl,Iff.rfl⟩
 ·rw[e];have:=SD (V:=V) (VT T (T.pD s h hz) (ik:=P) (λ _ _ h=>absurd h id)) (λ iJ=>T.RV k iJ);rw[T.RU,T.RT] at this;exact this
theorem An(T:mf am af l S N){V:Vw}{X:List Int}{g:da}{P:Int->Int->Prop}{s:ag}{R:Pc aM}(h:oP af l S N V.W X g P s R):tg af l S N V X g P s (eQ af R) (eJ af R) (aG am R s):=by
 by_cases F:∃k,R=.bn k
 ·obtain⟨k,rfl⟩:=F;exact SC T h
 ·have e:aG am R s=⟨R,s⟩:=by
   unfold aG;split
   ·rename_i k;exact absurd ⟨k,rfl⟩ F
   ·rfl
  rw[e];exact SD h λ k hk=>F ⟨k,hk⟩
theorem tg.eC{V:Vw}{X:List Int}{g:da}{P:Int->Int->Prop}{s:ag}{mi de:List Int}{q:Q aM}(h:tg af l S N V X g P s mi de q):eC af q=de++s.gone.map (·.1):=by unfold Go.Proofs.YtkkldicehapklaaGreat.eC;rw[h.dead,h.gone]
theorem tg.own{V:Vw}{X:List Int}{g:da}{P:Int->Int->Prop}{s:ag}{mi de:List Int}{q:Q aM}(h:tg af l S N V X g P s mi de q):own af q=mi++(de++s.gone.map (·.1)):=by unfold Go.Proofs.YtkkldicehapklaaGreat.own;rw[h.gh,h.eC]
theorem Mi{s:ag}{i j v:Int}(i0:0<=i)(i2:i<=2)(j0:0<=j)(j2:j<=2):(s.ej i v).e j=if j=i then v else s.e j:=by
 unfold ag.ej ag.e;have:i=0\/i=1\/i=2:=by omega
 have:j=0\/j=1\/j=2:=by omega
 rcases‹i=0\/i=1\/i=2›with rfl|rfl|rfl<;>rcases‹j=0\/j=1\/j=2›with rfl|rfl|rfl<;>rfl
theorem Xh{s:ag}{i v:Int}(p:Int->Prop)(h:∀j,p (s.e j))(hv:p v):∀j,p ((s.ej i v).e j):=by
 intro j;have h0:p s.e0:=h 0;have h1:p s.e1:=h 1;have u:p s.e2:=h 2;unfold ag.ej ag.e
 by_cases i0:i=0<;>by_cases i1:i=1<;>by_cases j0:j=0<;>by_cases j1:j=1<;>simp only[i0,i1,j0,j1,if_true,if_false]<;>first|assumption|omega
theorem PI(x:ag)(i v:Int):(x.ej i v).gone=x.gone:=by
 unfold ag.ej;split
 ·rfl
 ·split<;>rfl
variable{aM da:Type}{am:lO aM}{af:Sp aM da}{l:aI}{S N aB:Nat}
def pn(V:Vw)(aw:List Int):Pc aM->List Int
 |.t3 _ f _=>if V.fr=f then aw.tail else aw
 |.v3 _ n f=>if V.fr=f then n::aw else aw
 |.w3 _ _ g _ _ f=>if V.fr=f then g.1::aw else aw
 |_=>aw
def hc(af:Sp aM da)(W:Ws)(X:List Int)(g:da):Pc aM->List Int×da
 |.at_ k=>af.nx W X g k
 |_=>(X,g)
structure Ed(af:Sp aM da)(l:aI)(S N:Nat)(V:Vw)(X:List Int)(g:da)(P:Int->Int->Prop)(s:ag)(mi de:List Int)(go:List (Int×Int))(C:Int->Int->Int->Int->Prop)(q:Q aM):Prop where
 e:∀i,q.s.e i=s.e i
 loc:xI af l S N V X g P q.s q.R
 gh:eQ af q.R=mi
 dead:eJ af q.R=de
 gone:k7 q=go
 keeps:∀{j i n e:Int},C j i n e->mc af j i n e q
theorem tg.Dx{V:Vw}{X:List Int}{g:da}{P:Int->Int->Prop}{s:ag}{mi de:List Int}{q:Q aM}(h:tg af l S N V X g P s mi de q):Ed af l S N V X g P s mi de s.gone (λ _ _ n e=>n∈de\/jO s.gone n e) q:=
 ⟨λ i=>by rw[h.T],by rw[h.T];exact h.loc,h.gh,h.dead,h.gone,λ F=>h.keeps.2 F⟩
theorem Ql(T:mf am af l S N){V:Vw}{X:List Int}{g:da}{P:Int->Int->Prop}{k:aM}{held:List Int}{s:ag}{gs stay:List (Int×Int)}(h:af.KL V.W X g P k)(hz:af.zero k->s.z):Ed af l S N V X g P s (af.gh k) (af.dead k) (gs++stay) (λ _ _ n e=>n∈af.dead k\/(jO (gs++stay) n e/\e∈held)) (du am k held s gs stay):=by
 cases gs with
 |nil=>have h1:=(An T (V:=V) (s:={s with gone:=stay}) (T.retired {s with gone:=stay} h hz)).Dx;rw[T.P0,T.G7] at h1;exact⟨h1.e,h1.loc,h1.gh,h1.dead,by rw[List.nil_append];exact h1.gone,λ F=>h1.keeps (F.imp id λ F=>by rw[List.nil_append] at F;exact F.1)⟩
 |cons x gs=>exact⟨λ _=>rfl,⟨h,hz⟩,rfl,rfl,rfl,λ F=>F⟩
theorem X7(T:mf am af l S N){V:Vw}{X:List Int}{g:da}{P:Int->Int->Prop}{k:aM}{held:List Int}{s:ag}{cs:List Ad}(h:af.KL V.W X g P k)(hz:af.zero k->s.z)(Z:cs.length<=3*S)(F:∀x∈cs,Lc S x):Ed af l S N V X g P s (af.gh k) (af.dead k) s.gone (λ j i n e=>n∈af.dead k\/(jO s.gone n e/\(e∈held\/Ad.rv j i∈cs))) (gG am k held s cs):=by
 cases cs with
 |nil=>have h1:=Ql T (V:=V) (held:=held) (s:=s) (gs:=s.gone) (stay:=[]) h hz;rw[List.append_nil] at h1;exact⟨h1.e,h1.loc,h1.gh,h1.dead,h1.gone,λ F=>h1.keeps (F.imp id λ F=>⟨F.1,F.2.elim id λ h=>by simp at h⟩)⟩
 |cons c cs=>exact⟨λ _=>rfl,⟨h,hz,Z,F⟩,rfl,rfl,rfl,λ F=>F⟩
theorem PZ:∀(m j:Nat),(nP j m).length=3*m
 |0,j=>rfl
 |m+1,j=>by simp only[nP,List.length_cons,PZ m (j+1)];omega
theorem XE{S:Nat}:∀(m j:Nat),j+m<=S->(∀c∈nP j m,Lc S c)/\∀(w:Nat)(i:Int),j<=w->w<j+m->0<=i->i<=2->Ad.rv w i∈nP j m
 |0,j,h=>⟨λ c F=>by simp[nP] at F,λ w i h1 u=>by omega⟩
 |m+1,j,h=>by
  obtain⟨h1,u⟩:=XE (S:=S) m (j+1) (by omega);refine⟨λ c F=>?_,λ w i w1 w2 i0 i2=>?_⟩
  ·simp only[nP,List.mem_cons] at F;rcases F with rfl|rfl|rfl|F
   ·exact⟨j,0,by omega,by omega,by omega,by omega,rfl⟩
   ·exact⟨j,1,by omega,by omega,by omega,by omega,rfl⟩
   ·exact⟨j,2,by omega,by omega,by omega,by omega,rfl⟩
   ·exact h1 c F
  ·simp only[nP,List.mem_cons]
   by_cases hw:w=j
   ·subst hw;have:i=0\/i=1\/i=2:=by omega
    rcases this with rfl|rfl|rfl
    ·exact .inl rfl
    ·exact .inr (.inl rfl)
    ·exact .inr (.inr (.inl rfl))
   ·exact .inr (.inr (.inr (u w i (by omega) (by omega) i0 i2)))
theorem Z9{held:List Int}{e lo hi:Int}(he:e∈held)(h1:lo<=e)(u:e<=hi):held.any (ja lo hi)=true:=by rw[List.any_eq_true];exact⟨e,he,by simp[ja,h1,u]⟩
section
variable{V:Vw}{qs:List (Q aM)}{aw X:List Int}{g:da}{w:Nat}{q:Q aM}
theorem Inv.gen(T:mf am af l S N)(hI:Inv af l S N aB V qs aw X g)(hq:qs[w]?=some q){ba:Vw}{cE:List Int}{a6:Q aM}(hW:ba.W=V.W)
 (Nh:∀n,n∈X\/Dq af qs n->ba.bi n=V.bi n)(AJ:∀(j:Nat)(x:Q aM)(i n:Int),qs[j]?=some x->0<=i->i<=2->xJ af V X qs j i n (x.s.e i)->mc af j i n (x.s.e i) q->mc af j i n (x.s.e i) a6)
 (E8:ba.fr=131072*(ba.fr/131072)+cE.headD 0)(CI:ba.fr=V.fr\/ba.fr/131072=V.fr/131072+1)(E7:ba.er=V.er\/ba.er=V.er+1)(E9:md ba.lk cE)
 (wy:∀n,cE.count n+(own af a6).count n=aw.count n+(own af q).count n)(E6:∀n,1<=n->n<=(N:Int)->ba.bi n<=ba.er)(AH:∀n∈eC af a6,n∈eC af q)
 (CL:∀j:Nat,j≠w->∀i:Int,ba.rv j i=V.rv j i)(Fa:ba.fr=V.fr->ba.lk (av V.fr).idx=V.lk (av V.fr).idx)(Fb:∀n,n∉aw->n∉own af q->ba.lk n=V.lk n)
 (adG:∀i:Int,0<=i->i<=2->ba.rv w i=a6.s.e i)(adH:∀i,0<=a6.s.e i/\a6.s.e i<=ba.er)
 (Fe:(∀i n,a6.s.e i=q.s.e i->Pr af V X qs w q.s i n->Pr af ba X (qs.set w a6) w a6.s i n)->(∀n,Dq af (qs.set w a6) n->Dq af qs n)->xI af l S N ba X g (Pr af ba X (qs.set w a6) w a6.s) a6.s a6.R):Inv af l S N (aB+1) ba (qs.set w a6) cE X g:=by
 have hm:Move af V ba X X qs q a6:=⟨Nh,λ n h=>.inl h,AJ⟩;have K:∀n,Dq af (qs.set w a6) n->Dq af qs n:=λ n h=>(Mf hq h).elim id λ h=>⟨w,q,hq,AH n h⟩
 refine hI.step T hq hm E8 CI E7 E9 (λ n=>by have:=wy n;omega) E6 (by rw[hW];exact T.DS hI.si K (Nat.le_succ aB)) CL Fa Fb (λ _ _ _ _ _ _ _ _ h=>by rw[hW];exact h) (λ _ _ _ _ _ _ _ _ _ _ _ _ h=>by rw[hW];exact h) ⟨adG,adH,Fe (λ i n he h=>hm.pr hq hq he h) K⟩
theorem Inv.go(T:mf am af l S N)(hI:Inv af l S N aB V qs aw X g)(hq:qs[w]?=some q){ba:Vw}{cE:List Int}{a6:Q aM}{ah:ag}{mi de:List Int}{go:List (Int×Int)}{C:Int->Int->Int->Int->Prop}
 (hX:∀P,(∀i n,Pr af V X qs w q.s i n->P i n)->Ed af l S N ba X g P ah mi de go C a6)(he:∀i,ah.e i=q.s.e i)(hW:ba.W=V.W)
 (Nh:∀n,n∈X\/Dq af qs n->ba.bi n=V.bi n)(AJ:∀(j:Nat)(x:Q aM)(i n:Int),qs[j]?=some x->0<=i->i<=2->xJ af V X qs j i n (x.s.e i)->mc af j i n (x.s.e i) q->C j i n (x.s.e i))
 (E8:ba.fr=131072*(ba.fr/131072)+cE.headD 0)(CI:ba.fr=V.fr\/ba.fr/131072=V.fr/131072+1)(E7:ba.er=V.er\/ba.er=V.er+1)(E9:md ba.lk cE)
 (wy:∀n,cE.count n+(mi++(de++go.map (·.1))).count n=aw.count n+(own af q).count n)(E6:∀n,1<=n->n<=(N:Int)->ba.bi n<=ba.er)(AH:∀n∈de++go.map (·.1),n∈eC af q)
 (CL:∀j i:Int,ba.rv j i=V.rv j i)(Fa:ba.fr=V.fr->ba.lk (av V.fr).idx=V.lk (av V.fr).idx)(Fb:∀n,n∉aw->n∉own af q->ba.lk n=V.lk n):Inv af l S N (aB+1) ba (qs.set w a6) cE X g:=by
 have Z:=hI.loc w q hq;have h0:=hX (λ i n=>Pr af V X qs w q.s i n) (λ _ _ h=>h);have AP:∀i,a6.s.e i=q.s.e i:=λ i=>(h0.e i).trans (he i)
 have o5:eC af a6=de++go.map (·.1):=by unfold eC;rw[h0.dead,h0.gone]
 have how:own af a6=mi++(de++go.map (·.1)):=by unfold own;rw[h0.gh,o5]
 refine hI.gen T hq hW Nh (λ j x i n hx i0 i2 hP hk=>h0.keeps (AJ j x i n hx i0 i2 hP hk)) E8 CI E7 E9 (λ n=>by rw[how];exact wy n) E6 (λ n hn=>AH n (by rw[<-o5];exact hn)) (λ j _ i=>CL j i) Fa Fb (λ i i0 i2=>by rw[CL,AP];exact Z.rv i i0 i2) (λ i=>by rw[AP];have:=Z.e0 i;omega) (λ hP _=>(hX _ (λ i n h=>hP i n (AP i) h)).loc)
theorem Inv.still(T:mf am af l S N)(hI:Inv af l S N aB V qs aw X g)(hq:qs[w]?=some q){a6:Q aM}{ah:ag}{mi de:List Int}{go:List (Int×Int)}{C:Int->Int->Int->Int->Prop}
 (hX:∀P,(∀i n,Pr af V X qs w q.s i n->P i n)->Ed af l S N V X g P ah mi de go C a6)(he:∀i,ah.e i=q.s.e i)
 (AJ:∀(j:Nat)(x:Q aM)(i n:Int),qs[j]?=some x->0<=i->i<=2->xJ af V X qs j i n (x.s.e i)->mc af j i n (x.s.e i) q->C j i n (x.s.e i))
 (wy:∀n,(mi++(de++go.map (·.1))).count n=(own af q).count n)(AH:∀n∈de++go.map (·.1),n∈eC af q):Inv af l S N (aB+1) V (qs.set w a6) aw X g:=
 hI.go T hq hX he rfl (λ _ _=>rfl) AJ hI.fr (.inl rfl) (.inl rfl) hI.lf (λ n=>by rw[wy]) hI.bi AH (λ _ _=>rfl) (λ _=>rfl) (λ _ _ _=>rfl)
theorem Tb(hI:Inv af l S N aB V qs aw X g)(hN:N<=100)(hq:qs[w]?=some q){n:Int}(hn:n∈own af q):n≠(av V.fr).idx:=λ e=>by
 have h1:=(hI.vN hq hn).1;have u:=hI.mX hq hn;rw[hI.Ap hN] at e;cases aw with
 |nil=>simp at e;omega
 |cons x aw=>simp at e;exact h1 (by simp[e])
theorem ahd{R:Pc aM}{k:aM}(h:R.cont=some k){n:Int}(hn:n∈af.gh k):n∈eQ af R:=by cases R<;>simp only[Pc.cont,Option.some.injEq,reduceCtorEq] at h<;>subst h<;>simp only[eQ,List.mem_cons]<;>first|exact hn|exact .inr hn
theorem abx{R:Pc aM}{k:aM}(h:R.cont=some k){n:Int}(hn:n∈af.dead k):n∈eJ af R:=by cases R<;>simp only[Pc.cont,Option.some.injEq,reduceCtorEq] at h<;>subst h<;>simp only[eJ,List.mem_cons]<;>first|exact hn|exact .inr hn
theorem WM(hI:Inv af l S N aB V qs aw X g)(hq:qs[w]?=some q){j:Nat}{x:Q aM}(hj:j≠w)(hx:qs[j]?=some x){k k2:aM}(hk:x.R.cont=some k2){n:Int}(hn:n∈af.gh k2)(hm:∀n∈af.gh k,n∈own af q):n∉X/\¬Dq af qs n/\n∉af.gh k:=by
 have h1:=ahd hk hn;have u:=hI.JK hx h1;refine⟨u.1,u.2.1,λ h=>?_⟩;have J:n∈own af x:=by unfold own;rw[List.mem_append];exact .inl h1
 exact(hI.vN hx J).2.2.2 w q (by omega) hq (hm n h)
theorem WL(hI:Inv af l S N aB V qs aw X g){j:Nat}{x:Q aM}(hx:qs[j]?=some x){k2:aM}(hk:x.R.cont=some k2){n:Int}(hn:n∈af.dead k2):Dq af qs n/\n∉X:=by
 have h1:n∈eC af x:=by unfold eC;rw[List.mem_append];exact .inl (abx hk hn)
 have u:Dq af qs n:=⟨j,x,hx,h1⟩;exact⟨u,(hI.dq u).2.1⟩
theorem af9(T:mf am af l S N)(hN:N<=100)(hK:aB<=100000)(hI:Inv af l S N aB V qs aw X g)(hq:qs[w]?=some q)(hf:q.R.gX):Inv af l S N (aB+1) (act V (aS am w q.R)).1 (qs.set w (tell am S q (act V (aS am w q.R)).2)) (pn V aw q.R) (hc af V.W X g q.R).1 (hc af V.W X g q.R).2:=by
 have Z:=hI.loc w _ hq;have AQ:=hI.er;have hw:w<S:=by have:=(List.getElem?_eq_some_iff.1 hq).1;have:=hI.n;omega
 obtain⟨R,s⟩:=q;have ct:=Z.R;have dk:∀i n,Pr af V X qs w s i n->n∈X\/Dq af qs n:=λ i n h=>qS h
 have Of:∀(j:Nat)(x:Q aM)(i:Int),qs[j]?=some x->0<=i->i<=2->V.rv j i=x.s.e i:=λ j x i hx i0 i2=>(hI.loc j x hx).rv i i0 i2
 have aey:∀(j:Nat)(x:Q aM),qs[j]?=some x->j<S:=λ j x hx=>by have:=(List.getElem?_eq_some_iff.1 hx).1;have:=hI.n;omega
 cases R with
 |bn k=>exact absurd hf id
 |fin o=>exact absurd hf id
 |at_ k=>
  obtain⟨k1,k2⟩:=ct;have c6:∀i n,Pr af V X qs w s i n->1<=n/\n<=(N:Int):=λ i n h=>(dk i n h).elim (λ h=>hI.oz h) λ h=>(hI.dq h).1
  have dP:∀n∈af.gh k,n∈own af ⟨.at_ k,s⟩:=λ n h=>by unfold own;rw[List.mem_append];exact .inl h
  have IA:∀n∈af.dead k,n∈eC af ⟨.at_ k,s⟩:=λ n h=>by unfold eC;rw[List.mem_append];exact .inl h
  have ny:∀n∈af.dead k,n∈own af ⟨.at_ k,s⟩:=λ n h=>by unfold own;rw[List.mem_append];exact .inr (IA n h)
  have Oh:=T.ask hI.si k1 c6 (λ n h=>h.elim (λ h=>hI.oz h) λ h=>h.elim (λ h=>hI.mX hq (dP n h)) λ h=>hI.mX hq (ny n h));have bY:=T.step (aB:=aB) s.up s.made hK hI.si k1 k2 dk (λ n h=>h.elim (λ h=>hI.oz h) λ h=>h.elim (λ h=>hI.mX hq (dP n h)) λ h=>(hI.dq h).1) hI.yK (by
   rw[List.nodup_iff_count];intro x
   by_cases hx:x∈af.gh k
   ·have h9:(af.gh k++eC af ⟨.at_ k,s⟩).count x=1:=(hI.vN hq (dP x hx)).2.2.1;rw[List.count_append] at h9;omega
   ·rw[List.count_eq_zero.2 hx];omega) (λ n h=>by have:=hI.JK hq (n:=n) h;exact⟨this.1,this.2.1⟩) (λ n h=>(hI.dq h).2.1) (λ n h=>⟨w,_,hq,IA n h⟩)
  show Inv af l S N (aB+1) (act V (am.ask k)).1 (qs.set w (aG am (am.tell k s.made (act V (am.ask k)).2) s.up)) aw (af.nx V.W X g k).1 (af.nx V.W X g k).2;rw[Rg Oh];simp only;generalize(br V.W (am.ask k)).1=W' at bY⊢;generalize am.tell k s.made (br V.W (am.ask k)).2=gS at bY⊢;generalize(af.nx V.W X g k).1=be at bY⊢;generalize(af.nx V.W X g k).2=bg at bY⊢;have Y:∀P,(∀i n,Pr af V X qs w s i n->P i n)->tg af l S N {V with W:=W'} be bg P s.up (eQ af gS) (eJ af gS) (aG am gS s.up):=λ P hP=>An T (V:={V with W:=W'}) (VT T (V:={V with W:=W'}) bY.ok hP)
  have k8:=Y _ (λ _ _ h=>h);have hm:Move af V {V with W:=W'} X be qs ⟨.at_ k,s⟩ (aG am gS s.up):=by refine⟨λ _ _=>rfl,λ n hn=>(bY.OA n hn).imp id λ h j i e=>k8.keeps.2 (.inl h),λ j x i n _ _ _ _ h=>k8.keeps.2 ?_⟩;exact h.imp (bY.ut n) id
  refine hI.step T hq hm hI.fr (.inl rfl) (.inl rfl) hI.lf (λ n=>?_) hI.bi (T.DS bY.si (λ n hn=>?_) (Nat.le_refl _)) (λ _ _ _=>rfl) (λ _=>rfl) (λ _ _ _=>rfl) (λ j x hj hx k2 fR P hP fZ=>?_) (λ j x hj hx k2 fR P i c v hP fZ o7=>?_) ⟨λ i i0 i2=>by rw[k8.T];exact Z.rv i i0 i2,λ i=>by rw[k8.T];exact Z.e0 i,?_⟩
  ·have:=bY.count n;rw[k8.own];simp only[own,eQ,eJ,eC,k7,List.count_append,ag.up] at this⊢;omega
  ·rcases Mf hq hn with h|h
   ·exact .inl h
   ·rw[k8.eC,List.mem_append] at h;rcases h with h|h
    ·exact .inr h
    ·exact .inl ⟨w,_,hq,by unfold eC;rw[List.mem_append];exact .inr h⟩
  ·exact bY.aie k2 P hP (λ n hn=>WM hI hq hj hx fR hn dP) (λ n hn=>WL hI hx fR hn) fZ
  ·exact bY.aif k2 P i c v hP (λ n hn=>WM hI hq hj hx fR hn dP) (λ n hn=>WL hI hx fR hn) fZ o7
  ·have:=(Y (Pr af {V with W:=W'} be (qs.set w (aG am gS s.up)) w (aG am gS s.up).s) (λ i n h=>hm.pr hq hq (by rw[k8.T];rfl) h)).loc;rw[k8.T] at this⊢;exact this
 |t1 k=>
  obtain⟨k1,k2⟩:=ct;show Inv af l S N (aB+1) V (qs.set w (if(av V.fr).idx=0 then _ else _)) aw X g;split
  ·refine hI.still T hq (ah:=s.up) (λ P hP=>(An T (T.full s.up s.made (T.iu k1 hP) k2)).Dx) (λ _=>rfl) (λ j x i n _ _ _ _ h=>?_) (λ n=>?_) (λ n hn=>?_)
   ·rw[T.Ic];exact h
   ·rw[T.Td,T.Ic];rfl
   ·rw[T.Ic] at hn;exact hn
  ·rename_i h0;have h0:¬(av V.fr).idx=0:=h0;have:=jb V.fr;exact hI.still T hq (ah:=s.up) (λ P hP=>⟨λ _=>rfl,⟨T.iu k1 hP,k2,hI.Qb hN,by show 1<=(av V.fr).idx;omega⟩,rfl,rfl,rfl,λ h=>h⟩) (λ _=>rfl) (λ j x i n _ _ _ _ h=>h) (λ n=>rfl) (λ n hn=>hn)
 |t2 k f=>obtain⟨k1,k2,k3,k4⟩:=ct;exact hI.still T hq (ah:=s.up) (λ P hP=>⟨λ _=>rfl,⟨T.iu k1 hP,k2,k3,k4,λ _=>rfl⟩,rfl,rfl,rfl,λ h=>h⟩) (λ _=>rfl) (λ j x i n _ _ _ _ h=>h) (λ n=>rfl) (λ n hn=>hn)
 |t3 k f lk=>
  obtain⟨k1,k2,k3,k4,k5⟩:=ct
  by_cases F:V.fr=f
  ·have e1:act V (aS am w (.t3 k f lk))=({V with fr:=eh (ii (av f) lk)},⟨V.fr,true⟩):=by simp only[aS,act,Vw.get,F,if_true];rfl
   have e2:pn V aw (.t3 k f lk)=aw.tail:=by simp only[pn,F,if_true]
   simp only[e1,e2];have hi:=hI.Ap hN;have h1:=hI.x6;have J:=hI.CQ;have h4:=hI.fr;have Jl:=k5 F;subst F;rw[hi] at k4 Jl;obtain⟨cE,hF⟩:=head_cons k4;have vk:=hI.lf;rw[hF] at vk;obtain⟨m1,m2⟩:=vk;have fT:lk=cE.headD 0:=Jl.trans m1;have M6:0<=cE.headD 0/\cE.headD 0<=(N:Int):=by
    cases cE with
    |nil=>simp
    |cons y cE=>have:=hI.Bt (n:=y) (by rw[hF];simp);simp;omega
   have G:=Pq h4 h1.1 (by omega) (by omega) (j:=lk) (by omega);have hx:eh (ii (av V.fr) lk)/131072=V.fr/131072+1:=by omega
   have ht:aw.tail=cE:=by rw[hF];rfl
   rw[ht];show Inv af l S N (aB+1) _ (qs.set w ⟨.t4 k (av V.fr).idx s.made,s.up⟩) cE X g;rw[hi];refine hI.go T hq (ah:=s.up) (λ P hP=>⟨λ _=>rfl,⟨T.iu k1 hP,k2⟩,rfl,rfl,rfl,λ h=>h⟩) (λ _=>rfl) rfl (λ _ _=>rfl) (λ j x i n _ _ _ _ h=>h) (by show eh _=131072*(eh _/131072)+_;rw[hx,G,fT]) (.inr hx) (.inl rfl) m2 (λ n=>?_) hI.bi (λ n hn=>hn) (λ _ _=>rfl) (λ e=>by have:eh (ii (av V.fr) lk)=V.fr:=e;omega) (λ _ _ _=>rfl);have F:aw.count n=(aw.headD 0::cE).count n:=by rw[<-hF]
   rw[F];simp only[own,eQ,eJ,eC,k7,List.count_append,List.count_cons,ag.up];omega
  ·have e1:act V (aS am w (.t3 k f lk))=(V,⟨V.fr,false⟩):=by simp only[aS,act,Vw.get,F,if_false]
   have e2:pn V aw (.t3 k f lk)=aw:=by simp only[pn,F,if_false]
   simp only[e1,e2];exact hI.still T hq (ah:=s.up) (λ P hP=>⟨λ _=>rfl,⟨T.iu k1 hP,k2⟩,rfl,rfl,rfl,λ h=>h⟩) (λ _=>rfl) (λ j x i n _ _ _ _ h=>h) (λ n=>rfl) (λ n hn=>hn)
 |t4 k n a=>obtain⟨k1,k2⟩:=ct;exact hI.still T hq (ah:=s.up) (λ P hP=>⟨λ _=>rfl,⟨T.iu k1 hP,k2,Int.le_refl _⟩,rfl,rfl,rfl,λ h=>h⟩) (λ _=>rfl) (λ j x i n _ _ _ _ h=>h) (λ n=>rfl) (λ n hn=>hn)
 |t5 k n a b=>
  obtain⟨k1,k2,k3⟩:=ct;have dP:=hI.JK hq (n:=n) (by simp[eQ]);have c6:=hI.mX hq (n:=n) (by simp[own,eQ]);refine hI.go T hq (ah:=s.up) (ba:={V with bi:=λ cO=>if cO=n then b else V.bi cO}) (λ P hP=>(An T (V:={V with bi:=λ cO=>if cO=n then b else V.bi cO}) (T.vV s.up n a (T.iu k1 hP) k2 c6.1 c6.2 dP.1)).Dx) (λ _=>rfl) rfl (λ x hx=>?_) (λ j x i n _ _ _ _ h=>?_) hI.fr (.inl rfl) (.inl rfl) hI.lf (λ x=>?_) (λ x x1 x2=>?_) (λ x hx=>?_) (λ _ _=>rfl) (λ _=>rfl) (λ _ _ _=>rfl)
  ·show(if x=n then b else V.bi x)=V.bi x;rw[if_neg];intro e;subst e;exact hx.elim dP.1 dP.2.1
  ·rw[T.KJ];exact h
  ·rw[T.KJ,List.count_append,T.YR,<-List.count_append];rfl
  ·show(if x=n then b else V.bi x)<=V.er;split
   ·exact k3
   ·exact hI.bi x x1 x2
  ·rw[T.KJ] at hx;exact hx
 |g1 k i c=>
  obtain⟨k1,k2,i0,i2,k3,k5⟩:=ct;have e1:act V (aS am w (.g1 k i c))=(V,⟨V.W.get c,true⟩):=by simp only[aS,act,CB k3]
  simp only[e1];refine hI.quiet T hq (a6:=⟨.g2 k i c (V.W.get c) s.made,s.up⟩) (λ n=>rfl) (λ n hn=>hn) (λ _=>rfl) (λ j x i n _ _ _ _ h=>h) (λ hP K=>?_);have rS:=T.iu k1 (GM hP);refine⟨rS,k2,i0,i2,k3,k5,λ e=>T.Ts i c k3 k5 (T.DS hI.si K (Nat.le_refl aB)) rS (λ n hn=>⟨i0,i2,?_,.inl hn⟩) (λ i n h=>qS h)⟩;have hb:=hI.oz hn;have:=hI.bi n hb.1 hb.2;rw[<-e];unfold kM;split<;>omega
 |g2 k i c v a=>
  obtain⟨k1,k2,i0,i2,k3,k5,k4⟩:=ct;show Inv af l S N (aB+1) V (qs.set w (if V.er=s.e i then _ else _)) aw X g;split
  ·rename_i he;refine hI.still T hq (ah:=s.up) (λ P hP=>(An T (T.guarded s.up a k5 (T.MJ (k4 he) hP) (T.iu k1 (GM hP)))).Dx) (λ _=>rfl) (λ j x i n _ _ _ _ h=>?_) (λ n=>?_) (λ n hn=>?_)
   ·rw[T.Im];exact h
   ·rw[T.Tx,T.Im];rfl
   ·rw[T.Im] at hn;exact hn
  ·exact hI.still T hq (ah:=s.up) (λ P hP=>⟨λ _=>rfl,⟨T.iu k1 (GM hP),k2,i0,i2,k3,k5,AQ.1,Int.le_refl _⟩,rfl,rfl,rfl,λ h=>h⟩) (λ _=>rfl) (λ j x i n _ _ _ _ h=>h) (λ n=>rfl) (λ n hn=>hn)
 |g3 k i c er=>
  obtain⟨k1,k2,i0,i2,k3,agd,k4,k5⟩:=ct;have hg:(s.up.ej i er).gone=s.gone:=PI _ _ _;have Um:k7 (⟨.g1 k i c,s.up.ej i er⟩:Q aM)=s.gone:=hg;refine hI.gen T hq (ba:=V.put (.rv w i) er) (a6:=⟨.g1 k i c,s.up.ej i er⟩) rfl (λ _ _=>rfl) (λ j x xd n hx afT afU hP h=>?_) hI.fr (.inl rfl) (.inl rfl) hI.lf (λ n=>?_) hI.bi (λ n hn=>?_) (λ j hj xd=>?_) (λ _=>rfl) (λ _ _ _=>rfl) (λ j j0 j2=>?_) (Xh (λ x=>0<=x/\x<=V.er) (λ j=>Z.e0 j) ⟨by omega,k5⟩) (λ hP K=>?_)
  ·show n∈_\/jO (s.up.ej i er).gone n _;rw[hg];exact h
  ·simp only[own,eC,Um];rfl
  ·simp only[eC,Um] at hn;exact hn
  ·simp only[Vw.put];rw[if_neg (λ h=>hj (by omega))]
  ·simp only[Vw.put];rw[Mi i0 i2 j0 j2]
   by_cases i8:j=i
   ·rw[if_pos ⟨trivial,i8⟩,if_pos i8]
   ·rw[if_neg (λ h=>i8 h.2),if_neg i8];exact Z.rv j j0 j2
  ·exact⟨T.iu k1 (λ j n hj=>⟨hj.1,hP j n (by
    show(s.up.ej i er).e j=s.e j;rw[Mi i0 i2 hj.2.1 hj.2.2.1,if_neg hj.1];rfl) hj.2⟩),k2,i0,i2,k3,agd⟩
 |c k i=>
  obtain⟨k1,i0,i2⟩:=ct;have hg:(s.up.ej i 0).gone=s.gone:=PI _ _ _;have Y:∀P,tg af l S N (V.put (.rv w i) 0) X g P (s.up.ej i 0) (af.gh k) (af.dead k) (dJ am k (s.up.ej i 0)):=λ P=>SC (am:=am) T (V:=V.put (.rv w i) 0) (P:=P) (s:=s.up.ej i 0) k1
  have k8:=Y Du;refine hI.gen T hq (ba:=V.put (.rv w i) 0) (a6:=dJ am k (s.up.ej i 0)) rfl (λ _ _=>rfl) (λ j x xd n hx afT afU hP h=>?_) hI.fr (.inl rfl) (.inl rfl) hI.lf (λ n=>?_) hI.bi (λ n hn=>?_) (λ j hj xd=>?_) (λ _=>rfl) (λ _ _ _=>rfl) (λ j j0 j2=>?_) ?_ (λ hP K=>?_)
  ·rw[k8.keeps,hg];exact h
  ·rw[k8.own,hg];rfl
  ·rw[k8.eC,hg] at hn;exact hn
  ·simp only[Vw.put];rw[if_neg (λ h=>hj (by omega))]
  ·simp only[Vw.put];rw[k8.T,Mi i0 i2 j0 j2]
   by_cases i8:j=i
   ·rw[if_pos ⟨trivial,i8⟩,if_pos i8]
   ·rw[if_neg (λ h=>i8 h.2),if_neg i8];exact Z.rv j j0 j2
  ·rw[k8.T];exact Xh (λ x=>0<=x/\x<=V.er) (λ j=>Z.e0 j) ⟨by omega,by omega⟩
  ·have:=(Y (Pr af (V.put (.rv w i) 0) X (qs.set w (dJ am k (s.up.ej i 0))) w (dJ am k (s.up.ej i 0)).s)).loc;rw[k8.T] at this⊢;exact this
 |v1 k n=>obtain⟨k1,k2⟩:=ct;exact hI.still T hq (ah:=s.up) (λ P hP=>⟨λ _=>rfl,⟨T.iu k1 hP,k2,hI.Qb hN⟩,rfl,rfl,rfl,λ h=>h⟩) (λ _=>rfl) (λ j x i n _ _ _ _ h=>h) (λ n=>rfl) (λ n hn=>hn)
 |v2 k n f=>
  obtain⟨k1,k2,k3⟩:=ct;have cv:n∈own af ⟨.v2 k n f,s⟩:=by simp[own,eQ]
  have N8:=(hI.vN hq cv).1;have aW:=Tb hI hN hq cv;have fT:∀x,x≠n->(if x=n then(av f).idx else V.lk x)=V.lk x:=λ x hx=>if_neg hx
  refine hI.go T hq (ah:=s.up) (ba:=V.put (.lk n) (av f).idx) (λ P hP=>⟨λ _=>rfl,⟨T.iu k1 hP,k2,k3,by simp[Vw.put]⟩,rfl,rfl,rfl,λ h=>h⟩) (λ _=>rfl) rfl (λ _ _=>rfl) (λ j x i n _ _ _ _ h=>h) hI.fr (.inl rfl) (.inl rfl) (hI.lf.same λ x hx=>fT x (λ e=>N8 (e▸hx))) (λ n=>rfl) hI.bi (λ n hn=>hn) (λ _ _=>rfl) (λ _=>fT _ (λ e=>aW e.symm)) (λ x _ hx=>fT x (λ e=>hx (e▸cv)))
 |v3 k n f=>
  obtain⟨k1,k2,k3,k4⟩:=ct
  by_cases F:V.fr=f
  ·have e1:act V (aS am w (.v3 k n f))=({V with fr:=eh (ii (av f) n)},⟨V.fr,true⟩):=by simp only[aS,act,Vw.get,F,if_true];rfl
   have e2:pn V aw (.v3 k n f:Pc aM)=n::aw:=by simp only[pn,F,if_true]
   simp only[e1,e2];have hi:=hI.Ap hN;have h1:=hI.x6;have J:=hI.CQ;have h4:=hI.fr;subst F;have hg:=hI.mX hq (n:=n) (by simp[own,eQ]);have G:=Pq h4 h1.1 (by omega) (by omega) (j:=n) (by omega);have hx:eh (ii (av V.fr) n)/131072=V.fr/131072+1:=by omega
   show Inv af l S N (aB+1) _ (qs.set w (aG am (am.tM k) s.up)) (n::aw) X g;refine hI.go T hq (ah:=s.up) (ba:={V with fr:=eh (ii (av V.fr) n)}) (λ P hP=>(An T (V:={V with fr:=eh (ii (av V.fr) n)}) (T.tM s.up (T.iu k1 hP) k2)).Dx) (λ _=>rfl) rfl (λ _ _=>rfl) (λ j x i n _ _ _ _ h=>?_) (by show eh _=131072*(eh _/131072)+_;rw[hx,G];rfl) (.inr hx) (.inl rfl) ⟨by rw[k4,hi],hI.lf⟩ (λ x=>?_) hI.bi (λ x hx=>?_) (λ _ _=>rfl) (λ e=>by have:eh (ii (av V.fr) n)=V.fr:=e;omega) (λ _ _ _=>rfl)
   ·rw[T.Ih];exact h
   ·rw[T.Tm,T.Ih];simp only[own,eQ,eJ,eC,k7,List.count_append,List.count_cons,ag.up];omega
   ·rw[T.Ih] at hx;exact hx
  ·have e1:act V (aS am w (.v3 k n f))=(V,⟨V.fr,false⟩):=by simp only[aS,act,Vw.get,F,if_false]
   have e2:pn V aw (.v3 k n f:Pc aM)=aw:=by simp only[pn,F,if_false]
   simp only[e1,e2];exact hI.still T hq (ah:=s.up) (λ P hP=>⟨λ _=>rfl,⟨T.iu k1 hP,k2⟩,rfl,rfl,rfl,λ h=>h⟩) (λ _=>rfl) (λ j x i n _ _ _ _ h=>h) (λ n=>rfl) (λ n hn=>hn)
 |r1 k n=>
  obtain⟨k1,k2⟩:=ct;refine hI.still T hq (a6:=⟨.r2 k n V.er,s.up⟩) (ah:=s.up) (C:=λ _ _ x e=>(n=x/\e<=V.er)\/x∈af.dead k\/jO s.gone x e) (λ P hP=>⟨λ _=>rfl,⟨T.iu k1 hP,k2,Int.le_refl _⟩,rfl,rfl,rfl,λ h=>h⟩) (λ _=>rfl) (λ j x i m hx _ _ _ h=>?_) (λ n=>rfl) (λ n hn=>hn);rcases h with h|h
  ·exact .inl ⟨h,((hI.loc j x hx).e0 i).2⟩
  ·exact .inr h
 |r2 k n er=>
  obtain⟨k1,k2,k3⟩:=ct;have Fm:∀x,(af.gh k++(af.dead k++(s.gone++[(n,er)]).map (·.1))).count x=(own af ⟨.r2 k n er,s⟩).count x:=λ x=>by
   simp only[own,eQ,eJ,eC,k7,List.count_append,List.count_cons,List.map_append,List.map_cons,List.map_nil,List.count_nil];omega
  have fC:∀x∈af.dead k++(s.gone++[(n,er)]).map (·.1),x∈eC af ⟨.r2 k n er,s⟩:=λ x hx=>by
   simp only[eC,eJ,k7,List.mem_append,List.map_append,List.map_cons,List.map_nil,List.mem_cons,List.not_mem_nil,or_false] at hx⊢;rcases hx with h|h|h
   ·exact .inl (.inr h)
   ·exact .inr h
   ·exact .inl (.inl h)
  have TS:∀n,1<=n->n<=(N:Int)->V.bi n<=V.er+1:=λ n n1 n2=>by have:=hI.bi n n1 n2;omega
  have IH:∀(j:Nat)(x:Q aM)(i m:Int),mc af j i m (x.s.e i) ⟨.r2 k n er,s⟩->m∈af.dead k\/jO (s.gone++[(n,er)]) m (x.s.e i):=λ j x i m h=>by
   rcases h with⟨rfl,h⟩|h|h
   ·exact .inr ⟨er,h,by simp⟩
   ·exact .inl h
   ·exact .inr (h.app _)
  show Inv af l S N (aB+1) {V with er:=V.er+1} (qs.set w (if(s.gone.length:Int)+1<2*(S:Int) then _ else _)) aw X g;split
  ·refine hI.go T hq (ah:={s.up with gone:=s.gone++[(n,er)]}) (ba:={V with er:=V.er+1}) (λ P hP=>(An T (V:={V with er:=V.er+1}) (T.retired {s.up with gone:=s.gone++[(n,er)]} (T.iu k1 hP) k2)).Dx) (λ _=>rfl) rfl (λ _ _=>rfl) (λ j x i m _ _ _ _ h=>?_) hI.fr (.inl rfl) (.inr rfl) hI.lf (λ x=>?_) TS (λ x hx=>?_) (λ _ _=>rfl) (λ _=>rfl) (λ _ _ _=>rfl)
   ·rw[T.G7];exact IH j x i m h
   ·rw[T.P0,T.G7];exact congrArg _ (Fm x)
   ·rw[T.G7] at hx;exact fC x hx
  ·have hr:=XE (S:=S) S 0 (by omega);refine hI.go T hq (ah:={s.up with gone:=s.gone++[(n,er)]}) (ba:={V with er:=V.er+1}) (λ P hP=>X7 T (V:={V with er:=V.er+1}) (s:={s.up with gone:=s.gone++[(n,er)]}) (T.iu k1 hP) k2 (by rw[PZ];exact Nat.le_refl _) hr.1) (λ _=>rfl) rfl (λ _ _=>rfl) (λ j x i m hx i0 i2 _ h=>?_) hI.fr (.inl rfl) (.inr rfl) hI.lf (λ x=>?_) TS (λ x hx=>fC x hx) (λ _ _=>rfl) (λ _=>rfl) (λ _ _ _=>rfl)
   ·rcases IH j x i m h with h|h
    ·exact .inl h
    ·exact .inr ⟨h,.inr (hr.2 j i (by omega) (by have:=aey j x hx;omega) i0 i2)⟩
   ·exact congrArg _ (Fm x)
 |rs k held c cs=>
  obtain⟨k1,k2,k3,k4⟩:=ct;show Inv af l S N (aB+1) V (qs.set w (gG am k (held++[V.get c]) s.up cs)) aw X g;refine hI.still T hq (ah:=s.up) (λ P hP=>X7 T (s:=s.up) (T.iu k1 hP) k2 (by simp at k3;omega) (λ x hx=>k4 x (by simp[hx]))) (λ _=>rfl) (λ j x i m hx i0 i2 _ h=>?_) (λ n=>rfl) (λ n hn=>hn);rcases h with h|⟨h1,u⟩
  ·exact .inl h
  ·refine .inr ⟨h1,?_⟩;rcases u with u|u
   ·exact .inl (by simp[u])
   ·rw[List.mem_cons] at u;rcases u with u|u
    ·left;subst u;simp only[Vw.get,Of j x i hx i0 i2];simp
    ·exact .inr u
 |s1 k held y gs stay=>
  obtain⟨k1,k2⟩:=ct;show Inv af l S N (aB+1) V (qs.set w (if held.any (ja (kM (V.bi y.1)) y.2)=true then _ else _)) aw X g
  by_cases cv:held.any (ja (kM (V.bi y.1)) y.2)=true
  ·rw[if_pos cv];refine hI.still T hq (ah:=s.up) (λ P hP=>Ql T (s:=s.up) (T.iu k1 hP) k2) (λ _=>rfl) (λ j x i m _ _ _ _ h=>?_) (λ n=>?_) (λ n hn=>?_)
   ·rcases h with h|⟨h1,u⟩
    ·exact .inl h
    ·refine .inr ⟨h1.perm λ z hz=>?_,u⟩;simp only[List.mem_cons,List.mem_append,List.not_mem_nil,or_false] at hz⊢;rcases hz with rfl|hz|hz
     ·exact .inr (.inr rfl)
     ·exact .inl hz
     ·exact .inr (.inl hz)
   ·simp only[own,eQ,eJ,eC,k7,List.map_append,List.count_append,List.map_cons,List.map_nil,List.count_cons,List.count_nil];omega
   ·simp only[eJ,eC,k7,List.map_append,List.map_cons,List.map_nil,List.mem_append,List.mem_cons,List.not_mem_nil,or_false] at hn⊢;rcases hn with h|h|h|h
    ·exact .inl h
    ·exact .inr (.inr (.inl h))
    ·exact .inr (.inr (.inr h))
    ·exact .inr (.inl h)
  ·rw[if_neg cv];refine hI.still T hq (ah:=s.up) (C:=λ _ _ n e=>n∈af.dead k\/(jO (gs++stay) n e/\e∈held)) (λ P hP=>⟨λ _=>rfl,⟨T.iu k1 hP,k2⟩,rfl,rfl,rfl,λ h=>h⟩) (λ _=>rfl) (λ j x i m _ _ _ hP h=>?_) (λ n=>rfl) (λ n hn=>hn);rcases h with h|⟨⟨er,h1,u⟩,J⟩
   ·exact .inl h
   ·rw[List.mem_cons] at u;rcases u with u|u
    ·exfalso;apply cv;subst u;exact Z9 J hP.Ep h1
    ·exact .inr ⟨⟨er,h1,u⟩,J⟩
 |w1 k held y gs stay=>obtain⟨k1,k2⟩:=ct;exact hI.still T hq (ah:=s.up) (C:=λ _ _ n e=>n∈af.dead k\/(jO (gs++stay) n e/\e∈held)) (λ P hP=>⟨λ _=>rfl,⟨T.iu k1 hP,k2,hI.Qb hN⟩,rfl,rfl,rfl,λ h=>h⟩) (λ _=>rfl) (λ j x i n _ _ _ _ h=>h) (λ n=>rfl) (λ n hn=>hn)
 |w2 k held y gs stay f=>
  obtain⟨k1,k2,k3⟩:=ct;have cv:y.1∈own af ⟨.w2 k held y gs stay f,s⟩:=by simp[own,eC,k7]
  have N8:=(hI.vN hq cv).1;have aW:=Tb hI hN hq cv;have fT:∀x,x≠y.1->(if x=y.1 then(av f).idx else V.lk x)=V.lk x:=λ x hx=>if_neg hx
  refine hI.go T hq (ah:=s.up) (ba:=V.put (.lk y.1) (av f).idx) (C:=λ _ _ n e=>n∈af.dead k\/(jO (gs++stay) n e/\e∈held)) (λ P hP=>⟨λ _=>rfl,⟨T.iu k1 hP,k2,k3,by simp[Vw.put]⟩,rfl,rfl,rfl,λ h=>h⟩) (λ _=>rfl) rfl (λ _ _=>rfl) (λ j x i n _ _ _ _ h=>h) hI.fr (.inl rfl) (.inl rfl) (hI.lf.same λ x hx=>fT x (λ e=>N8 (e▸hx))) (λ n=>rfl) hI.bi (λ n hn=>hn) (λ _ _=>rfl) (λ _=>fT _ (λ e=>aW e.symm)) (λ x _ hx=>fT x (λ e=>hx (e▸cv)))
 |w3 k held y gs stay f=>
  obtain⟨k1,k2,k3,k4⟩:=ct
  by_cases F:V.fr=f
  ·have e1:act V (aS am w (.w3 k held y gs stay f))=({V with fr:=eh (ii (av f) y.1)},⟨V.fr,true⟩):=by simp only[aS,act,Vw.get,F,if_true];rfl
   have e2:pn V aw (.w3 k held y gs stay f:Pc aM)=y.1::aw:=by simp only[pn,F,if_true]
   simp only[e1,e2];have hi:=hI.Ap hN;have h1:=hI.x6;have J:=hI.CQ;have h4:=hI.fr;subst F;have hg:=hI.mX hq (n:=y.1) (by simp[own,eC,k7]);have G:=Pq h4 h1.1 (by omega) (by omega) (j:=y.1) (by omega);have hx:eh (ii (av V.fr) y.1)/131072=V.fr/131072+1:=by omega
   show Inv af l S N (aB+1) _ (qs.set w (du am k held s.up gs stay)) (y.1::aw) X g;refine hI.go T hq (ah:=s.up) (ba:={V with fr:=eh (ii (av V.fr) y.1)}) (λ P hP=>Ql T (V:={V with fr:=eh (ii (av V.fr) y.1)}) (s:=s.up) (T.iu k1 hP) k2) (λ _=>rfl) rfl (λ _ _=>rfl) (λ j x i n _ _ _ _ h=>h) (by show eh _=131072*(eh _/131072)+_;rw[hx,G];rfl) (.inr hx) (.inl rfl) ⟨by rw[k4,hi],hI.lf⟩ (λ x=>?_) hI.bi (λ x hx=>?_) (λ _ _=>rfl) (λ e=>by have:eh (ii (av V.fr) y.1)=V.fr:=e;omega) (λ _ _ _=>rfl)
   ·simp only[own,eQ,eJ,eC,k7,List.map_append,List.count_append,List.map_cons,List.count_cons];omega
   ·simp only[eJ,eC,k7,List.map_append,List.map_cons,List.mem_append,List.mem_cons] at hx⊢;rcases hx with h|h|h
    ·exact .inl h
    ·exact .inr (.inr (.inl h))
    ·exact .inr (.inr (.inr h))
  ·have e1:act V (aS am w (.w3 k held y gs stay f))=(V,⟨V.fr,false⟩):=by simp only[aS,act,Vw.get,F,if_false]
   have e2:pn V aw (.w3 k held y gs stay f:Pc aM)=aw:=by simp only[pn,F,if_false]
   simp only[e1,e2];exact hI.still T hq (ah:=s.up) (C:=λ _ _ n e=>n∈af.dead k\/(jO (gs++stay) n e/\e∈held)) (λ P hP=>⟨λ _=>rfl,⟨T.iu k1 hP,k2⟩,rfl,rfl,rfl,λ h=>h⟩) (λ _=>rfl) (λ j x i n _ _ _ _ h=>h) (λ n=>rfl) (λ n hn=>hn)
end
theorem LO{nx nd:Int->Int}{N:Int}:∀(aR acc:List Int)(k:Nat),(∀x∈aR,1<=x/\x<=N)->(acc++aR).Nodup->aR.length<k->md nd aR->(∀x∈aR,nx x=nd x)->nX nx N k acc (aR.headD 0)=acc++aR
 |[],acc,0,_,_,hk,_,_=>by simp at hk
 |[],acc,k+1,_,_,_,_,_=>by
  rw[nX,if_neg (by simp)];simp
 |x::aR,acc,0,_,_,hk,_,_=>by simp at hk
 |x::aR,acc,k+1,hb,K,hk,Z,hn=>by
  have hx:=hb x (by simp);have FK:x∉acc:=λ h=>by
   rw[List.nodup_append] at K;exact K.2.2 x h x (by simp) rfl
  rw[List.headD_cons,nX,if_pos ⟨hx.1,hx.2,FK⟩,hn x (by simp),Z.1,LO aR (acc++[x]) k (λ y hy=>hb y (by simp[hy])) (by simpa using K) (by simp at hk;omega) Z.2 (λ y hy=>hn y (by simp[hy]))];simp
theorem aar{m:List Int}{c:Int}(h0:0<=c)(h1:c<m.length):db m c=eY m c:=by unfold db;rw[if_neg (by omega)]
theorem HF{l:aI}{S N:Nat}{m:List Int}{V:Vw}(hL:oO l S N)(hV:qm l S N m V){a:Ad}(ha:a.ok l S N):db m (a.cell l)=V.get a:=by have h:=Ad.zx hL ha;have Z:=hV.len;rw[aar h.1 (by omega)];exact hV.at_ a ha
section
variable{aM da:Type}{am:lO aM}{af:Sp aM da}{l:aI}{S N aB:Nat}{m:List Int}{V:Vw}{qs:List (Q aM)}{aw X:List Int}{g:da}{w:Nat}{q:Q aM}
theorem agF(hL:oO l S N)(hN:N<=100)(hV:qm l S N m V)(hI:Inv af l S N aB V qs aw X g):vD l m=aw:=by
 have K:=hI.ahJ;unfold vD;rw[show db m l.free=V.fr from HF hL hV (a:=.free) trivial,hI.Ap hN];have:=LO (nx:=λ n=>db m (bf l n 7)) (N:=l.nodes) aw [] (l.nodes.toNat+1) (λ x hx=>by have:=hI.Bt hx;have:=hL.nodes;omega) (by simpa using K) (by
  have:=Dw N aw K (λ x hx=>hI.Bt hx);have:=hL.nodes;omega) hI.lf (λ x hx=>HF hL hV (a:=.lk x) (hI.Bt hx))
 simpa using this
theorem ZV(a:Ak):(a.acc l).cell=a.ad.cell l:=by cases a<;>rfl
theorem akr(hL:oO l S N){a:Ad}(ha:a.ok l S N){n:Int}(h1:1<=n)(hN:n<=N)(hn:∀i,a≠.nd n i)(hb:a≠.bi n):¬(bf l n 0<=a.cell l/\a.cell l<bf l n 0+7):=by
 rintro⟨c1,c2⟩;have e0:=hL.node n 0 h1 hN (by omega) (by omega);generalize hj:a.cell l-bf l n 0=j
 by_cases h6:j=6
 ·have e6:=hL.node n 6 h1 hN (by omega) (by omega);exact hb (Ad.LM hL ha (b:=.bi n) ⟨h1,hN⟩ (by show a.cell l=bf l n 6;omega))
 ·have e6:=hL.node n j h1 hN (by omega) (by omega);exact hn j (Ad.LM hL ha (b:=.nd n j) ⟨h1,hN,by omega,by omega⟩ (by show a.cell l=bf l n j;omega))
theorem aap(T:mf am af l S N)(hI:Inv af l S N aB V qs aw X g)(hq:qs[w]?=some q)(hf:q.R.gX){n:Int}(hn:n∈aw)(hk:∀k i,q.R=.at_ k->(am.ask k).ad≠.nd n i)(hg:∀k i c j,q.R=.g1 k i c->c≠.nd n j):(∀i,(aS am w q.R).ad≠.nd n i)/\(aS am w q.R).ad≠.bi n:=by
 have ct:=(hI.loc w q hq).R;have jW:∀x,x∈own af q->x≠n:=λ x hx e=>by
  subst e;exact(hI.vN hq hx).1 hn
 obtain⟨R,s⟩:=q;cases R with
 |at_ k=>
  refine⟨λ i=>hk k i rfl,λ e=>?_⟩;have bY:=T.ask (k:=k) (P:=Pr af V X qs w s) hI.si ct.1 (λ i n h=>by
   rcases qS h with h|h
   ·exact hI.oz h
   ·exact(hI.dq h).1) (λ n h=>by
   rcases h with h|h|h
   ·exact hI.oz h
   ·exact hI.mX hq (List.mem_append_left _ h)
   ·exact hI.mX hq (List.mem_append_right _ (List.mem_append_left _ h)))
  have e:(am.ask k).ad=.bi n:=e;have:(am.ask k).ad.str l S N:=by
   cases h:am.ask k with
   |ld a=>rw[h] at bY;exact bY
   |st a v=>rw[h] at bY;exact bY
   |cs a o v=>rw[h] at bY;exact bY
   |up=>rw[h] at bY;exact absurd bY id
  rw[e] at this;exact absurd this id
 |t5 k x a b=>exact⟨λ i e=>by simp[aS,Ak.ad] at e,λ e=>by simp only[aS,Ak.ad,Ad.bi.injEq] at e;exact jW x (by simp[own,eQ]) e⟩
 |s1 k held y gs stay=>exact⟨λ i e=>by simp[aS,Ak.ad] at e,λ e=>by simp only[aS,Ak.ad,Ad.bi.injEq] at e;exact jW y.1 (by simp[own,eC,k7]) e⟩
 |g1 k i c=>refine⟨λ j=>hg k i c j rfl,λ e=>?_⟩;have bY:c.str l S N:=ct.2.2.2.2.1;have e:c=.bi n:=e;rw[e] at bY;exact absurd bY id
 |rs k held c cs=>obtain⟨x,i,_,_,_,_,rfl⟩:=ct.2.2.2 c (by simp);exact⟨λ i e=>by simp[aS,Ak.ad] at e,λ e=>by simp[aS,Ak.ad] at e⟩
 |fin o=>exact absurd hf id
 |bn k=>exact absurd hf id
 |_=>exact⟨λ i e=>by simp[aS,Ak.ad] at e,λ e=>by simp[aS,Ak.ad] at e⟩
end
def bt(n:Int):Int:=eh ⟨n,false,0⟩
def pk(n:Int):Int:=eh ⟨n,true,0⟩
structure j6 where
 there:Bool
 prev:Int
 cur:Int
 next:Int
 aD:Int
deriving DecidableEq
def Aw:j6:=⟨false,0,0,0,0⟩
structure Lh where
 a:Int
 b:Int
 prev:Int
 cur:Int
 pt:Int
def mJ(l:aI)(O K o:Int):Nat->Option Lh->Pm j6
 |0,_=>.pure Aw
 |k+1,none=>(tO l O 0 K).bind λ p=>mJ l O K o k (some ⟨0,1,K,(av p.1).idx,p.2⟩)
 |k+1,some x=>if x.cur=0 then .pure ⟨false,x.prev,0,0,x.pt⟩
  else(tO l O x.b (bf l x.cur 0)).bind λ p=>(gR x.prev).bind λ seen=>xi.bind λ look=>if seen=bt x.cur then
   (gR (bf l x.cur 1)).bind λ eE=>
    if(av p.1).mark then(oS x.prev (bt x.cur) (bt (av p.1).idx)).bind λ ok=>if ok then xi.bind λ at_=>(s7 l x.cur).bind λ _=>mJ l O K o k (some ⟨x.b,x.a,x.prev,(av p.1).idx,at_⟩) else mJ l O K o k none
    else if eE<o then mJ l O K o k (some ⟨x.b,3-x.a-x.b,bf l x.cur 0,(av p.1).idx,p.2⟩)
    else if eE=o then .pure ⟨true,x.prev,x.cur,p.1,p.2⟩
    else .pure ⟨false,x.prev,x.cur,0,look⟩
   else mJ l O K o k none
def tL(l:aI)(O K o:Int):Pm j6:=λ log s=>mJ l O K o (2*(log.length-s.made)+2) none log s
def ki(l:aI)(O:Int)(o:bd):Pm bd:=(tC l O).bind λ _=>.pure o
def getM(l:aI)(O K o:Int):Pm bd:=(tL l O K o).bind λ f=>if f.there then(gR (bf l f.cur 2)).bind λ v=>ki l O ⟨v,true,0,f.aD,[]⟩ else ki l O ⟨0,false,0,f.aD,[]⟩
def uD(l:aI)(f:j6)(n:Int):Pm (Option Int):=(kj (bf l n 0) (bt f.cur)).bind λ _=>(oS f.prev (bt f.cur) (bt n)).bind λ ok=>if ok then xi.bind λ a=>.pure (some a) else .pure none
def sZ(l:aI)(O K o v:Int):Nat->Int->Pm bd
 |0,_=>.pure ⟨0,false,0,0,[]⟩
 |k+1,n=>(tL l O K o).bind λ f=>if f.there then(if n=0 then ki l O ⟨0,false,0,f.aD,[]⟩ else(Ay l n).bind λ _=>ki l O ⟨0,false,0,f.aD,[]⟩)
  else if n=0 then(KH l).bind λ t=>if t.2.2 then(kj (bf l t.1 1) o).bind λ _=>(kj (bf l t.1 2) v).bind λ _=>(uD l f t.1).bind λ r=>match r with
   |some a=>ki l O ⟨0,true,0,a,[]⟩
   |none=>sZ l O K o v k t.1
   else ki l O ⟨0,false,8,t.2.1,[]⟩
  else(uD l f n).bind λ r=>match r with
   |some a=>ki l O ⟨0,true,0,a,[]⟩
   |none=>sZ l O K o v k n
def xt(l:aI)(O K o v:Int):Pm bd:=λ log s=>sZ l O K o v (log.length+1-s.made) 0 log s
def wk(l:aI)(O K o:Int):Nat->Pm bd
 |0=>.pure ⟨0,false,0,0,[]⟩
 |k+1=>(tL l O K o).bind λ f=>if f.there then(oS (bf l f.cur 0) f.next (pk (av f.next).idx)).bind λ ok=>if ok then xi.bind λ a=>(oS f.prev (bt f.cur) (bt (av f.next).idx)).bind λ ok=>if ok then(tC l O).bind λ _=>(s7 l f.cur).bind λ _=>.pure ⟨0,true,0,a,[]⟩ else(tL l O K o).bind λ _=>ki l O ⟨0,true,0,a,[]⟩
   else wk l O K o k
  else ki l O ⟨0,false,0,f.aD,[]⟩
def wl(l:aI)(O K o:Int):Pm bd:=λ log s=>wk l O K o (log.length+1-s.made) log s
def fJ(l:aI)(O:Int)(gone:List (Int×Int))(op:a9)(log:List aJ):bz×bd×Bool:=
 if op.obj<0\/l.size<=op.obj then(iB,⟨0,false,1,-1,gone⟩,true)
 else if op.kind=1 then tI (getM l O op.obj op.a log ⟨0,gone,0,0,0⟩)
 else if op.kind=2 then tI (xt l O op.obj op.a op.b log ⟨0,gone,0,0,0⟩)
 else if op.kind=3 then tI (wl l O op.obj op.a log ⟨0,gone,0,0,0⟩)
 else(iB,⟨0,false,1,-1,gone⟩,true)
def pT(l:aI)(a:Nat)(k:Nat):List bz:=(List.range k).map λ(i:Nat)=>⟨2,bf l ((a:Int)+i) 7,0,if(a:Int)+i=l.nodes then 0 else(a:Int)+i+1⟩
def pg(l:aI)(a:Nat):List bz:=pT l a (l.nodes.toNat+1-a)++[⟨2,l.free,0,a⟩]
def aaI(l:aI):List bz:=pg l 1++[⟨2,l.era,0,1⟩]
def aaJ(l:aI):List Int:=(qn (List.replicate l.size.toNat 0) (List.replicate l.size.toNat 0) [] (aaI l)).1
def uy(l:aI)(m:List Int)(h:Int):List Int:=nX (λ n=>(av (db m (bf l n 0))).idx) l.nodes (l.nodes.toNat+1) [] (av (db m h)).idx
def uE(l:aI)(m:List Int)(h:Int):List (Int×Int):=((uy l m h).filter λ n=>!(av (db m (bf l n 0))).mark).map λ n=>(db m (bf l n 1),db m (bf l n 2))
structure Lb where
 nodes:Int
 want:List (List a9)
 turns:List Int
def agn(p:Lb):aI:=agm p.want.length (2+p.nodes%8) 1 0 0
structure ZE where
 at_:Nat
 log:List aJ
 gone:List (Int×Int)
structure nW where
 au:Int
 at_:Int
 op:a9
 gone:List (Int×Int)
 acc:bz
 res:aJ
 done:Bool
 out:bd
structure Zx where
 m:List Int
 ar:List ZE
 out:List nW
def start(p:Lb):Zx:=⟨aaJ (agn p),List.replicate p.want.length ⟨0,[],[]⟩,[]⟩
structure ak5 where
 steps:List nW
 m:List Int
 gone:List (List (Int×Int))
 ends:Bool
structure ak4(p:Lb):Prop where
 w1:1<=p.want.length
 w3:p.want.length<=3
 t:p.turns.length<=200
 n0:0<=p.nodes
 aH:∀x∈p.turns,0<=x/\x<=255
 l:∀w∈p.want,w.length<=4
inductive Fk where
 |get|put (v n:Int)|del|fin (a:Int)
inductive Lk where
 |ga (o:Int) (f:Fk)
 |gb (o:Int) (f:Fk) (a b D cur:Int)
 |ls (o:Int) (f:Fk) (a b D cur w t:Int)
 |lo (o:Int) (f:Fk) (a b D cur w t k:Int)
 |cu (o:Int) (f:Fk) (a b D cur w:Int)
 |rr (o:Int) (f:Fk) (a b D nx pt:Int)
 |gv (o cur pt:Int)
 |tk (o v D cur:Int)
 |p1 (o v n D cur:Int)|p2 (o v n D cur:Int)|p0 (o v n D cur:Int)|cp (o v n D cur:Int)
 |sv (a:Int)
 |cm (o D cur w:Int)|cd (o D cur nx at_:Int)
 |rx (n a:Int)|ry (a:Int)
 |fi (o:bd)
def vJ(a:Int):bd:=⟨0,true,0,a,[]⟩
def BJ(a:Int):bd:=⟨0,false,0,a,[]⟩
section
variable(K:Ad)
def bM(D:Int):Ad:=if D=0 then K else .nd D 0
def bh:Lk->Ak
 |.ls _ _ _ _ D _ _ _=>.ld (bM K D)
 |.lo _ _ _ _ _ cur _ _ _=>.ld (.nd cur 1)
 |.cu _ _ _ _ D cur w=>.cs (bM K D) (bt cur) (bt (av w).idx)
 |.gv _ cur _=>.ld (.nd cur 2)
 |.p1 o _ n _ _=>.st (.nd n 1) o
 |.p2 _ v n _ _=>.st (.nd n 2) v
 |.p0 _ _ n _ cur=>.st (.nd n 0) (bt cur)
 |.cp _ _ n D cur=>.cs (bM K D) (bt cur) (bt n)
 |.cm _ _ cur w=>.cs (.nd cur 0) w (pk (av w).idx)
 |.cd _ D cur nx _=>.cs (bM K D) (bt cur) (bt nx)
 |_=>.ld (K)
def d9(o:Int)(f:Fk)(D cur pt:Int):Pc Lk:=match f with
 |.get=>.bn (.fi (BJ pt))
 |.put v n=>if n=0 then .t1 (.tk o v D cur) else .at_ (.p0 o v n D cur)
 |.del=>.bn (.fi (BJ pt))
 |.fin a=>.bn (.fi (vJ a))
def eU(o:Int)(f:Fk)(D cur w pt:Int):Pc Lk:=match f with
 |.get=>.at_ (.gv o cur pt)
 |.put _ n=>if n=0 then .bn (.fi (BJ pt)) else .v1 (.sv pt) n
 |.del=>.at_ (.cm o D cur w)
 |.fin a=>.bn (.fi (vJ a))
def dG(o:Int)(f:Fk)(a b D cur pt:Int):Pc Lk:=if cur=0 then d9 o f D 0 pt else .g1 (.gb o f a b D cur) b (.nd cur 0)
def dl(o:Int)(f:Fk):Pc Lk:=.g1 (.ga o f) 0 (K)
def cZ:Lk->Nat->aJ->Pc Lk
 |.ls o f a b D cur w t,made,r=>if r.val=bt cur then .at_ (.lo o f a b D cur w t made) else dl K o f
 |.lo o f a b D cur w t k,_,r=>if(av w).mark then .at_ (.cu o f a b D cur w) else if r.val<o then dG o f b (3-a-b) cur (av w).idx t else if r.val=o then eU o f D cur w t else d9 o f D cur k
 |.cu o f a b D cur w,made,r=>if r.ok then .r1 (.rr o f a b D (av w).idx made) cur else dl K o f
 |.gv _ _ pt,_,r=>.bn (.fi ⟨r.val,true,0,pt,[]⟩)
 |.p1 o v n D cur,_,_=>.at_ (.p2 o v n D cur)
 |.p2 o v n D cur,_,_=>.at_ (.p0 o v n D cur)
 |.p0 o v n D cur,_,_=>.at_ (.cp o v n D cur)
 |.cp o v n _ _,made,r=>if r.ok then .bn (.fi (vJ made)) else dl K o (.put v n)
 |.cm o D cur w,made,r=>if r.ok then .at_ (.cd o D cur (av w).idx made) else dl K o .del
 |.cd o _ cur _ at_,_,r=>if r.ok then .bn (.rx cur at_) else dl K o (.fin at_)
 |k,_,_=>.at_ k
def U:lO Lk where
 ask:=bh K
 tell:=cZ K
 vV:=λ k n _=>match k with
  |.tk o v D cur=>.at_ (.p1 o v n D cur)
  |k=>.v1 k n
 full:=λ k a=>match k with
  |.tk _ _ _ _=>.bn (.fi ⟨0,false,8,a,[]⟩)
  |k=>.at_ k
 guarded:=λ k v t=>match k with
  |.ga o f=>dG o f 0 1 0 (av v).idx t
  |.gb o f a b D cur=>.at_ (.ls o f a b D cur v t)
  |k=>.at_ k
 pD:=λ k=>match k with
  |.fi o=>.fin o
  |.rx n a=>.r1 (.ry a) n
  |k=>.at_ k
 tM:=λ k=>match k with
  |.sv a=>.bn (.fi (BJ a))
  |k=>.at_ k
 retired:=λ k=>match k with
  |.rr o f a b D nx pt=>dG o f b a D nx pt
  |.ry a=>.fin (vJ a)
  |k=>.at_ k
end
section
variable{K:Ad}{l:aI}{S:Nat}{O:Int}{log:List aJ}
theorem QO(s:ag):s.up.made=s.made+1:=rfl
theorem xj(s:ag):((s.up.made:Nat):Int)-1=(s.made:Int):=by rw[QO];omega
theorem Xc(D:Int):(bM K D).cell l=if D=0 then K.cell l else bf l D 0:=by unfold bM;split<;>rfl
theorem mI{o:bd}{s:ag}(T:s.made<=log.length):cf (U K) l S O (aG (U K) (.bn (.fi o)) s) (ki l O o log s) (log.drop s.made):=
 HT (M0:=s.made) (f:=λ _=>.pure o) (λ _ _ _ _ _ _=>Me) s (Nat.le_refl _) T
theorem rq(hS:l.ar=(S:Int)){o:Int}{f:Fk}{g:j6->Pm bd}{M0:Nat}
 (hN:∀(D cur pt:Int)(s:ag),M0<=s.made->s.made<=log.length->cf (U K) l S O (aG (U K) (d9 o f D cur pt) s) (g ⟨false,(bM K D).cell l,cur,0,pt⟩ log s) (log.drop s.made))
 (hY:∀(D cur w pt:Int)(s:ag),M0<=s.made->s.made<=log.length->cf (U K) l S O (aG (U K) (eU o f D cur w pt) s) (g ⟨true,(bM K D).cell l,cur,w,pt⟩ log s) (log.drop s.made)):
 ∀(k:Nat)(s:ag),M0<=s.made->s.made<=log.length->
  (2*(log.length-s.made)+2<=k->cf (U K) l S O (aG (U K) (dl K o f) s) ((mJ l O (K.cell l) o k none).bind g log s) (log.drop s.made))/\
  (∀a b D cur pt,2*(log.length-s.made)+1<=k->cf (U K) l S O (aG (U K) (dG o f a b D cur pt) s) ((mJ l O (K.cell l) o k (some ⟨a,b,(bM K D).cell l,cur,pt⟩)).bind g log s) (log.drop s.made))
 |0,s,_,_=>⟨λ h=>by omega,λ a b D cur pt h=>by omega⟩
 |k+1,s,hM,T=>by
  refine⟨λ hk=>?_,λ a b D cur pt hk=>?_⟩
  ·rw[mJ,bind_assoc];refine EP (M0:=s.made) (k:=Lk.ga o f) (i:=0) (c:=K) (λ v t ah adp uo=>?_) (log.length+1-s.made) s (Nat.le_refl _) (by omega);have:=(rq hS hN hY k ah (by omega) uo).2 0 1 0 (av v).idx t (by omega);rw[show(bM K 0).cell l=K.cell l from by rw[Xc,if_pos rfl]] at this;exact this
  ·rw[mJ];unfold dG
   by_cases h0:cur=0
   ·subst h0;simp only[if_true];exact hN D 0 pt s hM T
   ·simp only[h0,if_false];rw[bind_assoc];refine EP (M0:=s.made) (k:=Lk.gb o f a b D cur) (i:=b) (c:=.nd cur 0) (λ w t s1 mo fm=>?_) (log.length+1-s.made) s (Nat.le_refl _) (by omega);show cf (U K) l S O ⟨.at_ (.ls o f a b D cur w t),s1⟩ _ _;rw[bind_assoc,pj];refine fM (q:=⟨.at_ (Lk.ls o f a b D cur w t),s1⟩) (s:=s1) rfl trivial λ r1 h1=>?_
    rw[bind_assoc,bl jI,xj];show cf (U K) l S O (aG (U K) (if r1.val=bt cur then .at_ (.lo o f a b D cur w t s1.made) else dl K o f) s1.up) _ _
    by_cases hv:r1.val=bt cur
    ·rw[if_pos hv,if_pos hv,bind_assoc,pj];refine fM (q:=⟨.at_ (Lk.lo o f a b D cur w t s1.made),s1.up⟩) (s:=s1.up) rfl trivial λ r2 u=>?_
     have cj:s1.made+1<log.length:=u;have m2:s1.up.up.made=s1.made+2:=rfl;have AB:s1.up.up.made<=log.length:=by omega
     show cf (U K) l S O (aG (U K) (if(av w).mark then .at_ (.cu o f a b D cur w) else if r2.val<o then dG o f b (3-a-b) cur (av w).idx t else if r2.val=o then eU o f D cur w t else d9 o f D cur s1.made) s1.up.up) _ _
     by_cases hm:(av w).mark=true
     ·rw[if_pos hm,if_pos hm,bind_assoc,tz];refine fM (q:=⟨.at_ (Lk.cu o f a b D cur w),s1.up.up⟩) (s:=s1.up.up) rfl trivial λ r3 J=>?_
      have jh:s1.made+2<log.length:=J;have m3:s1.up.up.up.made=s1.made+3:=rfl;show cf (U K) l S O (aG (U K) (if r3.ok then .r1 (.rr o f a b D (av w).idx s1.up.up.made) cur else dl K o f) s1.up.up.up) _ _
      by_cases lW:r3.ok=true
      ·rw[if_pos lW,if_pos lW,bind_assoc,bl jI,xj,bind_assoc];show cf (U K) l S O ⟨.r1 (.rr o f a b D (av w).idx s1.up.up.made) cur,s1.up.up.up⟩ _ _;refine Kk hS (M0:=s1.up.up.up.made) (λ s2 sD ic=>?_) s1.up.up.up (Nat.le_refl _);exact(rq hS hN hY k s2 (by omega) ic).2 b a D (av w).idx s1.up.up.made (by omega)
      ·rw[if_neg lW,if_neg lW];exact(rq hS hN hY k s1.up.up.up (by omega) (by omega)).1 (by omega)
     ·rw[if_neg hm,if_neg hm]
      by_cases aY:r2.val<o
      ·rw[if_pos aY,if_pos aY];have:=(rq hS hN hY k s1.up.up (by omega) AB).2 b (3-a-b) cur (av w).idx t (by omega);rw[show(bM K cur).cell l=bf l cur 0 from by rw[Xc,if_neg h0]] at this;exact this
      ·rw[if_neg aY,if_neg aY]
       by_cases he:r2.val=o
       ·rw[if_pos he,if_pos he];exact hY D cur w t s1.up.up (by omega) AB
       ·rw[if_neg he,if_neg he];exact hN D cur s1.made s1.up.up (by omega) AB
    ·rw[if_neg hv,if_neg hv];have m1:s1.up.made=s1.made+1:=rfl;exact(rq hS hN hY k s1.up (by omega) (by omega)).1 (by omega)
theorem wu(hS:l.ar=(S:Int)){o:Int}{f:Fk}{g:j6->Pm bd}{M0:Nat}
 (hN:∀(D cur pt:Int)(s:ag),M0<=s.made->s.made<=log.length->cf (U K) l S O (aG (U K) (d9 o f D cur pt) s) (g ⟨false,(bM K D).cell l,cur,0,pt⟩ log s) (log.drop s.made))
 (hY:∀(D cur w pt:Int)(s:ag),M0<=s.made->s.made<=log.length->cf (U K) l S O (aG (U K) (eU o f D cur w pt) s) (g ⟨true,(bM K D).cell l,cur,w,pt⟩ log s) (log.drop s.made))
 (s:ag)(hM:M0<=s.made)(T:s.made<=log.length):cf (U K) l S O (aG (U K) (dl K o f) s) ((tL l O (K.cell l) o).bind g log s) (log.drop s.made):=
 (rq hS hN hY _ s hM T).1 (Nat.le_refl _)
theorem MH(hS:l.ar=(S:Int)){o:Int}(s:ag)(T:s.made<=log.length):cf (U K) l S O (aG (U K) (dl K o .get) s) (getM l O (K.cell l) o log s) (log.drop s.made):=by
 unfold getM;refine wu hS (M0:=s.made) (λ D cur pt s1 _ fm=>?_) (λ D cur w pt s1 _ fm=>?_) s (Nat.le_refl _) T
 ·simp only[Bool.false_eq_true,if_false];exact mI fm
 ·simp only[if_true];rw[pj];refine fM (q:=⟨.at_ (Lk.gv o cur pt),s1⟩) (s:=s1) rfl trivial λ r1 h1=>?_
  exact mI (by simp only[ag.up];omega)
theorem PH{o v n D cur:Int}{M0:Nat}{c pt nx:Int}{th:Bool}{g:Option Int->Pm bd}(F:c=(bM K D).cell l)
 (h1:∀(a:Nat)(s:ag),s.made<=log.length->cf (U K) l S O (aG (U K) (.bn (.fi (vJ a))) s) (g (some (a:Int)) log s) (log.drop s.made))
 (u:∀s:ag,M0<s.made->s.made<=log.length->cf (U K) l S O (aG (U K) (dl K o (.put v n)) s) (g none log s) (log.drop s.made))
 (s:ag)(hM:M0<=s.made):cf (U K) l S O ⟨.at_ (.p0 o v n D cur),s⟩ ((uD l ⟨th,c,cur,nx,pt⟩ n).bind g log s) (log.drop s.made):=by
 subst F;rw[uD,bind_assoc,se];refine fM (q:=⟨.at_ (Lk.p0 o v n D cur),s⟩) (s:=s) rfl trivial λ r1 J=>?_
 rw[bind_assoc,tz];refine fM (q:=⟨.at_ (Lk.cp o v n D cur),s.up⟩) (s:=s.up) rfl trivial λ r2 h4=>?_
 have sA:s.made+1<log.length:=h4;have m2:s.up.up.made=s.made+2:=rfl;show cf (U K) l S O (aG (U K) (if r2.ok then .bn (.fi (vJ s.up.made)) else dl K o (.put v n)) s.up.up) _ _
 by_cases hk:r2.ok=true
 ·rw[if_pos hk,if_pos hk,bind_assoc,bl jI,xj];exact h1 s.up.made s.up.up (by omega)
 ·rw[if_neg hk,if_neg hk];exact u s.up.up (by omega) (by omega)
theorem GY(hS:l.ar=(S:Int)){o v:Int}:∀(k:Nat)(n:Int)(s:ag),s.made<=log.length->log.length-s.made<k->cf (U K) l S O (aG (U K) (dl K o (.put v n)) s) (sZ l O (K.cell l) o v k n log s) (log.drop s.made)
 |0,n,s,_,h=>by omega
 |k+1,n,s,T,h=>by
  rw[sZ];have hB:∀(n D cur pt:Int)(s1:ag),s.made<=s1.made->cf (U K) l S O ⟨.at_ (.p0 o v n D cur),s1⟩ ((uD l ⟨false,(bM K D).cell l,cur,0,pt⟩ n).bind (λ r=>match r with
   |some a=>ki l O ⟨0,true,0,a,[]⟩
   |none=>sZ l O (K.cell l) o v k n) log s1) (log.drop s1.made):=λ n D cur pt s1 mo=>
   PH (M0:=s1.made) rfl (λ a s2 ic=>mI ic) (λ s2 sD ic=>GY hS k n s2 ic (by omega)) s1 (Nat.le_refl _)
  refine wu hS (M0:=s.made) (λ D cur pt s1 mo fm=>?_) (λ D cur w pt s1 mo fm=>?_) s (Nat.le_refl _) T
  ·simp only[Bool.false_eq_true,if_false];unfold d9
   by_cases hn:n=0
   ·simp only[hn,if_true];refine QK (M0:=s1.made) (k:=Lk.tk o v D cur) (λ t a s2 sD ic=>?_) (λ a s2 sD ic=>?_) (log.length+1-s1.made) s1 (Nat.le_refl _) (by omega)
    ·simp only[if_true];show cf (U K) l S O ⟨.at_ (.p1 o v t D cur),s2⟩ _ _;rw[se];refine fM (q:=⟨.at_ (Lk.p1 o v t D cur),s2⟩) (s:=s2) rfl trivial λ r1 J=>?_
     rw[se];refine fM (q:=⟨.at_ (Lk.p2 o v t D cur),s2.up⟩) (s:=s2.up) rfl trivial λ r2 h4=>?_
     exact hB t D cur pt s2.up.up (by simp only[ag.up];omega)
    ·simp only[Bool.false_eq_true,if_false];exact mI ic
   ·simp only[hn,if_false];exact hB n D cur pt s1 mo
  ·simp only[if_true];unfold eU
   by_cases hn:n=0
   ·simp only[hn,if_true];exact mI fm
   ·simp only[hn,if_false];refine MI (k:=Lk.sv pt) (n:=n) (M0:=s1.made) (λ s2 _ ic=>?_) (log.length+1-s1.made) s1 (Nat.le_refl _) (by omega);exact mI ic
theorem ED(hS:l.ar=(S:Int)){o:Int}:∀(k:Nat)(s:ag),s.made<=log.length->log.length-s.made<k->cf (U K) l S O (aG (U K) (dl K o .del) s) (wk l O (K.cell l) o k log s) (log.drop s.made)
 |0,s,_,h=>by omega
 |k+1,s,T,h=>by
  rw[wk];refine wu hS (M0:=s.made) (λ D cur pt s1 mo fm=>?_) (λ D cur w pt s1 mo fm=>?_) s (Nat.le_refl _) T
  ·simp only[Bool.false_eq_true,if_false];exact mI fm
  ·simp only[if_true];unfold eU;simp only;rw[tz];refine fM (q:=⟨.at_ (Lk.cm o D cur w),s1⟩) (s:=s1) rfl trivial λ r1 J=>?_
   have m1:s1.up.made=s1.made+1:=rfl;show cf (U K) l S O (aG (U K) (if r1.ok then .at_ (.cd o D cur (av w).idx s1.made) else dl K o .del) s1.up) _ _
   by_cases hk:r1.ok=true
   ·rw[if_pos hk,if_pos hk,bl jI,xj,tz];refine fM (q:=⟨.at_ (Lk.cd o D cur (av w).idx s1.made),s1.up⟩) (s:=s1.up) rfl trivial λ r2 h4=>?_
    have sA:s1.made+1<log.length:=h4;have m2:s1.up.up.made=s1.made+2:=rfl;show cf (U K) l S O (aG (U K) (if r2.ok then .bn (.rx cur s1.made) else dl K o (.fin s1.made)) s1.up.up) _ _
    by_cases fR:r2.ok=true
    ·rw[if_pos fR,if_pos fR];refine HT (M0:=s1.up.up.made) (λ s2 _ _ _ sD ic=>?_) s1.up.up (Nat.le_refl _) (by omega);show cf (U K) l S O ⟨.r1 (.ry s1.made) cur,s2⟩ _ _;refine Kk hS (M0:=s2.made) (λ s3 yd my=>?_) s2 (Nat.le_refl _);exact Me
    ·rw[if_neg fR,if_neg fR];refine wu hS (M0:=s1.up.up.made) (λ xq fj Kb s3 yd my=>?_) (λ xq fj aA Kb s3 yd my=>?_) s1.up.up (Nat.le_refl _) (by omega)
     ·exact mI my
     ·exact mI my
   ·rw[if_neg hk,if_neg hk];exact ED hS k s1.up (by omega) (by omega)
end
def i5(op:a9):Fk:=if op.kind=1 then .get else if op.kind=2 then .put op.b 0 else .del
def d6(K:Ad)(op:a9)(gone:List (Int×Int)):Q Lk:=⟨dl K op.a (i5 op),⟨0,gone,0,0,0⟩⟩
theorem GC{l:aI}{S:Nat}{O:Int}(hS:l.ar=(S:Int)){gone:List (Int×Int)}{op:a9}{log:List aJ}{h:Ad}(ho:h.cell l=op.obj)(hh:¬(op.obj<0\/l.size<=op.obj))(hk:op.kind=1\/op.kind=2\/op.kind=3):
 fJ l O gone op log=rn (U h) l O (bZ (U h) S (d6 h op gone) log):=by
 unfold fJ;rw[if_neg hh];unfold d6 i5;rw[<-ho];rcases hk with hk|hk|hk
 ·rw[if_pos hk,if_pos hk];exact MH hS ⟨0,gone,0,0,0⟩ (Nat.zero_le _)
 ·rw[if_neg (by omega),if_pos hk,if_neg (by omega),if_pos hk];exact GY hS (log.length+1) 0 ⟨0,gone,0,0,0⟩ (Nat.zero_le _) (by simp)
 ·rw[if_neg (by omega),if_neg (by omega),if_pos hk,if_neg (by omega),if_neg (by omega)];exact ED hS (log.length+1) ⟨0,gone,0,0,0⟩ (Nat.zero_le _) (by simp)
def fq(l:aI)(m i:Int):Int:=if 1<i then-1 else jL l.map l.maps (2+l.buckets) m i
def il(l:aI)(m b:Int):Int:=if b<0\/l.buckets<=b then-1 else jL l.map l.maps (2+l.buckets) m (2+b)
def gF(k:Int):Int:=((List.range 16).map λ(i:Nat)=>k/2^i%2*2^(15-i)).sum
def lH(k:Int):Int:=2*gF k+1
def fv(b:Int):Int:=2*gF b
def xg(n:Int):Int:=gF (n%131072/2)
def eH(b:Int):Int:=if b<1 then 0 else b-2^(Nat.log2 b.toNat)
def qR(n:Int):Bool:=decide (n=2^(Nat.log2 n.toNat))
def lR(l:aI)(O:Int)(gone:List (Int×Int))(kind fB eE v:Int)(lg:List aJ):bz×bd×Bool:=
 let K:=bf l fB 0
 let ob:=if K<0 then l.done else K
 let r:=fJ l O gone ⟨kind,ob,eE,v⟩ lg
 if r.2.2=false/\K<0/\r.1.cell=ob then({r.1 with cell:=K},r.2) else r
def n7(f:Nat->Bool):Nat->Nat->Nat
 |0,k=>k
 |n+1,k=>if f k then k else n7 f n (k+1)
def oF(l:aI)(O kind fB eE v:Int):Pm (bd×bz):=λ log s=>
 let lg:=log.drop s.made
 let r:=lR l O s.gone kind fB eE v lg
 if r.2.2=false then .error r.1
 else if r.2.1.aD<0 then .ok ((r.2.1,iB),s)
 else
  let f:=λ k=>(lR l O s.gone kind fB eE v (lg.take k)).2.2
  let k:=n7 f (lg.length-(r.2.1.aD.toNat+1)) (r.2.1.aD.toNat+1)
  .ok (({r.2.1 with aD:=r.2.1.aD+s.made},(lR l O s.gone kind fB eE v (lg.take r.2.1.aD.toNat)).1),{s with made:=s.made+k,gone:=r.2.1.gone})
def QL(o:bd×bz):Pm Int:=λ log s=>.ok (if o.1.is then(av o.2.new).idx else(av ((log.getD (o.1.aD.toNat+2) ⟨0,false⟩).val)).idx,s)
def mF(l:aI)(O m:Int):Nat->Int->Pm (Int×bd)
 |0,_=>.pure (0,gl)
 |k+1,b=>(h2 ⟨1,il l m b,0,0⟩).bind λ r=>if(av r.val).idx≠0 then .pure ((av r.val).idx,gl)
  else if b=0 then .pure (0,⟨0,false,1,-1,[]⟩)
  else(mF l O m k (eH b)).bind λ a=>if a.2.err≠0 then .pure (0,a.2)
  else(oF l O 2 a.1 (fv b) 0).bind λ o=>if o.1.err≠0 then .pure (0,o.1)
  else(QL o).bind λ n=>(h2 ⟨3,il l m b,0,eh ⟨n,false,0⟩⟩).bind λ _=>.pure (n,gl)
def q6(l:aI)(m kind size:Int):Pm Unit:=if kind=2 then(h2 ⟨4,fq l m 1,0,1⟩).bind λ r=>if 2*size<=r.val/\size<l.buckets then(h2 ⟨3,fq l m 0,size,2*size⟩).bind λ _=>.pure () else .pure ()
 else if kind=3 then(h2 ⟨4,fq l m 1,0,-1⟩).bind λ _=>.pure () else .pure ()
def uH(l:aI)(O:Int)(op:a9):Pm bd:=(h2 ⟨1,fq l op.obj 0,0,0⟩).bind λ r=>if r.val<1\/l.buckets<r.val\/qR r.val=false then .pure ⟨0,false,1,-1,[]⟩
 else(mF l O op.obj 64 (op.a%r.val)).bind λ d=>if d.2.err≠0 then .pure d.2
 else(oF l O op.kind d.1 (lH op.a) op.b).bind λ o=>if o.1.is then(q6 l op.obj op.kind r.val).bind λ _=>.pure o.1 else .pure o.1
def oq(l:aI)(O:Int)(gone:List (Int×Int))(op:a9)(log:List aJ):bz×bd×Bool:=
 if op.kind<1\/3<op.kind\/fq l op.obj 0<0\/op.a<0\/65536<=op.a then(iB,⟨0,false,1,-1,gone⟩,true)
 else tI (uH l O op log ⟨0,gone,0,0,0⟩)
def bR(s n b:Int):aI:=⟨s,n,b,1,1,0,1,0,0,0,1,2,3,4,4+s,4+2*s,4+5*s,4+8*s,4+12*s,8+12*s,8+12*s,10+12*s+b,10+12*s+b,10+12*s+b,10+12*s+b+8*n⟩
def ig(l:aI)(m n:Int):List bz:=[⟨2,bf l n 0,0,0⟩,⟨2,bf l n 1,0,0⟩,⟨2,bf l n 2,0,0⟩,⟨2,bf l n 6,0,1⟩,⟨2,fq l m 0,0,1⟩,⟨2,fq l m 1,0,0⟩,⟨2,il l m 0,0,eh ⟨n,false,0⟩⟩]
def tR(l:aI):List bz:=ig l 0 1++pg l 2++[⟨2,l.era,0,1⟩]
def tS(l:aI):List Int:=(qn (List.replicate l.size.toNat 0) (List.replicate l.size.toNat 0) [] (tR l)).1
structure cw where
 au:Int
 op:a9
 val:Int
 is:Bool
 first:Int
 last:Int
 aD:Int
structure bp where
 op:a9
 log:List aJ
 steps:List Int
 next:Nat
 gone:List (Int×Int)
structure cP where
 m:List Int
 step:Int
 ar:List bp
 calls:List cw
 full:Int
 cD:Bool
 bad:Bool
def gZ:a9:=⟨0,0,0,0⟩
def kH:bp:=⟨gZ,[],[],0,[]⟩
def i6(l:aI)(ar:Nat):cP:=⟨tS l,0,List.replicate ar kH,[],0,false,false⟩
def sH(l:aI)(m:List Int)(a:bz):Bool:=if a.cell<l.node\/l.size<=a.cell\/(a.cell-l.node)%8=7 then false else(vD l m).any λ x=>decide (x=(a.cell-l.node)/8+1)
def jw(t:cP)(au:Nat)(x:bp)(out:bd):cP:=
 let fA:cP:={t with ar:=t.ar.set au {x with op:=gZ,gone:=out.gone}}
 if out.err=8 then{fA with full:=t.full+1}
 else if out.err≠0\/x.steps.length=0 then{fA with bad:=true}
 else{fA with calls:=t.calls++[⟨au,x.op,out.val,out.is,x.steps.getD 0 0,x.steps.getD (x.steps.length-1) 0,if 0<=out.aD/\out.aD<x.steps.length then x.steps.getD out.aD.toNat 0 else-1⟩]}
def lB(l:aI)(t:cP)(au:Nat)(x:bp):cP:=
 let r:=oq l au x.gone x.op x.log
 if r.2.2 then jw t au x r.2.1
 else if nl t.m.length r.1=0 then⟨(iw t.m r.1).1,t.step+1,t.ar.set au {x with log:=x.log++[(iw t.m r.1).2],steps:=x.steps++[t.step]},t.calls,t.full,t.cD||sH l t.m r.1,t.bad⟩
 else{t with ar:=t.ar.set au {x with op:=gZ},cD:=t.cD||sH l t.m r.1,bad:=true}
def kJ(l:aI)(want:List (List a9))(t:cP)(au:Nat):cP:=
 match t.ar[au]?,want[au]? with
 |some x,some ws=>if x.op.kind=0 then match ws[x.next]? with
  |none=>t
  |some op=>lB l t au ⟨op,[],[],x.next+1,x.gone⟩
  else lB l t au x
 |_,_=>t
def vr(l:aI)(want:List (List a9)):cP->List Nat->cP
 |t,[]=>t
 |t,w::ws=>vr l want (kJ l want t w) ws
def vd(l:aI)(want:List (List a9))(au:Nat):Nat->cP->cP
 |0,t=>t
 |k+1,t=>if t.bad then t else vd l want au k (kJ l want t au)
def CO(t:cP)(want:List (List a9))(au:Nat):Bool:=match t.ar[au]?,want[au]? with
 |some x,some ws=>decide (x.op.kind=0)&&decide (ws.length<=x.next)
 |_,_=>true
def Bl(l:aI)(want:List (List a9)):Nat->Nat->cP->cP
 |_,0,t=>t
 |au,k+1,t=>let fA:=vd l want au 1500 t;Bl l want (au+1) k {fA with bad:=fA.bad||!CO fA want au}
def vo(l:aI)(want:List (List a9))(turns:List Int):cP:=Bl l want 0 want.length (vr l want (i6 l want.length) (turns.map λ x=>(x%(want.length:Int)).toNat))
theorem WY{n:Nat}(h:n≠0):eH n=((n-2^n.log2:Nat):Int)/\2^n.log2<=n/\n<2^(n.log2+1):=by
 have h1:=Nat.log2_self_le h;have u:=(Nat.log2_lt h (k:=n.log2+1)).1 (Nat.lt_succ_self _);refine⟨?_,h1,u⟩;unfold eH;rw[if_neg (by omega),Int.toNat_natCast];have:((2^n.log2:Nat):Int)=2^n.log2:=by simp
 omega
theorem WX{n:Nat}(h:n≠0):0<=eH n/\eH n<n/\eH n<n-eH n:=by obtain⟨h1,u,J⟩:=WY h;rw[Nat.pow_succ] at J;rw[h1];omega
theorem WV{n k:Nat}(h:n≠0)(hk:n<2^(k+1)):eH n<2^k:=by
 obtain⟨h1,u,J⟩:=WY h;have Z:n.log2<=k:=by have:=(Nat.log2_lt h (k:=k+1)).2 hk;omega
 have G:2^n.log2<=2^k:=Nat.pow_le_pow_right (by omega) Z;rw[Nat.pow_succ] at J;rw[h1];have:((2^k:Nat):Int)=2^k:=by simp
 omega
def BX:List (List a9):=[[⟨2,0,5,9⟩,⟨2,0,5,8⟩,⟨1,0,5,0⟩,⟨3,0,5,0⟩]]
section
variable(kd:Int)
def lw(m:Nat):Fk->Prop
 |.put _ _=>kd=2
 |.fin a=>kd≠2/\0<=a/\a<m
 |_=>kd≠2
def SZ(m:Nat)(o:bd):Prop:=0<=o.aD/\o.aD<m/\(kd=2->o.is=false->o.err=0->o.aD+2<m)
def ey(m:Nat):Lk->Prop
 |.ga _ f=>lw kd m f
 |.gb _ f _ _ _ _=>lw kd m f
 |.ls _ f _ _ _ _ _ t=>lw kd m f/\0<=t/\t+2<=m
 |.lo _ f _ _ _ _ _ t k=>lw kd m f/\0<=t/\t+3<=m/\0<=k/\k<m
 |.cu _ f _ _ _ _ _=>lw kd m f
 |.rr _ f _ _ _ _ pt=>lw kd m f/\0<=pt/\pt<m
 |.gv _ _ pt=>kd≠2/\0<=pt/\pt<m
 |.sv a=>0<=a/\a+2<m
 |.cm _ _ _ _=>kd≠2
 |.cd _ _ _ _ a=>kd≠2/\0<=a/\a<m
 |.rx _ a=>kd≠2/\0<=a/\a<m
 |.ry a=>kd≠2/\0<=a/\a<m
 |.fi o=>SZ kd m o
 |_=>kd=2
def nM(m:Nat):Pc Lk->Prop
 |.at_ k=>ey kd m k
 |.t1 k=>ey kd m k
 |.t2 k _=>ey kd m k
 |.t3 k _ _=>ey kd m k
 |.t4 k _ _=>ey kd m k
 |.t5 k _ _ _=>ey kd m k
 |.g1 k _ _=>ey kd m k
 |.g2 k _ _ _ a=>ey kd m k/\0<=a/\a<m
 |.g3 k _ _ _=>ey kd m k
 |.bn k=>ey kd m k
 |.c k _=>ey kd m k
 |.v1 k _=>ey kd m k
 |.v2 k _ _=>ey kd m k
 |.v3 k _ _=>ey kd m k
 |.r1 k _=>ey kd m k
 |.r2 k _ _=>ey kd m k
 |.rs k _ _ _=>ey kd m k
 |.s1 k _ _ _ _=>ey kd m k
 |.w1 k _ _ _ _=>ey kd m k
 |.w2 k _ _ _ _ _=>ey kd m k
 |.w3 k _ _ _ _ _=>ey kd m k
 |.fin o=>SZ kd m o
end
section
variable{kd:Int}{m qN:Nat}{h:Ad}
theorem lw.mono(hm:m<=qN){f:Fk}(hf:lw kd m f):lw kd qN f:=by cases f<;>simp only[lw] at hf⊢<;>omega
theorem ey.mono(hm:m<=qN){k:Lk}(hk:ey kd m k):ey kd qN k:=by
 cases k with
 |ga o f=>exact lw.mono hm hk
 |gb o f a b D cur=>exact lw.mono hm hk
 |ls o f a b D cur w t=>exact⟨hk.1.mono hm,hk.2.1,by have:=hk.2.2;omega⟩
 |lo o f a b D cur w t k=>exact⟨hk.1.mono hm,hk.2.1,by have:=hk.2.2.1;omega,hk.2.2.2.1,by have:=hk.2.2.2.2;omega⟩
 |cu o f a b D cur w=>exact lw.mono hm hk
 |rr o f a b D nx pt=>exact⟨hk.1.mono hm,hk.2.1,by have:=hk.2.2;omega⟩
 |gv o cur pt=>simp only[ey] at hk⊢;omega
 |sv a=>simp only[ey] at hk⊢;omega
 |cm o D cur w=>exact hk
 |cd o D cur nx a=>simp only[ey] at hk⊢;omega
 |rx n a=>simp only[ey] at hk⊢;omega
 |ry a=>simp only[ey] at hk⊢;omega
 |fi o=>obtain⟨h1,u,J⟩:=hk;exact⟨h1,by omega,λ a b c=>by have:=J a b c;omega⟩
 |_=>exact hk
theorem W2{o:Int}{f:Fk}{D cur pt:Int}(hf:lw kd m f)(h0:0<=pt)(h1:pt<m):nM kd m (d9 o f D cur pt):=by
 cases f with
 |get=>exact⟨h0,h1,λ h=>absurd h hf⟩
 |put v n=>
  unfold d9;simp only;split
  ·exact hf
  ·exact hf
 |del=>exact⟨h0,h1,λ h=>absurd h hf⟩
 |fin a=>exact⟨hf.2.1,hf.2.2,λ h=>absurd h hf.1⟩
theorem aiA{o:Int}{f:Fk}{D cur w pt:Int}(hf:lw kd m f)(h0:0<=pt)(h1:pt+2<m):nM kd m (eU o f D cur w pt):=by
 cases f with
 |get=>exact⟨hf,h0,by omega⟩
 |put v n=>
  unfold eU;simp only;split
  ·exact⟨h0,by show pt<_;omega,λ _ _ _=>h1⟩
  ·exact⟨h0,h1⟩
 |del=>exact hf
 |fin a=>exact⟨hf.2.1,hf.2.2,λ h=>absurd h hf.1⟩
theorem Ps{o:Int}{f:Fk}{a b D cur pt:Int}(hf:lw kd m f)(h0:0<=pt)(h1:pt<m):nM kd m (dG o f a b D cur pt):=by
 unfold dG;split
 ·exact W2 hf h0 h1
 ·exact hf
theorem W1{k:Lk}{s:ag}(hk:ey kd m k):nM kd m (dJ (U h) k s).R:=by
 unfold dJ;split
 ·exact hk
 ·split
  ·exact hk
  ·split
   ·exact hk
   ·cases k<;>exact hk
theorem RZ{k:Lk}{s:ag}:(dJ (U h) k s).s=s:=by
 unfold dJ;split
 ·rfl
 ·split
  ·rfl
  ·split<;>rfl
theorem Wr{R:Pc Lk}{s:ag}:(aG (U h) R s).s=s:=by cases R<;>first|exact RZ|rfl
theorem W3{R:Pc Lk}{s:ag}(G:nM kd m R):nM kd m (aG (U h) R s).R:=by cases R<;>first|exact W1 G|exact G
theorem Qq{k:Lk}{held:List Int}{s:ag}:∀(gs stay:List (Int×Int)),(du (U h) k held s gs stay).s.made=s.made
 |[],_=>by unfold du;rw[Wr]
 |_::_,_=>rfl
theorem W4{k:Lk}(hk:ey kd m k):nM kd m ((U h).retired k):=by
 cases k with
 |rr o f a b D nx pt=>exact Ps hk.1 hk.2.1 hk.2.2
 |ry a=>exact⟨hk.2.1,hk.2.2,λ h=>absurd h hk.1⟩
 |_=>exact hk
theorem Pt{k:Lk}{held:List Int}{s:ag}(hk:ey kd m k):∀(gs stay:List (Int×Int)),nM kd m (du (U h) k held s gs stay).R
 |[],_=>W3 (W4 hk)
 |_::_,_=>hk
theorem W5{k:Lk}{held:List Int}{s:ag}(hk:ey kd m k):∀(cs:List Ad),nM kd m (gG (U h) k held s cs).R
 |[]=>Pt hk _ _
 |_::_=>hk
theorem Yc{k:Lk}{held:List Int}{s:ag}:∀(cs:List Ad),(gG (U h) k held s cs).s.made=s.made
 |[]=>Qq _ _
 |_::_=>rfl
theorem aiB{S:Nat}{q:Q Lk}{r:aJ}(hf:q.R.gX)(hq:nM kd q.s.made q.R):(tell (U h) S q r).s.made=q.s.made+1/\nM kd (q.s.made+1) (tell (U h) S q r).R:=by
 obtain⟨R,s⟩:=q;have up:∀{k:Lk},ey kd s.made k->ey kd (s.made+1) k:=λ hk=>hk.mono (Nat.le_succ _)
 have nm:∀(R:Pc Lk)(ah:ag),ah.made=s.made+1->nM kd (s.made+1) R->(aG (U h) R ah).s.made=s.made+1/\nM kd (s.made+1) (aG (U h) R ah).R:=λ R ah h1 u=>⟨by rw[Wr];exact h1,W3 u⟩
 cases R with
 |at_ k=>
  refine nm _ _ rfl ?_;show nM kd _ (cZ h k s.made r);simp only[nM] at hq;cases k with
  |ls o f a b D cur w t=>
   simp only[cZ];split
   ·exact⟨hq.1.mono (Nat.le_succ _),hq.2.1,by have:=hq.2.2;omega,by omega,by omega⟩
   ·exact hq.1.mono (Nat.le_succ _)
  |lo o f a b D cur w t k=>
   simp only[cZ];have CR:=hq.1.mono (Nat.le_succ s.made);have h1:=hq.2.1;have u:=hq.2.2.1;have J:=hq.2.2.2.1;have h4:=hq.2.2.2.2;split
   ·exact CR
   ·split
    ·exact Ps CR h1 (by omega)
    ·split
     ·exact aiA CR h1 (by omega)
     ·exact W2 CR J (by omega)
  |cu o f a b D cur w=>
   simp only[cZ];split
   ·exact⟨lw.mono (Nat.le_succ _) hq,by omega,by omega⟩
   ·exact lw.mono (Nat.le_succ _) hq
  |gv o cur pt=>exact⟨hq.2.1,by have:=hq.2.2;show pt<_;omega,λ h=>absurd h hq.1⟩
  |p1 o v n D cur=>exact hq
  |p2 o v n D cur=>exact hq
  |p0 o v n D cur=>exact hq
  |cp o v n D cur=>
   simp only[cZ];split
   ·exact⟨by show(0:Int)<=(s.made:Int);omega,by show(s.made:Int)<_;omega,λ _ h=>by cases h⟩
   ·exact hq
  |cm o D cur w=>
   simp only[cZ];split
   ·exact⟨hq,by omega,by omega⟩
   ·exact hq
  |cd o D cur nx a=>
   simp only[cZ];split
   ·exact⟨hq.1,hq.2.1,by have:=hq.2.2;omega⟩
   ·exact⟨hq.1,hq.2.1,by have:=hq.2.2;omega⟩
  |ga o f=>exact up hq
  |gb o f a b D cur=>exact up hq
  |rr o f a b D nx pt=>exact up hq
  |tk o v D cur=>exact up hq
  |sv a=>exact up hq
  |rx n a=>exact up hq
  |ry a=>exact up hq
  |fi o=>exact up hq
 |t1 k=>
  have hq:ey kd s.made k:=hq;unfold tell;simp only;split
  ·refine nm _ _ rfl ?_;cases k with
   |tk o v D cur=>exact⟨by show(0:Int)<=(s.made:Int);omega,by show(s.made:Int)<_;omega,λ _ _ h=>by cases h⟩
   |_=>exact up hq
  ·exact⟨rfl,up hq⟩
 |t2 k f=>have hq:ey kd s.made k:=hq;exact⟨rfl,up hq⟩
 |t3 k f lk=>
  have hq:ey kd s.made k:=hq;unfold tell;simp only;split
  ·exact⟨rfl,up hq⟩
  ·exact⟨rfl,up hq⟩
 |t4 k n a=>have hq:ey kd s.made k:=hq;exact⟨rfl,up hq⟩
 |t5 k n a b=>have hq:ey kd s.made k:=hq;refine nm _ _ rfl ?_;cases k<;>exact up hq
 |g1 k i c=>exact⟨rfl,up hq,by omega,by omega⟩
 |g2 k i c v a=>
  have h1:=hq.2.1;have u:a<(s.made:Int):=hq.2.2;unfold tell;simp only;split
  ·refine nm _ _ rfl ?_;have hk:=hq.1;cases k with
   |ga o f=>exact Ps (lw.mono (Nat.le_succ _) hk) h1 (by omega)
   |gb o f bF b D cur=>exact⟨lw.mono (Nat.le_succ _) hk,h1,by omega⟩
   |_=>exact up hk
  ·exact⟨rfl,up hq.1⟩
 |g3 k i c er=>have hq:ey kd s.made k:=hq;exact⟨by show(s.up.ej i er).made=_;rw[DF];rfl,up hq⟩
 |bn k=>exact absurd hf id
 |c k i=>have hq:ey kd s.made k:=hq;exact⟨by show(dJ (U h) k (s.up.ej i 0)).s.made=_;rw[RZ,DF];rfl,W1 (up hq)⟩
 |v1 k n=>have hq:ey kd s.made k:=hq;exact⟨rfl,up hq⟩
 |v2 k n f=>have hq:ey kd s.made k:=hq;exact⟨rfl,up hq⟩
 |v3 k n f=>
  have hq:ey kd s.made k:=hq;unfold tell;simp only;split
  ·refine nm _ _ rfl ?_;cases k with
   |sv a=>exact⟨hq.1,by have:=hq.2;show a<_;omega,λ _ _ _=>by have:=hq.2;show a+2<_;omega⟩
   |_=>exact up hq
  ·exact⟨rfl,up hq⟩
 |r1 k n=>have hq:ey kd s.made k:=hq;exact⟨rfl,up hq⟩
 |r2 k n er=>
  have hq:ey kd s.made k:=hq;unfold tell;simp only;split
  ·exact nm _ _ rfl (W4 (up hq))
  ·exact⟨by rw[Yc];rfl,W5 (up hq) _⟩
 |rs k held c cs=>have hq:ey kd s.made k:=hq;exact⟨by show(gG (U h) k _ s.up cs).s.made=_;rw[Yc];rfl,W5 (up hq) _⟩
 |s1 k held g gs stay=>
  have hq:ey kd s.made k:=hq;unfold tell;simp only;split
  ·exact⟨by rw[Qq];rfl,Pt (up hq) _ _⟩
  ·exact⟨rfl,up hq⟩
 |w1 k held g gs stay=>have hq:ey kd s.made k:=hq;exact⟨rfl,up hq⟩
 |w2 k held g gs stay f=>have hq:ey kd s.made k:=hq;exact⟨rfl,up hq⟩
 |w3 k held g gs stay f=>
  have hq:ey kd s.made k:=hq;unfold tell;simp only;split
  ·exact⟨by rw[Qq];rfl,Pt (up hq) _ _⟩
  ·exact⟨rfl,up hq⟩
 |fin o=>exact absurd hf id
def BI:Pc Lk->Prop
 |.bn _=>False
 |_=>True
theorem Wn{k:Lk}{s:ag}:BI (dJ (U h) k s).R:=by
 unfold dJ;split
 ·exact trivial
 ·split
  ·exact trivial
  ·split
   ·exact trivial
   ·cases k<;>exact trivial
theorem O4{R:Pc Lk}{s:ag}:BI (aG (U h) R s).R:=by cases R<;>first|exact Wn|exact trivial
theorem Wp{k:Lk}{held:List Int}{s:ag}:∀(gs stay:List (Int×Int)),BI (du (U h) k held s gs stay).R
 |[],_=>O4
 |_::_,_=>trivial
theorem Wo{k:Lk}{held:List Int}{s:ag}:∀(cs:List Ad),BI (gG (U h) k held s cs).R
 |[]=>Wp _ _
 |_::_=>trivial
theorem ahC{S:Nat}{q:Q Lk}{r:aJ}(hq:BI q.R):BI (tell (U h) S q r).R:=by
 obtain⟨R,s⟩:=q;cases R<;>simp only[tell]
 case bn=>exact hq
 all_goals first
  |exact O4
  |exact Wn
  |exact Wo _
  |exact trivial
  |(split<;>first|exact O4|exact Wo _|exact Wp _ _|exact trivial)
theorem ako{S:Nat}{q:Q Lk}{r:aJ}{o:bd}(h1:q.R=.fin o):tell (U h) S q r=q:=by
 obtain⟨R,s⟩:=q;subst h1
 rfl
theorem P8{S:Nat}:∀(log:List aJ)(q:Q Lk),nM kd q.s.made q.R->BI q.R->∃a6,bZ (U h) S q log=a6/\nM kd a6.s.made a6.R/\a6.s.made<=q.s.made+log.length
 |[],q,h1,_=>⟨q,rfl,h1,Nat.le_refl _⟩
 |r::log,q,h1,u=>by
  show∃a6,bZ (U h) S (tell (U h) S q r) log=a6/\_;have key:nM kd (tell (U h) S q r).s.made (tell (U h) S q r).R/\(tell (U h) S q r).s.made<=q.s.made+1:=by
   cases G:q.R with
   |fin o=>rw[ako G];exact⟨h1,by omega⟩
   |bn k=>rw[G] at u;exact absurd u id
   |_=>have:=aiB (S:=S) (r:=r) (h:=h) (q:=q) (by rw[G];exact trivial) h1;rw[this.1];exact⟨this.2,Nat.le_refl _⟩
  obtain⟨a6,e,J,h4⟩:=P8 log _ key.1 (ahC u);exact⟨a6,e,J,by have:=key.2;simp only[List.length_cons];omega⟩
end
theorem Wj{l:aI}(hS:0<=l.ar){O:Int}{gone:List (Int×Int)}{op:a9}{log:List aJ}(K:(fJ l O gone op log).2.2=true)(G:0<=(fJ l O gone op log).2.1.aD):
 (fJ l O gone op log).2.1.aD<log.length/\(op.kind=2->(fJ l O gone op log).2.1.is=false->(fJ l O gone op log).2.1.err=0->(fJ l O gone op log).2.1.aD+2<log.length):=by
 by_cases hh:op.obj<0\/l.size<=op.obj
 ·unfold fJ at G;rw[if_pos hh] at G;exact absurd (show(0:Int)<=-1 from G) (by omega)
 ·by_cases hk:op.kind=1\/op.kind=2\/op.kind=3
  ·have e:=GC (l:=l) (S:=l.ar.toNat) (O:=O) (by omega) (gone:=gone) (op:=op) (log:=log) (h:=.ob op.obj) rfl hh hk;obtain⟨a6,ae,h1,u⟩:=P8 (S:=l.ar.toNat) (h:=.ob op.obj) (kd:=op.kind) log (d6 (.ob op.obj) op gone) (by
    show lw op.kind 0 (i5 op);unfold i5;rcases hk with hk|hk|hk
    ·rw[if_pos hk];show op.kind≠2;omega
    ·rw[if_neg (by omega),if_pos hk];exact hk
    ·rw[if_neg (by omega),if_neg (by omega)];show op.kind≠2;omega) trivial
   rw[ae] at e;rw[e] at G K⊢;have u:a6.s.made<=log.length:=by have:(d6 (.ob op.obj) op gone).s.made=0:=rfl;omega
   obtain⟨R,s⟩:=a6;cases R with
   |fin o=>obtain⟨J,h4,h5⟩:=h1;exact⟨by show o.aD<_;have:s.made<=log.length:=u;omega,λ a b c=>by have:=h5 a b c;show o.aD+2<_;have:s.made<=log.length:=u;omega⟩
   |_=>cases K
  ·unfold fJ at G;rw[if_neg hh,if_neg (by omega),if_neg (by omega),if_neg (by omega)] at G;exact absurd (show(0:Int)<=-1 from G) (by omega)
def oL(g:List (Int×Int)):Prop:=∀p∈g,p.1<9223372036854775808
structure Hs(n:Nat)(s ah:ag):Prop where
 le:s.made<=n->ah.made<=n
 ok:oL s.gone->oL ah.gone
 made:s.made<=ah.made
 len:ah.gone.length+s.made<=s.gone.length+ah.made
theorem Hs.refl{n:Nat}(s:ag):Hs n s s:=⟨id,id,Nat.le_refl _,Nat.le_refl _⟩
theorem Hs.trans{n:Nat}{a b c:ag}(h1:Hs n a b)(u:Hs n b c):Hs n a c:=⟨λ h=>u.le (h1.le h),λ h=>u.ok (h1.ok h),Nat.le_trans h1.made u.made,by have:=h1.len;have:=u.len;have:=h1.made;have:=u.made;omega⟩
def Hg{az:Type}(m:Pm az)(P:az->Prop):Prop:=∀log s x ah,m log s=.ok (x,ah)->Hs log.length s ah/\P x
section
variable{az dE:Type}
theorem la{x:az}{P:az->Prop}(h:P x):Hg (Pm.pure x) P:=λ log s y ah e=>by
 cases e;exact⟨Hs.refl _,h⟩
theorem ez{m:Pm az}{f:az->Pm dE}{P:az->Prop}{ap:dE->Prop}(h1:Hg m P)(u:∀x,P x->Hg (f x) ap):Hg (m.bind f) ap:=λ log s y ah e=>by
 unfold Pm.bind at e;cases h:m log s with
 |error a=>rw[h] at e;cases e
 |ok q=>obtain⟨x,s1⟩:=q;rw[h] at e;obtain⟨a1,a2⟩:=h1 log s x s1 h;obtain⟨b1,b2⟩:=u x a2 log s1 y ah e;exact⟨a1.trans b1,b2⟩
theorem NO{m:Pm az}{P ap:az->Prop}(h:Hg m P)(G:∀x,P x->ap x):Hg m ap:=λ log s x ah e=>⟨(h log s x ah e).1,G x (h log s x ah e).2⟩
theorem ael{m:Pm az}{P:az->Prop}(h:Hg m P):Hg m (λ _=>True):=NO h λ _ _=>trivial
theorem IB(a:bz):Hg (h2 a) (λ _=>True):=λ log s x ah e=>by
 unfold h2 at e;split at e
 ·rename_i r hr;cases e;have:=(List.getElem?_eq_some_iff.1 hr).1;exact⟨⟨λ _=>this,id,by simp,by simp⟩,trivial⟩
 ·cases e
theorem mq{c:Prop}[Decidable c]{m n:Pm az}{P:az->Prop}(h1:c->Hg m P)(u:¬c->Hg n P):Hg (if c then m else n) P:=by
 split
 ·exact h1 ‹_›
 ·exact u ‹_›
theorem sJ(c:Int):Hg (gR c) (λ _=>True):=ez (IB _) λ _ _=>la trivial
theorem AS(c v:Int):Hg (kj c v) (λ _=>True):=ez (IB _) λ _ _=>la trivial
theorem CU(c o v:Int):Hg (oS c o v) (λ _=>True):=ez (IB _) λ _ _=>la trivial
theorem AR:Hg xi (λ _=>True):=λ log s x ah e=>by
 cases e;exact⟨Hs.refl _,trivial⟩
theorem Uk(l:aI):∀k,Hg (uJ l k) (λ _=>True)
 |0=>la trivial
 |k+1=>ez (sJ _) λ _ _=>mq (λ _=>ez AR λ _ _=>la trivial) λ _=>ez (sJ _) λ _ _=>ez (CU _ _ _) λ _ _=>mq (λ _=>ez AR λ _ _=>ez (sJ _) λ _ _=>ez (AS _ _) λ _ _=>la trivial) λ _=>Uk l k
theorem aem(l:aI):Hg (KH l) (λ _=>True):=λ log s=>Uk l _ log s
theorem Ub(l:aI)(n:Int):∀k,Hg (tN l n k) (λ _=>True)
 |0=>la trivial
 |k+1=>ez (sJ _) λ _ _=>ez (AS _ _) λ _ _=>ez (CU _ _ _) λ _ _=>mq (λ _=>la trivial) λ _=>Ub l n k
theorem Ud(l:aI)(n:Int):Hg (Ay l n) (λ _=>True):=λ log s=>Ub l n _ log s
theorem afr{n:Nat}{s ah:ag}{i v:Int}(h:Hs n (s.ej i v) ah):Hs n s ah:=by
 have h1:=DF s i v;have u:(s.ej i v).gone=s.gone:=by
  unfold ag.ej;split
  ·rfl
  ·split<;>rfl
 exact⟨λ g=>h.le (by rw[h1];exact g),λ g=>h.ok (by rw[u];exact g),by have:=h.made;omega,by have:=h.len;rw[u] at this;omega⟩
theorem Ue(l:aI)(O i c:Int):∀k,Hg (oV l O i c k) (λ _=>True)
 |0=>la trivial
 |k+1=>ez (sJ _) λ v _=>ez AR λ at_ _=>ez (sJ _) λ era _=>λ log s x ah e=>by
  split at e
  ·cases e;exact⟨Hs.refl _,trivial⟩
  ·refine ez (ap:=λ _=>True) (AS _ _) (λ _ _=>?_) log s x ah e;intro log s x ah e;exact⟨afr (Ue l O i c k log _ x ah e).1,trivial⟩
theorem Uf(l:aI)(O i c:Int):Hg (tO l O i c) (λ _=>True):=λ log s=>Ue l O i c _ log s
theorem T7(l:aI)(O:Int):∀(es:List Int)(i:Nat),Hg (pE l O i es) (λ _=>True)
 |[],_=>la trivial
 |e::es,i=>ez (P:=λ _=>True) (mq (λ _=>la trivial) λ _=>ez (AS _ _) λ _ _=>λ log s x ah h=>by
   cases h;refine⟨?_,trivial⟩
   match i with
   |0=>exact⟨id,id,Nat.le_refl _,Nat.le_refl _⟩
   |1=>exact⟨id,id,Nat.le_refl _,Nat.le_refl _⟩
   |_+2=>exact⟨id,id,Nat.le_refl _,Nat.le_refl _⟩) λ _ _=>T7 l O es (i+1)
theorem T6(l:aI)(O:Int):Hg (tC l O) (λ _=>True):=λ log s=>T7 l O _ _ log s
theorem Ug:∀(cs acc:List Int),Hg (qM acc cs) (λ _=>True)
 |[],_=>la trivial
 |_::cs,_=>ez (sJ _) λ _ _=>Ug cs _
theorem NQ(l:aI)(held:List Int):∀(gs stay:List (Int×Int)),Hg (kQ l held gs stay) (λ r=>r.length<=gs.length+stay.length/\(oL gs->oL stay->oL r))
 |[],stay=>la ⟨by simp,λ _ h=>h⟩
 |g::gs,stay=>ez (sJ _) λ _ _=>mq (λ _=>NO (NQ l held gs (stay++[g])) λ r h=>⟨by have:=h.1;simp only[List.length_append,List.length_cons,List.length_nil] at this⊢;omega,λ h1 u=>h.2 (λ p G=>h1 p (List.mem_cons_of_mem _ G)) λ p G=>by
  rcases List.mem_append.1 G with G|G
  ·exact u p G
  ·simp only[List.mem_singleton] at G;subst G;exact h1 _ List.mem_cons_self⟩)
   λ _=>ez (Ud l g.1) λ _ _=>NO (NQ l held gs stay) λ r h=>⟨by have:=h.1;simp only[List.length_cons];omega,λ h1 u=>h.2 (λ p G=>h1 p (List.mem_cons_of_mem _ G)) u⟩
theorem HJ{m:Pm az}{f:az->Pm dE}{log:List aJ}{s ah:ag}{y:dE}(e:m.bind f log s=.ok (y,ah)):∃x s1,m log s=.ok (x,s1)/\f x log s1=.ok (y,ah):=by
 unfold Pm.bind at e;cases h:m log s with
 |error a=>rw[h] at e;cases e
 |ok q=>rw[h] at e;exact⟨q.1,q.2,rfl,e⟩
theorem ajO{l:aI}{g:List (Int×Int)}{log:List aJ}{s ah:ag}{aH:Unit}(e:yU l g log s=.ok (aH,ah)):s.made<=ah.made/\ah.gone.length<=g.length/\(oL g->oL ah.gone)/\(s.made<=log.length->ah.made<=log.length):=by obtain⟨held,s1,e1,e⟩:=HJ e;obtain⟨stay,s2,e2,e⟩:=HJ e;cases e;have h1:=(Ug _ _ _ _ _ _ e1).1;have u:=NQ l held g [] _ _ _ _ e2;exact⟨Nat.le_trans h1.made u.1.made,by simpa using u.2.1,λ h=>u.2.2 h (λ p G=>absurd G List.not_mem_nil),λ h=>u.1.le (h1.le h)⟩
theorem Uj(l:aI)(n:Int)(hn:n<9223372036854775808):Hg (s7 l n) (λ _=>True):=by
 refine ez (sJ _) λ era _=>?_
 intro log s x ah e;obtain⟨r,s1,e1,e⟩:=HJ e;have fm:s1={s with made:=s.made+1}/\s.made<log.length:=by
  unfold h2 at e1;split at e1
  ·rename_i r hr;cases e1;exact⟨rfl,(List.getElem?_eq_some_iff.1 hr).1⟩
  ·cases e1
 obtain⟨fm,aY⟩:=fm;subst fm;have Ff:oL s.gone->oL (s.gone++[(n,era)]):=λ h p G=>by
  rcases List.mem_append.1 G with G|G
  ·exact h p G
  ·simp only[List.mem_singleton] at G;subst G;exact hn
 simp only at e;split at e
 ·cases e;exact⟨⟨λ _=>aY,Ff,by simp,by simp;omega⟩,trivial⟩
 ·obtain⟨h1,u,J,h4⟩:=ajO e;simp only[List.length_append,List.length_cons,List.length_nil] at h1 u;exact⟨⟨λ _=>h4 aY,λ h=>J (Ff h),by omega,by omega⟩,trivial⟩
theorem Pb(n:Int):(av n).idx<9223372036854775808:=by have:=(jb n).2;omega
theorem CV(l:aI)(O K o:Int):∀(k:Nat)(x:Option Lh),(∀w,x=some w->w.cur<9223372036854775808)->Hg (mJ l O K o k x) (λ f=>f.cur<9223372036854775808)
 |0,_,_=>la (by show(0:Int)<_;omega)
 |k+1,none,_=>ez (Uf _ _ _ _) λ p _=>CV l O K o k _ λ w hw=>by cases hw;exact Pb _
 |k+1,some x,hx=>mq (λ _=>la (by show(0:Int)<_;omega)) λ _=>ez (Uf _ _ _ _) λ p _=>ez (sJ _) λ seen _=>ez AR λ look _=>
   mq (λ _=>ez (sJ _) λ eE _=>
    mq (λ _=>ez (CU _ _ _) λ ok _=>mq (λ _=>ez AR λ at_ _=>ez (Uj l _ (hx _ rfl)) λ _ _=>CV l O K o k _ λ w hw=>by cases hw;exact Pb _) λ _=>CV l O K o k none λ w hw=>by cases hw) λ _=>
    mq (λ _=>CV l O K o k _ λ w hw=>by cases hw;exact Pb _) λ _=>
    mq (λ _=>la (hx _ rfl)) λ _=>la (hx _ rfl))
   λ _=>CV l O K o k none λ w hw=>by cases hw
theorem IC(l:aI)(O K o:Int):Hg (tL l O K o) (λ f=>f.cur<9223372036854775808):=λ log s=>CV l O K o _ none (λ w hw=>by cases hw) log s
theorem wK(l:aI)(O:Int)(o:bd):Hg (ki l O o) (λ _=>True):=ez (T6 _ _) λ _ _=>la trivial
theorem Ua(l:aI)(O K o:Int):Hg (getM l O K o) (λ _=>True):=ez (IC _ _ _ _) λ _ _=>mq (λ _=>ez (sJ _) λ _ _=>wK _ _ _) λ _=>wK _ _ _
theorem Uh(l:aI)(f:j6)(n:Int):Hg (uD l f n) (λ _=>True):=ez (AS _ _) λ _ _=>ez (CU _ _ _) λ _ _=>mq (λ _=>ez AR λ _ _=>la trivial) λ _=>la trivial
theorem NP(l:aI)(O K o v:Int):∀(k:Nat)(n:Int),Hg (sZ l O K o v k n) (λ _=>True)
 |0,_=>la trivial
 |k+1,n=>ez (IC _ _ _ _) λ _ _=>mq (λ _=>mq (λ _=>wK _ _ _) λ _=>ez (Ud _ _) λ _ _=>wK _ _ _) λ _=>
   mq (λ _=>ez (aem _) λ t _=>mq (λ _=>ez (AS _ _) λ _ _=>ez (AS _ _) λ _ _=>ez (Uh _ _ _) λ r _=>by
    cases r with
    |some a=>exact wK _ _ _
    |none=>exact NP l O K o v k _) λ _=>wK _ _ _) λ _=>ez (Uh _ _ _) λ r _=>by
    cases r with
    |some a=>exact wK _ _ _
    |none=>exact NP l O K o v k _
theorem Ui(l:aI)(O K o v:Int):Hg (xt l O K o v) (λ _=>True):=λ log s=>NP l O K o v _ 0 log s
theorem T8(l:aI)(O K o:Int):∀(k:Nat),Hg (wk l O K o k) (λ _=>True)
 |0=>la trivial
 |k+1=>ez (IC _ _ _ _) λ _ hf=>mq (λ _=>ez (CU _ _ _) λ _ _=>mq (λ _=>ez AR λ _ _=>ez (CU _ _ _) λ _ _=>mq (λ _=>ez (T6 _ _) λ _ _=>ez (Uj l _ hf) λ _ _=>la trivial) λ _=>ez (ael (IC _ _ _ _)) λ _ _=>wK _ _ _) λ _=>T8 l O K o k) λ _=>wK _ _ _
theorem T9(l:aI)(O K o:Int):Hg (wl l O K o) (λ _=>True):=λ log s=>T8 l O K o _ log s
end
theorem Mu{m:Pm bd}{P:bd->Prop}(hm:Hg m P){gone:List (Int×Int)}{log:List aJ}(K:(tI (m log ⟨0,gone,0,0,0⟩)).2.2=true)(hg:oL gone):oL (tI (m log ⟨0,gone,0,0,0⟩)).2.1.gone/\(tI (m log ⟨0,gone,0,0,0⟩)).2.1.gone.length<=gone.length+log.length:=by
 cases h:m log ⟨0,gone,0,0,0⟩ with
 |error a=>rw[h] at K;cases K
 |ok q=>obtain⟨x,ah⟩:=q;obtain⟨h1,_⟩:=hm _ _ _ _ h;have:=h1.len;have:=h1.le (Nat.zero_le _);exact⟨h1.ok hg,by show ah.gone.length<=_;simp only at*;omega⟩
theorem Mv{m:Pm bd}{P:bd->Prop}(hm:Hg m P){gone:List (Int×Int)}{log:List aJ}(K:(tI (m log ⟨0,gone,0,0,0⟩)).2.2=true):(tI (m log ⟨0,gone,0,0,0⟩)).2.1.gone.length<=gone.length+log.length:=by
 cases h:m log ⟨0,gone,0,0,0⟩ with
 |error a=>rw[h] at K;cases K
 |ok q=>obtain⟨x,ah⟩:=q;obtain⟨h1,_⟩:=hm _ _ _ _ h;have:=h1.len;have:=h1.le (Nat.zero_le _);show ah.gone.length<=_;simp only at*;omega
theorem ahu{l:aI}{O:Int}{gone:List (Int×Int)}{op:a9}{log:List aJ}(K:(fJ l O gone op log).2.2=true):(fJ l O gone op log).2.1.gone.length<=gone.length+log.length:=by
 unfold fJ at K⊢;split at K
 ·rw[if_pos ‹_›];exact Nat.le_add_right _ _
 ·rw[if_neg ‹_›];split at K
  ·rw[if_pos ‹_›];exact Mv (Ua _ _ _ _) K
  ·rw[if_neg ‹_›];split at K
   ·rw[if_pos ‹_›];exact Mv (Ui _ _ _ _ _) K
   ·rw[if_neg ‹_›];split at K
    ·rw[if_pos ‹_›];exact Mv (T9 _ _ _ _) K
    ·rw[if_neg ‹_›];exact Nat.le_add_right _ _
theorem ahs{l:aI}{O:Int}{gone:List (Int×Int)}{op:a9}{log:List aJ}(K:(fJ l O gone op log).2.2=true)(hg:oL gone):oL (fJ l O gone op log).2.1.gone/\(fJ l O gone op log).2.1.gone.length<=gone.length+log.length:=by
 unfold fJ at K⊢;split at K
 ·rw[if_pos ‹_›];exact⟨hg,Nat.le_add_right _ _⟩
 ·rw[if_neg ‹_›];split at K
  ·rw[if_pos ‹_›];exact Mu (Ua _ _ _ _) K hg
  ·rw[if_neg ‹_›];split at K
   ·rw[if_pos ‹_›];exact Mu (Ui _ _ _ _ _) K hg
   ·rw[if_neg ‹_›];split at K
    ·rw[if_pos ‹_›];exact Mu (T9 _ _ _ _) K hg
    ·rw[if_neg ‹_›];exact⟨hg,Nat.le_add_right _ _⟩
theorem ahw{l:aI}(hS:0<=l.ar){O:Int}{gone:List (Int×Int)}{op:a9}{log:List aJ}{k:Nat}(K:(fJ l O gone op (log.take k)).2.2=true):fJ l O gone op log=fJ l O gone op (log.take k):=by
 by_cases hh:op.obj<0\/l.size<=op.obj
 ·unfold fJ;rw[if_pos hh,if_pos hh]
 ·by_cases hk:op.kind=1\/op.kind=2\/op.kind=3
  ·have e:=λ log=>GC (l:=l) (S:=l.ar.toNat) (O:=O) (by omega) (gone:=gone) (op:=op) (log:=log) (h:=.ob op.obj) rfl hh hk
   rw[e] at K;rw[e,e];have hr:bZ (U (.ob op.obj)) l.ar.toNat (d6 (.ob op.obj) op gone) log=bZ (U (.ob op.obj)) l.ar.toNat (bZ (U (.ob op.obj)) l.ar.toNat (d6 (.ob op.obj) op gone) (log.take k)) (log.drop k):=by unfold bZ;rw[<-List.foldl_append,List.take_append_drop]
   rw[hr];generalize bZ (U (.ob op.obj)) l.ar.toNat (d6 (.ob op.obj) op gone) (log.take k)=q at K⊢;obtain⟨R,s⟩:=q;cases R with
   |fin o=>
    have:∀rest:List aJ,bZ (U (.ob op.obj)) l.ar.toNat ⟨.fin o,s⟩ rest=⟨.fin o,s⟩:=λ rest=>by
     induction rest with
     |nil=>rfl
     |cons r rest ih=>exact ih
    rw[this]
   |_=>cases K
  ·unfold fJ;rw[if_neg hh,if_neg (by omega),if_neg (by omega),if_neg (by omega),if_neg hh,if_neg (by omega),if_neg (by omega),if_neg (by omega)]
theorem ahv{l:aI}(hS:0<=l.ar){O:Int}{gone:List (Int×Int)}{op:a9}{log:List aJ}(K:(fJ l O gone op log).2.2=true)(he:(fJ l O gone op log).2.1.err=0):0<=(fJ l O gone op log).2.1.aD:=by
 by_cases hh:op.obj<0\/l.size<=op.obj
 ·unfold fJ at he;rw[if_pos hh] at he;exact absurd (show(1:Int)=0 from he) (by omega)
 ·by_cases hk:op.kind=1\/op.kind=2\/op.kind=3
  ·have e:=GC (l:=l) (S:=l.ar.toNat) (O:=O) (by omega) (gone:=gone) (op:=op) (log:=log) (h:=.ob op.obj) rfl hh hk;obtain⟨a6,ae,h1,u⟩:=P8 (S:=l.ar.toNat) (h:=.ob op.obj) (kd:=op.kind) log (d6 (.ob op.obj) op gone) (by
    show lw op.kind 0 (i5 op);unfold i5;rcases hk with hk|hk|hk
    ·rw[if_pos hk];show op.kind≠2;omega
    ·rw[if_neg (by omega),if_pos hk];exact hk
    ·rw[if_neg (by omega),if_neg (by omega)];show op.kind≠2;omega) trivial
   rw[ae] at e;rw[e] at K⊢;obtain⟨R,s⟩:=a6;cases R with
   |fin o=>exact h1.1
   |_=>cases K
  ·unfold fJ at he;rw[if_neg hh,if_neg (by omega),if_neg (by omega),if_neg (by omega)] at he;exact absurd (show(1:Int)=0 from he) (by omega)
def JS(l:aI)(fB:Int):Int:=if bf l fB 0<0 then l.done else bf l fB 0
theorem wa{l:aI}{O:Int}{gone:List (Int×Int)}{kind fB eE v:Int}{lg:List aJ}:(lR l O gone kind fB eE v lg).2=(fJ l O gone ⟨kind,JS l fB,eE,v⟩ lg).2:=by unfold lR JS;simp only;generalize(if bf l fB 0<0 then l.done else bf l fB 0)=ob;split<;>rfl
theorem S6{f:Nat->Bool}:∀(n k:Nat),f (k+n)=true->f (n7 f n k)=true/\k<=n7 f n k/\n7 f n k<=k+n
 |0,k,h=>⟨h,Nat.le_refl _,Nat.le_refl _⟩
 |n+1,k,h=>by
  unfold n7;split
  ·exact⟨‹_›,Nat.le_refl _,Nat.le_add_right _ _⟩
  ·obtain⟨h1,u,J⟩:=S6 n (k+1) (by rw[show k+1+n=k+(n+1) by omega];exact h);exact⟨h1,by omega,by omega⟩
section
variable{l:aI}{O kind fB eE v:Int}{log:List aJ}{s ah:ag}{o:bd×bz}
theorem OP(hS:0<=l.ar)(hm:s.made<=log.length)(e:oF l O kind fB eE v log s=.ok (o,ah)):
 Hs log.length s ah/\(kind=2->o.1.is=false->o.1.err=0->0<=o.1.aD/\o.1.aD+2<log.length):=by
 unfold oF at e;simp only at e
 by_cases K:(lR l O s.gone kind fB eE v (log.drop s.made)).2.2=false
 ·rw[if_pos K] at e;cases e
 rw[if_neg K] at e;have nv:(lR l O s.gone kind fB eE v (log.drop s.made)).2.2=true:=by simpa using K
 rw[wa] at nv
 by_cases G:(lR l O s.gone kind fB eE v (log.drop s.made)).2.1.aD<0
 ·rw[if_pos G] at e;cases e;refine⟨Hs.refl _,λ h1 u J=>?_⟩;rw[wa] at G J;have:=ahv hS nv J;omega
 ·rw[if_neg G] at e;have Oa:=G;rw[wa] at Oa;obtain⟨q1,q2⟩:=Wj hS nv (by omega);have cx:(log.drop s.made).length=log.length-s.made:=List.length_drop;have cW:(lR l O s.gone kind fB eE v (log.drop s.made)).2.1.aD.toNat+1<=(log.drop s.made).length:=by rw[wa];omega
  generalize hf:(λ k=>(lR l O s.gone kind fB eE v ((log.drop s.made).take k)).2.2)=f at e;have aei:f (((lR l O s.gone kind fB eE v (log.drop s.made)).2.1.aD.toNat+1)+((log.drop s.made).length-((lR l O s.gone kind fB eE v (log.drop s.made)).2.1.aD.toNat+1)))=true:=by rw[show((lR l O s.gone kind fB eE v (log.drop s.made)).2.1.aD.toNat+1)+((log.drop s.made).length-((lR l O s.gone kind fB eE v (log.drop s.made)).2.1.aD.toNat+1))=(log.drop s.made).length by omega,<-hf];simp only[List.take_length];rw[wa];exact nv
  obtain⟨k1,k2,k3⟩:=S6 _ _ aei;generalize hK:n7 f _ _=aB at e k1 k2 k3;rw[<-hf] at k1;simp only at k1;rw[wa] at k1;have same:=ahw hS k1;cases e;refine⟨⟨λ _=>by simp only;omega,λ hg=>?_,by simp,?_⟩,λ h1 u J=>?_⟩
  ·show oL (lR l O s.gone kind fB eE v (log.drop s.made)).2.1.gone;rw[wa,same];exact(ahs k1 hg).1
  ·show(lR l O s.gone kind fB eE v (log.drop s.made)).2.1.gone.length+s.made<=s.gone.length+(s.made+aB);rw[wa,same];have dH:(fJ l O s.gone ⟨kind,JS l fB,eE,v⟩ ((log.drop s.made).take aB)).2.1.gone.length<=s.gone.length+((log.drop s.made).take aB).length:=by
    have:=@ahu l O s.gone ⟨kind,JS l fB,eE,v⟩ ((log.drop s.made).take aB) k1;exact this
   rw[List.length_take] at dH;omega
  ·simp only at u J⊢;rw[wa] at u J⊢;have:=q2 h1 u J;omega
end
def Hl{az:Type}(m:Pm az):Prop:=∀log s x ah,s.made<=log.length->m log s=.ok (x,ah)->Hs log.length s ah
section
variable{az dE:Type}
theorem qD{x:az}:Hl (Pm.pure x):=λ _ _ _ _ _ e=>by cases e;exact Hs.refl _
theorem CZ(a:bz):Hl (h2 a):=λ log s x ah _ e=>(IB a log s x ah e).1
theorem sK{m:Pm az}{f:az->Pm dE}(h1:Hl m)(u:∀x,Hl (f x)):Hl (m.bind f):=λ log s y ah hm e=>by
 obtain⟨x,s1,e1,e2⟩:=HJ e;have a:=h1 log s x s1 hm e1;exact a.trans (u x log s1 y ah (a.le hm) e2)
theorem vj{c:Prop}[Decidable c]{m n:Pm az}(h1:Hl m)(u:Hl n):Hl (if c then m else n):=by
 split
 ·exact h1
 ·exact u
theorem aeI(o:bd×bz):Hl (QL o):=λ _ _ _ _ _ e=>by cases e;exact Hs.refl _
theorem Uv{l:aI}(hS:0<=l.ar)(O kind fB eE v:Int):Hl (oF l O kind fB eE v):=λ _ _ _ _ hm e=>(OP hS hm e).1
theorem Uu{l:aI}(hS:0<=l.ar)(O m:Int):∀(k:Nat)(b:Int),Hl (mF l O m k b)
 |0,_=>qD
 |k+1,_=>sK (CZ _) λ _=>vj qD (vj qD (sK (Uu hS O m k _) λ _=>vj qD (sK (Uv hS _ _ _ _ _) λ _=>vj qD (sK (aeI _) λ _=>sK (CZ _) λ _=>qD))))
theorem aeG{l:aI}(m kind size:Int):Hl (q6 l m kind size):=vj (sK (CZ _) λ _=>vj (sK (CZ _) λ _=>qD) qD) (vj (sK (CZ _) λ _=>qD) qD)
theorem aeH{l:aI}(hS:0<=l.ar)(O:Int)(op:a9):Hl (uH l O op):=sK (CZ _) λ _=>vj qD (sK (Uu hS _ _ _ _) λ _=>vj qD (sK (Uv hS _ _ _ _ _) λ _=>vj (sK (aeG _ _ _) λ _=>qD) qD))
end
theorem ae0{l:aI}(hS:0<=l.ar){O:Int}{gone:List (Int×Int)}{op:a9}{log:List aJ}(K:(oq l O gone op log).2.2=true)(hg:oL gone):oL (oq l O gone op log).2.1.gone/\(oq l O gone op log).2.1.gone.length<=gone.length+log.length:=by
 unfold oq at K⊢;split at K
 ·rw[if_pos ‹_›];exact⟨hg,Nat.le_add_right _ _⟩
 ·rw[if_neg ‹_›];cases h:uH l O op log ⟨0,gone,0,0,0⟩ with
  |error a=>rw[h] at K;cases K
  |ok q=>obtain⟨x,ah⟩:=q;have h1:=aeH hS O op _ _ _ _ (Nat.zero_le _) h;have:=h1.len;have:=h1.le (Nat.zero_le _);exact⟨h1.ok hg,by show ah.gone.length<=_;simp only at*;omega⟩
def Ha:cP:=vo (bR 1 17 1) BX []
def O5(l:aI)(m:List Int):Bool:=decide (0<=il l 0 0)&&decide (il l 0 0<m.length)&&(uE l m (bf l (av (db m (il l 0 0))).idx 0)).all (λ r=>decide (r.1%2≠1))&&decide ((uE l m (bf l (av (db m (il l 0 0))).idx 0)).length<=2000)
def Yi:Bool:=let t:=Ha;!t.bad&&!t.cD&&decide (t.calls.length=4)&&decide (t.calls.map cw.is=[true,false,true,true])&&decide ((t.calls.map cw.val).getD 2 0=9)&&O5 (bR 1 17 1) t.m
theorem ajU:Yi=true:=by decide+kernel
structure ZF(t:cP):Prop where
 bad:t.bad=false
 cD:t.cD=false
 calls:∃c0 c1 c2 c3:cw,t.calls=[c0,c1,c2,c3]/\c0.is=true/\c1.is=false/\c2.is=true/\c3.is=true/\c2.val=9
 none:O5 (bR 1 17 1) t.m=true
theorem ajV:ZF Ha:=by
 have h:=ajU;unfold Yi at h;generalize Ha=t at h;obtain⟨m,step,ar,calls,full,cD,bad⟩:=t;simp only[Bool.and_eq_true,decide_eq_true_eq,Bool.not_eq_true'] at h;obtain⟨⟨⟨⟨⟨h1,u⟩,J⟩,h4⟩,h5⟩,h6⟩:=h
 match calls,J with
 |[c0,c1,c2,c3],_=>simp only[List.map_cons,List.map_nil,List.cons.injEq,and_true] at h4;exact⟨h1,u,⟨c0,c1,c2,c3,rfl,h4.1,h4.2.1,h4.2.2.1,h4.2.2.2,h5⟩,h6⟩
theorem ajW:oq (bR 1 17 1) 0 [] ⟨1,1,0,0⟩ []=(iB,⟨0,false,1,-1,[]⟩,true):=by decide+kernel
theorem ajX:eH 6=2:=by decide+kernel
end Go.Proofs.YtkkldicehapklaaGreat
