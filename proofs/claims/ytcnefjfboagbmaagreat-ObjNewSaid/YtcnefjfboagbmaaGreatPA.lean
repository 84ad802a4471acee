/- Plain words, layouts, memories and programs of accesses: what they are. -/
namespace Go.Proofs.YtcnefjfboagbmaaGreat
set_option maxRecDepth 100000
structure vt where
 idx:Int
 mark:Bool
 pH:Int
deriving DecidableEq
def az(n:Int):vt:=⟨n%65536,decide (n/65536%2=1),n/131072%268435456⟩
def eo(r:vt)(i:Int):vt:=⟨i%65536,false,(r.pH+1)%268435456⟩
def dJ(r:vt):Int:=r.idx%65536+65536*(if r.mark then 1 else 0)+131072*(r.pH%268435456)
theorem j8(n:Int):0<=(az n).idx/\(az n).idx<65536:=⟨Int.emod_nonneg _ (by omega),Int.emod_lt_of_pos _ (by omega)⟩
theorem q6(n:Int):0<=(az n).pH/\(az n).pH<268435456:=⟨Int.emod_nonneg _ (by omega),Int.emod_lt_of_pos _ (by omega)⟩
structure ab where
 aA:Int
 nodes:Int
 buckets:Int
 bm:Int
 tasks:Int
 cells:Int
 maps:Int
 bo:Int
 aL:Int
 done:Int
 count:Int
 era:Int
 free:Int
 alive:Int
 owner:Int
 lI:Int
 pL:Int
 ring:Int
 task:Int
 cell:Int
 map:Int
 stack:Int
 chan:Int
 node:Int
 size:Int
deriving DecidableEq
def kM(n:Int):Prop:=0<=n/\n<=1000000
structure bQ(l:ab):Prop where
 aA:kM l.aA
 nodes:kM l.nodes
 bm:0<=l.bm/\l.bm<=8
 bo:kM l.bo
 aL:kM l.aL
 era:kM l.era
 free:kM l.free
 lI:kM l.lI
 map:kM l.map
 stack:kM l.stack
 chan:kM l.chan
 node:kM l.node
 size:kM l.size
def iq(first zd pM row i:Int):Int:=if row<0\/zd<=row\/i<0\/pM<=i then-1 else first+row*pM+i
def am(l:ab)(n i:Int):Int:=if n<1 then-1 else iq l.node l.nodes 8 (n-1) i
def b7(l:ab)(s i:Int):Int:=iq l.lI l.aA 3 s i
def hd(l:ab)(s:Int):Int:=iq l.stack l.bo (1+l.bm) s 0
def CH(l:ab)(s i:Int):Int:=if i<0\/l.bm<=i then-1 else iq l.stack l.bo (1+l.bm) s (1+i)
def gV(l:ab)(c:Int):Int:=iq l.chan l.aL 2 c 0
def mU(l:ab)(c:Int):Int:=iq l.chan l.aL 2 c 1
structure Zj(s n ma st ch:Int):Prop where
 hs:1<=s/\s<=8
 BD:0<=ma/\ma<=8
 b8:0<=st/\st<=8
 wc:0<=ch/\ch<=8
 hn:ma+ch<=n/\n<=1000
structure aS where
 kind:Int
 cell:Int
 eh:Int
 new:Int
deriving DecidableEq
structure aB where
 val:Int
 ok:Bool
deriving DecidableEq
def eF:aS:=⟨0,0,0,0⟩
def Am(n:Int):Int:=if n%18446744073709551616<9223372036854775808 then n%18446744073709551616 else n%18446744073709551616-18446744073709551616
def xv(a:aS):Bool:=decide (0<=a.cell)&&(if a.kind=1 then decide (a.new=0)&&decide (a.eh=0) else if a.kind=2\/a.kind=4\/a.kind=5 then decide (a.eh=0) else decide (a.kind=3))
def mI(n:Int)(a:aS):Int:=if xv a then(if n<=a.cell then 12 else 0) else 1
def fe(xs:List Int)(i:Int):Int:=xs.getD i.toNat 0
def kj(xs:List Int)(a:aS):List Int×aB:=
 if a.kind=3 then(if fe xs a.cell=a.eh then(xs.set a.cell.toNat a.new,⟨fe xs a.cell,true⟩) else(xs,⟨fe xs a.cell,false⟩))
 else if a.kind=2\/a.kind=5 then(xs.set a.cell.toNat a.new,⟨fe xs a.cell,true⟩)
 else if a.kind=4 then(xs.set a.cell.toNat (Am (fe xs a.cell+a.new)),⟨fe xs a.cell,true⟩)
 else(xs,⟨fe xs a.cell,true⟩)
def zg(xs:List Int)(a:aS):List Int×aB×Int:=if mI xs.length a=0 then((kj xs a).1,(kj xs a).2,0) else(xs,⟨0,false⟩,mI xs.length a)
def aG(xs:List Int)(i:Int):Int:=if i<0\/(xs.length:Int)<=i then 0 else fe xs i
def jX(tN:List Int):List Int->List aB->List aS->List Int×List aB×Int
 |cur,gE,[]=>(cur,gE,0)
 |cur,gE,a::more=>if mI cur.length a=0 then jX tN (kj cur a).1 (gE++[(kj cur a).2]) more else(tN,[],mI cur.length a)
theorem zj:∀(N:Nat)(l:List Int),l.Nodup->(∀x∈l,1<=x/\x<=(N:Int))->l.length<=N
 |0,l,_,h=>by
  cases l with
  |nil=>simp
  |cons x l=>have:=h x (by simp);omega
 |N+1,l,G,h=>by
  by_cases hm:((N+1:Nat):Int)∈l
  ·have u:=zj N (l.erase ((N+1:Nat):Int)) (G.erase _) (λ x T=>by
    rw[G.mem_erase_iff] at T;have:=h x T.2;have:=T.1;omega)
   rw[List.length_erase_of_mem hm] at u;omega
  ·have u:=zj N l G (λ x T=>by
    have:=h x T;have:x≠((N+1:Nat):Int):=λ e=>hm (e▸T)
    omega)
   omega
def fL(nx:Int->Int)(N:Int):Nat->List Int->Int->List Int
 |0,acc,_=>acc
 |k+1,acc,n=>if 1<=n/\n<=N/\n∉acc then fL nx N k (acc++[n]) (nx n) else acc
def nl(l:ab)(m:List Int):List Int:=fL (λ n=>aG m (am l n 7)) l.nodes (l.nodes.toNat+1) [] (az (aG m l.free)).idx
structure af where
 made:Nat
 gone:List (Int×Int)
 e0:Int
 e1:Int
 e2:Int
deriving DecidableEq
def af.e(s:af)(i:Int):Int:=if i=0 then s.e0 else if i=1 then s.e1 else s.e2
def af.mf(s:af)(i v:Int):af:=if i=0 then{s with e0:=v} else if i=1 then{s with e1:=v} else{s with e2:=v}
structure br where
 val:Int
 is:Bool
 err:Int
 cJ:Int
 gone:List (Int×Int)
deriving DecidableEq
structure cq where
 kind:Int
 obj:Int
 a:Int
 b:Int
deriving DecidableEq
def lH:br:=⟨0,false,0,0,[]⟩
abbrev Pm(aq:Type):=List aB->af->Except aS (aq×af)
def fw(a:aS):Pm aB:=λ log s=>match log[s.made]? with
 |some r=>.ok (r,{s with made:=s.made+1})
 |none=>.error a
def Pm.bind{aq dP:Type}(m:Pm aq)(f:aq->Pm dP):Pm dP:=λ log s=>match m log s with
 |.ok (x,U)=>f x log U
 |.error a=>.error a
def Pm.pure{aq:Type}(x:aq):Pm aq:=λ _ s=>.ok (x,s)
theorem au{aq dP:Type}{m:Pm aq}{f:aq->Pm dP}{log:List aB}{s U:af}{x:aq}(h:m log s=.ok (x,U)):m.bind f log s=f x log U:=by unfold Pm.bind;rw[h]
theorem bl{aq dP:Type}{m:Pm aq}{f:aq->Pm dP}{log:List aB}{s:af}{a:aS}(h:m log s=.error a):m.bind f log s=.error a:=by unfold Pm.bind;rw[h]
theorem bind_assoc{aq dP xH:Type}(m:Pm aq)(f:aq->Pm dP)(k:dP->Pm xH):(m.bind f).bind k=m.bind λ x=>(f x).bind k:=by
 funext log s
 unfold Pm.bind;cases m log s with
 |error a=>rfl
 |ok q=>rfl
def k9:Pm Int:=λ _ s=>.ok ((s.made:Int)-1,s)
theorem eC{log:List aB}{s:af}:k9 log s=.ok ((s.made:Int)-1,s):=rfl
def cy(c:Int):Pm Int:=(fw ⟨1,c,0,0⟩).bind λ r=>.pure r.val
def fa(c v:Int):Pm Unit:=(fw ⟨2,c,0,v⟩).bind λ _=>.pure ()
def fv(c o v:Int):Pm Bool:=(fw ⟨3,c,o,v⟩).bind λ r=>.pure r.ok
def mV(l:ab):Nat->Pm (Int×Int×Bool)
 |0=>.pure (0,0,false)
 |k+1=>(cy l.free).bind λ free=>
  if(az free).idx=0 then k9.bind λ at_=>.pure (0,at_,false)
  else(cy (am l (az free).idx 7)).bind λ VC=>(fv l.free free (dJ (eo (az free) VC))).bind λ ok=>
   if ok then k9.bind λ at_=>(cy l.era).bind λ Rh=>(fa (am l (az free).idx 6) Rh).bind λ _=>.pure ((az free).idx,at_,true)
   else mV l k
def qk(l:ab):Pm (Int×Int×Bool):=λ log s=>mV l (log.length+1-s.made) log s
def lu(l:ab)(n:Int):Nat->Pm Unit
 |0=>.pure ()
 |k+1=>(cy l.free).bind λ free=>(fa (am l n 7) (az free).idx).bind λ _=>(fv l.free free (dJ (eo (az free) n))).bind λ ok=>if ok then .pure () else lu l n k
def m8(l:ab)(n:Int):Pm Unit:=λ log s=>lu l n (log.length+1-s.made) log s
def kq(l:ab)(E i cell:Int):Nat->Pm (Int×Int)
 |0=>.pure (0,0)
 |k+1=>(cy cell).bind λ v=>k9.bind λ at_=>(cy l.era).bind λ era=>λ log s=>if era=s.e i then .ok ((v,at_),s) else(fa (b7 l E i) era).bind (λ _ log s=>kq l E i cell k log (s.mf i era)) log s
def kT(l:ab)(E i cell:Int):Pm (Int×Int):=λ log s=>kq l E i cell (log.length+1-s.made) log s
def n7(i:Nat):Pm Unit:=λ _ s=>.ok ((),match i with|0=>{s with e0:=0}|1=>{s with e1:=0}|_=>{s with e2:=0})
def db(l:ab)(E:Int)(i:Nat)(e:Int):Pm Unit:=if e=0 then .pure () else(fa (b7 l E i) 0).bind λ _=>n7 i
def ge(l:ab)(E:Int)(i:Nat):List Int->Pm Unit
 |[]=>.pure ()
 |e::es=>(db l E i e).bind λ _=>ge l E (i+1) es
def fZ(l:ab)(E:Int):Pm Unit:=λ log s=>ge l E 0 [s.e0,s.e1,s.e2] log s
def hx(Sc to r:Int):Bool:=decide (Sc<=r)&&decide (r<=to)
def p5(x:Int):Int:=if 1>x then 1 else x
def je(l:ab)(j:Nat):Nat->List Int
 |0=>[]
 |m+1=>b7 l j 0::b7 l j 1::b7 l j 2::je l (j+1) m
def jy:List Int->List Int->Pm (List Int)
 |acc,[]=>.pure acc
 |acc,c::cs=>(cy c).bind λ v=>jy (acc++[v]) cs
def eU(l:ab)(aM:List Int):List (Int×Int)->List (Int×Int)->Pm (List (Int×Int))
 |[],aY=>.pure aY
 |g::gs,aY=>(cy (am l g.1 6)).bind λ b=>if aM.any (hx (p5 b) g.2) then eU l aM gs (aY++[g]) else(m8 l g.1).bind λ _=>eU l aM gs aY
def iG(g:List (Int×Int)):Pm Unit:=λ _ s=>.ok ((),{s with gone:=g})
def rc(l:ab)(gone:List (Int×Int)):Pm Unit:=(jy [] (je l 0 l.aA.toNat)).bind λ aM=>(eU l aM gone []).bind λ aY=>iG aY
def kg(l:ab)(n:Int):Pm Unit:=(cy l.era).bind λ era=>(fw ⟨4,l.era,0,1⟩).bind λ _=>λ log s=>
 if((s.gone.length:Int)+1)<2*l.aA then .ok ((),{s with gone:=s.gone++[(n,era)]})
 else rc l (s.gone++[(n,era)]) log {s with gone:=s.gone++[(n,era)]}
def ot(m:Except aS (br×af)):aS×br×Bool:=match m with
 |.ok (x,U)=>(eF,{x with gone:=U.gone},true)
 |.error a=>(a,lH,false)
theorem RK{aq:Type}{a:aS}{f:aB->Pm aq}{log:List aB}{s:af}(h:log.drop s.made=[]):(fw a).bind f log s=.error a:=by
 have:log[s.made]?=none:=by rw[List.drop_eq_nil_iff] at h;exact List.getElem?_eq_none h
 unfold Pm.bind fw;rw[this]
theorem KM{log rest:List aB}{n:Nat}{r:aB}(h:log.drop n=r::rest):log[n]?=some r/\log.drop (n+1)=rest/\n<log.length:=by
 have bh:n<log.length:=by
  rcases Nat.lt_or_ge n log.length with u|u
  ·exact u
  ·rw[List.drop_eq_nil_of_le u] at h;cases h
 rw[List.drop_eq_getElem_cons bh] at h;injection h with u D
 exact⟨by rw[List.getElem?_eq_getElem bh,u],D,bh⟩
theorem RJ{aq:Type}{a:aS}{f:aB->Pm aq}{log rest:List aB}{s:af}{r:aB}(h:log.drop s.made=r::rest):(fw a).bind f log s=f r log {s with made:=s.made+1}:=by have:=(KM h).1;unfold Pm.bind fw;rw[this]
theorem po{aq:Type}(c:Int)(f:Int->Pm aq):(cy c).bind f=(fw ⟨1,c,0,0⟩).bind λ r=>f r.val:=by unfold cy;rw[bind_assoc];rfl
theorem si{aq:Type}(c v:Int)(f:Unit->Pm aq):(fa c v).bind f=(fw ⟨2,c,0,v⟩).bind λ _=>f ():=by unfold fa;rw[bind_assoc];rfl
theorem vG{aq:Type}(c o v:Int)(f:Bool->Pm aq):(fv c o v).bind f=(fw ⟨3,c,o,v⟩).bind λ r=>f r.ok:=by unfold fv;rw[bind_assoc];rfl
structure Ws where
 ob:Int->Int
 nd:Int->Int->Int
structure Vw where
 er:Int
 fr:Int
 rv:Int->Int->Int
 bi:Int->Int
 lk:Int->Int
 W:Ws
inductive Ad where
 |era|free|ob (c:Int)|rv (w i:Int)|nd (n i:Int)|bi (n:Int)|lk (n:Int)
deriving DecidableEq
def Ad.cell(l:ab):Ad->Int
 |.era=>l.era
 |.free=>l.free
 |.ob c=>c
 |.rv w i=>b7 l w i
 |.nd n i=>am l n i
 |.bi n=>am l n 6
 |.lk n=>am l n 7
def Ad.ok(l:ab)(S N:Nat):Ad->Prop
 |.era=>True
 |.free=>True
 |.ob c=>4+5*(S:Int)<=c/\c<l.node
 |.rv w i=>0<=w/\w<S/\0<=i/\i<=2
 |.nd n i=>1<=n/\n<=N/\0<=i/\i<=5
 |.bi n=>1<=n/\n<=N
 |.lk n=>1<=n/\n<=N
def Ad.str(l:ab)(S N:Nat):Ad->Prop
 |.ob c=>4+5*(S:Int)<=c/\c<l.node
 |.nd n i=>1<=n/\n<=N/\0<=i/\i<=5
 |_=>False
def Ws.O9(W:Ws)(c v:Int):Ws:={W with ob:=λ bU=>if bU=c then v else W.ob bU}
def Ws.O8(W:Ws)(n i v:Int):Ws:={W with nd:=λ iD r7=>if iD=n/\r7=i then v else W.nd iD r7}
def Ws.get(W:Ws):Ad->Int
 |.ob c=>W.ob c
 |.nd n i=>W.nd n i
 |_=>0
def Ws.put(W:Ws)(a:Ad)(v:Int):Ws:=match a with
 |.ob c=>W.O9 c v
 |.nd n i=>W.O8 n i v
 |_=>W
def Vw.get(iJ:Vw):Ad->Int
 |.era=>iJ.er
 |.free=>iJ.fr
 |.ob c=>iJ.W.ob c
 |.rv w i=>iJ.rv w i
 |.nd n i=>iJ.W.nd n i
 |.bi n=>iJ.bi n
 |.lk n=>iJ.lk n
def Vw.put(iJ:Vw)(a:Ad)(v:Int):Vw:=match a with
 |.era=>{iJ with er:=v}
 |.free=>{iJ with fr:=v}
 |.ob c=>{iJ with W:=iJ.W.O9 c v}
 |.rv w i=>{iJ with rv:=λ aH r7=>if aH=w/\r7=i then v else iJ.rv aH r7}
 |.nd n i=>{iJ with W:=iJ.W.O8 n i v}
 |.bi n=>{iJ with bi:=λ iD=>if iD=n then v else iJ.bi iD}
 |.lk n=>{iJ with lk:=λ iD=>if iD=n then v else iJ.lk iD}
structure Zl(l:ab)(S N:Nat):Prop where
 aA:l.aA=S
 nodes:l.nodes=N
 era:l.era=2
 free:l.free=3
 lI:∀w i:Int,0<=w->w<S->0<=i->i<=2->b7 l w i=4+2*(S:Int)+3*w+i
 node:∀n i:Int,1<=n->n<=N->0<=i->i<=7->am l n i=l.node+8*(n-1)+i
 low:4+5*(S:Int)<=l.node
 size:l.size=l.node+8*(N:Int)
 s1:1<=S
structure Qn(l:ab)(S N:Nat)(m:List Int)(iJ:Vw):Prop where
 len:m.length=l.size.toNat
 at_:∀a:Ad,a.ok l S N->fe m (a.cell l)=iJ.get a
inductive Ak where
 |ld (a:Ad)|st (a:Ad) (v:Int)|cs (a:Ad) (o v:Int)|up
def Ak.acc(l:ab):Ak->aS
 |.ld a=>⟨1,a.cell l,0,0⟩
 |.st a v=>⟨2,a.cell l,0,v⟩
 |.cs a o v=>⟨3,a.cell l,o,v⟩
 |.up=>⟨4,l.era,0,1⟩
def Ak.ad:Ak->Ad
 |.ld a=>a
 |.st a _=>a
 |.cs a _ _=>a
 |.up=>.era
structure Zi(l:ab)(S N:Nat)(m:List Int)(a:aS)(iJ:Vw)(r:aB):Prop where
 ZC:mI m.length a=0
 aaP:Qn l S N (kj m a).1 iJ
 uY:(kj m a).2=r
inductive Pc(cB:Type) where
 |at_ (k:cB)
 |t1 (k:cB)|t2 (k:cB) (f:Int)|t3 (k:cB) (f lk:Int)|t4 (k:cB) (n a:Int)|t5 (k:cB) (n a b:Int)
 |g1 (k:cB) (i:Int) (c:Ad)|g2 (k:cB) (i:Int) (c:Ad) (v a:Int)|g3 (k:cB) (i:Int) (c:Ad) (er:Int)
 |h3 (k:cB)|c (k:cB) (i:Int)
 |v1 (k:cB) (n:Int)|v2 (k:cB) (n f:Int)|v3 (k:cB) (n f:Int)
 |r1 (k:cB) (n:Int)|r2 (k:cB) (n er:Int)
 |rs (k:cB) (aM:List Int) (c:Ad) (cs:List Ad)
 |s1 (k:cB) (aM:List Int) (g:Int×Int) (gs aY:List (Int×Int))
 |w1 (k:cB) (aM:List Int) (g:Int×Int) (gs aY:List (Int×Int))
 |w2 (k:cB) (aM:List Int) (g:Int×Int) (gs aY:List (Int×Int)) (f:Int)
 |w3 (k:cB) (aM:List Int) (g:Int×Int) (gs aY:List (Int×Int)) (f:Int)
 |fin (o:br)
structure qo(cB:Type) where
 ask:cB->Ak
 tell:cB->Nat->aB->Pc cB
 JO:cB->Int->Int->Pc cB
 full:cB->Int->Pc cB
 guarded:cB->Int->Int->Pc cB
 Gp:cB->Pc cB
 GO:cB->Pc cB
 retired:cB->Pc cB
structure Q(cB:Type) where
 pc:Pc cB
 s:af
variable{cB:Type}
def Gb(av:qo cB)(w:Int):Pc cB->Ak
 |.at_ k=>av.ask k
 |.t1 _=>.ld .free
 |.t2 _ f=>.ld (.lk (az f).idx)
 |.t3 _ f lk=>.cs .free f (dJ (eo (az f) lk))
 |.t4 _ _ _=>.ld .era
 |.t5 _ n _ b=>.st (.bi n) b
 |.g1 _ _ c=>.ld c
 |.g2 _ _ _ _ _=>.ld .era
 |.g3 _ i _ er=>.st (.rv w i) er
 |.h3 _=>.ld .free
 |.c _ i=>.st (.rv w i) 0
 |.v1 _ _=>.ld .free
 |.v2 _ n f=>.st (.lk n) (az f).idx
 |.v3 _ n f=>.cs .free f (dJ (eo (az f) n))
 |.r1 _ _=>.ld .era
 |.r2 _ _ _=>.up
 |.rs _ _ c _=>.ld c
 |.s1 _ _ g _ _=>.ld (.bi g.1)
 |.w1 ..=>.ld .free
 |.w2 _ _ g _ _ f=>.st (.lk g.1) (az f).idx
 |.w3 _ _ g _ _ f=>.cs .free f (dJ (eo (az f) g.1))
 |.fin _=>.ld .free
def mw(av:qo cB)(k:cB)(s:af):Q cB:=if s.e0≠0 then⟨.c k 0,s⟩ else if s.e1≠0 then⟨.c k 1,s⟩ else if s.e2≠0 then⟨.c k 2,s⟩ else⟨av.Gp k,s⟩
def fC(av:qo cB)(pc:Pc cB)(s:af):Q cB:=match pc with
 |.h3 k=>mw av k s
 |pc=>⟨pc,s⟩
def tM(av:qo cB)(k:cB)(aM:List Int)(s:af):List (Int×Int)->List (Int×Int)->Q cB
 |[],aY=>fC av (av.retired k) {s with gone:=aY}
 |g::gs,aY=>⟨.s1 k aM g gs aY,s⟩
def xx(av:qo cB)(k:cB)(aM:List Int)(s:af):List Ad->Q cB
 |[]=>tM av k aM s s.gone []
 |c::cs=>⟨.rs k aM c cs,s⟩
def Cw(j:Nat):Nat->List Ad
 |0=>[]
 |m+1=>.rv j 0::.rv j 1::.rv j 2::Cw (j+1) m
def af.up(s:af):af:={s with made:=s.made+1}
theorem E2(x:af)(i v:Int):(x.mf i v).made=x.made:=by
 unfold af.mf;split
 ·rfl
 ·split<;>rfl
def tell(av:qo cB)(S:Nat)(q:Q cB)(r:aB):Q cB:=match q.pc with
 |.at_ k=>fC av (av.tell k q.s.made r) q.s.up
 |.t1 k=>if(az r.val).idx=0 then fC av (av.full k q.s.made) q.s.up else⟨.t2 k r.val,q.s.up⟩
 |.t2 k f=>⟨.t3 k f r.val,q.s.up⟩
 |.t3 k f _=>if r.ok then⟨.t4 k (az f).idx q.s.made,q.s.up⟩ else⟨.t1 k,q.s.up⟩
 |.t4 k n a=>⟨.t5 k n a r.val,q.s.up⟩
 |.t5 k n a _=>fC av (av.JO k n a) q.s.up
 |.g1 k i c=>⟨.g2 k i c r.val q.s.made,q.s.up⟩
 |.g2 k i c v a=>if r.val=q.s.e i then fC av (av.guarded k v a) q.s.up else⟨.g3 k i c r.val,q.s.up⟩
 |.g3 k i c er=>⟨.g1 k i c,q.s.up.mf i er⟩
 |.h3 _=>q
 |.c k i=>mw av k (q.s.up.mf i 0)
 |.v1 k n=>⟨.v2 k n r.val,q.s.up⟩
 |.v2 k n f=>⟨.v3 k n f,q.s.up⟩
 |.v3 k n _=>if r.ok then fC av (av.GO k) q.s.up else⟨.v1 k n,q.s.up⟩
 |.r1 k n=>⟨.r2 k n r.val,q.s.up⟩
 |.r2 k n er=>if(q.s.gone.length:Int)+1<2*(S:Int) then fC av (av.retired k) {q.s.up with gone:=q.s.gone++[(n,er)]} else xx av k [] {q.s.up with gone:=q.s.gone++[(n,er)]} (Cw 0 S)
 |.rs k aM _ cs=>xx av k (aM++[r.val]) q.s.up cs
 |.s1 k aM g gs aY=>if aM.any (hx (p5 r.val) g.2) then tM av k aM q.s.up gs (aY++[g]) else⟨.w1 k aM g gs aY,q.s.up⟩
 |.w1 k aM g gs aY=>⟨.w2 k aM g gs aY r.val,q.s.up⟩
 |.w2 k aM g gs aY f=>⟨.w3 k aM g gs aY f,q.s.up⟩
 |.w3 k aM g gs aY _=>if r.ok then tM av k aM q.s.up gs aY else⟨.w1 k aM g gs aY,q.s.up⟩
 |.fin _=>q
def rb(av:qo cB)(S:Nat)(q:Q cB)(log:List aB):Q cB:=log.foldl (tell av S) q
def Dn(av:qo cB)(l:ab)(w:Int)(q:Q cB):aS×br×Bool:=match q.pc with
 |.fin o=>(eF,{o with gone:=q.s.gone},true)
 |pc=>((Gb av w pc).acc l,lH,false)
def Pc.Ga:Pc cB->Prop
 |.fin _=>False
 |.h3 _=>False
 |_=>True
section
variable{av:qo cB}{l:ab}{S:Nat}{E:Int}
def cY(av:qo cB)(l:ab)(S:Nat)(E:Int)(q:Q cB)(x:Except aS (br×af))(rest:List aB):Prop:=ot x=Dn av l E (rb av S q rest)
theorem RL{q:Q cB}{a:aS}{f:aB->Pm br}{log:List aB}{s:af}(ha:(Gb av E q.pc).acc l=a)(hf:q.pc.Ga)
 (h:∀r rest,log.drop s.made=r::rest->cY av l S E (tell av S q r) (f r log s.up) rest):cY av l S E q ((fw a).bind f log s) (log.drop s.made):=by
 cases G:log.drop s.made with
 |nil=>
  rw[RK G];show(a,lH,false)=Dn av l E q;unfold Dn;split
  ·rename_i o X;rw[X] at hf;exact absurd hf id
  ·rw[ha]
 |cons r rest=>rw[RJ G];exact h r rest G
theorem O0{o:br}{s:af}:∀rest:List aB,rb av S ⟨.fin o,s⟩ rest=⟨.fin o,s⟩
 |[]=>rfl
 |_::rest=>O0 rest
theorem KK{o:br}{s:af}{rest:List aB}:cY av l S E ⟨.fin o,s⟩ (.ok (o,s)) rest:=by
 unfold cY;rw[O0]
 rfl
theorem gR{q:Q cB}{a:aS}{f:aB->Pm br}{log:List aB}{s:af}(ha:(Gb av E q.pc).acc l=a)(hf:q.pc.Ga)
 (h:∀r,s.made<log.length->cY av l S E (tell av S q r) (f r log s.up) (log.drop s.up.made)):cY av l S E q ((fw a).bind f log s) (log.drop s.made):=by
 refine RL ha hf λ r rest G=>?_
 obtain⟨_,rP,S6⟩:=KM G;subst rP;exact h r S6
theorem PJ{k:cB}{f:Int×Int×Bool->Pm br}{log:List aB}{M0:Nat}(hf:∀n a s,M0<=s.made->s.made<=log.length->cY av l S E (fC av (av.JO k n a) s) (f (n,a,true) log s) (log.drop s.made))(ow:∀a s,M0<=s.made->s.made<=log.length->cY av l S E (fC av (av.full k a) s) (f (0,a,false) log s) (log.drop s.made)):
 ∀(j:Nat)(s:af),M0<=s.made->log.length-s.made<j->cY av l S E ⟨.t1 k,s⟩ ((mV l j).bind f log s) (log.drop s.made)
 |0,s,_,h=>by omega
 |j+1,s,hM,h=>by
  rw[mV,bind_assoc,po];refine gR rfl trivial λ r u=>?_
  show cY av l S E (if(az r.val).idx=0 then _ else _) _ _;split
  ·rw[bind_assoc,au eC];have:=ow (s.made:Int) s.up (by simp only[af.up];omega) (by simp only[af.up];omega);show cY av l S E _ (f (0,((s.made+1:Nat):Int)-1,false) log _) _;rw[show((s.made+1:Nat):Int)-1=(s.made:Int) by omega];exact this
  ·rw[bind_assoc,po];refine gR (s:=s.up) rfl trivial λ r2 D=>?_
   rw[bind_assoc,vG];refine gR (q:=⟨.t3 k r.val r2.val,s.up.up⟩) (s:=s.up.up) rfl trivial λ r3 K=>?_
   show cY av l S E (if r3.ok then _ else _) _ _;split
   ·rw[bind_assoc,au eC,bind_assoc,po];refine gR (s:=s.up.up.up) rfl trivial λ r4 h4=>?_
    rw[bind_assoc,si];refine gR (q:=⟨.t5 k (az r.val).idx s.up.up.made r4.val,s.up.up.up.up⟩) (s:=s.up.up.up.up) rfl trivial λ r5 h5=>?_
    have:=hf (az r.val).idx (s.up.up.made:Int) s.up.up.up.up.up (by simp only[af.up];omega) (by simp only[af.up] at h5⊢;omega);show cY av l S E _ (f ((az r.val).idx,((s.up.up.up.made:Nat):Int)-1,true) log _) _;rw[show((s.up.up.up.made:Nat):Int)-1=(s.up.up.made:Int) by simp only[af.up];omega];exact this
   ·exact PJ hf ow j s.up.up.up (by simp only[af.up];omega) (by simp only[af.up] at K⊢;omega)
theorem Ld{k:cB}{n:Int}{f:Unit->Pm br}{log:List aB}{M0:Nat}(hf:∀s,M0<=s.made->s.made<=log.length->cY av l S E (fC av (av.GO k) s) (f () log s) (log.drop s.made)):
 ∀(j:Nat)(s:af),M0<=s.made->log.length-s.made<j->cY av l S E ⟨.v1 k n,s⟩ ((lu l n j).bind f log s) (log.drop s.made)
 |0,s,_,h=>by omega
 |j+1,s,hM,h=>by
  rw[lu,bind_assoc,po];refine gR rfl trivial λ r u=>?_
  rw[bind_assoc,si];refine gR (q:=⟨.v2 k n r.val,s.up⟩) (s:=s.up) rfl trivial λ r2 D=>?_
  rw[bind_assoc,vG];refine gR (q:=⟨.v3 k n r.val,s.up.up⟩) (s:=s.up.up) rfl trivial λ r3 K=>?_
  show cY av l S E (if r3.ok then _ else _) _ _;split
  ·exact hf s.up.up.up (by simp only[af.up];omega) (by simp only[af.up] at K⊢;omega)
  ·exact Ld hf j s.up.up.up (by simp only[af.up];omega) (by simp only[af.up] at K⊢;omega)
theorem PY{k:cB}{aM:List Int}{g:Int×Int}{gs aY:List (Int×Int)}{f:Unit->Pm br}{log:List aB}{M0:Nat}(hf:∀s,M0<=s.made->s.made<=log.length->cY av l S E (tM av k aM s gs aY) (f () log s) (log.drop s.made)):
 ∀(j:Nat)(s:af),M0<=s.made->log.length-s.made<j->cY av l S E ⟨.w1 k aM g gs aY,s⟩ ((lu l g.1 j).bind f log s) (log.drop s.made)
 |0,s,_,h=>by omega
 |j+1,s,hM,h=>by
  rw[lu,bind_assoc,po];refine gR rfl trivial λ r u=>?_
  rw[bind_assoc,si];refine gR (q:=⟨.w2 k aM g gs aY r.val,s.up⟩) (s:=s.up) rfl trivial λ r2 D=>?_
  rw[bind_assoc,vG];refine gR (q:=⟨.w3 k aM g gs aY r.val,s.up.up⟩) (s:=s.up.up) rfl trivial λ r3 K=>?_
  show cY av l S E (if r3.ok then _ else _) _ _;split
  ·exact hf s.up.up.up (by simp only[af.up];omega) (by simp only[af.up] at K⊢;omega)
  ·exact PY hf j s.up.up.up (by simp only[af.up];omega) (by simp only[af.up] at K⊢;omega)
theorem Jr{k:cB}{aM:List Int}{f:Unit->Pm br}{log:List aB}{M0:Nat}(hf:∀s,M0<=s.made->s.made<=log.length->cY av l S E (fC av (av.retired k) s) (f () log s) (log.drop s.made)):
 ∀(gs aY:List (Int×Int))(s:af),M0<=s.made->s.made<=log.length->cY av l S E (tM av k aM s gs aY) ((eU l aM gs aY).bind (λ st=>(iG st).bind f) log s) (log.drop s.made)
 |[],aY,s,hM,hs=>by
  rw[eU];exact hf {s with gone:=aY} hM hs
 |g::gs,aY,s,hM,hs=>by
  rw[eU,bind_assoc,po];refine gR (q:=⟨.s1 k aM g gs aY,s⟩) rfl trivial λ r u=>?_
  show cY av l S E (if aM.any (hx (p5 r.val) g.2) then _ else _) _ _;split
  ·exact Jr hf gs (aY++[g]) s.up (by simp only[af.up];omega) (by simp only[af.up];omega)
  ·rw[bind_assoc];exact PY (λ s hM hs=>Jr hf gs aY s hM hs) (log.length+1-s.up.made) s.up (by simp only[af.up];omega) (by simp only[af.up];omega)
theorem OU(l:ab):∀(m j:Nat),(Cw j m).map (Ad.cell l)=je l j m
 |0,_=>rfl
 |m+1,j=>by simp only[Cw,je,List.map_cons,OU l m (j+1)];rfl
theorem O5{k:cB}{gone:List (Int×Int)}{f:Unit->Pm br}{log:List aB}{M0:Nat}(hf:∀s,M0<=s.made->s.made<=log.length->cY av l S E (fC av (av.retired k) s) (f () log s) (log.drop s.made)):
 ∀(cs:List Ad)(aM:List Int)(s:af),s.gone=gone->M0<=s.made->s.made<=log.length->cY av l S E (xx av k aM s cs) ((jy aM (cs.map (Ad.cell l))).bind (λ aM=>(eU l aM gone []).bind (λ st=>(iG st).bind f)) log s) (log.drop s.made)
 |[],aM,s,hg,hM,hs=>by
  rw[List.map_nil,jy];subst hg;exact Jr hf s.gone [] s hM hs
 |c::cs,aM,s,hg,hM,hs=>by
  rw[List.map_cons,jy,bind_assoc,po];refine gR (q:=⟨.rs k aM c cs,s⟩) rfl trivial λ r u=>?_
  exact O5 hf cs (aM++[r.val]) s.up hg (by simp only[af.up];omega) (by simp only[af.up];omega)
theorem Yn(gone:List (Int×Int))(f:Unit->Pm br):(rc l gone).bind f=(jy [] (je l 0 l.aA.toNat)).bind (λ aM=>(eU l aM gone []).bind (λ st=>(iG st).bind f)):=by
 unfold rc;rw[bind_assoc]
 congr 1
 funext aM
 rw[bind_assoc]
theorem OV(hS:l.aA=(S:Int)){k:cB}{n:Int}{f:Unit->Pm br}{log:List aB}{M0:Nat}(hf:∀s,M0<=s.made->s.made<=log.length->cY av l S E (fC av (av.retired k) s) (f () log s) (log.drop s.made))(s:af)(hM:M0<=s.made):cY av l S E ⟨.r1 k n,s⟩ ((kg l n).bind f log s) (log.drop s.made):=by
 rw[kg,bind_assoc,po];refine gR rfl trivial λ r u=>?_
 rw[bind_assoc];refine gR (q:=⟨.r2 k n r.val,s.up⟩) (s:=s.up) rfl trivial λ r2 D=>?_
 show cY av l S E (if(s.gone.length:Int)+1<2*(S:Int) then _ else _) _ _;unfold Pm.bind;simp only;rw[hS]
 by_cases bh:(s.gone.length:Int)+1<2*(S:Int)
 ·rw[if_pos bh,if_pos (show((s.up.up.gone.length:Int)+1<2*(S:Int)) from bh)];exact hf {s.up.up with gone:=s.gone++[(n,r.val)]} (by simp only[af.up];omega) (by simp only[af.up] at D⊢;omega)
 ·rw[if_neg bh,if_neg (show¬((s.up.up.gone.length:Int)+1<2*(S:Int)) from bh)];have:=O5 (l:=l) (E:=E) (av:=av) (S:=S) (k:=k) (gone:=s.gone++[(n,r.val)]) hf (Cw 0 S) [] {s.up.up with gone:=s.gone++[(n,r.val)]} rfl (by simp only[af.up];omega) (by simp only[af.up] at D⊢;omega);show cY av l S E _ ((rc l (s.gone++[(n,r.val)])).bind f log {s.up.up with gone:=s.gone++[(n,r.val)]}) _;rw[Yn,hS,Int.toNat_natCast,<-OU];exact this
theorem GU{k:cB}{i:Int}{c:Ad}{f:Int×Int->Pm br}{log:List aB}{M0:Nat}(hf:∀v a s,M0<=s.made->s.made<=log.length->cY av l S E (fC av (av.guarded k v a) s) (f (v,a) log s) (log.drop s.made)):
 ∀(j:Nat)(s:af),M0<=s.made->log.length-s.made<j->cY av l S E ⟨.g1 k i c,s⟩ ((kq l E i (c.cell l) j).bind f log s) (log.drop s.made)
 |0,s,_,h=>by omega
 |j+1,s,hM,h=>by
  rw[kq,bind_assoc,po];refine gR rfl trivial λ r u=>?_
  rw[bind_assoc,au eC,bind_assoc,po];refine gR (q:=⟨.g2 k i c r.val s.made,s.up⟩) (s:=s.up) rfl trivial λ r2 D=>?_
  have key:∀m:Pm br,m=((fa (b7 l E i) r2.val).bind (λ _ log s=>kq l E i (c.cell l) j log (s.mf i r2.val))).bind f->cY av l S E ⟨.g3 k i c r2.val,s.up.up⟩ (m log s.up.up) (log.drop s.up.up.made):=by
   intro m hm;rw[hm,bind_assoc,si];refine gR (s:=s.up.up) rfl trivial λ r3 K=>?_
   have HU:=E2;have:=GU (k:=k) (i:=i) (c:=c) hf j (s.up.up.up.mf i r2.val) (by rw[HU];simp only[af.up];omega) (by rw[HU];simp only[af.up] at K⊢;omega);rw[HU] at this;exact this
  show cY av l S E (if r2.val=s.e i then _ else _) _ _;unfold Pm.bind;simp only
  by_cases he:r2.val=s.e i
  ·rw[if_pos he,if_pos (show r2.val=s.up.up.e i from he)];have:=hf r.val (s.made:Int) s.up.up (by simp only[af.up];omega) (by simp only[af.up] at D⊢;omega);show cY av l S E _ (f (r.val,((s.made+1:Nat):Int)-1) log s.up.up) _;rw[show((s.made+1:Nat):Int)-1=(s.made:Int) by omega];exact this
  ·rw[if_neg he,if_neg (show¬r2.val=s.up.up.e i from he)];exact key _ rfl
theorem Kw{k:cB}{f:Unit->Pm br}{log:List aB}{M0:Nat}(hf:∀s,s.e0=0->s.e1=0->s.e2=0->M0<=s.made->s.made<=log.length->cY av l S E ⟨av.Gp k,s⟩ (f () log s) (log.drop s.made))(s:af)(hM:M0<=s.made)(hs:s.made<=log.length):cY av l S E (fC av (.h3 k) s) ((fZ l E).bind f log s) (log.drop s.made):=by
 have D:∀s:af,s.e0=0->s.e1=0->M0<=s.made->s.made<=log.length->cY av l S E (mw av k s) ((db l E 2 s.e2).bind f log s) (log.drop s.made):=by
  intro s z0 z1 hM hs;unfold mw;rw[if_neg (by simp[z0]),if_neg (by simp[z1])];unfold db
  by_cases h:s.e2=0
  ·rw[if_neg (by simp[h]),if_pos h];exact hf s z0 z1 h hM hs
  ·rw[if_pos h,if_neg h,bind_assoc,si];refine gR rfl trivial λ r u=>?_
   have:=hf {s.up with e2:=0} z0 z1 rfl (by simp only[af.up];omega) (by simp only[af.up];omega);show cY av l S E (mw av k {s.up with e2:=0}) (f () log {s.up with e2:=0}) _;unfold mw;rw[if_neg (by simp[af.up,z0]),if_neg (by simp[af.up,z1]),if_neg (by simp)];exact this
 have u:∀s:af,s.e0=0->M0<=s.made->s.made<=log.length->cY av l S E (mw av k s) (((db l E 1 s.e1).bind λ _=>(db l E 2 s.e2).bind f) log s) (log.drop s.made):=by
  intro s z0 hM hs
  by_cases h:s.e1=0
  ·have e:((db l E 1 s.e1).bind λ _=>(db l E 2 s.e2).bind f) log s=((db l E 2 s.e2).bind f) log s:=by unfold db;rw[if_pos h];rfl
   rw[e];exact D s z0 h hM hs
  ·unfold mw;rw[if_neg (by simp[z0]),if_pos h];have e:((db l E 1 s.e1).bind λ _=>(db l E 2 s.e2).bind f)=((fa (b7 l E 1) 0).bind λ _=>(n7 1).bind λ _=>(db l E 2 s.e2).bind f):=by
    have:db l E 1 s.e1=(fa (b7 l E 1) 0).bind λ _=>n7 1:=by unfold db;rw[if_neg h];rfl
    rw[this,bind_assoc]
   rw[e,si];refine gR rfl trivial λ r K=>?_
   exact D {s.up with e1:=0} z0 rfl (by simp only[af.up];omega) (by simp only[af.up];omega)
 have e:(fZ l E).bind f log s=((db l E 0 s.e0).bind λ _=>(db l E 1 s.e1).bind λ _=>(db l E 2 s.e2).bind f) log s:=by
  have e1:fZ l E log s=((db l E 0 s.e0).bind λ _=>(db l E 1 s.e1).bind λ _=>(db l E 2 s.e2).bind λ _=>.pure ()) log s:=rfl;have R:∀m:Pm Unit,fZ l E log s=m log s->(fZ l E).bind f log s=m.bind f log s:=λ m hm=>by unfold Pm.bind;rw[hm]
  rw[R _ e1,bind_assoc]
  congr 1
  congr 1
  funext _
  rw[bind_assoc]
  congr 1
  funext _
  rw[bind_assoc]
  rfl
 rw[e];show cY av l S E (mw av k s) _ _
 by_cases h:s.e0=0
 ·have e2:((db l E 0 s.e0).bind λ _=>(db l E 1 s.e1).bind λ _=>(db l E 2 s.e2).bind f) log s=((db l E 1 s.e1).bind λ _=>(db l E 2 s.e2).bind f) log s:=by unfold db;rw[if_pos h];rfl
  rw[e2];exact u s h hM hs
 ·unfold mw;rw[if_pos h];have e2:((db l E 0 s.e0).bind λ _=>(db l E 1 s.e1).bind λ _=>(db l E 2 s.e2).bind f)=((fa (b7 l E 0) 0).bind λ _=>(n7 0).bind λ _=>(db l E 1 s.e1).bind λ _=>(db l E 2 s.e2).bind f):=by
   have:db l E 0 s.e0=(fa (b7 l E 0) 0).bind λ _=>n7 0:=by unfold db;rw[if_neg h];rfl
   rw[this,bind_assoc]
  rw[e2,si];refine gR rfl trivial λ r K=>?_
  exact u {s.up with e0:=0} rfl (by simp only[af.up];omega) (by simp only[af.up];omega)
end
def hJ(n:Int):Int:=dJ ⟨n,false,0⟩
def EC(n:Int):Int:=dJ ⟨n,true,0⟩
structure jU where
 there:Bool
 prev:Int
 cur:Int
 next:Int
 cJ:Int
deriving DecidableEq
def vV:jU:=⟨false,0,0,0,0⟩
structure FT where
 a:Int
 b:Int
 prev:Int
 cur:Int
 pt:Int
def nF(l:ab)(E G o:Int):Nat->Option FT->Pm jU
 |0,_=>.pure vV
 |k+1,none=>(kT l E 0 G).bind λ p=>nF l E G o k (some ⟨0,1,G,(az p.1).idx,p.2⟩)
 |k+1,some x=>if x.cur=0 then .pure ⟨false,x.prev,0,0,x.pt⟩
  else(kT l E x.b (am l x.cur 0)).bind λ p=>(cy x.prev).bind λ seen=>k9.bind λ look=>if seen=hJ x.cur then
   (cy (am l x.cur 1)).bind λ dY=>
    if(az p.1).mark then(fv x.prev (hJ x.cur) (hJ (az p.1).idx)).bind λ ok=>if ok then k9.bind λ at_=>(kg l x.cur).bind λ _=>nF l E G o k (some ⟨x.b,x.a,x.prev,(az p.1).idx,at_⟩) else nF l E G o k none
    else if dY<o then nF l E G o k (some ⟨x.b,3-x.a-x.b,am l x.cur 0,(az p.1).idx,p.2⟩)
    else if dY=o then .pure ⟨true,x.prev,x.cur,p.1,p.2⟩
    else .pure ⟨false,x.prev,x.cur,0,look⟩
   else nF l E G o k none
def rD(l:ab)(E G o:Int):Pm jU:=λ log s=>nF l E G o (2*(log.length-s.made)+2) none log s
def kc(l:ab)(E:Int)(o:br):Pm br:=(fZ l E).bind λ _=>.pure o
def getM(l:ab)(E G o:Int):Pm br:=(rD l E G o).bind λ f=>if f.there then(cy (am l f.cur 2)).bind λ v=>kc l E ⟨v,true,0,f.cJ,[]⟩ else kc l E ⟨0,false,0,f.cJ,[]⟩
def uR(l:ab)(f:jU)(n:Int):Pm (Option Int):=(fa (am l n 0) (hJ f.cur)).bind λ _=>(fv f.prev (hJ f.cur) (hJ n)).bind λ ok=>if ok then k9.bind λ a=>.pure (some a) else .pure none
def tH(l:ab)(E G o v:Int):Nat->Int->Pm br
 |0,_=>.pure ⟨0,false,0,0,[]⟩
 |k+1,n=>(rD l E G o).bind λ f=>if f.there then(if n=0 then kc l E ⟨0,false,0,f.cJ,[]⟩ else(m8 l n).bind λ _=>kc l E ⟨0,false,0,f.cJ,[]⟩)
  else if n=0 then(qk l).bind λ t=>if t.2.2 then(fa (am l t.1 1) o).bind λ _=>(fa (am l t.1 2) v).bind λ _=>(uR l f t.1).bind λ r=>match r with
   |some a=>kc l E ⟨0,true,0,a,[]⟩
   |none=>tH l E G o v k t.1
   else kc l E ⟨0,false,8,t.2.1,[]⟩
  else(uR l f n).bind λ r=>match r with
   |some a=>kc l E ⟨0,true,0,a,[]⟩
   |none=>tH l E G o v k n
def tI(l:ab)(E G o v:Int):Pm br:=λ log s=>tH l E G o v (log.length+1-s.made) 0 log s
def vQ(l:ab)(E G o:Int):Nat->Pm br
 |0=>.pure ⟨0,false,0,0,[]⟩
 |k+1=>(rD l E G o).bind λ f=>if f.there then(fv (am l f.cur 0) f.next (EC (az f.next).idx)).bind λ ok=>if ok then k9.bind λ a=>(fv f.prev (hJ f.cur) (hJ (az f.next).idx)).bind λ ok=>if ok then(fZ l E).bind λ _=>(kg l f.cur).bind λ _=>.pure ⟨0,true,0,a,[]⟩ else(rD l E G o).bind λ _=>kc l E ⟨0,true,0,a,[]⟩
   else vQ l E G o k
  else kc l E ⟨0,false,0,f.cJ,[]⟩
def sE(l:ab)(E G o:Int):Pm br:=λ log s=>vQ l E G o (log.length+1-s.made) log s
def dC(l:ab)(E:Int)(gone:List (Int×Int))(op:cq)(log:List aB):aS×br×Bool:=
 if op.obj<0\/l.size<=op.obj then(eF,⟨0,false,1,-1,gone⟩,true)
 else if op.kind=1 then ot (getM l E op.obj op.a log ⟨0,gone,0,0,0⟩)
 else if op.kind=2 then ot (tI l E op.obj op.a op.b log ⟨0,gone,0,0,0⟩)
 else if op.kind=3 then ot (sE l E op.obj op.a log ⟨0,gone,0,0,0⟩)
 else(eF,⟨0,false,1,-1,gone⟩,true)
def jQ(l:ab)(a:Nat)(k:Nat):List aS:=(List.range k).map λ(i:Nat)=>⟨2,am l ((a:Int)+i) 7,0,if(a:Int)+i=l.nodes then 0 else(a:Int)+i+1⟩
def r8(l:ab)(a:Nat):List aS:=jQ l a (l.nodes.toNat+1-a)++[⟨2,l.free,0,a⟩]
def cW(l:ab)(m:List Int)(h:Int):List Int:=fL (λ n=>(az (aG m (am l n 0))).idx) l.nodes (l.nodes.toNat+1) [] (az (aG m h)).idx
def hc(l:ab)(m:List Int)(h:Int):List (Int×Int):=((cW l m h).filter λ n=>!(az (aG m (am l n 0))).mark).map λ n=>(aG m (am l n 1),aG m (am l n 2))
structure Qf where
 nodes:Int
 want:List (List cq)
 turns:List Int
structure Ql where
 at_:Nat
 log:List aB
 gone:List (Int×Int)
structure J4 where
 aQ:Int
 at_:Int
 op:cq
 gone:List (Int×Int)
 acc:aS
 uY:aB
 done:Bool
 out:br
structure Zm where
 m:List Int
 aA:List Ql
 out:List J4
structure Zo where
 steps:List J4
 m:List Int
 gone:List (List (Int×Int))
 ends:Bool
structure Zn(p:Qf):Prop where
 w1:1<=p.want.length
 w3:p.want.length<=3
 t:p.turns.length<=200
 n0:0<=p.nodes
 aa:∀x∈p.turns,0<=x/\x<=255
 l:∀w∈p.want,w.length<=4
inductive Fk where
 |get|put (v n:Int)|del|fin (a:Int)
inductive Lk where
 |ga (o:Int) (f:Fk)
 |gb (o:Int) (f:Fk) (a b pn cur:Int)
 |ls (o:Int) (f:Fk) (a b pn cur w t:Int)
 |lo (o:Int) (f:Fk) (a b pn cur w t k:Int)
 |cu (o:Int) (f:Fk) (a b pn cur w:Int)
 |rr (o:Int) (f:Fk) (a b pn nx pt:Int)
 |gv (o cur pt:Int)
 |tk (o v pn cur:Int)
 |p1 (o v n pn cur:Int)|p2 (o v n pn cur:Int)|p0 (o v n pn cur:Int)|cp (o v n pn cur:Int)
 |sv (a:Int)
 |cm (o pn cur w:Int)|cd (o pn cur nx at_:Int)
 |rx (n a:Int)|ry (a:Int)
 |fi (o:br)
def zm(a:Int):br:=⟨0,true,0,a,[]⟩
def EG(a:Int):br:=⟨0,false,0,a,[]⟩
section
variable(G:Ad)
def n3(pn:Int):Ad:=if pn=0 then G else .nd pn 0
def VS:Lk->Ak
 |.ls _ _ _ _ pn _ _ _=>.ld (n3 G pn)
 |.lo _ _ _ _ _ cur _ _ _=>.ld (.nd cur 1)
 |.cu _ _ _ _ pn cur w=>.cs (n3 G pn) (hJ cur) (hJ (az w).idx)
 |.gv _ cur _=>.ld (.nd cur 2)
 |.p1 o _ n _ _=>.st (.nd n 1) o
 |.p2 _ v n _ _=>.st (.nd n 2) v
 |.p0 _ _ n _ cur=>.st (.nd n 0) (hJ cur)
 |.cp _ _ n pn cur=>.cs (n3 G pn) (hJ cur) (hJ n)
 |.cm _ _ cur w=>.cs (.nd cur 0) w (EC (az w).idx)
 |.cd _ pn cur nx _=>.cs (n3 G pn) (hJ cur) (hJ nx)
 |_=>.ld (G)
def t9(o:Int)(f:Fk)(pn cur pt:Int):Pc Lk:=match f with
 |.get=>.h3 (.fi (EG pt))
 |.put v n=>if n=0 then .t1 (.tk o v pn cur) else .at_ (.p0 o v n pn cur)
 |.del=>.h3 (.fi (EG pt))
 |.fin a=>.h3 (.fi (zm a))
def ua(o:Int)(f:Fk)(pn cur w pt:Int):Pc Lk:=match f with
 |.get=>.at_ (.gv o cur pt)
 |.put _ n=>if n=0 then .h3 (.fi (EG pt)) else .v1 (.sv pt) n
 |.del=>.at_ (.cm o pn cur w)
 |.fin a=>.h3 (.fi (zm a))
def ug(o:Int)(f:Fk)(a b pn cur pt:Int):Pc Lk:=if cur=0 then t9 o f pn 0 pt else .g1 (.gb o f a b pn cur) b (.nd cur 0)
def mr(o:Int)(f:Fk):Pc Lk:=.g1 (.ga o f) 0 (G)
def uH:Lk->Nat->aB->Pc Lk
 |.ls o f a b pn cur w t,made,r=>if r.val=hJ cur then .at_ (.lo o f a b pn cur w t made) else mr G o f
 |.lo o f a b pn cur w t k,_,r=>if(az w).mark then .at_ (.cu o f a b pn cur w) else if r.val<o then ug o f b (3-a-b) cur (az w).idx t else if r.val=o then ua o f pn cur w t else t9 o f pn cur k
 |.cu o f a b pn cur w,made,r=>if r.ok then .r1 (.rr o f a b pn (az w).idx made) cur else mr G o f
 |.gv _ _ pt,_,r=>.h3 (.fi ⟨r.val,true,0,pt,[]⟩)
 |.p1 o v n pn cur,_,_=>.at_ (.p2 o v n pn cur)
 |.p2 o v n pn cur,_,_=>.at_ (.p0 o v n pn cur)
 |.p0 o v n pn cur,_,_=>.at_ (.cp o v n pn cur)
 |.cp o v n _ _,made,r=>if r.ok then .h3 (.fi (zm made)) else mr G o (.put v n)
 |.cm o pn cur w,made,r=>if r.ok then .at_ (.cd o pn cur (az w).idx made) else mr G o .del
 |.cd o _ cur _ at_,_,r=>if r.ok then .h3 (.rx cur at_) else mr G o (.fin at_)
 |k,_,_=>.at_ k
def co:qo Lk where
 ask:=VS G
 tell:=uH G
 JO:=λ k n _=>match k with
  |.tk o v pn cur=>.at_ (.p1 o v n pn cur)
  |k=>.v1 k n
 full:=λ k a=>match k with
  |.tk _ _ _ _=>.h3 (.fi ⟨0,false,8,a,[]⟩)
  |k=>.at_ k
 guarded:=λ k v t=>match k with
  |.ga o f=>ug o f 0 1 0 (az v).idx t
  |.gb o f a b pn cur=>.at_ (.ls o f a b pn cur v t)
  |k=>.at_ k
 Gp:=λ k=>match k with
  |.fi o=>.fin o
  |.rx n a=>.r1 (.ry a) n
  |k=>.at_ k
 GO:=λ k=>match k with
  |.sv a=>.h3 (.fi (EG a))
  |k=>.at_ k
 retired:=λ k=>match k with
  |.rr o f a b pn nx pt=>ug o f b a pn nx pt
  |.ry a=>.fin (zm a)
  |k=>.at_ k
end
section
variable{G:Ad}{l:ab}{S:Nat}{E:Int}{log:List aB}
theorem Y6(s:af):s.up.made=s.made+1:=rfl
theorem Ep(s:af):((s.up.made:Nat):Int)-1=(s.made:Int):=by rw[Y6];omega
theorem Ou(pn:Int):(n3 G pn).cell l=if pn=0 then G.cell l else am l pn 0:=by unfold n3;split<;>rfl
theorem sJ{o:br}{s:af}(hs:s.made<=log.length):cY (co G) l S E (fC (co G) (.h3 (.fi o)) s) (kc l E o log s) (log.drop s.made):=
 Kw (M0:=s.made) (f:=λ _=>.pure o) (λ _ _ _ _ _ _=>KK) s (Nat.le_refl _) hs
theorem ym(hS:l.aA=(S:Int)){o:Int}{f:Fk}{g:jU->Pm br}{M0:Nat}
 (hN:∀(pn cur pt:Int)(s:af),M0<=s.made->s.made<=log.length->cY (co G) l S E (fC (co G) (t9 o f pn cur pt) s) (g ⟨false,(n3 G pn).cell l,cur,0,pt⟩ log s) (log.drop s.made))
 (hY:∀(pn cur w pt:Int)(s:af),M0<=s.made->s.made<=log.length->cY (co G) l S E (fC (co G) (ua o f pn cur w pt) s) (g ⟨true,(n3 G pn).cell l,cur,w,pt⟩ log s) (log.drop s.made)):
 ∀(k:Nat)(s:af),M0<=s.made->s.made<=log.length->
  (2*(log.length-s.made)+2<=k->cY (co G) l S E (fC (co G) (mr G o f) s) ((nF l E (G.cell l) o k none).bind g log s) (log.drop s.made))/\
  (∀a b pn cur pt,2*(log.length-s.made)+1<=k->cY (co G) l S E (fC (co G) (ug o f a b pn cur pt) s) ((nF l E (G.cell l) o k (some ⟨a,b,(n3 G pn).cell l,cur,pt⟩)).bind g log s) (log.drop s.made))
 |0,s,_,_=>⟨λ h=>by omega,λ a b pn cur pt h=>by omega⟩
 |k+1,s,hM,hs=>by
  refine⟨λ J=>?_,λ a b pn cur pt J=>?_⟩
  ·rw[nF,bind_assoc];refine GU (M0:=s.made) (k:=Lk.ga o f) (i:=0) (c:=G) (λ v t U ZL HY=>?_) (log.length+1-s.made) s (Nat.le_refl _) (by omega);have:=(ym hS hN hY k U (by omega) HY).2 0 1 0 (az v).idx t (by omega);rw[show(n3 G 0).cell l=G.cell l from by rw[Ou,if_pos rfl]] at this;exact this
  ·rw[nF];unfold ug
   by_cases h0:cur=0
   ·subst h0;simp only[if_true];exact hN pn 0 pt s hM hs
   ·simp only[h0,if_false];rw[bind_assoc];refine GU (M0:=s.made) (k:=Lk.gb o f a b pn cur) (i:=b) (c:=.nd cur 0) (λ w t s1 rI eM=>?_) (log.length+1-s.made) s (Nat.le_refl _) (by omega);show cY (co G) l S E ⟨.at_ (.ls o f a b pn cur w t),s1⟩ _ _;rw[bind_assoc,po];refine gR (q:=⟨.at_ (Lk.ls o f a b pn cur w t),s1⟩) (s:=s1) rfl trivial λ r1 u=>?_
    rw[bind_assoc,au eC,Ep];show cY (co G) l S E (fC (co G) (if r1.val=hJ cur then .at_ (.lo o f a b pn cur w t s1.made) else mr G o f) s1.up) _ _
    by_cases hv:r1.val=hJ cur
    ·rw[if_pos hv,if_pos hv,bind_assoc,po];refine gR (q:=⟨.at_ (Lk.lo o f a b pn cur w t s1.made),s1.up⟩) (s:=s1.up) rfl trivial λ r2 D=>?_
     have bd:s1.made+1<log.length:=D;have m2:s1.up.up.made=s1.made+2:=rfl;have GW:s1.up.up.made<=log.length:=by omega
     show cY (co G) l S E (fC (co G) (if(az w).mark then .at_ (.cu o f a b pn cur w) else if r2.val<o then ug o f b (3-a-b) cur (az w).idx t else if r2.val=o then ua o f pn cur w t else t9 o f pn cur s1.made) s1.up.up) _ _
     by_cases hm:(az w).mark=true
     ·rw[if_pos hm,if_pos hm,bind_assoc,vG];refine gR (q:=⟨.at_ (Lk.cu o f a b pn cur w),s1.up.up⟩) (s:=s1.up.up) rfl trivial λ r3 K=>?_
      have cK:s1.made+2<log.length:=K;have aaz:s1.up.up.up.made=s1.made+3:=rfl;show cY (co G) l S E (fC (co G) (if r3.ok then .r1 (.rr o f a b pn (az w).idx s1.up.up.made) cur else mr G o f) s1.up.up.up) _ _
      by_cases pT:r3.ok=true
      ·rw[if_pos pT,if_pos pT,bind_assoc,au eC,Ep,bind_assoc];show cY (co G) l S E ⟨.r1 (.rr o f a b pn (az w).idx s1.up.up.made) cur,s1.up.up.up⟩ _ _;refine OV hS (M0:=s1.up.up.up.made) (λ s2 DA g8=>?_) s1.up.up.up (Nat.le_refl _);exact(ym hS hN hY k s2 (by omega) g8).2 b a pn (az w).idx s1.up.up.made (by omega)
      ·rw[if_neg pT,if_neg pT];exact(ym hS hN hY k s1.up.up.up (by omega) (by omega)).1 (by omega)
     ·rw[if_neg hm,if_neg hm]
      by_cases bh:r2.val<o
      ·rw[if_pos bh,if_pos bh];have:=(ym hS hN hY k s1.up.up (by omega) GW).2 b (3-a-b) cur (az w).idx t (by omega);rw[show(n3 G cur).cell l=am l cur 0 from by rw[Ou,if_neg h0]] at this;exact this
      ·rw[if_neg bh,if_neg bh]
       by_cases he:r2.val=o
       ·rw[if_pos he,if_pos he];exact hY pn cur w t s1.up.up (by omega) GW
       ·rw[if_neg he,if_neg he];exact hN pn cur s1.made s1.up.up (by omega) GW
    ·rw[if_neg hv,if_neg hv];have m1:s1.up.made=s1.made+1:=rfl;exact(ym hS hN hY k s1.up (by omega) (by omega)).1 (by omega)
theorem Dq(hS:l.aA=(S:Int)){o:Int}{f:Fk}{g:jU->Pm br}{M0:Nat}
 (hN:∀(pn cur pt:Int)(s:af),M0<=s.made->s.made<=log.length->cY (co G) l S E (fC (co G) (t9 o f pn cur pt) s) (g ⟨false,(n3 G pn).cell l,cur,0,pt⟩ log s) (log.drop s.made))
 (hY:∀(pn cur w pt:Int)(s:af),M0<=s.made->s.made<=log.length->cY (co G) l S E (fC (co G) (ua o f pn cur w pt) s) (g ⟨true,(n3 G pn).cell l,cur,w,pt⟩ log s) (log.drop s.made))
 (s:af)(hM:M0<=s.made)(hs:s.made<=log.length):cY (co G) l S E (fC (co G) (mr G o f) s) ((rD l E (G.cell l) o).bind g log s) (log.drop s.made):=
 (ym hS hN hY _ s hM hs).1 (Nat.le_refl _)
theorem Se(hS:l.aA=(S:Int)){o:Int}(s:af)(hs:s.made<=log.length):cY (co G) l S E (fC (co G) (mr G o .get) s) (getM l E (G.cell l) o log s) (log.drop s.made):=by
 unfold getM;refine Dq hS (M0:=s.made) (λ pn cur pt s1 _ eM=>?_) (λ pn cur w pt s1 _ eM=>?_) s (Nat.le_refl _) hs
 ·simp only[Bool.false_eq_true,if_false];exact sJ eM
 ·simp only[if_true];rw[po];refine gR (q:=⟨.at_ (Lk.gv o cur pt),s1⟩) (s:=s1) rfl trivial λ r1 u=>?_
  exact sJ (by simp only[af.up];omega)
theorem Xr{o v n pn cur:Int}{M0:Nat}{c pt nx:Int}{th:Bool}{g:Option Int->Pm br}(L:c=(n3 G pn).cell l)
 (u:∀(a:Nat)(s:af),s.made<=log.length->cY (co G) l S E (fC (co G) (.h3 (.fi (zm a))) s) (g (some (a:Int)) log s) (log.drop s.made))
 (D:∀s:af,M0<s.made->s.made<=log.length->cY (co G) l S E (fC (co G) (mr G o (.put v n)) s) (g none log s) (log.drop s.made))
 (s:af)(hM:M0<=s.made):cY (co G) l S E ⟨.at_ (.p0 o v n pn cur),s⟩ ((uR l ⟨th,c,cur,nx,pt⟩ n).bind g log s) (log.drop s.made):=by
 subst L;rw[uR,bind_assoc,si];refine gR (q:=⟨.at_ (Lk.p0 o v n pn cur),s⟩) (s:=s) rfl trivial λ r1 K=>?_
 rw[bind_assoc,vG];refine gR (q:=⟨.at_ (Lk.cp o v n pn cur),s.up⟩) (s:=s.up) rfl trivial λ r2 h4=>?_
 have jM:s.made+1<log.length:=h4;have m2:s.up.up.made=s.made+2:=rfl;show cY (co G) l S E (fC (co G) (if r2.ok then .h3 (.fi (zm s.up.made)) else mr G o (.put v n)) s.up.up) _ _
 by_cases J:r2.ok=true
 ·rw[if_pos J,if_pos J,bind_assoc,au eC,Ep];exact u s.up.made s.up.up (by omega)
 ·rw[if_neg J,if_neg J];exact D s.up.up (by omega) (by omega)
theorem Oy(hS:l.aA=(S:Int)){o v:Int}:∀(k:Nat)(n:Int)(s:af),s.made<=log.length->log.length-s.made<k->cY (co G) l S E (fC (co G) (mr G o (.put v n)) s) (tH l E (G.cell l) o v k n log s) (log.drop s.made)
 |0,n,s,_,h=>by omega
 |k+1,n,s,hs,h=>by
  rw[tH];have hB:∀(n pn cur pt:Int)(s1:af),s.made<=s1.made->cY (co G) l S E ⟨.at_ (.p0 o v n pn cur),s1⟩ ((uR l ⟨false,(n3 G pn).cell l,cur,0,pt⟩ n).bind (λ r=>match r with
   |some a=>kc l E ⟨0,true,0,a,[]⟩
   |none=>tH l E (G.cell l) o v k n) log s1) (log.drop s1.made):=λ n pn cur pt s1 rI=>
   Xr (M0:=s1.made) rfl (λ a s2 g8=>sJ g8) (λ s2 DA g8=>Oy hS k n s2 g8 (by omega)) s1 (Nat.le_refl _)
  refine Dq hS (M0:=s.made) (λ pn cur pt s1 rI eM=>?_) (λ pn cur w pt s1 rI eM=>?_) s (Nat.le_refl _) hs
  ·simp only[Bool.false_eq_true,if_false];unfold t9
   by_cases hn:n=0
   ·simp only[hn,if_true];refine PJ (M0:=s1.made) (k:=Lk.tk o v pn cur) (λ t a s2 DA g8=>?_) (λ a s2 DA g8=>?_) (log.length+1-s1.made) s1 (Nat.le_refl _) (by omega)
    ·simp only[if_true];show cY (co G) l S E ⟨.at_ (.p1 o v t pn cur),s2⟩ _ _;rw[si];refine gR (q:=⟨.at_ (Lk.p1 o v t pn cur),s2⟩) (s:=s2) rfl trivial λ r1 K=>?_
     rw[si];refine gR (q:=⟨.at_ (Lk.p2 o v t pn cur),s2.up⟩) (s:=s2.up) rfl trivial λ r2 h4=>?_
     exact hB t pn cur pt s2.up.up (by simp only[af.up];omega)
    ·simp only[Bool.false_eq_true,if_false];exact sJ g8
   ·simp only[hn,if_false];exact hB n pn cur pt s1 rI
  ·simp only[if_true];unfold ua
   by_cases hn:n=0
   ·simp only[hn,if_true];exact sJ eM
   ·simp only[hn,if_false];refine Ld (k:=Lk.sv pt) (n:=n) (M0:=s1.made) (λ s2 _ g8=>?_) (log.length+1-s1.made) s1 (Nat.le_refl _) (by omega);exact sJ g8
theorem KH(hS:l.aA=(S:Int)){o:Int}:∀(k:Nat)(s:af),s.made<=log.length->log.length-s.made<k->cY (co G) l S E (fC (co G) (mr G o .del) s) (vQ l E (G.cell l) o k log s) (log.drop s.made)
 |0,s,_,h=>by omega
 |k+1,s,hs,h=>by
  rw[vQ];refine Dq hS (M0:=s.made) (λ pn cur pt s1 rI eM=>?_) (λ pn cur w pt s1 rI eM=>?_) s (Nat.le_refl _) hs
  ·simp only[Bool.false_eq_true,if_false];exact sJ eM
  ·simp only[if_true];unfold ua;simp only;rw[vG];refine gR (q:=⟨.at_ (Lk.cm o pn cur w),s1⟩) (s:=s1) rfl trivial λ r1 K=>?_
   have m1:s1.up.made=s1.made+1:=rfl;show cY (co G) l S E (fC (co G) (if r1.ok then .at_ (.cd o pn cur (az w).idx s1.made) else mr G o .del) s1.up) _ _
   by_cases J:r1.ok=true
   ·rw[if_pos J,if_pos J,au eC,Ep,vG];refine gR (q:=⟨.at_ (Lk.cd o pn cur (az w).idx s1.made),s1.up⟩) (s:=s1.up) rfl trivial λ r2 h4=>?_
    have jM:s1.made+1<log.length:=h4;have m2:s1.up.up.made=s1.made+2:=rfl;show cY (co G) l S E (fC (co G) (if r2.ok then .h3 (.rx cur s1.made) else mr G o (.fin s1.made)) s1.up.up) _ _
    by_cases kV:r2.ok=true
    ·rw[if_pos kV,if_pos kV];refine Kw (M0:=s1.up.up.made) (λ s2 _ _ _ DA g8=>?_) s1.up.up (Nat.le_refl _) (by omega);show cY (co G) l S E ⟨.r1 (.ry s1.made) cur,s2⟩ _ _;refine OV hS (M0:=s2.made) (λ s3 Ls gC=>?_) s2 (Nat.le_refl _);exact KK
    ·rw[if_neg kV,if_neg kV];refine Dq hS (M0:=s1.up.up.made) (λ Xd j0 Xl s3 Ls gC=>?_) (λ Xd j0 aH Xl s3 Ls gC=>?_) s1.up.up (Nat.le_refl _) (by omega)
     ·exact sJ gC
     ·exact sJ gC
   ·rw[if_neg J,if_neg J];exact KH hS k s1.up (by omega) (by omega)
end
def yn(op:cq):Fk:=if op.kind=1 then .get else if op.kind=2 then .put op.b 0 else .del
def vb(G:Ad)(op:cq)(gone:List (Int×Int)):Q Lk:=⟨mr G op.a (yn op),⟨0,gone,0,0,0⟩⟩
theorem II{l:ab}{S:Nat}{E:Int}(hS:l.aA=(S:Int)){gone:List (Int×Int)}{op:cq}{log:List aB}{h:Ad}(X:h.cell l=op.obj)(hh:¬(op.obj<0\/l.size<=op.obj))(J:op.kind=1\/op.kind=2\/op.kind=3):
 dC l E gone op log=Dn (co h) l E (rb (co h) S (vb h op gone) log):=by
 unfold dC;rw[if_neg hh];unfold vb yn;rw[<-X];rcases J with J|J|J
 ·rw[if_pos J,if_pos J];exact Se hS ⟨0,gone,0,0,0⟩ (Nat.zero_le _)
 ·rw[if_neg (by omega),if_pos J,if_neg (by omega),if_pos J];exact Oy hS (log.length+1) 0 ⟨0,gone,0,0,0⟩ (Nat.zero_le _) (by simp)
 ·rw[if_neg (by omega),if_neg (by omega),if_pos J,if_neg (by omega),if_neg (by omega)];exact KH hS (log.length+1) ⟨0,gone,0,0,0⟩ (Nat.zero_le _) (by simp)
def hb(l:ab)(m i:Int):Int:=if 1<i then-1 else iq l.map l.maps (2+l.buckets) m i
def fA(l:ab)(m b:Int):Int:=if b<0\/l.buckets<=b then-1 else iq l.map l.maps (2+l.buckets) m (2+b)
def ny(k:Int):Int:=((List.range 16).map λ(i:Nat)=>k/2^i%2*2^(15-i)).sum
def E4(k:Int):Int:=2*ny k+1
def yj(b:Int):Int:=2*ny b
def uF(n:Int):Int:=ny (n%131072/2)
def lj(b:Int):Int:=if b<1 then 0 else b-2^(Nat.log2 b.toNat)
def Cn(n:Int):Bool:=decide (n=2^(Nat.log2 n.toNat))
def mu(l:ab)(E:Int)(gone:List (Int×Int))(kind ey dY v:Int)(lg:List aB):aS×br×Bool:=
 let G:=am l ey 0
 let ob:=if G<0 then l.done else G
 let r:=dC l E gone ⟨kind,ob,dY,v⟩ lg
 if r.2.2=false/\G<0/\r.1.cell=ob then({r.1 with cell:=G},r.2) else r
def oV(f:Nat->Bool):Nat->Nat->Nat
 |0,k=>k
 |n+1,k=>if f k then k else oV f n (k+1)
def p4(l:ab)(E kind ey dY v:Int):Pm (br×aS):=λ log s=>
 let lg:=log.drop s.made
 let r:=mu l E s.gone kind ey dY v lg
 if r.2.2=false then .error r.1
 else if r.2.1.cJ<0 then .ok ((r.2.1,eF),s)
 else
  let f:=λ k=>(mu l E s.gone kind ey dY v (lg.take k)).2.2
  let k:=oV f (lg.length-(r.2.1.cJ.toNat+1)) (r.2.1.cJ.toNat+1)
  .ok (({r.2.1 with cJ:=r.2.1.cJ+s.made},(mu l E s.gone kind ey dY v (lg.take r.2.1.cJ.toNat)).1),{s with made:=s.made+k,gone:=r.2.1.gone})
def JM(o:br×aS):Pm Int:=λ log s=>.ok (if o.1.is then(az o.2.new).idx else(az ((log.getD (o.1.cJ.toNat+2) ⟨0,false⟩).val)).idx,s)
def mx(l:ab)(E m:Int):Nat->Int->Pm (Int×br)
 |0,_=>.pure (0,lH)
 |k+1,b=>(fw ⟨1,fA l m b,0,0⟩).bind λ r=>if(az r.val).idx≠0 then .pure ((az r.val).idx,lH)
  else if b=0 then .pure (0,⟨0,false,1,-1,[]⟩)
  else(mx l E m k (lj b)).bind λ a=>if a.2.err≠0 then .pure (0,a.2)
  else(p4 l E 2 a.1 (yj b) 0).bind λ o=>if o.1.err≠0 then .pure (0,o.1)
  else(JM o).bind λ n=>(fw ⟨3,fA l m b,0,dJ ⟨n,false,0⟩⟩).bind λ _=>.pure (n,lH)
def qr(l:ab)(m kind size:Int):Pm Unit:=if kind=2 then(fw ⟨4,hb l m 1,0,1⟩).bind λ r=>if 2*size<=r.val/\size<l.buckets then(fw ⟨3,hb l m 0,size,2*size⟩).bind λ _=>.pure () else .pure ()
 else if kind=3 then(fw ⟨4,hb l m 1,0,-1⟩).bind λ _=>.pure () else .pure ()
def va(l:ab)(E:Int)(op:cq):Pm br:=(fw ⟨1,hb l op.obj 0,0,0⟩).bind λ r=>if r.val<1\/l.buckets<r.val\/Cn r.val=false then .pure ⟨0,false,1,-1,[]⟩
 else(mx l E op.obj 64 (op.a%r.val)).bind λ d=>if d.2.err≠0 then .pure d.2
 else(p4 l E op.kind d.1 (E4 op.a) op.b).bind λ o=>if o.1.is then(qr l op.obj op.kind r.val).bind λ _=>.pure o.1 else .pure o.1
def qM(l:ab)(E:Int)(gone:List (Int×Int))(op:cq)(log:List aB):aS×br×Bool:=
 if op.kind<1\/3<op.kind\/hb l op.obj 0<0\/op.a<0\/65536<=op.a then(eF,⟨0,false,1,-1,gone⟩,true)
 else ot (va l E op log ⟨0,gone,0,0,0⟩)
def fE(l:ab)(m n:Int):List aS:=[⟨2,am l n 0,0,0⟩,⟨2,am l n 1,0,0⟩,⟨2,am l n 2,0,0⟩,⟨2,am l n 6,0,1⟩,⟨2,hb l m 0,0,1⟩,⟨2,hb l m 1,0,0⟩,⟨2,fA l m 0,0,dJ ⟨n,false,0⟩⟩]
structure iW where
 aQ:Int
 op:cq
 val:Int
 is:Bool
 first:Int
 last:Int
 cJ:Int
structure d7 where
 op:cq
 log:List aB
 steps:List Int
 next:Nat
 gone:List (Int×Int)
structure eu where
 m:List Int
 step:Int
 aA:List d7
 calls:List iW
 full:Int
 cU:Bool
 bad:Bool
def mO:cq:=⟨0,0,0,0⟩
def pi:d7:=⟨mO,[],[],0,[]⟩
def wh(l:ab)(m:List Int)(a:aS):Bool:=if a.cell<l.node\/l.size<=a.cell\/(a.cell-l.node)%8=7 then false else(nl l m).any λ x=>decide (x=(a.cell-l.node)/8+1)
def o7(t:eu)(aQ:Nat)(x:d7)(out:br):eu:=
 let ki:eu:={t with aA:=t.aA.set aQ {x with op:=mO,gone:=out.gone}}
 if out.err=8 then{ki with full:=t.full+1}
 else if out.err≠0\/x.steps.length=0 then{ki with bad:=true}
 else{ki with calls:=t.calls++[⟨aQ,x.op,out.val,out.is,x.steps.getD 0 0,x.steps.getD (x.steps.length-1) 0,if 0<=out.cJ/\out.cJ<x.steps.length then x.steps.getD out.cJ.toNat 0 else-1⟩]}
def Hm(t:eu)(want:List (List cq))(aQ:Nat):Bool:=match t.aA[aQ]?,want[aQ]? with
 |some x,some ws=>decide (x.op.kind=0)&&decide (ws.length<=x.next)
 |_,_=>true
theorem Oh{n:Nat}(h:n≠0):lj n=((n-2^n.log2:Nat):Int)/\2^n.log2<=n/\n<2^(n.log2+1):=by
 have u:=Nat.log2_self_le h;have D:=(Nat.log2_lt h (k:=n.log2+1)).1 (Nat.lt_succ_self _);refine⟨?_,u,D⟩;unfold lj;rw[if_neg (by omega),Int.toNat_natCast];have:((2^n.log2:Nat):Int)=2^n.log2:=by simp
 omega
theorem W4{n:Nat}(h:n≠0):0<=lj n/\lj n<n/\lj n<n-lj n:=by obtain⟨u,D,K⟩:=Oh h;rw[Nat.pow_succ] at K;rw[u];omega
theorem W2{n k:Nat}(h:n≠0)(J:n<2^(k+1)):lj n<2^k:=by
 obtain⟨u,D,K⟩:=Oh h;have M:n.log2<=k:=by have:=(Nat.log2_lt h (k:=k+1)).2 J;omega
 have hp:2^n.log2<=2^k:=Nat.pow_le_pow_right (by omega) M;rw[Nat.pow_succ] at K;rw[u];have:((2^k:Nat):Int)=2^k:=by simp
 omega
section
variable(kd:Int)
def kp(m:Nat):Fk->Prop
 |.put _ _=>kd=2
 |.fin a=>kd≠2/\0<=a/\a<m
 |_=>kd≠2
def K4(m:Nat)(o:br):Prop:=0<=o.cJ/\o.cJ<m/\(kd=2->o.is=false->o.err=0->o.cJ+2<m)
def ed(m:Nat):Lk->Prop
 |.ga _ f=>kp kd m f
 |.gb _ f _ _ _ _=>kp kd m f
 |.ls _ f _ _ _ _ _ t=>kp kd m f/\0<=t/\t+2<=m
 |.lo _ f _ _ _ _ _ t k=>kp kd m f/\0<=t/\t+3<=m/\0<=k/\k<m
 |.cu _ f _ _ _ _ _=>kp kd m f
 |.rr _ f _ _ _ _ pt=>kp kd m f/\0<=pt/\pt<m
 |.gv _ _ pt=>kd≠2/\0<=pt/\pt<m
 |.sv a=>0<=a/\a+2<m
 |.cm _ _ _ _=>kd≠2
 |.cd _ _ _ _ a=>kd≠2/\0<=a/\a<m
 |.rx _ a=>kd≠2/\0<=a/\a<m
 |.ry a=>kd≠2/\0<=a/\a<m
 |.fi o=>K4 kd m o
 |_=>kd=2
def md(m:Nat):Pc Lk->Prop
 |.at_ k=>ed kd m k
 |.t1 k=>ed kd m k
 |.t2 k _=>ed kd m k
 |.t3 k _ _=>ed kd m k
 |.t4 k _ _=>ed kd m k
 |.t5 k _ _ _=>ed kd m k
 |.g1 k _ _=>ed kd m k
 |.g2 k _ _ _ a=>ed kd m k/\0<=a/\a<m
 |.g3 k _ _ _=>ed kd m k
 |.h3 k=>ed kd m k
 |.c k _=>ed kd m k
 |.v1 k _=>ed kd m k
 |.v2 k _ _=>ed kd m k
 |.v3 k _ _=>ed kd m k
 |.r1 k _=>ed kd m k
 |.r2 k _ _=>ed kd m k
 |.rs k _ _ _=>ed kd m k
 |.s1 k _ _ _ _=>ed kd m k
 |.w1 k _ _ _ _=>ed kd m k
 |.w2 k _ _ _ _ _=>ed kd m k
 |.w3 k _ _ _ _ _=>ed kd m k
 |.fin o=>K4 kd m o
end
section
variable{kd:Int}{m za:Nat}{h:Ad}
theorem kp.mono(hm:m<=za){f:Fk}(hf:kp kd m f):kp kd za f:=by cases f<;>simp only[kp] at hf⊢<;>omega
theorem ed.mono(hm:m<=za){k:Lk}(J:ed kd m k):ed kd za k:=by
 cases k with
 |ga o f=>exact kp.mono hm J
 |gb o f a b pn cur=>exact kp.mono hm J
 |ls o f a b pn cur w t=>exact⟨J.1.mono hm,J.2.1,by have:=J.2.2;omega⟩
 |lo o f a b pn cur w t k=>exact⟨J.1.mono hm,J.2.1,by have:=J.2.2.1;omega,J.2.2.2.1,by have:=J.2.2.2.2;omega⟩
 |cu o f a b pn cur w=>exact kp.mono hm J
 |rr o f a b pn nx pt=>exact⟨J.1.mono hm,J.2.1,by have:=J.2.2;omega⟩
 |gv o cur pt=>simp only[ed] at J⊢;omega
 |sv a=>simp only[ed] at J⊢;omega
 |cm o pn cur w=>exact J
 |cd o pn cur nx a=>simp only[ed] at J⊢;omega
 |rx n a=>simp only[ed] at J⊢;omega
 |ry a=>simp only[ed] at J⊢;omega
 |fi o=>obtain⟨u,D,K⟩:=J;exact⟨u,by omega,λ a b c=>by have:=K a b c;omega⟩
 |_=>exact J
theorem Ok{o:Int}{f:Fk}{pn cur pt:Int}(hf:kp kd m f)(h0:0<=pt)(u:pt<m):md kd m (t9 o f pn cur pt):=by
 cases f with
 |get=>exact⟨h0,u,λ h=>absurd h hf⟩
 |put v n=>
  unfold t9;simp only;split
  ·exact hf
  ·exact hf
 |del=>exact⟨h0,u,λ h=>absurd h hf⟩
 |fin a=>exact⟨hf.2.1,hf.2.2,λ h=>absurd h hf.1⟩
theorem W6{o:Int}{f:Fk}{pn cur w pt:Int}(hf:kp kd m f)(h0:0<=pt)(u:pt+2<m):md kd m (ua o f pn cur w pt):=by
 cases f with
 |get=>exact⟨hf,h0,by omega⟩
 |put v n=>
  unfold ua;simp only;split
  ·exact⟨h0,by show pt<_;omega,λ _ _ _=>u⟩
  ·exact⟨h0,u⟩
 |del=>exact hf
 |fin a=>exact⟨hf.2.1,hf.2.2,λ h=>absurd h hf.1⟩
theorem IY{o:Int}{f:Fk}{a b pn cur pt:Int}(hf:kp kd m f)(h0:0<=pt)(u:pt<m):md kd m (ug o f a b pn cur pt):=by
 unfold ug;split
 ·exact Ok hf h0 u
 ·exact hf
theorem Oj{k:Lk}{s:af}(J:ed kd m k):md kd m (mw (co h) k s).pc:=by
 unfold mw;split
 ·exact J
 ·split
  ·exact J
  ·split
   ·exact J
   ·cases k<;>exact J
theorem Ky{k:Lk}{s:af}:(mw (co h) k s).s=s:=by
 unfold mw;split
 ·rfl
 ·split
  ·rfl
  ·split<;>rfl
theorem NO{pc:Pc Lk}{s:af}:(fC (co h) pc s).s=s:=by cases pc<;>first|exact Ky|rfl
theorem Ol{pc:Pc Lk}{s:af}(hp:md kd m pc):md kd m (fC (co h) pc s).pc:=by cases pc<;>first|exact Oj hp|exact hp
theorem Jq{k:Lk}{aM:List Int}{s:af}:∀(gs aY:List (Int×Int)),(tM (co h) k aM s gs aY).s.made=s.made
 |[],_=>by unfold tM;rw[NO]
 |_::_,_=>rfl
theorem Om{k:Lk}(J:ed kd m k):md kd m ((co h).retired k):=by
 cases k with
 |rr o f a b pn nx pt=>exact IY J.1 J.2.1 J.2.2
 |ry a=>exact⟨J.2.1,J.2.2,λ h=>absurd h J.1⟩
 |_=>exact J
theorem IZ{k:Lk}{aM:List Int}{s:af}(J:ed kd m k):∀(gs aY:List (Int×Int)),md kd m (tM (co h) k aM s gs aY).pc
 |[],_=>Ol (Om J)
 |_::_,_=>J
theorem On{k:Lk}{aM:List Int}{s:af}(J:ed kd m k):∀(cs:List Ad),md kd m (xx (co h) k aM s cs).pc
 |[]=>IZ J _ _
 |_::_=>J
theorem O4{k:Lk}{aM:List Int}{s:af}:∀(cs:List Ad),(xx (co h) k aM s cs).s.made=s.made
 |[]=>Jq _ _
 |_::_=>rfl
theorem W7{S:Nat}{q:Q Lk}{r:aB}(hf:q.pc.Ga)(hq:md kd q.s.made q.pc):(tell (co h) S q r).s.made=q.s.made+1/\md kd (q.s.made+1) (tell (co h) S q r).pc:=by
 obtain⟨pc,s⟩:=q;have up:∀{k:Lk},ed kd s.made k->ed kd (s.made+1) k:=λ J=>J.mono (Nat.le_succ _)
 have nm:∀(pc:Pc Lk)(U:af),U.made=s.made+1->md kd (s.made+1) pc->(fC (co h) pc U).s.made=s.made+1/\md kd (s.made+1) (fC (co h) pc U).pc:=λ pc U u D=>⟨by rw[NO];exact u,Ol D⟩
 cases pc with
 |at_ k=>
  refine nm _ _ rfl ?_;show md kd _ (uH h k s.made r);simp only[md] at hq;cases k with
  |ls o f a b pn cur w t=>
   simp only[uH];split
   ·exact⟨hq.1.mono (Nat.le_succ _),hq.2.1,by have:=hq.2.2;omega,by omega,by omega⟩
   ·exact hq.1.mono (Nat.le_succ _)
  |lo o f a b pn cur w t k=>
   simp only[uH];have yF:=hq.1.mono (Nat.le_succ s.made);have u:=hq.2.1;have D:=hq.2.2.1;have K:=hq.2.2.2.1;have h4:=hq.2.2.2.2;split
   ·exact yF
   ·split
    ·exact IY yF u (by omega)
    ·split
     ·exact W6 yF u (by omega)
     ·exact Ok yF K (by omega)
  |cu o f a b pn cur w=>
   simp only[uH];split
   ·exact⟨kp.mono (Nat.le_succ _) hq,by omega,by omega⟩
   ·exact kp.mono (Nat.le_succ _) hq
  |gv o cur pt=>exact⟨hq.2.1,by have:=hq.2.2;show pt<_;omega,λ h=>absurd h hq.1⟩
  |p1 o v n pn cur=>exact hq
  |p2 o v n pn cur=>exact hq
  |p0 o v n pn cur=>exact hq
  |cp o v n pn cur=>
   simp only[uH];split
   ·exact⟨by show(0:Int)<=(s.made:Int);omega,by show(s.made:Int)<_;omega,λ _ h=>by cases h⟩
   ·exact hq
  |cm o pn cur w=>
   simp only[uH];split
   ·exact⟨hq,by omega,by omega⟩
   ·exact hq
  |cd o pn cur nx a=>
   simp only[uH];split
   ·exact⟨hq.1,hq.2.1,by have:=hq.2.2;omega⟩
   ·exact⟨hq.1,hq.2.1,by have:=hq.2.2;omega⟩
  |ga o f=>exact up hq
  |gb o f a b pn cur=>exact up hq
  |rr o f a b pn nx pt=>exact up hq
  |tk o v pn cur=>exact up hq
  |sv a=>exact up hq
  |rx n a=>exact up hq
  |ry a=>exact up hq
  |fi o=>exact up hq
 |t1 k=>
  have hq:ed kd s.made k:=hq;unfold tell;simp only;split
  ·refine nm _ _ rfl ?_;cases k with
   |tk o v pn cur=>exact⟨by show(0:Int)<=(s.made:Int);omega,by show(s.made:Int)<_;omega,λ _ _ h=>by cases h⟩
   |_=>exact up hq
  ·exact⟨rfl,up hq⟩
 |t2 k f=>have hq:ed kd s.made k:=hq;exact⟨rfl,up hq⟩
 |t3 k f lk=>
  have hq:ed kd s.made k:=hq;unfold tell;simp only;split
  ·exact⟨rfl,up hq⟩
  ·exact⟨rfl,up hq⟩
 |t4 k n a=>have hq:ed kd s.made k:=hq;exact⟨rfl,up hq⟩
 |t5 k n a b=>have hq:ed kd s.made k:=hq;refine nm _ _ rfl ?_;cases k<;>exact up hq
 |g1 k i c=>exact⟨rfl,up hq,by omega,by omega⟩
 |g2 k i c v a=>
  have u:=hq.2.1;have D:a<(s.made:Int):=hq.2.2;unfold tell;simp only;split
  ·refine nm _ _ rfl ?_;have J:=hq.1;cases k with
   |ga o f=>exact IY (kp.mono (Nat.le_succ _) J) u (by omega)
   |gb o f bu b pn cur=>exact⟨kp.mono (Nat.le_succ _) J,u,by omega⟩
   |_=>exact up J
  ·exact⟨rfl,up hq.1⟩
 |g3 k i c er=>have hq:ed kd s.made k:=hq;exact⟨by show(s.up.mf i er).made=_;rw[E2];rfl,up hq⟩
 |h3 k=>exact absurd hf id
 |c k i=>have hq:ed kd s.made k:=hq;exact⟨by show(mw (co h) k (s.up.mf i 0)).s.made=_;rw[Ky,E2];rfl,Oj (up hq)⟩
 |v1 k n=>have hq:ed kd s.made k:=hq;exact⟨rfl,up hq⟩
 |v2 k n f=>have hq:ed kd s.made k:=hq;exact⟨rfl,up hq⟩
 |v3 k n f=>
  have hq:ed kd s.made k:=hq;unfold tell;simp only;split
  ·refine nm _ _ rfl ?_;cases k with
   |sv a=>exact⟨hq.1,by have:=hq.2;show a<_;omega,λ _ _ _=>by have:=hq.2;show a+2<_;omega⟩
   |_=>exact up hq
  ·exact⟨rfl,up hq⟩
 |r1 k n=>have hq:ed kd s.made k:=hq;exact⟨rfl,up hq⟩
 |r2 k n er=>
  have hq:ed kd s.made k:=hq;unfold tell;simp only;split
  ·exact nm _ _ rfl (Om (up hq))
  ·exact⟨by rw[O4];rfl,On (up hq) _⟩
 |rs k aM c cs=>have hq:ed kd s.made k:=hq;exact⟨by show(xx (co h) k _ s.up cs).s.made=_;rw[O4];rfl,On (up hq) _⟩
 |s1 k aM g gs aY=>
  have hq:ed kd s.made k:=hq;unfold tell;simp only;split
  ·exact⟨by rw[Jq];rfl,IZ (up hq) _ _⟩
  ·exact⟨rfl,up hq⟩
 |w1 k aM g gs aY=>have hq:ed kd s.made k:=hq;exact⟨rfl,up hq⟩
 |w2 k aM g gs aY f=>have hq:ed kd s.made k:=hq;exact⟨rfl,up hq⟩
 |w3 k aM g gs aY f=>
  have hq:ed kd s.made k:=hq;unfold tell;simp only;split
  ·exact⟨by rw[Jq];rfl,IZ (up hq) _ _⟩
  ·exact⟨rfl,up hq⟩
 |fin o=>exact absurd hf id
def xe:Pc Lk->Prop
 |.h3 _=>False
 |_=>True
theorem NK{k:Lk}{s:af}:xe (mw (co h) k s).pc:=by
 unfold mw;split
 ·exact trivial
 ·split
  ·exact trivial
  ·split
   ·exact trivial
   ·cases k<;>exact trivial
theorem IJ{pc:Pc Lk}{s:af}:xe (fC (co h) pc s).pc:=by cases pc<;>first|exact NK|exact trivial
theorem NM{k:Lk}{aM:List Int}{s:af}:∀(gs aY:List (Int×Int)),xe (tM (co h) k aM s gs aY).pc
 |[],_=>IJ
 |_::_,_=>trivial
theorem NL{k:Lk}{aM:List Int}{s:af}:∀(cs:List Ad),xe (xx (co h) k aM s cs).pc
 |[]=>NM _ _
 |_::_=>trivial
theorem Wn{S:Nat}{q:Q Lk}{r:aB}(hq:xe q.pc):xe (tell (co h) S q r).pc:=by
 obtain⟨pc,s⟩:=q;cases pc<;>simp only[tell]
 case h3=>exact hq
 all_goals first
  |exact IJ
  |exact NK
  |exact NL _
  |exact trivial
  |(split<;>first|exact IJ|exact NL _|exact NM _ _|exact trivial)
theorem YY{S:Nat}{q:Q Lk}{r:aB}{o:br}(u:q.pc=.fin o):tell (co h) S q r=q:=by
 obtain⟨pc,s⟩:=q;subst u
 rfl
theorem Jl{S:Nat}:∀(log:List aB)(q:Q Lk),md kd q.s.made q.pc->xe q.pc->∃nu,rb (co h) S q log=nu/\md kd nu.s.made nu.pc/\nu.s.made<=q.s.made+log.length
 |[],q,u,_=>⟨q,rfl,u,Nat.le_refl _⟩
 |r::log,q,u,D=>by
  show∃nu,rb (co h) S (tell (co h) S q r) log=nu/\_;have key:md kd (tell (co h) S q r).s.made (tell (co h) S q r).pc/\(tell (co h) S q r).s.made<=q.s.made+1:=by
   cases hp:q.pc with
   |fin o=>rw[YY hp];exact⟨u,by omega⟩
   |h3 k=>rw[hp] at D;exact absurd D id
   |_=>have:=W7 (S:=S) (r:=r) (h:=h) (q:=q) (by rw[hp];exact trivial) u;rw[this.1];exact⟨this.2,Nat.le_refl _⟩
  obtain⟨nu,e,K,h4⟩:=Jl log _ key.1 (Wn D);exact⟨nu,e,K,by have:=key.2;simp only[List.length_cons];omega⟩
end
theorem NI{l:ab}(hS:0<=l.aA){E:Int}{gone:List (Int×Int)}{op:cq}{log:List aB}(G:(dC l E gone op log).2.2=true)(hp:0<=(dC l E gone op log).2.1.cJ):
 (dC l E gone op log).2.1.cJ<log.length/\(op.kind=2->(dC l E gone op log).2.1.is=false->(dC l E gone op log).2.1.err=0->(dC l E gone op log).2.1.cJ+2<log.length):=by
 by_cases hh:op.obj<0\/l.size<=op.obj
 ·unfold dC at hp;rw[if_pos hh] at hp;exact absurd (show(0:Int)<=-1 from hp) (by omega)
 ·by_cases J:op.kind=1\/op.kind=2\/op.kind=3
  ·have e:=II (l:=l) (S:=l.aA.toNat) (E:=E) (by omega) (gone:=gone) (op:=op) (log:=log) (h:=.ob op.obj) rfl hh J;obtain⟨nu,V,u,D⟩:=Jl (S:=l.aA.toNat) (h:=.ob op.obj) (kd:=op.kind) log (vb (.ob op.obj) op gone) (by
    show kp op.kind 0 (yn op);unfold yn;rcases J with J|J|J
    ·rw[if_pos J];show op.kind≠2;omega
    ·rw[if_neg (by omega),if_pos J];exact J
    ·rw[if_neg (by omega),if_neg (by omega)];show op.kind≠2;omega) trivial
   rw[V] at e;rw[e] at hp G⊢;have D:nu.s.made<=log.length:=by have:(vb (.ob op.obj) op gone).s.made=0:=rfl;omega
   obtain⟨pc,s⟩:=nu;cases pc with
   |fin o=>obtain⟨K,h4,h5⟩:=u;exact⟨by show o.cJ<_;have:s.made<=log.length:=D;omega,λ a b c=>by have:=h5 a b c;show o.cJ+2<_;have:s.made<=log.length:=D;omega⟩
   |_=>cases G
  ·unfold dC at hp;rw[if_neg hh,if_neg (by omega),if_neg (by omega),if_neg (by omega)] at hp;exact absurd (show(0:Int)<=-1 from hp) (by omega)
def km(g:List (Int×Int)):Prop:=∀p∈g,p.1<9223372036854775808
structure Hs(n:Nat)(s U:af):Prop where
 le:s.made<=n->U.made<=n
 ok:km s.gone->km U.gone
 made:s.made<=U.made
 len:U.gone.length+s.made<=s.gone.length+U.made
theorem Hs.refl{n:Nat}(s:af):Hs n s s:=⟨id,id,Nat.le_refl _,Nat.le_refl _⟩
theorem Hs.trans{n:Nat}{a b c:af}(u:Hs n a b)(D:Hs n b c):Hs n a c:=⟨λ h=>D.le (u.le h),λ h=>D.ok (u.ok h),Nat.le_trans u.made D.made,by have:=u.len;have:=D.len;have:=u.made;have:=D.made;omega⟩
def Hg{aq:Type}(m:Pm aq)(P:aq->Prop):Prop:=∀log s x U,m log s=.ok (x,U)->Hs log.length s U/\P x
section
variable{aq dP:Type}
theorem dG{x:aq}{P:aq->Prop}(h:P x):Hg (Pm.pure x) P:=λ log s y U e=>by
 cases e;exact⟨Hs.refl _,h⟩
theorem bD{m:Pm aq}{f:aq->Pm dP}{P:aq->Prop}{aE:dP->Prop}(u:Hg m P)(D:∀x,P x->Hg (f x) aE):Hg (m.bind f) aE:=λ log s y U e=>by
 unfold Pm.bind at e;cases h:m log s with
 |error a=>rw[h] at e;cases e
 |ok q=>obtain⟨x,s1⟩:=q;rw[h] at e;obtain⟨a1,a2⟩:=u log s x s1 h;obtain⟨b1,b2⟩:=D x a2 log s1 y U e;exact⟨a1.trans b1,b2⟩
theorem Hv{m:Pm aq}{P aE:aq->Prop}(h:Hg m P)(hp:∀x,P x->aE x):Hg m aE:=λ log s x U e=>⟨(h log s x U e).1,hp x (h log s x U e).2⟩
theorem Tl{m:Pm aq}{P:aq->Prop}(h:Hg m P):Hg m (λ _=>True):=Hv h λ _ _=>trivial
theorem DK(a:aS):Hg (fw a) (λ _=>True):=λ log s x U e=>by
 unfold fw at e;split at e
 ·rename_i r hr;cases e;have:=(List.getElem?_eq_some_iff.1 hr).1;exact⟨⟨λ _=>this,id,by simp,by simp⟩,trivial⟩
 ·cases e
theorem eI{c:Prop}[Decidable c]{m n:Pm aq}{P:aq->Prop}(u:c->Hg m P)(D:¬c->Hg n P):Hg (if c then m else n) P:=by
 split
 ·exact u ‹_›
 ·exact D ‹_›
theorem jN(c:Int):Hg (cy c) (λ _=>True):=bD (DK _) λ _ _=>dG trivial
theorem o9(c v:Int):Hg (fa c v) (λ _=>True):=bD (DK _) λ _ _=>dG trivial
theorem lX(c o v:Int):Hg (fv c o v) (λ _=>True):=bD (DK _) λ _ _=>dG trivial
theorem mL:Hg k9 (λ _=>True):=λ log s x U e=>by
 cases e;exact⟨Hs.refl _,trivial⟩
theorem L7(l:ab):∀k,Hg (mV l k) (λ _=>True)
 |0=>dG trivial
 |k+1=>bD (jN _) λ _ _=>eI (λ _=>bD mL λ _ _=>dG trivial) λ _=>bD (jN _) λ _ _=>bD (lX _ _ _) λ _ _=>eI (λ _=>bD mL λ _ _=>bD (jN _) λ _ _=>bD (o9 _ _) λ _ _=>dG trivial) λ _=>L7 l k
theorem HB(l:ab):Hg (qk l) (λ _=>True):=λ log s=>L7 l _ log s
theorem L0(l:ab)(n:Int):∀k,Hg (lu l n k) (λ _=>True)
 |0=>dG trivial
 |k+1=>bD (jN _) λ _ _=>bD (o9 _ _) λ _ _=>bD (lX _ _ _) λ _ _=>eI (λ _=>dG trivial) λ _=>L0 l n k
theorem DM(l:ab)(n:Int):Hg (m8 l n) (λ _=>True):=λ log s=>L0 l n _ log s
theorem UF{n:Nat}{s U:af}{i v:Int}(h:Hs n (s.mf i v) U):Hs n s U:=by
 have u:=E2 s i v;have D:(s.mf i v).gone=s.gone:=by
  unfold af.mf;split
  ·rfl
  ·split<;>rfl
 exact⟨λ g=>h.le (by rw[u];exact g),λ g=>h.ok (by rw[D];exact g),by have:=h.made;omega,by have:=h.len;rw[D] at this;omega⟩
theorem L1(l:ab)(E i c:Int):∀k,Hg (kq l E i c k) (λ _=>True)
 |0=>dG trivial
 |k+1=>bD (jN _) λ v _=>bD mL λ at_ _=>bD (jN _) λ era _=>λ log s x U e=>by
  split at e
  ·cases e;exact⟨Hs.refl _,trivial⟩
  ·refine bD (aE:=λ _=>True) (o9 _ _) (λ _ _=>?_) log s x U e;intro log s x U e;exact⟨UF (L1 l E i c k log _ x U e).1,trivial⟩
theorem Bt(l:ab)(E i c:Int):Hg (kT l E i c) (λ _=>True):=λ log s=>L1 l E i c _ log s
theorem LV(l:ab)(E:Int):∀(es:List Int)(i:Nat),Hg (ge l E i es) (λ _=>True)
 |[],_=>dG trivial
 |e::es,i=>bD (P:=λ _=>True) (eI (λ _=>dG trivial) λ _=>bD (o9 _ _) λ _ _=>λ log s x U h=>by
   cases h;refine⟨?_,trivial⟩
   match i with
   |0=>exact⟨id,id,Nat.le_refl _,Nat.le_refl _⟩
   |1=>exact⟨id,id,Nat.le_refl _,Nat.le_refl _⟩
   |_+2=>exact⟨id,id,Nat.le_refl _,Nat.le_refl _⟩) λ _ _=>LV l E es (i+1)
theorem pS(l:ab)(E:Int):Hg (fZ l E) (λ _=>True):=λ log s=>LV l E _ _ log s
theorem L2:∀(cs acc:List Int),Hg (jy acc cs) (λ _=>True)
 |[],_=>dG trivial
 |_::cs,_=>bD (jN _) λ _ _=>L2 cs _
theorem HA(l:ab)(aM:List Int):∀(gs aY:List (Int×Int)),Hg (eU l aM gs aY) (λ r=>r.length<=gs.length+aY.length/\(km gs->km aY->km r))
 |[],aY=>dG ⟨by simp,λ _ h=>h⟩
 |g::gs,aY=>bD (jN _) λ _ _=>eI (λ _=>Hv (HA l aM gs (aY++[g])) λ r h=>⟨by have:=h.1;simp only[List.length_append,List.length_cons,List.length_nil] at this⊢;omega,λ u D=>h.2 (λ p hp=>u p (List.mem_cons_of_mem _ hp)) λ p hp=>by
  rcases List.mem_append.1 hp with hp|hp
  ·exact D p hp
  ·simp only[List.mem_singleton] at hp;subst hp;exact u _ List.mem_cons_self⟩)
   λ _=>bD (DM l g.1) λ _ _=>Hv (HA l aM gs aY) λ r h=>⟨by have:=h.1;simp only[List.length_cons];omega,λ u D=>h.2 (λ p hp=>u p (List.mem_cons_of_mem _ hp)) D⟩
theorem C6{m:Pm aq}{f:aq->Pm dP}{log:List aB}{s U:af}{y:dP}(e:m.bind f log s=.ok (y,U)):∃x s1,m log s=.ok (x,s1)/\f x log s1=.ok (y,U):=by
 unfold Pm.bind at e;cases h:m log s with
 |error a=>rw[h] at e;cases e
 |ok q=>rw[h] at e;exact⟨q.1,q.2,rfl,e⟩
theorem Yo{l:ab}{g:List (Int×Int)}{log:List aB}{s U:af}{aa:Unit}(e:rc l g log s=.ok (aa,U)):s.made<=U.made/\U.gone.length<=g.length/\(km g->km U.gone)/\(s.made<=log.length->U.made<=log.length):=by obtain⟨aM,s1,e1,e⟩:=C6 e;obtain⟨aY,s2,e2,e⟩:=C6 e;cases e;have u:=(L2 _ _ _ _ _ _ e1).1;have D:=HA l aM g [] _ _ _ _ e2;exact⟨Nat.le_trans u.made D.1.made,by simpa using D.2.1,λ h=>D.2.2 h (λ p hp=>absurd hp List.not_mem_nil),λ h=>D.1.le (u.le h)⟩
theorem DO(l:ab)(n:Int)(hn:n<9223372036854775808):Hg (kg l n) (λ _=>True):=by
 refine bD (jN _) λ era _=>?_
 intro log s x U e;obtain⟨r,s1,e1,e⟩:=C6 e;have eM:s1={s with made:=s.made+1}/\s.made<log.length:=by
  unfold fw at e1;split at e1
  ·rename_i r hr;cases e1;exact⟨rfl,(List.getElem?_eq_some_iff.1 hr).1⟩
  ·cases e1
 obtain⟨eM,bh⟩:=eM;subst eM;have Bg:km s.gone->km (s.gone++[(n,era)]):=λ h p hp=>by
  rcases List.mem_append.1 hp with hp|hp
  ·exact h p hp
  ·simp only[List.mem_singleton] at hp;subst hp;exact hn
 simp only at e;split at e
 ·cases e;exact⟨⟨λ _=>bh,Bg,by simp,by simp;omega⟩,trivial⟩
 ·obtain⟨u,D,K,h4⟩:=Yo e;simp only[List.length_append,List.length_cons,List.length_nil] at u D;exact⟨⟨λ _=>h4 bh,λ h=>K (Bg h),by omega,by omega⟩,trivial⟩
theorem Ch(n:Int):(az n).idx<9223372036854775808:=by have:=(j8 n).2;omega
theorem yH(l:ab)(E G o:Int):∀(k:Nat)(x:Option FT),(∀w,x=some w->w.cur<9223372036854775808)->Hg (nF l E G o k x) (λ f=>f.cur<9223372036854775808)
 |0,_,_=>dG (by show(0:Int)<_;omega)
 |k+1,none,_=>bD (Bt _ _ _ _) λ p _=>yH l E G o k _ λ w hw=>by cases hw;exact Ch _
 |k+1,some x,T=>eI (λ _=>dG (by show(0:Int)<_;omega)) λ _=>bD (Bt _ _ _ _) λ p _=>bD (jN _) λ seen _=>bD mL λ look _=>
   eI (λ _=>bD (jN _) λ dY _=>
    eI (λ _=>bD (lX _ _ _) λ ok _=>eI (λ _=>bD mL λ at_ _=>bD (DO l _ (T _ rfl)) λ _ _=>yH l E G o k _ λ w hw=>by cases hw;exact Ch _) λ _=>yH l E G o k none λ w hw=>by cases hw) λ _=>
    eI (λ _=>yH l E G o k _ λ w hw=>by cases hw;exact Ch _) λ _=>
    eI (λ _=>dG (T _ rfl)) λ _=>dG (T _ rfl))
   λ _=>yH l E G o k none λ w hw=>by cases hw
theorem DL(l:ab)(E G o:Int):Hg (rD l E G o) (λ f=>f.cur<9223372036854775808):=λ log s=>yH l E G o _ none (λ w hw=>by cases hw) log s
theorem sS(l:ab)(E:Int)(o:br):Hg (kc l E o) (λ _=>True):=bD (pS _ _) λ _ _=>dG trivial
theorem LZ(l:ab)(E G o:Int):Hg (getM l E G o) (λ _=>True):=bD (DL _ _ _ _) λ _ _=>eI (λ _=>bD (jN _) λ _ _=>sS _ _ _) λ _=>sS _ _ _
theorem L3(l:ab)(f:jU)(n:Int):Hg (uR l f n) (λ _=>True):=bD (o9 _ _) λ _ _=>bD (lX _ _ _) λ _ _=>eI (λ _=>bD mL λ _ _=>dG trivial) λ _=>dG trivial
theorem Hz(l:ab)(E G o v:Int):∀(k:Nat)(n:Int),Hg (tH l E G o v k n) (λ _=>True)
 |0,_=>dG trivial
 |k+1,n=>bD (DL _ _ _ _) λ _ _=>eI (λ _=>eI (λ _=>sS _ _ _) λ _=>bD (DM _ _) λ _ _=>sS _ _ _) λ _=>
   eI (λ _=>bD (HB _) λ t _=>eI (λ _=>bD (o9 _ _) λ _ _=>bD (o9 _ _) λ _ _=>bD (L3 _ _ _) λ r _=>by
    cases r with
    |some a=>exact sS _ _ _
    |none=>exact Hz l E G o v k _) λ _=>sS _ _ _) λ _=>bD (L3 _ _ _) λ r _=>by
    cases r with
    |some a=>exact sS _ _ _
    |none=>exact Hz l E G o v k _
theorem L4(l:ab)(E G o v:Int):Hg (tI l E G o v) (λ _=>True):=λ log s=>Hz l E G o v _ 0 log s
theorem LW(l:ab)(E G o:Int):∀(k:Nat),Hg (vQ l E G o k) (λ _=>True)
 |0=>dG trivial
 |k+1=>bD (DL _ _ _ _) λ _ hf=>eI (λ _=>bD (lX _ _ _) λ _ _=>eI (λ _=>bD mL λ _ _=>bD (lX _ _ _) λ _ _=>eI (λ _=>bD (pS _ _) λ _ _=>bD (DO l _ hf) λ _ _=>dG trivial) λ _=>bD (Tl (DL _ _ _ _)) λ _ _=>sS _ _ _) λ _=>LW l E G o k) λ _=>sS _ _ _
theorem LX(l:ab)(E G o:Int):Hg (sE l E G o) (λ _=>True):=λ log s=>LW l E G o _ log s
end
theorem vU{m:Pm br}{P:br->Prop}(hm:Hg m P){gone:List (Int×Int)}{log:List aB}(G:(ot (m log ⟨0,gone,0,0,0⟩)).2.2=true)(hg:km gone):km (ot (m log ⟨0,gone,0,0,0⟩)).2.1.gone/\(ot (m log ⟨0,gone,0,0,0⟩)).2.1.gone.length<=gone.length+log.length:=by
 cases h:m log ⟨0,gone,0,0,0⟩ with
 |error a=>rw[h] at G;cases G
 |ok q=>obtain⟨x,U⟩:=q;obtain⟨u,_⟩:=hm _ _ _ _ h;have:=u.len;have:=u.le (Nat.zero_le _);exact⟨u.ok hg,by show U.gone.length<=_;simp only at*;omega⟩
theorem GG{m:Pm br}{P:br->Prop}(hm:Hg m P){gone:List (Int×Int)}{log:List aB}(G:(ot (m log ⟨0,gone,0,0,0⟩)).2.2=true):(ot (m log ⟨0,gone,0,0,0⟩)).2.1.gone.length<=gone.length+log.length:=by
 cases h:m log ⟨0,gone,0,0,0⟩ with
 |error a=>rw[h] at G;cases G
 |ok q=>obtain⟨x,U⟩:=q;obtain⟨u,_⟩:=hm _ _ _ _ h;have:=u.len;have:=u.le (Nat.zero_le _);show U.gone.length<=_;simp only at*;omega
theorem Wh{l:ab}{E:Int}{gone:List (Int×Int)}{op:cq}{log:List aB}(G:(dC l E gone op log).2.2=true):(dC l E gone op log).2.1.gone.length<=gone.length+log.length:=by
 unfold dC at G⊢;split at G
 ·rw[if_pos ‹_›];exact Nat.le_add_right _ _
 ·rw[if_neg ‹_›];split at G
  ·rw[if_pos ‹_›];exact GG (LZ _ _ _ _) G
  ·rw[if_neg ‹_›];split at G
   ·rw[if_pos ‹_›];exact GG (L4 _ _ _ _ _) G
   ·rw[if_neg ‹_›];split at G
    ·rw[if_pos ‹_›];exact GG (LX _ _ _ _) G
    ·rw[if_neg ‹_›];exact Nat.le_add_right _ _
theorem Ce{l:ab}{E:Int}{gone:List (Int×Int)}{op:cq}{log:List aB}(G:(dC l E gone op log).2.2=true)(hg:km gone):km (dC l E gone op log).2.1.gone/\(dC l E gone op log).2.1.gone.length<=gone.length+log.length:=by
 unfold dC at G⊢;split at G
 ·rw[if_pos ‹_›];exact⟨hg,Nat.le_add_right _ _⟩
 ·rw[if_neg ‹_›];split at G
  ·rw[if_pos ‹_›];exact vU (LZ _ _ _ _) G hg
  ·rw[if_neg ‹_›];split at G
   ·rw[if_pos ‹_›];exact vU (L4 _ _ _ _ _) G hg
   ·rw[if_neg ‹_›];split at G
    ·rw[if_pos ‹_›];exact vU (LX _ _ _ _) G hg
    ·rw[if_neg ‹_›];exact⟨hg,Nat.le_add_right _ _⟩
theorem Wj{l:ab}(hS:0<=l.aA){E:Int}{gone:List (Int×Int)}{op:cq}{log:List aB}{k:Nat}(G:(dC l E gone op (log.take k)).2.2=true):dC l E gone op log=dC l E gone op (log.take k):=by
 by_cases hh:op.obj<0\/l.size<=op.obj
 ·unfold dC;rw[if_pos hh,if_pos hh]
 ·by_cases J:op.kind=1\/op.kind=2\/op.kind=3
  ·have e:=λ log=>II (l:=l) (S:=l.aA.toNat) (E:=E) (by omega) (gone:=gone) (op:=op) (log:=log) (h:=.ob op.obj) rfl hh J
   rw[e] at G;rw[e,e];have hr:rb (co (.ob op.obj)) l.aA.toNat (vb (.ob op.obj) op gone) log=rb (co (.ob op.obj)) l.aA.toNat (rb (co (.ob op.obj)) l.aA.toNat (vb (.ob op.obj) op gone) (log.take k)) (log.drop k):=by unfold rb;rw[<-List.foldl_append,List.take_append_drop]
   rw[hr];generalize rb (co (.ob op.obj)) l.aA.toNat (vb (.ob op.obj) op gone) (log.take k)=q at G⊢;obtain⟨pc,s⟩:=q;cases pc with
   |fin o=>
    have:∀rest:List aB,rb (co (.ob op.obj)) l.aA.toNat ⟨.fin o,s⟩ rest=⟨.fin o,s⟩:=λ rest=>by
     induction rest with
     |nil=>rfl
     |cons r rest ih=>exact ih
    rw[this]
   |_=>cases G
  ·unfold dC;rw[if_neg hh,if_neg (by omega),if_neg (by omega),if_neg (by omega),if_neg hh,if_neg (by omega),if_neg (by omega),if_neg (by omega)]
theorem Wi{l:ab}(hS:0<=l.aA){E:Int}{gone:List (Int×Int)}{op:cq}{log:List aB}(G:(dC l E gone op log).2.2=true)(he:(dC l E gone op log).2.1.err=0):0<=(dC l E gone op log).2.1.cJ:=by
 by_cases hh:op.obj<0\/l.size<=op.obj
 ·unfold dC at he;rw[if_pos hh] at he;exact absurd (show(1:Int)=0 from he) (by omega)
 ·by_cases J:op.kind=1\/op.kind=2\/op.kind=3
  ·have e:=II (l:=l) (S:=l.aA.toNat) (E:=E) (by omega) (gone:=gone) (op:=op) (log:=log) (h:=.ob op.obj) rfl hh J;obtain⟨nu,V,u,D⟩:=Jl (S:=l.aA.toNat) (h:=.ob op.obj) (kd:=op.kind) log (vb (.ob op.obj) op gone) (by
    show kp op.kind 0 (yn op);unfold yn;rcases J with J|J|J
    ·rw[if_pos J];show op.kind≠2;omega
    ·rw[if_neg (by omega),if_pos J];exact J
    ·rw[if_neg (by omega),if_neg (by omega)];show op.kind≠2;omega) trivial
   rw[V] at e;rw[e] at G⊢;obtain⟨pc,s⟩:=nu;cases pc with
   |fin o=>exact u.1
   |_=>cases G
  ·unfold dC at he;rw[if_neg hh,if_neg (by omega),if_neg (by omega),if_neg (by omega)] at he;exact absurd (show(1:Int)=0 from he) (by omega)
def EI(l:ab)(ey:Int):Int:=if am l ey 0<0 then l.done else am l ey 0
theorem su{l:ab}{E:Int}{gone:List (Int×Int)}{kind ey dY v:Int}{lg:List aB}:(mu l E gone kind ey dY v lg).2=(dC l E gone ⟨kind,EI l ey,dY,v⟩ lg).2:=by unfold mu EI;simp only;generalize(if am l ey 0<0 then l.done else am l ey 0)=ob;split<;>rfl
theorem K6{f:Nat->Bool}:∀(n k:Nat),f (k+n)=true->f (oV f n k)=true/\k<=oV f n k/\oV f n k<=k+n
 |0,k,h=>⟨h,Nat.le_refl _,Nat.le_refl _⟩
 |n+1,k,h=>by
  unfold oV;split
  ·exact⟨‹_›,Nat.le_refl _,Nat.le_add_right _ _⟩
  ·obtain⟨u,D,K⟩:=K6 n (k+1) (by rw[show k+1+n=k+(n+1) by omega];exact h);exact⟨u,by omega,by omega⟩
section
variable{l:ab}{E kind ey dY v:Int}{log:List aB}{s U:af}{o:br×aS}
theorem Iq(hS:0<=l.aA)(hm:s.made<=log.length)(e:p4 l E kind ey dY v log s=.ok (o,U)):
 Hs log.length s U/\(kind=2->o.1.is=false->o.1.err=0->0<=o.1.cJ/\o.1.cJ+2<log.length):=by
 unfold p4 at e;simp only at e
 by_cases G:(mu l E s.gone kind ey dY v (log.drop s.made)).2.2=false
 ·rw[if_pos G] at e;cases e
 rw[if_neg G] at e;have we:(mu l E s.gone kind ey dY v (log.drop s.made)).2.2=true:=by simpa using G
 rw[su] at we
 by_cases hp:(mu l E s.gone kind ey dY v (log.drop s.made)).2.1.cJ<0
 ·rw[if_pos hp] at e;cases e;refine⟨Hs.refl _,λ u D K=>?_⟩;rw[su] at hp K;have:=Wi hS we K;omega
 ·rw[if_neg hp] at e;have Uo:=hp;rw[su] at Uo;obtain⟨q1,q2⟩:=NI hS we (by omega);have cg:(log.drop s.made).length=log.length-s.made:=List.length_drop;have qR:(mu l E s.gone kind ey dY v (log.drop s.made)).2.1.cJ.toNat+1<=(log.drop s.made).length:=by rw[su];omega
  generalize hf:(λ k=>(mu l E s.gone kind ey dY v ((log.drop s.made).take k)).2.2)=f at e;have Br:f (((mu l E s.gone kind ey dY v (log.drop s.made)).2.1.cJ.toNat+1)+((log.drop s.made).length-((mu l E s.gone kind ey dY v (log.drop s.made)).2.1.cJ.toNat+1)))=true:=by rw[show((mu l E s.gone kind ey dY v (log.drop s.made)).2.1.cJ.toNat+1)+((log.drop s.made).length-((mu l E s.gone kind ey dY v (log.drop s.made)).2.1.cJ.toNat+1))=(log.drop s.made).length by omega,<-hf];simp only[List.take_length];rw[su];exact we
  obtain⟨k1,k2,k3⟩:=K6 _ _ Br;generalize hK:oV f _ _=bC at e k1 k2 k3;rw[<-hf] at k1;simp only at k1;rw[su] at k1;have same:=Wj hS k1;cases e;refine⟨⟨λ _=>by simp only;omega,λ hg=>?_,by simp,?_⟩,λ u D K=>?_⟩
  ·show km (mu l E s.gone kind ey dY v (log.drop s.made)).2.1.gone;rw[su,same];exact(Ce k1 hg).1
  ·show(mu l E s.gone kind ey dY v (log.drop s.made)).2.1.gone.length+s.made<=s.gone.length+(s.made+bC);rw[su,same];have dc:(dC l E s.gone ⟨kind,EI l ey,dY,v⟩ ((log.drop s.made).take bC)).2.1.gone.length<=s.gone.length+((log.drop s.made).take bC).length:=by
    have:=@Wh l E s.gone ⟨kind,EI l ey,dY,v⟩ ((log.drop s.made).take bC) k1;exact this
   rw[List.length_take] at dc;omega
  ·simp only at D K⊢;rw[su] at D K⊢;have:=q2 u D K;omega
end
def Hl{aq:Type}(m:Pm aq):Prop:=∀log s x U,s.made<=log.length->m log s=.ok (x,U)->Hs log.length s U
section
variable{aq dP:Type}
theorem oz{x:aq}:Hl (Pm.pure x):=λ _ _ _ _ _ e=>by cases e;exact Hs.refl _
theorem yJ(a:aS):Hl (fw a):=λ log s x U _ e=>(DK a log s x U e).1
theorem pU{m:Pm aq}{f:aq->Pm dP}(u:Hl m)(D:∀x,Hl (f x)):Hl (m.bind f):=λ log s y U hm e=>by
 obtain⟨x,s1,e1,e2⟩:=C6 e;have a:=u log s x s1 hm e1;exact a.trans (D x log s1 y U (a.le hm) e2)
theorem rV{c:Prop}[Decidable c]{m n:Pm aq}(u:Hl m)(D:Hl n):Hl (if c then m else n):=by
 split
 ·exact u
 ·exact D
theorem TU(o:br×aS):Hl (JM o):=λ _ _ _ _ _ e=>by cases e;exact Hs.refl _
theorem Mg{l:ab}(hS:0<=l.aA)(E kind ey dY v:Int):Hl (p4 l E kind ey dY v):=λ _ _ _ _ hm e=>(Iq hS hm e).1
theorem Mf{l:ab}(hS:0<=l.aA)(E m:Int):∀(k:Nat)(b:Int),Hl (mx l E m k b)
 |0,_=>oz
 |k+1,_=>pU (yJ _) λ _=>rV oz (rV oz (pU (Mf hS E m k _) λ _=>rV oz (pU (Mg hS _ _ _ _ _) λ _=>rV oz (pU (TU _) λ _=>pU (yJ _) λ _=>oz))))
theorem TS{l:ab}(m kind size:Int):Hl (qr l m kind size):=rV (pU (yJ _) λ _=>rV (pU (yJ _) λ _=>oz) oz) (rV (pU (yJ _) λ _=>oz) oz)
theorem TT{l:ab}(hS:0<=l.aA)(E:Int)(op:cq):Hl (va l E op):=pU (yJ _) λ _=>rV oz (pU (Mf hS _ _ _ _) λ _=>rV oz (pU (Mg hS _ _ _ _ _) λ _=>rV (pU (TS _ _ _) λ _=>oz) oz))
end
theorem Ug{l:ab}(hS:0<=l.aA){E:Int}{gone:List (Int×Int)}{op:cq}{log:List aB}(G:(qM l E gone op log).2.2=true)(hg:km gone):km (qM l E gone op log).2.1.gone/\(qM l E gone op log).2.1.gone.length<=gone.length+log.length:=by
 unfold qM at G⊢;split at G
 ·rw[if_pos ‹_›];exact⟨hg,Nat.le_add_right _ _⟩
 ·rw[if_neg ‹_›];cases h:va l E op log ⟨0,gone,0,0,0⟩ with
  |error a=>rw[h] at G;cases G
  |ok q=>obtain⟨x,U⟩:=q;have u:=TT hS E op _ _ _ _ (Nat.zero_le _) h;have:=u.len;have:=u.le (Nat.zero_le _);exact⟨u.ok hg,by show U.gone.length<=_;simp only at*;omega⟩
abbrev bv:=List (Int×Int)
def dN(S:bv):Prop:=S.Pairwise λ x y=>x.1<=y.1
def o5(k:Int)(S:bv):bv:=S.filter λ x=>decide (x.1=k)
def fR(S ah:bv):Prop:=∀k,o5 k S=o5 k ah
theorem fR.refl(S:bv):fR S S:=λ _=>rfl
theorem fR.trans{S ah bM:bv}(h:fR S ah)(bN:fR ah bM):fR S bM:=λ k=>(h k).trans (bN k)
theorem fR.symm{S ah:bv}(h:fR S ah):fR ah S:=λ k=>(h k).symm
theorem DD(k:Int)(S ah:bv):o5 k (S++ah)=o5 k S++o5 k ah:=List.filter_append ..
theorem fR.app{S ah bM iJ:bv}(h:fR S ah)(bN:fR bM iJ):fR (S++bM) (ah++iJ):=λ k=>by rw[DD,DD,h k,bN k]
theorem fR.swap{ar B:bv}(h:∀x∈ar,∀y∈B,x.1≠y.1):fR (ar++B) (B++ar):=λ k=>by
 rw[DD,DD]
 by_cases ha:o5 k ar=[]
 ·rw[ha];simp
 ·have R:o5 k B=[]:=by
   rw[o5,List.filter_eq_nil_iff];intro y hy he;obtain⟨x,T⟩:=List.exists_mem_of_ne_nil _ ha;obtain⟨bV,cZ⟩:=List.mem_filter.1 T;exact h x bV y hy ((of_decide_eq_true cZ).trans (of_decide_eq_true he).symm)
  rw[R];simp
theorem fR.mem{S ah:bv}(h:fR S ah){x:Int×Int}(T:x∈S):x∈ah:=by have u:x∈o5 x.1 S:=List.mem_filter.2 ⟨T,decide_eq_true rfl⟩;rw[h x.1] at u;exact(List.mem_filter.1 u).1
theorem K2:∀{S ah:bv},dN S->dN ah->fR S ah->S=ah
 |[],[],_,_,_=>rfl
 |[],y::ah,_,_,h=>by have:=h.symm.mem (x:=y) (by simp);cases this
 |x::S,[],_,_,h=>by have:=h.mem (x:=x) (by simp);cases this
 |x::S,y::ah,hS,hT,h=>by
  have u:=List.pairwise_cons.1 hS;have D:=List.pairwise_cons.1 hT;have e:x.1=y.1:=by
   have q1:y.1<=x.1:=by
    rcases List.mem_cons.1 (h.mem (x:=x) (by simp)) with e|T
    ·rw[e];exact Int.le_refl _
    ·exact D.1 x T
   have q2:x.1<=y.1:=by
    rcases List.mem_cons.1 (h.symm.mem (x:=y) (by simp)) with e|hy
    ·rw[e];exact Int.le_refl _
    ·exact u.1 y hy
   omega
  have L:∀(k:Int)(aT:Int×Int)(bM:bv),o5 k (aT::bM)=if aT.1=k then aT::o5 k bM else o5 k bM:=λ k aT bM=>by
   unfold o5;rw[List.filter_cons]
   by_cases hz:aT.1=k
   ·rw[if_pos (decide_eq_true hz),if_pos hz]
   ·rw[if_neg (by simpa using hz),if_neg hz]
  have T:=h x.1;rw[L,L,if_pos rfl,if_pos e.symm] at T;injection T with bV cZ
  subst bV;rw[K2 u.2 D.2 λ k=>by
   have J:=h k;rw[L,L] at J
   by_cases hz:x.1=k
   ·rw[if_pos hz,if_pos hz] at J;injection J
   ·rw[if_neg hz,if_neg hz] at J;exact J]
structure iI(S ah:bv):Prop where
 len:ah.length=S.length
 up:dN ah
 oU:fR S ah
theorem dN.app{ar B:bv}(hA:dN ar)(hB:dN B)(h:∀x∈ar,∀y∈B,x.1<=y.1):dN (ar++B):=List.pairwise_append.2 ⟨hA,hB,h⟩
theorem dN.left{ar B:bv}(h:dN (ar++B)):dN ar:=(List.pairwise_append.1 h).1
theorem dN.right{ar B:bv}(h:dN (ar++B)):dN B:=(List.pairwise_append.1 h).2.1
theorem dN.le{ar B:bv}(h:dN (ar++B)):∀x∈ar,∀y∈B,x.1<=y.1:=(List.pairwise_append.1 h).2.2
theorem dN.nil:dN []:=List.Pairwise.nil
theorem dN.one(x:Int×Int):dN [x]:=List.pairwise_singleton _ _
theorem dN.at{S:bv}(h:dN S){i j:Nat}{x y:Int×Int}(Z:S[i]?=some x)(hj:S[j]?=some y)(jr:i<=j):x.1<=y.1:=by
 rcases Nat.eq_or_lt_of_le jr with rfl|bh
 ·rw[Z] at hj;cases hj;exact Int.le_refl _
 ·obtain⟨q1,q2⟩:=List.getElem?_eq_some_iff.1 Z;obtain⟨q3,q4⟩:=List.getElem?_eq_some_iff.1 hj;rw[<-q2,<-q4];exact List.pairwise_iff_getElem.1 h i j q1 q3 bh
theorem PW{ar B:bv}{x:Int×Int}(h:dN (ar++B))(ha:∀y∈ar,y.1<=x.1)(R:∀y∈B,x.1<=y.1):dN (ar++x::B):=
 h.left.app (List.pairwise_cons.2 ⟨R,h.right⟩) λ y hy aT hz=>by
  rcases List.mem_cons.1 hz with rfl|hz
  ·exact ha y hy
  ·exact h.le y hy aT hz
theorem YL{P Q:bv}{x:Int×Int}(h:dN (P++Q))(hp:∀y∈P,y.1<x.1)(hq:∀y∈Q,x.1<=y.1):iI (x::(P++Q)) (P++x::Q):=
 ⟨by simp;omega,PW h (λ y hy=>by have:=hp y hy;omega) hq,by
  have u:=fR.swap (ar:=[x]) (B:=P) λ a ha y hy=>by
   have:a=x:=by simpa using ha
   subst this;have:=hp y hy;omega
  have:=u.app (.refl Q)
  simpa using this⟩
theorem Ju{P Q:bv}{x:Int×Int}(h:dN (P++Q))(hp:∀y∈P,y.1<=x.1)(hq:∀y∈Q,x.1<y.1):iI ((P++Q)++[x]) (P++x::Q):=
 ⟨by simp,PW h hp (λ y hy=>by have:=hq y hy;omega),by
  have u:=fR.swap (ar:=Q) (B:=[x]) λ y hy a ha=>by
   have:a=x:=by simpa using ha
   subst this;have:=hq y hy;omega
  have:=(fR.refl P).app u
  simpa using this⟩
theorem YK{A1 A2 B1 B2 aP aE:bv}(u:dN (A1++A2))(D:dN (B1++B2))(v9:∀x∈A1,∀y∈B2,x.1<=y.1)(LG:∀y∈B1,∀x∈A2,y.1<x.1)(hL:iI (A1++B1) aP)(hR:iI (A2++B2) aE):iI (A1++A2++(B1++B2)) (aP++aE):=by
 refine⟨by have:=hL.len;have:=hR.len;simp only[List.length_append] at*;omega,hL.up.app hR.up λ x T y hy=>?_,?_⟩
 ·rcases List.mem_append.1 (hL.oU.symm.mem T) with T|T<;>rcases List.mem_append.1 (hR.oU.symm.mem hy) with hy|hy
  ·exact u.le x T y hy
  ·exact v9 x T y hy
  ·have:=LG x T y hy;omega
  ·exact D.le x T y hy
 ·have K:fR (A1++A2++(B1++B2)) (A1++B1++(A2++B2)):=by
   have h4:=fR.swap (ar:=A2) (B:=B1) λ x T y hy=>by have:=LG y hy x T;omega
   have:=((fR.refl A1).app h4).app (.refl B2)
   simpa using this
  exact K.trans (hL.oU.app hR.oU)
theorem Pj{B:bv}(h:dN B):iI ([]++B) B:=⟨rfl,h,.refl _⟩
theorem Pk{ar:bv}(h:dN ar):iI (ar++[]) ar:=⟨by simp,h,by rw[List.append_nil];exact .refl _⟩
inductive nE(k:Nat):bv->Prop where
 |nil:nE k []
 |cons {ar aI:bv} (hA:ar.length=k) (hU:dN ar) (hD:nE k aI):nE k (ar++aI)
theorem nE.snoc{k:Nat}{aI ar:bv}(h:nE k aI)(hA:ar.length=k)(hU:dN ar):nE k (aI++ar):=by
 induction h with
 |nil=>have:=nE.cons hA hU .nil;simpa using this
 |cons hB hV hD ih=>rw[List.append_assoc];exact .cons hB hV ih
theorem nE.len{k:Nat}{aI:bv}(h:nE k aI):∃q,aI.length=q*k:=by
 induction h with
 |nil=>exact⟨0,by simp⟩
 |cons hB hV hD ih=>obtain⟨q,hq⟩:=ih;exact⟨q+1,by rw[List.length_append,hB,hq,Nat.add_mul];omega⟩
theorem nE.take{k:Nat}{aI:bv}(h:nE k aI)(J:k<=aI.length)(h0:0<k):∃ar oL,aI=ar++oL/\ar.length=k/\dN ar/\nE k oL:=by
 cases h with
 |nil=>simp at J;omega
 |cons hA hU hD=>exact⟨_,_,rfl,hA,hU,hD⟩
structure rl(k:Nat)(aI aE:bv):Prop where
 runs:nE k aI
 up:dN aE
 lt:aE.length<k
theorem rl.one{k:Nat}{aI aE:bv}(h:rl k aI aE)(J:(aI++aE).length<=k):dN (aI++aE):=by
 obtain⟨q,hq⟩:=h.runs.len;have M:=h.lt;rw[List.length_append] at J;rcases Nat.eq_zero_or_pos aI.length with h0|h0
 ·rw[List.length_eq_zero_iff.1 h0];exact h.up
 ·have bJ:1<=q:=by
   rcases Nat.eq_zero_or_pos q with e|e
   ·subst e;omega
   ·exact e
  have:k<=q*k:=Nat.le_mul_of_pos_left k bJ;obtain⟨ar,oL,rfl,hA,hU,hD⟩:=h.runs.take (by omega) (by omega);rw[List.length_append] at J;have e1:oL=[]:=List.length_eq_zero_iff.1 (by omega);have e2:aE=[]:=List.length_eq_zero_iff.1 (by omega);subst e1;subst e2
  simpa using hU
theorem rl.two{k:Nat}{aI aE:bv}(h:rl k aI aE)(h0:0<k)(J:2*k<=(aI++aE).length):∃ar B oL,aI=ar++(B++oL)/\ar.length=k/\B.length=k/\dN ar/\dN B/\rl k oL aE:=by
 have M:=h.lt;rw[List.length_append] at J;obtain⟨ar,D1,rfl,hA,hU,hD⟩:=h.runs.take (by omega) h0;rw[List.length_append] at J;have kE:k<=D1.length:=by
  obtain⟨q,hq⟩:=hD.len;rcases Nat.eq_zero_or_pos q with e|e
  ·subst e;simp at hq;simp[hq] at J;omega
  ·have:k<=q*k:=Nat.le_mul_of_pos_left k e;omega
 obtain⟨B,D2,rfl,hB,hV,A⟩:=hD.take kE h0;exact⟨ar,B,D2,rfl,hA,hB,hU,hV,A,h.up,h.lt⟩
theorem rl.rest{k:Nat}{aI aE:bv}(h:rl k aI aE)(h0:0<k)(J:k<(aI++aE).length)(kV:(aI++aE).length<2*k):aI.length=k/\dN aI/\aE≠[]:=by
 have M:=h.lt;rw[List.length_append] at J kV;have G:k<=aI.length:=by
  obtain⟨q,hq⟩:=h.runs.len;rcases Nat.eq_zero_or_pos q with e|e
  ·subst e;simp at hq;simp[hq] at J;omega
  ·have:k<=q*k:=Nat.le_mul_of_pos_left k e;omega
 obtain⟨ar,D1,rfl,hA,hU,hD⟩:=h.runs.take G h0;obtain⟨q,hq⟩:=hD.len;rw[List.length_append] at J kV;have BN:q=0:=by
  rcases Nat.eq_zero_or_pos q with e|e
  ·exact e
  ·have:k<=q*k:=Nat.le_mul_of_pos_left k e;omega
 subst BN;have e1:D1=[]:=List.length_eq_zero_iff.1 (by omega);subst e1;simp only[List.append_nil,List.length_nil,Nat.add_zero] at*;exact⟨hA,hU,λ e=>by subst e;simp at J;omega⟩
def r9(ah:bv)(x:Int×Int):bv:=ah.takeWhile (λ y=>decide (y.1<=x.1))++x::ah.dropWhile (λ y=>decide (y.1<=x.1))
def kw(S:bv):bv:=S.foldl r9 []
theorem Ve{ah:bv}(h:dN ah)(x:Int×Int):iI (ah++[x]) (r9 ah x):=by
 unfold r9;have e:=List.takeWhile_append_dropWhile (p:=λ y:Int×Int=>decide (y.1<=x.1)) (l:=ah);have hp:∀y∈ah.takeWhile (λ y=>decide (y.1<=x.1)),y.1<=x.1:=λ y hy=>of_decide_eq_true (List.all_eq_true.1 (List.all_takeWhile (l:=ah) (p:=λ y:Int×Int=>decide (y.1<=x.1))) y hy)
 have hq:∀y∈ah.dropWhile (λ y=>decide (y.1<=x.1)),x.1<y.1:=by
  intro y hy;rcases G:ah.dropWhile (λ y=>decide (y.1<=x.1)) with _|⟨aT,aI⟩
  ·rw[G] at hy;cases hy
  ·have hz:¬aT.1<=x.1:=by
    have:=List.head?_dropWhile_not (λ y:Int×Int=>decide (y.1<=x.1)) ah;rw[G] at this
    simpa using this
   have hu:dN (aT::aI):=by rw[<-G];rw[<-e] at h;exact h.right
   rw[G] at hy;rcases List.mem_cons.1 hy with rfl|hy
   ·omega
   ·have:=(List.pairwise_cons.1 hu).1 y hy;omega
 rw[<-e] at h;have:=Ju h hp hq;rw[e] at this;exact this
theorem K9:∀(S ah:bv),dN ah->iI (ah++S) (S.foldl r9 ah)
 |[],ah,h=>by rw[List.append_nil];exact⟨rfl,h,.refl _⟩
 |x::S,ah,h=>by
  have u:=Ve h x;have D:=K9 S (r9 ah x) u.up;refine⟨?_,D.up,?_⟩
  ·have:=u.len;have:=D.len;simp only[List.length_append,List.length_cons,List.foldl_cons] at*;simp at*;omega
  ·have K:=u.oU.app (fR.refl S);rw[List.append_assoc] at K;exact K.trans D.oU
theorem Jt(S:bv):iI S (kw S):=K9 S [] .nil
theorem YM{S ah:bv}(h:iI S ah):ah=kw S:=K2 h.up (Jt S).up (h.oU.symm.trans (Jt S).oU)
end Go.Proofs.YtcnefjfboagbmaaGreat
namespace Go.Proofs.YtcnefjfboagbmaaGreat.Em
set_option maxRecDepth 100000
def lG(v k c:Int):Int:=v%4294967296+4294967296*(k%4)+17179869184*(c%268435456)
def tz(w:Int):Int:=w%4294967296
def uL(w:Int):Int:=w/4294967296%4
def kr(w:Int):Int:=w/17179869184%268435456
def vg(l:ab)(bI n:Int):Pm Bool:=(cy bI).bind λ bO=>(fa (am l n 0) (az bO).idx).bind λ _=>fv bI bO (dJ (eo (az bO) n))
def wZ(c bW no:Int):Pm Bool:=(cy c).bind λ x=>if x=bW then(cy c).bind λ y=>if y=bW then(fv c bW no).bind λ ok=>.pure (!ok) else .pure true else .pure true
def tF(l:ab)(bI c v n:Int):Nat->Pm br
 |0=>.pure ⟨0,false,0,0,[]⟩
 |k+1=>(vg l bI n).bind λ ok=>if ok then k9.bind λ a=>.pure ⟨0,true,0,a,[]⟩
  else(cy c).bind λ w=>if uL w=0 then(fv c w (lG v 1 (kr w+1))).bind λ ok=>if ok then k9.bind λ a=>(wZ c (lG v 1 (kr w+1)) (lG 0 0 (kr w+1))).bind λ V1=>if V1 then(fa c (lG 0 0 (kr w+1))).bind λ _=>(m8 l n).bind λ _=>.pure ⟨0,true,0,-a-2,[]⟩ else tF l bI c v n k
   else tF l bI c v n k
  else tF l bI c v n k
def tG(l:ab)(bI c v:Int):Pm br:=(qk l).bind λ t=>if t.2.2 then(fa (am l t.1 1) v).bind λ _=>λ log s=>tF l bI c v t.1 (log.length+1-s.made) log s else .pure ⟨0,false,8,t.2.1,[]⟩
def vf(l:ab)(E bI:Int):Pm (Int×Int×Int):=(kT l E 0 bI).bind λ p=>if(az p.1).idx=0 then .pure (0,p.2,0)
 else(cy (am l (az p.1).idx 0)).bind λ below=>(fv bI p.1 (dJ (eo (az p.1) below))).bind λ ok=>if ok then k9.bind λ a=>.pure ((az p.1).idx,a,2) else k9.bind λ a=>.pure (0,a,1)
def uP(l:ab)(E bI c:Int):Nat->Pm br
 |0=>.pure ⟨0,false,0,0,[]⟩
 |k+1=>(vf l E bI).bind λ t=>if t.2.2=0 then(fZ l E).bind λ _=>.pure ⟨0,false,0,t.2.1,[]⟩
  else if t.2.2=2 then(cy (am l t.1 1)).bind λ v=>(fZ l E).bind λ _=>(kg l t.1).bind λ _=>.pure ⟨v,true,0,t.2.1,[]⟩
  else(cy c).bind λ w=>if uL w=1 then(fv c w (lG (tz w) 2 (kr w))).bind λ ok=>if ok then k9.bind λ a=>(fZ l E).bind λ _=>.pure ⟨tz w,true,0,a,[]⟩ else uP l E bI c k
   else uP l E bI c k
def xn(l:ab)(E bI c:Int):Pm br:=λ log s=>uP l E bI c (log.length+1-s.made) log s
def px(l:ab)(E s:Int):Int:=if l.bm<1 then-1 else CH l s ((E%l.bm+l.bm)%l.bm)
def dC(l:ab)(E:Int)(gone:List (Int×Int))(op:cq)(log:List aB):aS×br×Bool:=
 if hd l op.obj<0 then(eF,⟨0,false,1,-1,gone⟩,true)
 else if op.kind=4/\0<=op.a/\op.a<4294967296 then ot (tG l (hd l op.obj) (px l E op.obj) op.a log ⟨0,gone,0,0,0⟩)
 else if op.kind=5 then ot (xn l E (hd l op.obj) (px l E op.obj) log ⟨0,gone,0,0,0⟩)
 else(eF,⟨0,false,1,-1,gone⟩,true)
def cW(l:ab)(m:List Int)(s:Int):List Int:=if hd l s<0 then[] else fL (λ n=>aG m (am l n 0)) l.nodes (l.nodes.toNat+1) [] (az (aG m (hd l s))).idx
def hc(l:ab)(m:List Int)(s:Int):List Int:=(cW l m s).map λ n=>aG m (am l n 1)
end Go.Proofs.YtcnefjfboagbmaaGreat.Em
namespace Go.Proofs.YtcnefjfboagbmaaGreat.Sg
set_option maxRecDepth 100000
def xk(l:ab)(n v:Int):List Int->Pm (Option Int)
 |[]=>.pure none
 |i::is=>(cy (am l n i)).bind λ x=>if x=0 then(fv (am l n i) 0 (v+2)).bind λ ok=>if ok then k9.bind λ a=>.pure (some a) else xk l n v is else xk l n v is
def rC(l:ab)(n:Int):List Int->Pm Unit
 |[]=>.pure ()
 |i::is=>(fa (am l n i) 0).bind λ _=>rC l n is
def ud(l:ab)(n v:Int):Pm Unit:=(fa (am l n 0) 0).bind λ _=>(fa (am l n 1) (v+2)).bind λ _=>rC l n [2,3,4,5]
def zu:List Int:=[1,2,3,4,5]
def vF(l:ab)(E tl bO bW:Int):Pm (Option br×Int):=
 (fv (am l (az bO).idx 0) 0 bW).bind λ ok=>if ok then k9.bind λ a=>(fv tl bO (dJ (eo (az bO) bW))).bind λ _=>(fZ l E).bind λ _=>.pure (some ⟨0,true,0,a,[]⟩,bW) else .pure (none,bW)
def xU(l:ab)(E tl v bW:Int):Pm (Option br×Int):=(kT l E 0 tl).bind λ p=>(xk l (az p.1).idx v zu).bind λ o=>match o with
 |some a=>if bW=0 then(fZ l E).bind λ _=>.pure (some ⟨0,true,0,a,[]⟩,bW) else(m8 l bW).bind λ _=>(fZ l E).bind λ _=>.pure (some ⟨0,true,0,a,[]⟩,bW)
 |none=>(cy (am l (az p.1).idx 0)).bind λ next=>if next=0 then(if bW=0 then(qk l).bind λ t=>if t.2.2 then(ud l t.1 v).bind λ _=>vF l E tl p.1 t.1 else(fZ l E).bind λ _=>.pure (some ⟨0,false,8,t.2.1,[]⟩,bW) else vF l E tl p.1 bW)
  else(fv tl p.1 (dJ (eo (az p.1) next))).bind λ _=>.pure (none,bW)
def CC(l:ab)(E tl v:Int):Nat->Int->Pm br
 |0,_=>.pure ⟨0,false,0,0,[]⟩
 |k+1,bW=>(xU l E tl v bW).bind λ r=>match r.1 with
  |some o=>.pure o
  |none=>CC l E tl v k r.2
def Ag(l:ab)(E tl v:Int):Pm br:=λ log s=>CC l E tl v (log.length+1-s.made) 0 log s
def xj(l:ab)(n:Int):List Int->Pm (Option br)
 |[]=>.pure none
 |i::is=>(cy (am l n i)).bind λ x=>k9.bind λ a=>if x=0 then .pure (some ⟨0,false,0,a,[]⟩) else if x=1 then xj l n is else(fv (am l n i) x 1).bind λ ok=>if ok then k9.bind λ a=>.pure (some ⟨Am (x-2),true,0,a,[]⟩) else xj l n is
def vE(l:ab)(E G bO next:Int):Pm (Option br):=
 (fv G bO (dJ (eo (az bO) next))).bind λ ok=>if ok then(fZ l E).bind λ _=>(kg l (az bO).idx).bind λ _=>.pure none else .pure none
def xT(l:ab)(E G tl:Int):Pm (Option br):=(kT l E 0 G).bind λ p=>(xj l (az p.1).idx zu).bind λ o=>match o with
 |some o=>(fZ l E).bind λ _=>.pure (some o)
 |none=>(cy (am l (az p.1).idx 0)).bind λ next=>if next=0 then k9.bind λ a=>(fZ l E).bind λ _=>.pure (some ⟨0,false,0,a,[]⟩)
  else(cy tl).bind λ en=>if(az en).idx=(az p.1).idx then(fv tl en (dJ (eo (az en) next))).bind λ _=>vE l E G p.1 next else vE l E G p.1 next
def Cs(l:ab)(E G tl:Int):Nat->Pm br
 |0=>.pure ⟨0,false,0,0,[]⟩
 |k+1=>(xT l E G tl).bind λ r=>match r with
  |some o=>.pure o
  |none=>Cs l E G tl k
def zz(l:ab)(E G tl:Int):Pm br:=λ log s=>Cs l E G tl (log.length+1-s.made) log s
def dC(l:ab)(E:Int)(gone:List (Int×Int))(op:cq)(log:List aB):aS×br×Bool:=
 if gV l op.obj<0 then(eF,⟨0,false,1,-1,gone⟩,true)
 else if op.kind=6 then ot (Ag l E (mU l op.obj) op.a log ⟨0,gone,0,0,0⟩)
 else if op.kind=7 then ot (zz l E (gV l op.obj) (mU l op.obj) log ⟨0,gone,0,0,0⟩)
 else(eF,⟨0,false,1,-1,gone⟩,true)
def jQ(l:ab)(a:Nat)(k:Nat):List aS:=(List.range k).map λ(i:Nat)=>⟨2,am l ((a:Int)+i) 7,0,if(a:Int)+i=l.nodes then 0 else(a:Int)+i+1⟩
def r8(l:ab)(a:Nat):List aS:=jQ l a (l.nodes.toNat+1-a)++[⟨2,l.free,0,a⟩]
def kv(l:ab)(c node:Int):List aS:=if gV l c<0\/am l node 0<0 then[] else
 ((List.range 6).map λ(i:Nat)=>(⟨2,am l node i,0,0⟩:aS))++[⟨2,gV l c,0,dJ ⟨node,false,0⟩⟩,⟨2,mU l c,0,dJ ⟨node,false,0⟩⟩]
def cW(l:ab)(m:List Int)(c:Int):List Int:=if gV l c<0 then[] else fL (λ n=>aG m (am l n 0)) l.nodes (l.nodes.toNat+1) [] (az (aG m (gV l c))).idx
def fD(l:ab)(m:List Int)(n:Int):List Int:=zu.map λ i=>aG m (am l n i)
def hc(l:ab)(m:List Int)(c:Int):List Int:=(((cW l m c).flatMap (fD l m)).filter λ v=>decide (1<v)).map λ v=>v-2
end Go.Proofs.YtcnefjfboagbmaaGreat.Sg
namespace Go.Proofs.YtcnefjfboagbmaaGreat
set_option maxRecDepth 100000
structure kO where
 aA:Int
 nodes:Int
 buckets:Int
 bm:Int
 tasks:Int
 cells:Int
 maps:Int
 bo:Int
 aL:Int
deriving DecidableEq
def l9(n lo Z:Int):Bool:=decide (lo<=n)&&decide (n<=Z)
def tn(b:Int):Bool:=decide (b=1)||decide (b=2)||decide (b=4)||decide (b=8)||decide (b=16)||decide (b=32)||decide (b=64)
def wY(c:kO):Bool:=tn c.buckets&&l9 c.aA 1 8&&l9 c.bm 1 8&&l9 c.tasks 1 64&&l9 c.cells 0 16&&l9 c.maps 0 8&&l9 c.bo 0 8&&l9 c.aL 0 8
def lJ(t:Int):Nat:=if t<=4 then 1 else if t<=8 then 2 else if t<=16 then 3 else if t<=32 then 4 else 5
def qf(n:Nat):Int:=4*2^n-4
def cO(c:kO):ab:=
 let owner:=4+c.aA
 let lI:=owner+c.aA
 let pL:=lI+3*c.aA
 let ring:=pL+3*c.aA
 let task:=ring+c.aA*qf (lJ c.tasks)
 let cell:=task+4*c.tasks
 let map:=cell+c.cells
 let stack:=map+c.maps*(c.buckets+2)
 let chan:=stack+c.bo*(c.bm+1)
 let node:=chan+2*c.aL
 ⟨c.aA,c.nodes,c.buckets,c.bm,c.tasks,c.cells,c.maps,c.bo,c.aL,0,1,2,3,4,owner,lI,pL,ring,task,cell,map,stack,chan,node,node+8*c.nodes⟩
def sy(c:kO):Bool:=wY c&&l9 c.nodes (c.maps+c.aL) 1000
def sA(l:ab):kO:=⟨l.aA,l.nodes,l.buckets,l.bm,l.tasks,l.cells,l.maps,l.bo,l.aL⟩
def Aa(l:ab):Bool:=sy (sA l)&&decide (cO (sA l)=l)
structure vm(c:kO):Prop where
 b:tn c.buckets=true
 s:1<=c.aA/\c.aA<=8
 sl:1<=c.bm/\c.bm<=8
 t:1<=c.tasks/\c.tasks<=64
 ce:0<=c.cells/\c.cells<=16
 m:0<=c.maps/\c.maps<=8
 st:0<=c.bo/\c.bo<=8
 ch:0<=c.aL/\c.aL<=8
 n:c.maps+c.aL<=c.nodes/\c.nodes<=1000
theorem MQ{n lo Z:Int}:l9 n lo Z=true↔lo<=n/\n<=Z:=by simp[l9]
theorem AN{c:kO}(h:sy c=true):vm c:=by simp only[sy,wY,Bool.and_eq_true,MQ] at h;obtain⟨⟨⟨⟨⟨⟨⟨⟨u,D⟩,K⟩,h4⟩,h5⟩,h6⟩,h7⟩,h8⟩,h9⟩:=h;exact⟨u,D,K,h4,h5,h6,h7,h8,h9⟩
theorem uC{b:Int}(h:tn b=true):1<=b/\b<=64:=by simp only[tn,Bool.or_eq_true,decide_eq_true_eq] at h;omega
theorem Yf(t:Int):1<=lJ t/\lJ t<=5:=by
 unfold lJ
 repeat' (first|split|exact⟨by omega,by omega⟩)
theorem Jj(t:Int):4<=qf (lJ t)/\qf (lJ t)<=124:=by
 unfold lJ
 repeat' (first|split|exact⟨by decide,by decide⟩)
theorem Ii{c:kO}(h:vm c):4<=(cO c).map/\(cO c).map<=1400/\(cO c).map<=(cO c).stack/\(cO c).stack<=2000/\(cO c).stack<=(cO c).chan/\(cO c).chan<=2100/\(cO c).node=(cO c).chan+2*c.aL/\(cO c).size=(cO c).node+8*c.nodes/\(cO c).lI=4+2*c.aA/\(cO c).stack=(cO c).map+c.maps*(c.buckets+2)/\(cO c).chan=(cO c).stack+c.bo*(c.bm+1)/\4+8*c.aA<=(cO c).map:=by obtain⟨R,⟨a1,a2⟩,⟨a3,a4⟩,⟨a5,a6⟩,⟨a7,a8⟩,⟨a9,FV⟩,⟨FW,FX⟩,⟨FY,FZ⟩,⟨F0,F3⟩⟩:=h;have h0:=uC R;have u:=Jj c.tasks;have D:c.aA*qf (lJ c.tasks)<=8*124:=Int.mul_le_mul (by omega) (by omega) (by omega) (by omega);have K:0<=c.aA*qf (lJ c.tasks):=Int.mul_nonneg (by omega) (by omega);have h4:c.maps*(c.buckets+2)<=8*66:=Int.mul_le_mul (by omega) (by omega) (by omega) (by omega);have h5:0<=c.maps*(c.buckets+2):=Int.mul_nonneg (by omega) (by omega);have h6:c.bo*(c.bm+1)<=8*9:=Int.mul_le_mul (by omega) (by omega) (by omega) (by omega);have h7:0<=c.bo*(c.bm+1):=Int.mul_nonneg (by omega) (by omega);refine⟨?_,?_,?_,?_,?_,?_,?_,?_,?_,?_,?_,?_⟩<;>simp only[cO]<;>omega
theorem Ih{c:kO}(h:vm c):bQ (cO c):=by have u:=Ii h;obtain⟨R,⟨a1,a2⟩,⟨a3,a4⟩,⟨a5,a6⟩,⟨a7,a8⟩,⟨a9,FV⟩,⟨FW,FX⟩,⟨FY,FZ⟩,⟨F0,F3⟩⟩:=h;have e1:(cO c).aA=c.aA:=rfl;have e2:(cO c).nodes=c.nodes:=rfl;have e3:(cO c).bm=c.bm:=rfl;have e4:(cO c).bo=c.bo:=rfl;have e5:(cO c).aL=c.aL:=rfl;have e6:(cO c).era=2:=rfl;have e7:(cO c).free=3:=rfl;refine⟨?_,?_,?_,?_,?_,?_,?_,?_,?_,?_,?_,?_,?_⟩<;>(try simp only[kM])<;>omega
def q7(l:ab)(E:Int)(gone:List (Int×Int))(op:cq)(log:List aB):aS×br×Bool:=
 if 1<=op.kind/\op.kind<=3 then qM l E gone op log
 else if op.kind=4\/op.kind=5 then Em.dC l E gone op log
 else if op.kind=7\/(op.kind=6/\0<=op.a/\op.a<4294967296) then Sg.dC l E gone op log
 else(eF,⟨0,false,1,-1,gone⟩,true)
def lp(l:ab)(a:Nat):List aS:=if l.nodes<a then[⟨2,l.free,0,0⟩] else r8 l a
def eX(l:ab):List aS:=(List.range l.maps.toNat).flatMap (λ(m:Nat)=>fE l m ((m:Int)+1))++(List.range l.aL.toNat).flatMap (λ(c:Nat)=>Sg.kv l c (l.maps+c+1))++lp l (l.maps+l.aL+1).toNat++[⟨2,l.era,0,1⟩]
def eT(l:ab):List Int:=(jX (List.replicate l.size.toNat 0) (List.replicate l.size.toNat 0) [] (eX l)).1
def p6(l:ab)(m:List Int)(o:Int):List Int:=if(az (aG m (fA l o 0))).idx=0 then[] else(az (aG m (fA l o 0))).idx::cW l m (am l (az (aG m (fA l o 0))).idx 0)
def mR(l:ab)(m:List Int):List Int:=(List.range l.maps.toNat).flatMap (λ(o:Nat)=>p6 l m o)++(List.range l.bo.toNat).flatMap (λ(o:Nat)=>Em.cW l m o)++(List.range l.aL.toNat).flatMap (λ(o:Nat)=>Sg.cW l m o)
abbrev xI:=Int×List Int×List Int
def il(aE:List (Int×Int)):List (Int×Int):=(aE.filter λ r=>decide (r.1%2=1)).map λ r=>(uF r.1,r.2)
def oH(l:ab)(m:List Int)(o:Int):bv:=if fA l o 0<0\/(m.length:Int)<=fA l o 0 then[] else kw (il (hc l m (am l (az (aG m (fA l o 0))).idx 0)))
def lh(l:ab)(m:List Int)(kind o:Int):xI:=
 if kind=1 then(1,(oH l m o).map (·.1),(oH l m o).map (·.2))
 else if kind=2 then(2,[],Em.hc l m o)
 else if kind=3 then(3,[],Sg.hc l m o)
 else(kind,[],[])
def tw(l:ab)(aA:Nat):eu:=⟨eT l,0,List.replicate aA pi,[],0,false,false⟩
def nZ(l:ab)(t:eu)(aQ:Nat)(x:d7):eu:=
 let r:=q7 l aQ x.gone x.op x.log
 if r.2.2 then o7 t aQ x r.2.1
 else if mI t.m.length r.1=0 then⟨(kj t.m r.1).1,t.step+1,t.aA.set aQ {x with log:=x.log++[(kj t.m r.1).2],steps:=x.steps++[t.step]},t.calls,t.full,t.cU||wh l t.m r.1,t.bad⟩
 else{t with aA:=t.aA.set aQ {x with op:=mO},cU:=t.cU||wh l t.m r.1,bad:=true}
def mS(l:ab)(want:List (List cq))(t:eu)(aQ:Nat):eu:=
 match t.aA[aQ]?,want[aQ]? with
 |some x,some ws=>if x.op.kind=0 then match ws[x.next]? with
  |none=>t
  |some op=>nZ l t aQ ⟨op,[],[],x.next+1,x.gone⟩
  else nZ l t aQ x
 |_,_=>t
def uN(l:ab)(want:List (List cq)):eu->List Nat->eu
 |t,[]=>t
 |t,w::ws=>uN l want (mS l want t w) ws
def uK(l:ab)(want:List (List cq))(aQ:Nat):Nat->eu->eu
 |0,t=>t
 |k+1,t=>if t.bad then t else uK l want aQ k (mS l want t aQ)
def Cj(l:ab)(want:List (List cq)):Nat->Nat->eu->eu
 |_,0,t=>t
 |aQ,k+1,t=>let ki:=uK l want aQ 1500 t;Cj l want (aQ+1) k {ki with bad:=ki.bad||!Hm ki want aQ}
def EO(l:ab)(want:List (List cq))(turns:List Int):eu:=Cj l want 0 want.length (uN l want (tw l want.length) (turns.map λ x=>(x%(want.length:Int)).toNat))
namespace Em
theorem Tv(l:ab)(bI n:Int):Hg (vg l bI n) (λ _=>True):=bD (jN _) λ _ _=>bD (o9 _ _) λ _ _=>lX _ _ _
theorem Tp(c bW no:Int):Hg (wZ c bW no) (λ _=>True):=bD (jN _) λ _ _=>eI (λ _=>bD (jN _) λ _ _=>eI (λ _=>bD (lX _ _ _) λ _ _=>dG trivial) λ _=>dG trivial) λ _=>dG trivial
theorem DN(l:ab)(bI c v n:Int):∀k,Hg (tF l bI c v n k) (λ _=>True)
 |0=>dG trivial
 |k+1=>bD (Tv _ _ _) λ _ _=>eI (λ _=>bD mL λ _ _=>dG trivial) λ _=>bD (jN _) λ _ _=>eI (λ _=>bD (lX _ _ _) λ _ _=>eI (λ _=>bD mL λ _ _=>bD (Tp _ _ _) λ _ _=>eI (λ _=>bD (o9 _ _) λ _ _=>bD (DM _ _) λ _ _=>dG trivial) λ _=>DN l bI c v n k) λ _=>DN l bI c v n k) λ _=>DN l bI c v n k
theorem Tr(l:ab)(bI c v:Int):Hg (tG l bI c v) (λ _=>True):=bD (HB l) λ _ _=>eI (λ _=>bD (o9 _ _) λ _ _=>λ log s=>DN l bI c v _ _ log s) λ _=>dG trivial
theorem Tu(l:ab)(E bI:Int):Hg (vf l E bI) (λ t=>t.1<9223372036854775808):=bD (Bt _ _ _ _) λ _ _=>eI (λ _=>dG (by show(0:Int)<_;omega)) λ _=>bD (jN _) λ _ _=>bD (lX _ _ _) λ _ _=>eI (λ _=>bD mL λ _ _=>dG (Ch _)) λ _=>bD mL λ _ _=>dG (by show(0:Int)<_;omega)
theorem Hy(l:ab)(E bI c:Int):∀k,Hg (uP l E bI c k) (λ _=>True)
 |0=>dG trivial
 |k+1=>bD (Tu _ _ _) λ _ ht=>eI (λ _=>bD (pS _ _) λ _ _=>dG trivial) λ _=>eI (λ _=>bD (jN _) λ _ _=>bD (pS _ _) λ _ _=>bD (DO l _ ht) λ _ _=>dG trivial) λ _=>bD (jN _) λ _ _=>eI (λ _=>bD (lX _ _ _) λ _ _=>eI (λ _=>bD mL λ _ _=>bD (pS _ _) λ _ _=>dG trivial) λ _=>Hy l E bI c k) λ _=>Hy l E bI c k
theorem Tq(l:ab)(E bI c:Int):Hg (xn l E bI c) (λ _=>True):=λ log s=>Hy l E bI c _ log s
theorem Ce{l:ab}{E:Int}{gone:List (Int×Int)}{op:cq}{log:List aB}(G:(dC l E gone op log).2.2=true)(hg:km gone):km (dC l E gone op log).2.1.gone/\(dC l E gone op log).2.1.gone.length<=gone.length+log.length:=by
 unfold dC at G⊢;split at G
 ·rw[if_pos ‹_›];exact⟨hg,Nat.le_add_right _ _⟩
 ·rw[if_neg ‹_›];split at G
  ·rw[if_pos ‹_›];exact vU (Tr _ _ _ _) G hg
  ·rw[if_neg ‹_›];split at G
   ·rw[if_pos ‹_›];exact vU (Tq _ _ _ _) G hg
   ·rw[if_neg ‹_›];exact⟨hg,Nat.le_add_right _ _⟩
end Em
namespace Sg
theorem Hx(l:ab)(n v:Int):∀is,Hg (xk l n v is) (λ _=>True)
 |[]=>dG trivial
 |_::is=>bD (jN _) λ _ _=>eI (λ _=>bD (lX _ _ _) λ _ _=>eI (λ _=>bD mL λ _ _=>dG trivial) λ _=>Hx l n v is) λ _=>Hx l n v is
theorem LY(l:ab)(n:Int):∀is,Hg (rC l n is) (λ _=>True)
 |[]=>dG trivial
 |_::is=>bD (o9 _ _) λ _ _=>LY l n is
theorem To(l:ab)(n v:Int):Hg (ud l n v) (λ _=>True):=bD (o9 _ _) λ _ _=>bD (o9 _ _) λ _ _=>LY l n _
theorem LU(l:ab)(E tl bO bW:Int):Hg (vF l E tl bO bW) (λ _=>True):=bD (lX _ _ _) λ _ _=>eI (λ _=>bD mL λ _ _=>bD (lX _ _ _) λ _ _=>bD (pS _ _) λ _ _=>dG trivial) λ _=>dG trivial
theorem Tn(l:ab)(E tl v bW:Int):Hg (xU l E tl v bW) (λ _=>True):=bD (Bt _ _ _ _) λ _ _=>bD (Hx _ _ _ _) λ o _=>by
 cases o with
 |some a=>exact eI (λ _=>bD (pS _ _) λ _ _=>dG trivial) λ _=>bD (DM _ _) λ _ _=>bD (pS _ _) λ _ _=>dG trivial
 |none=>exact bD (jN _) λ _ _=>eI (λ _=>eI (λ _=>bD (HB l) λ _ _=>eI (λ _=>bD (To _ _ _) λ _ _=>LU _ _ _ _ _) λ _=>bD (pS _ _) λ _ _=>dG trivial) λ _=>LU _ _ _ _ _) λ _=>bD (lX _ _ _) λ _ _=>dG trivial
theorem L6(l:ab)(E tl v:Int):∀(k:Nat)(bW:Int),Hg (CC l E tl v k bW) (λ _=>True)
 |0,_=>dG trivial
 |k+1,bW=>bD (Tn _ _ _ _ _) λ r _=>by
  obtain⟨o,m⟩:=r;cases o with
  |some o=>exact dG trivial
  |none=>exact L6 l E tl v k m
theorem Tt(l:ab)(E tl v:Int):Hg (Ag l E tl v) (λ _=>True):=λ log s=>L6 l E tl v _ 0 log s
theorem Hw(l:ab)(n:Int):∀is,Hg (xj l n is) (λ _=>True)
 |[]=>dG trivial
 |_::is=>bD (jN _) λ _ _=>bD mL λ _ _=>eI (λ _=>dG trivial) λ _=>eI (λ _=>Hw l n is) λ _=>bD (lX _ _ _) λ _ _=>eI (λ _=>bD mL λ _ _=>dG trivial) λ _=>Hw l n is
theorem LS(l:ab)(E G bO next:Int):Hg (vE l E G bO next) (λ _=>True):=bD (lX _ _ _) λ _ _=>eI (λ _=>bD (pS _ _) λ _ _=>bD (DO l _ (Ch _)) λ _ _=>dG trivial) λ _=>dG trivial
theorem Tm(l:ab)(E G tl:Int):Hg (xT l E G tl) (λ _=>True):=bD (Bt _ _ _ _) λ _ _=>bD (Hw _ _ _) λ o _=>by
 cases o with
 |some o=>exact bD (pS _ _) λ _ _=>dG trivial
 |none=>exact bD (jN _) λ _ _=>eI (λ _=>bD mL λ _ _=>bD (pS _ _) λ _ _=>dG trivial) λ _=>bD (jN _) λ _ _=>eI (λ _=>bD (lX _ _ _) λ _ _=>LS _ _ _ _ _) λ _=>LS _ _ _ _ _
theorem L5(l:ab)(E G tl:Int):∀k,Hg (Cs l E G tl k) (λ _=>True)
 |0=>dG trivial
 |k+1=>bD (Tm _ _ _ _) λ r _=>by
  cases r with
  |some o=>exact dG trivial
  |none=>exact L5 l E G tl k
theorem Ts(l:ab)(E G tl:Int):Hg (zz l E G tl) (λ _=>True):=λ log s=>L5 l E G tl _ log s
theorem Ce{l:ab}{E:Int}{gone:List (Int×Int)}{op:cq}{log:List aB}(G:(dC l E gone op log).2.2=true)(hg:km gone):km (dC l E gone op log).2.1.gone/\(dC l E gone op log).2.1.gone.length<=gone.length+log.length:=by
 unfold dC at G⊢;split at G
 ·rw[if_pos ‹_›];exact⟨hg,Nat.le_add_right _ _⟩
 ·rw[if_neg ‹_›];split at G
  ·rw[if_pos ‹_›];exact vU (Tt _ _ _ _) G hg
  ·rw[if_neg ‹_›];split at G
   ·rw[if_pos ‹_›];exact vU (Ts _ _ _ _) G hg
   ·rw[if_neg ‹_›];exact⟨hg,Nat.le_add_right _ _⟩
end Sg
theorem WK{l:ab}(hS:0<=l.aA){E:Int}{gone:List (Int×Int)}{op:cq}{log:List aB}(G:(q7 l E gone op log).2.2=true)(hg:km gone):km (q7 l E gone op log).2.1.gone/\(q7 l E gone op log).2.1.gone.length<=gone.length+log.length:=by
 unfold q7 at G⊢;split at G
 ·rw[if_pos ‹_›];exact Ug hS G hg
 ·rw[if_neg ‹_›];split at G
  ·rw[if_pos ‹_›];exact Em.Ce G hg
  ·rw[if_neg ‹_›];split at G
   ·rw[if_pos ‹_›];exact Sg.Ce G hg
   ·rw[if_neg ‹_›];exact⟨hg,Nat.le_add_right _ _⟩
end Go.Proofs.YtcnefjfboagbmaaGreat
