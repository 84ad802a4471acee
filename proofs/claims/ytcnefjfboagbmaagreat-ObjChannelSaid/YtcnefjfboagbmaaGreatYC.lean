/- A slice literal that becomes a row over a variable of ours; nodes of nothing else. -/
import Derived.Test.YtcnefjfboagbmaaGreatXF
import Derived.Test.YtcnefjfboagbmaaGreatWA
import Derived.Test.YtcnefjfboagbmaaGreatXG
import Derived.Test.YtcnefjfboagbmaaGreatYB
import Derived.Test.YtcnefjfboagbmaaGreatWE
namespace Go.Proofs.YtcnefjfboagbmaaGreat
open Go.Proofs.Tryz
open Go.RowKit
section
variable{P:Program}{ap:Nat->Option TI}{Γ:bN}{S:Nat->Option K}{B:Nat->Option (List K)}{o:Oper}
def OO(ap:Nat->Option TI)(t:TypeId)(len:Nat)(ds:List (Nat×K)):Option (List K):=match ap t with
 |some ⟨.slice el,_,_,_⟩=>match ap el with
  |some j=>bif kE (ki j.zero)&&Nat.beq (ki j.zero).cells.length j.sz&&Nat.ble (len*j.sz) 1000000&&Nat.beq j.sz 1 then(match qC j.zero (λ c=>mE c λ zc=>FF zc len λ z=>w4 (λ i=>some (i*j.sz,j.sz)) z ds) with
   |some cs=>bif cs.all K.leaf then some cs else none
   |none=>none) else none
  |none=>none
 |_=>none
theorem WJ(hT:di P ap)(nm:Nat){t:TypeId}{len:Nat}{gI:Array (Nat×Operand)}{cs:List K}(ho:o.op=.buildSlice t len gI)(hp:tV S gI.toList (OO ap t len)=some cs):dN P o S B (.arr nm 0 len len) (some (nm,cs)):=by
 intro a e hs ZZ;obtain⟨ds,A,F,D⟩:=Gp (e:=e) (a:=a) gI.toList _ cs (λ x T=>hs.1 x (by rw[ho];simp only[Op.operands];simpa using T)) hp;have xv:(gI.map λ(i,x)=>(i,a.eval x)).toList=gI.toList.map λ p=>(p.1,a.eval p.2):=by simp
 unfold OO at D;split at D
 ·rename_i el z1 z2 z3 ht;split at D
  ·rename_i j hj;cases Z:(kE (ki j.zero)&&Nat.beq (ki j.zero).cells.length j.sz&&Nat.ble (len*j.sz) 1000000&&Nat.beq j.sz 1)
   ·rw[Z] at D;cases D
   rw[Z] at D;simp only[cond_true] at D;simp only[Bool.and_eq_true] at Z;obtain⟨⟨⟨pk,GN⟩,GO⟩,Kj⟩:=Z;have yT:=Nat.eq_of_beq_eq_true GN;have YE:=Nat.le_of_ble_eq_true GO;have agP:=Nat.eq_of_beq_eq_true Kj;have GP:0<j.sz:=by omega
   split at D
   ·rename_i lP sV;rw[wR,uZ,NU] at sV;cases qU:lP.all K.leaf
    ·rw[qU] at D;cases D
    rw[qU] at D;simp only[cond_true,Option.some.injEq] at D;subst D;obtain⟨d0,ec,J⟩:=hT.desc t _ ht;cases d0<;>simp only[jI,TK.slice.injEq,reduceCtorEq] at J
    rw[J] at ec;have vQ:=uD (wQ e j.zero) pk;have gX:j.zero.cells.size=j.sz:=by have:=vQ.1;simp at this;omega
    have Lo:DReps e ((Array.range (len*j.sz)).map (λ i=>j.zero.cells[i%j.zero.cells.size]!)).toList (wt (ki j.zero).cells len):=by
     refine⟨by simp[NW,yT],λ i v d hv qO=>?_⟩;have dT:i<len*j.sz:=by have:=(List.getElem?_eq_some_iff.1 hv).1;simpa using this
     rw[NV _ _ _ (by rw[yT];exact dT),yT] at qO;simp[dT] at hv;rw[gX] at hv;have hm:i%j.sz<j.sz:=Nat.mod_lt _ GP;have:j.zero.cells.toList[i%j.sz]?=some v:=by rw[<-hv];simp[gX,hm]
     exact vQ.2 _ v d this qO
    obtain⟨nV,O,h4⟩:=Dw (e:=e) _ _ ds _ _ lP Lo A F sV;unfold Oper.wp;have e1:(execOp a.eval o).run P e.w=.ok (.value (.slice (some ⟨e.w.heap.size,0,none⟩) len len)) (e.w.alloc (.cells nV.toList.toArray el)):=by
     obtain⟨dst,op,type,pos,after,guard⟩:=o;simp only at ho;subst ho;have zu:(zeroValue el).run P e.w=.ok j.zero e.w:=Az hT hj e.w;have eo:¬(len*j.sz>2^24):=by omega
     simp only[execOp,Instr.buildSlice,Sem.run_bind,run_underlying ec,Result.andThen_ok,run_sizeOf hT hj];rw[if_neg eo]
     by_cases h0:len*j.sz=0
     ·have BM:(Array.range (len*j.sz)).map (λ i=>j.zero.cells[i%j.zero.cells.size]!)=(Array.range (len*j.sz)).map (λ i=>(#[]:Array Value)[i%(#[]:Array Value).size]!):=by simp[h0]
      rw[BM] at O;simp only[h0,if_true,Sem.run_bind,Sem.run_pure,Result.andThen_ok,xv] at O⊢;rw[O];simp[newRow]
     ·simp only[h0,if_false,Sem.run_bind,zu,Sem.run_pure,Result.andThen_ok,xv,O];simp[newRow]
    rw[e1];have hg:=aC.tM e (.cells nV.toList.toArray el) (some 0);have iC:(e.alloc (.cells nV.toList.toArray el) (some 0)).bx nm=none:=by rw[hg.bx];exact ZZ _ rfl
    refine⟨_,(e.alloc (.cells nV.toList.toArray el) (some 0)).iz nm e.w.heap.size,rfl,rfl,_,e.w.heap.size,hg,Nat.le_refl _,by simp[aC.alloc],by simp[aC.alloc],rfl,⟨e.w.heap.size,nV.toList,el,by simp[aC.iz],heap_alloc_new e.w _,?_⟩,.arr (by simp[aC.iz])⟩;exact(h4.next hg.ends).next (tE iC)
   ·cases D
  ·cases D
 ·cases D
end
set_option maxRecDepth 100000
abbrev jk(l:List Int):List K:=l.map E
theorem aa6(l:List Int):fy (jk l):=by
 intro B au;induction l with
 |nil=>rfl
 |cons a l ih=>exact ih
theorem Hy{l:List Int}{i:Int}(h0:0<=i)(A:i<l.length):(jk l)[i.toNat]?=some (E (dp l i)):=by
 have:i.toNat<l.length:=by omega
 simp[jk,dp,this]
theorem Lt(l:List Int)(i:Nat)(v:Int):(jk l).set i (E v)=jk (l.set i v):=by simp[jk]
theorem aa7(n:Nat):List.replicate n (pV (.int .i64 0))=jk (List.replicate n 0):=by simp[jk];exact .inr rfl
def ie(N:Nat)(l:List Int):List Int:=(List.range (N+1)).map λ(i:Nat)=>((l.count (i:Int):Nat):Int)
theorem Af(N:Nat)(l:List Int):(ie N l).length=N+1:=by simp[ie]
theorem HS(N:Nat)(l:List Int)(n:Int)(h0:0<=n)(A:n<=N):dp (ie N l) n=(l.count n:Nat):=by
 have:n.toNat<N+1:=by omega
 simp[dp,ie,this,show((n.toNat:Nat):Int)=n by omega]
theorem LY(N:Nat)(l:List Int)(n:Int)(h0:0<=n):(ie N l).set n.toNat ((l.count n:Nat)+1)=ie N (l++[n]):=by
 apply List.ext_getElem
 ·simp[ie]
 ·intro j A F;rw[List.getElem_set];split
  ·rename_i hj;subst hj;simp[ie,List.count_append,show((n.toNat:Nat):Int)=n by omega]
  ·rename_i hj;have:¬n=(j:Int):=by omega
   simp[ie,List.count_append,List.count_cons,this]
theorem abO(N:Nat):List.replicate (N+1) 0=ie N []:=by
 apply List.ext_getElem
 ·simp[ie]
 ·intro j A F;simp[ie]
theorem aaW:∀(m:Nat)(q:Pl),[pI 1][m]?=some q->[pI 1,pI 2,pI 4][(0:Int).toNat*1+m]?=some q:=by
 intro m q h;cases m with
 |zero=>exact h
 |succ m=>cases h
theorem afT:bc prog 20 [E 3,dK .u8 0] (dP Sg.ct):=by
 have oQ:=SS Sg.F7;unfold EZ at oQ;rw[if_pos Sg.OW,Sg.OX] at oQ;dsimp only at oQ;refine sP func20 ntmps20 λ w cl=>?_
 refine t8 ?_;rw[show((0:Int)%3)=0 from rfl];refine ai [pI 1] aaW ?_;refine gA oQ ?_;refine ez ?_
 rfl
def lJ(k:Nat):List bl:=(List.range k).map λ(i:Nat)=>⟨6,0,i,0⟩
def jF(k:Nat):List bl:=List.replicate k ⟨7,0,0,0⟩
theorem aeN(i:Nat):lJ (i+1)=lJ i++[⟨6,0,i,0⟩]:=by simp[lJ,List.range_succ]
theorem TN(i:Nat):jF (i+1)=jF i++[⟨7,0,0,0⟩]:=by simp[jF,List.replicate_succ']
theorem Mn(l:List bl)(o:bl):mx l++Cn o=mx (l++[o]):=by simp[mx]
abbrev Ap(n:Nat)(l:List bl):Pl:=.sl false n (mx l)
theorem ade(n:Nat):Ap n (lJ n)=wa (lJ n):=by unfold Ap wa;rw[show(lJ n).length=n by simp[lJ]]
theorem Ti(n:Nat):Ap n (jF n)=wa (jF n):=by unfold Ap wa;rw[show(jF n).length=n by simp[jF]]
def pf(a b c:Nat):List (List bl):=[lJ a,jF b,jF c]
theorem OV{a b c:Nat}(ha:a<=12)(Z:b<=6)(L:c<=6):Sg.yl (pf a b c):=by
 have hr:∀{n:Nat}{o:bl},o∈jF n->o=⟨7,0,0,0⟩:=λ h=>(List.mem_replicate.1 h).2
 have hs:∀{o:bl},o∈lJ a->∃i:Nat,i<a/\o=⟨6,0,i,0⟩:=λ h=>by
  obtain⟨i,A,F⟩:=List.mem_map.1 h;exact⟨i,List.mem_range.1 A,F.symm⟩
 have hw:∀ws∈pf a b c,ws=lJ a\/ws=jF b\/ws=jF c:=λ ws h=>by simpa[pf] using h
 refine⟨rfl,λ ws jj o ho=>?_,λ ws jj=>?_,?_,λ ws jj k o ho=>?_,λ w ws Ll jj o ho=>?_⟩
 ·rcases hw ws jj with rfl|rfl|rfl
  ·obtain⟨i,A,rfl⟩:=hs ho;exact⟨.inl rfl,rfl,by show(0:Int)<=i;omega,by show(i:Int)<_;omega⟩
  ·rw[hr ho];exact⟨.inr rfl,rfl,by show(0:Int)<=0;omega,by show(0:Int)<_;omega⟩
  ·rw[hr ho];exact⟨.inr rfl,rfl,by show(0:Int)<=0;omega,by show(0:Int)<_;omega⟩
 ·rcases hw ws jj with rfl|rfl|rfl
  ·simp[lJ];omega
  ·simp[jF];omega
  ·simp[jF];omega
 ·simp[pf,lJ,jF];omega
 ·simp only[pf,List.getElem?_cons_zero,Option.some.injEq] at jj;subst jj;simp only[lJ,List.getElem?_map,Option.map_eq_some_iff] at ho;obtain⟨i,A,rfl⟩:=ho;have J:=(List.getElem?_eq_some_iff.1 A).2;rw[List.getElem_range] at J;exact⟨rfl,by show(i:Int)=k;omega⟩
 ·have:ws=jF b\/ws=jF c:=by
   match w,Ll with
   |1,_=>simp[pf] at jj;exact .inl jj.symm
   |2,_=>simp[pf] at jj;exact .inr jj.symm
   |w+3,_=>simp[pf] at jj
  rcases this with rfl|rfl<;>rw[hr ho]
theorem OU:OL Sg.ct:=by have h:=Sg.WT;rw[<-Sg.OX];exact⟨R3 h,R0 h,(EH h.b).1,⟨by show(0:Int)<=30;omega,by show(30:Int)<=1000;omega⟩,h.m,h.st,h.ch⟩
theorem WU:I5 Sg.ct.size.toNat (ol Sg.ct):=by
 show∀a∈ol Sg.ct,a.kind=2/\a.dg=0/\0<=a.cell/\a.cell<(Sg.ct.size.toNat:Int)
 decide+kernel
theorem WR:CY Sg.ct:=by have h:=OU;exact⟨h.ok,h.m,h.b,h.maps,h.bo,by show(30:Int)<=20000;omega,by decide+kernel,WU⟩
section
variable{Γ:bN}{M bb:St}
theorem rE(Z:wz M bb bb.b:=by(repeat(first|exact trivial|refine⟨⟨rfl,rfl⟩,?_⟩|refine⟨⟨rfl,aa6 _ _ _⟩,?_⟩|refine⟨⟨rfl,jZ _ _ _⟩,?_⟩|refine⟨⟨rfl,jW _ _ _⟩,?_⟩|refine⟨⟨rfl,j8 _ _ _⟩,?_⟩|refine⟨⟨rfl,jX _ _ _⟩,?_⟩|refine⟨⟨rfl,jQ _ _ _⟩,?_⟩)))(hs:wG M bb bb.s:=by(repeat(first|exact trivial|refine⟨⟨rfl,rfl⟩,?_⟩)))(hg:wE M bb.g:=by(repeat(first|exact trivial|refine⟨rfl,?_⟩)))(J:wF bb Γ.kb:=by(repeat(first|exact trivial|refine⟨rfl,?_⟩))):bY Γ M bb:=zX hs Z hg J
end
theorem UZ{l:ah}{want:List (List bl)}{N:Nat}(hS:0<=l.ar):∀(ws:List Nat)(k:Nat)(t:cP),iR k N t->iR (k+ws.length) N (qm l want t ws)
 |[],_,_,h=>h
 |w::ws,k,t,h=>by
  rw[qm,List.length_cons,show k+(ws.length+1)=k+1+ws.length by omega];exact UZ hS ws (k+1) _ (IA h hS)
theorem Ov{l:ah}{want:List (List bl)}{N al:Nat}(hS:0<=l.ar):∀(j k:Nat)(t:cP),iR k N t->iR (k+j) N (jY l want al j t)
 |0,_,_,h=>h
 |j+1,k,t,h=>by
  rw[jY];split
  ·exact h.mono (by omega)
  ·rw[show k+(j+1)=k+1+j by omega];exact Ov hS j (k+1) _ (IA h hS)
theorem TP{l:ah}{want:List (List bl)}{N:Nat}(hS:0<=l.ar):∀(j al k:Nat)(t:cP),iR k N t->iR (k+j*1500) N (ql l want al j t)
 |0,_,_,_,h=>h.mono (by omega)
 |j+1,al,k,t,h=>by
  have A:=Ov (want:=want) (al:=al) hS 1500 k t h;rw[show k+(j+1)*1500=k+1500+j*1500 by omega];exact TP hS j (al+1) (k+1500) _ ⟨A.m,A.log,A.steps,A.next,A.gone,A.step,A.full,A.calls⟩
theorem adn{l:ah}{want:List (List bl)}{turns:List Int}(hS:0<=l.ar)(hw:want.length<=3)(ht:turns.length<=300):(uE l want turns).calls.length<=5000:=by have A:=TP (want:=want) hS want.length 0 _ _ (UZ (want:=want) hS (turns.map λ x=>(x%(want.length:Int)).toNat) 0 _ (OJ l want.length));have F:=A.calls;rw[List.length_map] at F;have e:uE l want turns=ql l want 0 want.length (qm l want (qj l want.length) (turns.map λ x=>(x%(want.length:Int)).toNat)):=rfl;rw[e];omega
def i9(cs:List eO)(w:Nat):List Int:=(cs.filter λ c=>decide (c.al=(w:Int))&&c.is).map eO.val
theorem NG(cs:List eO)(c:eO)(w:Nat):i9 (cs++[c]) w=i9 cs w++(if c.al=(w:Int)/\c.is=true then[c.val] else[]):=by
 unfold i9;rw[List.filter_append,List.map_append]
 congr 1
 by_cases h:c.al=(w:Int)/\c.is=true
 ·rw[if_pos h,List.filter_cons_of_pos (by simp[h.1,h.2])];rfl
 ·rw[if_neg h,List.filter_cons_of_neg (by simp only[Bool.and_eq_true,decide_eq_true_eq];exact h)];rfl
theorem afu{cs:List eO}{i:Nat}{c:eO}{w:Nat}(h:cs[i]?=some c)(L:c.al=(w:Int)/\c.is=true):∃r,i9 cs w=i9 (cs.take i) w++c.val::r:=by
 obtain⟨bm,he⟩:=List.getElem?_eq_some_iff.1 h;refine⟨i9 (cs.drop (i+1)) w,?_⟩;have e:cs=cs.take i++[c]++cs.drop (i+1):=by rw[List.append_assoc,<-he,List.singleton_append,<-List.drop_eq_getElem_cons bm,List.take_append_drop]
 have F:i9 (cs.take i++[c]++cs.drop (i+1)) w=i9 (cs.take i++[c]) w++i9 (cs.drop (i+1)) w:=by unfold i9;rw[List.filter_append,List.map_append]
 rw[<-e,NG,if_pos L] at F;rw[F,List.append_assoc]
 rfl
def HB(l:List Int):Int:=l.getLastD (-1)
theorem RV(l:List Int)(v:Int):HB (l++[v])=v:=by simp[HB]
theorem abc{l r:List Int}{v:Int}(h:(l++v::r).Pairwise (·<·))(h0:0<=v):HB l<v:=by
 rcases List.eq_nil_or_concat l with rfl|⟨iM,x,rfl⟩
 ·show(-1:Int)<v;omega
 ·rw[List.concat_eq_append,RV];rw[List.pairwise_append] at h;exact h.2.2 x (by simp) v (by simp)
def wc(cs:List eO)(k:Nat):List Int:=if k<=1 then[] else if k=2 then i9 cs 1 else i9 cs 1++i9 cs 2
theorem adz(cs:List eO){k:Nat}(A:1<=k)(F:k<=2):wc cs k++i9 cs k=wc cs (k+1):=by
 have:k=1\/k=2:=by omega
 rcases this with rfl|rfl<;>rfl
def lB(cs:List eO)(k i:Nat):List Int:=wc cs k++i9 (cs.take i) k
def uw(cs:List eO)(k i:Nat):Int:=HB (i9 (cs.take i) k)
theorem X0(cs:List eO)(k:Nat):lB cs k 0=wc cs k:=List.append_nil _
theorem XX(cs:List eO){k:Nat}(A:1<=k)(F:k<=2):lB cs k cs.length=wc cs (k+1):=by unfold lB;rw[List.take_length];exact adz cs A F
theorem UO{cs:List eO}{i:Nat}{c:eO}(h:cs[i]?=some c):cs.take (i+1)=cs.take i++[c]:=by rw[List.take_add_one,h];rfl
theorem PM{cs:List eO}{k i:Nat}{c:eO}(h:cs[i]?=some c)(L:¬(c.al=(k:Int)/\c.is=true)):lB cs k (i+1)=lB cs k i/\uw cs k (i+1)=uw cs k i:=by unfold lB uw;rw[UO h,NG,if_neg L,List.append_nil];exact⟨rfl,rfl⟩
theorem XZ{cs:List eO}{k i:Nat}{c:eO}(h:cs[i]?=some c)(L:c.al=(k:Int)/\c.is=true):lB cs k (i+1)=lB cs k i++[c.val]/\uw cs k (i+1)=c.val:=by unfold lB uw;rw[UO h,NG,if_pos L,RV,List.append_assoc];exact⟨rfl,rfl⟩
theorem FC(cs:List eO)(k:Nat):(i9 cs k).length<=cs.length:=by unfold i9;rw[List.length_map];exact List.length_filter_le _ _
theorem XY(cs:List eO)(k i:Nat):(lB cs k i).length<=3*cs.length:=by
 have A:=FC cs 1;have F:=FC cs 2;have O:=FC (cs.take i) k;rw[List.length_take] at O;unfold lB wc;rw[List.length_append];split
 ·simp only[List.length_nil];omega
 ·split
  ·omega
  ·rw[List.length_append];omega
theorem U5:∀(k:Nat)(a:Int)(q:Nat),q<k->(Sg.kF a k)[q]?=some (a+q)
 |0,a,q,h=>by omega
 |k+1,a,0,h=>by simp[Sg.kF]
 |k+1,a,q+1,h=>by
  rw[Sg.kF,List.getElem?_cons_succ,U5 k (a+1) q (by omega)]
  congr 1
  omega
theorem aba{cs:List eO}{k i:Nat}{c:eO}(h:cs[i]?=some c)(L:c.al=(k:Int)/\c.is=true){r:Int}(hp:(i9 cs k).Pairwise (·<·))(Z:∀v∈i9 cs k,0<=v/\v<r):uw cs k i<c.val/\0<=c.val/\c.val<r:=by obtain⟨q,e⟩:=afu h L;rw[e] at hp Z;have F:=Z c.val (by simp);exact⟨abc hp F.1,F.1,F.2⟩
set_option maxHeartbeats 16000000 in
theorem chan_w(many one two:Int)(turns:List Int)(hm:0<=many/\many<256)(A:0<=one/\one<256)(F:0<=two/\two<256)(Lh:∀x∈turns,0<=x/\x<256):bc prog 6 [.agg [dK .u8 many,dK .u8 one,dK .u8 two,va turns]] (dB true):=by
 refine sP func6 ntmps6 λ w cl=>?_
 refine gA ae2 ?_;generalize O:decide ((turns.length:Int)>300)=cc;cases cc
 ·have dt:turns.length<=300:=by have:=of_decide_eq_false O;omega
  obtain⟨am,hA⟩:∃am:Nat,(am:Int)=many%13:=⟨(many%13).toNat,by omega⟩;obtain⟨B,hB⟩:∃B:Nat,(B:Int)=one%7:=⟨(one%7).toNat,by omega⟩;obtain⟨C,hC⟩:∃C:Nat,(C:Int)=two%7:=⟨(two%7).toNat,by omega⟩;have hP:=Tl Sg.ct WR (pf am B C) turns (by simp[pf]) (by simp[pf]) dt Lh (λ w hw=>by
   have:=(OV (a:=am) (b:=B) (c:=C) (by omega) (by omega) (by omega)).len w hw;omega)
  have I:=Sg.ado (OV (a:=am) (b:=B) (c:=C) (by omega) (by omega) (by omega)) rfl dt;rw[show(lJ am).length=am by simp[lJ]] at I;rw[show(pf am B C).length=3 from rfl] at hP;have ea:=adn (l:=Sg.ct) (want:=pf am B C) (turns:=turns) (by decide) (by simp[pf]) dt;generalize uE Sg.ct (pf am B C) turns=t at*;have PW:=HX Sg.ct OU t.m I.lt 3 0;have Yu:=afT;obtain⟨r,ahp,rU,Rq,Rb⟩:=I.afL;rw[show uB Sg.ct t.m 3 0=(3,[],Sg.nJ Sg.ct t.m 0) from rfl,rU] at PW;have DT:=I.bad;have aaL:=I.cO;clear I rU;generalize Sg.ct=l at*;have gV:∀w,Sg.told t w=i9 t.calls w:=λ _=>rfl
  simp only[gV] at Rq Rb;clear gV;refine gE ?_;refine yn (WJ aD 25 rfl rfl) rfl rfl rfl rfl ?_;refine go ?_;refine ey (FB 25 0 0 63 4 rfl rfl rfl rfl rfl) ?_;refine ey (FB 25 1 1 63 4 rfl rfl rfl rfl rfl) ?_;refine ey (FB 25 2 2 63 4 rfl rfl rfl rfl rfl) ?_;refine cn (λ i:Nat=>i<=am) (λ i=>⟨[(9,E i),(8,.ptr 2 0),(7,dB true),(5,dK .u8 two),(4,dK .u8 one),(3,dK .u8 many)],[(2,[.arr 25 0 3 3,va turns]),(25,[.aW 0 i (mx (lJ i)),.aW 1 0 [],.aW 2 0 []])],[(0,⟨63,4,i⟩),(1,⟨63,4,0⟩),(2,⟨63,4,0⟩)]⟩) (λ i=>am-i) 0 (Nat.zero_le _) (zX) ?_;intro i hi;refine(show aP _ _ _ _ ⟨[(9,E i),(8,.ptr 2 0),(7,dB true),(5,dK .u8 two),(4,dK .u8 one),(3,dK .u8 many)],[(2,[.arr 25 0 3 3,va turns]),(25,[.aW 0 i (mx (lJ i)),.aW 1 0 [],.aW 2 0 []])],[(0,⟨63,4,i⟩),(1,⟨63,4,0⟩),(2,⟨63,4,0⟩)]⟩ from ?_);refine t8 ?_;refine dk (λ h4=>?_) (λ h4=>?_)<;>try rw[h4]
  ·have rI:i<am:=by have:=of_decide_eq_true h4;omega
   refine go ?_;refine gW 11 [] ?_;refine cV (iu (p:=0) aD rfl rfl rfl rfl rfl (by omega) (by omega) rfl) rfl rfl ?_;refine cV (jV aD rfl rfl rfl rfl rfl rfl) rfl rfl ?_;refine br ?_;refine tx (m:=1) (qs:=Cn ⟨6,0,i,0⟩) aD rfl rfl rfl rfl rfl rfl rfl rfl rfl rfl rfl rfl rfl (by unfold maxLen;omega) (by show(_+_)*32<=_;omega) ?_;refine cV (iu (p:=0) aD rfl rfl rfl rfl rfl (by omega) (by omega) rfl) rfl rfl ?_;refine qg ?_;rw[Mn,<-aeN];exact⟨i+1,by omega,by omega,zX⟩
  ·have rI:i=am:=by have:=of_decide_eq_false h4;omega
   subst rI;refine go ?_;refine cn (λ j:Nat=>j<=B) (λ j=>⟨[(10,E j),(8,.ptr 2 0),(7,dB true),(5,dK .u8 two),(4,dK .u8 one),(3,dK .u8 many)],[(2,[.arr 25 0 3 3,va turns]),(25,[.aW 0 i (mx (lJ i)),.aW 1 j (mx (jF j)),.aW 2 0 (mx (jF 0))])],[(0,⟨63,4,i⟩),(1,⟨63,4,j⟩),(2,⟨63,4,0⟩)]⟩) (λ j=>B-j) 0 (Nat.zero_le _) (zX) ?_;intro j hj;refine(show aP _ _ _ _ ⟨[(10,E j),(8,.ptr 2 0),(7,dB true),(5,dK .u8 two),(4,dK .u8 one),(3,dK .u8 many)],[(2,[.arr 25 0 3 3,va turns]),(25,[.aW 0 i (mx (lJ i)),.aW 1 j (mx (jF j)),.aW 2 0 (mx (jF 0))])],[(0,⟨63,4,i⟩),(1,⟨63,4,j⟩),(2,⟨63,4,0⟩)]⟩ from ?_);refine t8 ?_;refine dk (λ h5=>?_) (λ h5=>?_)<;>try rw[h5]
   ·have vh:j<B:=by have:=of_decide_eq_true h5;omega
    refine go ?_;refine gW 10 [] ?_;refine cV (iu (p:=1) aD rfl rfl rfl rfl rfl (by omega) (by omega) rfl) rfl rfl ?_;refine cV (jV aD rfl rfl rfl rfl rfl rfl) rfl rfl ?_;refine br ?_;refine tx (m:=1) (qs:=Cn ⟨7,0,0,0⟩) aD rfl rfl rfl rfl rfl rfl rfl rfl rfl rfl rfl rfl rfl (by unfold maxLen;omega) (by show(_+_)*32<=_;omega) ?_;refine cV (iu (p:=1) aD rfl rfl rfl rfl rfl (by omega) (by omega) rfl) rfl rfl ?_;refine qg ?_;rw[Mn,<-TN];exact⟨j+1,by omega,by omega,zX⟩
   ·have vh:j=B:=by have:=of_decide_eq_false h5;omega
    subst vh;refine go ?_;refine cn (λ k:Nat=>k<=C) (λ k=>⟨[(11,E k),(8,.ptr 2 0),(7,dB true),(5,dK .u8 two),(3,dK .u8 many)],[(2,[.arr 25 0 3 3,va turns]),(25,[.aW 0 i (mx (lJ i)),.aW 1 j (mx (jF j)),.aW 2 k (mx (jF k))])],[(0,⟨63,4,i⟩),(1,⟨63,4,j⟩),(2,⟨63,4,k⟩)]⟩) (λ k=>C-k) 0 (Nat.zero_le _) (zX) ?_;intro k J;refine(show aP _ _ _ _ ⟨[(11,E k),(8,.ptr 2 0),(7,dB true),(5,dK .u8 two),(3,dK .u8 many)],[(2,[.arr 25 0 3 3,va turns]),(25,[.aW 0 i (mx (lJ i)),.aW 1 j (mx (jF j)),.aW 2 k (mx (jF k))])],[(0,⟨63,4,i⟩),(1,⟨63,4,j⟩),(2,⟨63,4,k⟩)]⟩ from ?_);refine t8 ?_;refine dk (λ h6=>?_) (λ h6=>?_)<;>try rw[h6]
    ·have PU:k<C:=by have:=of_decide_eq_true h6;omega
     refine go ?_;refine gW 10 [] ?_;refine cV (iu (p:=2) aD rfl rfl rfl rfl rfl (by omega) (by omega) rfl) rfl rfl ?_;refine cV (jV aD rfl rfl rfl rfl rfl rfl) rfl rfl ?_;refine br ?_;refine tx (m:=1) (qs:=Cn ⟨7,0,0,0⟩) aD rfl rfl rfl rfl rfl rfl rfl rfl rfl rfl rfl rfl rfl (by unfold maxLen;omega) (by show(_+_)*32<=_;omega) ?_;refine cV (iu (p:=2) aD rfl rfl rfl rfl rfl (by omega) (by omega) rfl) rfl rfl ?_;refine qg ?_;rw[Mn,<-TN];exact⟨k+1,by omega,by omega,zX⟩
    ·have PU:k=C:=by have:=of_decide_eq_false h6;omega
     subst PU;refine gE ?_;refine nT (q6 25 rfl rfl) ?_;refine nT (JS (sz:=1) (wu:=[(8,.ptr 2 0),(7,dB true),(3,dK .u8 many)]) (o0:=[]) (qt:=[]) 2 0 25 [Ap i (lJ i),Ap j (jF j),Ap k (jF k)] rfl rfl rfl rfl rfl ⟨⟨rfl,rfl⟩,⟨rfl,rfl⟩,⟨rfl,rfl⟩,trivial⟩ ⟨⟨rfl,rfl⟩,trivial⟩ trivial (by(repeat(first|exact trivial|refine⟨rfl,?_⟩))) rfl rfl (Nat.le_refl _) rfl rfl (by unfold maxLen;omega) (λ x T=>by simp at T;rcases T with rfl|rfl|rfl<;>rfl)) ?_;rw[ade,Ti,Ti];refine gA Yu ?_;refine cI hP ?_;rintro d Y ⟨rfl,rfl⟩;refine go ?_;refine nT (cb:=⟨[(13,.ptr 30 0),(12,.ptr 1 0),(7,dB true),(3,dK .u8 many)],nL t 3++[(1,cG l)],[]⟩) rE ?_;refine yn (So aD 40 (c:=13) rfl rfl rfl rfl rfl rfl rfl (by rfl) (by rfl) (by show _*8<=_;omega) (by unfold maxLen;omega)) rfl rfl rfl rfl ?_;rw[show List.replicate 13 (pV (Value.int .i64 0))=jk (ie 12 []) by rw[aa7,abO]];refine go ?_;refine cn (λ n:Nat=>1<=n/\n<=3) (λ n=>⟨[(15,E n),(14,.arr 40 0 13 13),(13,.ptr 30 0),(12,.ptr 1 0),(7,dB true),(3,dK .u8 many)],(40,jk (ie 12 (wc t.calls n)))::(nL t 3++[(1,cG l)]),[]⟩) (λ n=>3-n) 1 ⟨by omega,by omega⟩ rE ?_;rintro n ⟨gp,ahf⟩;refine(show aP _ _ _ _ ⟨[(15,E n),(14,.arr 40 0 13 13),(13,.ptr 30 0),(12,.ptr 1 0),(7,dB true),(3,dK .u8 many)],(40,jk (ie 12 (wc t.calls n)))::(nL t 3++[(1,cG l)]),[]⟩ from ?_);refine go ?_;refine dk (λ h7=>?_) (λ h7=>?_)<;>try rw[h7]
     ·have GG:n<=2:=by have:=of_decide_eq_true h7;omega
      obtain⟨Ev,vl⟩:=Rq n gp GG;refine go ?_;refine cn (λ m:Nat=>m<=t.calls.length) (λ m=>⟨[(17,E m),(16,E (uw t.calls n m)),(15,E n),(14,.arr 40 0 13 13),(13,.ptr 30 0),(12,.ptr 1 0),(7,dB true),(3,dK .u8 many)],(40,jk (ie 12 (lB t.calls n m)))::(nL t 3++[(1,cG l)]),[]⟩) (λ m=>t.calls.length-m) 0 (Nat.zero_le _) (by show bY _ _ ⟨[(17,E 0),(16,E (uw t.calls n 0)),(15,E n),(14,.arr 40 0 13 13),(13,.ptr 30 0),(12,.ptr 1 0),(7,dB true),(3,dK .u8 many)],(40,jk (ie 12 (lB t.calls n 0)))::(nL t 3++[(1,cG l)]),[]⟩;rw[X0];exact rE) ?_;intro m rS;refine(show aP _ _ _ _ ⟨[(17,E m),(16,E (uw t.calls n m)),(15,E n),(14,.arr 40 0 13 13),(13,.ptr 30 0),(12,.ptr 1 0),(7,dB true),(3,dK .u8 many)],(40,jk (ie 12 (lB t.calls n m)))::(nL t 3++[(1,cG l)]),[]⟩ from ?_);refine go ?_;refine dk (λ h8=>?_) (λ h8=>?_)<;>try rw[h8]
      ·have DB:m<t.calls.length:=by have:=of_decide_eq_true h8;omega
       obtain⟨c,L⟩:=nh (l:=t.calls) (i:=m) (by omega) (by omega);have dR:=L;simp only[Int.toNat_natCast] at dR;refine go ?_;refine ai (E3 c) (F4 L) ?_;refine go ?_
       by_cases xi:c.al=(n:Int)
       ·rw[decide_eq_true xi];refine go ?_;generalize yV:c.is=cc;cases cc
        ·refine go ?_;obtain⟨e1,e2⟩:=PM (k:=n) dR (by rw[yV];simp);rw[<-e1,<-e2];exact⟨m+1,by omega,by omega,rE⟩
        ·obtain⟨v1,v2,v3⟩:=aba dR ⟨xi,yV⟩ Ev vl;obtain⟨e1,e2⟩:=XZ dR ⟨xi,yV⟩;refine go ?_;rw[show decide (c.val<=uw t.calls n m)=false by rw[decide_eq_false_iff_not];omega];refine t8 ?_;rw[show decide (many%13<=c.val)=false by rw[decide_eq_false_iff_not];omega];have s0:=LY 12 (lB t.calls n m) c.val (by omega);have qR:=Hy (l:=ie 12 (lB t.calls n m)) (i:=c.val) (by omega) (by rw[Af];omega);rw[HS 12 (lB t.calls n m) c.val (by omega) (by omega)] at qR;have Ql:(lB t.calls n m).count c.val<=15000:=Nat.le_trans List.count_le_length (by have:=XY t.calls n m;omega);have Q3:=Af 12 (lB t.calls n m);rw[<-e1] at s0;generalize(lB t.calls n m).count c.val=cx at*;generalize ie 12 (lB t.calls n m)=mt at*;refine go ?_;refine aj c.val.toNat 1 ?_;refine bh (jV aD rfl rfl rfl rfl rfl qR) rfl rfl rfl ?_;refine go ?_;refine aj c.val.toNat 1 ?_;refine pQ (of:=c.val.toNat) (cs:=jk mt) aD rfl rfl rfl rfl rfl rfl rfl rfl rfl (by rw[List.length_map];omega) ?_;rw[show(jk mt).set c.val.toNat (E ((cx:Int)+1))=jk (ie 12 (lB t.calls n (m+1))) by rw[Lt,s0]];refine go ?_;rw[<-e2];exact⟨m+1,by omega,by omega,rE⟩
       ·rw[decide_eq_false xi];refine go ?_;obtain⟨e1,e2⟩:=PM (k:=n) dR (λ h=>xi h.1);rw[<-e1,<-e2];exact⟨m+1,by omega,by omega,rE⟩
      ·have DB:m=t.calls.length:=by have:=of_decide_eq_false h8;omega
       rw[DB,XX t.calls gp GG];refine go ?_;exact⟨n+1,⟨by omega,by omega⟩,by omega,rE⟩
     ·have GG:n=3:=by have:=of_decide_eq_false h7;omega
      subst GG;rw[show wc t.calls 3=i9 t.calls 1++i9 t.calls 2 from rfl];have Qa:(i9 t.calls 1++i9 t.calls 2).length<=10000:=by have A:=FC t.calls 1;have F:=FC t.calls 2;rw[List.length_append];omega
      have n9:∀v:Int,0<=v->v<(i:Int)->(i9 t.calls 1++i9 t.calls 2++Sg.kF r (i-r)).count v=1:=λ v v0 v1=>by
       rw[List.count_append,List.count_append,Rb,Sg.NM]
       by_cases h:0<=v/\v<(r:Int)
       ·rw[if_pos h,if_neg (by omega)]
       ·rw[if_neg h,if_pos (by omega)]
      have P4:∀q:Nat,q<i-r->(Sg.kF r (i-r))[q]?=some ((r:Int)+q):=λ q hq=>U5 (i-r) r q hq
      have P5:(Sg.kF r (i-r)).length=i-r:=Sg.NN _ _;generalize i9 t.calls 1++i9 t.calls 2=ap at*;generalize Sg.kF r (i-r)=aE at*;refine go ?_;refine dW 7 [] ?_;refine gQ PW ?_;refine go ?_;refine cn (λ q:Nat=>q<=aE.length) (λ q=>⟨[(20,E q),(19,.ptr 8 0),(14,.arr 40 0 13 13),(13,.ptr 30 0),(7,dB true),(3,dK .u8 many)],(40,jk (ie 12 (ap++aE.take q)))::(8,[E 3,bX [],bX aE])::nL t 3,[]⟩) (λ q=>aE.length-q) 0 (Nat.zero_le _) (by show bY _ _ ⟨[(20,E 0),(19,.ptr 8 0),(14,.arr 40 0 13 13),(13,.ptr 30 0),(7,dB true),(3,dK .u8 many)],(40,jk (ie 12 (ap++aE.take 0)))::(8,[E 3,bX [],bX aE])::nL t 3,[]⟩;rw[List.take_zero,List.append_nil];exact rE) ?_;intro q hq;refine(show aP _ _ _ _ ⟨[(20,E q),(19,.ptr 8 0),(14,.arr 40 0 13 13),(13,.ptr 30 0),(7,dB true),(3,dK .u8 many)],(40,jk (ie 12 (ap++aE.take q)))::(8,[E 3,bX [],bX aE])::nL t 3,[]⟩ from ?_);refine go ?_;refine dk (λ h8=>?_) (λ h8=>?_)<;>try rw[h8]
      ·have DB:q<aE.length:=by have:=of_decide_eq_true h8;omega
       obtain⟨x,T⟩:=nh (l:=aE) (i:=q) (by omega) (by omega);have eA:=T;simp only[Int.toNat_natCast] at eA;have ahD:x=(r:Int)+q:=by rw[P4 q (by omega)] at eA;exact(Option.some.inj eA).symm
       refine go ?_;refine gD [] ?_;refine ri [pI x] (jE T) ?_;refine br ?_;rw[show decide (x<0)=false by rw[decide_eq_false_iff_not];omega];refine br ?_;refine ri [pI x] (jE T) ?_;refine br ?_;rw[eU (n:=many) (by omega) (by omega)];refine cV (Fa rfl rfl rfl (by omega) (by omega)) rfl rfl ?_;refine br ?_;rw[show decide (many%13<=x)=false by rw[decide_eq_false_iff_not];omega];refine br ?_
       by_cases xy:q=0
       ·rw[show decide ((q:Int)>0)=false by rw[decide_eq_false_iff_not];omega];refine qg ?_;have s0:=LY 12 (ap++aE.take q) x (by omega);have qR:=Hy (l:=ie 12 (ap++aE.take q)) (i:=x) (by omega) (by rw[Af];omega);rw[HS 12 (ap++aE.take q) x (by omega) (by omega)] at qR;have Ql:(ap++aE.take q).count x<=20000:=Nat.le_trans List.count_le_length (by rw[List.length_append,List.length_take];omega);have Q3:=Af 12 (ap++aE.take q);have KN:aE.take (q+1)=aE.take q++[x]:=by rw[List.take_add_one,eA];rfl
        rw[List.append_assoc,<-KN] at s0;generalize(ap++aE.take q).count x=cx at*;generalize ie 12 (ap++aE.take q)=mt at*;refine go ?_;refine ai [pI x] (jE T) ?_;refine go ?_;refine aj x.toNat 1 ?_;refine bh (jV aD rfl rfl rfl rfl rfl qR) rfl rfl rfl ?_;refine go ?_;refine aj x.toNat 1 ?_;refine pQ (of:=x.toNat) (cs:=jk mt) aD rfl rfl rfl rfl rfl rfl rfl rfl rfl (by rw[List.length_map];omega) ?_;rw[show(jk mt).set x.toNat (E ((cx:Int)+1))=jk (ie 12 (ap++aE.take (q+1))) by rw[Lt,s0]];refine go ?_;exact⟨q+1,by omega,by omega,rE⟩
       ·rw[show decide ((q:Int)>0)=true by rw[decide_eq_true_eq];omega];obtain⟨y,hy⟩:=nh (l:=aE) (i:=(q:Int)-1) (by omega) (by omega);have ahE:y=x-1:=by
         have h9:=P4 (q-1) (by omega);rw[show((q:Int)-1).toNat=q-1 by omega,h9] at hy;have:=Option.some.inj hy;omega
        refine br ?_;refine ri [pI x] (jE T) ?_;refine br ?_;refine ri [pI y] (jE hy) ?_;refine br ?_;rw[show decide (x=y+1)=true by rw[decide_eq_true_eq];omega];refine qg ?_;have s0:=LY 12 (ap++aE.take q) x (by omega);have qR:=Hy (l:=ie 12 (ap++aE.take q)) (i:=x) (by omega) (by rw[Af];omega);rw[HS 12 (ap++aE.take q) x (by omega) (by omega)] at qR;have Ql:(ap++aE.take q).count x<=20000:=Nat.le_trans List.count_le_length (by rw[List.length_append,List.length_take];omega);have Q3:=Af 12 (ap++aE.take q);have KN:aE.take (q+1)=aE.take q++[x]:=by rw[List.take_add_one,eA];rfl
        rw[List.append_assoc,<-KN] at s0;generalize(ap++aE.take q).count x=cx at*;generalize ie 12 (ap++aE.take q)=mt at*;refine go ?_;refine ai [pI x] (jE T) ?_;refine go ?_;refine aj x.toNat 1 ?_;refine bh (jV aD rfl rfl rfl rfl rfl qR) rfl rfl rfl ?_;refine go ?_;refine aj x.toNat 1 ?_;refine pQ (of:=x.toNat) (cs:=jk mt) aD rfl rfl rfl rfl rfl rfl rfl rfl rfl (by rw[List.length_map];omega) ?_;rw[show(jk mt).set x.toNat (E ((cx:Int)+1))=jk (ie 12 (ap++aE.take (q+1))) by rw[Lt,s0]];refine go ?_;exact⟨q+1,by omega,by omega,rE⟩
      ·have DB:q=aE.length:=by have:=of_decide_eq_false h8;omega
       rw[DB,List.take_length];refine go ?_;refine cn (λ v:Nat=>v<=i) (λ v=>⟨[(21,E v),(14,.arr 40 0 13 13),(13,.ptr 30 0),(7,dB true),(3,dK .u8 many)],(40,jk (ie 12 (ap++aE)))::nL t 3,[]⟩) (λ v=>i-v) 0 (Nat.zero_le _) rE ?_;intro v hv;refine(show aP _ _ _ _ ⟨[(21,E v),(14,.arr 40 0 13 13),(13,.ptr 30 0),(7,dB true),(3,dK .u8 many)],(40,jk (ie 12 (ap++aE)))::nL t 3,[]⟩ from ?_);refine t8 ?_;refine dk (λ h9=>?_) (λ h9=>?_)<;>try rw[h9]
       ·have agG:v<i:=by have:=of_decide_eq_true h9;omega
        have qR:=Hy (l:=ie 12 (ap++aE)) (i:=v) (by omega) (by rw[Af];omega);rw[HS 12 (ap++aE) v (by omega) (by omega),n9 v (by omega) (by omega)] at qR;refine go ?_;refine aj v 1 ?_;refine bh (jV aD rfl rfl rfl rfl rfl qR) rfl rfl rfl ?_;refine go ?_;refine(show CK false _ _ from ?_);refine go ?_;exact⟨v+1,by omega,by omega,rE⟩
       ·refine go ?_;rw[DT];refine go ?_;rw[aaL];refine gf ?_
        rfl
 ·refine gf ?_
  rfl
end Go.Proofs.YtcnefjfboagbmaaGreat
