import Derived.Test.YtflgdeobcgmgnaaGreatDoorAcD
import Derived.Test.YtflgdeobcgmgnaaGreatDoorG4
import Derived.Test.YtflgdeobcgmgnaaGreatDoorAcE
import Derived.Test.YtflgdeobcgmgnaaGreatDoorG2
import Derived.Test.YtflgdeobcgmgnaaGreatDoorG0
set_option autoImplicit false
set_option maxHeartbeats 4000000
set_option maxRecDepth 100000
namespace Go.Proofs
open Go Go.Ab Go.RowKit
variable {G:IH}
theorem Bj {f:FuncId} {args:List AV} {pre post post':List (Nat×List AV)} {r r':AV} (hle:(⟨[r],post⟩:AS).dU ⟨[r'],post'⟩) (h:dV Tryz.prog G f args pre r post):dV Tryz.prog G f args pre r' post':=
 ⟨h.1,fun F w h0 β us gm=>(h.2 F w h0 β us gm).mono fun _ _ ⟨v,_,h',e1,g1⟩=>let ⟨β'',g2⟩:=hle _ _ _ _ _ _ _ _ g1;⟨v,β'',h',e1,g2⟩⟩
theorem abb {s sz:Nat} {K:RK} {g:Nat→DV} (hs:s<K0) (hmn:K.mn=none):(⟨[.d (.con (.slice none 0 0))],[]⟩:AS).dU ⟨[.vec s sz 0 0],[(s,[.arr K sz g])]⟩:=by
 intro G F w0 h0 β h tm w gm
 obtain ⟨v,hv,hr⟩:=gm.regs 0 _ rfl
 have hr:v=.slice none 0 0:=hr
 subst hr
 have hbox:∀t l,Go.Ab.look [(s,[AV.arr K sz g])] t=some l→t=s∧l=[.arr K sz g]:=by
  intro t l hl
  simp only[Go.Ab.look] at hl
  by_cases e:s=t
  ·subst e;simp at hl;exact⟨rfl,hl.symm⟩
  ·rw[aP e,cond_false] at hl;cases hl
 refine⟨upd β s 0 0 0,gm.glob,gm.holds,gm.ext,gm.old,gm.kept,fun t ht=>?_,gm.size,fun t x hx=>?_,fun t l hl=>?_,fun t t' l l' hl hl' _ _ _=>?_⟩
 ·have hne:t≠s:=by omega
  rw[aZ hne,bI hne,iJ hne]
  exact gm.fix t ht
 ·rcases t with _|t
  ·simp at hx;subst hx
   refine⟨_,hv,?_⟩
   show 0+0≤many (upd β s 0 0 0) s∧many (upd β s 0 0 0) s≤room (upd β s 0 0 0) s∧_
   rw[bH,aF]
   exact⟨Nat.le_refl _,Nat.le_refl _,none,rfl,.inr (Nat.le_refl _)⟩
  ·simp at hx
 ·obtain ⟨rfl,rfl⟩:=hbox t l hl
  refine⟨fun hv=>?_,?_⟩
  ·have hv:0<room (upd β t 0 0 0) t:=hv
   rw[aF] at hv;omega
  ·show dA h K sz g (room (upd β t 0 0 0) t) (many (upd β t 0 0 0) t) _
   rw[aF,bH]
   exact⟨⟨Nat.le_refl _,fun N hN=>by rw[hmn] at hN;cases hN⟩,.inl rfl⟩
 ·rw[(hbox t l hl).1,(hbox t' l' hl').1]
theorem Y2 (l:List Gv) (hl:l.length≤1000000):dV Tryz.prog G 74 [.d (kT l)] [] (.vec 7 4 0 l.length) [(7,[.arr ku 4 (dX l)])]:=by
 rcases Nat.eq_zero_or_pos l.length with h0|h0
 ·rw[h0]
  have hnil:∀c,dV Tryz.prog G 74 [.d (.con (.slice none 0 c))] [] (.vec 7 4 0 0) [(7,[.arr ku 4 (dX l)])]:=fun c=>Bj (abb (by decide) rfl) (YU c)
  refine dV.each (.slice none 0 0) (hnil 0) fun β h v hv=>?_
  obtain ⟨p,c,e,h1,h2⟩:=hv
  have e:v=.slice p l.length c:=e
  rw[h0] at e
  subst e
  cases p with
  | none=>exact hnil c
  | some p=>exact Bj (AS.dU.Ue ⟨[.vec 7 4 0 0],[(7,[.arr ku 4 (fun i=>bif i.blt 0 then DV.con undef else DV.con undef)])]⟩ 0 7 0 (dX l) rfl rfl (by kernel_rfl) (fun i hi=>absurd hi (Nat.not_lt_zero _))) (V3 p c)
 ·exact Bj (AS.dU.Ue ⟨[.vec 7 4 0 l.length],[(7,[.arr ku 4 (fun i=>bif i.blt 0 then DV.con undef else dX l (i-0))])]⟩ 0 7 l.length (dX l) rfl rfl (by kernel_rfl) (fun i _=>rfl)) (Xy l h0 hl)
theorem YN (l:List Al) (hl:l.length≤1000000):dV Tryz.prog G 75 [.d (iM l)] [] (.vec 7 6 0 l.length) [(7,[.arr jh 6 (dN l)])]:=by
 rcases Nat.eq_zero_or_pos l.length with h0|h0
 ·rw[h0]
  have hnil:∀c,dV Tryz.prog G 75 [.d (.con (.slice none 0 c))] [] (.vec 7 6 0 0) [(7,[.arr jh 6 (dN l)])]:=fun c=>Bj (abb (by decide) rfl) (Yq c)
  refine dV.each (.slice none 0 0) (hnil 0) fun β h v hv=>?_
  obtain ⟨p,c,e,h1,h2⟩:=hv
  have e:v=.slice p l.length c:=e
  rw[h0] at e
  subst e
  cases p with
  | none=>exact hnil c
  | some p=>exact Bj (AS.dU.Ue ⟨[.vec 7 6 0 0],[(7,[.arr jh 6 (fun i=>bif i.blt 0 then DV.con undef else DV.con undef)])]⟩ 0 7 0 (dN l) rfl rfl (by kernel_rfl) (fun i hi=>absurd hi (Nat.not_lt_zero _))) (XB p c)
 ·exact Bj (AS.dU.Ue ⟨[.vec 7 6 0 l.length],[(7,[.arr jh 6 (fun i=>bif i.blt 0 then DV.con undef else dN l (i-0))])]⟩ 0 7 l.length (dN l) rfl rfl (by kernel_rfl) (fun i _=>rfl)) (Wu l h0 hl)
end Go.Proofs
namespace Go.Proofs
open Go Go.Ab Go.RowKit
variable {G:IH} {w:World}
noncomputable def Hf (b:Bk) (V:Nat→Option Addr×Nat) (j:Nat):AS:=⟨regs Tryz.f44.ntmps [(1,.box 1 0),(2,.box 2 0),(3,.vec 8 7 0 b.es.length),(17,vi b.es.length),(18,vi j)],[(1,[.d (di b.t),.vec 8 7 0 b.es.length]),(8,[.arr gU 7 (bM V b.es)]),(2,[.d (di 0),.d (.con (.slice none 0 0))])]⟩
def aaK (l:List Gv) (m:List Al):Nat→Option AV
 | 29=>some (.d (kT l))
 | 41=>some (.d (iM m))
 | _=>none
def FV:eU:={ d:=bU,m:=fun f a _=>match f,a with
 | 74,[.d (.slc 4 n g)]=>some (.vec 7 4 0 n,[(7,[.arr ku 4 g])])
 | 75,[.d (.slc 6 n g)]=>some (.vec 7 6 0 n,[(7,[.arr jh 6 g])])
 | _,_=>none }
structure mY (b:Bk) (w0:World) (m:Nat) (hh:IH) (on:Nat→Prop) (β:Nat→Nat) (V:Nat→Option Addr×Nat) (w:World):Prop where
 gr:∀i,2*i+2<m+2→i<b.es.length→cO hh ku 4 (b.es.getD i en0).gs.length (dX (b.es.getD i en0).gs) (blk β (2*i+2)) (room β (2*i+2)) (sv V (2*i+2) (b.es.getD i en0).gs.length) w.heap[blk β (2*i+2)]?
 ap:∀i,2*i+3<m+2→i<b.es.length→cO hh jh 6 (b.es.getD i en0).ah.length (dN (b.es.getD i en0).ah) (blk β (2*i+3)) (room β (2*i+3)) (sv V (2*i+3) (b.es.getD i en0).ah.length) w.heap[blk β (2*i+3)]?
 WR:∀i,m+2≤2*i+2→i<b.es.length→DV.rel hh (kT (b.es.getD i en0).gs) (sv V (2*i+2) (b.es.getD i en0).gs.length)
 WY:∀i,m+2≤2*i+3→i<b.es.length→DV.rel hh (iM (b.es.getD i en0).ah) (sv V (2*i+3) (b.es.getD i en0).ah.length)
 new:∀s,2≤s→s<m+2→0<room β s→w0.heap.size≤blk β s∧blk β s<w.heap.size∧(∀o,hh.cell (blk β s) o=none)∧hh.obj (blk β s)=none
 inj:∀s t,2≤s→s<m+2→2≤t→t<m+2→0<room β s→0<room β t→blk β s=blk β t→s=t
 apart:∀c,on c→w0.heap.size≤c∧∀s,2≤s→s<m+2→0<room β s→c≠blk β s
 kept:Kept (fun _=>False) w0 w
theorem mY.next {b:Bk} {w0:World} {m:Nat} {hh h2:IH} {on:Nat→Prop} {β:Nat→Nat} {V:Nat→Option Addr×Nat} {w w2:World} {β1 β2:Nat→Nat} {st:AS} {tm:Array Value} (q:mY b w0 m hh on β V w) (g:aN hh ⟨on,β1⟩ w hh st β2 h2 tm w2):mY b w0 m h2 (fun c=>∃s l,st.box s=some l∧Live β2 s l∧blk β2 s=c) β V w2:=by
 have hk:Kept on w w2:=g.kept
 have hno:∀s,2≤s→s<m+2→0<room β s→¬on (blk β s):=fun s q1 q2 q3 q4=>(q.apart _ q4).2 s q1 q2 q3 rfl
 refine⟨fun i hi hi2=>((q.gr i hi hi2).keep hk fun h0=>hno _ (by omega) hi h0).flat fun j _=>lN _ j,fun i hi hi2=>((q.ap i hi hi2).keep hk fun h0=>hno _ (by omega) hi h0).flat fun j _=>kM _ j,fun i hi hi2=>DV.rel.mono g.glob _ _ (q.WR i hi hi2),fun i hi hi2=>DV.rel.mono g.glob _ _ (q.WY i hi hi2),fun s q1 q2 q3=>?_,q.inj,?_,gG ((q.kept.mono fun _ hc=>hc.elim).trans (hk.mono fun c hc=>.inr (q.apart c hc).1))⟩
 ·obtain ⟨r1,r2,r3,r4⟩:=q.new s q1 q2 q3
  obtain ⟨o1,o2⟩:=g.old (blk β s) r2 (hno s q1 q2 q3)
  exact⟨r1,Nat.lt_of_lt_of_le r2 hk.size,fun o=>(o1 o).trans (r3 o),o2.trans r4⟩
 ·rintro c ⟨s,l,hl,hv,rfl⟩
  rcases ((g.box s l hl).1 hv).1 with r|r
  ·exact q.apart _ r
  ·have r:w.heap.size≤blk β2 s:=r
   refine⟨Nat.le_trans q.kept.size r,fun t t1 t2 t3 t4=>?_⟩
   have:=(q.new t t1 t2 t3).2.1
   omega
theorem mY.grow {b:Bk} {w0:World} {m:Nat} {hh:IH} {on on':Nat→Prop} {β:Nat→Nat} {V:Nat→Option Addr×Nat} {w:World} (q:mY b w0 m hh on β V w) {p:Option Addr} {bk c:Nat} (hon:∀x,on' x→on x) (hnew:0<c→w0.heap.size≤bk∧bk<w.heap.size∧(∀o,hh.cell bk o=none)∧hh.obj bk=none) (hap:0<c→∀s,2≤s→s<m+2→0<room β s→bk≠blk β s) (aeh:0<c→¬on' bk)
  (hg:∀i,m=2*i→i<b.es.length→cO hh ku 4 (b.es.getD i en0).gs.length (dX (b.es.getD i en0).gs) bk c (.slice p (b.es.getD i en0).gs.length c) w.heap[bk]?) (ha:∀i,m=2*i+1→i<b.es.length→cO hh jh 6 (b.es.getD i en0).ah.length (dN (b.es.getD i en0).ah) bk c (.slice p (b.es.getD i en0).ah.length c) w.heap[bk]?) :
  mY b w0 (m+1) hh on' (upd β (m+2) bk c 0) (fA V (m+2) (p,c)) w:=by
 have bo:∀t,t≠m+2→blk (upd β (m+2) bk c 0) t=blk β t∧room (upd β (m+2) bk c 0) t=room β t:=fun t ht=>⟨aZ ht,bI ht⟩
 refine⟨fun i hi hi2=>?_,fun i hi hi2=>?_,fun i hi hi2=>?_,fun i hi hi2=>?_,fun s q1 q2 q3=>?_,fun s t s1 s2 t1 t2 hs ht he=>?_,fun x hx=>⟨(q.apart x (hon x hx)).1,fun s q1 q2 q3 q4=>?_⟩,q.kept⟩
 ·by_cases e:2*i+2=m+2
  ·rw[e,aQ,aF,jv];exact hg i (by omega) hi2
  ·rw[(bo _ e).1,(bo _ e).2,dY _ e];exact q.gr i (by omega) hi2
 ·by_cases e:2*i+3=m+2
  ·rw[e,aQ,aF,jv];exact ha i (by omega) hi2
  ·rw[(bo _ e).1,(bo _ e).2,dY _ e];exact q.ap i (by omega) hi2
 ·rw[dY _ (by omega)];exact q.WR i (by omega) hi2
 ·rw[dY _ (by omega)];exact q.WY i (by omega) hi2
 ·by_cases e:s=m+2
  ·subst e
   rw[aF] at q3
   rw[aQ];exact hnew q3
  ·rw[(bo s e).2] at q3
   rw[(bo s e).1];exact q.new s q1 (by omega) q3
 ·by_cases e1:s=m+2
  ·by_cases e2:t=m+2
   ·rw[e1,e2]
   ·subst e1
    rw[aF] at hs
    rw[(bo t e2).2] at ht
    rw[aQ,(bo t e2).1] at he
    exact absurd he (hap hs t t1 (by omega) ht)
  ·by_cases e2:t=m+2
   ·subst e2
    rw[aF] at ht
    rw[(bo s e1).2] at hs
    rw[aQ,(bo s e1).1] at he
    exact absurd he.symm (hap ht s s1 (by omega) hs)
   ·rw[(bo s e1).2] at hs
    rw[(bo t e2).2] at ht
    rw[(bo s e1).1,(bo t e2).1] at he
    exact q.inj s t s1 (by omega) t1 (by omega) hs ht he
 ·by_cases e:s=m+2
  ·subst e
   rw[aF] at q3
   rw[aQ] at q4
   subst q4
   exact aeh q3 hx
  ·rw[(bo s e).2] at q3
   rw[(bo s e).1] at q4
   exact(q.apart x (hon x hx)).2 s q1 (by omega) q3 q4
noncomputable def Aa (b:Bk) (V:Nat→Option Addr×Nat) (j:Nat):AS:=⟨regs Tryz.f44.ntmps [(1,.box 1 0),(2,.box 2 0),(3,.vec 8 7 0 b.es.length),(4,vi j),(17,vi b.es.length),(18,vi j)],[(1,[.d (di b.t),.vec 8 7 0 b.es.length]),(8,[.arr gU 7 (bM V b.es)]),(2,[.d (di 0),.d (.con (.slice none 0 0))])]⟩
noncomputable def WX (b:Bk) (V:Nat→Option Addr×Nat) (j:Nat):AS:=⟨regs Tryz.f44.ntmps [(1,.box 1 0),(2,.box 2 0),(3,.vec 8 7 0 b.es.length),(4,vi j),(17,vi b.es.length),(18,vi j),(22,.vec 8 7 0 b.es.length),(23,vi j),(30,.vec 31007 4 0 (b.es.getD j en0).gs.length)],[(31007,[.arr ku 4 (dX (b.es.getD j en0).gs)]),(1,[.d (di b.t),.vec 8 7 0 b.es.length]),(8,[.arr gU 7 (bM V b.es)]),(2,[.d (di 0),.d (.con (.slice none 0 0))])]⟩
theorem WJ {V:Nat→Option Addr×Nat} {es:List En} {j:Nat} (hj:j<es.length) {p:Option Addr×Nat}:(fun i=>bif Nat.beq i j then .agg (List.take 5 (jD (es.getD j en0) (sv V (2*j+2) (es.getD j en0).gs.length) (sv V (2*j+3) (es.getD j en0).ah.length))++[.con (.slice p.1 (es.getD j en0).gs.length p.2)]++List.drop 6 (jD (es.getD j en0) (sv V (2*j+2) (es.getD j en0).gs.length) (sv V (2*j+3) (es.getD j en0).ah.length))) else bM V es i)=bM (fA V (2*j+2) p) es:=by
 funext i
 have h:=Qd (V:=V) (b:=⟨0,es⟩) hj (x':=es.getD j en0) (p:=p) rfl rfl rfl rfl rfl i
 have hset:es.set j (es.getD j en0)=es:=by
  apply List.ext_getElem? 
  intro k
  by_cases c:j=k
  ·subst c
   rw[List.getElem?_set_self hj,List.getD,iy hj];rfl
  ·rw[List.getElem?_set_ne c]
 have h:_=bM (fA V (2*j+2) p) (es.set j (es.getD j en0)) i:=h
 rw[hset] at h
 exact h
theorem zq {b:Bk} {V:Nat→Option Addr×Nat} {j s:Nat} {l:List AV} (h:(Aa b V j).box s=some l):(s=1∧l=[.d (di b.t),.vec 8 7 0 b.es.length])∨(s=8∧l=[.arr gU 7 (bM V b.es)])∨(s=2∧l=[.d (di 0),.d (.con (.slice none 0 0))]):=by
 simp only[Aa,AS.box,Go.Ab.look] at h
 by_cases e1:(1:Nat)=s
 ·subst e1;simp at h;exact .inl ⟨rfl,h.symm⟩
 ·rw[aP e1,cond_false] at h
  by_cases e2:(8:Nat)=s
  ·subst e2;simp at h;exact .inr (.inl ⟨rfl,h.symm⟩)
  ·rw[aP e2,cond_false] at h
   by_cases e3:(2:Nat)=s
   ·subst e3;simp at h;exact .inr (.inr ⟨rfl,h.symm⟩)
   ·rw[aP e3,cond_false] at h;cases h
theorem Jb {G':IH} {F:Fr} {w0:World} {h0 h:IH} {st:AS} {β:Nat→Nat} {tm:Array Value} {w:World} (g:aN G' F w0 h0 st β h tm w):aN h0 F w0 h0 st β h tm w:={ g with glob:=g.ext }
theorem ab6 {b:Bk} {w0 w:World} {hh:IH} {on:Nat→Prop} {β1 β:Nat→Nat} {V:Nat→Option Addr×Nat} {j:Nat} (q:mY b w0 (2*j) hh on β V w) (hj:j<b.es.length) (hs:iY b.es) {R:Exit→Act→World→Prop} {its:List It}
  (K:∀(h':IH) (on':Nat→Prop) (tq β':Nat→Nat) (V':Nat→Option Addr×Nat) (a':Act) (w':World),mY b w0 (2*j+1) h' on' β' V' w'→aN h' ⟨on',tq⟩ w' h' (Aa b V' j) tq h' a'.tmps w'→a'.defers=[]→wpS Tryz.prog its R .normal a' w') :
  aH Tryz.prog hh ⟨on,β1⟩ w hh (cd Tryz.f44 [1,1,1,1,0,1,0,0,1,1,0,0,1,0] :: its) (Aa b V j) R:=by
 have Gh:bT hh ⟨on,β1⟩ (.d (.con (sv V (2*j+2) (b.es.getD j en0).gs.length))) (.d (kT (b.es.getD j en0).gs)):=by
  intro β h v hG _ r
  have r:v=_:=r
  subst r
  exact DV.rel.mono hG _ _ (q.WR j (Nat.le_refl _) hj)
 refine aH.qc (aj:=FV) follows (aaK (b.es.getD j en0).gs (b.es.getD j en0).ah) 10 (by kernel_rfl) ?_
 refine qR ((.d (.slc 4 (b.es.getD j en0).gs.length (dX (b.es.getD j en0).gs))):AV) (opsOf (aU (ak Tryz.f44) [1,1,1,1,0,1,0,0,1,1,0,0,1,0])) (fun Za Zb=>((((0≤(↑j:Int))∧((↑j:Int)<↑b.es.length))∧bT hh (Fr.mk on β1) (.d (.con (.slice (V (2*(0+(↑j:Int).toNat)+2)).fst (b.es.getD (0+(↑j:Int).toNat) en0).gs.length (V (2*(0+(↑j:Int).toNat)+2)).snd))) Za∧dV Tryz.prog hh 74 [Za] [] (.vec 7 4 0 (b.es.getD j en0).gs.length) [(7,[(.arr rE 4 (dX (b.es.getD j en0).gs))])])∧aK hh (Fr.mk on β1) w hh (iQ Tryz.prog Zb.toList 10 (Zb.toList.length-10) (wpS Tryz.prog its R)) .normal ⟨regs 47 [(1,(.box 1 0)),(2,(.box 2 0)),(3,(.vec 8 7 0 b.es.length)),(4,(vi (↑j))),(17,(vi (↑b.es.length))),(18,(vi (↑j))),(21,(.box 1 1)),(22,(.vec 8 7 0 b.es.length)),(23,(vi (↑j))),(24,(.box 1 1)),(25,(.vec 8 7 0 b.es.length)),(26,(vi (↑j))),(27,(.elem 8 7 (0+(↑j:Int).toNat) 0)),(28,(.elem 8 7 (0+(↑j:Int).toNat) 5)),(29,Za),(30,(.vec 31007 4 0 (b.es.getD j en0).gs.length))],[(31007,[(.arr rE 4 (dX (b.es.getD j en0).gs))]),(1,[(vi b.t),(.vec 8 7 0 b.es.length)]),(8,[(.arr gq 7 (bM V b.es))]),(2,[(vi 0),(.d bY)])]⟩)) (by kernel_rfl) ?_
 try dsimp only
 simp only[gZ,Nat.zero_add]
 refine⟨⟨⟨by omega,by omega⟩,Gh,Y2 _ (hs.2 j hj).1⟩,?_⟩
 intro β3 h3 a3 w3 g3 hd3
 have g4:=g3.weaken (st':=WX b V j) (by refine AS.leZ [] [] (b:=((T0∧T0∧T0∧T0∧T0∧T0∧T0∧T0∧T0∧True)∧T0∧T0∧T0∧T0∧True)) (by kernel_rfl) (by kernel_rfl) ?_;exact⟨⟨rfl,rfl,rfl,rfl,rfl,rfl,rfl,rfl,rfl,trivial⟩,rfl,rfl,rfl,rfl,trivial⟩)
 have q0:=q.next g4
 obtain ⟨p,hpv,hp,hm,g5⟩:=g4.shift (q:=30) (m:=(b.es.getD j en0).gs.length) (e:=1000003) (on:=fun c=>∃s l,(WX b V j).box s=some l∧Live β3 s l∧blk β3 s=c) (by kernel_rfl) (by kernel_rfl) (by kernel_rfl) (by kernel_rfl) fun s l q1 q2=>⟨s,l,q1,q2,rfl⟩
 refine(dQ.tree (aj:={ d:=bU }) ?_:dQ Tryz.prog hh _ w3 h3 (opsOf (aU (ak Tryz.f44) [1,1,1,1,0,1,0,0,1,1,0,0,1,0])).toList 10 (3+0) _ _) _ _ _ _ g5 hd3
 refine iZ (jD (b.es.getD (0+(↑j:Int).toNat) en0) (sv V (2*(0+(↑j:Int).toNat)+2) (b.es.getD (0+(↑j:Int).toNat) en0).gs.length) (sv V (2*(0+(↑j:Int).toNat)+3) (b.es.getD (0+(↑j:Int).toNat) en0).ah.length)) (fun Za=>(((0≤(↑j:Int))∧((↑j:Int)<↑b.es.length))∧aK hh (Fr.mk (fun c=>∃s l,(WX b V j).box s=some l∧Live β3 s l∧blk β3 s=c) (upd β3 1000003 (blk β3 31007) (room β3 31007) (many β3 31007))) w3 h3 (iQ Tryz.prog (opsOf (aU (ak Tryz.f44) [1,1,1,1,0,1,0,0,1,1,0,0,1,0])).toList (10+3) 0 (wpS Tryz.prog its R)) .normal ⟨regs 47 [(1,(.box 1 0)),(2,(.box 2 0)),(3,(.vec 8 7 0 b.es.length)),(4,(vi (↑j))),(17,(vi (↑b.es.length))),(18,(vi (↑j))),(22,(.vec 8 7 0 b.es.length)),(23,(vi (↑j))),(30,(.d (.con (.slice p (b.es.getD j en0).gs.length (β3 (3*31007+1)))))),(31,(.elem 8 7 (0+(↑j:Int).toNat) 0)),(32,(.elem 8 7 (0+(↑j:Int).toNat) 5))],[(1000003,[(.arr rE 4 (dX (b.es.getD j en0).gs))]),(1,[(vi b.t),(.vec 8 7 0 b.es.length)]),(8,[(.arr gq 7 (fun EY=>bif EY.beq (0+(↑j:Int).toNat) then DV.agg (List.take (0+5) Za++[DV.con (Value.slice p (b.es.getD j en0).gs.length (β3 (3*31007+1)))]++List.drop (0+5+1) Za) else bM V b.es EY))]),(2,[(vi 0),(.d bY)])]⟩)) (by kernel_rfl) ?_
 try dsimp only
 simp only[gZ,Nat.zero_add]
 refine⟨⟨by omega,by omega⟩,aK.jV ?_⟩
 intro β6 h6 a6 w6 g6 hd6
 have q1:=q0.next (Jb g6)
 obtain ⟨f1,f2,f3⟩:=g6.fix 1000003 (by decide)
 have f1:blk β6 1000003=blk β3 31007:=f1.trans (aQ ..)
 have f2:room β6 1000003=room β3 31007:=f2.trans (aF ..)
 have hb3:=g6.box 1000003 _ rfl
 have hv:=mJ (G:=h6) g6 (e:=1000003) (by decide) (aQ ..) (aF ..) (Nat.le_trans hm (Nat.le_of_eq (bH ..).symm)) rfl rfl (fun i=>lN (b.es.getD j en0).gs i) (fun _ _=>rfl) hp
 have g7:=g6.weaken (st':=Aa b (fA V (2*j+2) (p,room β3 31007)) j) (by
  refine AS.leZ [] [1] (b:=((T0∧T0∧T0∧T0∧T0∧T0∧True)∧T0∧((some [(.arr gq 7 (fun EY=>bif EY.beq j then DV.agg (List.take 5 (jD (b.es.getD j en0) (sv V (2*j+2) (b.es.getD j en0).gs.length) (sv V (2*j+3) (b.es.getD j en0).ah.length))++[DV.con (Value.slice p (b.es.getD j en0).gs.length (β3 (3*31007+1)))]++List.drop (5+1) (jD (b.es.getD j en0) (sv V (2*j+2) (b.es.getD j en0).gs.length) (sv V (2*j+3) (b.es.getD j en0).ah.length))) else bM V b.es EY))]):fO)=(some [(.arr gq 7 (bM (fA V (2*j+2) (p,β3 (3*31007+1))) b.es))])∧T0∧True)) (by kernel_rfl) (by kernel_rfl) ?_
  exact⟨⟨rfl,rfl,rfl,rfl,rfl,rfl,trivial⟩,rfl,by rw[←WJ hj],rfl,trivial⟩)
 have hlive:0<room β3 31007→Live β6 1000003 [.arr ku 4 (dX (b.es.getD j en0).gs)]:=fun h0=>by
  show 0<room β6 1000003
  rw[f2];exact h0
 refine K h6 _ β6 (upd β (2*j+2) (blk β3 31007) (room β3 31007) 0) (fA V (2*j+2) (p,room β3 31007)) a6 w6 (q1.grow (m:=2*j) ?_ (fun h0=>?_) (fun h0 s s1 s2 s3=>?_) (fun h0=>?_) (fun i hi _=>?_) (fun i hi _=>?_)) (fG g7) hd6
 ·rintro c ⟨s,l,hl,hv,rfl⟩
  rcases zq hl with ⟨rfl,rfl⟩|⟨rfl,rfl⟩|⟨rfl,rfl⟩
  ·exact⟨1,_,rfl,trivial,rfl⟩
  ·exact⟨8,_,rfl,hv,rfl⟩
  ·exact⟨2,_,rfl,trivial,rfl⟩
 ·have h1:=hb3.1 (hlive h0)
  have h2:=Own.lt (hlive h0) hb3.2
  rw[f1] at h1 h2
  refine⟨?_,h2,h1.2⟩
  exact(q1.apart _ ⟨1000003,_,rfl,hlive h0,f1⟩).1
 ·exact(q1.apart _ ⟨1000003,_,rfl,hlive h0,f1⟩).2 s s1 s2 s3
 ·rintro ⟨s,l,hl,hv,he⟩
  have he:=he.trans f1.symm
  rcases zq hl with ⟨rfl,rfl⟩|⟨rfl,rfl⟩|⟨rfl,rfl⟩
  ·exact absurd (g6.inj 1 1000003 _ _ rfl rfl trivial (hlive h0) he) (by decide)
  ·exact absurd (g6.inj 8 1000003 _ _ rfl rfl hv (hlive h0) he) (by decide)
  ·exact absurd (g6.inj 2 1000003 _ _ rfl rfl trivial (hlive h0) he) (by decide)
 ·obtain rfl:i=j:=by omega
  exact hv
 ·omega
noncomputable def WG (b:Bk) (V:Nat→Option Addr×Nat) (j:Nat):AS:=⟨regs Tryz.f44.ntmps [(1,.box 1 0),(2,.box 2 0),(3,.vec 8 7 0 b.es.length),(4,vi j),(17,vi b.es.length),(18,vi j),(34,.vec 8 7 0 b.es.length),(35,vi j),(42,.vec 43007 6 0 (b.es.getD j en0).ah.length)],[(43007,[.arr jh 6 (dN (b.es.getD j en0).ah)]),(1,[.d (di b.t),.vec 8 7 0 b.es.length]),(8,[.arr gU 7 (bM V b.es)]),(2,[.d (di 0),.d (.con (.slice none 0 0))])]⟩
theorem U5 {V:Nat→Option Addr×Nat} {es:List En} {j:Nat} (hj:j<es.length) {p:Option Addr×Nat}:(fun i=>bif Nat.beq i j then .agg (List.take 6 (jD (es.getD j en0) (sv V (2*j+2) (es.getD j en0).gs.length) (sv V (2*j+3) (es.getD j en0).ah.length))++[.con (.slice p.1 (es.getD j en0).ah.length p.2)]++List.drop 7 (jD (es.getD j en0) (sv V (2*j+2) (es.getD j en0).gs.length) (sv V (2*j+3) (es.getD j en0).ah.length))) else bM V es i)=bM (fA V (2*j+3) p) es:=by
 funext i
 have h:=Qb (V:=V) (b:=⟨0,es⟩) hj (x':=es.getD j en0) (p:=p) rfl rfl rfl rfl rfl i
 have hset:es.set j (es.getD j en0)=es:=by
  apply List.ext_getElem? 
  intro k
  by_cases c:j=k
  ·subst c
   rw[List.getElem?_set_self hj,List.getD,iy hj];rfl
  ·rw[List.getElem?_set_ne c]
 have h:_=bM (fA V (2*j+3) p) (es.set j (es.getD j en0)) i:=h
 rw[hset] at h
 exact h
theorem acp {b:Bk} {w0 w:World} {hh:IH} {on:Nat→Prop} {β1 β:Nat→Nat} {V:Nat→Option Addr×Nat} {j:Nat} (q:mY b w0 (2*j+1) hh on β V w) (hj:j<b.es.length) (hs:iY b.es) {R:Exit→Act→World→Prop} {its:List It}
  (K:∀(h':IH) (on':Nat→Prop) (tq β':Nat→Nat) (V':Nat→Option Addr×Nat) (a':Act) (w':World),mY b w0 (2*j+2) h' on' β' V' w'→aN h' ⟨on',tq⟩ w' h' (Aa b V' j) tq h' a'.tmps w'→a'.defers=[]→wpS Tryz.prog its R .normal a' w') :
  aH Tryz.prog hh ⟨on,β1⟩ w hh (cd Tryz.f44 [1,1,1,1,0,1,0,0,1,1,0,0,1,1] :: its) (Aa b V j) R:=by
 have Gh:bT hh ⟨on,β1⟩ (.d (.con (sv V (2*j+3) (b.es.getD j en0).ah.length))) (.d (iM (b.es.getD j en0).ah)):=by
  intro β h v hG _ r
  have r:v=_:=r
  subst r
  exact DV.rel.mono hG _ _ (q.WY j (Nat.le_refl _) hj)
 refine aH.qc (aj:=FV) follows (aaK (b.es.getD j en0).gs (b.es.getD j en0).ah) 10 (by kernel_rfl) ?_
 refine qR ((.d (.slc 6 (b.es.getD j en0).ah.length (dN (b.es.getD j en0).ah))):AV) (opsOf (aU (ak Tryz.f44) [1,1,1,1,0,1,0,0,1,1,0,0,1,1])) (fun Za Zb=>((((0≤(↑j:Int))∧((↑j:Int)<↑b.es.length))∧bT hh (Fr.mk on β1) (.d (.con (.slice (V (2*(0+(↑j:Int).toNat)+3)).fst (b.es.getD (0+(↑j:Int).toNat) en0).ah.length (V (2*(0+(↑j:Int).toNat)+3)).snd))) Za∧dV Tryz.prog hh 75 [Za] [] (.vec 7 6 0 (b.es.getD j en0).ah.length) [(7,[(.arr oC 6 (dN (b.es.getD j en0).ah))])])∧aK hh (Fr.mk on β1) w hh (iQ Tryz.prog Zb.toList 10 (Zb.toList.length-10) (wpS Tryz.prog its R)) .normal ⟨regs 47 [(1,(.box 1 0)),(2,(.box 2 0)),(3,(.vec 8 7 0 b.es.length)),(4,(vi (↑j))),(17,(vi (↑b.es.length))),(18,(vi (↑j))),(33,(.box 1 1)),(34,(.vec 8 7 0 b.es.length)),(35,(vi (↑j))),(36,(.box 1 1)),(37,(.vec 8 7 0 b.es.length)),(38,(vi (↑j))),(39,(.elem 8 7 (0+(↑j:Int).toNat) 0)),(40,(.elem 8 7 (0+(↑j:Int).toNat) 6)),(41,Za),(42,(.vec 43007 6 0 (b.es.getD j en0).ah.length))],[(43007,[(.arr oC 6 (dN (b.es.getD j en0).ah))]),(1,[(vi b.t),(.vec 8 7 0 b.es.length)]),(8,[(.arr gq 7 (bM V b.es))]),(2,[(vi 0),(.d bY)])]⟩)) (by kernel_rfl) ?_
 try dsimp only
 simp only[gZ,Nat.zero_add]
 refine⟨⟨⟨by omega,by omega⟩,Gh,YN _ (hs.2 j hj).2⟩,?_⟩
 intro β3 h3 a3 w3 g3 hd3
 have g4:=g3.weaken (st':=WG b V j) (by refine AS.leZ [] [] (b:=((T0∧T0∧T0∧T0∧T0∧T0∧T0∧T0∧T0∧True)∧T0∧T0∧T0∧T0∧True)) (by kernel_rfl) (by kernel_rfl) ?_;exact⟨⟨rfl,rfl,rfl,rfl,rfl,rfl,rfl,rfl,rfl,trivial⟩,rfl,rfl,rfl,rfl,trivial⟩)
 have q0:=q.next g4
 obtain ⟨p,hpv,hp,hm,g5⟩:=g4.shift (q:=42) (m:=(b.es.getD j en0).ah.length) (e:=1000003) (on:=fun c=>∃s l,(WG b V j).box s=some l∧Live β3 s l∧blk β3 s=c) (by kernel_rfl) (by kernel_rfl) (by kernel_rfl) (by kernel_rfl) fun s l q1 q2=>⟨s,l,q1,q2,rfl⟩
 refine(dQ.tree (aj:={ d:=bU }) ?_:dQ Tryz.prog hh _ w3 h3 (opsOf (aU (ak Tryz.f44) [1,1,1,1,0,1,0,0,1,1,0,0,1,1])).toList 10 (3+0) _ _) _ _ _ _ g5 hd3
 refine iZ (jD (b.es.getD (0+(↑j:Int).toNat) en0) (sv V (2*(0+(↑j:Int).toNat)+2) (b.es.getD (0+(↑j:Int).toNat) en0).gs.length) (sv V (2*(0+(↑j:Int).toNat)+3) (b.es.getD (0+(↑j:Int).toNat) en0).ah.length)) (fun Za=>(((0≤(↑j:Int))∧((↑j:Int)<↑b.es.length))∧aK hh (Fr.mk (fun c=>∃s l,(WG b V j).box s=some l∧Live β3 s l∧blk β3 s=c) (upd β3 1000003 (blk β3 43007) (room β3 43007) (many β3 43007))) w3 h3 (iQ Tryz.prog (opsOf (aU (ak Tryz.f44) [1,1,1,1,0,1,0,0,1,1,0,0,1,1])).toList (10+3) 0 (wpS Tryz.prog its R)) .normal ⟨regs 47 [(1,(.box 1 0)),(2,(.box 2 0)),(3,(.vec 8 7 0 b.es.length)),(4,(vi (↑j))),(17,(vi (↑b.es.length))),(18,(vi (↑j))),(34,(.vec 8 7 0 b.es.length)),(35,(vi (↑j))),(42,(.d (.con (.slice p (b.es.getD j en0).ah.length (β3 (3*43007+1)))))),(43,(.elem 8 7 (0+(↑j:Int).toNat) 0)),(44,(.elem 8 7 (0+(↑j:Int).toNat) 6))],[(1000003,[(.arr oC 6 (dN (b.es.getD j en0).ah))]),(1,[(vi b.t),(.vec 8 7 0 b.es.length)]),(8,[(.arr gq 7 (fun EY=>bif EY.beq (0+(↑j:Int).toNat) then DV.agg (List.take (0+6) Za++[DV.con (Value.slice p (b.es.getD j en0).ah.length (β3 (3*43007+1)))]++List.drop (0+6+1) Za) else bM V b.es EY))]),(2,[(vi 0),(.d bY)])]⟩)) (by kernel_rfl) ?_
 try dsimp only
 simp only[gZ,Nat.zero_add]
 refine⟨⟨by omega,by omega⟩,aK.jV ?_⟩
 intro β6 h6 a6 w6 g6 hd6
 have q1:=q0.next (Jb g6)
 obtain ⟨f1,f2,f3⟩:=g6.fix 1000003 (by decide)
 have f1:blk β6 1000003=blk β3 43007:=f1.trans (aQ ..)
 have f2:room β6 1000003=room β3 43007:=f2.trans (aF ..)
 have hb3:=g6.box 1000003 _ rfl
 have hv:=mJ (G:=h6) g6 (e:=1000003) (by decide) (aQ ..) (aF ..) (Nat.le_trans hm (Nat.le_of_eq (bH ..).symm)) rfl rfl (fun i=>kM (b.es.getD j en0).ah i) (fun _ _=>rfl) hp
 have g7:=g6.weaken (st':=Aa b (fA V (2*j+3) (p,room β3 43007)) j) (by
  refine AS.leZ [] [1] (b:=((T0∧T0∧T0∧T0∧T0∧T0∧True)∧T0∧((some [(.arr gq 7 (fun EY=>bif EY.beq j then DV.agg (List.take 6 (jD (b.es.getD j en0) (sv V (2*j+2) (b.es.getD j en0).gs.length) (sv V (2*j+3) (b.es.getD j en0).ah.length))++[DV.con (Value.slice p (b.es.getD j en0).ah.length (β3 (3*43007+1)))]++List.drop (6+1) (jD (b.es.getD j en0) (sv V (2*j+2) (b.es.getD j en0).gs.length) (sv V (2*j+3) (b.es.getD j en0).ah.length))) else bM V b.es EY))]):fO)=(some [(.arr gq 7 (bM (fA V (2*j+3) (p,β3 (3*43007+1))) b.es))])∧T0∧True)) (by kernel_rfl) (by kernel_rfl) ?_
  exact⟨⟨rfl,rfl,rfl,rfl,rfl,rfl,trivial⟩,rfl,by rw[←U5 hj],rfl,trivial⟩)
 have hlive:0<room β3 43007→Live β6 1000003 [.arr jh 6 (dN (b.es.getD j en0).ah)]:=fun h0=>by
  show 0<room β6 1000003
  rw[f2];exact h0
 refine K h6 _ β6 (upd β (2*j+3) (blk β3 43007) (room β3 43007) 0) (fA V (2*j+3) (p,room β3 43007)) a6 w6 (q1.grow (m:=2*j+1) ?_ (fun h0=>?_) (fun h0 s s1 s2 s3=>?_) (fun h0=>?_) (fun i hi _=>?_) (fun i hi _=>?_)) (fG g7) hd6
 ·rintro c ⟨s,l,hl,hv,rfl⟩
  rcases zq hl with ⟨rfl,rfl⟩|⟨rfl,rfl⟩|⟨rfl,rfl⟩
  ·exact⟨1,_,rfl,trivial,rfl⟩
  ·exact⟨8,_,rfl,hv,rfl⟩
  ·exact⟨2,_,rfl,trivial,rfl⟩
 ·have h1:=hb3.1 (hlive h0)
  have h2:=Own.lt (hlive h0) hb3.2
  rw[f1] at h1 h2
  refine⟨?_,h2,h1.2⟩
  exact(q1.apart _ ⟨1000003,_,rfl,hlive h0,f1⟩).1
 ·exact(q1.apart _ ⟨1000003,_,rfl,hlive h0,f1⟩).2 s s1 s2 s3
 ·rintro ⟨s,l,hl,hv,he⟩
  have he:=he.trans f1.symm
  rcases zq hl with ⟨rfl,rfl⟩|⟨rfl,rfl⟩|⟨rfl,rfl⟩
  ·exact absurd (g6.inj 1 1000003 _ _ rfl rfl trivial (hlive h0) he) (by decide)
  ·exact absurd (g6.inj 8 1000003 _ _ rfl rfl hv (hlive h0) he) (by decide)
  ·exact absurd (g6.inj 2 1000003 _ _ rfl rfl trivial (hlive h0) he) (by decide)
 ·omega
 ·obtain rfl:i=j:=by omega
  exact hv
structure wL (b:Bk) (w0:World) (h:IH) (β:Nat→Nat) (V:Nat→Option Addr×Nat) (w:World):Prop where
 hold:h.holds w
 ent:cO h gU 7 b.es.length (bM V b.es) (blk β 1) (room β 1) (sv V 1 b.es.length) w.heap[blk β 1]?
 gr:∀i,i<b.es.length→cO h ku 4 (b.es.getD i en0).gs.length (dX (b.es.getD i en0).gs) (blk β (2*i+2)) (room β (2*i+2)) (sv V (2*i+2) (b.es.getD i en0).gs.length) w.heap[blk β (2*i+2)]?
 ap:∀i,i<b.es.length→cO h jh 6 (b.es.getD i en0).ah.length (dN (b.es.getD i en0).ah) (blk β (2*i+3)) (room β (2*i+3)) (sv V (2*i+3) (b.es.getD i en0).ah.length) w.heap[blk β (2*i+3)]?
 new:∀s,1≤s→s<2*b.es.length+2→0<room β s→w0.heap.size≤blk β s∧blk β s<w.heap.size
 inj:∀s t,1≤s→s<2*b.es.length+2→1≤t→t<2*b.es.length+2→0<room β s→0<room β t→blk β s=blk β t→s=t
 kept:Kept (fun _=>False) w0 w
def o9 (b:Bk) (w0:World) (h:IH) (v:Value) (w:World):Prop:=∃β V,v=.agg #[.int .i64 b.t,sv V 1 b.es.length]∧wL b w0 h β V w
noncomputable abbrev yO:List It:=[.blk 0,cd Tryz.f44 [1,1,1,1,1]]
def I44 (b:Bk) (w0:World) (n:Nat) (a:Act) (w:World):Prop:=∃j hh on β1 β V,n=b.es.length-j∧j≤b.es.length∧mY b w0 (2*j) hh on β V w∧aN hh ⟨on,β1⟩ w hh (Hf b V j) β1 hh a.tmps w∧a.defers=[]
theorem Yj {b:Bk} {w0 w:World} {h0 hh:IH} (hw0:h0.holds w0) {on:Nat→Prop} {β1 β:Nat→Nat} {V:Nat→Option Addr×Nat} {j:Nat} (q:mY b w0 (2*j) hh on β V w) (hj:b.es.length≤j) {β2:Nat→Nat} {h2:IH} {a:Act} {w2:World} (g:aN hh ⟨on,β1⟩ w hh (Hf b V j) β2 h2 a.tmps w2) (hd:a.defers=[]) :
  wpS Tryz.prog [cd Tryz.f44 [1,1,1,1,1]] (aO Tryz.prog Tryz.f44 (o9 b w0 h0)) .normal a w2:=by
 have hA:aH Tryz.prog hh ⟨on,β1⟩ w hh [cd Tryz.f44 [1,1,1,1,1]] (Hf b V j) (aO Tryz.prog Tryz.f44 (o9 b w0 h0)):=by
  refine dH (aj:=FV) follows (fun _=>none) (cuts:=[]) (n:=1000) ?_
  refine iq (b:=aK hh (Fr.mk on β1) w hh (aO Tryz.prog Tryz.f44 (o9 b w0 h0)) .ret ⟨regs 47 [(1,(.box 1 0)),(2,(.box 2 0)),(3,(.vec 8 7 0 b.es.length)),(17,(vi (↑b.es.length))),(18,(vi (↑j))),(46,(.agg [(vi b.t),(.vec 8 7 0 b.es.length)]))],[(1,[(vi b.t),(.vec 8 7 0 b.es.length)]),(8,[(.arr gq 7 (bM V b.es))]),(2,[(vi b.t),(.vec 8 7 0 b.es.length)])]⟩) (by kernel_rfl) ?_
  refine aK.ret (x:=.agg [.d (di b.t),.vec 8 7 0 b.es.length]) rfl rfl fun β4 h4 tm w4 v g4 hv=>?_
  have q2:=q.next g4
  obtain ⟨vs,rfl,v0,vs1,rfl,r0,v1,vs2,rfl,⟨hm1,hm2,p,hp,hpp⟩,r2⟩:=hv
  have r2:vs2=[]:=r2
  have r0:v0=.int .i64 b.t:=r0
  subst r2 r0
  rw[Nat.sub_zero] at hp
  subst hp
  obtain ⟨b1,b2⟩:=g4.box 8 _ rfl
  have hO:dA h4 gU 7 (bM V b.es) (room β4 8) (many β4 8) w4.heap[blk β4 8]?:=b2
  have hpp:p=some ⟨blk β4 8,0,none⟩∨room β4 8=0:=hpp.imp (fun e=>by simpa using e) fun e=>by omega
  have h0w:h0.holds w4:=wX hw0 q2.kept fun _ hc=>hc.elim
  have hex:bM (fA V 1 (p,room β4 8)) b.es=bM V b.es:=by
   funext i
   unfold bM
   rw[dY _ (by omega),dY _ (by omega)]
  have bo:∀t,t≠1→blk (upd β 1 (blk β4 8) (room β4 8) 0) t=blk β t∧room (upd β 1 (blk β4 8) (room β4 8) 0) t=room β t:=fun t ht=>⟨aZ ht,bI ht⟩
  have h8:0<room β4 8→w0.heap.size≤blk β4 8∧∀s,2≤s→s<2*j+2→0<room β s→blk β4 8≠blk β s:=fun h0'=>q2.apart _ ⟨8,_,rfl,h0',rfl⟩
  have h8l:0<room β4 8→blk β4 8<w4.heap.size:=fun h0'=>Own.lt (show Live β4 8 [.arr gU 7 (bM V b.es)] from h0') b2
  refine⟨upd β 1 (blk β4 8) (room β4 8) 0,fA V 1 (p,room β4 8),by rw[jv],⟨h0w,?_,fun i hi=>?_,fun i hi=>?_,fun s s1 s2 s3=>?_,fun s t s1 s2 t1 t2 hs ht he=>?_,q2.kept⟩⟩
  ·rw[aQ,aF,jv,hex]
   exact⟨⟨p,rfl,hpp⟩,(dA.less hO rfl (by omega) fun _ _=>rfl).flat fun i _=>mO V b.es i⟩
  ·rw[(bo _ (by omega)).1,(bo _ (by omega)).2,dY _ (by omega)]
   exact(q2.gr i (by omega) hi).flat fun k _=>lN _ k
  ·rw[(bo _ (by omega)).1,(bo _ (by omega)).2,dY _ (by omega)]
   exact(q2.ap i (by omega) hi).flat fun k _=>kM _ k
  ·by_cases e:s=1
   ·subst e
    rw[aF] at s3
    rw[aQ]
    exact⟨(h8 s3).1,h8l s3⟩
   ·rw[(bo s e).2] at s3
    rw[(bo s e).1]
    obtain ⟨n1,n2,_⟩:=q2.new s (by omega) (by omega) s3
    exact⟨n1,n2⟩
  ·by_cases e1:s=1
   ·by_cases e2:t=1
    ·rw[e1,e2]
    ·subst e1
     rw[aF] at hs
     rw[(bo t e2).2] at ht
     rw[aQ,(bo t e2).1] at he
     exact absurd he ((h8 hs).2 t (by omega) (by omega) ht)
   ·by_cases e2:t=1
    ·subst e2
     rw[aF] at ht
     rw[(bo s e1).2] at hs
     rw[aQ,(bo s e1).1] at he
     exact absurd he.symm ((h8 ht).2 s (by omega) (by omega) hs)
    ·rw[(bo s e1).2] at hs
     rw[(bo t e2).2] at ht
     rw[(bo s e1).1,(bo t e2).1] at he
     exact q2.inj s t (by omega) (by omega) (by omega) (by omega) hs ht he
 exact hA β2 h2 a w2 g hd
theorem UF {b:Bk} {w0 w:World} {h0 hh:IH} (hw0:h0.holds w0) {on:Nat→Prop} {β1 β:Nat→Nat} {V:Nat→Option Addr×Nat} {j:Nat} (q:mY b w0 (2*j) hh on β V w) (hs:iY b.es) (hj:j≤b.es.length) {a:Act} (g:aN hh ⟨on,β1⟩ w hh (Hf b V j) β1 hh a.tmps w) (hd:a.defers=[]) :
  wpS Tryz.prog [cd Tryz.f44 [1,1,1,1,0,1,0,0]] (ng Tryz.prog yO (aO Tryz.prog Tryz.f44 (o9 b w0 h0)) (I44 b w0) (b.es.length-j)) .normal a w:=by
 have hA:aH Tryz.prog hh ⟨on,β1⟩ w hh [cd Tryz.f44 [1,1,1,1,0,1,0,0]] (Hf b V j) (ng Tryz.prog yO (aO Tryz.prog Tryz.f44 (o9 b w0 h0)) (I44 b w0) (b.es.length-j)):=by
  refine dH (aj:=FV) follows (fun _=>none) (cuts:=[7]) (n:=1000) ?_
  refine qR (decide ((↑j:Int)<↑b.es.length)) (ng Tryz.prog yO (aO Tryz.prog Tryz.f44 (o9 b w0 h0)) (I44 b w0) (b.es.length-j)) (fun Za Zb=>(((Za=true)→aH Tryz.prog hh (Fr.mk on β1) w hh [cd Tryz.f44 [1,1,1,1,0,1,0,0,1,1,0,0,1],(.blk 1),cd Tryz.f44 [1,1,1,1,0,1,0,0,1,1,1]] ⟨regs 47 [(1,(.box 1 0)),(2,(.box 2 0)),(3,(.vec 8 7 0 b.es.length)),(4,(vi (↑j))),(17,(vi (↑b.es.length))),(18,(vi (↑j))),(19,(vb Za)),(20,(vi (↑j)))],[(1,[(vi b.t),(.vec 8 7 0 b.es.length)]),(8,[(.arr gq 7 (bM V b.es))]),(2,[(vi 0),(.d bY)])]⟩ Zb)∧((Za=false)→aK hh (Fr.mk on β1) w hh Zb (.exit 0) ⟨regs 47 [(1,(.box 1 0)),(2,(.box 2 0)),(3,(.vec 8 7 0 b.es.length)),(17,(vi (↑b.es.length))),(18,(vi (↑j))),(19,(vb Za))],[(1,[(vi b.t),(.vec 8 7 0 b.es.length)]),(8,[(.arr gq 7 (bM V b.es))]),(2,[(vi 0),(.d bY)])]⟩))) (by kernel_rfl) ?_
  refine⟨fun c=>?_,fun c=>?_⟩
  ·have hj2:j<b.es.length:=by have:=dW c;omega
   refine aH.weaken (st':=Aa b V j) ?_ ?_
   ·exact AS.bJ (by kernel_rfl)
   refine aH.seq (a:=aU (ak Tryz.f44) [1,1,1,1,0,1,0,0,1,1,0,0,1,0]) (b:=aU (ak Tryz.f44) [1,1,1,1,0,1,0,0,1,1,0,0,1,1]) (by kernel_rfl) ?_
   refine ab6 q hj2 hs fun h' on' tq β' V' a' w' q' g' hd'=>?_
   refine acp q' hj2 hs (fun h' on' tq β' V' a' w' q' g' hd'=>?_) tq h' a' w' g' hd'
   have hB:aH Tryz.prog h' ⟨on',tq⟩ w' h' [.blk 1,cd Tryz.f44 [1,1,1,1,0,1,0,0,1,1,1]] (Aa b V' j) (ng Tryz.prog yO (aO Tryz.prog Tryz.f44 (o9 b w0 h0)) (I44 b w0) (b.es.length-j)):=by
    refine dH (aj:=FV) follows (fun _=>none) (cuts:=[]) (n:=1000) ?_
    refine iq (b:=((I64 (↑j+1))∧aK h' (Fr.mk on' tq) w' h' (ng Tryz.prog yO (aO Tryz.prog Tryz.f44 (o9 b w0 h0)) (I44 b w0) (b.es.length-j)) .normal ⟨regs 47 [(1,(.box 1 0)),(2,(.box 2 0)),(3,(.vec 8 7 0 b.es.length)),(4,(vi (↑j))),(17,(vi (↑b.es.length))),(18,(vi (↑j+1))),(45,(vi (↑j+1)))],[(1,[(vi b.t),(.vec 8 7 0 b.es.length)]),(8,[(.arr gq 7 (bM V' b.es))]),(2,[(vi 0),(.d bY)])]⟩)) (by kernel_rfl) ?_
    have hl:=hs.1
    refine⟨⟨by omega,by omega⟩,?_⟩
    intro β4 h4 a4 w4 g4 hd4
    have g5:=g4.weaken (st':=Hf b V' (j+1)) (by refine AS.leZ [] [] (b:=((T0∧T0∧T0∧T0∧T0∧True)∧T0∧T0∧T0∧True)) (by kernel_rfl) (by kernel_rfl) ?_;exact⟨⟨rfl,rfl,rfl,rfl,rfl,trivial⟩,rfl,rfl,rfl,trivial⟩)
    exact⟨b.es.length-(j+1),by omega,j+1,h4,_,β4,β',V',rfl,hj2,q'.next g5,fG g5,hd4⟩
   exact hB tq h' a' w' g' hd'
  ·intro β2 h2 a2 w2 g2 hd2
   show wpS Tryz.prog yO (aO Tryz.prog Tryz.f44 (o9 b w0 h0)) (.exit 0) a2 w2
   refine mP (k:=yO) ?_
   show wpS Tryz.prog [cd Tryz.f44 [1,1,1,1,1]] (aO Tryz.prog Tryz.f44 (o9 b w0 h0)) .normal a2 w2
   exact Yj hw0 q (by have:=of_decide_eq_false c;omega) (g2.weaken (st':=Hf b V j) (by refine AS.leZ [] [] (b:=((T0∧T0∧T0∧T0∧T0∧True)∧T0∧T0∧T0∧True)) (by kernel_rfl) (by kernel_rfl) ?_;exact⟨⟨rfl,rfl,rfl,rfl,rfl,trivial⟩,rfl,rfl,rfl,trivial⟩)) hd2
 exact hA β1 hh a w g hd
abbrev PC:Type:=Option Addr×Nat
def QK (W:Nat→PC×PC) (s:Nat):PC:=if s % 2=0 then (W (s / 2-1)).1 else (W ((s-3) / 2)).2
theorem SL (W:Nat→PC×PC) (i:Nat):QK W (2*i+2)=(W i).1:=by
 unfold QK
 rw[if_pos (by omega),show (2*i+2) / 2-1=i by omega]
theorem Ug (W:Nat→PC×PC) (i:Nat):QK W (2*i+3)=(W i).2:=by
 unfold QK
 rw[if_neg (by omega),show (2*i+3-3) / 2=i by omega]
theorem XO {h:IH} {x:En} {v:Value} (r:DV.rel h (AY x) v):∃q:PC×PC,DV.rel h (kT x.gs) (.slice q.1.1 x.gs.length q.1.2)∧DV.rel h (iM x.ah) (.slice q.2.1 x.ah.length q.2.2)∧DV.rel h (.agg (jD x (.slice q.1.1 x.gs.length q.1.2) (.slice q.2.1 x.ah.length q.2.2))) v:=by
 obtain ⟨vs,rfl,a1,v1,rfl,r1,a2,v2,rfl,r2,a3,v3,rfl,r3,a4,v4,rfl,r4,a5,v5,rfl,r5,a6,v6,rfl,r6,a7,v7,rfl,r7,h0⟩:=r
 obtain ⟨p,c,e6,r6'⟩:=r6
 obtain ⟨p',c',e7,r7'⟩:=r7
 refine⟨((p,c),(p',c')),⟨p,c,rfl,r6'⟩,⟨p',c',rfl,r7'⟩,_,rfl,a1,_,rfl,r1,a2,_,rfl,r2,a3,_,rfl,r3,a4,_,rfl,r4,a5,_,rfl,r5,a6,_,rfl,e6,a7,_,rfl,e7,h0⟩
theorem ZM {h:IH} {c m:Nat} {o:Option Obj} {f:Nat→DV} {es:List En} (r:dA h gU 7 f c m o) (hf:∀i,i<es.length→f i=dM es i) (hz:∀i,es.length≤i→f i=.agg (jD en0 EO EO)) (hm:es.length≤m) :
  ∃V:Nat→PC,dA h gU 7 (bM V es) c m o∧∀i,i<es.length→DV.rel h (kT (es.getD i en0).gs) (sv V (2*i+2) (es.getD i en0).gs.length)∧DV.rel h (iM (es.getD i en0).ah) (sv V (2*i+3) (es.getD i en0).ah.length):=by
 obtain ⟨h1,h2⟩:=r
 rcases h2 with h2|⟨fr,vs,ho,q1,q2,q3,q4⟩
 ·have:es.length=0:=by omega
  exact⟨fun _=>(none,0),⟨h1,.inl h2⟩,fun i hi=>by omega⟩
 ·have hx:∀i,∃q:PC×PC,(i<m→∃v,DV.rel h (.agg (jD (es.getD i en0) (.slice q.1.1 (es.getD i en0).gs.length q.1.2) (.slice q.2.1 (es.getD i en0).ah.length q.2.2))) v∧mQ gU.agg v∧v.cells.size=7∧∀j,j<7→vs[i*7+j]?=v.cells[j]?)∧(i<es.length→DV.rel h (kT (es.getD i en0).gs) (.slice q.1.1 (es.getD i en0).gs.length q.1.2)∧DV.rel h (iM (es.getD i en0).ah) (.slice q.2.1 (es.getD i en0).ah.length q.2.2)):=by
   intro i
   by_cases hi:i<es.length
   ·obtain ⟨v,r,rest⟩:=q4 i (by omega)
    rw[hf i hi] at r
    obtain ⟨q,g1,g2,g3⟩:=XO r
    exact⟨q,fun _=>⟨v,g3,by simpa using rest⟩,fun _=>⟨g1,g2⟩⟩
   ·refine⟨((none,0),(none,0)),fun hm=>?_,fun hc=>absurd hc hi⟩
    obtain ⟨v,r,rest⟩:=q4 i hm
    rw[hz i (by omega)] at r
    have e0:es.getD i en0=en0:=by rw[List.getD,List.getElem?_eq_none (by omega)];rfl
    rw[e0]
    exact⟨v,r,by simpa using rest⟩
  have ⟨W,hW⟩:=Classical.axiomOfChoice hx
  refine⟨QK W,⟨h1,.inr ⟨fr,vs,ho,q1,q2,q3,fun i hi=>?_⟩⟩,fun i hi=>?_⟩
  ·obtain ⟨v,g1,g2⟩:=(hW i).1 hi
   refine⟨v,?_,by simpa using g2⟩
   unfold bM
   simp only[sv,SL,Ug]
   exact g1
  ·simp only[sv,SL,Ug]
   exact(hW i).2 hi
theorem aau {F:Fr} {w0:World} {h0 h:IH} {st st':AS} {β:Nat→Nat} {tm:Array Value} (g:aN G F w0 h0 st β h tm w) (hr:st'.regs=st.regs) (hb:∀s l',st'.box s=some l'→∃l,st.box s=some l∧(Live β s l'→Live β s l)∧(Own β h s l w.heap[blk β s]?→Own β h s l' w.heap[blk β s]?)):aN G F w0 h0 st' β h tm w:=by
 refine⟨g.glob,g.holds,g.ext,g.old,g.kept,g.fix,by rw[hr];exact g.size,by rw[hr];exact g.regs,fun s l' hl=>?_,fun s s' l l' hl hl' hv hv' he=>?_⟩
 ·obtain ⟨l,h1,h2,h3⟩:=hb s l' hl
  exact⟨fun hv=>(g.box s l h1).1 (h2 hv),h3 (g.box s l h1).2⟩
 ·obtain ⟨m,h1,h2,_⟩:=hb s l hl
  obtain ⟨m',h1',h2',_⟩:=hb s' l' hl'
  exact g.inj s s' m m' h1 h1' (h2 hv) (h2' hv') he
abbrev zE:DV:=DV.agg (List.map DV.con [Value.string (ByteArray.mk #[]),Value.string (ByteArray.mk #[]),Value.int IntKind.i64 0,Value.int IntKind.i64 0,Value.string (ByteArray.mk #[]),Value.slice none 0 0,Value.slice none 0 0])
noncomputable def adu (b:Bk):AS:=⟨regs Tryz.f44.ntmps [(1,.box 1 0),(2,.box 2 0),(3,.vec 8 7 0 b.es.length),(17,vi b.es.length),(18,vi 0)],[(1,[.d (di b.t),.vec 8 7 0 b.es.length]),(8,[.arr gU 7 (fun i=>bif Nat.blt i 0 then zE else bif Nat.blt i (0+min b.es.length b.es.length) then dM b.es (i-0) else zE)]),(2,[.d (di 0),.d (.con (.slice none 0 0))])]⟩
theorem acu (b:Bk) (hs:iY b.es) (hw:G.holds w) {u:Value} (hu:DV.rel G (eY b) u):Calls Tryz.prog 44 #[u] w fun r w'=>∃v,r=.returned v∧o9 b w G v w':=by
 have g:=aN.bare (G:=G) (rs:=[.d (eY b)]) (β:=fun _=>0) (tm:=#[u]) (IH.le.refl G) hw rfl (fun t x hx=>by
  rcases t with _|t
  ·simp at hx;subst hx;exact⟨_,rfl,hu⟩
  ·simp at hx) (fun _=>False)
 refine Calls.Af Tryz.func44 rfl g ?_
 refine dH (aj:=FV) follows (fun _=>none) (cuts:=[]) (n:=1000) ?_
 refine qR (List.map DV.con [Value.string (ByteArray.mk #[]),Value.string (ByteArray.mk #[]),Value.int IntKind.i64 0,Value.int IntKind.i64 0,Value.string (ByteArray.mk #[]),Value.slice none 0 0,Value.slice none 0 0]) ((.vec 8 7 0 (↑b.es.length:Int).toNat):AV) (fun Za Zb=>(((↑b.es.length:Int)=↑b.es.length∧(0≤(↑b.es.length:Int))∧((↑112:Int) * ↑b.es.length≤281474976710656)∧((↑b.es.length:Int)≤9223372036854775807))∧(∀(i:Nat),i<min b.es.length (↑b.es.length:Int).toNat→nI true 7 (dM b.es i)=true)∧aH Tryz.prog G (Fr.mk (fun x=>False) fun x=>0) w G [cd Tryz.f44 [1,1,1,1,0,1,0],(.blk 0),cd Tryz.f44 [1,1,1,1,1]] ⟨regs 47 [(0,(.d (.agg [(di b.t),(.slc 7 b.es.length (dM b.es))]))),(1,(.box 1 0)),(2,(.box 2 0)),(3,Zb),(5,(.box 1 1)),(6,(.d (.slc 7 b.es.length (dM b.es)))),(7,(vi (↑b.es.length))),(8,Zb),(9,Zb),(10,(.box 1 1)),(11,(.d (.slc 7 b.es.length (dM b.es)))),(12,(vi (↑(min b.es.length (↑b.es.length:Int).toNat)))),(13,Zb),(14,(.box 1 1)),(15,(.box 1 1)),(16,Zb),(17,(vi (↑(↑b.es.length:Int).toNat))),(18,(vi 0))],[(8,[(.arr gq 7 (fun i=>bif i.blt 0 then DV.agg Za else bif i.blt (0+min b.es.length (↑b.es.length:Int).toNat) then dM b.es (i-0) else DV.agg Za))]),(2,[(vi 0),(.d bY)]),(1,[(vi b.t),Zb])]⟩ (aO Tryz.prog Tryz.f44 (o9 b w G)))) (by kernel_rfl) ?_
 try dsimp only
 simp only[gZ]
 have hl:=hs.1
 refine⟨⟨trivial,by omega,by omega,by omega⟩,fun i _=>rfl,?_⟩
 refine aH.weaken (st':=adu b) ?_ ?_
 ·exact AS.bJ (by kernel_rfl)
 intro β1 h1 a w1 g1 hd
 have hO:dA h1 gU 7 (fun i=>bif Nat.blt i 0 then zE else bif Nat.blt i (0+min b.es.length b.es.length) then dM b.es (i-0) else zE) (room β1 8) (many β1 8) w1.heap[blk β1 8]?:=(g1.box 8 _ rfl).2
 obtain ⟨v3,_,hm1,_⟩:=g1.regs 3 (.vec 8 7 0 b.es.length) rfl
 obtain ⟨V,hV,hold⟩:=ZM (es:=b.es) hO (fun i hi=>by
  rw[show Nat.blt i 0=false from rfl,cond_false,show Nat.blt i (0+min b.es.length b.es.length)=true from by rw[Nat.blt_eq];omega,cond_true,Nat.sub_zero]) (fun i hi=>by
  rw[show Nat.blt i 0=false from rfl,cond_false,show Nat.blt i (0+min b.es.length b.es.length)=false from by rw[Bool.eq_false_iff,ne_eq,Nat.blt_eq];omega,cond_false];rfl) (by omega)
 have hkk:Kept (fun _=>False) w w1:=g1.kept
 have g2:=aau (st':=Hf b V 0) g1 rfl (fun s l' hl'=>by
  simp only[Hf,AS.box,Go.Ab.look] at hl'
  by_cases e1:(1:Nat)=s
  ·subst e1;simp at hl';subst hl';exact⟨_,rfl,id,id⟩
  ·rw[aP e1,cond_false] at hl'
   by_cases e2:(8:Nat)=s
   ·subst e2;simp at hl';subst hl';exact⟨_,rfl,id,fun _=>hV⟩
   ·rw[aP e2,cond_false] at hl'
    by_cases e3:(2:Nat)=s
    ·subst e3;simp at hl';subst hl';exact⟨_,rfl,id,id⟩
    ·rw[aP e3,cond_false] at hl';cases hl')
 have q:mY b w (2*0) h1 (fun c=>∃s l,(Hf b V 0).box s=some l∧Live β1 s l∧blk β1 s=c) (fun _=>0) V w1:=by
  refine⟨fun i hi=>absurd hi (by omega),fun i hi=>absurd hi (by omega),fun i _ hi=>(hold i hi).1,fun i _ hi=>(hold i hi).2,fun s q1 q2=>absurd q2 (by omega),fun s t q1 q2=>absurd q2 (by omega),?_,hkk⟩
  rintro c ⟨s,l,hl,hv,rfl⟩
  exact⟨((g2.box s l hl).1 hv).1.resolve_left id,fun t t1 t2=>absurd t2 (by omega)⟩
 refine yD (c:=aU (ak Tryz.f44) [1,1,1,1,0,1,0,0]) (by kernel_rfl) (I44 b w) (b.es.length-0) ⟨0,h1,_,β1,_,V,rfl,Nat.zero_le _,q,fG g2,hd⟩ ?_
 rintro n a2 w2 ⟨j,hh,on,β2,β,V,rfl,hj,q,g,hd2⟩
 exact UF hw q hs hj g hd2
theorem qy {P:Program} {F:Fr} {w0:World} {h0:IH} {fn:Func} {R:Value→World→Prop} {e:Exit} {st:AS} {x y:AV} (he:vX e=true) (hr:iP P st fn.results.toList=some [x,y])
  (h:∀(β:Nat→Nat) (k:IH) (tm:Array Value) (w:World) (v u:Value),aN G F w0 h0 st β k tm w→x.rel β k v→y.rel β k u→R (.tuple #[v,u]) w):aK G F w0 h0 (aO P fn R) e st:=by
 intro β k a w g hd
 obtain ⟨us,hrun,hrs⟩:=rM (P:=P) g hr
 obtain ⟨v,us',rfl,hx,u,XW,rfl,hy,h0'⟩:=hrs
 have h0':XW=[]:=h0'
 subst h0'
 refine⟨he,hd,.tuple #[v,u],?_,h β k a.tmps w v u g hx hy⟩
 simp only[results,Sem.run_bind]
 rw[Array.mapM_eq_mapM_toList,Sem.run_map]
 erw [hrun]
 rfl
def abR (b:Bk) (e:Ev):eU:={ d:=fun f _=>bif Nat.beq f 32 then some (db (dh aS b)) else bif Nat.beq f 18 then some (db (aS e)) else none }
def R14 (b:Bk) (e:Ev) (w:World) (h:IH) (v:Value) (w':World):Prop:=∃u k,v=.tuple #[u,.int .i64 (uI aS b e)]∧DV.rel k (eY (wV aS b e)) u∧h.le k∧k.holds w'∧Kept (fun _=>False) w w'∧∀c,c<w.heap.size→(∀o,k.cell c o=h.cell c o)∧k.obj c=h.obj c
noncomputable def aaS (p:Value) (code:Int):AS:=⟨regs Tryz.f14.ntmps [(4,.box 4 0),(6,.d (.con p)),(23,.d (di code))],[(4,[.d (di 0),.d (.con (.slice none 0 0))])]⟩
noncomputable def ac8 (p:Value) (code:Int):AS:=⟨regs Tryz.f14.ntmps [(4,.box 4 0),(6,.d (.con p)),(7,.d (di code))],[(4,[.d (di 0),.d (.con (.slice none 0 0))])]⟩
def adv (b:Bk):Nat→Option AV
 | 28=>some (.d (.ptr (iD b)))
 | _=>none
theorem acI {b bX:Bk} {e:Ev} {w0 w:World} {h0 k:IH} {F:Fr} {p:Value} {code:Int} (hp:DV.rel k (.ptr (iD bX)) p) (hon:∀c,F.on c→w0.heap.size≤c) (hk:Kept (fun _=>False) w0 w) (hle:h0.le k) (hold:∀c,c<w0.heap.size→(∀o,k.cell c o=h0.cell c o)∧k.obj c=h0.obj c) (hc:code=uI aS b e) (hX:code=0→bX=wV aS b e) :
  dQ Tryz.prog k F w k (opsOf (aU (ak Tryz.f14) [1,1,1,0,0])).toList 3 (1+0) (aaS p code) (wpS Tryz.prog [cd Tryz.f14 [1,1,1,0,1],cd Tryz.f14 [1,1,1,1]] (aO Tryz.prog Tryz.f14 (R14 b e w0 h0))):=by
 have hfin:∀{st:AS} {β4:Nat→Nat} {k4:IH} {tm:Array Value} {w4:World} {u:Value},aN k F w k st β4 k4 tm w4→DV.rel k4 (eY (wV aS b e)) u→R14 b e w0 h0 (.tuple #[u,.int .i64 code]) w4:=by
  intro st β4 k4 tm w4 u g hu
  refine⟨u,k4,by rw[hc],hu,hle.trans g.glob,g.holds,gG ((hk.mono fun _ hc=>hc.elim).trans (g.kept.mono fun c hc=>.inr (hon c hc))),fun c hlt=>?_⟩
  obtain ⟨o1,o2⟩:=g.old c (Nat.lt_of_lt_of_le hlt hk.size) (fun hc=>by have:=hon c hc;omega)
  exact⟨fun o=>(o1 o).trans ((hold c hlt).1 o),o2.trans (hold c hlt).2⟩
 refine dQ.tree (aj:={ d:=bU }) ?_
 refine iq (b:=aK k F w k (iQ Tryz.prog (opsOf (aU (ak Tryz.f14) [1,1,1,0,0])).toList (3+1) 0 (wpS Tryz.prog [cd Tryz.f14 [1,1,1,0,1],cd Tryz.f14 [1,1,1,1]] (aO Tryz.prog Tryz.f14 (R14 b e w0 h0)))) .normal ⟨regs 32 [(4,(.box 4 0)),(6,(.d (.con p))),(7,(vi code)),(23,(vi code))],[(4,[(vi 0),(.d bY)])]⟩) (by kernel_rfl) ?_
 refine aK.jV ?_
 refine aH.weaken (st':=ac8 p code) ?_ ?_
 ·exact AS.bJ (by kernel_rfl)
 refine dH (aj:={ d:=bU }) follows (adv bX) (cuts:=[]) (n:=1000) ?_
 refine iZ ((.d (.ptr [(di bX.t),(.slc 7 bX.es.length (dM bX.es))])):AV) (fun Za=>((((code != 0)=true)→aK k F w k (aO Tryz.prog Tryz.f14 (R14 b e w0 h0)) .ret ⟨regs 32 [(4,(.box 4 0)),(5,(vi code)),(6,(.d (.con p))),(7,(vi code)),(24,(vi code)),(25,(vb (code != 0))),(26,(.d (.agg [(di 0),bY]))),(27,(vi code))],[(4,[(vi 0),(.d bY)])]⟩)∧(((code != 0)=false)→(bT k F (.d (.con p)) Za∧aK k F w k (aO Tryz.prog Tryz.f14 (R14 b e w0 h0)) .ret ⟨regs 32 [(4,(.box 4 0)),(5,(vi 0)),(6,(.d (.con p))),(7,(vi code)),(24,(vi code)),(25,(vb (code != 0))),(28,Za),(29,Za),(30,Za),(31,(.d (.agg [(di bX.t),(.slc 7 bX.es.length (dM bX.es))])))],[(4,[(vi bX.t),(.d (.slc 7 bX.es.length (dM bX.es)))])]⟩)))) (by kernel_rfl) ?_
 refine⟨fun c=>?_,fun c=>⟨fun β3 h3 v hG _ r=>?_,?_⟩⟩
 ·have c:code≠0:=by simpa using c
  have hb:wV aS b e=eP:=by unfold wV;rw[if_neg (by rw[←hc];exact c)]
  refine qy (x:=.d (.agg [di 0,.con (.slice none 0 0)])) (y:=.d (di code)) rfl rfl fun β3 k3 tm w3 v u g3 hv hu=>?_
  have hu:u=.int .i64 code:=hu
  subst hu
  refine hfin g3 ?_
  rw[hb]
  obtain ⟨vs,rfl,v0,vs1,rfl,r0,v1,vs2,rfl,r1,r2⟩:=hv
  exact⟨_,rfl,_,_,rfl,r0,_,_,rfl,⟨none,0,r1,Nat.le_refl _,.inl rfl⟩,r2⟩
 ·have r:v=_:=r
  subst r
  exact DV.rel.mono hG _ _ hp
 ·have c:code=0:=by simpa using c
  refine qy (x:=.d (eY bX)) (y:=.d (di 0)) rfl rfl fun β3 k3 tm w3 v u g3 hv hu=>?_
  have hu:u=.int .i64 0:=hu
  subst hu
  have:=hfin (u:=v) g3 (by rw[←hX c];exact hv)
  rw[c] at this
  exact this
noncomputable def Xq (p:Value) (e:Ev):AS:=⟨regs Tryz.f14.ntmps [(4,.box 4 0),(6,.d (.con p)),(21,.d (.con p)),(22,.d (fQ e))],[(4,[.d (di 0),.d (.con (.slice none 0 0))])]⟩
noncomputable def Xz (p:Value):AS:=⟨regs Tryz.f14.ntmps [(4,.box 4 0),(6,.d (.con p))],[(4,[.d (di 0),.d (.con (.slice none 0 0))])]⟩
theorem acv {b:Bk} {e:Ev} {w0 w:World} {h0 h1:IH} {on:Nat→Prop} {β1 β:Nat→Nat} {V:Nat→Option Addr×Nat} (hB:bP h1 β V b w) (hs:iY b.es) (hb:qX b.es) (hf:b.es.length≤256) (hv:dh aS b=true) (hok:aS e=true) (hon:∀c,on c→w0.heap.size≤c∧¬gy β b.es.length c) (hnew:∀c,gy β b.es.length c→w0.heap.size≤c) (hk:Kept (fun _=>False) w0 w) (hle:h0.le h1) (hold:∀c,c<w0.heap.size→(∀o,h1.cell c o=h0.cell c o)∧h1.obj c=h0.obj c) :
  dQ Tryz.prog h1 ⟨on,β1⟩ w h1 (opsOf (aU (ak Tryz.f14) [1,1,1,0,0])).toList 2 (1+1) (Xq (dD β) e) (wpS Tryz.prog [cd Tryz.f14 [1,1,1,0,1],cd Tryz.f14 [1,1,1,1]] (aO Tryz.prog Tryz.f14 (R14 b e w0 h0))):=by
 refine dQ.call (c:={ callee:=.value (.func 45),args:=#[.tmp 21,.tmp 22],argTypes:=#[73,26] }) (g:=45) (a1:=[]) (a2:=[]) (γ:=none) rfl rfl rfl (by kernel_rfl) (fun _ _ _ hq=>by cases hq) (by kernel_rfl) Tryz.call45 ?_
 intro β2 h2 a w3 vs g1 hd hvs
 obtain ⟨v0,vs1,rfl,r0,v1,vs2,rfl,r1,r3⟩:=hvs
 have r3:vs2=[]:=r3
 subst r3
 have r0:v0=dD β:=r0
 subst r0
 have r1:DV.rel h2 (fQ e) v1:=r1
 have hB3:=hB.next g1 fun c hc=>(hon c hc).2
 have hk3:Kept (fun _=>False) w0 w3:=gG ((hk.mono fun _ hc=>hc.elim).trans (g1.kept.mono fun c hc=>.inr (hon c hc).1))
 have hap:uI aS b e=cZ b e:=by unfold uI;rw[if_pos ⟨hv,hok⟩]
 refine(SV hB3 hs (by have:=Ce hb;omega) hb e (jX hok) r1).mono ?_
 rintro r w' ⟨v,rfl,hp⟩
 refine⟨v,rfl,?_⟩
 obtain ⟨hpc,hpk,β',V',h0',hB',hbl⟩:=hp
 subst hpc
 obtain ⟨k,hkd,abo,hkw,_,hpt⟩:=hB'.data
 have hl4:(Xq (dD β) e).box 4=some [.d (di 0),.d (.con (.slice none 0 0))]:=rfl
 have hb4:=g1.box 4 _ hl4
 have hlt4:blk β2 4<w3.heap.size:=Own.lt (show Live β2 4 [.d (di 0),.d (.con (.slice none 0 0))] from trivial) hb4.2
 have h4n:w0.heap.size≤blk β2 4∧¬gy β b.es.length (blk β2 4):=by
  rcases (hb4.1 trivial).1 with q1|q1
  ·exact hon _ q1
  ·have q1:w.heap.size≤blk β2 4:=q1
   refine⟨Nat.le_trans hk.size q1,?_⟩
   rintro ⟨t,t1,t2,t3⟩
   have:=hB.lt t1 t2
   omega
 have hlz:∀s l,(Xz (dD β)).box s=some l→s=4∧Live β2 s l:=by
  intro s l hl
  simp only[Xz,AS.box,Go.Ab.look] at hl
  by_cases e2:(4:Nat)=s
  ·subst e2;simp at hl;subst hl;exact⟨rfl,trivial⟩
  ·rw[aP e2,cond_false] at hl;cases hl
 have h4k:¬gy β' (if cZ b e=0 then fK b e else b).es.length (blk β2 4):=fun hq=>by
  rcases hbl _ hq with q1|q1
  ·exact h4n.2 q1
  ·omega
 have gz:=fG (g1.weaken (st':=Xz (dD β)) (by refine AS.leZ [] [] (b:=((T0∧T0∧True)∧T0∧True)) (by kernel_rfl) (by kernel_rfl) ?_;exact⟨⟨rfl,rfl,trivial⟩,rfl,trivial⟩))
 have gb:=vk gz hB'.hold hpk (fun s l hl=>by
  obtain ⟨e1,e2⟩:=hlz s l hl
  subst e1
  exact⟨e2,h4n.2⟩)
 have gu:=JU gb abo hkw (fun s l hl _=>by
  obtain ⟨e1,_⟩:=hlz s l hl
  subst e1
  rw[hkd]
  exact⟨fun o=>by rw[IH.jY h4k];exact(hb4.1 trivial).2.1 o,(hb4.1 trivial).2.2⟩)
 have gc:=gu.put (t:=some 23) (x:=.d (di (cZ b e))) (v:=.int .i64 (cZ b e)) rfl
 have ge:=gc.weaken (st':=aaS (dD β) (cZ b e)) (by refine AS.leZ [] [] (b:=((T0∧T0∧T0∧True)∧T0∧True)) (by kernel_rfl) (by kernel_rfl) ?_;exact⟨⟨rfl,rfl,rfl,trivial⟩,rfl,trivial⟩)
 have hp0:dD β'=dD β:=by
  show Value.pointer _=Value.pointer _
  rw[h0']
 have hw3:=hk3.size
 refine acI (bX:=if cZ b e=0 then fK b e else b) (by rw[←hp0];exact hpt) (fun c hc=>?_) (gG ((hk3.mono fun _ hc=>hc.elim).trans (hpk.mono fun c hc=>.inr (hnew c hc)))) ((hle.trans g1.glob).trans abo) (fun c hlt=>?_) hap.symm (fun h0c=>?_) _ _ _ _ ge hd
 ·obtain ⟨s,l,hl,_,rfl⟩:=hc
  obtain ⟨e1,_⟩:=hlz s l hl
  subst e1
  exact h4n.1
 ·have hnb:¬gy β' (if cZ b e=0 then fK b e else b).es.length c:=fun hq=>by
   rcases hbl _ hq with q1|q1
   ·have:=hnew _ q1;omega
   ·omega
  obtain ⟨o1,o2⟩:=g1.old c (Nat.lt_of_lt_of_le hlt hk.size) (fun hc=>by have:=(hon c hc).1;omega)
  refine⟨fun o=>?_,?_⟩
  ·rw[hkd,IH.jY hnb,o1 o];exact(hold c hlt).1 o
  ·rw[hkd,IH.xJ,o2];exact(hold c hlt).2
 ·rw[if_pos h0c]
  unfold wV
  rw[hap,if_pos h0c]
theorem wL.book {b:Bk} {w0 w1 w:World} {h h2:IH} {β:Nat→Nat} {V:Nat→Option Addr×Nat} (q:wL b w0 h β V w1) {on:Nat→Prop} (hk:Kept on w1 w) (hon:∀c,on c→c<w0.heap.size) (hw:h2.holds w) (hold:∀c,c<w1.heap.size→¬on c→(∀o,h2.cell c o=h.cell c o)∧h2.obj c=h.obj c) (hh:h.holds w0) {x T:Nat} (ht:w.heap[x]?=some (.cells #[.int .i64 b.t,sv V 1 b.es.length] T (0,0))) (hx:(∀o,h2.cell x o=none)∧h2.obj x=none) (hxn:on x∨w1.heap.size≤x) :
  bP h2 (upd β 0 x T 0) V b w:=by
 have bo:∀t,t≠0→blk (upd β 0 x T 0) t=blk β t∧room (upd β 0 x T 0) t=room β t:=fun t ht=>⟨aZ ht,bI ht⟩
 have b0:blk (upd β 0 x T 0) 0=x:=aQ ..
 have r0:room (upd β 0 x T 0) 0=T:=aF ..
 have hno:∀s,1≤s→s<2*b.es.length+2→0<room β s→¬on (blk β s):=fun s s1 s2 s3 hc=>by
  have:=hon _ hc
  have:=(q.new s s1 s2 s3).1
  omega
 have hxs:∀s,1≤s→s<2*b.es.length+2→0<room β s→x≠blk β s:=fun s s1 s2 s3 hc=>by
  have hn:=q.new s s1 s2 s3
  rcases hxn with q1|q1
  ·have:=hon _ q1;omega
  ·omega
 refine⟨hw,by rw[b0,r0];exact ht,?_,fun i hi=>?_,fun i hi=>?_,fun s hs hl=>?_,fun s t hs ht' hl hl' he=>?_⟩
 ·rw[(bo 1 (by decide)).1,(bo 1 (by decide)).2]
  exact(q.ent.keep hk fun h0=>hno 1 (by omega) (by omega) h0).flat fun i _=>mO V b.es i
 ·rw[(bo _ (by omega)).1,(bo _ (by omega)).2]
  exact((q.gr i hi).keep hk fun h0=>hno _ (by omega) (by omega) h0).flat fun i _=>lN _ i
 ·rw[(bo _ (by omega)).1,(bo _ (by omega)).2]
  exact((q.ap i hi).keep hk fun h0=>hno _ (by omega) (by omega) h0).flat fun i _=>kM _ i
 ·by_cases e:s=0
  ·subst e;rw[b0];exact hx
  ·have hl:0<room β s:=by
    rcases hl with hl|hl
    ·exact absurd hl e
    ·rwa [(bo s e).2] at hl
   obtain ⟨n1,n2⟩:=q.new s (by omega) hs hl
   obtain ⟨o1,o2⟩:=hold _ n2 (hno s (by omega) hs hl)
   obtain ⟨p1,p2⟩:=holds_none hh n1
   rw[(bo s e).1]
   exact⟨fun o=>(o1 o).trans (p1 o),o2.trans p2⟩
 ·have pos:∀s,s≠0→jo (upd β 0 x T 0) s→0<room β s:=fun s e hl=>by
   rcases hl with hl|hl
   ·exact absurd hl e
   ·rwa [(bo s e).2] at hl
  by_cases e1:s=0
  ·by_cases e2:t=0
   ·rw[e1,e2]
   ·subst e1
    rw[b0,(bo t e2).1] at he
    exact absurd he (hxs t (by omega) ht' (pos t e2 hl'))
  ·by_cases e2:t=0
   ·subst e2
    rw[b0,(bo s e1).1] at he
    exact absurd he.symm (hxs s (by omega) hs (pos s e1 hl))
   ·rw[(bo s e1).1,(bo t e2).1] at he
    exact q.inj s t (by omega) hs (by omega) ht' (pos s e1 hl) (pos t e2 hl') he
noncomputable def S14 (b:Bk) (e:Ev):AS:=⟨regs Tryz.f14.ntmps [(2,.box 2 0),(3,.box 3 0),(4,.box 4 0)],[(2,(iD b).map .d),(3,(kC e).map .d),(4,[.d (di 0),.d (.con (.slice none 0 0))])]⟩
noncomputable def aaA (e:Ev) (t:Int) (s:PC) (n:Nat):AS:=⟨regs Tryz.f14.ntmps [(3,.box 3 0),(4,.box 4 0),(18,.d (.agg [di t,.con (.slice s.1 n s.2)]))],[(3,(kC e).map .d),(4,[.d (di 0),.d (.con (.slice none 0 0))])]⟩
noncomputable def XC (e:Ev) (p:Value):AS:=⟨regs Tryz.f14.ntmps [(3,.box 3 0),(4,.box 4 0),(6,.d (.con p))],[(3,(kC e).map .d),(4,[.d (di 0),.d (.con (.slice none 0 0))])]⟩
theorem ab2 {b:Bk} {e:Ev} {w0 w:World} {h0 h1:IH} {on:Nat→Prop} {β1 β:Nat→Nat} {V:Nat→Option Addr×Nat} (hB:bP h1 β V b w) (hs:iY b.es) (hb:qX b.es) (hf:b.es.length≤256) (hv:dh aS b=true) (hok:aS e=true) (hon:∀c,on c→w0.heap.size≤c∧¬gy β b.es.length c) (hnew:∀c,gy β b.es.length c→w0.heap.size≤c) (hk:Kept (fun _=>False) w0 w) (hle:h0.le h1) (hold:∀c,c<w0.heap.size→(∀o,h1.cell c o=h0.cell c o)∧h1.obj c=h0.obj c) :
  aH Tryz.prog h1 ⟨on,β1⟩ w h1 [cd Tryz.f14 [1,1,1]] (XC e (dD β)) (aO Tryz.prog Tryz.f14 (R14 b e w0 h0)):=by
 refine aH.seq (a:=aU (ak Tryz.f14) [1,1,1,0]) (b:=aU (ak Tryz.f14) [1,1,1,1]) (by kernel_rfl) ?_
 refine aH.seq (a:=aU (ak Tryz.f14) [1,1,1,0,0]) (b:=aU (ak Tryz.f14) [1,1,1,0,1]) (by kernel_rfl) ?_
 refine aH.qc (aj:={ d:=bU }) follows (fun _=>none) 2 (by kernel_rfl) ?_
 refine iq (b:=aK h1 (Fr.mk on β1) w h1 (iQ Tryz.prog (opsOf (aU (ak Tryz.f14) [1,1,1,0,0])).toList 2 ((opsOf (aU (ak Tryz.f14) [1,1,1,0,0])).toList.length-2) (wpS Tryz.prog [It.code (aU (ak Tryz.f14) [1,1,1,0,1]),It.code (aU (ak Tryz.f14) [1,1,1,1])] (aO Tryz.prog Tryz.f14 (R14 b e w0 h0)))) .normal ⟨regs 32 [(3,(.box 3 0)),(4,(.box 4 0)),(6,(.d (.con (.pointer (some (Addr.mk (β (3*0)) 0 none)))))),(21,(.d (.con (.pointer (some (Addr.mk (β (3*0)) 0 none)))))),(22,(.d (.agg [(di e.kind),(ds e.k.st),(ds e.k.ex),(di e.k.n),(di e.t),(di e.v),(di e.h),(ds e.s),(db e.acc)])))],[(3,fJ e),(4,[(vi 0),(.d bY)])]⟩) (by kernel_rfl) ?_
 intro β3 h3 a3 w3 g3 hd3
 have g4:=g3.weaken (st':=Xq (dD β) e) (by refine AS.leZ [] [] (b:=((T0∧T0∧T0∧T0∧True)∧T0∧True)) (by kernel_rfl) (by kernel_rfl) ?_;exact⟨⟨rfl,rfl,rfl,rfl,trivial⟩,rfl,trivial⟩)
 exact(acv hB hs hb hf hv hok hon hnew hk hle hold) _ _ _ _ g4 hd3
theorem aby {b:Bk} {e:Ev} {w0 w3 w:World} {h0 h2:IH} {F:Fr} {β:Nat→Nat} {V:Nat→Option Addr×Nat} (q:wL b w3 h2 β V w) (hh3:h2.holds w3) (hs:iY b.es) (hb:qX b.es) (hf:b.es.length≤256) (hv:dh aS b=true) (hok:aS e=true) (hon:∀c,F.on c→w0.heap.size≤c∧c<w3.heap.size) (hk:Kept (fun _=>False) w0 w3) (hle:h0.le h2) (hold:∀c,c<w0.heap.size→(∀o,h2.cell c o=h0.cell c o)∧h2.obj c=h0.obj c) :
  dQ Tryz.prog h2 F w h2 (opsOf (aU (ak Tryz.f14) [1,1,0])).toList 2 (3+0) (aaA e b.t (V 1) b.es.length) (wpS Tryz.prog [cd Tryz.f14 [1,1,1]] (aO Tryz.prog Tryz.f14 (R14 b e w0 h0))):=by
 refine dQ.tree (aj:={ d:=bU }) ?_
 refine iZ ((.con (.slice (V 1).fst b.es.length (V 1).snd)):DV) (fun Za=>aK h2 F w h2 (iQ Tryz.prog (opsOf (aU (ak Tryz.f14) [1,1,0])).toList (2+3) 0 (wpS Tryz.prog [cd Tryz.f14 [1,1,1]] (aO Tryz.prog Tryz.f14 (R14 b e w0 h0)))) .normal ⟨regs 32 [(3,(.box 3 0)),(4,(.box 4 0)),(6,(.box 20 0)),(18,(.d (.agg [(di b.t),Za]))),(19,(.d (.agg [(di b.t),Za]))),(20,(.box 20 0))],[(20,[(vi b.t),(.d Za)]),(3,fJ e),(4,[(vi 0),(.d bY)])]⟩) (by kernel_rfl) ?_
 refine aK.jV ?_
 intro β5 h5 a5 w5 g5 hd5
 obtain ⟨c1,⟨⟨T,hT⟩,vs,ho,v0,vs1,rfl,r0,v1,vs2,rfl,r1,r2⟩⟩:=g5.box 20 _ rfl
 have r2:vs2=[]:=r2
 have r0:v0=.int .i64 b.t:=r0
 have r1:v1=sv V 1 b.es.length:=r1
 subst r2 r0 r1
 have hT:T=room β5 20:=hT
 subst hT
 obtain ⟨x1,x2⟩:=c1 trivial
 have afh:=hk.size
 have afj:=q.kept.size
 have hB:bP h5 (upd β 0 (blk β5 20) (room β5 20) 0) V b w5:=q.book g5.kept (fun c hc=>(hon c hc).2) g5.holds (fun c hlt hn=>g5.old c hlt hn) hh3 ho x2 x1
 obtain ⟨v6,hv6,hr6⟩:=g5.regs 6 (.box 20 0) rfl
 have hr6:v6=.pointer (some ⟨blk β5 20,0,none⟩):=hr6
 subst hr6
 have hp0:dD (upd β 0 (blk β5 20) (room β5 20) 0)=.pointer (some ⟨blk β5 20,0,none⟩):=by
  show Value.pointer _=Value.pointer _
  rw[aQ]
 have g6:=(O7 g5 hv6).weaken (st':=XC e (dD (upd β 0 (blk β5 20) (room β5 20) 0))) (by
  rw[hp0]
  exact AS.bJ (by kernel_rfl))
 have hx0:w0.heap.size≤blk β5 20:=by
  rcases x1 with r|r
  ·exact(hon _ r).1
  ·have r:w.heap.size≤blk β5 20:=r
   omega
 have hBl:∀c,gy (upd β 0 (blk β5 20) (room β5 20) 0) b.es.length c→c=blk β5 20∨(w3.heap.size≤c∧c<w.heap.size):=by
  rintro c ⟨s,s1,s2,s3⟩
  by_cases es:s=0
  ·subst es;rw[aQ] at s3;exact .inl s3.symm
  ·right
   have s2:0<room β s:=by
    rcases s2 with s2|s2
    ·exact absurd s2 es
    ·rwa [bI es] at s2
   rw[aZ es] at s3
   rw[←s3]
   exact q.new s (by omega) s1 s2
 refine ab2 hB hs hb hf hv hok (fun c hc=>?_) (fun c hc=>?_) (gG ((hk.mono fun _ hc=>hc.elim).trans ((q.kept.mono fun _ hc=>hc.elim).trans (g5.kept.mono fun c hc=>.inr (hon c hc).1)))) (hle.trans g5.glob) (fun c hlt=>?_) β5 h5 a5 w5 (fG g6) hd5
 ·obtain ⟨s,l,hl,hlv,rfl⟩:=hc
  have hs2:(s=3∧l=(kC e).map .d)∨(s=4∧l=[.d (di 0),.d (.con (.slice none 0 0))]):=by
   simp only[XC,AS.box,Go.Ab.look] at hl
   by_cases e1:(3:Nat)=s
   ·subst e1;simp at hl;exact .inl ⟨rfl,hl.symm⟩
   ·rw[aP e1,cond_false] at hl
    by_cases e2:(4:Nat)=s
    ·subst e2;simp at hl;exact .inr ⟨rfl,hl.symm⟩
    ·rw[aP e2,cond_false] at hl;cases hl
  have hfr:=((g6.box s l hl).1 hlv).1
  have hne:blk β5 s≠blk β5 20:=by
   rcases hs2 with ⟨rfl,rfl⟩|⟨rfl,rfl⟩
   ·exact fun hq=>absurd (g5.inj 3 20 _ _ rfl rfl trivial trivial hq) (by decide)
   ·exact fun hq=>absurd (g5.inj 4 20 _ _ rfl rfl trivial trivial hq) (by decide)
  rcases hfr with r|r
  ·exact⟨(hon _ r).1,fun hq=>by
    rcases hBl _ hq with q1|q1
    ·exact hne q1
    ·have:=(hon _ r).2;omega⟩
  ·have r:w.heap.size≤blk β5 s:=r
   exact⟨by omega,fun hq=>by
    rcases hBl _ hq with q1|q1
    ·exact hne q1
    ·omega⟩
 ·rcases hBl _ hc with q1|q1
  ·rw[q1];exact hx0
  ·omega
 ·obtain ⟨o1,o2⟩:=g5.old c (by omega) (fun hc=>by have:=(hon c hc).1;omega)
  exact⟨fun o=>(o1 o).trans ((hold c hlt).1 o),o2.trans (hold c hlt).2⟩
end Go.Proofs
namespace Go.Proofs
open Go Go.Ab Go.RowKit
variable {G:IH}
structure LH (b:Bk):Prop where
 sz:iY b.es
 all:(bG b.es).length≤1000000
 str:Yc b
 evs:(aA b).length≤1000000
theorem LH.f32 {b:Bk} (h:LH b):au Tryz.prog G 32 [eY b] (db (dh aS b)):=Go.Proofs.f32 b h.sz h.all h.str h.evs
end Go.Proofs
namespace Go.Proofs
open Go Go.Ab Go.RowKit
variable {G:IH} {w:World}
noncomputable def WI (b:Bk) (e:Ev):AS:=⟨regs Tryz.f14.ntmps [(3,.box 3 0),(4,.box 4 0),(17,.d (eY b))],[(3,(kC e).map .d),(4,[.d (di 0),.d (.con (.slice none 0 0))])]⟩
noncomputable def Xo (e:Ev):AS:=⟨regs Tryz.f14.ntmps [(3,.box 3 0),(4,.box 4 0)],[(3,(kC e).map .d),(4,[.d (di 0),.d (.con (.slice none 0 0))])]⟩
theorem acz {b:Bk} {e:Ev} {w0:World} {h0:IH} {β1:Nat→Nat} (hs:iY b.es) (hb:qX b.es) (hf:b.es.length≤256) (hv:dh aS b=true) (hok:aS e=true) :
  dQ Tryz.prog h0 ⟨fun _=>False,β1⟩ w0 h0 (opsOf (aU (ak Tryz.f14) [1,1,0])).toList 1 (3+1) (WI b e) (wpS Tryz.prog [cd Tryz.f14 [1,1,1]] (aO Tryz.prog Tryz.f14 (R14 b e w0 h0))):=by
 refine dQ.call (c:={ callee:=.value (.func 44),args:=#[.tmp 17],argTypes:=#[31] }) (g:=44) (a1:=[]) (a2:=[]) (γ:=none) rfl rfl rfl (by kernel_rfl) (fun _ _ _ hq=>by cases hq) (by kernel_rfl) Tryz.call44 ?_
 intro β2 h2 a w3 vs g1 hd hvs
 obtain ⟨v0,vs1,rfl,r0,r3⟩:=hvs
 have r3:vs1=[]:=r3
 subst r3
 have r0:DV.rel h2 (eY b) v0:=r0
 have hk3:Kept (fun _=>False) w0 w3:=g1.kept
 refine(acu (G:=h2) b hs g1.holds r0).mono ?_
 rintro r w' ⟨v,rfl,β,V,rfl,q⟩
 refine⟨_,rfl,?_⟩
 have hlz:∀s l,(Xo e).box s=some l→(s=3∨s=4)∧Live β2 s l∧(WI b e).box s=some l:=by
  intro s l hl
  have hl0:=hl
  simp only[Xo,AS.box,Go.Ab.look] at hl
  by_cases e1:(3:Nat)=s
  ·subst e1;simp at hl;subst hl;exact⟨.inl rfl,trivial,hl0⟩
  ·rw[aP e1,cond_false] at hl
   by_cases e2:(4:Nat)=s
   ·subst e2;simp at hl;subst hl;exact⟨.inr rfl,trivial,hl0⟩
   ·rw[aP e2,cond_false] at hl;cases hl
 have gz:=fG (g1.weaken (st':=Xo e) (by refine AS.leZ [] [] (b:=((T0∧T0∧True)∧T0∧T0∧True)) (by kernel_rfl) (by kernel_rfl) ?_;exact⟨⟨rfl,rfl,trivial⟩,rfl,rfl,trivial⟩))
 have gb:=vk gz q.hold q.kept (fun s l hl=>⟨(hlz s l hl).2.1,id⟩)
 have gc:=gb.put (t:=some 18) (x:=.d (.agg [di b.t,.con (.slice (V 1).1 b.es.length (V 1).2)])) (v:=.agg #[.int .i64 b.t,sv V 1 b.es.length]) ⟨_,rfl,_,_,rfl,rfl,_,_,rfl,rfl,rfl⟩
 have ge:=gc.weaken (st':=aaA e b.t (V 1) b.es.length) (by refine AS.leZ [] [] (b:=((T0∧T0∧T0∧True)∧T0∧T0∧True)) (by kernel_rfl) (by kernel_rfl) ?_;exact⟨⟨rfl,rfl,rfl,trivial⟩,rfl,rfl,trivial⟩)
 refine aby q g1.holds hs hb hf hv hok (fun c hc=>?_) hk3 g1.ext (fun c hlt=>g1.old c hlt id) _ _ _ _ ge hd
 obtain ⟨s,l,hl,_,rfl⟩:=hc
 obtain ⟨_,hlv,hl1⟩:=hlz s l hl
 obtain ⟨b1,b2⟩:=g1.box s l hl1
 exact⟨(b1 hlv).1.resolve_left id,Own.lt hlv b2⟩
theorem KU {b:Bk} (h:dh aS b=true):qX b.es:=yU (a:=eP) (fun i hi=>(by cases hi)) (vS.1 h).2
theorem acn (b:Bk) (e:Ev) (hS:LH b) (h1:e.k.st.size≤1000000) (h2:e.k.ex.size≤1000000) (hw:G.holds w) {u x:Value} (hu:DV.rel G (eY b) u) (hx:DV.rel G (fQ e) x):Calls Tryz.prog 14 #[u,x] w fun r w'=>∃v,r=.returned v∧R14 b e w G v w':=by
 have g:=aN.bare (G:=G) (rs:=[.d (eY b),.d (fQ e)]) (β:=fun _=>0) (tm:=#[u,x]) (IH.le.refl G) hw rfl (fun t y hy=>by
  rcases t with _|_|t
  ·simp at hy;subst hy;exact⟨_,rfl,hu⟩
  ·simp at hy;subst hy;exact⟨_,rfl,hx⟩
  ·simp at hy) (fun _=>False)
 refine Calls.Af Tryz.func14 rfl g ?_
 refine dH (aj:=abR b e) follows (fun _=>none) (cuts:=[3]) (n:=1000) ?_
 refine qR ((.agg [(di e.kind),(ds e.k.st),(ds e.k.ex),(di e.k.n),(di e.t),(di e.v),(di e.h),(ds e.s),(db e.acc)]):DV) ((.agg [(di b.t),(.slc 7 b.es.length (dM b.es))]):DV) (fun Za Zb=>((au Tryz.prog G 32 [Zb] (db (dh aS b))∧(((!!dh aS b)=true)→au Tryz.prog G 18 [Za] (db (aS e))))∧(((!dh aS b||!aS e)=true)→aK G (Fr.mk (fun x=>False) fun x=>0) w G (aO Tryz.prog Tryz.f14 (R14 b e w G)) .ret ⟨regs 32 [(0,(.d Zb)),(1,(.d Za)),(2,(.box 2 0)),(3,(.box 3 0)),(4,(.box 4 0)),(5,(vi 1)),(8,(.d Zb)),(9,(vb (dh aS b))),(10,(vb (!dh aS b))),(11,(vb (!dh aS b))),(15,(vb (!dh aS b||!aS e))),(16,(.d (.agg [(di 0),bY])))],[(4,[(vi 0),(.d bY)]),(3,fJ e),(2,[(vi b.t),(.d (.slc 7 b.es.length (dM b.es)))])]⟩)∧(((!dh aS b||!aS e)=false)→aH Tryz.prog G (Fr.mk (fun x=>False) fun x=>0) w G [cd Tryz.f14 [1,1]] ⟨regs 32 [(0,(.d Zb)),(1,(.d Za)),(2,(.box 2 0)),(3,(.box 3 0)),(4,(.box 4 0)),(5,(vi 0)),(8,(.d Zb)),(9,(vb (dh aS b))),(10,(vb (!dh aS b))),(11,(vb (!dh aS b))),(12,(.gate 11 false (!!dh aS b) (.d Za))),(13,(.gate 11 false (!!dh aS b) (vb (aS e)))),(14,(.gate 11 false (!!dh aS b) (vb (!aS e)))),(15,(vb (!dh aS b||!aS e)))],[(4,[(vi 0),(.d bY)]),(3,fJ e),(2,[(vi b.t),(.d (.slc 7 b.es.length (dM b.es)))])]⟩ (aO Tryz.prog Tryz.f14 (R14 b e w G))))) (by kernel_rfl) ?_
 refine⟨⟨hS.f32,fun _=>f18 e h1 h2⟩,fun c=>?_,fun c=>?_⟩
 ·have hap:uI aS b e=1:=by
   unfold uI
   rw[if_neg]
   rintro ⟨q1,q2⟩
   rw[q1,q2] at c;cases c
  have hab:wV aS b e=eP:=by unfold wV;rw[if_neg (by rw[hap];decide)]
  refine qy (x:=.d (.agg [di 0,.con (.slice none 0 0)])) (y:=.d (di 1)) rfl rfl fun β3 k3 tm w3 v u g3 hv hu=>?_
  have hu:u=.int .i64 1:=hu
  subst hu
  refine⟨v,k3,by rw[hap],?_,g3.glob,g3.holds,g3.kept,fun c hlt=>g3.old c hlt id⟩
  rw[hab]
  obtain ⟨vs,rfl,v0,vs1,rfl,r0,v1,vs2,rfl,r1,r2⟩:=hv
  exact⟨_,rfl,_,_,rfl,r0,_,_,rfl,⟨none,0,r1,Nat.le_refl _,.inl rfl⟩,r2⟩
 have hv:dh aS b=true:=by
  cases q:dh aS b with
  | true=>rfl
  | false=>rw[q] at c;cases c
 have hok:aS e=true:=by
  cases q:aS e with
  | true=>rfl
  | false=>rw[hv,q] at c;cases c
 have hf:b.es.length≤256:=by
  have hv':=hv
  unfold dh at hv'
  simp only[aV,eF] at hv'
  exact hv'.1
 refine aH.weaken (st':=S14 b e) ?_ ?_
 ·exact AS.bJ (by kernel_rfl)
 refine aH.seq (a:=aU (ak Tryz.f14) [1,1,0]) (b:=aU (ak Tryz.f14) [1,1,1]) (by kernel_rfl) ?_
 refine aH.qc (aj:={ d:=bU }) follows (fun _=>none) 1 (by kernel_rfl) ?_
 refine iq (b:=aK G (Fr.mk (fun x=>False) fun x=>0) w G (iQ Tryz.prog (opsOf (aU (ak Tryz.f14) [1,1,0])).toList 1 ((opsOf (aU (ak Tryz.f14) [1,1,0])).toList.length-1) (wpS Tryz.prog [It.code (aU (ak Tryz.f14) [1,1,1])] (aO Tryz.prog Tryz.f14 (R14 b e w G)))) .normal ⟨regs 32 [(2,(.box 2 0)),(3,(.box 3 0)),(4,(.box 4 0)),(17,(.d (.agg [(di b.t),(.slc 7 b.es.length (dM b.es))])))],[(2,[(vi b.t),(.d (.slc 7 b.es.length (dM b.es)))]),(3,fJ e),(4,[(vi 0),(.d bY)])]⟩) (by kernel_rfl) ?_
 intro β3 h3 a3 w3 g3 hd3
 have g4:=g3.weaken (st':=WI b e) (by refine AS.leZ [] [] (b:=((T0∧T0∧T0∧True)∧T0∧T0∧True)) (by kernel_rfl) (by kernel_rfl) ?_;exact⟨⟨rfl,rfl,rfl,trivial⟩,rfl,rfl,trivial⟩)
 exact(acz hS.sz (KU hv) hf hv hok) _ _ _ _ g4 hd3
theorem f14 (b:Bk) (e:Ev) (hS:LH b) (h1:e.k.st.size≤1000000) (h2:e.k.ex.size≤1000000):au Tryz.prog G 14 [eY b,fQ e] (.aC [eY (wV aS b e),di (uI aS b e)]):=by
 refine⟨Tryz.call14,fun w h vs hG hw hr=>?_⟩
 obtain ⟨u,vs1,rfl,r,x,vs2,rfl,rx,hn⟩:=hr
 have hn:vs2=[]:=hn
 subst hn
 refine(acn (G:=h) b e hS h1 h2 hw r rx).mono ?_
 rintro _ w' ⟨v,rfl,u',k,rfl,hu,hle,hkw,hk,hold⟩
 exact⟨_,k,rfl,⟨_,rfl,_,_,rfl,hu,_,_,rfl,rfl,rfl⟩,hle,hkw,hk,hold⟩
def ru (β:Nat→Nat) (n:Nat) (k:Nat):Prop:=∃s,1≤s∧s<2*n+2∧0<room β s∧blk β s=k
end Go.Proofs
namespace Go.Proofs
open Go Go.Ab Go.RowKit
variable {G:IH}
end Go.Proofs
namespace Go.Proofs
variable {ok:Ev→Bool}
end Go.Proofs
namespace Go.Proofs
open Go Go.Ab Go.RowKit
theorem O8 {ok:Ev→Bool}:∀{l:List Ev} {a b:Bk},fE ok l a=some b→∀y∈l,ok y=true
 | [],_,_,_,y,hy=>by cases hy
 | e :: l,a,b,h,y,hy=>by
  obtain ⟨⟨h1,_⟩,h3⟩:=jG.1 h
  rcases List.mem_cons.1 hy with rfl|hy
  ·exact h1
  ·exact O8 h3 y hy
theorem yw {e:Ev} (h:aS e=true):e.k.st.size≤16∧e.k.ex.size≤16:=by
 unfold aS Bh nameB at h
 simp only[aV,eF] at h
 obtain ⟨_,_,⟨⟨_,h1,_⟩,⟨_,h2,_⟩,_⟩,_⟩:=h
 exact⟨h1,h2⟩
theorem val_ok {b:Bk} (h:dh aS b=true):∀y∈bG b.es,aS y=true:=fun y hy=>O8 (vS.1 h).2 y ((pF _).2 hy)
theorem KL {b:Bk} (h:dh aS b=true):(bG b.es).length≤12544:=by
 have:=Ce (KU h)
 have:=(Ip h).few
 omega
theorem vH {b:Bk} (h:dh aS b=true):LH b:=by
 have hl:=KL h
 refine⟨Bg (Ip h) (KU h),by omega,fun j=>?_,by unfold aA;rw[xQ];omega⟩
 by_cases hj:j<(aA b).length
 ·have hm:(aA b).getD j ev0∈bG b.es:=by
   rw[List.getD,iy hj]
   exact(pF _).1 (List.getElem_mem hj)
  obtain ⟨h1,h2⟩:=yw (val_ok h _ hm)
  exact⟨by omega,by omega⟩
 ·rw[List.getD,List.getElem?_eq_none (by omega)]
  exact⟨by decide,by decide⟩
end Go.Proofs
namespace Go.Proofs
open Go Go.Ab Go.RowKit
variable {G:IH}
def gW (e:Ev):List ByteArray:=[bs (Lib.itoa e.kind),e.k.st,e.k.ex,bs (Lib.itoa e.k.n),bs (Lib.itoa e.t),bs (Lib.itoa e.v),bs (Lib.itoa e.h),e.s,bif e.acc then ⟨#[49]⟩ else ⟨#[48]⟩]
def encS (e:Ev):ByteArray:=bif aS e then fV (gW e) else .empty
def gI (e:Ev):Int:=bif aS e then fU (gW e) else 1
def sH:DV→ByteArray
 | .con (.string s)=>s
 | _=>.empty
theorem OT (l:List ByteArray):xL sH (lZ l)=l:=JC (x0:=.empty) (fun _ _=>rfl) l
def aaq (ok:Bool):iw:=fun f a=>match f,a with
 | 67,[.con (.int .i64 n)]=>some (ds (bs (Lib.itoa n)))
 | 18,_=>some (db ok)
 | 58,[l]=>some (.aC [ds (fV (xL sH l)),di (fU (xL sH l))])
 | _,_=>none
def acw (ok:Bool):eU:={ d:=aaq ok,rows:=fun n=>Nat.beq n 41 }
theorem JZ {e:Ev} (h:aS e=true):I64 e.kind∧I64 e.k.n∧I64 e.t∧I64 e.v∧I64 e.h∧e.s.size≤4096:=by
 unfold aS Bh at h
 simp only[aV,eF] at h
 obtain ⟨h1,h2,⟨_,_,h3,h4⟩,h5,h6,h7,h8⟩:=h
 refine⟨⟨by omega,by omega⟩,⟨by omega,by omega⟩,⟨by omega,by omega⟩,?_⟩
 by_cases c:e.kind=1
 ·rw[if_pos c] at h8
  simp only[aV,eF] at h8
  obtain ⟨a1,a2,a3,a4,_⟩:=h8
  exact⟨⟨by omega,by omega⟩,⟨by omega,by omega⟩,h7⟩
 ·rw[if_neg c] at h8
  simp only[aV,eF] at h8
  obtain ⟨a1,a2,_⟩:=h8
  rw[a1,a2]
  exact⟨⟨by decide,by decide⟩,⟨by decide,by decide⟩,h7⟩
theorem I4 {e:Ev} (h:aS e=true):rQ (gW e):=by
 obtain ⟨b1,b2,b3,b4,b5,b6⟩:=JZ h
 obtain ⟨s1,s2⟩:=yw h
 refine⟨by simp[gW],fun f hf=>?_⟩
 have q1:=iR _ b1
 have q2:=iR _ b2
 have q3:=iR _ b3
 have q4:=iR _ b4
 have q5:=iR _ b5
 simp only[gW,List.mem_cons,List.not_mem_nil,or_false] at hf
 rcases hf with rfl|rfl|rfl|rfl|rfl|rfl|rfl|rfl|rfl
 ·rw[dR];omega
 ·omega
 ·omega
 ·rw[dR];omega
 ·rw[dR];omega
 ·rw[dR];omega
 ·rw[dR];omega
 ·omega
 ·cases e.acc<;>decide
theorem adb (hT:Tab G) {e:Ev} (h:aS e=true) (f:Nat→DV) (hf:∀i,i<9→f i=nJ (gW e) i):au Tryz.prog G 58 [.slc 1 9 f] (.aC [ds (fV (gW e)),di (fU (gW e))]):=
 au.args (f58 hT (gW e) (I4 h)) fun _ us hh=>DV.jJ (fun _ hv=>DV.gK hf hv) (fun _ h=>h) us hh
theorem f38 (hT:Tab G) (e:Ev) (h1:e.k.st.size≤1000000) (h2:e.k.ex.size≤1000000):au Tryz.prog G 38 [fQ e] (.aC [ds (encS e),di (gI e)]):=by
 refine au.zX (aj:=acw (aS e)) (keep:=[]) follows Tryz.func38 rfl Tryz.call38 ?_
 refine aJ (fun _ _ _ ZK=>(fun Za Zb=>(ZK 18 [(.agg [(di e.kind),(ds e.k.st),(ds e.k.ex),(di e.k.n),(di e.t),(di e.v),(di e.h),(ds e.s),(db e.acc)])] (db (aS e))∧(((!aS e)=true)→(((.aC [(ds (ByteArray.mk #[])),(di 1)]):DV)=(.aC [(ds (encS e)),(di (gI e))])))∧(((!aS e)=false)→(((e.acc=true)→((ZK 67 [(di e.kind)] (ds (bs (Lib.itoa e.kind)))∧ZK 67 [(di e.k.n)] (ds (bs (Lib.itoa e.k.n)))∧ZK 67 [(di e.t)] (ds (bs (Lib.itoa e.t)))∧ZK 67 [(di e.v)] (ds (bs (Lib.itoa e.v)))∧ZK 67 [(di e.h)] (ds (bs (Lib.itoa e.h)))∧ZK 58 [(.slc 1 9 (fun i=>aY false 1 [ds (bs (Lib.itoa e.kind)),ds e.k.st,ds e.k.ex,ds (bs (Lib.itoa e.k.n)),ds (bs (Lib.itoa e.t)),ds (bs (Lib.itoa e.v)),ds (bs (Lib.itoa e.h)),ds e.s,ds (ByteArray.mk #[49])] (0+i)))] (.aC [(ds (fV Za)),(di (fU Za))]))∧((.aC [(ds (fV Za)),(di (fU Za))]):DV)=(.aC [(ds (encS e)),(di (gI e))])))∧((e.acc=false)→((ZK 67 [(di e.kind)] (ds (bs (Lib.itoa e.kind)))∧ZK 67 [(di e.k.n)] (ds (bs (Lib.itoa e.k.n)))∧ZK 67 [(di e.t)] (ds (bs (Lib.itoa e.t)))∧ZK 67 [(di e.v)] (ds (bs (Lib.itoa e.v)))∧ZK 67 [(di e.h)] (ds (bs (Lib.itoa e.h)))∧ZK 58 [(.slc 1 9 (fun i=>aY false 1 [ds (bs (Lib.itoa e.kind)),ds e.k.st,ds e.k.ex,ds (bs (Lib.itoa e.k.n)),ds (bs (Lib.itoa e.t)),ds (bs (Lib.itoa e.v)),ds (bs (Lib.itoa e.h)),ds e.s,ds (ByteArray.mk #[48])] (0+i)))] (.aC [(ds (fV Zb)),(di (fU Zb))]))∧((.aC [(ds (fV Zb)),(di (fU Zb))]):DV)=(.aC [(ds (encS e)),(di (gI e))]))))))) (xL sH (DV.slc 1 9 fun i=>aY false 1 [ds (bs (Lib.itoa e.kind)),ds e.k.st,ds e.k.ex,ds (bs (Lib.itoa e.k.n)),ds (bs (Lib.itoa e.t)),ds (bs (Lib.itoa e.v)),ds (bs (Lib.itoa e.h)),ds e.s,ds (ByteArray.mk #[49])] (0+i))) (xL sH (DV.slc 1 9 fun i=>aY false 1 [ds (bs (Lib.itoa e.kind)),ds e.k.st,ds e.k.ex,ds (bs (Lib.itoa e.k.n)),ds (bs (Lib.itoa e.t)),ds (bs (Lib.itoa e.v)),ds (bs (Lib.itoa e.h)),ds e.s,ds (ByteArray.mk #[48])] (0+i)))) (by kernel_rfl) ?_
 refine⟨f18 e h1 h2,fun c=>?_,fun c=>?_⟩
 ·have c:aS e=false:=by simpa using c
  unfold encS gI
  rw[c];rfl
 ·have c:aS e=true:=by simpa using c
  obtain ⟨b1,b2,b3,b4,b5,b6⟩:=JZ c
  have hS:encS e=fV (gW e):=by unfold encS;rw[c];rfl
  have hE:gI e=fU (gW e):=by unfold gI;rw[c];rfl
  have hl:∀f:Nat→DV,(∀i,i<9→f i=nJ (gW e) i)→xL sH (.slc 1 9 f)=gW e:=fun f hf=>by
   have:xL sH (.slc 1 9 f)=xL sH (lZ (gW e)):=by
    unfold xL
    exact List.map_congr_left fun i hi=>by rw[hf i (List.mem_range.1 hi)]
   rw[this,OT]
  refine⟨fun ca=>?_,fun ca=>?_⟩
  all_goals
   have hf:∀i,i<9→(fun i=>aY false 1 [ds (bs (Lib.itoa e.kind)),ds e.k.st,ds e.k.ex,ds (bs (Lib.itoa e.k.n)),ds (bs (Lib.itoa e.t)),ds (bs (Lib.itoa e.v)),ds (bs (Lib.itoa e.h)),ds e.s,ds (bif e.acc then ⟨#[49]⟩ else ⟨#[48]⟩)] (0+i)) i=nJ (gW e) i:=fun i hi=>by
    match i,hi with
    | 0,_=>rfl
    | 1,_=>rfl
    | 2,_=>rfl
    | 3,_=>rfl
    | 4,_=>rfl
    | 5,_=>rfl
    | 6,_=>rfl
    | 7,_=>rfl
    | 8,_=>rfl
   rw[ca] at hf
   have hl:=hl _ hf
   have X8:=adb hT c _ hf
   rw[hS,hE]
   simp only[cond_true,cond_false] at hl X8
   rw[hl]
   exact⟨⟨f67 hT _ b1,f67 hT _ b2,f67 hT _ b3,f67 hT _ b4,f67 hT _ b5,X8⟩,rfl⟩
end Go.Proofs
namespace Go.Ab
open Go
theorem AS.dU.cell (st:AS) (b i:Nat) (y:AV) {l:List AV} {x:AV} (hb:st.box b=some l) (hx:l[i]?=some x) (hpl:bZ l=true) (hxy:∀(β:Nat→Nat) (h:IH) (v:Value),x.rel β h v→y.rel β h v):st.dU ⟨st.regs,setCells b i y st.boxes⟩:=by
 intro G F w0 h0 β h tm w g
 obtain ⟨p1,p2⟩:=g.box b l hb
 rw[Own.plain hpl] at p2
 obtain ⟨T,vs,e1,e2⟩:=p2
 obtain ⟨v,hv,hr⟩:=e2.get hx
 have hset:AV.aB β h (l.set i y) vs:=by
  have h1:=Dn (i:=i) e2 (hxy _ _ _ hr)
  have h2:vs.set i v=vs:=by
   obtain ⟨h3,h4⟩:=List.getElem?_eq_some_iff.1 hv
   rw[←h4,List.set_getElem_self]
  rwa [h2] at h1
 have key:∀t m,look (setCells b i y st.boxes) t=some m→(t=b∧m=l.set i y)∨(t≠b∧look st.boxes t=some m):=fun t m hm=>eH hb t m hm
 refine⟨β,g.glob,g.holds,g.ext,g.old,g.kept,g.fix,g.size,g.regs,fun t m hm=>?_,fun t t' m m' hm hm' hl hl' he=>?_⟩
 ·rcases key t m hm with ⟨rfl,rfl⟩|⟨_,hm⟩
  ·exact⟨fun _=>p1 (Live.plain hpl),Own.of T.2 e1 hset⟩
  ·exact g.box t m hm
 ·have conv:∀t m,look (setCells b i y st.boxes) t=some m→Live β t m→∃m2,look st.boxes t=some m2∧Live β t m2:=by
   intro t m hm hl
   rcases key t m hm with ⟨rfl,rfl⟩|⟨_,hm⟩
   ·exact⟨l,hb,Live.plain hpl⟩
   ·exact⟨m,hm,hl⟩
  obtain ⟨m1,a1,a2⟩:=conv t m hm hl
  obtain ⟨m2,b1,b2⟩:=conv t' m' hm' hl'
  exact g.inj t t' m1 m2 a1 b1 a2 b2 he
end Go.Ab
namespace Go.Proofs
open Go Go.Ab Go.RowKit
variable {G:IH}
def wB (e:Ev):Bool:=decide (e.s.size≤60)&&decide (e.k.st.size≤40)&&decide (e.k.ex.size≤40)
def sN (l:List Ev) (m:Int):Bool:=l.all wB&&decide ((l.length:Int)≤m)
theorem ZI {l:List Ev} {m:Int} (h:sN l m=true):(∀e∈l,e.s.size≤60∧e.k.st.size≤40∧e.k.ex.size≤40)∧(l.length:Int)≤m:=by
 unfold sN at h
 rw[aV,List.all_eq_true,eF] at h
 refine⟨fun e he=>?_,h.2⟩
 have:=h.1 e he
 unfold wB at this
 simp only[aV,eF] at this
 exact⟨this.1.1,this.1.2,this.2⟩
theorem LK {l:List Ev} {k:Nat} (h:k<l.length):l.getD k ev0∈l:=by
 rw[List.getD,iy h]
 exact List.getElem_mem h
noncomputable def S12 (l:List Ev) (m:Int) (k:Nat):AS:=⟨regs Tryz.f12.ntmps [(0,.d (iO l)),(1,vi m),(4,vb false),(5,vi k)],[]⟩
theorem f12 (l:List Ev) (m:Int) (hl:l.length≤9223372036854775807):au Tryz.prog G 12 [iO l,di m] (db (sN l m)):=by
 refine au.zX (aj:={ d:=bU }) (keep:=[]) follows Tryz.func12 rfl Tryz.call12 ?_
 refine aJ (fun ZT ZW ZQ _=>ZW [cd Tryz.f12 [1,0,1,0],(.blk 0),cd Tryz.f12 [1,1]] (aI ZT []) ZQ) (by kernel_rfl) ?_
 refine bK.loop (c:=aU (ak Tryz.f12) [1,0,1,0,0]) (by kernel_rfl) (S12 l m) (fun k=>k≤l.length∧∀i,i<k→wB (l.getD i ev0)=true) (fun k=>l.length-k) 0 ?_ ⟨Nat.zero_le _,fun i hi=>absurd hi (Nat.not_lt_zero _)⟩ ?_
 ·exact AS.bJ (by kernel_rfl)
 ·rintro k ⟨hk,hs⟩
  by_cases hk2:k<l.length
  ·have e:wB (l.getD k ev0) = !(decide (((l.getD k ev0).s.size:Int)>60)||decide (((l.getD k ev0).k.st.size:Int)>40)||decide (((l.getD k ev0).k.ex.size:Int)>40)):=by
    unfold wB
    rw[Bool.not_or,Bool.not_or,←decide_not,←decide_not,←decide_not]
    congr 1
    ·congr 1<;>exact decide_eq_decide.2 (by omega)
    ·exact decide_eq_decide.2 (by omega)
   refine kD (aj:={ d:=bU }) (cuts:=[6]) ?_
   refine bD (fun ZT ZW ZQ _ ZA _=>(fun Za=>((((decide ((↑k:Int)<↑l.length))=true)→((((0≤(↑k:Int))∧((↑k:Int)<↑l.length))∧(((!decide ((↑(l.getD (↑k:Int).toNat ev0).s.size:Int)>60))=true)→((0≤(↑k:Int))∧((↑k:Int)<↑l.length)))∧(((!(decide ((↑(l.getD (↑k:Int).toNat ev0).s.size:Int)>60)||decide ((↑(l.getD (↑k:Int).toNat ev0).k.st.size:Int)>40)))=true)→((0≤(↑k:Int))∧((↑k:Int)<↑l.length))))∧((Za=true)→(((db false):DV)=(db (sN l m))))∧((Za=false)→((I64 (↑k+1))∧(ZA (aI ZT [0,1]))))))∧(((decide ((↑k:Int)<↑l.length))=false)→ZW [cd Tryz.f12 [1,1]] (aI ZT [1]) ZQ))) (decide ((↑(l.getD (↑k:Int).toNat ev0).s.size:Int)>60)||decide ((↑(l.getD (↑k:Int).toNat ev0).k.st.size:Int)>40)||decide ((↑(l.getD (↑k:Int).toNat ev0).k.ex.size:Int)>40))) (by kernel_rfl) ?_
   try dsimp only
   rw[show ((k:Int)).toNat=k from rfl]
   refine⟨fun _=>⟨⟨⟨by omega,by omega⟩,fun _=>⟨by omega,by omega⟩,fun _=>⟨by omega,by omega⟩⟩,fun c=>?_,fun c=>⟨⟨by omega,by omega⟩,?_⟩⟩,fun hd=>absurd (of_decide_eq_false hd) (by omega)⟩
   ·have h1:wB (l.getD k ev0)=false:=by rw[e,c];rfl
    have:sN l m=false:=by
     unfold sN
     rw[List.all_eq_false.2 ⟨l.getD k ev0,LK hk2,by rw[h1];decide⟩];rfl
    rw[this]
   ·have h1:wB (l.getD k ev0)=true:=by rw[e,c];rfl
    refine Again.mk (k+1) ?_ ⟨hk2,fun i hi=>?_⟩ (by show l.length-(k+1)<l.length-k;omega)
    ·exact AS.bJ (by kernel_rfl)
    ·by_cases h:i=k
     ·subst h;exact h1
     ·exact hs i (by omega)
  ·obtain rfl:k=l.length:=by omega
   refine kD (aj:={ d:=bU }) (cuts:=[4,6]) ?_
   refine bD (fun ZT ZW ZQ _ _ ZR=>((((decide ((↑l.length:Int)<↑l.length))=true)→ZW [cd Tryz.f12 [1,0,1,0,0,1,0,0],(.blk 1),cd Tryz.f12 [1,0,1,0,0,1,1]] (aI ZT [0]) ZR)∧(((decide ((↑l.length:Int)<↑l.length))=false)→ZW [cd Tryz.f12 [1,1]] (aI ZT [1]) ZQ))) (by kernel_rfl) ?_
   refine⟨fun hd=>absurd (dW hd) (by omega),fun _=>?_⟩
   refine gV (aj:={ d:=bU }) ?_
   refine aJ (fun _ _ _ _=>(((db (decide (↑l.length≤m))):DV)=(db (sN l m)))) (by kernel_rfl) ?_
   have:l.all wB=true:=List.all_eq_true.2 fun a ha=>by
    obtain ⟨i,hi,rfl⟩:=List.getElem_of_mem ha
    have:=hs i hi
    rwa [List.getD,iy hi] at this
   unfold sN
   rw[this,Bool.true_and]
abbrev kyA:Ky:=⟨⟨#[97,100,97]⟩,⟨#[102,105,98]⟩,1⟩
abbrev AU:Ev:=⟨0,kyA,3,0,0,⟨#[]⟩,false⟩
abbrev Az (v h:Int):Ev:=⟨1,kyA,5,v,h,⟨#[]⟩,false⟩
def Z8 (a b c d:Bk) (s:ByteArray):iw:=fun f x=>match f,x with
 | 14,[_,.agg [.con (.int _ k),_,_,_,_,.con (.int _ v),.con (.int _ h),_,_]]=>some (if k=0 then .aC [eY a,di 0] else if h=750 then .aC [eY b,di 0] else if v=1 then .aC [eY d,di 9] else .aC [eY c,di 0])
 | 38,_=>some (.aC [ds s,di 0])
 | _,_=>none
def abW (a b c d:Bk) (s:ByteArray):eU:={ d:=Z8 a b c d s }
theorem adV (a b c d:Bk) (s:ByteArray) (h1:au Tryz.prog G 14 [.agg [di 0,.con (.slice none 0 0)],fQ AU] (.aC [eY a,di 0])) (h2:au Tryz.prog G 14 [eY a,fQ (Az 1 750)] (.aC [eY b,di 0])) (h3:au Tryz.prog G 14 [eY b,fQ (Az 1 800)] (.aC [eY d,di 9])) (h4:au Tryz.prog G 14 [eY b,fQ (Az 2 800)] (.aC [eY c,di 0])) (h5:au Tryz.prog G 38 [fQ AU] (.aC [ds s,di 0]))
  (hc:c.es.length=1) (hg:(c.es.getD 0 en0).gs.length=2):au Tryz.prog G 11 [] (db (decide (s=⟨#[49,58,48,51,58,97,100,97,51,58,102,105,98,49,58,49,49,58,51,49,58,48,49,58,48,48,58,49,58,48]⟩))):=by
 refine au.zX (aj:=abW a b c d s) (keep:=[]) follows Tryz.func11 rfl Tryz.call11 ?_
 refine aJ (fun _ _ _ ZK=>(fun Za Zb=>(ZK 14 [(.agg [(di 0),bY]),Za] (.aC [(.agg [(di a.t),(.slc 7 a.es.length (dM a.es))]),(di 0)])∧ZK 14 [(.agg [(di a.t),(.slc 7 a.es.length (dM a.es))]),(.agg [(di 1),(ds (ByteArray.mk #[97,100,97])),(ds (ByteArray.mk #[102,105,98])),(di 1),(di 5),(di 1),(di 750),(ds (ByteArray.mk #[])),(db false)])] (.aC [Zb,(di 0)])∧ZK 14 [Zb,(.agg [(di 1),(ds (ByteArray.mk #[97,100,97])),(ds (ByteArray.mk #[102,105,98])),(di 1),(di 5),(di 1),(di 800),(ds (ByteArray.mk #[])),(db false)])] (.aC [(.agg [(di d.t),(.slc 7 d.es.length (dM d.es))]),(di 9)])∧ZK 14 [Zb,(.agg [(di 1),(ds (ByteArray.mk #[97,100,97])),(ds (ByteArray.mk #[102,105,98])),(di 1),(di 5),(di 2),(di 800),(ds (ByteArray.mk #[])),(db false)])] (.aC [(.agg [(di c.t),(.slc 7 c.es.length (dM c.es))]),(di 0)])∧ZK 38 [Za] (.aC [(ds s),(di 0)])∧((((0:Int)==(0:Int)&&(0:Int)==(0:Int)&&(9:Int)==(9:Int)&&(0:Int)==(0:Int)&&(↑(List.length (Bk.es c)):Int)==(1:Int))=true)→(((0:Int)≤(0:Int))∧(0<(↑c.es.length:Int))))∧((db ((0:Int)==(0:Int)&&(0:Int)==(0:Int)&&(9:Int)==(9:Int)&&(0:Int)==(0:Int)&&(↑(List.length (Bk.es c)):Int)==(1:Int)&&(↑(List.length (En.gs (List.getD (Bk.es c) (Int.toNat (0:Int)) en0))):Int)==(2:Int)&&(0:Int)==(0:Int)&&ByteArray.toList s==ByteArray.toList { data:=#[(49:UInt8),(58:UInt8),(48:UInt8),(51:UInt8),(58:UInt8),(97:UInt8),(100:UInt8),(97:UInt8),(51:UInt8),(58:UInt8),(102:UInt8),(105:UInt8),(98:UInt8),(49:UInt8),(58:UInt8),(49:UInt8),(49:UInt8),(58:UInt8),(51:UInt8),(49:UInt8),(58:UInt8),(48:UInt8),(49:UInt8),(58:UInt8),(48:UInt8),(48:UInt8),(58:UInt8),(49:UInt8),(58:UInt8),(48:UInt8)] })):DV)=(db (decide (s=ByteArray.mk #[49,58,48,51,58,97,100,97,51,58,102,105,98,49,58,49,49,58,51,49,58,48,49,58,48,48,58,49,58,48]))))) ((.agg [(di 0),(ds (ByteArray.mk #[97,100,97])),(ds (ByteArray.mk #[102,105,98])),(di 1),(di 3),(di 0),(di 0),(ds (ByteArray.mk #[])),(db false)]):DV) ((.agg [(di b.t),(.slc 7 b.es.length (dM b.es))]):DV)) (by kernel_rfl) ?_
 refine⟨h1,h2,h3,h4,h5,fun _=>⟨by decide,by omega⟩,congrArg db ?_⟩
 rw[show Int.toNat (0:Int)=0 from rfl,hc,hg,dO]
 rfl
theorem vC (n:Nat) (h:n<10):Lib.itoa (n:Int)=[UInt8.ofNat (48+n)]:=by
 rw[nM,Lib.decDigits,dif_pos h]
theorem aa4:encS AU=⟨#[49,58,48,51,58,97,100,97,51,58,102,105,98,49,58,49,49,58,51,49,58,48,49,58,48,48,58,49,58,48]⟩∧gI AU=0:=by
 have f1:∀c,dn ⟨#[c]⟩=[49,58,c]:=fun c=>by
  unfold dn
  rw[show ((⟨#[c]⟩:ByteArray).size:Int)=((1:Nat):Int) from rfl,vC 1 (by decide)];rfl
 have f3:∀a b c,dn ⟨#[a,b,c]⟩=[51,58,a,b,c]:=fun a b c=>by
  unfold dn
  rw[show ((⟨#[a,b,c]⟩:ByteArray).size:Int)=((3:Nat):Int) from rfl,vC 3 (by decide)];rfl
 have f0:dn ⟨#[]⟩=[48,58]:=by
  unfold dn
  rw[show ((⟨#[]⟩:ByteArray).size:Int)=((0:Nat):Int) from rfl,vC 0 (by decide)];rfl
 have e:gW AU=[⟨#[48]⟩,⟨#[97,100,97]⟩,⟨#[102,105,98]⟩,⟨#[49]⟩,⟨#[51]⟩,⟨#[48]⟩,⟨#[48]⟩,⟨#[]⟩,⟨#[48]⟩]:=by
  unfold gW
  have e0:Lib.itoa 0=[48]:=vC 0 (by decide)
  have e1:Lib.itoa 1=[49]:=vC 1 (by decide)
  have e3:Lib.itoa 3=[51]:=vC 3 (by decide)
  show [bs (Lib.itoa 0),_,_,bs (Lib.itoa 1),bs (Lib.itoa 3),bs (Lib.itoa 0),bs (Lib.itoa 0),_,_]=_
  rw[e0,e1,e3];rfl
 have p:aT (gW AU)=[49,58,48,51,58,97,100,97,51,58,102,105,98,49,58,49,49,58,51,49,58,48,49,58,48,48,58,49,58,48]:=by
  rw[e]
  simp only[aT,f1,f3,f0];rfl
 have hb:jq (gW AU)=false:=by
  unfold jq
  rw[p];rfl
 have ho:aS AU=true:=by kernel_rfl
 unfold encS gI fV fU
 rw[ho,hb,p]
 exact⟨rfl,rfl⟩
def VO:Bk:=fK eP AU
def IG:Bk:=fK VO (Az 1 750)
theorem X0:uI aS eP AU=0:=by
 unfold uI
 rw[if_pos ⟨Lc,by kernel_rfl⟩]
 kernel_rfl
theorem KC:uI aS VO (Az 1 750)=0:=by
 unfold uI
 rw[if_pos ⟨(Au (fun _=>jX) X0).2.2.2,by kernel_rfl⟩]
 kernel_rfl
theorem adK:uI aS IG (Az 1 800)=9:=by
 unfold uI
 rw[if_pos ⟨(Au (fun _=>jX) KC).2.2.2,by kernel_rfl⟩]
 kernel_rfl
theorem aaF:uI aS IG (Az 2 800)=0:=by
 unfold uI
 rw[if_pos ⟨(Au (fun _=>jX) KC).2.2.2,by kernel_rfl⟩]
 kernel_rfl
theorem ZY (e:Ev) (h1:e.k.st.size≤1000000) (h2:e.k.ex.size≤1000000):au Tryz.prog G 14 [.agg [di 0,.con (.slice none 0 0)],fQ e] (.aC [eY (wV aS eP e),di (uI aS eP e)]):=
 au.args (f14 eP e (vH Lc) h1 h2) fun k us hh=>DV.jJ (fun v hv=>by
  obtain ⟨vs,rfl,v0,vs1,rfl,r0,v1,vs2,rfl,r1,r2⟩:=hv
  exact⟨_,rfl,_,_,rfl,r0,_,_,rfl,⟨none,0,r1,Nat.le_refl _,.inl rfl⟩,r2⟩) (fun _ h=>h) us hh
theorem f11 (hT:Tab G):au Tryz.prog G 11 [] (db true):=by
 have a1:=ZY (G:=G) AU (by decide) (by decide)
 have a2:=f14 (G:=G) VO (Az 1 750) (vH (Au (fun _=>jX) X0).2.2.2) (by decide) (by decide)
 have a3:=f14 (G:=G) IG (Az 1 800) (vH (Au (fun _=>jX) KC).2.2.2) (by decide) (by decide)
 have a4:=f14 (G:=G) IG (Az 2 800) (vH (Au (fun _=>jX) KC).2.2.2) (by decide) (by decide)
 have a5:=f38 hT AU (by decide) (by decide)
 rw[X0] at a1
 rw[KC] at a2
 rw[adK] at a3
 rw[aaF] at a4
 rw[aa4.2] at a5
 have b1:wV aS eP AU=VO:=by unfold wV;rw[if_pos X0];rfl
 have b2:wV aS VO (Az 1 750)=IG:=by unfold wV;rw[if_pos KC];rfl
 have b4:wV aS IG (Az 2 800)=fK IG (Az 2 800):=by unfold wV;rw[if_pos aaF]
 rw[b1] at a1
 rw[b2] at a2
 rw[b4] at a4
 have:=adV _ _ _ _ _ a1 a2 a3 a4 a5 (by kernel_rfl) (by kernel_rfl)
 rw[aa4.1] at this
 simpa using this
end Go.Proofs
