import Derived.Test.YtflgdeobcgmgnaaGreatDoorAcD
import Derived.Test.YtflgdeobcgmgnaaGreatDoorG4
import Derived.Test.YtflgdeobcgmgnaaGreatDoorAcE
import Derived.Test.YtflgdeobcgmgnaaGreatDoorG2
import Derived.Test.YtflgdeobcgmgnaaGreatDoorG0
set_option autoImplicit false
set_option maxHeartbeats 4000000
set_option maxRecDepth 100000
namespace Go.Proofs
open Go Go.Ab Go.RowKit
variable {G:IH}
theorem AL {f:FuncId} {args:List AV} {pre post post':List (Nat×List AV)} {r r':AV} (hle:(⟨[r],post⟩:AS).cO ⟨[r'],post'⟩) (h:dD Tryz.prog G f args pre r post):dD Tryz.prog G f args pre r' post':=
 ⟨h.1,fun F w h0 β us gm=>(h.2 F w h0 β us gm).mono fun _ _ ⟨v,_,h',e1,g1⟩=>let ⟨β'',g2⟩:=hle _ _ _ _ _ _ _ _ g1;⟨v,β'',h',e1,g2⟩⟩
theorem abd {s sz:Nat} {K:RK} {g:Nat→DV} (hs:s<K0) (hmn:K.mn=none):(⟨[.d (.con (.slice none 0 0))],[]⟩:AS).cO ⟨[.vec s sz 0 0],[(s,[.arr K sz g])]⟩:=by
 intro G F w0 h0 β h tm w gm
 obtain ⟨v,hv,hr⟩:=gm.regs 0 _ rfl
 have hr:v=.slice none 0 0:=hr
 subst hr
 have hbox:∀t l,Go.Ab.look [(s,[AV.arr K sz g])] t=some l→t=s∧l=[.arr K sz g]:=by
  intro t l hl
  simp only[Go.Ab.look] at hl
  by_cases e:s=t
  ·subst e;simp at hl;exact⟨rfl,hl.symm⟩
  ·rw[aQ e,cond_false] at hl;cases hl
 refine⟨upd β s 0 0 0,gm.glob,gm.holds,gm.ext,gm.old,gm.kept,fun t ht=>?_,gm.size,fun t x hx=>?_,fun t l hl=>?_,fun t t' l l' hl hl' _ _ _=>?_⟩
 ·have hne:t≠s:=by omega
  rw[aZ hne,bI hne,iy hne]
  exact gm.fix t ht
 ·rcases t with _|t
  ·simp at hx;subst hx
   refine⟨_,hv,?_⟩
   show 0+0≤many (upd β s 0 0 0) s∧many (upd β s 0 0 0) s≤room (upd β s 0 0 0) s∧_
   rw[bH,aH]
   exact⟨Nat.le_refl _,Nat.le_refl _,none,rfl,.inr (Nat.le_refl _)⟩
  ·simp at hx
 ·obtain ⟨rfl,rfl⟩:=hbox t l hl
  refine⟨fun hv=>?_,?_⟩
  ·have hv:0<room (upd β t 0 0 0) t:=hv
   rw[aH] at hv;omega
  ·show dw h K sz g (room (upd β t 0 0 0) t) (many (upd β t 0 0 0) t) _
   rw[aH,bH]
   exact⟨⟨Nat.le_refl _,fun N hN=>by rw[hmn] at hN;cases hN⟩,.inl rfl⟩
 ·rw[(hbox t l hl).1,(hbox t' l' hl').1]
theorem YN (l:List Gv) (hl:l.length≤1000000):dD Tryz.prog G 74 [.d (jZ l)] [] (.vec 7 4 0 l.length) [(7,[.arr jU 4 (dP l)])]:=by
 rcases Nat.eq_zero_or_pos l.length with h0|h0
 ·rw[h0]
  have hnil:∀c,dD Tryz.prog G 74 [.d (.con (.slice none 0 c))] [] (.vec 7 4 0 0) [(7,[.arr jU 4 (dP l)])]:=fun c=>AL (abd (by decide) rfl) (Y2 c)
  refine dD.each (.slice none 0 0) (hnil 0) fun β h v hv=>?_
  obtain ⟨p,c,e,h1,h2⟩:=hv
  have e:v=.slice p l.length c:=e
  rw[h0] at e
  subst e
  cases p with
  | none=>exact hnil c
  | some p=>exact AL (AS.cO.TQ ⟨[.vec 7 4 0 0],[(7,[.arr jU 4 (fun i=>bif i.blt 0 then DV.con undef else DV.con undef)])]⟩ 0 7 0 (dP l) rfl rfl (by kernel_rfl) (fun i hi=>absurd hi (Nat.not_lt_zero _))) (Xk p c)
 ·exact AL (AS.cO.TQ ⟨[.vec 7 4 0 l.length],[(7,[.arr jU 4 (fun i=>bif i.blt 0 then DV.con undef else dP l (i-0))])]⟩ 0 7 l.length (dP l) rfl rfl (by kernel_rfl) (fun i _=>rfl)) (Wu l h0 hl)
theorem Yj (l:List Al) (hl:l.length≤1000000):dD Tryz.prog G 75 [.d (iD l)] [] (.vec 7 6 0 l.length) [(7,[.arr iZ 6 (dI l)])]:=by
 rcases Nat.eq_zero_or_pos l.length with h0|h0
 ·rw[h0]
  have hnil:∀c,dD Tryz.prog G 75 [.d (.con (.slice none 0 c))] [] (.vec 7 6 0 0) [(7,[.arr iZ 6 (dI l)])]:=fun c=>AL (abd (by decide) rfl) (YL c)
  refine dD.each (.slice none 0 0) (hnil 0) fun β h v hv=>?_
  obtain ⟨p,c,e,h1,h2⟩:=hv
  have e:v=.slice p l.length c:=e
  rw[h0] at e
  subst e
  cases p with
  | none=>exact hnil c
  | some p=>exact AL (AS.cO.TQ ⟨[.vec 7 6 0 0],[(7,[.arr iZ 6 (fun i=>bif i.blt 0 then DV.con undef else DV.con undef)])]⟩ 0 7 0 (dI l) rfl rfl (by kernel_rfl) (fun i hi=>absurd hi (Nat.not_lt_zero _))) (VZ p c)
 ·exact AL (AS.cO.TQ ⟨[.vec 7 6 0 l.length],[(7,[.arr iZ 6 (fun i=>bif i.blt 0 then DV.con undef else dI l (i-0))])]⟩ 0 7 l.length (dI l) rfl rfl (by kernel_rfl) (fun i _=>rfl)) (WW l h0 hl)
end Go.Proofs
namespace Go.Proofs
open Go Go.Ab Go.RowKit
variable {G:IH} {w:World}
noncomputable def GL (b:Bk) (V:Nat→Option Addr×Nat) (j:Nat):AS:=⟨regs Tryz.f44.ntmps [(1,.box 1 0),(2,.box 2 0),(3,.vec 8 7 0 b.es.length),(17,vi b.es.length),(18,vi j)],[(1,[.d (di b.t),.vec 8 7 0 b.es.length]),(8,[.arr fO 7 (bJ V b.es)]),(2,[.d (di 0),.d (.con (.slice none 0 0))])]⟩
def Z8 (l:List Gv) (m:List Al):Nat→Option AV
 | 29=>some (.d (jZ l))
 | 41=>some (.d (iD m))
 | _=>none
def FC:dU:={ d:=bG,m:=fun f a _=>match f,a with
 | 74,[.d (.slc 4 n g)]=>some (.vec 7 4 0 n,[(7,[.arr jU 4 g])])
 | 75,[.d (.slc 6 n g)]=>some (.vec 7 6 0 n,[(7,[.arr iZ 6 g])])
 | _,_=>none }
structure mZ (b:Bk) (w0:World) (m:Nat) (hh:IH) (on:Nat→Prop) (β:Nat→Nat) (V:Nat→Option Addr×Nat) (w:World):Prop where
 gr:∀i,2*i+2<m+2→i<b.es.length→cZ hh jU 4 (b.es.getD i en0).gs.length (dP (b.es.getD i en0).gs) (blk β (2*i+2)) (room β (2*i+2)) (sv V (2*i+2) (b.es.getD i en0).gs.length) w.heap[blk β (2*i+2)]?
 ap:∀i,2*i+3<m+2→i<b.es.length→cZ hh iZ 6 (b.es.getD i en0).ah.length (dI (b.es.getD i en0).ah) (blk β (2*i+3)) (room β (2*i+3)) (sv V (2*i+3) (b.es.getD i en0).ah.length) w.heap[blk β (2*i+3)]?
 Wi:∀i,m+2≤2*i+2→i<b.es.length→DV.rel hh (jZ (b.es.getD i en0).gs) (sv V (2*i+2) (b.es.getD i en0).gs.length)
 WU:∀i,m+2≤2*i+3→i<b.es.length→DV.rel hh (iD (b.es.getD i en0).ah) (sv V (2*i+3) (b.es.getD i en0).ah.length)
 new:∀s,2≤s→s<m+2→0<room β s→w0.heap.size≤blk β s∧blk β s<w.heap.size∧(∀o,hh.cell (blk β s) o=none)∧hh.obj (blk β s)=none
 inj:∀s t,2≤s→s<m+2→2≤t→t<m+2→0<room β s→0<room β t→blk β s=blk β t→s=t
 apart:∀c,on c→w0.heap.size≤c∧∀s,2≤s→s<m+2→0<room β s→c≠blk β s
 kept:Kept (fun _=>False) w0 w
theorem mZ.next {b:Bk} {w0:World} {m:Nat} {hh h2:IH} {on:Nat→Prop} {β:Nat→Nat} {V:Nat→Option Addr×Nat} {w w2:World} {β1 β2:Nat→Nat} {st:AS} {tm:Array Value} (q:mZ b w0 m hh on β V w) (g:aO hh ⟨on,β1⟩ w hh st β2 h2 tm w2):mZ b w0 m h2 (fun c=>∃s l,st.box s=some l∧Live β2 s l∧blk β2 s=c) β V w2:=by
 have hk:Kept on w w2:=g.kept
 have hno:∀s,2≤s→s<m+2→0<room β s→¬on (blk β s):=fun s q1 q2 q3 q4=>(q.apart _ q4).2 s q1 q2 q3 rfl
 refine⟨fun i hi hi2=>((q.gr i hi hi2).keep hk fun h0=>hno _ (by omega) hi h0).flat fun j _=>lJ _ j,fun i hi hi2=>((q.ap i hi hi2).keep hk fun h0=>hno _ (by omega) hi h0).flat fun j _=>kR _ j,fun i hi hi2=>DV.rel.mono g.glob _ _ (q.Wi i hi hi2),fun i hi hi2=>DV.rel.mono g.glob _ _ (q.WU i hi hi2),fun s q1 q2 q3=>?_,q.inj,?_,iL ((q.kept.mono fun _ hc=>hc.elim).trans (hk.mono fun c hc=>.inr (q.apart c hc).1))⟩
 ·obtain ⟨r1,r2,r3,r4⟩:=q.new s q1 q2 q3
  obtain ⟨o1,o2⟩:=g.old (blk β s) r2 (hno s q1 q2 q3)
  exact⟨r1,Nat.lt_of_lt_of_le r2 hk.size,fun o=>(o1 o).trans (r3 o),o2.trans r4⟩
 ·rintro c ⟨s,l,hl,hv,rfl⟩
  rcases ((g.box s l hl).1 hv).1 with r|r
  ·exact q.apart _ r
  ·have r:w.heap.size≤blk β2 s:=r
   refine⟨Nat.le_trans q.kept.size r,fun t t1 t2 t3 t4=>?_⟩
   have:=(q.new t t1 t2 t3).2.1
   omega
theorem mZ.grow {b:Bk} {w0:World} {m:Nat} {hh:IH} {on on':Nat→Prop} {β:Nat→Nat} {V:Nat→Option Addr×Nat} {w:World} (q:mZ b w0 m hh on β V w) {p:Option Addr} {bk c:Nat} (hon:∀x,on' x→on x) (hnew:0<c→w0.heap.size≤bk∧bk<w.heap.size∧(∀o,hh.cell bk o=none)∧hh.obj bk=none) (hap:0<c→∀s,2≤s→s<m+2→0<room β s→bk≠blk β s) (ad3:0<c→¬on' bk)
  (hg:∀i,m=2*i→i<b.es.length→cZ hh jU 4 (b.es.getD i en0).gs.length (dP (b.es.getD i en0).gs) bk c (.slice p (b.es.getD i en0).gs.length c) w.heap[bk]?) (ha:∀i,m=2*i+1→i<b.es.length→cZ hh iZ 6 (b.es.getD i en0).ah.length (dI (b.es.getD i en0).ah) bk c (.slice p (b.es.getD i en0).ah.length c) w.heap[bk]?) :
  mZ b w0 (m+1) hh on' (upd β (m+2) bk c 0) (eU V (m+2) (p,c)) w:=by
 have bo:∀t,t≠m+2→blk (upd β (m+2) bk c 0) t=blk β t∧room (upd β (m+2) bk c 0) t=room β t:=fun t ht=>⟨aZ ht,bI ht⟩
 refine⟨fun i hi hi2=>?_,fun i hi hi2=>?_,fun i hi hi2=>?_,fun i hi hi2=>?_,fun s q1 q2 q3=>?_,fun s t s1 s2 t1 t2 hs ht he=>?_,fun x hx=>⟨(q.apart x (hon x hx)).1,fun s q1 q2 q3 q4=>?_⟩,q.kept⟩
 ·by_cases e:2*i+2=m+2
  ·rw[e,aT,aH,jh];exact hg i (by omega) hi2
  ·rw[(bo _ e).1,(bo _ e).2,dW _ e];exact q.gr i (by omega) hi2
 ·by_cases e:2*i+3=m+2
  ·rw[e,aT,aH,jh];exact ha i (by omega) hi2
  ·rw[(bo _ e).1,(bo _ e).2,dW _ e];exact q.ap i (by omega) hi2
 ·rw[dW _ (by omega)];exact q.Wi i (by omega) hi2
 ·rw[dW _ (by omega)];exact q.WU i (by omega) hi2
 ·by_cases e:s=m+2
  ·subst e
   rw[aH] at q3
   rw[aT];exact hnew q3
  ·rw[(bo s e).2] at q3
   rw[(bo s e).1];exact q.new s q1 (by omega) q3
 ·by_cases e1:s=m+2
  ·by_cases e2:t=m+2
   ·rw[e1,e2]
   ·subst e1
    rw[aH] at hs
    rw[(bo t e2).2] at ht
    rw[aT,(bo t e2).1] at he
    exact absurd he (hap hs t t1 (by omega) ht)
  ·by_cases e2:t=m+2
   ·subst e2
    rw[aH] at ht
    rw[(bo s e1).2] at hs
    rw[aT,(bo s e1).1] at he
    exact absurd he.symm (hap ht s s1 (by omega) hs)
   ·rw[(bo s e1).2] at hs
    rw[(bo t e2).2] at ht
    rw[(bo s e1).1,(bo t e2).1] at he
    exact q.inj s t s1 (by omega) t1 (by omega) hs ht he
 ·by_cases e:s=m+2
  ·subst e
   rw[aH] at q3
   rw[aT] at q4
   subst q4
   exact ad3 q3 hx
  ·rw[(bo s e).2] at q3
   rw[(bo s e).1] at q4
   exact(q.apart x (hon x hx)).2 s q1 (by omega) q3 q4
noncomputable def zW (b:Bk) (V:Nat→Option Addr×Nat) (j:Nat):AS:=⟨regs Tryz.f44.ntmps [(1,.box 1 0),(2,.box 2 0),(3,.vec 8 7 0 b.es.length),(4,vi j),(17,vi b.es.length),(18,vi j)],[(1,[.d (di b.t),.vec 8 7 0 b.es.length]),(8,[.arr fO 7 (bJ V b.es)]),(2,[.d (di 0),.d (.con (.slice none 0 0))])]⟩
noncomputable def XB (b:Bk) (V:Nat→Option Addr×Nat) (j:Nat):AS:=⟨regs Tryz.f44.ntmps [(1,.box 1 0),(2,.box 2 0),(3,.vec 8 7 0 b.es.length),(4,vi j),(17,vi b.es.length),(18,vi j),(22,.vec 8 7 0 b.es.length),(23,vi j),(30,.vec 31007 4 0 (b.es.getD j en0).gs.length)],[(31007,[.arr jU 4 (dP (b.es.getD j en0).gs)]),(1,[.d (di b.t),.vec 8 7 0 b.es.length]),(8,[.arr fO 7 (bJ V b.es)]),(2,[.d (di 0),.d (.con (.slice none 0 0))])]⟩
theorem VX {V:Nat→Option Addr×Nat} {es:List En} {j:Nat} (hj:j<es.length) {p:Option Addr×Nat}:(fun i=>bif Nat.beq i j then .agg (List.take 5 (jv (es.getD j en0) (sv V (2*j+2) (es.getD j en0).gs.length) (sv V (2*j+3) (es.getD j en0).ah.length))++[.con (.slice p.1 (es.getD j en0).gs.length p.2)]++List.drop 6 (jv (es.getD j en0) (sv V (2*j+2) (es.getD j en0).gs.length) (sv V (2*j+3) (es.getD j en0).ah.length))) else bJ V es i)=bJ (eU V (2*j+2) p) es:=by
 funext i
 have h:=Qe (V:=V) (b:=⟨0,es⟩) hj (x':=es.getD j en0) (p:=p) rfl rfl rfl rfl rfl i
 have hset:es.set j (es.getD j en0)=es:=by
  apply List.ext_getElem? 
  intro k
  by_cases c:j=k
  ·subst c
   rw[List.getElem?_set_self hj,List.getD,gy hj];rfl
  ·rw[List.getElem?_set_ne c]
 have h:_=bJ (eU V (2*j+2) p) (es.set j (es.getD j en0)) i:=h
 rw[hset] at h
 exact h
theorem zl {b:Bk} {V:Nat→Option Addr×Nat} {j s:Nat} {l:List AV} (h:(zW b V j).box s=some l):(s=1∧l=[.d (di b.t),.vec 8 7 0 b.es.length])∨(s=8∧l=[.arr fO 7 (bJ V b.es)])∨(s=2∧l=[.d (di 0),.d (.con (.slice none 0 0))]):=by
 simp only[zW,AS.box,Go.Ab.look] at h
 by_cases e1:(1:Nat)=s
 ·subst e1;simp at h;exact .inl ⟨rfl,h.symm⟩
 ·rw[aQ e1,cond_false] at h
  by_cases e2:(8:Nat)=s
  ·subst e2;simp at h;exact .inr (.inl ⟨rfl,h.symm⟩)
  ·rw[aQ e2,cond_false] at h
   by_cases e3:(2:Nat)=s
   ·subst e3;simp at h;exact .inr (.inr ⟨rfl,h.symm⟩)
   ·rw[aQ e3,cond_false] at h;cases h
theorem I4 {G':IH} {F:Fr} {w0:World} {h0 h:IH} {st:AS} {β:Nat→Nat} {tm:Array Value} {w:World} (g:aO G' F w0 h0 st β h tm w):aO h0 F w0 h0 st β h tm w:={ g with glob:=g.ext }
theorem acy {b:Bk} {w0 w:World} {hh:IH} {on:Nat→Prop} {β1 β:Nat→Nat} {V:Nat→Option Addr×Nat} {j:Nat} (q:mZ b w0 (2*j) hh on β V w) (hj:j<b.es.length) (hs:gq b.es) {R:Exit→Act→World→Prop} {its:List It}
  (K:∀(h':IH) (on':Nat→Prop) (sZ β':Nat→Nat) (V':Nat→Option Addr×Nat) (a':Act) (w':World),mZ b w0 (2*j+1) h' on' β' V' w'→aO h' ⟨on',sZ⟩ w' h' (zW b V' j) sZ h' a'.tmps w'→a'.defers=[]→wpS Tryz.prog its R .normal a' w') :
  aK Tryz.prog hh ⟨on,β1⟩ w hh (cd Tryz.f44 [1,1,1,1,0,1,0,0,1,1,0,0,1,0] :: its) (zW b V j) R:=by
 have Td:bT hh ⟨on,β1⟩ (.d (.con (sv V (2*j+2) (b.es.getD j en0).gs.length))) (.d (jZ (b.es.getD j en0).gs)):=by
  intro β h v hG _ r
  have r:v=_:=r
  subst r
  exact DV.rel.mono hG _ _ (q.Wi j (Nat.le_refl _) hj)
 refine aK.qR (aj:=FC) follows (Z8 (b.es.getD j en0).gs (b.es.getD j en0).ah) 10 (by kernel_rfl) ?_
 refine qL ((.d (.slc 4 (b.es.getD j en0).gs.length (dP (b.es.getD j en0).gs))):AV) (opsOf (aU (au Tryz.f44) [1,1,1,1,0,1,0,0,1,1,0,0,1,0])) (fun Za Zb=>((((0≤(↑j:Int))∧((↑j:Int)<↑b.es.length))∧bT hh (Fr.mk on β1) (.d (.con (.slice (V (2*(0+(↑j:Int).toNat)+2)).fst (b.es.getD (0+(↑j:Int).toNat) en0).gs.length (V (2*(0+(↑j:Int).toNat)+2)).snd))) Za∧dD Tryz.prog hh 74 [Za] [] (.vec 7 4 0 (b.es.getD j en0).gs.length) [(7,[(.arr qW 4 (dP (b.es.getD j en0).gs))])])∧aP hh (Fr.mk on β1) w hh (iP Tryz.prog Zb.toList 10 (Zb.toList.length-10) (wpS Tryz.prog its R)) .normal ⟨regs 47 [(1,(.box 1 0)),(2,(.box 2 0)),(3,(.vec 8 7 0 b.es.length)),(4,(vi (↑j))),(17,(vi (↑b.es.length))),(18,(vi (↑j))),(21,(.box 1 1)),(22,(.vec 8 7 0 b.es.length)),(23,(vi (↑j))),(24,(.box 1 1)),(25,(.vec 8 7 0 b.es.length)),(26,(vi (↑j))),(27,(.elem 8 7 (0+(↑j:Int).toNat) 0)),(28,(.elem 8 7 (0+(↑j:Int).toNat) 5)),(29,Za),(30,(.vec 31007 4 0 (b.es.getD j en0).gs.length))],[(31007,[(.arr qW 4 (dP (b.es.getD j en0).gs))]),(1,[(vi b.t),(.vec 8 7 0 b.es.length)]),(8,[(.arr eP 7 (bJ V b.es))]),(2,[(vi 0),(.d dG)])]⟩)) (by kernel_rfl) ?_
 try dsimp only
 simp only[gW,Nat.zero_add]
 refine⟨⟨⟨by omega,by omega⟩,Td,YN _ (hs.2 j hj).1⟩,?_⟩
 intro β3 h3 a3 w3 g3 hd3
 have g4:=g3.weaken (st':=XB b V j) (by refine AS.leZ [] [] (b:=((T0∧T0∧T0∧T0∧T0∧T0∧T0∧T0∧T0∧True)∧T0∧T0∧T0∧T0∧True)) (by kernel_rfl) (by kernel_rfl) ?_;exact⟨⟨rfl,rfl,rfl,rfl,rfl,rfl,rfl,rfl,rfl,trivial⟩,rfl,rfl,rfl,rfl,trivial⟩)
 have q0:=q.next g4
 obtain ⟨p,hpv,hp,hm,g5⟩:=g4.shift (q:=30) (m:=(b.es.getD j en0).gs.length) (e:=1000003) (on:=fun c=>∃s l,(XB b V j).box s=some l∧Live β3 s l∧blk β3 s=c) (by kernel_rfl) (by kernel_rfl) (by kernel_rfl) (by kernel_rfl) fun s l q1 q2=>⟨s,l,q1,q2,rfl⟩
 refine(dV.tree (aj:={ d:=bG }) ?_:dV Tryz.prog hh _ w3 h3 (opsOf (aU (au Tryz.f44) [1,1,1,1,0,1,0,0,1,1,0,0,1,0])).toList 10 (3+0) _ _) _ _ _ _ g5 hd3
 refine je (jv (b.es.getD (0+(↑j:Int).toNat) en0) (sv V (2*(0+(↑j:Int).toNat)+2) (b.es.getD (0+(↑j:Int).toNat) en0).gs.length) (sv V (2*(0+(↑j:Int).toNat)+3) (b.es.getD (0+(↑j:Int).toNat) en0).ah.length)) (fun Za=>(((0≤(↑j:Int))∧((↑j:Int)<↑b.es.length))∧aP hh (Fr.mk (fun c=>∃s l,(XB b V j).box s=some l∧Live β3 s l∧blk β3 s=c) (upd β3 1000003 (blk β3 31007) (room β3 31007) (many β3 31007))) w3 h3 (iP Tryz.prog (opsOf (aU (au Tryz.f44) [1,1,1,1,0,1,0,0,1,1,0,0,1,0])).toList (10+3) 0 (wpS Tryz.prog its R)) .normal ⟨regs 47 [(1,(.box 1 0)),(2,(.box 2 0)),(3,(.vec 8 7 0 b.es.length)),(4,(vi (↑j))),(17,(vi (↑b.es.length))),(18,(vi (↑j))),(22,(.vec 8 7 0 b.es.length)),(23,(vi (↑j))),(30,(.d (.con (.slice p (b.es.getD j en0).gs.length (β3 (3*31007+1)))))),(31,(.elem 8 7 (0+(↑j:Int).toNat) 0)),(32,(.elem 8 7 (0+(↑j:Int).toNat) 5))],[(1000003,[(.arr qW 4 (dP (b.es.getD j en0).gs))]),(1,[(vi b.t),(.vec 8 7 0 b.es.length)]),(8,[(.arr eP 7 (fun D6=>bif D6.beq (0+(↑j:Int).toNat) then DV.agg (List.take (0+5) Za++[DV.con (Value.slice p (b.es.getD j en0).gs.length (β3 (3*31007+1)))]++List.drop (0+5+1) Za) else bJ V b.es D6))]),(2,[(vi 0),(.d dG)])]⟩)) (by kernel_rfl) ?_
 try dsimp only
 simp only[gW,Nat.zero_add]
 refine⟨⟨by omega,by omega⟩,aP.kP ?_⟩
 intro β6 h6 a6 w6 g6 hd6
 have q1:=q0.next (I4 g6)
 obtain ⟨f1,f2,f3⟩:=g6.fix 1000003 (by decide)
 have f1:blk β6 1000003=blk β3 31007:=f1.trans (aT ..)
 have f2:room β6 1000003=room β3 31007:=f2.trans (aH ..)
 have hb3:=g6.box 1000003 _ rfl
 have hv:=l7 (G:=h6) g6 (e:=1000003) (by decide) (aT ..) (aH ..) (Nat.le_trans hm (Nat.le_of_eq (bH ..).symm)) rfl rfl (fun i=>lJ (b.es.getD j en0).gs i) (fun _ _=>rfl) hp
 have g7:=g6.weaken (st':=zW b (eU V (2*j+2) (p,room β3 31007)) j) (by
  refine AS.leZ [] [1] (b:=((T0∧T0∧T0∧T0∧T0∧T0∧True)∧T0∧((some [(.arr eP 7 (fun D6=>bif D6.beq j then DV.agg (List.take 5 (jv (b.es.getD j en0) (sv V (2*j+2) (b.es.getD j en0).gs.length) (sv V (2*j+3) (b.es.getD j en0).ah.length))++[DV.con (Value.slice p (b.es.getD j en0).gs.length (β3 (3*31007+1)))]++List.drop (5+1) (jv (b.es.getD j en0) (sv V (2*j+2) (b.es.getD j en0).gs.length) (sv V (2*j+3) (b.es.getD j en0).ah.length))) else bJ V b.es D6))]):dS)=(some [(.arr eP 7 (bJ (eU V (2*j+2) (p,β3 (3*31007+1))) b.es))])∧T0∧True)) (by kernel_rfl) (by kernel_rfl) ?_
  exact⟨⟨rfl,rfl,rfl,rfl,rfl,rfl,trivial⟩,rfl,by rw[←VX hj],rfl,trivial⟩)
 have hlive:0<room β3 31007→Live β6 1000003 [.arr jU 4 (dP (b.es.getD j en0).gs)]:=fun h0=>by
  show 0<room β6 1000003
  rw[f2];exact h0
 refine K h6 _ β6 (upd β (2*j+2) (blk β3 31007) (room β3 31007) 0) (eU V (2*j+2) (p,room β3 31007)) a6 w6 (q1.grow (m:=2*j) ?_ (fun h0=>?_) (fun h0 s s1 s2 s3=>?_) (fun h0=>?_) (fun i hi _=>?_) (fun i hi _=>?_)) (fZ g7) hd6
 ·rintro c ⟨s,l,hl,hv,rfl⟩
  rcases zl hl with ⟨rfl,rfl⟩|⟨rfl,rfl⟩|⟨rfl,rfl⟩
  ·exact⟨1,_,rfl,trivial,rfl⟩
  ·exact⟨8,_,rfl,hv,rfl⟩
  ·exact⟨2,_,rfl,trivial,rfl⟩
 ·have h1:=hb3.1 (hlive h0)
  have h2:=Own.lt (hlive h0) hb3.2
  rw[f1] at h1 h2
  refine⟨?_,h2,h1.2⟩
  exact(q1.apart _ ⟨1000003,_,rfl,hlive h0,f1⟩).1
 ·exact(q1.apart _ ⟨1000003,_,rfl,hlive h0,f1⟩).2 s s1 s2 s3
 ·rintro ⟨s,l,hl,hv,he⟩
  have he:=he.trans f1.symm
  rcases zl hl with ⟨rfl,rfl⟩|⟨rfl,rfl⟩|⟨rfl,rfl⟩
  ·exact absurd (g6.inj 1 1000003 _ _ rfl rfl trivial (hlive h0) he) (by decide)
  ·exact absurd (g6.inj 8 1000003 _ _ rfl rfl hv (hlive h0) he) (by decide)
  ·exact absurd (g6.inj 2 1000003 _ _ rfl rfl trivial (hlive h0) he) (by decide)
 ·obtain rfl:i=j:=by omega
  exact hv
 ·omega
noncomputable def Xu (b:Bk) (V:Nat→Option Addr×Nat) (j:Nat):AS:=⟨regs Tryz.f44.ntmps [(1,.box 1 0),(2,.box 2 0),(3,.vec 8 7 0 b.es.length),(4,vi j),(17,vi b.es.length),(18,vi j),(34,.vec 8 7 0 b.es.length),(35,vi j),(42,.vec 43007 6 0 (b.es.getD j en0).ah.length)],[(43007,[.arr iZ 6 (dI (b.es.getD j en0).ah)]),(1,[.d (di b.t),.vec 8 7 0 b.es.length]),(8,[.arr fO 7 (bJ V b.es)]),(2,[.d (di 0),.d (.con (.slice none 0 0))])]⟩
theorem Vm {V:Nat→Option Addr×Nat} {es:List En} {j:Nat} (hj:j<es.length) {p:Option Addr×Nat}:(fun i=>bif Nat.beq i j then .agg (List.take 6 (jv (es.getD j en0) (sv V (2*j+2) (es.getD j en0).gs.length) (sv V (2*j+3) (es.getD j en0).ah.length))++[.con (.slice p.1 (es.getD j en0).ah.length p.2)]++List.drop 7 (jv (es.getD j en0) (sv V (2*j+2) (es.getD j en0).gs.length) (sv V (2*j+3) (es.getD j en0).ah.length))) else bJ V es i)=bJ (eU V (2*j+3) p) es:=by
 funext i
 have h:=Qc (V:=V) (b:=⟨0,es⟩) hj (x':=es.getD j en0) (p:=p) rfl rfl rfl rfl rfl i
 have hset:es.set j (es.getD j en0)=es:=by
  apply List.ext_getElem? 
  intro k
  by_cases c:j=k
  ·subst c
   rw[List.getElem?_set_self hj,List.getD,gy hj];rfl
  ·rw[List.getElem?_set_ne c]
 have h:_=bJ (eU V (2*j+3) p) (es.set j (es.getD j en0)) i:=h
 rw[hset] at h
 exact h
theorem abq {b:Bk} {w0 w:World} {hh:IH} {on:Nat→Prop} {β1 β:Nat→Nat} {V:Nat→Option Addr×Nat} {j:Nat} (q:mZ b w0 (2*j+1) hh on β V w) (hj:j<b.es.length) (hs:gq b.es) {R:Exit→Act→World→Prop} {its:List It}
  (K:∀(h':IH) (on':Nat→Prop) (sZ β':Nat→Nat) (V':Nat→Option Addr×Nat) (a':Act) (w':World),mZ b w0 (2*j+2) h' on' β' V' w'→aO h' ⟨on',sZ⟩ w' h' (zW b V' j) sZ h' a'.tmps w'→a'.defers=[]→wpS Tryz.prog its R .normal a' w') :
  aK Tryz.prog hh ⟨on,β1⟩ w hh (cd Tryz.f44 [1,1,1,1,0,1,0,0,1,1,0,0,1,1] :: its) (zW b V j) R:=by
 have Td:bT hh ⟨on,β1⟩ (.d (.con (sv V (2*j+3) (b.es.getD j en0).ah.length))) (.d (iD (b.es.getD j en0).ah)):=by
  intro β h v hG _ r
  have r:v=_:=r
  subst r
  exact DV.rel.mono hG _ _ (q.WU j (Nat.le_refl _) hj)
 refine aK.qR (aj:=FC) follows (Z8 (b.es.getD j en0).gs (b.es.getD j en0).ah) 10 (by kernel_rfl) ?_
 refine qL ((.d (.slc 6 (b.es.getD j en0).ah.length (dI (b.es.getD j en0).ah))):AV) (opsOf (aU (au Tryz.f44) [1,1,1,1,0,1,0,0,1,1,0,0,1,1])) (fun Za Zb=>((((0≤(↑j:Int))∧((↑j:Int)<↑b.es.length))∧bT hh (Fr.mk on β1) (.d (.con (.slice (V (2*(0+(↑j:Int).toNat)+3)).fst (b.es.getD (0+(↑j:Int).toNat) en0).ah.length (V (2*(0+(↑j:Int).toNat)+3)).snd))) Za∧dD Tryz.prog hh 75 [Za] [] (.vec 7 6 0 (b.es.getD j en0).ah.length) [(7,[(.arr oz 6 (dI (b.es.getD j en0).ah))])])∧aP hh (Fr.mk on β1) w hh (iP Tryz.prog Zb.toList 10 (Zb.toList.length-10) (wpS Tryz.prog its R)) .normal ⟨regs 47 [(1,(.box 1 0)),(2,(.box 2 0)),(3,(.vec 8 7 0 b.es.length)),(4,(vi (↑j))),(17,(vi (↑b.es.length))),(18,(vi (↑j))),(33,(.box 1 1)),(34,(.vec 8 7 0 b.es.length)),(35,(vi (↑j))),(36,(.box 1 1)),(37,(.vec 8 7 0 b.es.length)),(38,(vi (↑j))),(39,(.elem 8 7 (0+(↑j:Int).toNat) 0)),(40,(.elem 8 7 (0+(↑j:Int).toNat) 6)),(41,Za),(42,(.vec 43007 6 0 (b.es.getD j en0).ah.length))],[(43007,[(.arr oz 6 (dI (b.es.getD j en0).ah))]),(1,[(vi b.t),(.vec 8 7 0 b.es.length)]),(8,[(.arr eP 7 (bJ V b.es))]),(2,[(vi 0),(.d dG)])]⟩)) (by kernel_rfl) ?_
 try dsimp only
 simp only[gW,Nat.zero_add]
 refine⟨⟨⟨by omega,by omega⟩,Td,Yj _ (hs.2 j hj).2⟩,?_⟩
 intro β3 h3 a3 w3 g3 hd3
 have g4:=g3.weaken (st':=Xu b V j) (by refine AS.leZ [] [] (b:=((T0∧T0∧T0∧T0∧T0∧T0∧T0∧T0∧T0∧True)∧T0∧T0∧T0∧T0∧True)) (by kernel_rfl) (by kernel_rfl) ?_;exact⟨⟨rfl,rfl,rfl,rfl,rfl,rfl,rfl,rfl,rfl,trivial⟩,rfl,rfl,rfl,rfl,trivial⟩)
 have q0:=q.next g4
 obtain ⟨p,hpv,hp,hm,g5⟩:=g4.shift (q:=42) (m:=(b.es.getD j en0).ah.length) (e:=1000003) (on:=fun c=>∃s l,(Xu b V j).box s=some l∧Live β3 s l∧blk β3 s=c) (by kernel_rfl) (by kernel_rfl) (by kernel_rfl) (by kernel_rfl) fun s l q1 q2=>⟨s,l,q1,q2,rfl⟩
 refine(dV.tree (aj:={ d:=bG }) ?_:dV Tryz.prog hh _ w3 h3 (opsOf (aU (au Tryz.f44) [1,1,1,1,0,1,0,0,1,1,0,0,1,1])).toList 10 (3+0) _ _) _ _ _ _ g5 hd3
 refine je (jv (b.es.getD (0+(↑j:Int).toNat) en0) (sv V (2*(0+(↑j:Int).toNat)+2) (b.es.getD (0+(↑j:Int).toNat) en0).gs.length) (sv V (2*(0+(↑j:Int).toNat)+3) (b.es.getD (0+(↑j:Int).toNat) en0).ah.length)) (fun Za=>(((0≤(↑j:Int))∧((↑j:Int)<↑b.es.length))∧aP hh (Fr.mk (fun c=>∃s l,(Xu b V j).box s=some l∧Live β3 s l∧blk β3 s=c) (upd β3 1000003 (blk β3 43007) (room β3 43007) (many β3 43007))) w3 h3 (iP Tryz.prog (opsOf (aU (au Tryz.f44) [1,1,1,1,0,1,0,0,1,1,0,0,1,1])).toList (10+3) 0 (wpS Tryz.prog its R)) .normal ⟨regs 47 [(1,(.box 1 0)),(2,(.box 2 0)),(3,(.vec 8 7 0 b.es.length)),(4,(vi (↑j))),(17,(vi (↑b.es.length))),(18,(vi (↑j))),(34,(.vec 8 7 0 b.es.length)),(35,(vi (↑j))),(42,(.d (.con (.slice p (b.es.getD j en0).ah.length (β3 (3*43007+1)))))),(43,(.elem 8 7 (0+(↑j:Int).toNat) 0)),(44,(.elem 8 7 (0+(↑j:Int).toNat) 6))],[(1000003,[(.arr oz 6 (dI (b.es.getD j en0).ah))]),(1,[(vi b.t),(.vec 8 7 0 b.es.length)]),(8,[(.arr eP 7 (fun D6=>bif D6.beq (0+(↑j:Int).toNat) then DV.agg (List.take (0+6) Za++[DV.con (Value.slice p (b.es.getD j en0).ah.length (β3 (3*43007+1)))]++List.drop (0+6+1) Za) else bJ V b.es D6))]),(2,[(vi 0),(.d dG)])]⟩)) (by kernel_rfl) ?_
 try dsimp only
 simp only[gW,Nat.zero_add]
 refine⟨⟨by omega,by omega⟩,aP.kP ?_⟩
 intro β6 h6 a6 w6 g6 hd6
 have q1:=q0.next (I4 g6)
 obtain ⟨f1,f2,f3⟩:=g6.fix 1000003 (by decide)
 have f1:blk β6 1000003=blk β3 43007:=f1.trans (aT ..)
 have f2:room β6 1000003=room β3 43007:=f2.trans (aH ..)
 have hb3:=g6.box 1000003 _ rfl
 have hv:=l7 (G:=h6) g6 (e:=1000003) (by decide) (aT ..) (aH ..) (Nat.le_trans hm (Nat.le_of_eq (bH ..).symm)) rfl rfl (fun i=>kR (b.es.getD j en0).ah i) (fun _ _=>rfl) hp
 have g7:=g6.weaken (st':=zW b (eU V (2*j+3) (p,room β3 43007)) j) (by
  refine AS.leZ [] [1] (b:=((T0∧T0∧T0∧T0∧T0∧T0∧True)∧T0∧((some [(.arr eP 7 (fun D6=>bif D6.beq j then DV.agg (List.take 6 (jv (b.es.getD j en0) (sv V (2*j+2) (b.es.getD j en0).gs.length) (sv V (2*j+3) (b.es.getD j en0).ah.length))++[DV.con (Value.slice p (b.es.getD j en0).ah.length (β3 (3*43007+1)))]++List.drop (6+1) (jv (b.es.getD j en0) (sv V (2*j+2) (b.es.getD j en0).gs.length) (sv V (2*j+3) (b.es.getD j en0).ah.length))) else bJ V b.es D6))]):dS)=(some [(.arr eP 7 (bJ (eU V (2*j+3) (p,β3 (3*43007+1))) b.es))])∧T0∧True)) (by kernel_rfl) (by kernel_rfl) ?_
  exact⟨⟨rfl,rfl,rfl,rfl,rfl,rfl,trivial⟩,rfl,by rw[←Vm hj],rfl,trivial⟩)
 have hlive:0<room β3 43007→Live β6 1000003 [.arr iZ 6 (dI (b.es.getD j en0).ah)]:=fun h0=>by
  show 0<room β6 1000003
  rw[f2];exact h0
 refine K h6 _ β6 (upd β (2*j+3) (blk β3 43007) (room β3 43007) 0) (eU V (2*j+3) (p,room β3 43007)) a6 w6 (q1.grow (m:=2*j+1) ?_ (fun h0=>?_) (fun h0 s s1 s2 s3=>?_) (fun h0=>?_) (fun i hi _=>?_) (fun i hi _=>?_)) (fZ g7) hd6
 ·rintro c ⟨s,l,hl,hv,rfl⟩
  rcases zl hl with ⟨rfl,rfl⟩|⟨rfl,rfl⟩|⟨rfl,rfl⟩
  ·exact⟨1,_,rfl,trivial,rfl⟩
  ·exact⟨8,_,rfl,hv,rfl⟩
  ·exact⟨2,_,rfl,trivial,rfl⟩
 ·have h1:=hb3.1 (hlive h0)
  have h2:=Own.lt (hlive h0) hb3.2
  rw[f1] at h1 h2
  refine⟨?_,h2,h1.2⟩
  exact(q1.apart _ ⟨1000003,_,rfl,hlive h0,f1⟩).1
 ·exact(q1.apart _ ⟨1000003,_,rfl,hlive h0,f1⟩).2 s s1 s2 s3
 ·rintro ⟨s,l,hl,hv,he⟩
  have he:=he.trans f1.symm
  rcases zl hl with ⟨rfl,rfl⟩|⟨rfl,rfl⟩|⟨rfl,rfl⟩
  ·exact absurd (g6.inj 1 1000003 _ _ rfl rfl trivial (hlive h0) he) (by decide)
  ·exact absurd (g6.inj 8 1000003 _ _ rfl rfl hv (hlive h0) he) (by decide)
  ·exact absurd (g6.inj 2 1000003 _ _ rfl rfl trivial (hlive h0) he) (by decide)
 ·omega
 ·obtain rfl:i=j:=by omega
  exact hv
structure rP (b:Bk) (w0:World) (h:IH) (β:Nat→Nat) (V:Nat→Option Addr×Nat) (w:World):Prop where
 hold:h.holds w
 ent:cZ h fO 7 b.es.length (bJ V b.es) (blk β 1) (room β 1) (sv V 1 b.es.length) w.heap[blk β 1]?
 gr:∀i,i<b.es.length→cZ h jU 4 (b.es.getD i en0).gs.length (dP (b.es.getD i en0).gs) (blk β (2*i+2)) (room β (2*i+2)) (sv V (2*i+2) (b.es.getD i en0).gs.length) w.heap[blk β (2*i+2)]?
 ap:∀i,i<b.es.length→cZ h iZ 6 (b.es.getD i en0).ah.length (dI (b.es.getD i en0).ah) (blk β (2*i+3)) (room β (2*i+3)) (sv V (2*i+3) (b.es.getD i en0).ah.length) w.heap[blk β (2*i+3)]?
 new:∀s,1≤s→s<2*b.es.length+2→0<room β s→w0.heap.size≤blk β s∧blk β s<w.heap.size
 inj:∀s t,1≤s→s<2*b.es.length+2→1≤t→t<2*b.es.length+2→0<room β s→0<room β t→blk β s=blk β t→s=t
 kept:Kept (fun _=>False) w0 w
def oZ (b:Bk) (w0:World) (h:IH) (v:Value) (w:World):Prop:=∃β V,v=.agg #[.int .i64 b.t,sv V 1 b.es.length]∧rP b w0 h β V w
noncomputable abbrev yP:List It:=[.blk 0,cd Tryz.f44 [1,1,1,1,1]]
def I44 (b:Bk) (w0:World) (n:Nat) (a:Act) (w:World):Prop:=∃j hh on β1 β V,n=b.es.length-j∧j≤b.es.length∧mZ b w0 (2*j) hh on β V w∧aO hh ⟨on,β1⟩ w hh (GL b V j) β1 hh a.tmps w∧a.defers=[]
theorem YP {b:Bk} {w0 w:World} {h0 hh:IH} (hw0:h0.holds w0) {on:Nat→Prop} {β1 β:Nat→Nat} {V:Nat→Option Addr×Nat} {j:Nat} (q:mZ b w0 (2*j) hh on β V w) (hj:b.es.length≤j) {β2:Nat→Nat} {h2:IH} {a:Act} {w2:World} (g:aO hh ⟨on,β1⟩ w hh (GL b V j) β2 h2 a.tmps w2) (hd:a.defers=[]) :
  wpS Tryz.prog [cd Tryz.f44 [1,1,1,1,1]] (aS Tryz.prog Tryz.f44 (oZ b w0 h0)) .normal a w2:=by
 have hA:aK Tryz.prog hh ⟨on,β1⟩ w hh [cd Tryz.f44 [1,1,1,1,1]] (GL b V j) (aS Tryz.prog Tryz.f44 (oZ b w0 h0)):=by
  refine dX (aj:=FC) follows (fun _=>none) (cuts:=[]) (n:=1000) ?_
  refine iG (b:=aP hh (Fr.mk on β1) w hh (aS Tryz.prog Tryz.f44 (oZ b w0 h0)) .ret ⟨regs 47 [(1,(.box 1 0)),(2,(.box 2 0)),(3,(.vec 8 7 0 b.es.length)),(17,(vi (↑b.es.length))),(18,(vi (↑j))),(46,(.agg [(vi b.t),(.vec 8 7 0 b.es.length)]))],[(1,[(vi b.t),(.vec 8 7 0 b.es.length)]),(8,[(.arr eP 7 (bJ V b.es))]),(2,[(vi b.t),(.vec 8 7 0 b.es.length)])]⟩) (by kernel_rfl) ?_
  refine aP.ret (x:=.agg [.d (di b.t),.vec 8 7 0 b.es.length]) rfl rfl fun β4 h4 tm w4 v g4 hv=>?_
  have q2:=q.next g4
  obtain ⟨vs,rfl,v0,vs1,rfl,r0,v1,vs2,rfl,⟨hm1,hm2,p,hp,hpp⟩,r2⟩:=hv
  have r2:vs2=[]:=r2
  have r0:v0=.int .i64 b.t:=r0
  subst r2 r0
  rw[Nat.sub_zero] at hp
  subst hp
  obtain ⟨b1,b2⟩:=g4.box 8 _ rfl
  have hO:dw h4 fO 7 (bJ V b.es) (room β4 8) (many β4 8) w4.heap[blk β4 8]?:=b2
  have hpp:p=some ⟨blk β4 8,0,none⟩∨room β4 8=0:=hpp.imp (fun e=>by simpa using e) fun e=>by omega
  have Zp:h0.holds w4:=wR hw0 q2.kept fun _ hc=>hc.elim
  have hex:bJ (eU V 1 (p,room β4 8)) b.es=bJ V b.es:=by
   funext i
   unfold bJ
   rw[dW _ (by omega),dW _ (by omega)]
  have bo:∀t,t≠1→blk (upd β 1 (blk β4 8) (room β4 8) 0) t=blk β t∧room (upd β 1 (blk β4 8) (room β4 8) 0) t=room β t:=fun t ht=>⟨aZ ht,bI ht⟩
  have h8:0<room β4 8→w0.heap.size≤blk β4 8∧∀s,2≤s→s<2*j+2→0<room β s→blk β4 8≠blk β s:=fun h0'=>q2.apart _ ⟨8,_,rfl,h0',rfl⟩
  have h8l:0<room β4 8→blk β4 8<w4.heap.size:=fun h0'=>Own.lt (show Live β4 8 [.arr fO 7 (bJ V b.es)] from h0') b2
  refine⟨upd β 1 (blk β4 8) (room β4 8) 0,eU V 1 (p,room β4 8),by rw[jh],⟨Zp,?_,fun i hi=>?_,fun i hi=>?_,fun s s1 s2 s3=>?_,fun s t s1 s2 t1 t2 hs ht he=>?_,q2.kept⟩⟩
  ·rw[aT,aH,jh,hex]
   exact⟨⟨p,rfl,hpp⟩,(dw.less hO rfl (by omega) fun _ _=>rfl).flat fun i _=>mg V b.es i⟩
  ·rw[(bo _ (by omega)).1,(bo _ (by omega)).2,dW _ (by omega)]
   exact(q2.gr i (by omega) hi).flat fun k _=>lJ _ k
  ·rw[(bo _ (by omega)).1,(bo _ (by omega)).2,dW _ (by omega)]
   exact(q2.ap i (by omega) hi).flat fun k _=>kR _ k
  ·by_cases e:s=1
   ·subst e
    rw[aH] at s3
    rw[aT]
    exact⟨(h8 s3).1,h8l s3⟩
   ·rw[(bo s e).2] at s3
    rw[(bo s e).1]
    obtain ⟨n1,n2,_⟩:=q2.new s (by omega) (by omega) s3
    exact⟨n1,n2⟩
  ·by_cases e1:s=1
   ·by_cases e2:t=1
    ·rw[e1,e2]
    ·subst e1
     rw[aH] at hs
     rw[(bo t e2).2] at ht
     rw[aT,(bo t e2).1] at he
     exact absurd he ((h8 hs).2 t (by omega) (by omega) ht)
   ·by_cases e2:t=1
    ·subst e2
     rw[aH] at ht
     rw[(bo s e1).2] at hs
     rw[aT,(bo s e1).1] at he
     exact absurd he.symm ((h8 ht).2 s (by omega) (by omega) hs)
    ·rw[(bo s e1).2] at hs
     rw[(bo t e2).2] at ht
     rw[(bo s e1).1,(bo t e2).1] at he
     exact q2.inj s t (by omega) (by omega) (by omega) (by omega) hs ht he
 exact hA β2 h2 a w2 g hd
theorem U9 {b:Bk} {w0 w:World} {h0 hh:IH} (hw0:h0.holds w0) {on:Nat→Prop} {β1 β:Nat→Nat} {V:Nat→Option Addr×Nat} {j:Nat} (q:mZ b w0 (2*j) hh on β V w) (hs:gq b.es) (hj:j≤b.es.length) {a:Act} (g:aO hh ⟨on,β1⟩ w hh (GL b V j) β1 hh a.tmps w) (hd:a.defers=[]) :
  wpS Tryz.prog [cd Tryz.f44 [1,1,1,1,0,1,0,0]] (oC Tryz.prog yP (aS Tryz.prog Tryz.f44 (oZ b w0 h0)) (I44 b w0) (b.es.length-j)) .normal a w:=by
 have hA:aK Tryz.prog hh ⟨on,β1⟩ w hh [cd Tryz.f44 [1,1,1,1,0,1,0,0]] (GL b V j) (oC Tryz.prog yP (aS Tryz.prog Tryz.f44 (oZ b w0 h0)) (I44 b w0) (b.es.length-j)):=by
  refine dX (aj:=FC) follows (fun _=>none) (cuts:=[7]) (n:=1000) ?_
  refine qL (decide ((↑j:Int)<↑b.es.length)) (oC Tryz.prog yP (aS Tryz.prog Tryz.f44 (oZ b w0 h0)) (I44 b w0) (b.es.length-j)) (fun Za Zb=>(((Za=true)→aK Tryz.prog hh (Fr.mk on β1) w hh [cd Tryz.f44 [1,1,1,1,0,1,0,0,1,1,0,0,1],(.blk 1),cd Tryz.f44 [1,1,1,1,0,1,0,0,1,1,1]] ⟨regs 47 [(1,(.box 1 0)),(2,(.box 2 0)),(3,(.vec 8 7 0 b.es.length)),(4,(vi (↑j))),(17,(vi (↑b.es.length))),(18,(vi (↑j))),(19,(vb Za)),(20,(vi (↑j)))],[(1,[(vi b.t),(.vec 8 7 0 b.es.length)]),(8,[(.arr eP 7 (bJ V b.es))]),(2,[(vi 0),(.d dG)])]⟩ Zb)∧((Za=false)→aP hh (Fr.mk on β1) w hh Zb (.exit 0) ⟨regs 47 [(1,(.box 1 0)),(2,(.box 2 0)),(3,(.vec 8 7 0 b.es.length)),(17,(vi (↑b.es.length))),(18,(vi (↑j))),(19,(vb Za))],[(1,[(vi b.t),(.vec 8 7 0 b.es.length)]),(8,[(.arr eP 7 (bJ V b.es))]),(2,[(vi 0),(.d dG)])]⟩))) (by kernel_rfl) ?_
  refine⟨fun c=>?_,fun c=>?_⟩
  ·have hj2:j<b.es.length:=by have:=dn c;omega
   refine aK.weaken (st':=zW b V j) ?_ ?_
   ·exact AS.bD (by kernel_rfl)
   refine aK.seq (a:=aU (au Tryz.f44) [1,1,1,1,0,1,0,0,1,1,0,0,1,0]) (b:=aU (au Tryz.f44) [1,1,1,1,0,1,0,0,1,1,0,0,1,1]) (by kernel_rfl) ?_
   refine acy q hj2 hs fun h' on' sZ β' V' a' w' q' g' hd'=>?_
   refine abq q' hj2 hs (fun h' on' sZ β' V' a' w' q' g' hd'=>?_) sZ h' a' w' g' hd'
   have hB:aK Tryz.prog h' ⟨on',sZ⟩ w' h' [.blk 1,cd Tryz.f44 [1,1,1,1,0,1,0,0,1,1,1]] (zW b V' j) (oC Tryz.prog yP (aS Tryz.prog Tryz.f44 (oZ b w0 h0)) (I44 b w0) (b.es.length-j)):=by
    refine dX (aj:=FC) follows (fun _=>none) (cuts:=[]) (n:=1000) ?_
    refine iG (b:=((I64 (↑j+1))∧aP h' (Fr.mk on' sZ) w' h' (oC Tryz.prog yP (aS Tryz.prog Tryz.f44 (oZ b w0 h0)) (I44 b w0) (b.es.length-j)) .normal ⟨regs 47 [(1,(.box 1 0)),(2,(.box 2 0)),(3,(.vec 8 7 0 b.es.length)),(4,(vi (↑j))),(17,(vi (↑b.es.length))),(18,(vi (↑j+1))),(45,(vi (↑j+1)))],[(1,[(vi b.t),(.vec 8 7 0 b.es.length)]),(8,[(.arr eP 7 (bJ V' b.es))]),(2,[(vi 0),(.d dG)])]⟩)) (by kernel_rfl) ?_
    have hl:=hs.1
    refine⟨⟨by omega,by omega⟩,?_⟩
    intro β4 h4 a4 w4 g4 hd4
    have g5:=g4.weaken (st':=GL b V' (j+1)) (by refine AS.leZ [] [] (b:=((T0∧T0∧T0∧T0∧T0∧True)∧T0∧T0∧T0∧True)) (by kernel_rfl) (by kernel_rfl) ?_;exact⟨⟨rfl,rfl,rfl,rfl,rfl,trivial⟩,rfl,rfl,rfl,trivial⟩)
    exact⟨b.es.length-(j+1),by omega,j+1,h4,_,β4,β',V',rfl,hj2,q'.next g5,fZ g5,hd4⟩
   exact hB sZ h' a' w' g' hd'
  ·intro β2 h2 a2 w2 g2 hd2
   show wpS Tryz.prog yP (aS Tryz.prog Tryz.f44 (oZ b w0 h0)) (.exit 0) a2 w2
   refine nV (k:=yP) ?_
   show wpS Tryz.prog [cd Tryz.f44 [1,1,1,1,1]] (aS Tryz.prog Tryz.f44 (oZ b w0 h0)) .normal a2 w2
   exact YP hw0 q (by have:=of_decide_eq_false c;omega) (g2.weaken (st':=GL b V j) (by refine AS.leZ [] [] (b:=((T0∧T0∧T0∧T0∧T0∧True)∧T0∧T0∧T0∧True)) (by kernel_rfl) (by kernel_rfl) ?_;exact⟨⟨rfl,rfl,rfl,rfl,rfl,trivial⟩,rfl,rfl,rfl,trivial⟩)) hd2
 exact hA β1 hh a w g hd
abbrev PC:Type:=Option Addr×Nat
def QX (W:Nat→PC×PC) (s:Nat):PC:=if s % 2=0 then (W (s / 2-1)).1 else (W ((s-3) / 2)).2
theorem SE (W:Nat→PC×PC) (i:Nat):QX W (2*i+2)=(W i).1:=by
 unfold QX
 rw[if_pos (by omega),show (2*i+2) / 2-1=i by omega]
theorem TY (W:Nat→PC×PC) (i:Nat):QX W (2*i+3)=(W i).2:=by
 unfold QX
 rw[if_neg (by omega),show (2*i+3-3) / 2=i by omega]
theorem X9 {h:IH} {x:En} {v:Value} (r:DV.rel h (zi x) v):∃q:PC×PC,DV.rel h (jZ x.gs) (.slice q.1.1 x.gs.length q.1.2)∧DV.rel h (iD x.ah) (.slice q.2.1 x.ah.length q.2.2)∧DV.rel h (.agg (jv x (.slice q.1.1 x.gs.length q.1.2) (.slice q.2.1 x.ah.length q.2.2))) v:=by
 obtain ⟨vs,rfl,a1,v1,rfl,r1,a2,v2,rfl,r2,a3,v3,rfl,r3,a4,v4,rfl,r4,a5,v5,rfl,r5,a6,v6,rfl,r6,a7,v7,rfl,r7,h0⟩:=r
 obtain ⟨p,c,e6,r6'⟩:=r6
 obtain ⟨p',c',e7,r7'⟩:=r7
 refine⟨((p,c),(p',c')),⟨p,c,rfl,r6'⟩,⟨p',c',rfl,r7'⟩,_,rfl,a1,_,rfl,r1,a2,_,rfl,r2,a3,_,rfl,r3,a4,_,rfl,r4,a5,_,rfl,r5,a6,_,rfl,e6,a7,_,rfl,e7,h0⟩
theorem Zz {h:IH} {c m:Nat} {o:Option Obj} {f:Nat→DV} {es:List En} (r:dw h fO 7 f c m o) (hf:∀i,i<es.length→f i=bK es i) (hz:∀i,es.length≤i→f i=.agg (jv en0 ED ED)) (hm:es.length≤m) :
  ∃V:Nat→PC,dw h fO 7 (bJ V es) c m o∧∀i,i<es.length→DV.rel h (jZ (es.getD i en0).gs) (sv V (2*i+2) (es.getD i en0).gs.length)∧DV.rel h (iD (es.getD i en0).ah) (sv V (2*i+3) (es.getD i en0).ah.length):=by
 obtain ⟨h1,h2⟩:=r
 rcases h2 with h2|⟨fr,vs,ho,q1,q2,q3,q4⟩
 ·have:es.length=0:=by omega
  exact⟨fun _=>(none,0),⟨h1,.inl h2⟩,fun i hi=>by omega⟩
 ·have hx:∀i,∃q:PC×PC,(i<m→∃v,DV.rel h (.agg (jv (es.getD i en0) (.slice q.1.1 (es.getD i en0).gs.length q.1.2) (.slice q.2.1 (es.getD i en0).ah.length q.2.2))) v∧mD fO.agg v∧v.cells.size=7∧∀j,j<7→vs[i*7+j]?=v.cells[j]?)∧(i<es.length→DV.rel h (jZ (es.getD i en0).gs) (.slice q.1.1 (es.getD i en0).gs.length q.1.2)∧DV.rel h (iD (es.getD i en0).ah) (.slice q.2.1 (es.getD i en0).ah.length q.2.2)):=by
   intro i
   by_cases hi:i<es.length
   ·obtain ⟨v,r,rest⟩:=q4 i (by omega)
    rw[hf i hi] at r
    obtain ⟨q,g1,g2,g3⟩:=X9 r
    exact⟨q,fun _=>⟨v,g3,by simpa using rest⟩,fun _=>⟨g1,g2⟩⟩
   ·refine⟨((none,0),(none,0)),fun hm=>?_,fun hc=>absurd hc hi⟩
    obtain ⟨v,r,rest⟩:=q4 i hm
    rw[hz i (by omega)] at r
    have e0:es.getD i en0=en0:=by rw[List.getD,List.getElem?_eq_none (by omega)];rfl
    rw[e0]
    exact⟨v,r,by simpa using rest⟩
  have ⟨W,hW⟩:=Classical.axiomOfChoice hx
  refine⟨QX W,⟨h1,.inr ⟨fr,vs,ho,q1,q2,q3,fun i hi=>?_⟩⟩,fun i hi=>?_⟩
  ·obtain ⟨v,g1,g2⟩:=(hW i).1 hi
   refine⟨v,?_,by simpa using g2⟩
   unfold bJ
   simp only[sv,SE,TY]
   exact g1
  ·simp only[sv,SE,TY]
   exact(hW i).2 hi
theorem aav {F:Fr} {w0:World} {h0 h:IH} {st st':AS} {β:Nat→Nat} {tm:Array Value} (g:aO G F w0 h0 st β h tm w) (hr:st'.regs=st.regs) (hb:∀s l',st'.box s=some l'→∃l,st.box s=some l∧(Live β s l'→Live β s l)∧(Own β h s l w.heap[blk β s]?→Own β h s l' w.heap[blk β s]?)):aO G F w0 h0 st' β h tm w:=by
 refine⟨g.glob,g.holds,g.ext,g.old,g.kept,g.fix,by rw[hr];exact g.size,by rw[hr];exact g.regs,fun s l' hl=>?_,fun s s' l l' hl hl' hv hv' he=>?_⟩
 ·obtain ⟨l,h1,h2,h3⟩:=hb s l' hl
  exact⟨fun hv=>(g.box s l h1).1 (h2 hv),h3 (g.box s l h1).2⟩
 ·obtain ⟨m,h1,h2,_⟩:=hb s l hl
  obtain ⟨m',h1',h2',_⟩:=hb s' l' hl'
  exact g.inj s s' m m' h1 h1' (h2 hv) (h2' hv') he
abbrev zE:DV:=DV.agg (List.map DV.con [Value.string (ByteArray.mk #[]),Value.string (ByteArray.mk #[]),Value.int IntKind.i64 0,Value.int IntKind.i64 0,Value.string (ByteArray.mk #[]),Value.slice none 0 0,Value.slice none 0 0])
noncomputable def aej (b:Bk):AS:=⟨regs Tryz.f44.ntmps [(1,.box 1 0),(2,.box 2 0),(3,.vec 8 7 0 b.es.length),(17,vi b.es.length),(18,vi 0)],[(1,[.d (di b.t),.vec 8 7 0 b.es.length]),(8,[.arr fO 7 (fun i=>bif Nat.blt i 0 then zE else bif Nat.blt i (0+min b.es.length b.es.length) then bK b.es (i-0) else zE)]),(2,[.d (di 0),.d (.con (.slice none 0 0))])]⟩
theorem XP (b:Bk) (hs:gq b.es) (hw:G.holds w) {u:Value} (hu:DV.rel G (cu b) u):Calls Tryz.prog 44 #[u] w fun r w'=>∃v,r=.returned v∧oZ b w G v w':=by
 have g:=aO.bare (G:=G) (rs:=[.d (cu b)]) (β:=fun _=>0) (tm:=#[u]) (IH.le.refl G) hw rfl (fun t x hx=>by
  rcases t with _|t
  ·simp at hx;subst hx;exact⟨_,rfl,hu⟩
  ·simp at hx) (fun _=>False)
 refine Calls.BF Tryz.func44 rfl g ?_
 refine dX (aj:=FC) follows (fun _=>none) (cuts:=[]) (n:=1000) ?_
 refine qL (List.map DV.con [Value.string (ByteArray.mk #[]),Value.string (ByteArray.mk #[]),Value.int IntKind.i64 0,Value.int IntKind.i64 0,Value.string (ByteArray.mk #[]),Value.slice none 0 0,Value.slice none 0 0]) ((.vec 8 7 0 (↑b.es.length:Int).toNat):AV) (fun Za Zb=>(((↑b.es.length:Int)=↑b.es.length∧(0≤(↑b.es.length:Int))∧((↑112:Int) * ↑b.es.length≤281474976710656)∧((↑b.es.length:Int)≤9223372036854775807))∧(∀(i:Nat),i<min b.es.length (↑b.es.length:Int).toNat→qm true 7 (bK b.es i)=true)∧aK Tryz.prog G (Fr.mk (fun x=>False) fun x=>0) w G [cd Tryz.f44 [1,1,1,1,0,1,0],(.blk 0),cd Tryz.f44 [1,1,1,1,1]] ⟨regs 47 [(0,(.d (.agg [(di b.t),(.slc 7 b.es.length (bK b.es))]))),(1,(.box 1 0)),(2,(.box 2 0)),(3,Zb),(5,(.box 1 1)),(6,(.d (.slc 7 b.es.length (bK b.es)))),(7,(vi (↑b.es.length))),(8,Zb),(9,Zb),(10,(.box 1 1)),(11,(.d (.slc 7 b.es.length (bK b.es)))),(12,(vi (↑(min b.es.length (↑b.es.length:Int).toNat)))),(13,Zb),(14,(.box 1 1)),(15,(.box 1 1)),(16,Zb),(17,(vi (↑(↑b.es.length:Int).toNat))),(18,(vi 0))],[(8,[(.arr eP 7 (fun i=>bif i.blt 0 then DV.agg Za else bif i.blt (0+min b.es.length (↑b.es.length:Int).toNat) then bK b.es (i-0) else DV.agg Za))]),(2,[(vi 0),(.d dG)]),(1,[(vi b.t),Zb])]⟩ (aS Tryz.prog Tryz.f44 (oZ b w G)))) (by kernel_rfl) ?_
 try dsimp only
 simp only[gW]
 have hl:=hs.1
 refine⟨⟨trivial,by omega,by omega,by omega⟩,fun i _=>rfl,?_⟩
 refine aK.weaken (st':=aej b) ?_ ?_
 ·exact AS.bD (by kernel_rfl)
 intro β1 h1 a w1 g1 hd
 have hO:dw h1 fO 7 (fun i=>bif Nat.blt i 0 then zE else bif Nat.blt i (0+min b.es.length b.es.length) then bK b.es (i-0) else zE) (room β1 8) (many β1 8) w1.heap[blk β1 8]?:=(g1.box 8 _ rfl).2
 obtain ⟨v3,_,hm1,_⟩:=g1.regs 3 (.vec 8 7 0 b.es.length) rfl
 obtain ⟨V,hV,hold⟩:=Zz (es:=b.es) hO (fun i hi=>by
  rw[show Nat.blt i 0=false from rfl,cond_false,show Nat.blt i (0+min b.es.length b.es.length)=true from by rw[Nat.blt_eq];omega,cond_true,Nat.sub_zero]) (fun i hi=>by
  rw[show Nat.blt i 0=false from rfl,cond_false,show Nat.blt i (0+min b.es.length b.es.length)=false from by rw[Bool.eq_false_iff,ne_eq,Nat.blt_eq];omega,cond_false];rfl) (by omega)
 have hkk:Kept (fun _=>False) w w1:=g1.kept
 have g2:=aav (st':=GL b V 0) g1 rfl (fun s l' hl'=>by
  simp only[GL,AS.box,Go.Ab.look] at hl'
  by_cases e1:(1:Nat)=s
  ·subst e1;simp at hl';subst hl';exact⟨_,rfl,id,id⟩
  ·rw[aQ e1,cond_false] at hl'
   by_cases e2:(8:Nat)=s
   ·subst e2;simp at hl';subst hl';exact⟨_,rfl,id,fun _=>hV⟩
   ·rw[aQ e2,cond_false] at hl'
    by_cases e3:(2:Nat)=s
    ·subst e3;simp at hl';subst hl';exact⟨_,rfl,id,id⟩
    ·rw[aQ e3,cond_false] at hl';cases hl')
 have q:mZ b w (2*0) h1 (fun c=>∃s l,(GL b V 0).box s=some l∧Live β1 s l∧blk β1 s=c) (fun _=>0) V w1:=by
  refine⟨fun i hi=>absurd hi (by omega),fun i hi=>absurd hi (by omega),fun i _ hi=>(hold i hi).1,fun i _ hi=>(hold i hi).2,fun s q1 q2=>absurd q2 (by omega),fun s t q1 q2=>absurd q2 (by omega),?_,hkk⟩
  rintro c ⟨s,l,hl,hv,rfl⟩
  exact⟨((g2.box s l hl).1 hv).1.resolve_left id,fun t t1 t2=>absurd t2 (by omega)⟩
 refine BJ (c:=aU (au Tryz.f44) [1,1,1,1,0,1,0,0]) (by kernel_rfl) (I44 b w) (b.es.length-0) ⟨0,h1,_,β1,_,V,rfl,Nat.zero_le _,q,fZ g2,hd⟩ ?_
 rintro n a2 w2 ⟨j,hh,on,β2,β,V,rfl,hj,q,g,hd2⟩
 exact U9 hw q hs hj g hd2
theorem vN {P:Program} {F:Fr} {w0:World} {h0:IH} {fn:Func} {R:Value→World→Prop} {e:Exit} {st:AS} {x y:AV} (he:vP e=true) (hr:iM P st fn.results.toList=some [x,y])
  (h:∀(β:Nat→Nat) (k:IH) (tm:Array Value) (w:World) (v u:Value),aO G F w0 h0 st β k tm w→x.rel β k v→y.rel β k u→R (.tuple #[v,u]) w):aP G F w0 h0 (aS P fn R) e st:=by
 intro β k a w g hd
 obtain ⟨us,hrun,hrs⟩:=rE (P:=P) g hr
 obtain ⟨v,us',rfl,hx,u,XO,rfl,hy,h0'⟩:=hrs
 have h0':XO=[]:=h0'
 subst h0'
 refine⟨he,hd,.tuple #[v,u],?_,h β k a.tmps w v u g hx hy⟩
 simp only[results,Sem.run_bind]
 rw[Array.mapM_eq_mapM_toList,Sem.run_map]
 erw [hrun]
 rfl
def acB (b:Bk) (e:Ev):dU:={ d:=fun f _=>bif Nat.beq f 32 then some (db (aJ aG b)) else bif Nat.beq f 18 then some (db (aG e)) else none }
def R14 (b:Bk) (e:Ev) (w:World) (h:IH) (v:Value) (w':World):Prop:=∃u k,v=.tuple #[u,.int .i64 (tK aG b e)]∧DV.rel k (cu (wO aG b e)) u∧h.le k∧k.holds w'∧Kept (fun _=>False) w w'∧∀c,c<w.heap.size→(∀o,k.cell c o=h.cell c o)∧k.obj c=h.obj c
noncomputable def ZP (p:Value) (code:Int):AS:=⟨regs Tryz.f14.ntmps [(4,.box 4 0),(6,.d (.con p)),(23,.d (di code))],[(4,[.d (di 0),.d (.con (.slice none 0 0))])]⟩
noncomputable def adZ (p:Value) (code:Int):AS:=⟨regs Tryz.f14.ntmps [(4,.box 4 0),(6,.d (.con p)),(7,.d (di code))],[(4,[.d (di 0),.d (.con (.slice none 0 0))])]⟩
def adr (b:Bk):Nat→Option AV
 | 28=>some (.d (.ptr (fQ b)))
 | _=>none
theorem abo {b bX:Bk} {e:Ev} {w0 w:World} {h0 k:IH} {F:Fr} {p:Value} {code:Int} (hp:DV.rel k (.ptr (fQ bX)) p) (hon:∀c,F.on c→w0.heap.size≤c) (hk:Kept (fun _=>False) w0 w) (hle:h0.le k) (hold:∀c,c<w0.heap.size→(∀o,k.cell c o=h0.cell c o)∧k.obj c=h0.obj c) (hc:code=tK aG b e) (hX:code=0→bX=wO aG b e) :
  dV Tryz.prog k F w k (opsOf (aU (au Tryz.f14) [1,1,1,0,0])).toList 3 (1+0) (ZP p code) (wpS Tryz.prog [cd Tryz.f14 [1,1,1,0,1],cd Tryz.f14 [1,1,1,1]] (aS Tryz.prog Tryz.f14 (R14 b e w0 h0))):=by
 have hfin:∀{st:AS} {β4:Nat→Nat} {k4:IH} {tm:Array Value} {w4:World} {u:Value},aO k F w k st β4 k4 tm w4→DV.rel k4 (cu (wO aG b e)) u→R14 b e w0 h0 (.tuple #[u,.int .i64 code]) w4:=by
  intro st β4 k4 tm w4 u g hu
  refine⟨u,k4,by rw[hc],hu,hle.trans g.glob,g.holds,iL ((hk.mono fun _ hc=>hc.elim).trans (g.kept.mono fun c hc=>.inr (hon c hc))),fun c hlt=>?_⟩
  obtain ⟨o1,o2⟩:=g.old c (Nat.lt_of_lt_of_le hlt hk.size) (fun hc=>by have:=hon c hc;omega)
  exact⟨fun o=>(o1 o).trans ((hold c hlt).1 o),o2.trans (hold c hlt).2⟩
 refine dV.tree (aj:={ d:=bG }) ?_
 refine iG (b:=aP k F w k (iP Tryz.prog (opsOf (aU (au Tryz.f14) [1,1,1,0,0])).toList (3+1) 0 (wpS Tryz.prog [cd Tryz.f14 [1,1,1,0,1],cd Tryz.f14 [1,1,1,1]] (aS Tryz.prog Tryz.f14 (R14 b e w0 h0)))) .normal ⟨regs 32 [(4,(.box 4 0)),(6,(.d (.con p))),(7,(vi code)),(23,(vi code))],[(4,[(vi 0),(.d dG)])]⟩) (by kernel_rfl) ?_
 refine aP.kP ?_
 refine aK.weaken (st':=adZ p code) ?_ ?_
 ·exact AS.bD (by kernel_rfl)
 refine dX (aj:={ d:=bG }) follows (adr bX) (cuts:=[]) (n:=1000) ?_
 refine je ((.d (.ptr [(di bX.t),(.slc 7 bX.es.length (bK bX.es))])):AV) (fun Za=>((((code != 0)=true)→aP k F w k (aS Tryz.prog Tryz.f14 (R14 b e w0 h0)) .ret ⟨regs 32 [(4,(.box 4 0)),(5,(vi code)),(6,(.d (.con p))),(7,(vi code)),(24,(vi code)),(25,(vb (code != 0))),(26,(.d (.agg [(di 0),dG]))),(27,(vi code))],[(4,[(vi 0),(.d dG)])]⟩)∧(((code != 0)=false)→(bT k F (.d (.con p)) Za∧aP k F w k (aS Tryz.prog Tryz.f14 (R14 b e w0 h0)) .ret ⟨regs 32 [(4,(.box 4 0)),(5,(vi 0)),(6,(.d (.con p))),(7,(vi code)),(24,(vi code)),(25,(vb (code != 0))),(28,Za),(29,Za),(30,Za),(31,(.d (.agg [(di bX.t),(.slc 7 bX.es.length (bK bX.es))])))],[(4,[(vi bX.t),(.d (.slc 7 bX.es.length (bK bX.es)))])]⟩)))) (by kernel_rfl) ?_
 refine⟨fun c=>?_,fun c=>⟨fun β3 h3 v hG _ r=>?_,?_⟩⟩
 ·have c:code≠0:=by simpa using c
  have hb:wO aG b e=fA:=by unfold wO;rw[if_neg (by rw[←hc];exact c)]
  refine vN (x:=.d (.agg [di 0,.con (.slice none 0 0)])) (y:=.d (di code)) rfl rfl fun β3 k3 tm w3 v u g3 hv hu=>?_
  have hu:u=.int .i64 code:=hu
  subst hu
  refine hfin g3 ?_
  rw[hb]
  obtain ⟨vs,rfl,v0,vs1,rfl,r0,v1,vs2,rfl,r1,r2⟩:=hv
  exact⟨_,rfl,_,_,rfl,r0,_,_,rfl,⟨none,0,r1,Nat.le_refl _,.inl rfl⟩,r2⟩
 ·have r:v=_:=r
  subst r
  exact DV.rel.mono hG _ _ hp
 ·have c:code=0:=by simpa using c
  refine vN (x:=.d (cu bX)) (y:=.d (di 0)) rfl rfl fun β3 k3 tm w3 v u g3 hv hu=>?_
  have hu:u=.int .i64 0:=hu
  subst hu
  have:=hfin (u:=v) g3 (by rw[←hX c];exact hv)
  rw[c] at this
  exact this
noncomputable def WG (p:Value) (e:Ev):AS:=⟨regs Tryz.f14.ntmps [(4,.box 4 0),(6,.d (.con p)),(21,.d (.con p)),(22,.d (ig e))],[(4,[.d (di 0),.d (.con (.slice none 0 0))])]⟩
noncomputable def Xq (p:Value):AS:=⟨regs Tryz.f14.ntmps [(4,.box 4 0),(6,.d (.con p))],[(4,[.d (di 0),.d (.con (.slice none 0 0))])]⟩
theorem abX {b:Bk} {e:Ev} {w0 w:World} {h0 h1:IH} {on:Nat→Prop} {β1 β:Nat→Nat} {V:Nat→Option Addr×Nat} (hB:bQ h1 β V b w) (hs:gq b.es) (hb:rH b.es) (hf:b.es.length≤256) (hv:aJ aG b=true) (hok:aG e=true) (hon:∀c,on c→w0.heap.size≤c∧¬iF β b.es.length c) (hnew:∀c,iF β b.es.length c→w0.heap.size≤c) (hk:Kept (fun _=>False) w0 w) (hle:h0.le h1) (hold:∀c,c<w0.heap.size→(∀o,h1.cell c o=h0.cell c o)∧h1.obj c=h0.obj c) :
  dV Tryz.prog h1 ⟨on,β1⟩ w h1 (opsOf (aU (au Tryz.f14) [1,1,1,0,0])).toList 2 (1+1) (WG (fM β) e) (wpS Tryz.prog [cd Tryz.f14 [1,1,1,0,1],cd Tryz.f14 [1,1,1,1]] (aS Tryz.prog Tryz.f14 (R14 b e w0 h0))):=by
 refine dV.call (c:={ callee:=.value (.func 45),args:=#[.tmp 21,.tmp 22],argTypes:=#[73,26] }) (g:=45) (a1:=[]) (a2:=[]) (γ:=none) rfl rfl rfl (by kernel_rfl) (fun _ _ _ hq=>by cases hq) (by kernel_rfl) Tryz.call45 ?_
 intro β2 h2 a w3 vs g1 hd hvs
 obtain ⟨v0,vs1,rfl,r0,v1,vs2,rfl,r1,r3⟩:=hvs
 have r3:vs2=[]:=r3
 subst r3
 have r0:v0=fM β:=r0
 subst r0
 have r1:DV.rel h2 (ig e) v1:=r1
 have hB3:=hB.next g1 fun c hc=>(hon c hc).2
 have hk3:Kept (fun _=>False) w0 w3:=iL ((hk.mono fun _ hc=>hc.elim).trans (g1.kept.mono fun c hc=>.inr (hon c hc).1))
 have hap:tK aG b e=dL b e:=by unfold tK;rw[if_pos ⟨hv,hok⟩]
 refine(Yd hB3 hs (by have:=Ie hb;omega) hb e (ny hok) r1).mono ?_
 rintro r w' ⟨v,rfl,hp⟩
 refine⟨v,rfl,?_⟩
 obtain ⟨hpc,hpk,β',V',h0',hB',hbl⟩:=hp
 subst hpc
 obtain ⟨k,hkd,ZV,hkw,_,hpt⟩:=hB'.data
 have hl4:(WG (fM β) e).box 4=some [.d (di 0),.d (.con (.slice none 0 0))]:=rfl
 have hb4:=g1.box 4 _ hl4
 have hlt4:blk β2 4<w3.heap.size:=Own.lt (show Live β2 4 [.d (di 0),.d (.con (.slice none 0 0))] from trivial) hb4.2
 have h4n:w0.heap.size≤blk β2 4∧¬iF β b.es.length (blk β2 4):=by
  rcases (hb4.1 trivial).1 with q1|q1
  ·exact hon _ q1
  ·have q1:w.heap.size≤blk β2 4:=q1
   refine⟨Nat.le_trans hk.size q1,?_⟩
   rintro ⟨t,t1,t2,t3⟩
   have:=hB.lt t1 t2
   omega
 have hlz:∀s l,(Xq (fM β)).box s=some l→s=4∧Live β2 s l:=by
  intro s l hl
  simp only[Xq,AS.box,Go.Ab.look] at hl
  by_cases e2:(4:Nat)=s
  ·subst e2;simp at hl;subst hl;exact⟨rfl,trivial⟩
  ·rw[aQ e2,cond_false] at hl;cases hl
 have h4k:¬iF β' (if dL b e=0 then gQ b e else b).es.length (blk β2 4):=fun hq=>by
  rcases hbl _ hq with q1|q1
  ·exact h4n.2 q1
  ·omega
 have gz:=fZ (g1.weaken (st':=Xq (fM β)) (by refine AS.leZ [] [] (b:=((T0∧T0∧True)∧T0∧True)) (by kernel_rfl) (by kernel_rfl) ?_;exact⟨⟨rfl,rfl,trivial⟩,rfl,trivial⟩))
 have gb:=xZ gz hB'.hold hpk (fun s l hl=>by
  obtain ⟨e1,e2⟩:=hlz s l hl
  subst e1
  exact⟨e2,h4n.2⟩)
 have gu:=Ny gb ZV hkw (fun s l hl _=>by
  obtain ⟨e1,_⟩:=hlz s l hl
  subst e1
  rw[hkd]
  exact⟨fun o=>by rw[IH.jT h4k];exact(hb4.1 trivial).2.1 o,(hb4.1 trivial).2.2⟩)
 have gc:=gu.put (t:=some 23) (x:=.d (di (dL b e))) (v:=.int .i64 (dL b e)) rfl
 have ge:=gc.weaken (st':=ZP (fM β) (dL b e)) (by refine AS.leZ [] [] (b:=((T0∧T0∧T0∧True)∧T0∧True)) (by kernel_rfl) (by kernel_rfl) ?_;exact⟨⟨rfl,rfl,rfl,trivial⟩,rfl,trivial⟩)
 have hp0:fM β'=fM β:=by
  show Value.pointer _=Value.pointer _
  rw[h0']
 have hw3:=hk3.size
 refine abo (bX:=if dL b e=0 then gQ b e else b) (by rw[←hp0];exact hpt) (fun c hc=>?_) (iL ((hk3.mono fun _ hc=>hc.elim).trans (hpk.mono fun c hc=>.inr (hnew c hc)))) ((hle.trans g1.glob).trans ZV) (fun c hlt=>?_) hap.symm (fun h0c=>?_) _ _ _ _ ge hd
 ·obtain ⟨s,l,hl,_,rfl⟩:=hc
  obtain ⟨e1,_⟩:=hlz s l hl
  subst e1
  exact h4n.1
 ·have hnb:¬iF β' (if dL b e=0 then gQ b e else b).es.length c:=fun hq=>by
   rcases hbl _ hq with q1|q1
   ·have:=hnew _ q1;omega
   ·omega
  obtain ⟨o1,o2⟩:=g1.old c (Nat.lt_of_lt_of_le hlt hk.size) (fun hc=>by have:=(hon c hc).1;omega)
  refine⟨fun o=>?_,?_⟩
  ·rw[hkd,IH.jT hnb,o1 o];exact(hold c hlt).1 o
  ·rw[hkd,IH.xA,o2];exact(hold c hlt).2
 ·rw[if_pos h0c]
  unfold wO
  rw[hap,if_pos h0c]
theorem rP.book {b:Bk} {w0 w1 w:World} {h h2:IH} {β:Nat→Nat} {V:Nat→Option Addr×Nat} (q:rP b w0 h β V w1) {on:Nat→Prop} (hk:Kept on w1 w) (hon:∀c,on c→c<w0.heap.size) (hw:h2.holds w) (hold:∀c,c<w1.heap.size→¬on c→(∀o,h2.cell c o=h.cell c o)∧h2.obj c=h.obj c) (hh:h.holds w0) {x T:Nat} (ht:w.heap[x]?=some (.cells #[.int .i64 b.t,sv V 1 b.es.length] T (0,0))) (hx:(∀o,h2.cell x o=none)∧h2.obj x=none) (hxn:on x∨w1.heap.size≤x) :
  bQ h2 (upd β 0 x T 0) V b w:=by
 have bo:∀t,t≠0→blk (upd β 0 x T 0) t=blk β t∧room (upd β 0 x T 0) t=room β t:=fun t ht=>⟨aZ ht,bI ht⟩
 have b0:blk (upd β 0 x T 0) 0=x:=aT ..
 have r0:room (upd β 0 x T 0) 0=T:=aH ..
 have hno:∀s,1≤s→s<2*b.es.length+2→0<room β s→¬on (blk β s):=fun s s1 s2 s3 hc=>by
  have:=hon _ hc
  have:=(q.new s s1 s2 s3).1
  omega
 have hxs:∀s,1≤s→s<2*b.es.length+2→0<room β s→x≠blk β s:=fun s s1 s2 s3 hc=>by
  have hn:=q.new s s1 s2 s3
  rcases hxn with q1|q1
  ·have:=hon _ q1;omega
  ·omega
 refine⟨hw,by rw[b0,r0];exact ht,?_,fun i hi=>?_,fun i hi=>?_,fun s hs hl=>?_,fun s t hs ht' hl hl' he=>?_⟩
 ·rw[(bo 1 (by decide)).1,(bo 1 (by decide)).2]
  exact(q.ent.keep hk fun h0=>hno 1 (by omega) (by omega) h0).flat fun i _=>mg V b.es i
 ·rw[(bo _ (by omega)).1,(bo _ (by omega)).2]
  exact((q.gr i hi).keep hk fun h0=>hno _ (by omega) (by omega) h0).flat fun i _=>lJ _ i
 ·rw[(bo _ (by omega)).1,(bo _ (by omega)).2]
  exact((q.ap i hi).keep hk fun h0=>hno _ (by omega) (by omega) h0).flat fun i _=>kR _ i
 ·by_cases e:s=0
  ·subst e;rw[b0];exact hx
  ·have hl:0<room β s:=by
    rcases hl with hl|hl
    ·exact absurd hl e
    ·rwa [(bo s e).2] at hl
   obtain ⟨n1,n2⟩:=q.new s (by omega) hs hl
   obtain ⟨o1,o2⟩:=hold _ n2 (hno s (by omega) hs hl)
   obtain ⟨p1,p2⟩:=holds_none hh n1
   rw[(bo s e).1]
   exact⟨fun o=>(o1 o).trans (p1 o),o2.trans p2⟩
 ·have pos:∀s,s≠0→jc (upd β 0 x T 0) s→0<room β s:=fun s e hl=>by
   rcases hl with hl|hl
   ·exact absurd hl e
   ·rwa [(bo s e).2] at hl
  by_cases e1:s=0
  ·by_cases e2:t=0
   ·rw[e1,e2]
   ·subst e1
    rw[b0,(bo t e2).1] at he
    exact absurd he (hxs t (by omega) ht' (pos t e2 hl'))
  ·by_cases e2:t=0
   ·subst e2
    rw[b0,(bo s e1).1] at he
    exact absurd he.symm (hxs s (by omega) hs (pos s e1 hl))
   ·rw[(bo s e1).1,(bo t e2).1] at he
    exact q.inj s t (by omega) hs (by omega) ht' (pos s e1 hl) (pos t e2 hl') he
noncomputable def S14 (b:Bk) (e:Ev):AS:=⟨regs Tryz.f14.ntmps [(2,.box 2 0),(3,.box 3 0),(4,.box 4 0)],[(2,(fQ b).map .d),(3,(kE e).map .d),(4,[.d (di 0),.d (.con (.slice none 0 0))])]⟩
noncomputable def aaD (e:Ev) (t:Int) (s:PC) (n:Nat):AS:=⟨regs Tryz.f14.ntmps [(3,.box 3 0),(4,.box 4 0),(18,.d (.agg [di t,.con (.slice s.1 n s.2)]))],[(3,(kE e).map .d),(4,[.d (di 0),.d (.con (.slice none 0 0))])]⟩
noncomputable def Xl (e:Ev) (p:Value):AS:=⟨regs Tryz.f14.ntmps [(3,.box 3 0),(4,.box 4 0),(6,.d (.con p))],[(3,(kE e).map .d),(4,[.d (di 0),.d (.con (.slice none 0 0))])]⟩
theorem acQ {b:Bk} {e:Ev} {w0 w:World} {h0 h1:IH} {on:Nat→Prop} {β1 β:Nat→Nat} {V:Nat→Option Addr×Nat} (hB:bQ h1 β V b w) (hs:gq b.es) (hb:rH b.es) (hf:b.es.length≤256) (hv:aJ aG b=true) (hok:aG e=true) (hon:∀c,on c→w0.heap.size≤c∧¬iF β b.es.length c) (hnew:∀c,iF β b.es.length c→w0.heap.size≤c) (hk:Kept (fun _=>False) w0 w) (hle:h0.le h1) (hold:∀c,c<w0.heap.size→(∀o,h1.cell c o=h0.cell c o)∧h1.obj c=h0.obj c) :
  aK Tryz.prog h1 ⟨on,β1⟩ w h1 [cd Tryz.f14 [1,1,1]] (Xl e (fM β)) (aS Tryz.prog Tryz.f14 (R14 b e w0 h0)):=by
 refine aK.seq (a:=aU (au Tryz.f14) [1,1,1,0]) (b:=aU (au Tryz.f14) [1,1,1,1]) (by kernel_rfl) ?_
 refine aK.seq (a:=aU (au Tryz.f14) [1,1,1,0,0]) (b:=aU (au Tryz.f14) [1,1,1,0,1]) (by kernel_rfl) ?_
 refine aK.qR (aj:={ d:=bG }) follows (fun _=>none) 2 (by kernel_rfl) ?_
 refine iG (b:=aP h1 (Fr.mk on β1) w h1 (iP Tryz.prog (opsOf (aU (au Tryz.f14) [1,1,1,0,0])).toList 2 ((opsOf (aU (au Tryz.f14) [1,1,1,0,0])).toList.length-2) (wpS Tryz.prog [It.code (aU (au Tryz.f14) [1,1,1,0,1]),It.code (aU (au Tryz.f14) [1,1,1,1])] (aS Tryz.prog Tryz.f14 (R14 b e w0 h0)))) .normal ⟨regs 32 [(3,(.box 3 0)),(4,(.box 4 0)),(6,(.d (.con (.pointer (some (Addr.mk (β (3*0)) 0 none)))))),(21,(.d (.con (.pointer (some (Addr.mk (β (3*0)) 0 none)))))),(22,(.d (.agg [(di e.kind),(ds e.k.st),(ds e.k.ex),(di e.k.n),(di e.t),(di e.v),(di e.h),(ds e.s),(db e.acc)])))],[(3,fJ e),(4,[(vi 0),(.d dG)])]⟩) (by kernel_rfl) ?_
 intro β3 h3 a3 w3 g3 hd3
 have g4:=g3.weaken (st':=WG (fM β) e) (by refine AS.leZ [] [] (b:=((T0∧T0∧T0∧T0∧True)∧T0∧True)) (by kernel_rfl) (by kernel_rfl) ?_;exact⟨⟨rfl,rfl,rfl,rfl,trivial⟩,rfl,trivial⟩)
 exact(abX hB hs hb hf hv hok hon hnew hk hle hold) _ _ _ _ g4 hd3
theorem acs {b:Bk} {e:Ev} {w0 w3 w:World} {h0 h2:IH} {F:Fr} {β:Nat→Nat} {V:Nat→Option Addr×Nat} (q:rP b w3 h2 β V w) (hh3:h2.holds w3) (hs:gq b.es) (hb:rH b.es) (hf:b.es.length≤256) (hv:aJ aG b=true) (hok:aG e=true) (hon:∀c,F.on c→w0.heap.size≤c∧c<w3.heap.size) (hk:Kept (fun _=>False) w0 w3) (hle:h0.le h2) (hold:∀c,c<w0.heap.size→(∀o,h2.cell c o=h0.cell c o)∧h2.obj c=h0.obj c) :
  dV Tryz.prog h2 F w h2 (opsOf (aU (au Tryz.f14) [1,1,0])).toList 2 (3+0) (aaD e b.t (V 1) b.es.length) (wpS Tryz.prog [cd Tryz.f14 [1,1,1]] (aS Tryz.prog Tryz.f14 (R14 b e w0 h0))):=by
 refine dV.tree (aj:={ d:=bG }) ?_
 refine je ((.con (.slice (V 1).fst b.es.length (V 1).snd)):DV) (fun Za=>aP h2 F w h2 (iP Tryz.prog (opsOf (aU (au Tryz.f14) [1,1,0])).toList (2+3) 0 (wpS Tryz.prog [cd Tryz.f14 [1,1,1]] (aS Tryz.prog Tryz.f14 (R14 b e w0 h0)))) .normal ⟨regs 32 [(3,(.box 3 0)),(4,(.box 4 0)),(6,(.box 20 0)),(18,(.d (.agg [(di b.t),Za]))),(19,(.d (.agg [(di b.t),Za]))),(20,(.box 20 0))],[(20,[(vi b.t),(.d Za)]),(3,fJ e),(4,[(vi 0),(.d dG)])]⟩) (by kernel_rfl) ?_
 refine aP.kP ?_
 intro β5 h5 a5 w5 g5 hd5
 obtain ⟨c1,⟨⟨T,hT⟩,vs,ho,v0,vs1,rfl,r0,v1,vs2,rfl,r1,r2⟩⟩:=g5.box 20 _ rfl
 have r2:vs2=[]:=r2
 have r0:v0=.int .i64 b.t:=r0
 have r1:v1=sv V 1 b.es.length:=r1
 subst r2 r0 r1
 have hT:T=room β5 20:=hT
 subst hT
 obtain ⟨x1,x2⟩:=c1 trivial
 have afw:=hk.size
 have afy:=q.kept.size
 have hB:bQ h5 (upd β 0 (blk β5 20) (room β5 20) 0) V b w5:=q.book g5.kept (fun c hc=>(hon c hc).2) g5.holds (fun c hlt hn=>g5.old c hlt hn) hh3 ho x2 x1
 obtain ⟨v6,hv6,hr6⟩:=g5.regs 6 (.box 20 0) rfl
 have hr6:v6=.pointer (some ⟨blk β5 20,0,none⟩):=hr6
 subst hr6
 have hp0:fM (upd β 0 (blk β5 20) (room β5 20) 0)=.pointer (some ⟨blk β5 20,0,none⟩):=by
  show Value.pointer _=Value.pointer _
  rw[aT]
 have g6:=(VR g5 hv6).weaken (st':=Xl e (fM (upd β 0 (blk β5 20) (room β5 20) 0))) (by
  rw[hp0]
  exact AS.bD (by kernel_rfl))
 have hx0:w0.heap.size≤blk β5 20:=by
  rcases x1 with r|r
  ·exact(hon _ r).1
  ·have r:w.heap.size≤blk β5 20:=r
   omega
 have hBl:∀c,iF (upd β 0 (blk β5 20) (room β5 20) 0) b.es.length c→c=blk β5 20∨(w3.heap.size≤c∧c<w.heap.size):=by
  rintro c ⟨s,s1,s2,s3⟩
  by_cases es:s=0
  ·subst es;rw[aT] at s3;exact .inl s3.symm
  ·right
   have s2:0<room β s:=by
    rcases s2 with s2|s2
    ·exact absurd s2 es
    ·rwa [bI es] at s2
   rw[aZ es] at s3
   rw[←s3]
   exact q.new s (by omega) s1 s2
 refine acQ hB hs hb hf hv hok (fun c hc=>?_) (fun c hc=>?_) (iL ((hk.mono fun _ hc=>hc.elim).trans ((q.kept.mono fun _ hc=>hc.elim).trans (g5.kept.mono fun c hc=>.inr (hon c hc).1)))) (hle.trans g5.glob) (fun c hlt=>?_) β5 h5 a5 w5 (fZ g6) hd5
 ·obtain ⟨s,l,hl,hlv,rfl⟩:=hc
  have hs2:(s=3∧l=(kE e).map .d)∨(s=4∧l=[.d (di 0),.d (.con (.slice none 0 0))]):=by
   simp only[Xl,AS.box,Go.Ab.look] at hl
   by_cases e1:(3:Nat)=s
   ·subst e1;simp at hl;exact .inl ⟨rfl,hl.symm⟩
   ·rw[aQ e1,cond_false] at hl
    by_cases e2:(4:Nat)=s
    ·subst e2;simp at hl;exact .inr ⟨rfl,hl.symm⟩
    ·rw[aQ e2,cond_false] at hl;cases hl
  have hfr:=((g6.box s l hl).1 hlv).1
  have hne:blk β5 s≠blk β5 20:=by
   rcases hs2 with ⟨rfl,rfl⟩|⟨rfl,rfl⟩
   ·exact fun hq=>absurd (g5.inj 3 20 _ _ rfl rfl trivial trivial hq) (by decide)
   ·exact fun hq=>absurd (g5.inj 4 20 _ _ rfl rfl trivial trivial hq) (by decide)
  rcases hfr with r|r
  ·exact⟨(hon _ r).1,fun hq=>by
    rcases hBl _ hq with q1|q1
    ·exact hne q1
    ·have:=(hon _ r).2;omega⟩
  ·have r:w.heap.size≤blk β5 s:=r
   exact⟨by omega,fun hq=>by
    rcases hBl _ hq with q1|q1
    ·exact hne q1
    ·omega⟩
 ·rcases hBl _ hc with q1|q1
  ·rw[q1];exact hx0
  ·omega
 ·obtain ⟨o1,o2⟩:=g5.old c (by omega) (fun hc=>by have:=(hon c hc).1;omega)
  exact⟨fun o=>(o1 o).trans ((hold c hlt).1 o),o2.trans (hold c hlt).2⟩
end Go.Proofs
namespace Go.Proofs
open Go Go.Ab Go.RowKit
variable {G:IH}
structure tY (b:Bk):Prop where
 sz:gq b.es
 all:(bn b.es).length≤1000000
 str:Yg b
 evs:(ak b).length≤1000000
theorem tY.f32 {b:Bk} (h:tY b):aA Tryz.prog G 32 [cu b] (db (aJ aG b)):=Go.Proofs.f32 b h.sz h.all h.str h.evs
def abH (b:Bk) (e:Ev):dU:={ d:=fun f _=>bif Nat.beq f 18 then some (db (aG e)) else bif Nat.beq f 32 then some (db (aJ aG b)) else bif Nat.beq f 49 then some (db (hasB b.es e)) else bif Nat.beq f 53 then some (eu (ak b)) else none }
theorem adA (b:Bk) (h:tY b):aA Tryz.prog G 24 [cu b] (bif aJ aG b then eu (ak b) else .con (.slice none 0 0)):=by
 refine aA.walk (aj:=abH b ev0) (keep:=[]) follows Tryz.func24 rfl Tryz.call24 ?_
 refine aC (fun _ _ _ ZK=>(ZK 32 [(.agg [(di b.t),(.slc 7 b.es.length (bK b.es))])] (db (aJ aG b))∧(((!aJ aG b)=true)→((dG:DV)=(bif aJ aG b then eu (ak b) else dG)))∧(((!aJ aG b)=false)→(ZK 53 [(.agg [(di b.t),(.slc 7 b.es.length (bK b.es))])] (.slc 9 (ak b).length (bW (ak b)))∧((.slc 9 (ak b).length (bW (ak b))):DV)=(bif aJ aG b then eu (ak b) else dG))))) (by kernel_rfl) ?_
 refine⟨h.f32,fun c=>?_,fun c=>⟨f53 b h.sz h.all,?_⟩⟩
 ·have c:aJ aG b=false:=by simpa using c
  rw[c];rfl
 ·have c:aJ aG b=true:=by simpa using c
  rw[c];rfl
theorem f24 (b:Bk) (h:tY b):aA Tryz.prog G 24 [cu b] (eu (if aJ aG b=true then ak b else [])):=by
 refine aA.imp (adA b h) fun k v hv=>?_
 cases c:aJ aG b with
 | true=>rw[c] at hv;exact hv
 | false=>
  rw[c] at hv
  have hv:v=.slice none 0 0:=hv
  subst hv
  exact⟨none,0,rfl,Nat.le_refl _,.inl rfl⟩
end Go.Proofs
namespace Go.Proofs
open Go Go.Ab Go.RowKit
variable {G:IH} {w:World}
noncomputable def V3 (b:Bk) (e:Ev):AS:=⟨regs Tryz.f14.ntmps [(3,.box 3 0),(4,.box 4 0),(17,.d (cu b))],[(3,(kE e).map .d),(4,[.d (di 0),.d (.con (.slice none 0 0))])]⟩
noncomputable def WL (e:Ev):AS:=⟨regs Tryz.f14.ntmps [(3,.box 3 0),(4,.box 4 0)],[(3,(kE e).map .d),(4,[.d (di 0),.d (.con (.slice none 0 0))])]⟩
theorem acR {b:Bk} {e:Ev} {w0:World} {h0:IH} {β1:Nat→Nat} (hs:gq b.es) (hb:rH b.es) (hf:b.es.length≤256) (hv:aJ aG b=true) (hok:aG e=true) :
  dV Tryz.prog h0 ⟨fun _=>False,β1⟩ w0 h0 (opsOf (aU (au Tryz.f14) [1,1,0])).toList 1 (3+1) (V3 b e) (wpS Tryz.prog [cd Tryz.f14 [1,1,1]] (aS Tryz.prog Tryz.f14 (R14 b e w0 h0))):=by
 refine dV.call (c:={ callee:=.value (.func 44),args:=#[.tmp 17],argTypes:=#[31] }) (g:=44) (a1:=[]) (a2:=[]) (γ:=none) rfl rfl rfl (by kernel_rfl) (fun _ _ _ hq=>by cases hq) (by kernel_rfl) Tryz.call44 ?_
 intro β2 h2 a w3 vs g1 hd hvs
 obtain ⟨v0,vs1,rfl,r0,r3⟩:=hvs
 have r3:vs1=[]:=r3
 subst r3
 have r0:DV.rel h2 (cu b) v0:=r0
 have hk3:Kept (fun _=>False) w0 w3:=g1.kept
 refine(XP (G:=h2) b hs g1.holds r0).mono ?_
 rintro r w' ⟨v,rfl,β,V,rfl,q⟩
 refine⟨_,rfl,?_⟩
 have hlz:∀s l,(WL e).box s=some l→(s=3∨s=4)∧Live β2 s l∧(V3 b e).box s=some l:=by
  intro s l hl
  have hl0:=hl
  simp only[WL,AS.box,Go.Ab.look] at hl
  by_cases e1:(3:Nat)=s
  ·subst e1;simp at hl;subst hl;exact⟨.inl rfl,trivial,hl0⟩
  ·rw[aQ e1,cond_false] at hl
   by_cases e2:(4:Nat)=s
   ·subst e2;simp at hl;subst hl;exact⟨.inr rfl,trivial,hl0⟩
   ·rw[aQ e2,cond_false] at hl;cases hl
 have gz:=fZ (g1.weaken (st':=WL e) (by refine AS.leZ [] [] (b:=((T0∧T0∧True)∧T0∧T0∧True)) (by kernel_rfl) (by kernel_rfl) ?_;exact⟨⟨rfl,rfl,trivial⟩,rfl,rfl,trivial⟩))
 have gb:=xZ gz q.hold q.kept (fun s l hl=>⟨(hlz s l hl).2.1,id⟩)
 have gc:=gb.put (t:=some 18) (x:=.d (.agg [di b.t,.con (.slice (V 1).1 b.es.length (V 1).2)])) (v:=.agg #[.int .i64 b.t,sv V 1 b.es.length]) ⟨_,rfl,_,_,rfl,rfl,_,_,rfl,rfl,rfl⟩
 have ge:=gc.weaken (st':=aaD e b.t (V 1) b.es.length) (by refine AS.leZ [] [] (b:=((T0∧T0∧T0∧True)∧T0∧T0∧True)) (by kernel_rfl) (by kernel_rfl) ?_;exact⟨⟨rfl,rfl,rfl,trivial⟩,rfl,rfl,trivial⟩)
 refine acs q g1.holds hs hb hf hv hok (fun c hc=>?_) hk3 g1.ext (fun c hlt=>g1.old c hlt id) _ _ _ _ ge hd
 obtain ⟨s,l,hl,_,rfl⟩:=hc
 obtain ⟨_,hlv,hl1⟩:=hlz s l hl
 obtain ⟨b1,b2⟩:=g1.box s l hl1
 exact⟨(b1 hlv).1.resolve_left id,Own.lt hlv b2⟩
theorem JM {b:Bk} (h:aJ aG b=true):rH b.es:=yB (a:=fA) (fun i hi=>(by cases hi)) (vk.1 h).2
theorem abI (b:Bk) (e:Ev) (hS:tY b) (h1:e.k.st.size≤1000000) (h2:e.k.ex.size≤1000000) (hw:G.holds w) {u x:Value} (hu:DV.rel G (cu b) u) (hx:DV.rel G (ig e) x):Calls Tryz.prog 14 #[u,x] w fun r w'=>∃v,r=.returned v∧R14 b e w G v w':=by
 have g:=aO.bare (G:=G) (rs:=[.d (cu b),.d (ig e)]) (β:=fun _=>0) (tm:=#[u,x]) (IH.le.refl G) hw rfl (fun t y hy=>by
  rcases t with _|_|t
  ·simp at hy;subst hy;exact⟨_,rfl,hu⟩
  ·simp at hy;subst hy;exact⟨_,rfl,hx⟩
  ·simp at hy) (fun _=>False)
 refine Calls.BF Tryz.func14 rfl g ?_
 refine dX (aj:=acB b e) follows (fun _=>none) (cuts:=[3]) (n:=1000) ?_
 refine qL ((.agg [(di e.kind),(ds e.k.st),(ds e.k.ex),(di e.k.n),(di e.t),(di e.v),(di e.h),(ds e.s),(db e.acc)]):DV) ((.agg [(di b.t),(.slc 7 b.es.length (bK b.es))]):DV) (fun Za Zb=>((aA Tryz.prog G 32 [Zb] (db (aJ aG b))∧(((!!aJ aG b)=true)→aA Tryz.prog G 18 [Za] (db (aG e))))∧(((!aJ aG b||!aG e)=true)→aP G (Fr.mk (fun x=>False) fun x=>0) w G (aS Tryz.prog Tryz.f14 (R14 b e w G)) .ret ⟨regs 32 [(0,(.d Zb)),(1,(.d Za)),(2,(.box 2 0)),(3,(.box 3 0)),(4,(.box 4 0)),(5,(vi 1)),(8,(.d Zb)),(9,(vb (aJ aG b))),(10,(vb (!aJ aG b))),(11,(vb (!aJ aG b))),(15,(vb (!aJ aG b||!aG e))),(16,(.d (.agg [(di 0),dG])))],[(4,[(vi 0),(.d dG)]),(3,fJ e),(2,[(vi b.t),(.d (.slc 7 b.es.length (bK b.es)))])]⟩)∧(((!aJ aG b||!aG e)=false)→aK Tryz.prog G (Fr.mk (fun x=>False) fun x=>0) w G [cd Tryz.f14 [1,1]] ⟨regs 32 [(0,(.d Zb)),(1,(.d Za)),(2,(.box 2 0)),(3,(.box 3 0)),(4,(.box 4 0)),(5,(vi 0)),(8,(.d Zb)),(9,(vb (aJ aG b))),(10,(vb (!aJ aG b))),(11,(vb (!aJ aG b))),(12,(.gate 11 false (!!aJ aG b) (.d Za))),(13,(.gate 11 false (!!aJ aG b) (vb (aG e)))),(14,(.gate 11 false (!!aJ aG b) (vb (!aG e)))),(15,(vb (!aJ aG b||!aG e)))],[(4,[(vi 0),(.d dG)]),(3,fJ e),(2,[(vi b.t),(.d (.slc 7 b.es.length (bK b.es)))])]⟩ (aS Tryz.prog Tryz.f14 (R14 b e w G))))) (by kernel_rfl) ?_
 refine⟨⟨hS.f32,fun _=>f18 e h1 h2⟩,fun c=>?_,fun c=>?_⟩
 ·have hap:tK aG b e=1:=by
   unfold tK
   rw[if_neg]
   rintro ⟨q1,q2⟩
   rw[q1,q2] at c;cases c
  have hab:wO aG b e=fA:=by unfold wO;rw[if_neg (by rw[hap];decide)]
  refine vN (x:=.d (.agg [di 0,.con (.slice none 0 0)])) (y:=.d (di 1)) rfl rfl fun β3 k3 tm w3 v u g3 hv hu=>?_
  have hu:u=.int .i64 1:=hu
  subst hu
  refine⟨v,k3,by rw[hap],?_,g3.glob,g3.holds,g3.kept,fun c hlt=>g3.old c hlt id⟩
  rw[hab]
  obtain ⟨vs,rfl,v0,vs1,rfl,r0,v1,vs2,rfl,r1,r2⟩:=hv
  exact⟨_,rfl,_,_,rfl,r0,_,_,rfl,⟨none,0,r1,Nat.le_refl _,.inl rfl⟩,r2⟩
 have hv:aJ aG b=true:=by
  cases q:aJ aG b with
  | true=>rfl
  | false=>rw[q] at c;cases c
 have hok:aG e=true:=by
  cases q:aG e with
  | true=>rfl
  | false=>rw[hv,q] at c;cases c
 have hf:b.es.length≤256:=by
  have hv':=hv
  unfold aJ at hv'
  simp only[aY,eF] at hv'
  exact hv'.1
 refine aK.weaken (st':=S14 b e) ?_ ?_
 ·exact AS.bD (by kernel_rfl)
 refine aK.seq (a:=aU (au Tryz.f14) [1,1,0]) (b:=aU (au Tryz.f14) [1,1,1]) (by kernel_rfl) ?_
 refine aK.qR (aj:={ d:=bG }) follows (fun _=>none) 1 (by kernel_rfl) ?_
 refine iG (b:=aP G (Fr.mk (fun x=>False) fun x=>0) w G (iP Tryz.prog (opsOf (aU (au Tryz.f14) [1,1,0])).toList 1 ((opsOf (aU (au Tryz.f14) [1,1,0])).toList.length-1) (wpS Tryz.prog [It.code (aU (au Tryz.f14) [1,1,1])] (aS Tryz.prog Tryz.f14 (R14 b e w G)))) .normal ⟨regs 32 [(2,(.box 2 0)),(3,(.box 3 0)),(4,(.box 4 0)),(17,(.d (.agg [(di b.t),(.slc 7 b.es.length (bK b.es))])))],[(2,[(vi b.t),(.d (.slc 7 b.es.length (bK b.es)))]),(3,fJ e),(4,[(vi 0),(.d dG)])]⟩) (by kernel_rfl) ?_
 intro β3 h3 a3 w3 g3 hd3
 have g4:=g3.weaken (st':=V3 b e) (by refine AS.leZ [] [] (b:=((T0∧T0∧T0∧True)∧T0∧T0∧True)) (by kernel_rfl) (by kernel_rfl) ?_;exact⟨⟨rfl,rfl,rfl,trivial⟩,rfl,rfl,trivial⟩)
 exact(acR hS.sz (JM hv) hf hv hok) _ _ _ _ g4 hd3
theorem f14 (b:Bk) (e:Ev) (hS:tY b) (h1:e.k.st.size≤1000000) (h2:e.k.ex.size≤1000000):aA Tryz.prog G 14 [cu b,ig e] (.aN [cu (wO aG b e),di (tK aG b e)]):=by
 refine⟨Tryz.call14,fun w h vs hG hw hr=>?_⟩
 obtain ⟨u,vs1,rfl,r,x,vs2,rfl,rx,hn⟩:=hr
 have hn:vs2=[]:=hn
 subst hn
 refine(abI (G:=h) b e hS h1 h2 hw r rx).mono ?_
 rintro _ w' ⟨v,rfl,u',k,rfl,hu,hle,hkw,hk,hold⟩
 exact⟨_,k,rfl,⟨_,rfl,_,_,rfl,hu,_,_,rfl,rfl,rfl⟩,hle,hkw,hk,hold⟩
def oL (β:Nat→Nat) (n:Nat) (k:Nat):Prop:=∃s,1≤s∧s<2*n+2∧0<room β s∧blk β s=k
theorem rP.rel {b:Bk} {w0 w:World} {h:IH} {β:Nat→Nat} {V:Nat→Option Addr×Nat} (q:rP b w0 h β V w) (hh:h.holds w0):h.le (IH.add h (oL β b.es.length) w)∧DV.rel (IH.add h (oL β b.es.length) w) (cu b) (.agg #[.int .i64 b.t,sv V 1 b.es.length]):=by
 have hle:h.le (IH.add h (oL β b.es.length) w):=IH.rF fun c ⟨s,h1,h2,h3,h4⟩=>by rw[←h4];exact(holds_none hh (q.new s h1 h2 h3).1).1
 have hin:∀s,1≤s→s<2*b.es.length+2→0<room β s→∀o,(IH.add h (oL β b.es.length) w).cell (blk β s) o=w.cell? ⟨blk β s,o,none⟩:=fun s h1 h2 h3 o=>IH.nC ⟨s,h1,h2,h3,rfl⟩
 refine⟨hle,[.int .i64 b.t,sv V 1 b.es.length],rfl,_,_,rfl,rfl,_,_,rfl,?_,rfl⟩
 refine xB (fun i hi y hy=>?_) (q.ent.slc hle fun h0 o=>hin 1 (by omega) (by omega) h0 o)
 exact xP ((q.gr i hi).slc hle fun h0 o=>hin _ (by omega) (by omega) h0 o) ((q.ap i hi).slc hle fun h0 o=>hin _ (by omega) (by omega) h0 o) hy
theorem f44 (b:Bk) (hs:gq b.es):aA Tryz.prog G 44 [cu b] (cu b):=by
 refine⟨Tryz.call44,fun w h vs hG hw hr=>?_⟩
 obtain ⟨u,vs1,rfl,r,hn⟩:=hr
 have hn:vs1=[]:=hn
 subst hn
 refine(XP (G:=h) b hs hw r).mono ?_
 rintro _ w' ⟨v,rfl,β,V,rfl,q⟩
 obtain ⟨hle,hr⟩:=q.rel hw
 refine⟨_,_,rfl,hr,hle,IH.add_holds q.hold,q.kept,fun c hlt=>⟨fun o=>IH.jT ?_,rfl⟩⟩
 rintro ⟨s,h1,h2,h3,h4⟩
 have:=(q.new s h1 h2 h3).1
 omega
end Go.Proofs
namespace Go.Proofs
open Go Go.Ab Go.RowKit
variable {G:IH}
def dM (es:List En) (s:ByteArray):List En:=es.filter fun x=>decide (x.k.st=s)
def kL (l:List Ev):Int:=l.foldl (fun t e=>if e.t>t then e.t else t) 0
def stB (b:Bk) (s:ByteArray):Bk:=⟨kL (ak ⟨0,dM b.es s⟩),dM b.es s⟩
def Tc (b:Bk) (s:ByteArray):dU:={ d:=fun f _=>bif Nat.beq f 32 then some (db (aJ aG b)) else bif Nat.beq f 44 then some (cu b) else bif Nat.beq f 53 then some (eu (ak ⟨0,dM b.es s⟩)) else none,rows:=fun n=>Nat.beq n 30 }
noncomputable def LC (b:Bk) (s:ByteArray) (j:Nat) (l:List En):AS:=⟨regs Tryz.f27.ntmps [(1,.d (ds s)),(2,.box 2 0),(4,.box 4 0),(5,.box 5 0),(16,.d (jI b.es)),(17,vi b.es.length),(18,vi j)],[(5,[.d (di 0),.vec 905 7 0 l.length]),(905,[.arr fO 7 (bK l)]),(2,(fQ b).map .d),(4,[.d (di 0),.d (.con (.slice none 0 0))])]⟩
noncomputable def adw (b:Bk) (s:ByteArray) (j:Nat) (f:Nat→DV) (m:Nat):AS:=⟨regs Tryz.f27.ntmps [(1,.d (ds s)),(2,.box 2 0),(4,.box 4 0),(5,.box 5 0),(16,.d (jI b.es)),(17,vi b.es.length),(18,vi j)],[(5,[.d (di 0),.vec 905 7 0 m]),(905,[.arr fO 7 f]),(2,(fQ b).map .d),(4,[.d (di 0),.d (.con (.slice none 0 0))])]⟩
theorem RQ {l:List En} {x:En}:∀i,i<l.length+1→(bif i.blt l.length then bK l i else aW true 7 (wP x) (0+(i-l.length)))=bK (l++[x]) i:=by
 intro i hi
 unfold bK
 by_cases c:i<l.length
 ·rw[show i.blt l.length=true from by rw[Nat.blt_eq];exact c,cond_true,nH c]
 ·obtain rfl:i=l.length:=by omega
  rw[show l.length.blt l.length=false from by rw[Bool.eq_false_iff,ne_eq,Nat.blt_eq];omega,cond_false,Nat.sub_self,nK]
  rfl
theorem P8 {es:List En} {s:ByteArray} {j:Nat} (h:j<es.length):dM (es.take (j+1)) s=dM (es.take j) s++(if (es.getD j en0).k.st=s then [es.getD j en0] else []):=by
 unfold dM
 rw[List.take_succ_eq_append_getElem h,List.filter_append,List.getD,gy h]
 by_cases c:es[j].k.st=s
 ·simp[c]
 ·simp[c]
theorem aby (b:Bk) (s:ByteArray) (hl:b.es.length≤1000000) {Q:Exit→AS→Prop} (h:aX Tryz.prog G [cd Tryz.f27 [1,1,1,1]] (LC b s b.es.length (dM b.es s)) Q):aX Tryz.prog G [cd Tryz.f27 [1,1,1,0,1,0],.blk 0,cd Tryz.f27 [1,1,1,1]] (LC b s 0 []) Q:=by
 refine aX.loop (c:=aU (au Tryz.f27) [1,1,1,0,1,0,0]) (by kernel_rfl) (fun j=>LC b s j (dM (b.es.take j) s)) (fun j=>j≤b.es.length) (fun j=>b.es.length-j) 0 ?_ (Nat.zero_le _) ?_
 ·refine AS.leZ [] [1] (b:=((T0∧T0∧T0∧T0∧T0∧T0∧T0∧True)∧T0∧((some [(.arr eP 7 (bK []))]):dS)=(some [(.arr eP 7 (bK (dM (List.take 0 b.es) s)))])∧T0∧T0∧True)) (by kernel_rfl) (by kernel_rfl) ?_
  exact⟨⟨rfl,rfl,rfl,rfl,rfl,rfl,rfl,trivial⟩,rfl,rfl,rfl,rfl,trivial⟩
 ·intro j hj
  have hj:j≤b.es.length:=hj
  show aX _ _ _ (LC b s j (dM (b.es.take j) s)) _
  have hll:(dM (b.es.take j) s).length≤1000000:=by
   have h1:(dM (b.es.take j) s).length≤(b.es.take j).length:=List.length_filter_le _ _
   have h2:(b.es.take j).length≤b.es.length:=by rw[List.length_take];omega
   omega
  generalize hL:dM (b.es.take j) s=l at hll
  refine dh (aj:=Tc b s) ?_
  refine aV (fun ZT ZW _ _ ZA _=>((((decide ((↑j:Int)<↑b.es.length))=true)→(((0≤(↑j:Int))∧((↑j:Int)<↑b.es.length))∧((((b.es.getD (↑j:Int).toNat en0).k.st.toList==s.toList)=true)→((((l.length+1)*112≤1099511627776)∧(l.length+1≤1099511627776))∧(I64 (↑j+1))∧(ZA (aB ZT [0,0]))))∧((((b.es.getD (↑j:Int).toNat en0).k.st.toList==s.toList)=false)→((I64 (↑j+1))∧(ZA (aB ZT [0,1]))))))∧(((decide ((↑j:Int)<↑b.es.length))=false)→ZW [cd Tryz.f27 [1,1,1,1]] (aB ZT [1]) Q))) (by kernel_rfl) ?_
  simp only[gW]
  refine⟨fun c=>?_,fun c=>?_⟩
  ·have hj2:j<b.es.length:=by have:=dn c;omega
   have hn:=P8 (s:=s) hj2
   rw[hL] at hn
   refine⟨⟨by omega,by omega⟩,fun c2=>⟨⟨by omega,by omega⟩,⟨by omega,by omega⟩,?_⟩,fun c2=>⟨⟨by omega,by omega⟩,?_⟩⟩
   ·rw[dJ,eF] at c2
    rw[if_pos c2] at hn
    refine⟨j+1,?_,hj2,show b.es.length-(j+1)<b.es.length-j from by omega⟩
    show AS.cO _ (LC b s (j+1) (dM (List.take (j+1) b.es) s))
    rw[hn]
    refine(AS.cO.moves [(31,905)] _ rfl).trans ((AS.cO.of_le (st':=adw b s (j+1) (fun i=>bif i.blt l.length then bK l i else aW true 7 (wP (b.es.getD j en0)) (0+(i-l.length))) (l.length+1)) ?_).trans ((AS.cO.rowB _ 5 1 905 (l.length+1) (bK (l++[b.es.getD j en0])) rfl rfl (by kernel_rfl) (by kernel_rfl) rfl rfl rfl (by kernel_rfl) fun i hi=>RQ i hi).trans (.of_le ?_)))
    ·refine AS.leZ [] [1] (b:=((T0∧T0∧T0∧T0∧T0∧T0∧T0∧True)∧T0∧((some [(.arr eP 7 (fun i=>bif i.blt l.length then bK l i else aW true 7 [DV.con (Value.string (b.es.getD (↑j:Int).toNat en0).k.st),DV.con (Value.string (b.es.getD (↑j:Int).toNat en0).k.ex),DV.con (Value.int IntKind.i64 (b.es.getD (↑j:Int).toNat en0).k.n),DV.con (Value.int IntKind.i64 (b.es.getD (↑j:Int).toNat en0).t),DV.con (Value.string (b.es.getD (↑j:Int).toNat en0).s),DV.slc 4 (b.es.getD (↑j:Int).toNat en0).gs.length (dP (b.es.getD (↑j:Int).toNat en0).gs),DV.slc 6 (b.es.getD (↑j:Int).toNat en0).ah.length (dI (b.es.getD (↑j:Int).toNat en0).ah)] (0+(i-l.length))))]):dS)=(some [(.arr eP 7 (fun i=>bif i.blt l.length then bK l i else aW true 7 [DV.con (Value.string (b.es.getD j en0).k.st),DV.con (Value.string (b.es.getD j en0).k.ex),DV.con (Value.int IntKind.i64 (b.es.getD j en0).k.n),DV.con (Value.int IntKind.i64 (b.es.getD j en0).t),DV.con (Value.string (b.es.getD j en0).s),DV.slc 4 (b.es.getD j en0).gs.length (dP (b.es.getD j en0).gs),DV.slc 6 (b.es.getD j en0).ah.length (dI (b.es.getD j en0).ah)] (0+(i-l.length))))])∧T0∧T0∧True)) (by kernel_rfl) (by kernel_rfl) ?_
     exact⟨⟨rfl,rfl,rfl,rfl,rfl,rfl,rfl,trivial⟩,rfl,by rw[gW],rfl,rfl,trivial⟩
    ·refine AS.leZ [] [0] (b:=((T0∧T0∧T0∧T0∧T0∧T0∧T0∧True)∧((some [(vi 0),(.vec 905 7 0 (l.length+1))]):dS)=(some [(vi 0),(.vec 905 7 0 (l++[b.es.getD j en0]).length)])∧T0∧T0∧T0∧True)) (by kernel_rfl) (by kernel_rfl) ?_
     exact⟨⟨rfl,rfl,rfl,rfl,rfl,rfl,rfl,trivial⟩,by rw[iE],rfl,rfl,rfl,trivial⟩
   ·rw[dJ,decide_eq_false_iff_not] at c2
    rw[if_neg c2,List.append_nil] at hn
    refine⟨j+1,?_,hj2,show b.es.length-(j+1)<b.es.length-j from by omega⟩
    show AS.cO _ (LC b s (j+1) (dM (List.take (j+1) b.es) s))
    rw[hn]
    refine .of_le ?_
    exact AS.bD (by kernel_rfl)
  ·obtain rfl:j=b.es.length:=by have:=of_decide_eq_false c;omega
   rw[List.take_length] at hL
   rw[hL] at h
   refine aX.weaken ?_ h
   exact AS.bD (by kernel_rfl)
noncomputable def aey (L:List En):AS:=⟨regs Tryz.f27.ntmps [(4,.box 4 0),(5,.box 5 0)],[(5,[.d (di 0),.d (jI L)]),(4,[.d (di 0),.d (.con (.slice none 0 0))])]⟩
noncomputable def KW (L:List En) (E:List Ev) (j:Nat) (t:Int):AS:=⟨regs Tryz.f27.ntmps [(4,.box 4 0),(5,.box 5 0),(35,.d (eu E)),(36,vi E.length),(37,vi j)],[(5,[.d (di t),.d (jI L)]),(4,[.d (di 0),.d (.con (.slice none 0 0))])]⟩
theorem UW {l:List Ev} {j:Nat} (h:j<l.length):kL (l.take (j+1))=if (l.getD j ev0).t>kL (l.take j) then (l.getD j ev0).t else kL (l.take j):=by
 unfold kL
 rw[List.take_succ_eq_append_getElem h,List.foldl_append,List.getD,gy h];rfl
theorem acz (L:List En) (E:List Ev) (hE:E.length≤1000000):aX Tryz.prog G [cd Tryz.f27 [1,1,1,1,0,1,0],.blk 2,cd Tryz.f27 [1,1,1,1,1]] (KW L E 0 0) (JK Tryz.prog Tryz.f27 (cu ⟨kL E,L⟩)):=by
 refine aX.loop (c:=aU (au Tryz.f27) [1,1,1,1,0,1,0,0]) (by kernel_rfl) (fun j=>KW L E j (kL (E.take j))) (fun j=>j≤E.length) (fun j=>E.length-j) 0 ?_ (Nat.zero_le _) ?_
 ·refine AS.leZ [] [0] (b:=((T0∧T0∧T0∧T0∧T0∧True)∧((some [(vi 0),(.d (.slc 7 L.length (bK L)))]):dS)=(some [(vi (kL (List.take 0 E))),(.d (.slc 7 L.length (bK L)))])∧T0∧True)) (by kernel_rfl) (by kernel_rfl) ?_
  exact⟨⟨rfl,rfl,rfl,rfl,rfl,trivial⟩,rfl,rfl,trivial⟩
 ·intro j hj
  have hj:j≤E.length:=hj
  show aX _ _ _ (KW L E j (kL (E.take j))) _
  refine dh (aj:={ d:=bG }) ?_
  refine aV (fun ZT ZW ZQ _ ZA _=>((((decide ((↑j:Int)<↑E.length))=true)→(((0≤(↑j:Int))∧((↑j:Int)<↑E.length))∧(I64 (↑j+1))∧(ZA (aB ZT [0]))))∧(((decide ((↑j:Int)<↑E.length))=false)→ZW [cd Tryz.f27 [1,1,1,1,1]] (aB ZT [1]) ZQ))) (by kernel_rfl) ?_
  refine⟨fun c=>?_,fun c=>?_⟩
  ·have hj2:j<E.length:=by have:=dn c;omega
   refine⟨⟨by omega,by omega⟩,⟨by omega,by omega⟩,j+1,.of_le ?_,hj2,show E.length-(j+1)<E.length-j from by omega⟩
   show AS.le _ (KW L E (j+1) (kL (E.take (j+1))))
   rw[UW hj2]
   refine AS.leZ [] [0] (b:=((T0∧T0∧T0∧T0∧T0∧True)∧((some [(vi (if (E.getD (↑j:Int).toNat ev0).t>kL (List.take j E) then (E.getD (↑j:Int).toNat ev0).t else kL (List.take j E))),(.d (.slc 7 L.length (bK L)))]):dS)=(some [(vi (if (E.getD j ev0).t>kL (List.take j E) then (E.getD j ev0).t else kL (List.take j E))),(.d (.slc 7 L.length (bK L)))])∧T0∧True)) (by kernel_rfl) (by kernel_rfl) ?_
   exact⟨⟨rfl,rfl,rfl,rfl,rfl,trivial⟩,by rw[gW],rfl,trivial⟩
  ·obtain rfl:j=E.length:=by have:=of_decide_eq_false c;omega
   refine aX.weaken (st':=KW L E E.length (kL E)) ?_ ?_
   ·rw[List.take_length]
    exact AS.bD (by kernel_rfl)
   ·refine dh (aj:={ d:=bG }) ?_
    refine aC (fun _ _ _ _=>(ZS ((cu (Bk.mk (kL E) L)):DV))) (by kernel_rfl) ?_
    rfl
theorem abr (b:Bk) (s:ByteArray) (hs:gq (dM b.es s)) (hl:(bn (dM b.es s)).length≤1000000):aX Tryz.prog G [cd Tryz.f27 [1,1,1,1]] (LC b s b.es.length (dM b.es s)) (JK Tryz.prog Tryz.f27 (cu (stB b s))):=by
 refine aX.freeze 905 rfl ?_
 refine aX.weaken (st':=aey (dM b.es s)) ?_ ?_
 ·refine AS.leZ [] [0] (b:=((T0∧T0∧True)∧((some [(vi 0),(.d (.slc 7 (dM b.es s).length (fun i=>bK (dM b.es s) (0+i))))]):dS)=(some [(vi 0),(.d (.slc 7 (dM b.es s).length (bK (dM b.es s))))])∧T0∧True)) (by kernel_rfl) (by kernel_rfl) ?_
  exact⟨⟨rfl,rfl,trivial⟩,by simp only[Nat.zero_add],rfl,trivial⟩
 refine dh (aj:=Tc b s) ?_
 refine aC (fun ZT ZW ZQ ZK=>(ZK 53 [(.agg [(di 0),(.slc 7 (dM b.es s).length (bK (dM b.es s)))])] (.slc 9 (ak (Bk.mk 0 (dM b.es s))).length (bW (ak (Bk.mk 0 (dM b.es s)))))∧ZW [cd Tryz.f27 [1,1,1,1,0,1,0],(.blk 2),cd Tryz.f27 [1,1,1,1,1]] (aB ZT []) ZQ)) (by kernel_rfl) ?_
 refine⟨f53 ⟨0,dM b.es s⟩ hs hl,?_⟩
 refine aX.weaken (st':=KW (dM b.es s) (ak ⟨0,dM b.es s⟩) 0 0) ?_ (acz _ _ ?_)
 ·exact AS.bD (by kernel_rfl)
 ·show (gY (bn (dM b.es s))).length≤_
  rw[qF];exact hl
noncomputable def adI (b:Bk) (s:ByteArray):AS:=⟨regs Tryz.f27.ntmps [(1,.d (ds s)),(2,.box 2 0),(4,.box 4 0),(5,.box 5 0),(16,.d (jI b.es)),(17,vi b.es.length),(18,vi 0)],[(5,[.d (di 0),.d (.con (.slice none 0 0))]),(2,(fQ b).map .d),(4,[.d (di 0),.d (.con (.slice none 0 0))])]⟩
theorem aeh (b:Bk) (s:ByteArray) (h:tY b) (hs:gq (dM b.es s)) (hl:(bn (dM b.es s)).length≤1000000):aA Tryz.prog G 27 [cu b,ds s] (bif aJ aG b then cu (stB b s) else .agg [di 0,.con (.slice none 0 0)]):=by
 refine aA.dA Tryz.func27 rfl Tryz.call27 ?_
 refine dh (aj:=Tc b s) ?_
 refine aC (fun ZT ZW ZQ ZK=>(fun Za=>(ZK 32 [Za] (db (aJ aG b))∧(((!aJ aG b)=true)→(((.agg [(di 0),dG]):DV)=(bif aJ aG b then cu (stB b s) else DV.agg [di 0,dG])))∧(((!aJ aG b)=false)→(ZK 44 [Za] Za∧ZW [cd Tryz.f27 [1,1,1,0,1,0],(.blk 0),cd Tryz.f27 [1,1,1,1]] (aB ZT [1]) ZQ)))) ((.agg [(di b.t),(.slc 7 b.es.length (bK b.es))]):DV)) (by kernel_rfl) ?_
 refine⟨h.f32,fun c=>?_,fun c=>⟨f44 b h.sz,?_⟩⟩
 ·have c:aJ aG b=false:=by simpa using c
  rw[c];rfl
 ·have c:aJ aG b=true:=by simpa using c
  rw[c]
  refine aX.weaken (st':=adI b s) ?_ ?_
  ·exact AS.bD (by kernel_rfl)
  refine aX.pre (.Aq _ 5 1 905 7 fO (bK []) (by kernel_rfl) (by kernel_rfl)) ?_
  refine aX.weaken (st':=LC b s 0 []) ?_ (aby b s h.sz.1 (abr b s hs hl))
  exact AS.bD (by kernel_rfl)
theorem f27 (b:Bk) (s:ByteArray) (h:tY b) (hs:gq (dM b.es s)) (hl:(bn (dM b.es s)).length≤1000000):aA Tryz.prog G 27 [cu b,ds s] (cu (if aJ aG b=true then stB b s else fA)):=by
 refine aA.imp (aeh b s h hs hl) fun k v hv=>?_
 cases c:aJ aG b with
 | true=>rw[c] at hv;exact hv
 | false=>
  rw[c] at hv
  obtain ⟨vs,rfl,v0,vs1,rfl,r0,v1,vs2,rfl,r1,r2⟩:=hv
  exact⟨_,rfl,_,_,rfl,r0,_,_,rfl,⟨none,0,r1,Nat.le_refl _,.inl rfl⟩,r2⟩
end Go.Proofs
namespace Go.Proofs
variable {ok:Ev→Bool}
end Go.Proofs
namespace Go.Proofs
open Go Go.Ab Go.RowKit
theorem O8 {ok:Ev→Bool}:∀{l:List Ev} {a b:Bk},gB ok l a=some b→∀y∈l,ok y=true
 | [],_,_,_,y,hy=>by cases hy
 | e :: l,a,b,h,y,hy=>by
  obtain ⟨⟨h1,_⟩,h3⟩:=jV.1 h
  rcases List.mem_cons.1 hy with rfl|hy
  ·exact h1
  ·exact O8 h3 y hy
theorem Es {e:Ev} (h:aG e=true):e.k.st.size≤16∧e.k.ex.size≤16:=by
 unfold aG Dj nameB at h
 simp only[aY,eF] at h
 obtain ⟨_,_,⟨⟨_,h1,_⟩,⟨_,h2,_⟩,_⟩,_⟩:=h
 exact⟨h1,h2⟩
theorem val_ok {b:Bk} (h:aJ aG b=true):∀y∈bn b.es,aG y=true:=fun y hy=>O8 (vk.1 h).2 y ((ng _).2 hy)
theorem JL {b:Bk} (h:aJ aG b=true):(bn b.es).length≤12544:=by
 have:=Ie (JM h)
 have:=(Hr h).few
 omega
theorem Fj {b:Bk} (h:aJ aG b=true):tY b:=by
 have hl:=JL h
 refine⟨DC (Hr h) (JM h),by omega,fun j=>?_,by unfold ak;rw[qF];omega⟩
 by_cases hj:j<(ak b).length
 ·have hm:(ak b).getD j ev0∈bn b.es:=by
   rw[List.getD,gy hj]
   exact(ng _).1 (List.getElem_mem hj)
  obtain ⟨h1,h2⟩:=Es (val_ok h _ hm)
  exact⟨by omega,by omega⟩
 ·rw[List.getD,List.getElem?_eq_none (by omega)]
  exact⟨by decide,by decide⟩
end Go.Proofs
namespace Go.Proofs
open Go Go.Ab Go.RowKit
variable {G:IH}
def iT (e:Ev):List ByteArray:=[bs (Lib.itoa e.kind),e.k.st,e.k.ex,bs (Lib.itoa e.k.n),bs (Lib.itoa e.t),bs (Lib.itoa e.v),bs (Lib.itoa e.h),e.s,bif e.acc then ⟨#[49]⟩ else ⟨#[48]⟩]
def encS (e:Ev):ByteArray:=bif aG e then fG (iT e) else .empty
def og (e:Ev):Int:=bif aG e then fH (iT e) else 1
def rZ:DV→ByteArray
 | .con (.string s)=>s
 | _=>.empty
theorem P6 (l:List ByteArray):xL rZ (zI l)=l:=JC (x0:=.empty) (fun _ _=>rfl) l
def aah (ok:Bool):iR:=fun f a=>match f,a with
 | 67,[.con (.int .i64 n)]=>some (ds (bs (Lib.itoa n)))
 | 18,_=>some (db ok)
 | 58,[l]=>some (.aN [ds (fG (xL rZ l)),di (fH (xL rZ l))])
 | _,_=>none
def abV (ok:Bool):dU:={ d:=aah ok,rows:=fun n=>Nat.beq n 41 }
theorem JV {e:Ev} (h:aG e=true):I64 e.kind∧I64 e.k.n∧I64 e.t∧I64 e.v∧I64 e.h∧e.s.size≤4096:=by
 unfold aG Dj at h
 simp only[aY,eF] at h
 obtain ⟨h1,h2,⟨_,_,h3,h4⟩,h5,h6,h7,h8⟩:=h
 refine⟨⟨by omega,by omega⟩,⟨by omega,by omega⟩,⟨by omega,by omega⟩,?_⟩
 by_cases c:e.kind=1
 ·rw[if_pos c] at h8
  simp only[aY,eF] at h8
  obtain ⟨a1,a2,a3,a4,_⟩:=h8
  exact⟨⟨by omega,by omega⟩,⟨by omega,by omega⟩,h7⟩
 ·rw[if_neg c] at h8
  simp only[aY,eF] at h8
  obtain ⟨a1,a2,_⟩:=h8
  rw[a1,a2]
  exact⟨⟨by decide,by decide⟩,⟨by decide,by decide⟩,h7⟩
theorem Jl {e:Ev} (h:aG e=true):rJ (iT e):=by
 obtain ⟨b1,b2,b3,b4,b5,b6⟩:=JV h
 obtain ⟨s1,s2⟩:=Es h
 refine⟨by simp[iT],fun f hf=>?_⟩
 have q1:=iH _ b1
 have q2:=iH _ b2
 have q3:=iH _ b3
 have q4:=iH _ b4
 have q5:=iH _ b5
 simp only[iT,List.mem_cons,List.not_mem_nil,or_false] at hf
 rcases hf with rfl|rfl|rfl|rfl|rfl|rfl|rfl|rfl|rfl
 ·rw[eX];omega
 ·omega
 ·omega
 ·rw[eX];omega
 ·rw[eX];omega
 ·rw[eX];omega
 ·rw[eX];omega
 ·omega
 ·cases e.acc<;>decide
theorem adp (hT:Tab G) {e:Ev} (h:aG e=true) (f:Nat→DV) (hf:∀i,i<9→f i=Ec (iT e) i):aA Tryz.prog G 58 [.slc 1 9 f] (.aN [ds (fG (iT e)),di (fH (iT e))]):=
 aA.args (f58 hT (iT e) (Jl h)) fun _ us hh=>DV.gU (fun _ hv=>DV.fE hf hv) (fun _ h=>h) us hh
theorem f38 (hT:Tab G) (e:Ev) (h1:e.k.st.size≤1000000) (h2:e.k.ex.size≤1000000):aA Tryz.prog G 38 [ig e] (.aN [ds (encS e),di (og e)]):=by
 refine aA.qQ (aj:=abV (aG e)) (keep:=[]) follows Tryz.func38 rfl Tryz.call38 ?_
 refine aC (fun _ _ _ ZK=>(fun Za Zb=>(ZK 18 [(.agg [(di e.kind),(ds e.k.st),(ds e.k.ex),(di e.k.n),(di e.t),(di e.v),(di e.h),(ds e.s),(db e.acc)])] (db (aG e))∧(((!aG e)=true)→(((.aN [(ds (ByteArray.mk #[])),(di 1)]):DV)=(.aN [(ds (encS e)),(di (og e))])))∧(((!aG e)=false)→(((e.acc=true)→((ZK 67 [(di e.kind)] (ds (bs (Lib.itoa e.kind)))∧ZK 67 [(di e.k.n)] (ds (bs (Lib.itoa e.k.n)))∧ZK 67 [(di e.t)] (ds (bs (Lib.itoa e.t)))∧ZK 67 [(di e.v)] (ds (bs (Lib.itoa e.v)))∧ZK 67 [(di e.h)] (ds (bs (Lib.itoa e.h)))∧ZK 58 [(.slc 1 9 (fun i=>aW false 1 [ds (bs (Lib.itoa e.kind)),ds e.k.st,ds e.k.ex,ds (bs (Lib.itoa e.k.n)),ds (bs (Lib.itoa e.t)),ds (bs (Lib.itoa e.v)),ds (bs (Lib.itoa e.h)),ds e.s,ds (ByteArray.mk #[49])] (0+i)))] (.aN [(ds (fG Za)),(di (fH Za))]))∧((.aN [(ds (fG Za)),(di (fH Za))]):DV)=(.aN [(ds (encS e)),(di (og e))])))∧((e.acc=false)→((ZK 67 [(di e.kind)] (ds (bs (Lib.itoa e.kind)))∧ZK 67 [(di e.k.n)] (ds (bs (Lib.itoa e.k.n)))∧ZK 67 [(di e.t)] (ds (bs (Lib.itoa e.t)))∧ZK 67 [(di e.v)] (ds (bs (Lib.itoa e.v)))∧ZK 67 [(di e.h)] (ds (bs (Lib.itoa e.h)))∧ZK 58 [(.slc 1 9 (fun i=>aW false 1 [ds (bs (Lib.itoa e.kind)),ds e.k.st,ds e.k.ex,ds (bs (Lib.itoa e.k.n)),ds (bs (Lib.itoa e.t)),ds (bs (Lib.itoa e.v)),ds (bs (Lib.itoa e.h)),ds e.s,ds (ByteArray.mk #[48])] (0+i)))] (.aN [(ds (fG Zb)),(di (fH Zb))]))∧((.aN [(ds (fG Zb)),(di (fH Zb))]):DV)=(.aN [(ds (encS e)),(di (og e))]))))))) (xL rZ (DV.slc 1 9 fun i=>aW false 1 [ds (bs (Lib.itoa e.kind)),ds e.k.st,ds e.k.ex,ds (bs (Lib.itoa e.k.n)),ds (bs (Lib.itoa e.t)),ds (bs (Lib.itoa e.v)),ds (bs (Lib.itoa e.h)),ds e.s,ds (ByteArray.mk #[49])] (0+i))) (xL rZ (DV.slc 1 9 fun i=>aW false 1 [ds (bs (Lib.itoa e.kind)),ds e.k.st,ds e.k.ex,ds (bs (Lib.itoa e.k.n)),ds (bs (Lib.itoa e.t)),ds (bs (Lib.itoa e.v)),ds (bs (Lib.itoa e.h)),ds e.s,ds (ByteArray.mk #[48])] (0+i)))) (by kernel_rfl) ?_
 refine⟨f18 e h1 h2,fun c=>?_,fun c=>?_⟩
 ·have c:aG e=false:=by simpa using c
  unfold encS og
  rw[c];rfl
 ·have c:aG e=true:=by simpa using c
  obtain ⟨b1,b2,b3,b4,b5,b6⟩:=JV c
  have hS:encS e=fG (iT e):=by unfold encS;rw[c];rfl
  have hE:og e=fH (iT e):=by unfold og;rw[c];rfl
  have hl:∀f:Nat→DV,(∀i,i<9→f i=Ec (iT e) i)→xL rZ (.slc 1 9 f)=iT e:=fun f hf=>by
   have:xL rZ (.slc 1 9 f)=xL rZ (zI (iT e)):=by
    unfold xL
    exact List.map_congr_left fun i hi=>by rw[hf i (List.mem_range.1 hi)]
   rw[this,P6]
  refine⟨fun ca=>?_,fun ca=>?_⟩
  all_goals
   have hf:∀i,i<9→(fun i=>aW false 1 [ds (bs (Lib.itoa e.kind)),ds e.k.st,ds e.k.ex,ds (bs (Lib.itoa e.k.n)),ds (bs (Lib.itoa e.t)),ds (bs (Lib.itoa e.v)),ds (bs (Lib.itoa e.h)),ds e.s,ds (bif e.acc then ⟨#[49]⟩ else ⟨#[48]⟩)] (0+i)) i=Ec (iT e) i:=fun i hi=>by
    match i,hi with
    | 0,_=>rfl
    | 1,_=>rfl
    | 2,_=>rfl
    | 3,_=>rfl
    | 4,_=>rfl
    | 5,_=>rfl
    | 6,_=>rfl
    | 7,_=>rfl
    | 8,_=>rfl
   rw[ca] at hf
   have hl:=hl _ hf
   have h58:=adp hT c _ hf
   rw[hS,hE]
   simp only[cond_true,cond_false] at hl h58
   rw[hl]
   exact⟨⟨f67 hT _ b1,f67 hT _ b2,f67 hT _ b3,f67 hT _ b4,f67 hT _ b5,h58⟩,rfl⟩
end Go.Proofs
namespace Go.Ab
open Go
theorem AS.cO.cell (st:AS) (b i:Nat) (y:AV) {l:List AV} {x:AV} (hb:st.box b=some l) (hx:l[i]?=some x) (hpl:bU l=true) (hxy:∀(β:Nat→Nat) (h:IH) (v:Value),x.rel β h v→y.rel β h v):st.cO ⟨st.regs,setCells b i y st.boxes⟩:=by
 intro G F w0 h0 β h tm w g
 obtain ⟨p1,p2⟩:=g.box b l hb
 rw[Own.plain hpl] at p2
 obtain ⟨T,vs,e1,e2⟩:=p2
 obtain ⟨v,hv,hr⟩:=e2.get hx
 have hset:AV.aF β h (l.set i y) vs:=by
  have h1:=Ba (i:=i) e2 (hxy _ _ _ hr)
  have h2:vs.set i v=vs:=by
   obtain ⟨h3,h4⟩:=List.getElem?_eq_some_iff.1 hv
   rw[←h4,List.set_getElem_self]
  rwa [h2] at h1
 have key:∀t m,look (setCells b i y st.boxes) t=some m→(t=b∧m=l.set i y)∨(t≠b∧look st.boxes t=some m):=fun t m hm=>eG hb t m hm
 refine⟨β,g.glob,g.holds,g.ext,g.old,g.kept,g.fix,g.size,g.regs,fun t m hm=>?_,fun t t' m m' hm hm' hl hl' he=>?_⟩
 ·rcases key t m hm with ⟨rfl,rfl⟩|⟨_,hm⟩
  ·exact⟨fun _=>p1 (Live.plain hpl),Own.of T.2 e1 hset⟩
  ·exact g.box t m hm
 ·have conv:∀t m,look (setCells b i y st.boxes) t=some m→Live β t m→∃m2,look st.boxes t=some m2∧Live β t m2:=by
   intro t m hm hl
   rcases key t m hm with ⟨rfl,rfl⟩|⟨_,hm⟩
   ·exact⟨l,hb,Live.plain hpl⟩
   ·exact⟨m,hm,hl⟩
  obtain ⟨m1,a1,a2⟩:=conv t m hm hl
  obtain ⟨m2,b1,b2⟩:=conv t' m' hm' hl'
  exact g.inj t t' m1 m2 a1 b1 a2 b2 he
end Go.Ab
namespace Go.Proofs
open Go Go.Ab Go.RowKit
variable {G:IH}
def wo (e:Ev):Bool:=decide (e.s.size≤60)&&decide (e.k.st.size≤40)&&decide (e.k.ex.size≤40)
def sH (l:List Ev) (m:Int):Bool:=l.all wo&&decide ((l.length:Int)≤m)
theorem aaK {l:List Ev} {m:Int} (h:sH l m=true):(∀e∈l,e.s.size≤60∧e.k.st.size≤40∧e.k.ex.size≤40)∧(l.length:Int)≤m:=by
 unfold sH at h
 rw[aY,List.all_eq_true,eF] at h
 refine⟨fun e he=>?_,h.2⟩
 have:=h.1 e he
 unfold wo at this
 simp only[aY,eF] at this
 exact⟨this.1.1,this.1.2,this.2⟩
theorem LV {l:List Ev} {k:Nat} (h:k<l.length):l.getD k ev0∈l:=by
 rw[List.getD,gy h]
 exact List.getElem_mem h
noncomputable def S12 (l:List Ev) (m:Int) (k:Nat):AS:=⟨regs Tryz.f12.ntmps [(0,.d (eu l)),(1,vi m),(4,vb false),(5,vi k)],[]⟩
theorem f12 (l:List Ev) (m:Int) (hl:l.length≤9223372036854775807):aA Tryz.prog G 12 [eu l,di m] (db (sH l m)):=by
 refine aA.qQ (aj:={ d:=bG }) (keep:=[]) follows Tryz.func12 rfl Tryz.call12 ?_
 refine aC (fun ZT ZW ZQ _=>ZW [cd Tryz.f12 [1,0,1,0],(.blk 0),cd Tryz.f12 [1,1]] (aB ZT []) ZQ) (by kernel_rfl) ?_
 refine aX.loop (c:=aU (au Tryz.f12) [1,0,1,0,0]) (by kernel_rfl) (S12 l m) (fun k=>k≤l.length∧∀i,i<k→wo (l.getD i ev0)=true) (fun k=>l.length-k) 0 ?_ ⟨Nat.zero_le _,fun i hi=>absurd hi (Nat.not_lt_zero _)⟩ ?_
 ·exact AS.bD (by kernel_rfl)
 ·rintro k ⟨hk,hs⟩
  by_cases hk2:k<l.length
  ·have e:wo (l.getD k ev0) = !(decide (((l.getD k ev0).s.size:Int)>60)||decide (((l.getD k ev0).k.st.size:Int)>40)||decide (((l.getD k ev0).k.ex.size:Int)>40)):=by
    unfold wo
    rw[Bool.not_or,Bool.not_or,←decide_not,←decide_not,←decide_not]
    congr 1
    ·congr 1<;>exact decide_eq_decide.2 (by omega)
    ·exact decide_eq_decide.2 (by omega)
   refine gK (aj:={ d:=bG }) (cuts:=[6]) ?_
   refine aV (fun ZT ZW ZQ _ ZA _=>(fun Za=>((((decide ((↑k:Int)<↑l.length))=true)→((((0≤(↑k:Int))∧((↑k:Int)<↑l.length))∧(((!decide ((↑(l.getD (↑k:Int).toNat ev0).s.size:Int)>60))=true)→((0≤(↑k:Int))∧((↑k:Int)<↑l.length)))∧(((!(decide ((↑(l.getD (↑k:Int).toNat ev0).s.size:Int)>60)||decide ((↑(l.getD (↑k:Int).toNat ev0).k.st.size:Int)>40)))=true)→((0≤(↑k:Int))∧((↑k:Int)<↑l.length))))∧((Za=true)→(((db false):DV)=(db (sH l m))))∧((Za=false)→((I64 (↑k+1))∧(ZA (aB ZT [0,1]))))))∧(((decide ((↑k:Int)<↑l.length))=false)→ZW [cd Tryz.f12 [1,1]] (aB ZT [1]) ZQ))) (decide ((↑(l.getD (↑k:Int).toNat ev0).s.size:Int)>60)||decide ((↑(l.getD (↑k:Int).toNat ev0).k.st.size:Int)>40)||decide ((↑(l.getD (↑k:Int).toNat ev0).k.ex.size:Int)>40))) (by kernel_rfl) ?_
   try dsimp only
   rw[show ((k:Int)).toNat=k from rfl]
   refine⟨fun _=>⟨⟨⟨by omega,by omega⟩,fun _=>⟨by omega,by omega⟩,fun _=>⟨by omega,by omega⟩⟩,fun c=>?_,fun c=>⟨⟨by omega,by omega⟩,?_⟩⟩,fun hd=>absurd (of_decide_eq_false hd) (by omega)⟩
   ·have h1:wo (l.getD k ev0)=false:=by rw[e,c];rfl
    have:sH l m=false:=by
     unfold sH
     rw[List.all_eq_false.2 ⟨l.getD k ev0,LV hk2,by rw[h1];decide⟩];rfl
    rw[this]
   ·have h1:wo (l.getD k ev0)=true:=by rw[e,c];rfl
    refine Again.mk (k+1) ?_ ⟨hk2,fun i hi=>?_⟩ (by show l.length-(k+1)<l.length-k;omega)
    ·exact AS.bD (by kernel_rfl)
    ·by_cases h:i=k
     ·subst h;exact h1
     ·exact hs i (by omega)
  ·obtain rfl:k=l.length:=by omega
   refine gK (aj:={ d:=bG }) (cuts:=[4,6]) ?_
   refine aV (fun ZT ZW ZQ _ _ ZR=>((((decide ((↑l.length:Int)<↑l.length))=true)→ZW [cd Tryz.f12 [1,0,1,0,0,1,0,0],(.blk 1),cd Tryz.f12 [1,0,1,0,0,1,1]] (aB ZT [0]) ZR)∧(((decide ((↑l.length:Int)<↑l.length))=false)→ZW [cd Tryz.f12 [1,1]] (aB ZT [1]) ZQ))) (by kernel_rfl) ?_
   refine⟨fun hd=>absurd (dn hd) (by omega),fun _=>?_⟩
   refine dZ (aj:={ d:=bG }) ?_
   refine aC (fun _ _ _ _=>(((db (decide (↑l.length≤m))):DV)=(db (sH l m)))) (by kernel_rfl) ?_
   have:l.all wo=true:=List.all_eq_true.2 fun a ha=>by
    obtain ⟨i,hi,rfl⟩:=List.getElem_of_mem ha
    have:=hs i hi
    rwa [List.getD,gy hi] at this
   unfold sH
   rw[this,Bool.true_and]
abbrev kyA:Ky:=⟨⟨#[97,100,97]⟩,⟨#[102,105,98]⟩,1⟩
abbrev Ah:Ev:=⟨0,kyA,3,0,0,⟨#[]⟩,false⟩
abbrev zZ (v h:Int):Ev:=⟨1,kyA,5,v,h,⟨#[]⟩,false⟩
def abk (a b c d:Bk) (s:ByteArray):iR:=fun f x=>match f,x with
 | 14,[_,.agg [.con (.int _ k),_,_,_,_,.con (.int _ v),.con (.int _ h),_,_]]=>some (if k=0 then .aN [cu a,di 0] else if h=750 then .aN [cu b,di 0] else if v=1 then .aN [cu d,di 9] else .aN [cu c,di 0])
 | 38,_=>some (.aN [ds s,di 0])
 | _,_=>none
def abG (a b c d:Bk) (s:ByteArray):dU:={ d:=abk a b c d s }
theorem aex (a b c d:Bk) (s:ByteArray) (h1:aA Tryz.prog G 14 [.agg [di 0,.con (.slice none 0 0)],ig Ah] (.aN [cu a,di 0])) (h2:aA Tryz.prog G 14 [cu a,ig (zZ 1 750)] (.aN [cu b,di 0])) (h3:aA Tryz.prog G 14 [cu b,ig (zZ 1 800)] (.aN [cu d,di 9])) (h4:aA Tryz.prog G 14 [cu b,ig (zZ 2 800)] (.aN [cu c,di 0])) (h5:aA Tryz.prog G 38 [ig Ah] (.aN [ds s,di 0]))
  (hc:c.es.length=1) (hg:(c.es.getD 0 en0).gs.length=2):aA Tryz.prog G 11 [] (db (decide (s=⟨#[49,58,48,51,58,97,100,97,51,58,102,105,98,49,58,49,49,58,51,49,58,48,49,58,48,48,58,49,58,48]⟩))):=by
 refine aA.qQ (aj:=abG a b c d s) (keep:=[]) follows Tryz.func11 rfl Tryz.call11 ?_
 refine aC (fun _ _ _ ZK=>(fun Za Zb=>(ZK 14 [(.agg [(di 0),dG]),Za] (.aN [(.agg [(di a.t),(.slc 7 a.es.length (bK a.es))]),(di 0)])∧ZK 14 [(.agg [(di a.t),(.slc 7 a.es.length (bK a.es))]),(.agg [(di 1),(ds (ByteArray.mk #[97,100,97])),(ds (ByteArray.mk #[102,105,98])),(di 1),(di 5),(di 1),(di 750),(ds (ByteArray.mk #[])),(db false)])] (.aN [Zb,(di 0)])∧ZK 14 [Zb,(.agg [(di 1),(ds (ByteArray.mk #[97,100,97])),(ds (ByteArray.mk #[102,105,98])),(di 1),(di 5),(di 1),(di 800),(ds (ByteArray.mk #[])),(db false)])] (.aN [(.agg [(di d.t),(.slc 7 d.es.length (bK d.es))]),(di 9)])∧ZK 14 [Zb,(.agg [(di 1),(ds (ByteArray.mk #[97,100,97])),(ds (ByteArray.mk #[102,105,98])),(di 1),(di 5),(di 2),(di 800),(ds (ByteArray.mk #[])),(db false)])] (.aN [(.agg [(di c.t),(.slc 7 c.es.length (bK c.es))]),(di 0)])∧ZK 38 [Za] (.aN [(ds s),(di 0)])∧((((0:Int)==(0:Int)&&(0:Int)==(0:Int)&&(9:Int)==(9:Int)&&(0:Int)==(0:Int)&&(↑(List.length (Bk.es c)):Int)==(1:Int))=true)→(((0:Int)≤(0:Int))∧(0<(↑c.es.length:Int))))∧((db ((0:Int)==(0:Int)&&(0:Int)==(0:Int)&&(9:Int)==(9:Int)&&(0:Int)==(0:Int)&&(↑(List.length (Bk.es c)):Int)==(1:Int)&&(↑(List.length (En.gs (List.getD (Bk.es c) (Int.toNat (0:Int)) en0))):Int)==(2:Int)&&(0:Int)==(0:Int)&&ByteArray.toList s==ByteArray.toList { data:=#[(49:UInt8),(58:UInt8),(48:UInt8),(51:UInt8),(58:UInt8),(97:UInt8),(100:UInt8),(97:UInt8),(51:UInt8),(58:UInt8),(102:UInt8),(105:UInt8),(98:UInt8),(49:UInt8),(58:UInt8),(49:UInt8),(49:UInt8),(58:UInt8),(51:UInt8),(49:UInt8),(58:UInt8),(48:UInt8),(49:UInt8),(58:UInt8),(48:UInt8),(48:UInt8),(58:UInt8),(49:UInt8),(58:UInt8),(48:UInt8)] })):DV)=(db (decide (s=ByteArray.mk #[49,58,48,51,58,97,100,97,51,58,102,105,98,49,58,49,49,58,51,49,58,48,49,58,48,48,58,49,58,48]))))) ((.agg [(di 0),(ds (ByteArray.mk #[97,100,97])),(ds (ByteArray.mk #[102,105,98])),(di 1),(di 3),(di 0),(di 0),(ds (ByteArray.mk #[])),(db false)]):DV) ((.agg [(di b.t),(.slc 7 b.es.length (bK b.es))]):DV)) (by kernel_rfl) ?_
 refine⟨h1,h2,h3,h4,h5,fun _=>⟨by decide,by omega⟩,congrArg db ?_⟩
 rw[show Int.toNat (0:Int)=0 from rfl,hc,hg,dJ]
 rfl
theorem uJ (n:Nat) (h:n<10):Lib.itoa (n:Int)=[UInt8.ofNat (48+n)]:=by
 rw[OM,Lib.decDigits,dif_pos h]
theorem Zy:encS Ah=⟨#[49,58,48,51,58,97,100,97,51,58,102,105,98,49,58,49,49,58,51,49,58,48,49,58,48,48,58,49,58,48]⟩∧og Ah=0:=by
 have f1:∀c,lQ ⟨#[c]⟩=[49,58,c]:=fun c=>by
  unfold lQ
  rw[show ((⟨#[c]⟩:ByteArray).size:Int)=((1:Nat):Int) from rfl,uJ 1 (by decide)];rfl
 have f3:∀a b c,lQ ⟨#[a,b,c]⟩=[51,58,a,b,c]:=fun a b c=>by
  unfold lQ
  rw[show ((⟨#[a,b,c]⟩:ByteArray).size:Int)=((3:Nat):Int) from rfl,uJ 3 (by decide)];rfl
 have f0:lQ ⟨#[]⟩=[48,58]:=by
  unfold lQ
  rw[show ((⟨#[]⟩:ByteArray).size:Int)=((0:Nat):Int) from rfl,uJ 0 (by decide)];rfl
 have e:iT Ah=[⟨#[48]⟩,⟨#[97,100,97]⟩,⟨#[102,105,98]⟩,⟨#[49]⟩,⟨#[51]⟩,⟨#[48]⟩,⟨#[48]⟩,⟨#[]⟩,⟨#[48]⟩]:=by
  unfold iT
  have e0:Lib.itoa 0=[48]:=uJ 0 (by decide)
  have e1:Lib.itoa 1=[49]:=uJ 1 (by decide)
  have e3:Lib.itoa 3=[51]:=uJ 3 (by decide)
  show [bs (Lib.itoa 0),_,_,bs (Lib.itoa 1),bs (Lib.itoa 3),bs (Lib.itoa 0),bs (Lib.itoa 0),_,_]=_
  rw[e0,e1,e3];rfl
 have p:bM (iT Ah)=[49,58,48,51,58,97,100,97,51,58,102,105,98,49,58,49,49,58,51,49,58,48,49,58,48,48,58,49,58,48]:=by
  rw[e]
  simp only[bM,f1,f3,f0];rfl
 have hb:jg (iT Ah)=false:=by
  unfold jg
  rw[p];rfl
 have ho:aG Ah=true:=by kernel_rfl
 unfold encS og fG fH
 rw[ho,hb,p]
 exact⟨rfl,rfl⟩
def U5:Bk:=gQ fA Ah
def H7:Bk:=gQ U5 (zZ 1 750)
theorem XG:tK aG fA Ah=0:=by
 unfold tK
 rw[if_pos ⟨ZN,by kernel_rfl⟩]
 kernel_rfl
theorem KN:tK aG U5 (zZ 1 750)=0:=by
 unfold tK
 rw[if_pos ⟨(Aw (fun _=>ny) XG).2.2.2,by kernel_rfl⟩]
 kernel_rfl
theorem adx:tK aG H7 (zZ 1 800)=9:=by
 unfold tK
 rw[if_pos ⟨(Aw (fun _=>ny) KN).2.2.2,by kernel_rfl⟩]
 kernel_rfl
theorem aa5:tK aG H7 (zZ 2 800)=0:=by
 unfold tK
 rw[if_pos ⟨(Aw (fun _=>ny) KN).2.2.2,by kernel_rfl⟩]
 kernel_rfl
theorem aa7 (e:Ev) (h1:e.k.st.size≤1000000) (h2:e.k.ex.size≤1000000):aA Tryz.prog G 14 [.agg [di 0,.con (.slice none 0 0)],ig e] (.aN [cu (wO aG fA e),di (tK aG fA e)]):=
 aA.args (f14 fA e (Fj ZN) h1 h2) fun k us hh=>DV.gU (fun v hv=>by
  obtain ⟨vs,rfl,v0,vs1,rfl,r0,v1,vs2,rfl,r1,r2⟩:=hv
  exact⟨_,rfl,_,_,rfl,r0,_,_,rfl,⟨none,0,r1,Nat.le_refl _,.inl rfl⟩,r2⟩) (fun _ h=>h) us hh
theorem f11 (hT:Tab G):aA Tryz.prog G 11 [] (db true):=by
 have a1:=aa7 (G:=G) Ah (by decide) (by decide)
 have a2:=f14 (G:=G) U5 (zZ 1 750) (Fj (Aw (fun _=>ny) XG).2.2.2) (by decide) (by decide)
 have a3:=f14 (G:=G) H7 (zZ 1 800) (Fj (Aw (fun _=>ny) KN).2.2.2) (by decide) (by decide)
 have a4:=f14 (G:=G) H7 (zZ 2 800) (Fj (Aw (fun _=>ny) KN).2.2.2) (by decide) (by decide)
 have a5:=f38 hT Ah (by decide) (by decide)
 rw[XG] at a1
 rw[KN] at a2
 rw[adx] at a3
 rw[aa5] at a4
 rw[Zy.2] at a5
 have b1:wO aG fA Ah=U5:=by unfold wO;rw[if_pos XG];rfl
 have b2:wO aG U5 (zZ 1 750)=H7:=by unfold wO;rw[if_pos KN];rfl
 have b4:wO aG H7 (zZ 2 800)=gQ H7 (zZ 2 800):=by unfold wO;rw[if_pos aa5]
 rw[b1] at a1
 rw[b2] at a2
 rw[b4] at a4
 have:=aex _ _ _ _ _ a1 a2 a3 a4 a5 (by kernel_rfl) (by kernel_rfl)
 rw[Zy.1] at this
 simpa using this
end Go.Proofs
