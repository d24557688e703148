import Derived.Test.YtflgdeobcgmgnaaGreatDoorAcD
import Derived.Test.YtflgdeobcgmgnaaGreatDoorG2
set_option autoImplicit false
set_option maxHeartbeats 4000000
set_option maxRecDepth 100000
namespace Go.Proofs
open Go Go.Ab Go.RowKit
variable {G:IH} {β:Nat→Nat} {V:Nat→Option Addr×Nat} {b:Bk} {w:World}
def grC (x:En) (e:Ev):Int:=if lowG x e.v=true then 9 else if 16≤x.gs.length then 8 else 0
def grX (x:En) (e:Ev):En:={ x with gs:=x.gs++[⟨e.v,e.h,e.t,e.s⟩] }
theorem BkIn.leN (h:BkIn G β V b w):G.le (IH.add G (Nest β b.es.length) w):=IH.add_le fun c ⟨s,_,h1,h2,h3⟩=>by rw[←h3];exact(h.unk s h1 h2).1
theorem BkIn.viewG (h:BkIn G β V b w) {i:Nat} (hi:i<b.es.length) (F:Fr):ViewF (IH.add G (Nest β b.es.length) w) F (.d (.con (sv V (2*i+2) (b.es.getD i en0).gs.length))) (.d (gvsD (b.es.getD i en0).gs)):=by
 intro β h1 v hG _ r
 have r:v=_:=r
 subst r
 exact DV.rel.mono hG _ _ (h.gs_rel h.leN (fun c hc o=>IH.add_in hc) hi)
theorem BkIn.viewA (h:BkIn G β V b w) {i:Nat} (hi:i<b.es.length) (F:Fr):ViewF (IH.add G (Nest β b.es.length) w) F (.d (.con (sv V (2*i+3) (b.es.getD i en0).aps.length))) (.d (alsD (b.es.getD i en0).aps)):=by
 intro β h1 v hG _ r
 have r:v=_:=r
 subst r
 exact DV.rel.mono hG _ _ (h.aps_rel h.leN (fun c hc o=>IH.add_in hc) hi)
def vw77 (l:List Gv):Nat→Option AV
 | 11=>some (.d (gvsD l))
 | 22=>some (.d (gvsD l))
 | _=>none
def R77 (G:IH) (β:Nat→Nat) (b:Bk) (i:Nat) (e:Ev) (w:World) (v:Value) (w':World):Prop:=PostB G β b (if grC (b.es.getD i en0) e=0 then ⟨b.t,b.es.set i (grX (b.es.getD i en0) e)⟩ else b) w (grC (b.es.getD i en0) e) v w'
theorem elem_rel {β:Nat→Nat} {V:Nat→Option Addr×Nat} {b:Bk} {w:World} {G:IH} (h:BkIn G β V b w) {i:Nat} (hi:i<b.es.length) (k:IH):(AV.elem 1000001 7 i 0).rel (f1 β b.es.length) k (.pointer (some ⟨blk β 1,i*7,none⟩)):=by
 obtain ⟨c1,c2,c3⟩:=f1_at (β:=β) b.es.length
 refine⟨by rw[c3];exact hi,?_,by rw[c1];rfl⟩
 rw[c2,c3];exact h.ent.row.1.1
theorem low_eq (x:En) (v:Int):(decide ((x.gs.length:Int)>0)&&decide (v≤(x.gs.getD ((x.gs.length:Int)-1).toNat gv0).v))=lowG x v:=by
 unfold lowG
 rcases List.eq_nil_or_concat x.gs with q|⟨l,g,q⟩
 ·rw[q];rfl
 ·rw[q]
  have e1:(((l.concat g).length:Int)-1).toNat=l.length:=by simp
  rw[e1]
  simp
noncomputable def S77 (b:Bk) (V:Nat→Option Addr×Nat) (e:Ev) (i:Nat):AS:=⟨regs Tryz.f77.ntmps [(2,.elem 1000001 7 i 0),(4,.box 4 0)],[b1 b V,(4,(evL e).map .d)]⟩
noncomputable def S77b (b:Bk) (V:Nat→Option Addr×Nat) (e:Ev) (i:Nat):AS:=⟨regs Tryz.f77.ntmps [(2,.elem 1000001 7 i 0),(4,.box 4 0)],[(1000002,[.arr gvK 4 (gvF (b.es.getD i en0).gs)]),b1 b V,(4,(evL e).map .d)]⟩
def vwB77 (m:Nat):Nat→Option AV
 | 37=>some (.vec 1000002 4 0 m)
 | _=>none
abbrev evGv (e:Ev):Gv:=⟨e.v,e.h,e.t,e.s⟩
abbrev gvA (l:List Gv) (e:Ev):Nat→DV:=fun j=>bif j.blt l.length then gvF l j else elemF true 4 (gvL (evGv e)) (0+(j-l.length))
noncomputable def S77c (b:Bk) (V:Nat→Option Addr×Nat) (e:Ev) (i:Nat):AS:=⟨regs Tryz.f77.ntmps [(48,.vec 48 4 0 ((b.es.getD i en0).gs.length+1)),(50,.elem 1000001 7 i 5)],[(48,[.arr gvK 4 (gvA (b.es.getD i en0).gs e)]),b1 b V]⟩
theorem viewVec {K:RK} {β2:Nat→Nat} {on2:Nat→Prop} {s m sz sz':Nat} {f:Nat→DV} {o:Option Obj} {v:Option Addr×Nat} (hva:VecAt G K sz' m f (blk β s) (room β s) (.slice v.1 m v.2) o) (n2:(0<room β s→blk β2 1000002=blk β s)∧room β2 1000002=room β s∧many β2 1000002=m):ViewF G ⟨on2,β2⟩ (.d (.con (.slice v.1 m v.2))) (.vec 1000002 sz 0 m):=by
 have hv:=hva.val
 have hmr:=hva.row.1.1
 intro β1 h1 u _ hf r
 have r:u=_:=r
 subst r
 obtain ⟨f1,f2,f3⟩:=hf 1000002 (by decide)
 obtain ⟨p,hp,hpp⟩:=hv
 simp only[Value.slice.injEq,true_and] at hp
 obtain ⟨e1,e2⟩:=hp
 refine⟨by rw[f3];show 0+m≤many β2 1000002;omega,?_,p,?_,?_⟩
 ·rw[f2,f3];show many β2 1000002≤room β2 1000002;omega
 ·rw[f2]
  show _=Value.slice p m (room β2 1000002-0)
  rw[n2.2.1,e1,e2];rfl
 ·rw[f1,f2]
  show p=some ⟨blk β2 1000002,0*sz,none⟩∨room β2 1000002≤0
  by_cases h0:0<room β s
  ·left
   rw[n2.1 h0,Nat.zero_mul];exact hpp.resolve_right (by omega)
  ·right;omega
theorem exF_gs {i:Nat} (hi:i<b.es.length) {x':En} {p:Option Addr×Nat} {m:Nat} (hm:x'.gs.length=m) (ha:x'.aps=(b.es.getD i en0).aps) (hk2:x'.k=(b.es.getD i en0).k) (ht:x'.t=(b.es.getD i en0).t) (hs:x'.s=(b.es.getD i en0).s) (j:Nat) :
  (bif j.beq i then .agg (List.take 5 (exL (b.es.getD i en0) (sv V (2*i+2) (b.es.getD i en0).gs.length) (sv V (2*i+3) (b.es.getD i en0).aps.length))++[.con (.slice p.1 m p.2)]++List.drop 6 (exL (b.es.getD i en0) (sv V (2*i+2) (b.es.getD i en0).gs.length) (sv V (2*i+3) (b.es.getD i en0).aps.length))) else exF V b.es j)=exF (putV V (2*i+2) p) (b.es.set i x') j:=by
 unfold exF
 by_cases c:j=i
 ·subst c
  rw[show j.beq j=true from by simp,cond_true,List.getD,List.getD,List.getElem?_set_self hi]
  show DV.agg (exL (b.es.getD j en0) _ _)=DV.agg (exL x' _ _)
  simp only[Option.getD_some,putV_eq,putV_ne _ (show 2*j+3≠2*j+2 by omega),hm,ha,hk2,ht,hs,exL]
  rfl
 ·rw[show j.beq i=false from by simpa [Bool.eq_false_iff] using c,cond_false,List.getD,List.getD,List.getElem?_set_ne (Ne.symm c)]
  rw[putV_ne _ (by omega),putV_ne _ (by omega)]
noncomputable def S77d (b:Bk) (f:Nat→DV) (x:En) (e:Ev):AS:=⟨regs Tryz.f77.ntmps [],[(1000003,[.arr gvK 4 (gvA x.gs e)]),(1000001,[.arr enK 7 f])]⟩
theorem gvA_at (x:En) (e:Ev) (j:Nat) (hj:j<(grX x e).gs.length):gvA x.gs e j=gvF (grX x e).gs j:=by
 have hj:j<(x.gs++[(⟨e.v,e.h,e.t,e.s⟩:Gv)]).length:=hj
 rw[len_snoc] at hj
 show (bif j.blt x.gs.length then gvF x.gs j else elemF true 4 (gvL (evGv e)) (0+(j-x.gs.length)))=gvF (x.gs++[⟨e.v,e.h,e.t,e.s⟩]) j
 unfold gvF
 by_cases c:j<x.gs.length
 ·rw[show j.blt x.gs.length=true from by rw[Nat.blt_eq];exact c,cond_true,getD_snoc c]
 ·obtain rfl:j=x.gs.length:=by omega
  rw[show x.gs.length.blt x.gs.length=false from by rw[Bool.eq_false_iff,ne_eq,Nat.blt_eq];omega,cond_false,Nat.sub_self,getD_last]
  rfl
theorem f77_C (h:BkIn G β V b w) {i:Nat} (hi:i<b.es.length) (e:Ev) (hgc:grC (b.es.getD i en0) e=0) {F:Fr} {w3:World} {h3:IH}
  (hkw:Kept (fun c=>onS β (2*i+2) c∨w.heap.size≤c) w w3) (hon:∀c,F.on c→onS β (2*i+2) c∨w.heap.size≤c) {p:Option Addr} {c bk:Nat} (hnew:0<c→(0<room β (2*i+2)∧bk=blk β (2*i+2))∨w.heap.size≤bk)
  (n1:blk F.β0 1000001=blk β 1∧room F.β0 1000001=room β 1∧many F.β0 1000001=b.es.length) (n3:blk F.β0 1000003=bk∧room F.β0 1000003=c∧(b.es.getD i en0).gs.length+1≤many F.β0 1000003) (hp:p=some ⟨bk,0,none⟩∨c=0)
  {f:Nat→DV} (hf:∀j,j<b.es.length→f j=exF (putV V (2*i+2) (p,c)) (b.es.set i (grX (b.es.getD i en0) e)) j) :
  AWPR Tryz.prog G F w3 h3 [cd Tryz.f77 [1,1,1,1]] (S77d b f (b.es.getD i en0) e) (RetR Tryz.prog Tryz.f77 (R77 G β b i e w)):=by
 refine walkRV (orc:={ d:=noO }) follows (fun _=>none) (cuts:=[]) (n:=1000) ?_
 refine of_eqH (b:=LeafR G F w3 h3 (RetR Tryz.prog Tryz.f77 (R77 G β b i e w)) .ret ⟨regs 51 [(6,(vi 0))],[(1000003,[(.arr ⟨true,42,false,none⟩ 4 (gvA (b.es.getD i en0).gs e))]),(1000001,[(.arr ⟨true,39,false,none⟩ 7 f)])]⟩) (by kernel_rfl) ?_
 refine LeafR.ret rfl rfl fun β1 k tm w' v g1 hv=>?_
 have hv:v=.int .i64 0:=hv
 subst hv
 unfold R77
 rw[hgc,if_pos rfl]
 refine h.putE hi (.inl rfl) g1 hkw hon hnew n1 rfl hf (fun _=>?_) (fun hk=>h.put_ap hi hk rfl) 0
 have hl:(grX (b.es.getD i en0) e).gs.length=(b.es.getD i en0).gs.length+1:=len_snoc _ _
 rw[blk_upd,room_upd,putV_eq]
 exact gamVecAt g1 (e:=1000003) (by decide) n3.1 n3.2.1 (by rw[hl];exact n3.2.2) rfl rfl (fun j=>gvF_flat _ j) (gvA_at _ e) hp
theorem f77_B (h:BkIn G β V b w) {i:Nat} (hi:i<b.es.length) (hs:SzB b.es) (e:Ev) (hgc:grC (b.es.getD i en0) e=0) {β2:Nat→Nat} {on2:Nat→Prop} {w1:World} (n1:blk β2 1000001=blk β 1∧room β2 1000001=room β 1∧many β2 1000001=b.es.length) (n2:(0<room β (2*i+2)→blk β2 1000002=blk β (2*i+2))∧room β2 1000002=room β (2*i+2)∧many β2 1000002=(b.es.getD i en0).gs.length)
  (hon2:∀c,on2 c→on1 β c∨(0<room β (2*i+2)∧c=blk β (2*i+2))∨w.heap.size≤c) (hk1:Kept (on1 β) w w1) :
  AWPR Tryz.prog G ⟨on2,β2⟩ w1 G [cd Tryz.f77 [1,1,1]] (S77b b V e i) (RetR Tryz.prog Tryz.f77 (R77 G β b i e w)):=by
 have hsi:=hs.2 i hi
 refine AWPR.seq (a:=cAt (bodyOf Tryz.f77) [1,1,1,0]) (b:=cAt (bodyOf Tryz.f77) [1,1,1,1]) (by kernel_rfl) ?_
 refine AWPR.tail (orc:={ d:=noO,rows:=fun n=>Nat.beq n 47 }) follows (vwB77 (b.es.getD i en0).gs.length) 18 (by kernel_rfl) ?_
 refine of_eqH (b:=((ViewF G (Fr.mk on2 β2) (.d (.con (.slice (V (2*i+2)).fst (b.es.getD i en0).gs.length (V (2*i+2)).snd))) (.vec 1000002 4 0 (b.es.getD i en0).gs.length)∧(((b.es.getD i en0).gs.length+1)*40≤1099511627776)∧((b.es.getD i en0).gs.length+1≤1099511627776))∧LeafR G (Fr.mk on2 β2) w1 G (seqQ Tryz.prog (opsOf (cAt (bodyOf Tryz.f77) [1,1,1,0])).toList 18 ((opsOf (cAt (bodyOf Tryz.f77) [1,1,1,0])).toList.length-18) (wpS Tryz.prog [It.code (cAt (bodyOf Tryz.f77) [1,1,1,1])] (RetR Tryz.prog Tryz.f77 (R77 G β b i e w)))) .normal ⟨regs 51 [(2,(.elem 1000001 7 i 0)),(4,(.box 4 0)),(33,(.elem 1000001 7 i 0)),(34,(.elem 1000001 7 i 0)),(35,(.elem 1000001 7 i 0)),(36,(.elem 1000001 7 i 5)),(37,(.vec 1000002 4 0 (b.es.getD i en0).gs.length)),(38,(.box 4 5)),(39,(vi e.v)),(40,(.box 4 6)),(41,(vi e.h)),(42,(.box 4 4)),(43,(vi e.t)),(44,(.box 4 7)),(45,(vs e.s)),(46,(.d (.agg [(di e.v),(di e.h),(di e.t),(ds e.s)]))),(47,(.vec 47 4 0 1)),(48,(.vec 48 4 0 ((b.es.getD i en0).gs.length+1))),(49,(.elem 1000001 7 i 0)),(50,(.elem 1000001 7 i 5))],[(48,[(.arr ⟨true,42,false,none⟩ 4 (fun i_1=>bif i_1.blt (b.es.getD i en0).gs.length then gvF (b.es.getD i en0).gs i_1 else elemF true 4 [di e.v,di e.h,di e.t,ds e.s] (0+(i_1-(b.es.getD i en0).gs.length))))]),(47,[(.arr ⟨true,42,false,none⟩ 4 (elemF true 4 [(di e.v),(di e.h),(di e.t),(ds e.s)]))]),(1000002,[.dead]),(1000001,[(.arr ⟨true,39,false,none⟩ 7 (exF V b.es))]),(4,[(vi e.kind),(vs e.k.st),(vs e.k.ex),(vi e.k.n),(vi e.t),(vi e.v),(vi e.h),(vs e.s),(vb e.acc)])]⟩)) (by kernel_rfl) ?_
 have hsi1:=hsi.1
 refine⟨⟨viewVec (h.gr i hi) n2,by omega,by omega⟩,?_⟩
 intro β3 h3 a3 w3 g3 hd3
 have g4:=g3.weaken (st':=S77c b V e i) (by refine AS.leZ [] [] (b:=((T0∧T0∧True)∧T0∧T0∧True)) (by kernel_rfl) (by kernel_rfl) ?_;exact⟨⟨rfl,rfl,trivial⟩,rfl,rfl,trivial⟩)
 obtain ⟨p,hpv,hp,hm,g5⟩:=g4.shift (q:=48) (m:=(b.es.getD i en0).gs.length+1) (e:=1000003) (on:=fun c=>∃s l,Go.Ab.look [(48,[AV.arr gvK 4 (gvA (b.es.getD i en0).gs e)]),b1 b V] s=some l∧Live β3 s l∧blk β3 s=c) (by kernel_rfl) (by kernel_rfl) (by kernel_rfl) (by kernel_rfl) fun s l q1 q2=>⟨s,l,q1,q2,rfl⟩
 show wpOps _ _ _ (List.range' 18 ((opsOf (cAt (bodyOf Tryz.f77) [1,1,1,0])).toList.length-18)) _ _
 rw[show (opsOf (cAt (bodyOf Tryz.f77) [1,1,1,0])).toList.length-18=1+0 from by kernel_rfl]
 refine(SeqR.tree (orc:={ d:=noO }) ?_:SeqR Tryz.prog G _ w3 h3 (opsOf (cAt (bodyOf Tryz.f77) [1,1,1,0])).toList 18 (1+0) _ _) _ _ _ _ g5 hd3
 refine of_eqH1 (exL (b.es.getD i en0) (sv V (2*i+2) (b.es.getD i en0).gs.length) (sv V (2*i+3) (b.es.getD i en0).aps.length)) (fun Za=>LeafR G (Fr.mk (fun c=>∃s l,Ab.look [(48,[AV.arr gvK 4 (gvA (b.es.getD i en0).gs e)]),b1 b V] s=some l∧Live β3 s l∧blk β3 s=c) (upd β3 1000003 (blk β3 48) (room β3 48) (many β3 48))) w3 h3 (seqQ Tryz.prog (opsOf (cAt (bodyOf Tryz.f77) [1,1,1,0])).toList (18+1) 0 (wpS Tryz.prog [It.code (cAt (bodyOf Tryz.f77) [1,1,1,1])] (RetR Tryz.prog Tryz.f77 (R77 G β b i e w)))) .normal ⟨regs 51 [(48,(.d (.con (.slice p ((b.es.getD i en0).gs.length+1) (β3 (3*48+1)))))),(50,(.elem 1000001 7 i 5))],[(1000003,[(.arr ⟨true,42,false,none⟩ 4 (gvA (b.es.getD i en0).gs e))]),(1000001,[(.arr ⟨true,39,false,none⟩ 7 (fun j=>bif j.beq i then DV.agg (List.take 5 Za++[DV.con (Value.slice p ((b.es.getD i en0).gs.length+1) (β3 (3*48+1)))]++List.drop (5+1) Za) else exF V b.es j))])]⟩) (by kernel_rfl) ?_
 refine LeafR.seq_done ?_
 refine AWPR.weaken (st':=S77d b (fun j=>bif j.beq i then .agg (List.take 5 (exL (b.es.getD i en0) (sv V (2*i+2) (b.es.getD i en0).gs.length) (sv V (2*i+3) (b.es.getD i en0).aps.length))++[.con (.slice p ((b.es.getD i en0).gs.length+1) (room β3 48))]++List.drop 6 (exL (b.es.getD i en0) (sv V (2*i+2) (b.es.getD i en0).gs.length) (sv V (2*i+3) (b.es.getD i en0).aps.length))) else exF V b.es j) (b.es.getD i en0) e) ?_ ?_
 ·exact AS.leA (by kernel_rfl)
 have hl48:Go.Ab.look [(48,[AV.arr gvK 4 (gvA (b.es.getD i en0).gs e)]),b1 b V] 48=some [.arr gvK 4 (gvA (b.es.getD i en0).gs e)]:=rfl
 have hl1:Go.Ab.look [(48,[AV.arr gvK 4 (gvA (b.es.getD i en0).gs e)]),b1 b V] 1000001=some [.arr enK 7 (exF V b.es)]:=rfl
 have hw1:=hk1.size
 have hlk:∀s l,Go.Ab.look [(48,[AV.arr gvK 4 (gvA (b.es.getD i en0).gs e)]),b1 b V] s=some l→Live β3 s l→onS β (2*i+2) (blk β3 s)∨w.heap.size≤blk β3 s:=fun s l q1 q2=>by
  rcases ((g4.box s l q1).1 q2).1 with q|q
  ·rcases hon2 _ q with q|q|q
   ·exact .inl (.inl q)
   ·exact .inl (.inr q)
   ·exact .inr q
  ·exact .inr (by omega)
 obtain ⟨f1,f2,f3⟩:=g4.fix 1000001 (by decide)
 refine f77_C h hi e hgc (p:=p) (c:=room β3 48) (bk:=blk β3 48) ((hk1.mono fun c hc=>.inl (.inl hc)).trans (g3.kept.mono fun c hc=>?_)) (fun c hc=>?_) (fun hc=>?_) ⟨?_,?_,?_⟩ ⟨?_,?_,?_⟩ hp ?_
 ·rcases hon2 _ hc with q|q|q
  ·exact .inl (.inl q)
  ·exact .inl (.inr q)
  ·exact .inr q
 ·obtain ⟨s,l,q1,q2,rfl⟩:=hc
  exact hlk s l q1 q2
 ·have hlive:Live β3 48 [.arr gvK 4 (gvA (b.es.getD i en0).gs e)]:=hc
  rcases hlk 48 _ hl48 hlive with (q|q)|q
  ·exfalso
   obtain ⟨q1,q2⟩:=q
   have hl:Live β3 1000001 [.arr enK 7 (exF V b.es)]:=by
    show 0<room β3 1000001
    rw[f2];show 0<room β2 1000001
    rw[n1.2.1];exact q1
   have:=g4.inj 48 1000001 _ _ hl48 hl1 hlive hl (by rw[f1];show _=blk β2 1000001;rw[n1.1];exact q2)
   exact absurd this (by decide)
  ·exact .inl q
  ·exact .inr q
 ·show blk (upd β3 1000003 _ _ _) 1000001=_
  rw[blk_other (by decide),f1];exact n1.1
 ·show room (upd β3 1000003 _ _ _) 1000001=_
  rw[room_other (by decide),f2];exact n1.2.1
 ·show many (upd β3 1000003 _ _ _) 1000001=_
  rw[many_other (by decide),f3];exact n1.2.2
 ·show blk (upd β3 1000003 _ _ _) 1000003=_
  rw[blk_upd]
 ·show room (upd β3 1000003 _ _ _) 1000003=_
  rw[room_upd]
 ·show _≤many (upd β3 1000003 _ _ _) 1000003
  rw[many_upd];exact hm
 ·intro j hj
  exact exF_gs (x':=grX (b.es.getD i en0) e) (p:=(p,room β3 48)) hi (len_snoc _ _) rfl rfl rfl rfl j
theorem f77_W (h:BkIn G β V b w) {i:Nat} (hi:i<b.es.length) (hs:SzB b.es) (e:Ev) {ev y:Value} (he:DV.rel G (evD e) ev) :
  Calls Tryz.prog 77 #[y,ev,.pointer (some ⟨blk β 1,i*7,none⟩)] w fun r w'=>∃v,r=.returned v∧R77 G β b i e w v w':=by
 have hev:(AV.d (evD e)).rel (f1 β b.es.length) (IH.add G (Nest β b.es.length) w) ev:=DV.flat_rel _ _ rfl he
 have g:=h.gam1 rfl (rs:=[.any,.d (evD e),.elem 1000001 7 i 0]) (us:=#[y,ev,.pointer (some ⟨blk β 1,i*7,none⟩)]) rfl (args3 (rs:=[]) trivial hev (elem_rel h hi _))
 have hsi:=hs.2 i hi
 refine Calls.of_R Tryz.func77 rfl g ?_
 refine walkRV (orc:={ d:=noO }) follows (vw77 (b.es.getD i en0).gs) (cuts:=[6]) (n:=1000) ?_
 refine of_eqH9 (↑(b.es.getD i en0).gs.length:Int) (vi (↑(b.es.getD i en0).gs.length)) ((.d (.slc 4 (b.es.getD i en0).gs.length (gvF (b.es.getD i en0).gs))):AV) ((.d (.agg [(di e.kind),(ds e.k.st),(ds e.k.ex),(di e.k.n),(di e.t),(di e.v),(di e.h),(ds e.s),(db e.acc)])):AV) (IH.add G (Nest β b.es.length) w) (Fr.mk (on1 β) (f1 β b.es.length)) ((.arr ⟨true,39,false,none⟩ 7 (exF V b.es)):AV) ((.d (.con (.slice (V (2*i+2)).fst (b.es.getD i en0).gs.length (V (2*i+2)).snd))):AV) (RetR Tryz.prog Tryz.f77 (R77 G β b i e w)) (fun Za Zb Zc Zd Ze Zf Zg Zh Zi=>(ViewF Ze Zf Zh Zc∧(ViewF Ze Zf Zh Zc∧(((decide (Za>0))=true)→(I64 (↑(b.es.getD i en0).gs.length-1)))∧(((decide (Za>0))=true)→((0≤Za-1)∧(Za-1<↑(b.es.getD i en0).gs.length))))∧(((decide (Za>0)&&decide (e.v≤((b.es.getD i en0).gs.getD (Za-1).toNat gv0).v))=true)→LeafR Ze Zf w Ze Zi .ret ⟨regs 51 [(1,Zd),(2,(.elem 1000001 7 i 0)),(4,(.box 4 0)),(6,(vi 9)),(7,Zb),(8,(.elem 1000001 7 i 0)),(9,(.elem 1000001 7 i 0)),(10,(.elem 1000001 7 i 5)),(11,Zc),(12,Zb),(13,(vb (decide (Za>0)&&decide (e.v≤((b.es.getD i en0).gs.getD (Za-1).toNat gv0).v)))),(14,Zb),(15,(vb (decide (Za>0)))),(16,(vb (decide (Za>0)))),(29,(vb (decide (Za>0)&&decide (e.v≤((b.es.getD i en0).gs.getD (Za-1).toNat gv0).v))))],[(4,[(vi e.kind),(vs e.k.st),(vs e.k.ex),(vi e.k.n),(vi e.t),(vi e.v),(vi e.h),(vs e.s),(vb e.acc)]),(1000001,[Zg])]⟩)∧(((decide (Za>0)&&decide (e.v≤((b.es.getD i en0).gs.getD (Za-1).toNat gv0).v))=false)→((((decide (Za≥16))=true)→LeafR Ze Zf w Ze Zi .ret ⟨regs 51 [(1,Zd),(2,(.elem 1000001 7 i 0)),(4,(.box 4 0)),(6,(vi 8)),(7,Zb),(8,(.elem 1000001 7 i 0)),(9,(.elem 1000001 7 i 0)),(10,(.elem 1000001 7 i 5)),(11,Zc),(12,Zb),(13,(vb (decide (Za>0)&&decide (e.v≤((b.es.getD i en0).gs.getD (Za-1).toNat gv0).v)))),(14,Zb),(15,(vb (decide (Za>0)))),(16,(vb (decide (Za>0)))),(29,(vb (decide (Za>0)&&decide (e.v≤((b.es.getD i en0).gs.getD (Za-1).toNat gv0).v)))),(30,(vb (decide (Za≥16)))),(31,Zb),(32,(vb (decide (Za≥16))))],[(4,[(vi e.kind),(vs e.k.st),(vs e.k.ex),(vi e.k.n),(vi e.t),(vi e.v),(vi e.h),(vs e.s),(vb e.acc)]),(1000001,[Zg])]⟩)∧(((decide (Za≥16))=false)→AWPR Tryz.prog Ze Zf w Ze [cd Tryz.f77 [1,1,1]] ⟨regs 51 [(1,Zd),(2,(.elem 1000001 7 i 0)),(4,(.box 4 0)),(6,(vi 0)),(7,Zb),(8,(.elem 1000001 7 i 0)),(9,(.elem 1000001 7 i 0)),(10,(.elem 1000001 7 i 5)),(11,Zc),(12,Zb),(13,(vb (decide (Za>0)&&decide (e.v≤((b.es.getD i en0).gs.getD (Za-1).toNat gv0).v)))),(14,Zb),(15,(vb (decide (Za>0)))),(16,(vb (decide (Za>0)))),(29,(vb (decide (Za>0)&&decide (e.v≤((b.es.getD i en0).gs.getD (Za-1).toNat gv0).v)))),(30,(vb (decide (Za≥16)))),(31,Zb),(32,(vb (decide (Za≥16))))],[(4,[(vi e.kind),(vs e.k.st),(vs e.k.ex),(vi e.k.n),(vi e.t),(vi e.v),(vi e.h),(vs e.s),(vb e.acc)]),(1000001,[Zg])]⟩ Zi))))) (by kernel_rfl) ?_
 try dsimp only
 have hlow:(decide (((b.es.getD i en0).gs.length:Int)>0)&&decide (e.v≤((b.es.getD i en0).gs.getD (((b.es.getD i en0).gs.length:Int)-1).toNat gv0).v))=lowG (b.es.getD i en0) e.v:=low_eq _ _
 rw[hlow]
 have hleaf:∀(code:Int) (st:AS),grC (b.es.getD i en0) e=code→code≠0→resVars Tryz.prog st Tryz.f77.results.toList=some [.d (di code)]→st.box 1000001=some [.arr enK 7 (exF V b.es)]→LeafR (IH.add G (Nest β b.es.length) w) ⟨on1 β,f1 β b.es.length⟩ w (IH.add G (Nest β b.es.length) w) (RetR Tryz.prog Tryz.f77 (R77 G β b i e w)) .ret st:=by
  intro code st hc h0 hr hb
  refine LeafR.ret rfl hr fun β1 k tm w' v g1 hv=>?_
  have hv:v=.int .i64 code:=hv
  subst hv
  obtain ⟨q1,_,q2⟩:=h.back1 (fun _ hc=>hc) g1 h.leN (f1_at b.es.length) hb
  unfold R77
  rw[hc,if_neg h0]
  exact h.same q1 q2 code
 refine⟨h.viewG hi _,⟨h.viewG hi _,fun c=>?_,fun c=>?_⟩,fun c=>?_,fun c=>⟨fun c2=>?_,fun c2=>?_⟩⟩
 ·have:=of_decide_eq_true c;have:=hsi.1;exact⟨by omega,by omega⟩
 ·have:=of_decide_eq_true c;exact⟨by omega,by omega⟩
 ·refine hleaf 9 _ (by unfold grC;rw[if_pos c]) (by decide) rfl rfl
 ·refine hleaf 8 _ (by unfold grC;rw[if_neg (by rw[c];decide),if_pos (by have:=of_decide_eq_true c2;omega)]) (by decide) rfl rfl
 have hgc:grC (b.es.getD i en0) e=0:=by unfold grC;rw[if_neg (by rw[c];decide),if_neg (by have:=of_decide_eq_false c2;omega)]
 refine AWPR.weaken (st':=S77 b V e i) ?_ ?_
 ·exact AS.leA (by kernel_rfl)
 intro β1 h1 a w1 g1 hd
 obtain ⟨β2,on2,n1,n2,g2,hon2,hk1,hGw⟩:=h.toB rfl (s:=2*i+2) (by omega) (by omega) (h.gr i hi) g1 (by kernel_rfl) (fun t l hl=>by
  have hl:t=4∧l=(evL e).map .d:=by
   simp only[Go.Ab.look] at hl
   by_cases e2:(4:Nat)=t
   ·subst e2;simp at hl;exact⟨rfl,hl.symm⟩
   ·rw[beq_ne e2,cond_false] at hl;cases hl
  rw[hl.2];rfl) (by kernel_rfl) (by kernel_rfl)
 exact f77_B h hi hs e hgc n1 n2 hon2 hk1 β2 G a w1 g2 hd
def vw99 (l:List Al):Nat→Option AV
 | 7=>some (.d (alsD l))
 | 15=>some (.d (alsD l))
 | _=>none
theorem BkIn.viewAG (h:BkIn G β V b w) {i:Nat} (hi:i<b.es.length):ViewG (IH.add G (Nest β b.es.length) w) (.d (.con (sv V (2*i+3) (b.es.getD i en0).aps.length))) (.d (alsD (b.es.getD i en0).aps)):=by
 intro β h1 v hG r
 have r:v=_:=r
 subst r
 exact DV.rel.mono hG _ _ (h.aps_rel h.leN (fun c hc o=>IH.add_in hc) hi)
theorem open_eq (x:En):(decide ((x.aps.length:Int)>0)&&!(x.aps.getD ((x.aps.length:Int)-1).toNat al0).dec)=openA x:=by
 unfold openA
 rcases List.eq_nil_or_concat x.aps with q|⟨l,g,q⟩
 ·rw[q];rfl
 ·rw[q]
  have e1:(((l.concat g).length:Int)-1).toNat=l.length:=by simp
  rw[e1]
  simp
theorem f99_k (h:BkIn G β V b w) {i:Nat} (hi:i<b.es.length) (hs:SzB b.es):FnM Tryz.prog (IH.add G (Nest β b.es.length) w) 99 [.elem 1000000 7 i 0] [(1000000,[.arr enK 7 (exF V b.es)])] (.d (db (openA (b.es.getD i en0)))) [(1000000,[.arr enK 7 (exF V b.es)])]:=by
 refine FnM.of_body (mv:=[]) (by kernel_rfl) Tryz.func99 rfl Tryz.call99 ?_
 refine walkV (orc:={ d:=noO }) follows (vw99 (b.es.getD i en0).aps) (cuts:=[6]) (n:=1000) ?_
 refine of_tr (fun _ _ _ _=>(fun (Za:Int) Zb=>(ViewG (IH.add G (Nest β b.es.length) w) Zb (.d (.slc 6 (b.es.getD i en0).aps.length (alF (b.es.getD i en0).aps)))∧(ViewG (IH.add G (Nest β b.es.length) w) Zb (.d (.slc 6 (b.es.getD i en0).aps.length (alF (b.es.getD i en0).aps)))∧(((decide (Za>0))=true)→(I64 (↑(b.es.getD i en0).aps.length-1)))∧(((decide (Za>0))=true)→((0≤Za-1)∧(Za-1<↑(b.es.getD i en0).aps.length))))∧((vb (decide (Za>0)&&!((b.es.getD i en0).aps.getD (Za-1).toNat al0).dec)):AV)=(vb (openA (b.es.getD i en0)))∧((some [(.arr ⟨true,39,false,none⟩ 7 (exF V b.es))]):(Option (List AV)))=(some [(.arr ⟨true,39,false,none⟩ 7 (exF V b.es))])∧True)) (↑(b.es.getD i en0).aps.length:Int) ((.d (.con (.slice (V (2*i+3)).fst (b.es.getD i en0).aps.length (V (2*i+3)).snd))):AV)) (by kernel_rfl) ?_
 try dsimp only
 have hsi:=(hs.2 i hi).2
 refine⟨h.viewAG hi,⟨h.viewAG hi,fun c=>?_,fun c=>?_⟩,?_,rfl,trivial⟩
 ·have:=of_decide_eq_true c;exact⟨by omega,by omega⟩
 ·have:=of_decide_eq_true c;exact⟨by omega,by omega⟩
 ·rw[open_eq]
def orc99 (o:Bool):Orc:={ d:=noO,m:=fun f _ pre=>bif Nat.beq f 99 then some (.d (db o),pre) else none,ro:=Nat.beq 99 }
def vw78 (l:List Gv) (m:List Al):Nat→Option AV
 | 11=>some (.d (gvsD l))
 | 22=>some (.d (alsD m))
 | _=>none
def apC1 (x:En):Int:=if x.gs.length=0∨openA x=true then 9 else if 16≤x.aps.length then 8 else 0
def apX (x:En) (e:Ev):En:=⟨x.k,x.t,x.s,x.gs,x.aps++[⟨e.t,e.s,false,false,0,.empty⟩]⟩
def R78 (G:IH) (β:Nat→Nat) (b:Bk) (i:Nat) (e:Ev) (w:World) (v:Value) (w':World):Prop:=PostB G β b (if apC1 (b.es.getD i en0)=0 then ⟨b.t,b.es.set i (apX (b.es.getD i en0) e)⟩ else b) w (apC1 (b.es.getD i en0)) v w'
noncomputable def S78 (b:Bk) (V:Nat→Option Addr×Nat) (e:Ev) (i:Nat):AS:=⟨regs Tryz.f78.ntmps [(2,.elem 1000001 7 i 0),(4,.box 4 0)],[b1 b V,(4,(evL e).map .d)]⟩
noncomputable def S78b (b:Bk) (V:Nat→Option Addr×Nat) (i:Nat) (e:Ev):AS:=⟨regs Tryz.f78.ntmps [(2,.elem 1000001 7 i 0),(4,.box 4 0)],[(1000002,[.arr alK 6 (alF (b.es.getD i en0).aps)]),b1 b V,(4,(evL e).map .d)]⟩
def vwB78 (m:Nat):Nat→Option AV
 | 29=>some (.vec 1000002 6 0 m)
 | _=>none
abbrev evAl (e:Ev):Al:=⟨e.t,e.s,false,false,0,.empty⟩
abbrev alA (l:List Al) (e:Ev):Nat→DV:=fun j=>bif j.blt l.length then alF l j else elemF true 6 (alL (evAl e)) (0+(j-l.length))
noncomputable def S78c (b:Bk) (V:Nat→Option Addr×Nat) (e:Ev) (i:Nat):AS:=⟨regs Tryz.f78.ntmps [(36,.vec 36 6 0 ((b.es.getD i en0).aps.length+1)),(38,.elem 1000001 7 i 6)],[(36,[.arr alK 6 (alA (b.es.getD i en0).aps e)]),b1 b V]⟩
theorem exF_as {i:Nat} (hi:i<b.es.length) {x':En} {p:Option Addr×Nat} {m:Nat} (hm:x'.aps.length=m) (hg:x'.gs=(b.es.getD i en0).gs) (hk2:x'.k=(b.es.getD i en0).k) (ht:x'.t=(b.es.getD i en0).t) (hs:x'.s=(b.es.getD i en0).s) (j:Nat) :
  (bif j.beq i then .agg (List.take 6 (exL (b.es.getD i en0) (sv V (2*i+2) (b.es.getD i en0).gs.length) (sv V (2*i+3) (b.es.getD i en0).aps.length))++[.con (.slice p.1 m p.2)]++List.drop 7 (exL (b.es.getD i en0) (sv V (2*i+2) (b.es.getD i en0).gs.length) (sv V (2*i+3) (b.es.getD i en0).aps.length))) else exF V b.es j)=exF (putV V (2*i+3) p) (b.es.set i x') j:=by
 unfold exF
 by_cases c:j=i
 ·subst c
  rw[show j.beq j=true from by simp,cond_true,List.getD,List.getD,List.getElem?_set_self hi]
  show DV.agg (exL (b.es.getD j en0) _ _)=DV.agg (exL x' _ _)
  simp only[Option.getD_some,putV_eq,putV_ne _ (show 2*j+2≠2*j+3 by omega),hm,hg,hk2,ht,hs,exL]
  rfl
 ·rw[show j.beq i=false from by simpa [Bool.eq_false_iff] using c,cond_false,List.getD,List.getD,List.getElem?_set_ne (Ne.symm c)]
  rw[putV_ne _ (by omega),putV_ne _ (by omega)]
noncomputable def S78d (b:Bk) (f:Nat→DV) (x:En) (e:Ev):AS:=⟨regs Tryz.f78.ntmps [],[(1000003,[.arr alK 6 (alA x.aps e)]),(1000001,[.arr enK 7 f])]⟩
theorem alA_at (x:En) (e:Ev) (j:Nat) (hj:j<(apX x e).aps.length):alA x.aps e j=alF (apX x e).aps j:=by
 have hj:j<(x.aps++[evAl e]).length:=hj
 rw[len_snoc] at hj
 show (bif j.blt x.aps.length then alF x.aps j else elemF true 6 (alL (evAl e)) (0+(j-x.aps.length)))=alF (x.aps++[evAl e]) j
 unfold alF
 by_cases c:j<x.aps.length
 ·rw[show j.blt x.aps.length=true from by rw[Nat.blt_eq];exact c,cond_true,getD_snoc c]
 ·obtain rfl:j=x.aps.length:=by omega
  rw[show x.aps.length.blt x.aps.length=false from by rw[Bool.eq_false_iff,ne_eq,Nat.blt_eq];omega,cond_false,Nat.sub_self,getD_last]
  rfl
theorem f78_C (h:BkIn G β V b w) {i:Nat} (hi:i<b.es.length) (e:Ev) (hgc:apC1 (b.es.getD i en0)=0) {F:Fr} {w3:World} {h3:IH}
  (hkw:Kept (fun c=>onS β (2*i+3) c∨w.heap.size≤c) w w3) (hon:∀c,F.on c→onS β (2*i+3) c∨w.heap.size≤c) {p:Option Addr} {c bk:Nat} (hnew:0<c→(0<room β (2*i+3)∧bk=blk β (2*i+3))∨w.heap.size≤bk)
  (n1:blk F.β0 1000001=blk β 1∧room F.β0 1000001=room β 1∧many F.β0 1000001=b.es.length) (n3:blk F.β0 1000003=bk∧room F.β0 1000003=c∧(b.es.getD i en0).aps.length+1≤many F.β0 1000003) (hp:p=some ⟨bk,0,none⟩∨c=0)
  {f:Nat→DV} (hf:∀j,j<b.es.length→f j=exF (putV V (2*i+3) (p,c)) (b.es.set i (apX (b.es.getD i en0) e)) j) :
  AWPR Tryz.prog G F w3 h3 [cd Tryz.f78 [1,1,1]] (S78d b f (b.es.getD i en0) e) (RetR Tryz.prog Tryz.f78 (R78 G β b i e w)):=by
 refine walkRV (orc:={ d:=noO }) follows (fun _=>none) (cuts:=[]) (n:=1000) ?_
 refine of_eqH (b:=LeafR G F w3 h3 (RetR Tryz.prog Tryz.f78 (R78 G β b i e w)) .ret ⟨regs 39 [(6,(vi 0))],[(1000003,[(.arr ⟨true,44,false,none⟩ 6 (alA (b.es.getD i en0).aps e))]),(1000001,[(.arr ⟨true,39,false,none⟩ 7 f)])]⟩) (by kernel_rfl) ?_
 refine LeafR.ret rfl rfl fun β1 k tm w' v g1 hv=>?_
 have hv:v=.int .i64 0:=hv
 subst hv
 unfold R78
 rw[hgc,if_pos rfl]
 refine h.putE hi (.inr rfl) g1 hkw hon hnew n1 rfl hf (fun hk=>h.put_gr hi hk rfl) (fun _=>?_) 0
 have hl:(apX (b.es.getD i en0) e).aps.length=(b.es.getD i en0).aps.length+1:=len_snoc _ _
 rw[blk_upd,room_upd,putV_eq]
 exact gamVecAt g1 (e:=1000003) (by decide) n3.1 n3.2.1 (by rw[hl];exact n3.2.2) rfl rfl (fun j=>alF_flat _ j) (alA_at _ e) hp
theorem f78_B (h:BkIn G β V b w) {i:Nat} (hi:i<b.es.length) (hs:SzB b.es) (e:Ev) (hgc:apC1 (b.es.getD i en0)=0) {β2:Nat→Nat} {on2:Nat→Prop} {w1:World} (n1:blk β2 1000001=blk β 1∧room β2 1000001=room β 1∧many β2 1000001=b.es.length) (n2:(0<room β (2*i+3)→blk β2 1000002=blk β (2*i+3))∧room β2 1000002=room β (2*i+3)∧many β2 1000002=(b.es.getD i en0).aps.length)
  (hon2:∀c,on2 c→on1 β c∨(0<room β (2*i+3)∧c=blk β (2*i+3))∨w.heap.size≤c) (hk1:Kept (on1 β) w w1) :
  AWPR Tryz.prog G ⟨on2,β2⟩ w1 G [cd Tryz.f78 [1,1]] (S78b b V i e) (RetR Tryz.prog Tryz.f78 (R78 G β b i e w)):=by
 have hsi:=hs.2 i hi
 refine AWPR.seq (a:=cAt (bodyOf Tryz.f78) [1,1,0]) (b:=cAt (bodyOf Tryz.f78) [1,1,1]) (by kernel_rfl) ?_
 refine AWPR.tail (orc:={ d:=noO,rows:=fun n=>Nat.beq n 35 }) follows (vwB78 (b.es.getD i en0).aps.length) 14 (by kernel_rfl) ?_
 refine of_eqH (b:=((ViewF G (Fr.mk on2 β2) (.d (.con (.slice (V (2*i+3)).fst (b.es.getD i en0).aps.length (V (2*i+3)).snd))) (.vec 1000002 6 0 (b.es.getD i en0).aps.length)∧(((b.es.getD i en0).aps.length+1)*56≤1099511627776)∧((b.es.getD i en0).aps.length+1≤1099511627776))∧LeafR G (Fr.mk on2 β2) w1 G (seqQ Tryz.prog (opsOf (cAt (bodyOf Tryz.f78) [1,1,0])).toList 14 ((opsOf (cAt (bodyOf Tryz.f78) [1,1,0])).toList.length-14) (wpS Tryz.prog [It.code (cAt (bodyOf Tryz.f78) [1,1,1])] (RetR Tryz.prog Tryz.f78 (R78 G β b i e w)))) .normal ⟨regs 39 [(2,(.elem 1000001 7 i 0)),(4,(.box 4 0)),(25,(.elem 1000001 7 i 0)),(26,(.elem 1000001 7 i 0)),(27,(.elem 1000001 7 i 0)),(28,(.elem 1000001 7 i 6)),(29,(.vec 1000002 6 0 (b.es.getD i en0).aps.length)),(30,(.box 4 4)),(31,(vi e.t)),(32,(.box 4 7)),(33,(vs e.s)),(34,(.d (.agg [(di e.t),(ds e.s),(db false),(db false),(di 0),(ds (ByteArray.mk #[]))]))),(35,(.vec 35 6 0 1)),(36,(.vec 36 6 0 ((b.es.getD i en0).aps.length+1))),(37,(.elem 1000001 7 i 0)),(38,(.elem 1000001 7 i 6))],[(36,[(.arr ⟨true,44,false,none⟩ 6 (fun i_1=>bif i_1.blt (b.es.getD i en0).aps.length then alF (b.es.getD i en0).aps i_1 else elemF true 6 [di e.t,ds e.s,DV.con (Value.bool false),DV.con (Value.bool false),di 0,ds (ByteArray.mk #[])] (0+(i_1-(b.es.getD i en0).aps.length))))]),(35,[(.arr ⟨true,44,false,none⟩ 6 (elemF true 6 [(di e.t),(ds e.s),(db false),(db false),(di 0),(ds (ByteArray.mk #[]))]))]),(1000002,[.dead]),(1000001,[(.arr ⟨true,39,false,none⟩ 7 (exF V b.es))]),(4,[(vi e.kind),(vs e.k.st),(vs e.k.ex),(vi e.k.n),(vi e.t),(vi e.v),(vi e.h),(vs e.s),(vb e.acc)])]⟩)) (by kernel_rfl) ?_
 have hsi1:=hsi.2
 refine⟨⟨viewVec (h.ap i hi) n2,by omega,by omega⟩,?_⟩
 intro β3 h3 a3 w3 g3 hd3
 have g4:=g3.weaken (st':=S78c b V e i) (by refine AS.leZ [] [0] (b:=((T0∧T0∧True)∧((some [(.arr ⟨true,44,false,none⟩ 6 (fun i_1=>bif i_1.blt (b.es.getD i en0).aps.length then alF (b.es.getD i en0).aps i_1 else elemF true 6 [di e.t,ds e.s,DV.con (Value.bool false),DV.con (Value.bool false),di 0,ds (ByteArray.mk #[])] (0+(i_1-(b.es.getD i en0).aps.length))))]):(Option (List AV)))=(some [(.arr ⟨true,44,false,none⟩ 6 (alA (b.es.getD i en0).aps e))])∧T0∧True)) (by kernel_rfl) (by kernel_rfl) ?_;exact⟨⟨rfl,rfl,trivial⟩,rfl,rfl,trivial⟩)
 obtain ⟨p,hpv,hp,hm,g5⟩:=g4.shift (q:=36) (m:=(b.es.getD i en0).aps.length+1) (e:=1000003) (on:=fun c=>∃s l,Go.Ab.look [(36,[AV.arr alK 6 (alA (b.es.getD i en0).aps e)]),b1 b V] s=some l∧Live β3 s l∧blk β3 s=c) (by kernel_rfl) (by kernel_rfl) (by kernel_rfl) (by kernel_rfl) fun s l q1 q2=>⟨s,l,q1,q2,rfl⟩
 show wpOps _ _ _ (List.range' 14 ((opsOf (cAt (bodyOf Tryz.f78) [1,1,0])).toList.length-14)) _ _
 rw[show (opsOf (cAt (bodyOf Tryz.f78) [1,1,0])).toList.length-14=1+0 from by kernel_rfl]
 refine(SeqR.tree (orc:={ d:=noO }) ?_:SeqR Tryz.prog G _ w3 h3 (opsOf (cAt (bodyOf Tryz.f78) [1,1,0])).toList 14 (1+0) _ _) _ _ _ _ g5 hd3
 refine of_eqH1 (exL (b.es.getD i en0) (sv V (2*i+2) (b.es.getD i en0).gs.length) (sv V (2*i+3) (b.es.getD i en0).aps.length)) (fun Za=>LeafR G (Fr.mk (fun c=>∃s l,Ab.look [(36,[AV.arr alK 6 (alA (b.es.getD i en0).aps e)]),b1 b V] s=some l∧Live β3 s l∧blk β3 s=c) (upd β3 1000003 (blk β3 36) (room β3 36) (many β3 36))) w3 h3 (seqQ Tryz.prog (opsOf (cAt (bodyOf Tryz.f78) [1,1,0])).toList (14+1) 0 (wpS Tryz.prog [It.code (cAt (bodyOf Tryz.f78) [1,1,1])] (RetR Tryz.prog Tryz.f78 (R78 G β b i e w)))) .normal ⟨regs 39 [(36,(.d (.con (.slice p ((b.es.getD i en0).aps.length+1) (β3 (3*36+1)))))),(38,(.elem 1000001 7 i 6))],[(1000003,[(.arr ⟨true,44,false,none⟩ 6 (alA (b.es.getD i en0).aps e))]),(1000001,[(.arr ⟨true,39,false,none⟩ 7 (fun j=>bif j.beq i then DV.agg (List.take 6 Za++[DV.con (Value.slice p ((b.es.getD i en0).aps.length+1) (β3 (3*36+1)))]++List.drop (6+1) Za) else exF V b.es j))])]⟩) (by kernel_rfl) ?_
 refine LeafR.seq_done ?_
 refine AWPR.weaken (st':=S78d b (fun j=>bif j.beq i then .agg (List.take 6 (exL (b.es.getD i en0) (sv V (2*i+2) (b.es.getD i en0).gs.length) (sv V (2*i+3) (b.es.getD i en0).aps.length))++[.con (.slice p ((b.es.getD i en0).aps.length+1) (room β3 36))]++List.drop 7 (exL (b.es.getD i en0) (sv V (2*i+2) (b.es.getD i en0).gs.length) (sv V (2*i+3) (b.es.getD i en0).aps.length))) else exF V b.es j) (b.es.getD i en0) e) ?_ ?_
 ·exact AS.leA (by kernel_rfl)
 have hl36:Go.Ab.look [(36,[AV.arr alK 6 (alA (b.es.getD i en0).aps e)]),b1 b V] 36=some [.arr alK 6 (alA (b.es.getD i en0).aps e)]:=rfl
 have hl1:Go.Ab.look [(36,[AV.arr alK 6 (alA (b.es.getD i en0).aps e)]),b1 b V] 1000001=some [.arr enK 7 (exF V b.es)]:=rfl
 have hw1:=hk1.size
 have hlk:∀s l,Go.Ab.look [(36,[AV.arr alK 6 (alA (b.es.getD i en0).aps e)]),b1 b V] s=some l→Live β3 s l→onS β (2*i+3) (blk β3 s)∨w.heap.size≤blk β3 s:=fun s l q1 q2=>by
  rcases ((g4.box s l q1).1 q2).1 with q|q
  ·rcases hon2 _ q with q|q|q
   ·exact .inl (.inl q)
   ·exact .inl (.inr q)
   ·exact .inr q
  ·exact .inr (by omega)
 obtain ⟨f1,f2,f3⟩:=g4.fix 1000001 (by decide)
 refine f78_C h hi e hgc (p:=p) (c:=room β3 36) (bk:=blk β3 36) ((hk1.mono fun c hc=>.inl (.inl hc)).trans (g3.kept.mono fun c hc=>?_)) (fun c hc=>?_) (fun hc=>?_) ⟨?_,?_,?_⟩ ⟨?_,?_,?_⟩ hp ?_
 ·rcases hon2 _ hc with q|q|q
  ·exact .inl (.inl q)
  ·exact .inl (.inr q)
  ·exact .inr q
 ·obtain ⟨s,l,q1,q2,rfl⟩:=hc
  exact hlk s l q1 q2
 ·have hlive:Live β3 36 [.arr alK 6 (alA (b.es.getD i en0).aps e)]:=hc
  rcases hlk 36 _ hl36 hlive with (q|q)|q
  ·exfalso
   obtain ⟨q1,q2⟩:=q
   have hl:Live β3 1000001 [.arr enK 7 (exF V b.es)]:=by
    show 0<room β3 1000001
    rw[f2];show 0<room β2 1000001
    rw[n1.2.1];exact q1
   have:=g4.inj 36 1000001 _ _ hl36 hl1 hlive hl (by rw[f1];show _=blk β2 1000001;rw[n1.1];exact q2)
   exact absurd this (by decide)
  ·exact .inl q
  ·exact .inr q
 ·show blk (upd β3 1000003 _ _ _) 1000001=_
  rw[blk_other (by decide),f1];exact n1.1
 ·show room (upd β3 1000003 _ _ _) 1000001=_
  rw[room_other (by decide),f2];exact n1.2.1
 ·show many (upd β3 1000003 _ _ _) 1000001=_
  rw[many_other (by decide),f3];exact n1.2.2
 ·show blk (upd β3 1000003 _ _ _) 1000003=_
  rw[blk_upd]
 ·show room (upd β3 1000003 _ _ _) 1000003=_
  rw[room_upd]
 ·show _≤many (upd β3 1000003 _ _ _) 1000003
  rw[many_upd];exact hm
 ·intro j hj
  exact exF_as (x':=apX (b.es.getD i en0) e) (p:=(p,room β3 36)) hi (len_snoc _ _) rfl rfl rfl rfl j
theorem f78_W (h:BkIn G β V b w) {i:Nat} (hi:i<b.es.length) (hs:SzB b.es) (e:Ev) {ev y:Value} (he:DV.rel G (evD e) ev) :
  Calls Tryz.prog 78 #[y,ev,.pointer (some ⟨blk β 1,i*7,none⟩)] w fun r w'=>∃v,r=.returned v∧R78 G β b i e w v w':=by
 have hev:(AV.d (evD e)).rel (f1 β b.es.length) (IH.add G (Nest β b.es.length) w) ev:=DV.flat_rel _ _ rfl he
 have g:=h.gam1 rfl (rs:=[.any,.d (evD e),.elem 1000001 7 i 0]) (us:=#[y,ev,.pointer (some ⟨blk β 1,i*7,none⟩)]) rfl (args3 (rs:=[]) trivial hev (elem_rel h hi _))
 have hsi:=hs.2 i hi
 refine Calls.of_R Tryz.func78 rfl g ?_
 refine walkRV (orc:=orc99 (openA (b.es.getD i en0))) follows (vw78 (b.es.getD i en0).gs (b.es.getD i en0).aps) (cuts:=[5]) (n:=1000) ?_
 refine of_eqH9 (↑(b.es.getD i en0).gs.length:Int) ((.arr ⟨true,39,false,none⟩ 7 (exF V b.es)):AV) (decide ((↑(b.es.getD i en0).aps.length:Int)≥16)) (IH.add G (Nest β b.es.length) w) ((.d (.agg [(di e.kind),(ds e.k.st),(ds e.k.ex),(di e.k.n),(di e.t),(di e.v),(di e.h),(ds e.s),(db e.acc)])):AV) ((.d (.slc 4 (b.es.getD i en0).gs.length (gvF (b.es.getD i en0).gs))):AV) (Fr.mk (on1 β) (f1 β b.es.length)) ((.d (.slc 6 (b.es.getD i en0).aps.length (alF (b.es.getD i en0).aps))):AV) (RetR Tryz.prog Tryz.f78 (R78 G β b i e w)) (fun Za Zb Zc Zd Ze Zf Zg Zh Zi=>((ViewF Zd Zg (.d (.con (.slice (V (2*i+2)).fst (b.es.getD i en0).gs.length (V (2*i+2)).snd))) Zf∧(((!Za==0)=true)→FnM Tryz.prog Zd 99 [(.elem 1000000 7 i 0)] [(1000000,[Zb])] (vb (openA (b.es.getD i en0))) [(1000000,[Zb])])∧(((!Za==0)=true)→(([Zb]:(List AV))=[Zb])))∧(((Za==0||openA (b.es.getD i en0))=true)→LeafR Zd Zg w Zd Zi .ret ⟨regs 39 [(1,Ze),(2,(.elem 1000001 7 i 0)),(4,(.box 4 0)),(6,(vi 9)),(7,(vb (Za==0||openA (b.es.getD i en0)))),(8,(.elem 1000001 7 i 0)),(9,(.elem 1000001 7 i 0)),(10,(.elem 1000001 7 i 5)),(11,Zf),(12,(vi (↑(b.es.getD i en0).gs.length))),(13,(vb (Za==0))),(14,(vb (Za==0))),(17,(vb (Za==0||openA (b.es.getD i en0))))],[(4,[(vi e.kind),(vs e.k.st),(vs e.k.ex),(vi e.k.n),(vi e.t),(vi e.v),(vi e.h),(vs e.s),(vb e.acc)]),(1000001,[Zb])]⟩)∧(((Za==0||openA (b.es.getD i en0))=false)→(ViewF Zd Zg (.d (.con (.slice (V (2*i+3)).fst (b.es.getD i en0).aps.length (V (2*i+3)).snd))) Zh∧((Zc=true)→LeafR Zd Zg w Zd Zi .ret ⟨regs 39 [(1,Ze),(2,(.elem 1000001 7 i 0)),(4,(.box 4 0)),(6,(vi 8)),(7,(vb (Za==0||openA (b.es.getD i en0)))),(8,(.elem 1000001 7 i 0)),(9,(.elem 1000001 7 i 0)),(10,(.elem 1000001 7 i 5)),(11,Zf),(12,(vi (↑(b.es.getD i en0).gs.length))),(13,(vb (Za==0))),(14,(vb (Za==0))),(17,(vb (Za==0||openA (b.es.getD i en0)))),(18,(vb Zc)),(19,(.elem 1000001 7 i 0)),(20,(.elem 1000001 7 i 0)),(21,(.elem 1000001 7 i 6)),(22,Zh),(23,(vi (↑(b.es.getD i en0).aps.length))),(24,(vb Zc))],[(4,[(vi e.kind),(vs e.k.st),(vs e.k.ex),(vi e.k.n),(vi e.t),(vi e.v),(vi e.h),(vs e.s),(vb e.acc)]),(1000001,[Zb])]⟩)∧((Zc=false)→AWPR Tryz.prog Zd Zg w Zd [cd Tryz.f78 [1,1]] ⟨regs 39 [(1,Ze),(2,(.elem 1000001 7 i 0)),(4,(.box 4 0)),(6,(vi 0)),(7,(vb (Za==0||openA (b.es.getD i en0)))),(8,(.elem 1000001 7 i 0)),(9,(.elem 1000001 7 i 0)),(10,(.elem 1000001 7 i 5)),(11,Zf),(12,(vi (↑(b.es.getD i en0).gs.length))),(13,(vb (Za==0))),(14,(vb (Za==0))),(17,(vb (Za==0||openA (b.es.getD i en0)))),(18,(vb Zc)),(19,(.elem 1000001 7 i 0)),(20,(.elem 1000001 7 i 0)),(21,(.elem 1000001 7 i 6)),(22,Zh),(23,(vi (↑(b.es.getD i en0).aps.length))),(24,(vb Zc))],[(4,[(vi e.kind),(vs e.k.st),(vs e.k.ex),(vi e.k.n),(vi e.t),(vi e.v),(vi e.h),(vs e.s),(vb e.acc)]),(1000001,[Zb])]⟩ Zi))))) (by kernel_rfl) ?_
 try dsimp only
 have hleaf:∀(code:Int) (st:AS),apC1 (b.es.getD i en0)=code→code≠0→resVars Tryz.prog st Tryz.f78.results.toList=some [.d (di code)]→st.box 1000001=some [.arr enK 7 (exF V b.es)]→LeafR (IH.add G (Nest β b.es.length) w) ⟨on1 β,f1 β b.es.length⟩ w (IH.add G (Nest β b.es.length) w) (RetR Tryz.prog Tryz.f78 (R78 G β b i e w)) .ret st:=by
  intro code st hc h0 hr hb
  refine LeafR.ret rfl hr fun β1 k tm w' v g1 hv=>?_
  have hv:v=.int .i64 code:=hv
  subst hv
  obtain ⟨q1,_,q2⟩:=h.back1 (fun _ hc=>hc) g1 h.leN (f1_at b.es.length) hb
  unfold R78
  rw[hc,if_neg h0]
  exact h.same q1 q2 code
 have hb9:((((b.es.getD i en0).gs.length:Int)==0||openA (b.es.getD i en0))=true)↔((b.es.getD i en0).gs.length=0∨openA (b.es.getD i en0)=true):=by
  rw[Bool.or_eq_true,beq_iff_eq];exact or_congr ⟨fun q=>by omega,fun q=>by omega⟩ Iff.rfl
 refine⟨⟨h.viewG hi _,fun _=>f99_k h hi hs,fun _=>rfl⟩,fun c=>?_,fun c=>⟨h.viewA hi _,fun c2=>?_,fun c2=>?_⟩⟩
 ·refine hleaf 9 _ (by unfold apC1;rw[if_pos (hb9.1 c)]) (by decide) rfl rfl
 ·refine hleaf 8 _ (by unfold apC1;rw[if_neg (fun q=>by rw[hb9.2 q] at c;cases c),if_pos (by have:=of_decide_eq_true c2;omega)]) (by decide) rfl rfl
 have hgc:apC1 (b.es.getD i en0)=0:=by unfold apC1;rw[if_neg (fun q=>by rw[hb9.2 q] at c;cases c),if_neg (by have:=of_decide_eq_false c2;omega)]
 refine AWPR.weaken (st':=S78 b V e i) ?_ ?_
 ·exact AS.leA (by kernel_rfl)
 intro β1 h1 a w1 g1 hd
 obtain ⟨β2,on2,n1,n2,g2,hon2,hk1,hGw⟩:=h.toB rfl (s:=2*i+3) (by omega) (by omega) (h.ap i hi) g1 (by kernel_rfl) (fun t l hl=>by
  have hl:t=4∧l=(evL e).map .d:=by
   simp only[Go.Ab.look] at hl
   by_cases e2:(4:Nat)=t
   ·subst e2;simp at hl;exact⟨rfl,hl.symm⟩
   ·rw[beq_ne e2,cond_false] at hl;cases hl
  rw[hl.2];rfl) (by kernel_rfl) (by kernel_rfl)
 exact f78_B h hi hs e hgc n1 n2 hon2 hk1 β2 G a w1 g2 hd
def deC (x:En):Int:=if openA x=true then 0 else 9
def deX (x:En) (e:Ev):En:=⟨x.k,x.t,x.s,x.gs,x.aps.dropLast++(x.aps.getLast?.toList.map fun a=>{ a with dec:=true,acc:=e.acc,at_:=e.t,ans:=e.s })⟩
def R79 (G:IH) (β:Nat→Nat) (b:Bk) (i:Nat) (e:Ev) (w:World) (v:Value) (w':World):Prop:=PostB G β b (if deC (b.es.getD i en0)=0 then ⟨b.t,b.es.set i (deX (b.es.getD i en0) e)⟩ else b) w (deC (b.es.getD i en0)) v w'
def vwB79 (m:Nat):Nat→Option AV
 | 14=>some (.vec 1000002 6 0 m)
 | 18=>some (.vec 1000002 6 0 m)
 | _=>none
noncomputable def S79 (b:Bk) (V:Nat→Option Addr×Nat) (e:Ev) (i:Nat):AS:=⟨regs Tryz.f79.ntmps [(2,.elem 1000001 7 i 0),(4,.box 4 0)],[b1 b V,(4,(evL e).map .d)]⟩
noncomputable def S79b (b:Bk) (V:Nat→Option Addr×Nat) (e:Ev) (i:Nat):AS:=⟨regs Tryz.f79.ntmps [(2,.elem 1000001 7 i 0),(4,.box 4 0)],[(1000002,[.arr alK 6 (alF (b.es.getD i en0).aps)]),b1 b V,(4,(evL e).map .d)]⟩
abbrev updA (a:Al) (e:Ev):Al:=⟨a.t,a.s,true,e.acc,e.t,e.s⟩
theorem deX_at {x:En} {m:Nat} (h:x.aps.length=m+1) (e:Ev):(deX x e).aps.length=m+1∧∀j,j<m+1→(deX x e).aps.getD j al0=if j=m then updA (x.aps.getD m al0) e else x.aps.getD j al0:=by
 unfold deX
 rcases List.eq_nil_or_concat x.aps with q|⟨l,g,q⟩
 ·rw[q] at h;cases h
 ·rw[q] at h⊢
  have hl:l.length=m:=by simpa using h
  subst hl
  simp only[List.concat_eq_append,List.dropLast_concat,List.getLast?_append,List.getLast?_singleton,Option.some_or,Option.toList_some,List.map_cons,List.map_nil]
  refine⟨len_snoc _ _,fun j hj=>?_⟩
  by_cases c:j=l.length
  ·subst c;rw[if_pos rfl,getD_last,getD_last]
  ·rw[if_neg c,getD_snoc (by omega),getD_snoc (by omega)]
theorem f79_leaf (h:BkIn G β V b w) {i:Nat} (hi:i<b.es.length) (e:Ev) (hgc:deC (b.es.getD i en0)=0) {m:Nat} (hm:(b.es.getD i en0).aps.length=m+1) {β2:Nat→Nat} {on2:Nat→Prop} {w1:World} (n1:blk β2 1000001=blk β 1∧room β2 1000001=room β 1∧many β2 1000001=b.es.length) (n2:(0<room β (2*i+3)→blk β2 1000002=blk β (2*i+3))∧room β2 1000002=room β (2*i+3)∧many β2 1000002=(b.es.getD i en0).aps.length)
  (hon2:∀c,on2 c→on1 β c∨(0<room β (2*i+3)∧c=blk β (2*i+3))∨w.heap.size≤c) (hk1:Kept (on1 β) w w1) {st:AS} (hr:resVars Tryz.prog st Tryz.f79.results.toList=some [.d (di 0)]) (h1:st.box 1000001=some [.arr enK 7 (exF V b.es)]) {f:Nat→DV} (h2:st.box 1000002=some [.arr alK 6 f])
  (hfm:f m=.agg (alL (updA ((b.es.getD i en0).aps.getD m al0) e))) (hf:∀j,Nat.beq j m=false→f j=alF (b.es.getD i en0).aps j) :
  LeafR G ⟨on2,β2⟩ w1 G (RetR Tryz.prog Tryz.f79 (R79 G β b i e w)) .ret st:=by
 obtain ⟨hl,hat⟩:=deX_at hm e
 have hcap:V (2*i+3)=((V (2*i+3)).1,room β (2*i+3)):=by
  obtain ⟨p,hp,_⟩:=(h.ap i hi).val
  simp only[Value.slice.injEq,true_and] at hp
  rw[←hp.2]
 have hpp:(V (2*i+3)).1=some ⟨blk β2 1000002,0,none⟩∨room β (2*i+3)=0:=by
  obtain ⟨p,hp,hq⟩:=(h.ap i hi).val
  simp only[Value.slice.injEq,true_and] at hp
  by_cases h0:0<room β (2*i+3)
  ·left;rw[hp.1,n2.1 h0];exact hq.resolve_right (by omega)
  ·right;omega
 refine LeafR.ret rfl hr fun β1 k tm w' v g1 hv=>?_
 have hv:v=.int .i64 0:=hv
 subst hv
 unfold R79
 rw[hgc,if_pos rfl]
 have hput:∀t n,sv (putV V (2*i+3) ((V (2*i+3)).1,room β (2*i+3))) t n=sv V t n:=fun t n=>by
  by_cases c:t=2*i+3
  ·subst c;rw[putV_eq,←hcap]
  ·rw[putV_ne _ c]
 refine h.putE hi (x':=deX (b.es.getD i en0) e) (p:=(V (2*i+3)).1) (c:=room β (2*i+3)) (bk:=blk β2 1000002) (.inr rfl) g1 (hk1.mono fun c hc=>.inl (.inl hc)) (fun c hc=>?_) (fun h0=>.inl ⟨h0,n2.1 h0⟩) n1 h1 (fun j hj=>?_) (fun hk=>h.put_gr hi hk rfl) (fun _=>?_) 0
 ·rcases hon2 _ hc with q|q|q
  ·exact .inl (.inl q)
  ·exact .inl (.inr q)
  ·exact .inr q
 ·unfold exF
  by_cases c:j=i
  ·subst c
   have ex:(b.es.set j (deX (b.es.getD j en0) e)).getD j en0=deX (b.es.getD j en0) e:=by rw[List.getD,List.getElem?_set_self hi];rfl
   rw[ex,hput,hput,hl,←hm]
   rfl
  ·rw[List.getD,List.getD,List.getElem?_set_ne (Ne.symm c)]
   simp only[hput]
 ·rw[blk_upd,room_upd,putV_eq]
  refine gamVecAt g1 (e:=1000002) (by decide) rfl n2.2.1 (by rw[hl];show m+1≤many β2 1000002;rw[n2.2.2,hm];exact Nat.le_refl _) h2 rfl (fun j=>alF_flat _ j) (fun j hj=>?_) hpp
  rw[hl] at hj
  show f j=.agg (alL ((deX (b.es.getD i en0) e).aps.getD j al0))
  rw[hat j hj]
  by_cases c:j=m
  ·subst c;rw[if_pos rfl];exact hfm
  ·rw[if_neg c];exact hf j (beq_ne c)
abbrev s1D (a:Al):List DV:=List.take 2 (alL a)++[.con (.bool true)]++List.drop 3 (alL a)
abbrev s2D (a:Al) (e:Ev):List DV:=List.take 3 (s1D a)++[.con (.bool e.acc)]++List.drop 4 (s1D a)
abbrev s3D (a:Al) (e:Ev):List DV:=List.take 4 (s2D a e)++[.con (.int .i64 e.t)]++List.drop 5 (s2D a e)
abbrev s4D (a:Al) (e:Ev):List DV:=List.take 5 (s3D a e)++[.con (.string e.s)]++List.drop 6 (s3D a e)
def gD (l:List Al) (e:Ev) (m j:Nat):DV:=bif j.beq m then .agg (s4D (l.getD m al0) e) else bif j.beq m then .agg (s3D (l.getD m al0) e) else bif j.beq m then .agg (s2D (l.getD m al0) e) else bif j.beq m then .agg (s1D (l.getD m al0)) else alF l j
theorem gD_at {l:List Al} {e:Ev} {m:Nat}:gD l e m m=.agg (alL (updA (l.getD m al0) e)):=by
 unfold gD
 rw[show m.beq m=true from Nat.beq_refl m]
 rfl
theorem gD_ne {l:List Al} {e:Ev} {m j:Nat} (h:j≠m):gD l e m j=alF l j:=by
 unfold gD
 rw[show j.beq m=false from beq_ne h]
 rfl
noncomputable def S79d (b:Bk) (V:Nat→Option Addr×Nat) (e:Ev) (i m:Nat):AS:=⟨regs Tryz.f79.ntmps [(2,.elem 1000001 7 i 0),(4,.box 4 0),(6,vi 0),(7,.elem 1000002 6 m 0),(11,.elem 1000001 7 i 0),(12,.elem 1000001 7 i 0),(13,.elem 1000001 7 i 6),(14,.vec 1000002 6 0 (m+1)),(15,.elem 1000001 7 i 0),(16,.elem 1000001 7 i 0),(17,.elem 1000001 7 i 6),(18,.vec 1000002 6 0 (m+1)),(19,vi ((m+1:Nat):Int)),(20,vi m),(21,.elem 1000002 6 m 0),(22,.elem 1000002 6 m 0),(23,.elem 1000002 6 m 0),(24,.elem 1000002 6 m 0),(25,.elem 1000002 6 m 0),(26,.box 4 8),(27,vb e.acc),(28,.box 4 4),(29,vi e.t),(30,.box 4 7),(31,vs e.s),(32,.elem 1000002 6 m 0),(33,.elem 1000002 6 m 2),(34,.elem 1000002 6 m 0),(35,.elem 1000002 6 m 3),(36,.elem 1000002 6 m 0),(37,.elem 1000002 6 m 4),(38,.elem 1000002 6 m 0),(39,.elem 1000002 6 m 5)],[(1000002,[.arr alK 6 fun j=>gD (b.es.getD i en0).aps e m j]),b1 b V,(4,(evL e).map .d)]⟩
def N79 (b:Bk) (V:Nat→Option Addr×Nat) (e:Ev) (i:Nat) (G:IH) (F:Fr) (w1:World) (R:Exit→Act→World→Prop) (m:Nat):Prop:=(ViewF G F (.d (.con (sv V (2*i+3) (b.es.getD i en0).aps.length))) (.vec 1000002 6 0 (m+1))∧ViewF G F (.d (.con (sv V (2*i+3) (b.es.getD i en0).aps.length))) (.vec 1000002 6 0 (m+1))∧I64 (((m+1:Nat):Int)-1)∧(0≤((m+1:Nat):Int)-1)∧(((m+1:Nat):Int)-1<((m+1:Nat):Int)))∧LeafR G F w1 G R .ret (S79d b V e i m)
theorem f79_B (h:BkIn G β V b w) {i:Nat} (hi:i<b.es.length) (e:Ev) (hgc:deC (b.es.getD i en0)=0) {m:Nat} (hm:(b.es.getD i en0).aps.length=m+1) (hm16:m<16) {β2:Nat→Nat} {on2:Nat→Prop} {w1:World} (n1:blk β2 1000001=blk β 1∧room β2 1000001=room β 1∧many β2 1000001=b.es.length) (n2:(0<room β (2*i+3)→blk β2 1000002=blk β (2*i+3))∧room β2 1000002=room β (2*i+3)∧many β2 1000002=(b.es.getD i en0).aps.length)
  (hon2:∀c,on2 c→on1 β c∨(0<room β (2*i+3)∧c=blk β (2*i+3))∨w.heap.size≤c) (hk1:Kept (on1 β) w w1) :
  AWPR Tryz.prog G ⟨on2,β2⟩ w1 G [cd Tryz.f79 [1,1]] (S79b b V e i) (RetR Tryz.prog Tryz.f79 (R79 G β b i e w)):=by
 have hvw:=viewVec (G:=G) (on2:=on2) (sz:=6) (h.ap i hi) n2
 rw[hm] at hvw
 have hN:N79 b V e i G ⟨on2,β2⟩ w1 (RetR Tryz.prog Tryz.f79 (R79 G β b i e w)) m:=⟨⟨by rw[hm];exact hvw,by rw[hm];exact hvw,⟨by omega,by omega⟩,by omega,by omega⟩,f79_leaf h hi e hgc hm n1 n2 hon2 hk1 rfl rfl rfl gD_at fun j hj=>gD_ne (Nat.ne_of_beq_eq_false hj)⟩
 have h16:m=0∨m=1∨m=2∨m=3∨m=4∨m=5∨m=6∨m=7∨m=8∨m=9∨m=10∨m=11∨m=12∨m=13∨m=14∨m=15:=by omega
 refine walkRV (orc:={ d:=noO }) follows (vwB79 (m+1)) (cuts:=[]) (n:=1000) ?_
 refine of_eqH1 m (N79 b V e i G ⟨on2,β2⟩ w1 (RetR Tryz.prog Tryz.f79 (R79 G β b i e w))) ?_ hN
 clear hN hvw hm16 hm
 rcases h16 with rfl|rfl|rfl|rfl|rfl|rfl|rfl|rfl|rfl|rfl|rfl|rfl|rfl|rfl|rfl|rfl<;>kernel_rfl
theorem f79_W (h:BkIn G β V b w) {i:Nat} (hi:i<b.es.length) (hs:SzB b.es) (hb:bndE (b.es.getD i en0)=true) (e:Ev) {ev y:Value} (he:DV.rel G (evD e) ev) :
  Calls Tryz.prog 79 #[y,ev,.pointer (some ⟨blk β 1,i*7,none⟩)] w fun r w'=>∃v,r=.returned v∧R79 G β b i e w v w':=by
 have hev:(AV.d (evD e)).rel (f1 β b.es.length) (IH.add G (Nest β b.es.length) w) ev:=DV.flat_rel _ _ rfl he
 have g:=h.gam1 rfl (rs:=[.any,.d (evD e),.elem 1000001 7 i 0]) (us:=#[y,ev,.pointer (some ⟨blk β 1,i*7,none⟩)]) rfl (args3 (rs:=[]) trivial hev (elem_rel h hi _))
 refine Calls.of_R Tryz.func79 rfl g ?_
 refine walkRV (orc:=orc99 (openA (b.es.getD i en0))) follows (fun _=>none) (cuts:=[3]) (n:=1000) ?_
 refine of_eqH3 ((.arr ⟨true,39,false,none⟩ 7 (exF V b.es)):AV) (IH.add G (Nest β b.es.length) w) ((.d (.agg [(di e.kind),(ds e.k.st),(ds e.k.ex),(di e.k.n),(di e.t),(di e.v),(di e.h),(ds e.s),(db e.acc)])):AV) (fun Za Zb Zc=>((FnM Tryz.prog Zb 99 [(.elem 1000000 7 i 0)] [(1000000,[Za])] (vb (openA (b.es.getD i en0))) [(1000000,[Za])]∧([Za]:(List AV))=[Za])∧(((!openA (b.es.getD i en0))=true)→LeafR Zb (Fr.mk (on1 β) (f1 β b.es.length)) w Zb (RetR Tryz.prog Tryz.f79 (R79 G β b i e w)) .ret ⟨regs 40 [(1,Zc),(2,(.elem 1000001 7 i 0)),(4,(.box 4 0)),(6,(vi 9)),(8,(.elem 1000001 7 i 0)),(9,(vb (openA (b.es.getD i en0)))),(10,(vb (!openA (b.es.getD i en0))))],[(4,[(vi e.kind),(vs e.k.st),(vs e.k.ex),(vi e.k.n),(vi e.t),(vi e.v),(vi e.h),(vs e.s),(vb e.acc)]),(1000001,[Za])]⟩)∧(((!openA (b.es.getD i en0))=false)→AWPR Tryz.prog Zb (Fr.mk (on1 β) (f1 β b.es.length)) w Zb [cd Tryz.f79 [1,1]] ⟨regs 40 [(1,Zc),(2,(.elem 1000001 7 i 0)),(4,(.box 4 0)),(6,(vi 0)),(8,(.elem 1000001 7 i 0)),(9,(vb (openA (b.es.getD i en0)))),(10,(vb (!openA (b.es.getD i en0))))],[(4,[(vi e.kind),(vs e.k.st),(vs e.k.ex),(vi e.k.n),(vi e.t),(vi e.v),(vi e.h),(vs e.s),(vb e.acc)]),(1000001,[Za])]⟩ (RetR Tryz.prog Tryz.f79 (R79 G β b i e w))))) (by kernel_rfl) ?_
 refine⟨⟨f99_k h hi hs,rfl⟩,fun c=>?_,fun c=>?_⟩
 ·refine LeafR.ret rfl rfl fun β1 k tm w' v g1 hv=>?_
  have hv:v=.int .i64 9:=hv
  subst hv
  obtain ⟨q1,_,q2⟩:=h.back1 (fun _ hc=>hc) g1 h.leN (f1_at b.es.length) rfl
  have hc:deC (b.es.getD i en0)=9:=by unfold deC;rw[if_neg (by simpa using c)]
  unfold R79
  rw[hc,if_neg (by decide)]
  exact h.same q1 q2 9
 have hgc:deC (b.es.getD i en0)=0:=by unfold deC;rw[if_pos (by simpa using c)]
 obtain ⟨m,hm⟩:∃m,(b.es.getD i en0).aps.length=m+1:=by
  have ho:openA (b.es.getD i en0)=true:=by simpa using c
  unfold openA at ho
  cases hl:(b.es.getD i en0).aps with
  | nil=>rw[hl] at ho;cases ho
  | cons a l=>exact⟨l.length,rfl⟩
 have hm16:m<16:=by
  simp only[bndE,bAt,decide_eq_true_eq] at hb
  omega
 refine AWPR.weaken (st':=S79 b V e i) ?_ ?_
 ·exact AS.leA (by kernel_rfl)
 intro β1 h1 a w1 g1 hd
 obtain ⟨β2,on2,n1,n2,g2,hon2,hk1,hGw⟩:=h.toB rfl (s:=2*i+3) (by omega) (by omega) (h.ap i hi) g1 (by kernel_rfl) (fun t l hl=>by
  have hl:t=4∧l=(evL e).map .d:=by
   simp only[Go.Ab.look] at hl
   by_cases e2:(4:Nat)=t
   ·subst e2;simp at hl;exact⟨rfl,hl.symm⟩
   ·rw[beq_ne e2,cond_false] at hl;cases hl
  rw[hl.2];rfl) (by kernel_rfl) (by kernel_rfl)
 exact f79_B h hi e hgc hm hm16 n1 n2 hon2 hk1 β2 G a w1 g2 hd
end Go.Proofs
