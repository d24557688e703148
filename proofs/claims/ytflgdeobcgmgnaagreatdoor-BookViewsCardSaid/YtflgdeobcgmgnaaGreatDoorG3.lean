import Derived.Test.YtflgdeobcgmgnaaGreatDoorAcD
import Derived.Test.YtflgdeobcgmgnaaGreatDoorG2
set_option autoImplicit false
set_option maxHeartbeats 4000000
set_option maxRecDepth 100000
namespace Go.Proofs
open Go Go.Ab Go.RowKit
variable {G:IH} {β:Nat→Nat} {V:Nat→Option Addr×Nat} {b:Bk} {w:World}
def EU (x:En) (e:Ev):Int:=if wL x e.v=true then 9 else if 16≤x.gs.length then 8 else 0
def CX (x:En) (e:Ev):En:={ x with gs:=x.gs++[⟨e.v,e.h,e.t,e.s⟩] }
theorem bQ.QK (h:bQ G β V b w):G.le (IH.add G (jP β b.es.length) w):=IH.rF fun c ⟨s,_,h1,h2,h3⟩=>by rw[←h3];exact(h.unk s h1 h2).1
theorem bQ.TA (h:bQ G β V b w) {i:Nat} (hi:i<b.es.length) (F:Fr):bT (IH.add G (jP β b.es.length) w) F (.d (.con (sv V (2*i+2) (b.es.getD i en0).gs.length))) (.d (jZ (b.es.getD i en0).gs)):=by
 intro β h1 v hG _ r
 have r:v=_:=r
 subst r
 exact DV.rel.mono hG _ _ (h.Vz h.QK (fun c hc o=>IH.nC hc) hi)
theorem bQ.acd (h:bQ G β V b w) {i:Nat} (hi:i<b.es.length) (F:Fr):bT (IH.add G (jP β b.es.length) w) F (.d (.con (sv V (2*i+3) (b.es.getD i en0).ah.length))) (.d (iD (b.es.getD i en0).ah)):=by
 intro β h1 v hG _ r
 have r:v=_:=r
 subst r
 exact DV.rel.mono hG _ _ (h.Kq h.QK (fun c hc o=>IH.nC hc) hi)
def aei (l:List Gv):Nat→Option AV
 | 11=>some (.d (jZ l))
 | 22=>some (.d (jZ l))
 | _=>none
def GX (G:IH) (β:Nat→Nat) (b:Bk) (i:Nat) (e:Ev) (w:World) (v:Value) (w':World):Prop:=PostB G β b (if EU (b.es.getD i en0) e=0 then ⟨b.t,b.es.set i (CX (b.es.getD i en0) e)⟩ else b) w (EU (b.es.getD i en0) e) v w'
theorem G5 {β:Nat→Nat} {V:Nat→Option Addr×Nat} {b:Bk} {w:World} {G:IH} (h:bQ G β V b w) {i:Nat} (hi:i<b.es.length) (k:IH):(AV.elem 1000001 7 i 0).rel (f1 β b.es.length) k (.pointer (some ⟨blk β 1,i*7,none⟩)):=by
 obtain ⟨c1,c2,c3⟩:=FM (β:=β) b.es.length
 refine⟨by rw[c3];exact hi,?_,by rw[c1];rfl⟩
 rw[c2,c3];exact h.ent.row.1.1
theorem VW (x:En) (v:Int):(decide ((x.gs.length:Int)>0)&&decide (v≤(x.gs.getD ((x.gs.length:Int)-1).toNat dR).v))=wL x v:=by
 unfold wL
 rcases List.eq_nil_or_concat x.gs with q|⟨l,g,q⟩
 ·rw[q];rfl
 ·rw[q]
  have e1:(((l.concat g).length:Int)-1).toNat=l.length:=by simp
  rw[e1]
  simp
noncomputable def S77 (b:Bk) (V:Nat→Option Addr×Nat) (e:Ev) (i:Nat):AS:=⟨regs Tryz.f77.ntmps [(2,.elem 1000001 7 i 0),(4,.box 4 0)],[b1 b V,(4,(kE e).map .d)]⟩
noncomputable def ac9 (b:Bk) (V:Nat→Option Addr×Nat) (e:Ev) (i:Nat):AS:=⟨regs Tryz.f77.ntmps [(2,.elem 1000001 7 i 0),(4,.box 4 0)],[(1000002,[.arr jU 4 (dP (b.es.getD i en0).gs)]),b1 b V,(4,(kE e).map .d)]⟩
def acf (m:Nat):Nat→Option AV
 | 37=>some (.vec 1000002 4 0 m)
 | _=>none
abbrev aaz (e:Ev):Gv:=⟨e.v,e.h,e.t,e.s⟩
abbrev yh (l:List Gv) (e:Ev):Nat→DV:=fun j=>bif j.blt l.length then dP l j else aW true 4 (ZC (aaz e)) (0+(j-l.length))
noncomputable def adB (b:Bk) (V:Nat→Option Addr×Nat) (e:Ev) (i:Nat):AS:=⟨regs Tryz.f77.ntmps [(48,.vec 48 4 0 ((b.es.getD i en0).gs.length+1)),(50,.elem 1000001 7 i 5)],[(48,[.arr jU 4 (yh (b.es.getD i en0).gs e)]),b1 b V]⟩
theorem J3 {K:RK} {β2:Nat→Nat} {fV:Nat→Prop} {s m sz sz':Nat} {f:Nat→DV} {o:Option Obj} {v:Option Addr×Nat} (hva:cZ G K sz' m f (blk β s) (room β s) (.slice v.1 m v.2) o) (n2:(0<room β s→blk β2 1000002=blk β s)∧room β2 1000002=room β s∧many β2 1000002=m):bT G ⟨fV,β2⟩ (.d (.con (.slice v.1 m v.2))) (.vec 1000002 sz 0 m):=by
 have hv:=hva.val
 have hmr:=hva.row.1.1
 intro β1 h1 u _ hf r
 have r:u=_:=r
 subst r
 obtain ⟨f1,f2,f3⟩:=hf 1000002 (by decide)
 obtain ⟨p,hp,hpp⟩:=hv
 simp only[Value.slice.injEq,true_and] at hp
 obtain ⟨e1,e2⟩:=hp
 refine⟨by rw[f3];show 0+m≤many β2 1000002;omega,?_,p,?_,?_⟩
 ·rw[f2,f3];show many β2 1000002≤room β2 1000002;omega
 ·rw[f2]
  show _=Value.slice p m (room β2 1000002-0)
  rw[n2.2.1,e1,e2];rfl
 ·rw[f1,f2]
  show p=some ⟨blk β2 1000002,0*sz,none⟩∨room β2 1000002≤0
  by_cases h0:0<room β s
  ·left
   rw[n2.1 h0,Nat.zero_mul];exact hpp.resolve_right (by omega)
  ·right;omega
theorem Qe {i:Nat} (hi:i<b.es.length) {x':En} {p:Option Addr×Nat} {m:Nat} (hm:x'.gs.length=m) (ha:x'.ah=(b.es.getD i en0).ah) (hk2:x'.k=(b.es.getD i en0).k) (ht:x'.t=(b.es.getD i en0).t) (hs:x'.s=(b.es.getD i en0).s) (j:Nat) :
  (bif j.beq i then .agg (List.take 5 (jv (b.es.getD i en0) (sv V (2*i+2) (b.es.getD i en0).gs.length) (sv V (2*i+3) (b.es.getD i en0).ah.length))++[.con (.slice p.1 m p.2)]++List.drop 6 (jv (b.es.getD i en0) (sv V (2*i+2) (b.es.getD i en0).gs.length) (sv V (2*i+3) (b.es.getD i en0).ah.length))) else bJ V b.es j)=bJ (eU V (2*i+2) p) (b.es.set i x') j:=by
 unfold bJ
 by_cases c:j=i
 ·subst c
  rw[show j.beq j=true from by simp,cond_true,List.getD,List.getD,List.getElem?_set_self hi]
  show DV.agg (jv (b.es.getD j en0) _ _)=DV.agg (jv x' _ _)
  simp only[Option.getD_some,jh,dW _ (show 2*j+3≠2*j+2 by omega),hm,ha,hk2,ht,hs,jv]
  rfl
 ·rw[show j.beq i=false from by simpa [Bool.eq_false_iff] using c,cond_false,List.getD,List.getD,List.getElem?_set_ne (Ne.symm c)]
  rw[dW _ (by omega),dW _ (by omega)]
noncomputable def ZI (b:Bk) (f:Nat→DV) (x:En) (e:Ev):AS:=⟨regs Tryz.f77.ntmps [],[(1000003,[.arr jU 4 (yh x.gs e)]),(1000001,[.arr fO 7 f])]⟩
theorem Us (x:En) (e:Ev) (j:Nat) (hj:j<(CX x e).gs.length):yh x.gs e j=dP (CX x e).gs j:=by
 have hj:j<(x.gs++[(⟨e.v,e.h,e.t,e.s⟩:Gv)]).length:=hj
 rw[iE] at hj
 show (bif j.blt x.gs.length then dP x.gs j else aW true 4 (ZC (aaz e)) (0+(j-x.gs.length)))=dP (x.gs++[⟨e.v,e.h,e.t,e.s⟩]) j
 unfold dP
 by_cases c:j<x.gs.length
 ·rw[show j.blt x.gs.length=true from by rw[Nat.blt_eq];exact c,cond_true,nH c]
 ·obtain rfl:j=x.gs.length:=by omega
  rw[show x.gs.length.blt x.gs.length=false from by rw[Bool.eq_false_iff,ne_eq,Nat.blt_eq];omega,cond_false,Nat.sub_self,nK]
  rfl
theorem acF (h:bQ G β V b w) {i:Nat} (hi:i<b.es.length) (e:Ev) (hgc:EU (b.es.getD i en0) e=0) {F:Fr} {w3:World} {h3:IH}
  (hkw:Kept (fun c=>wM β (2*i+2) c∨w.heap.size≤c) w w3) (hon:∀c,F.on c→wM β (2*i+2) c∨w.heap.size≤c) {p:Option Addr} {c bk:Nat} (hnew:0<c→(0<room β (2*i+2)∧bk=blk β (2*i+2))∨w.heap.size≤bk)
  (n1:blk F.β0 1000001=blk β 1∧room F.β0 1000001=room β 1∧many F.β0 1000001=b.es.length) (n3:blk F.β0 1000003=bk∧room F.β0 1000003=c∧(b.es.getD i en0).gs.length+1≤many F.β0 1000003) (hp:p=some ⟨bk,0,none⟩∨c=0)
  {f:Nat→DV} (hf:∀j,j<b.es.length→f j=bJ (eU V (2*i+2) (p,c)) (b.es.set i (CX (b.es.getD i en0) e)) j) :
  aK Tryz.prog G F w3 h3 [cd Tryz.f77 [1,1,1,1]] (ZI b f (b.es.getD i en0) e) (aS Tryz.prog Tryz.f77 (GX G β b i e w)):=by
 refine dX (aj:={ d:=bG }) follows (fun _=>none) (cuts:=[]) (n:=1000) ?_
 refine iG (b:=aP G F w3 h3 (aS Tryz.prog Tryz.f77 (GX G β b i e w)) .ret ⟨regs 51 [(6,(vi 0))],[(1000003,[(.arr qW 4 (yh (b.es.getD i en0).gs e))]),(1000001,[(.arr eP 7 f)])]⟩) (by kernel_rfl) ?_
 refine aP.ret rfl rfl fun β1 k tm w' v g1 hv=>?_
 have hv:v=.int .i64 0:=hv
 subst hv
 unfold GX
 rw[hgc,if_pos rfl]
 refine h.Xy hi (.inl rfl) g1 hkw hon hnew n1 rfl hf (fun _=>?_) (fun hk=>h.aa6 hi hk rfl) 0
 have hl:(CX (b.es.getD i en0) e).gs.length=(b.es.getD i en0).gs.length+1:=iE _ _
 rw[aT,aH,jh]
 exact l7 g1 (e:=1000003) (by decide) n3.1 n3.2.1 (by rw[hl];exact n3.2.2) rfl rfl (fun j=>lJ _ j) (Us _ e) hp
theorem acI (h:bQ G β V b w) {i:Nat} (hi:i<b.es.length) (hs:gq b.es) (e:Ev) (hgc:EU (b.es.getD i en0) e=0) {β2:Nat→Nat} {fV:Nat→Prop} {w1:World} (n1:blk β2 1000001=blk β 1∧room β2 1000001=room β 1∧many β2 1000001=b.es.length) (n2:(0<room β (2*i+2)→blk β2 1000002=blk β (2*i+2))∧room β2 1000002=room β (2*i+2)∧many β2 1000002=(b.es.getD i en0).gs.length)
  (sJ:∀c,fV c→oU β c∨(0<room β (2*i+2)∧c=blk β (2*i+2))∨w.heap.size≤c) (hk1:Kept (oU β) w w1) :
  aK Tryz.prog G ⟨fV,β2⟩ w1 G [cd Tryz.f77 [1,1,1]] (ac9 b V e i) (aS Tryz.prog Tryz.f77 (GX G β b i e w)):=by
 have hsi:=hs.2 i hi
 refine aK.seq (a:=aU (au Tryz.f77) [1,1,1,0]) (b:=aU (au Tryz.f77) [1,1,1,1]) (by kernel_rfl) ?_
 refine aK.tail (aj:={ d:=bG,rows:=fun n=>Nat.beq n 47 }) follows (acf (b.es.getD i en0).gs.length) 18 (by kernel_rfl) ?_
 refine iG (b:=((bT G (Fr.mk fV β2) (.d (.con (.slice (V (2*i+2)).fst (b.es.getD i en0).gs.length (V (2*i+2)).snd))) (.vec 1000002 4 0 (b.es.getD i en0).gs.length)∧(((b.es.getD i en0).gs.length+1)*40≤1099511627776)∧((b.es.getD i en0).gs.length+1≤1099511627776))∧aP G (Fr.mk fV β2) w1 G (iP Tryz.prog (opsOf (aU (au Tryz.f77) [1,1,1,0])).toList 18 ((opsOf (aU (au Tryz.f77) [1,1,1,0])).toList.length-18) (wpS Tryz.prog [It.code (aU (au Tryz.f77) [1,1,1,1])] (aS Tryz.prog Tryz.f77 (GX G β b i e w)))) .normal ⟨regs 51 [(2,(.elem 1000001 7 i 0)),(4,(.box 4 0)),(33,(.elem 1000001 7 i 0)),(34,(.elem 1000001 7 i 0)),(35,(.elem 1000001 7 i 0)),(36,(.elem 1000001 7 i 5)),(37,(.vec 1000002 4 0 (b.es.getD i en0).gs.length)),(38,(.box 4 5)),(39,(vi e.v)),(40,(.box 4 6)),(41,(vi e.h)),(42,(.box 4 4)),(43,(vi e.t)),(44,(.box 4 7)),(45,(vs e.s)),(46,(.d (.agg [(di e.v),(di e.h),(di e.t),(ds e.s)]))),(47,(.vec 47 4 0 1)),(48,(.vec 48 4 0 ((b.es.getD i en0).gs.length+1))),(49,(.elem 1000001 7 i 0)),(50,(.elem 1000001 7 i 5))],[(48,[(.arr qW 4 (fun oV=>bif oV.blt (b.es.getD i en0).gs.length then dP (b.es.getD i en0).gs oV else aW true 4 [di e.v,di e.h,di e.t,ds e.s] (0+(oV-(b.es.getD i en0).gs.length))))]),(47,[(.arr qW 4 (aW true 4 [(di e.v),(di e.h),(di e.t),(ds e.s)]))]),(1000002,[.dead]),(1000001,[(.arr eP 7 (bJ V b.es))]),(4,fJ e)]⟩)) (by kernel_rfl) ?_
 have adK:=hsi.1
 refine⟨⟨J3 (h.gr i hi) n2,by omega,by omega⟩,?_⟩
 intro β3 h3 a3 w3 g3 hd3
 have g4:=g3.weaken (st':=adB b V e i) (by refine AS.leZ [] [] (b:=((T0∧T0∧True)∧T0∧T0∧True)) (by kernel_rfl) (by kernel_rfl) ?_;exact⟨⟨rfl,rfl,trivial⟩,rfl,rfl,trivial⟩)
 obtain ⟨p,hpv,hp,hm,g5⟩:=g4.shift (q:=48) (m:=(b.es.getD i en0).gs.length+1) (e:=1000003) (on:=fun c=>∃s l,Go.Ab.look [(48,[AV.arr jU 4 (yh (b.es.getD i en0).gs e)]),b1 b V] s=some l∧Live β3 s l∧blk β3 s=c) (by kernel_rfl) (by kernel_rfl) (by kernel_rfl) (by kernel_rfl) fun s l q1 q2=>⟨s,l,q1,q2,rfl⟩
 show wpOps _ _ _ (List.range' 18 ((opsOf (aU (au Tryz.f77) [1,1,1,0])).toList.length-18)) _ _
 rw[show (opsOf (aU (au Tryz.f77) [1,1,1,0])).toList.length-18=1+0 from by kernel_rfl]
 refine(dV.tree (aj:={ d:=bG }) ?_:dV Tryz.prog G _ w3 h3 (opsOf (aU (au Tryz.f77) [1,1,1,0])).toList 18 (1+0) _ _) _ _ _ _ g5 hd3
 refine je (jv (b.es.getD i en0) (sv V (2*i+2) (b.es.getD i en0).gs.length) (sv V (2*i+3) (b.es.getD i en0).ah.length)) (fun Za=>aP G (Fr.mk (fun c=>∃s l,Ab.look [(48,[AV.arr jU 4 (yh (b.es.getD i en0).gs e)]),b1 b V] s=some l∧Live β3 s l∧blk β3 s=c) (upd β3 1000003 (blk β3 48) (room β3 48) (many β3 48))) w3 h3 (iP Tryz.prog (opsOf (aU (au Tryz.f77) [1,1,1,0])).toList (18+1) 0 (wpS Tryz.prog [It.code (aU (au Tryz.f77) [1,1,1,1])] (aS Tryz.prog Tryz.f77 (GX G β b i e w)))) .normal ⟨regs 51 [(48,(.d (.con (.slice p ((b.es.getD i en0).gs.length+1) (β3 (3*48+1)))))),(50,(.elem 1000001 7 i 5))],[(1000003,[(.arr qW 4 (yh (b.es.getD i en0).gs e))]),(1000001,[(.arr eP 7 (fun j=>bif j.beq i then DV.agg (List.take 5 Za++[DV.con (Value.slice p ((b.es.getD i en0).gs.length+1) (β3 (3*48+1)))]++List.drop (5+1) Za) else bJ V b.es j))])]⟩) (by kernel_rfl) ?_
 refine aP.kP ?_
 refine aK.weaken (st':=ZI b (fun j=>bif j.beq i then .agg (List.take 5 (jv (b.es.getD i en0) (sv V (2*i+2) (b.es.getD i en0).gs.length) (sv V (2*i+3) (b.es.getD i en0).ah.length))++[.con (.slice p ((b.es.getD i en0).gs.length+1) (room β3 48))]++List.drop 6 (jv (b.es.getD i en0) (sv V (2*i+2) (b.es.getD i en0).gs.length) (sv V (2*i+3) (b.es.getD i en0).ah.length))) else bJ V b.es j) (b.es.getD i en0) e) ?_ ?_
 ·exact AS.bD (by kernel_rfl)
 have aaF:Go.Ab.look [(48,[AV.arr jU 4 (yh (b.es.getD i en0).gs e)]),b1 b V] 48=some [.arr jU 4 (yh (b.es.getD i en0).gs e)]:=rfl
 have hl1:Go.Ab.look [(48,[AV.arr jU 4 (yh (b.es.getD i en0).gs e)]),b1 b V] 1000001=some [.arr fO 7 (bJ V b.es)]:=rfl
 have hw1:=hk1.size
 have hlk:∀s l,Go.Ab.look [(48,[AV.arr jU 4 (yh (b.es.getD i en0).gs e)]),b1 b V] s=some l→Live β3 s l→wM β (2*i+2) (blk β3 s)∨w.heap.size≤blk β3 s:=fun s l q1 q2=>by
  rcases ((g4.box s l q1).1 q2).1 with q|q
  ·rcases sJ _ q with q|q|q
   ·exact .inl (.inl q)
   ·exact .inl (.inr q)
   ·exact .inr q
  ·exact .inr (by omega)
 obtain ⟨f1,f2,f3⟩:=g4.fix 1000001 (by decide)
 refine acF h hi e hgc (p:=p) (c:=room β3 48) (bk:=blk β3 48) ((hk1.mono fun c hc=>.inl (.inl hc)).trans (g3.kept.mono fun c hc=>?_)) (fun c hc=>?_) (fun hc=>?_) ⟨?_,?_,?_⟩ ⟨?_,?_,?_⟩ hp ?_
 ·rcases sJ _ hc with q|q|q
  ·exact .inl (.inl q)
  ·exact .inl (.inr q)
  ·exact .inr q
 ·obtain ⟨s,l,q1,q2,rfl⟩:=hc
  exact hlk s l q1 q2
 ·have hlive:Live β3 48 [.arr jU 4 (yh (b.es.getD i en0).gs e)]:=hc
  rcases hlk 48 _ aaF hlive with (q|q)|q
  ·exfalso
   obtain ⟨q1,q2⟩:=q
   have hl:Live β3 1000001 [.arr fO 7 (bJ V b.es)]:=by
    show 0<room β3 1000001
    rw[f2];show 0<room β2 1000001
    rw[n1.2.1];exact q1
   have:=g4.inj 48 1000001 _ _ aaF hl1 hlive hl (by rw[f1];show _=blk β2 1000001;rw[n1.1];exact q2)
   exact absurd this (by decide)
  ·exact .inl q
  ·exact .inr q
 ·show blk (upd β3 1000003 _ _ _) 1000001=_
  rw[aZ (by decide),f1];exact n1.1
 ·show room (upd β3 1000003 _ _ _) 1000001=_
  rw[bI (by decide),f2];exact n1.2.1
 ·show many (upd β3 1000003 _ _ _) 1000001=_
  rw[iy (by decide),f3];exact n1.2.2
 ·show blk (upd β3 1000003 _ _ _) 1000003=_
  rw[aT]
 ·show room (upd β3 1000003 _ _ _) 1000003=_
  rw[aH]
 ·show _≤many (upd β3 1000003 _ _ _) 1000003
  rw[bH];exact hm
 ·intro j hj
  exact Qe (x':=CX (b.es.getD i en0) e) (p:=(p,room β3 48)) hi (iE _ _) rfl rfl rfl rfl j
theorem acr (h:bQ G β V b w) {i:Nat} (hi:i<b.es.length) (hs:gq b.es) (e:Ev) {ev y:Value} (he:DV.rel G (ig e) ev) :
  Calls Tryz.prog 77 #[y,ev,.pointer (some ⟨blk β 1,i*7,none⟩)] w fun r w'=>∃v,r=.returned v∧GX G β b i e w v w':=by
 have hev:(AV.d (ig e)).rel (f1 β b.es.length) (IH.add G (jP β b.es.length) w) ev:=DV.kN _ _ rfl he
 have g:=h.WE rfl (rs:=[.any,.d (ig e),.elem 1000001 7 i 0]) (us:=#[y,ev,.pointer (some ⟨blk β 1,i*7,none⟩)]) rfl (NH (rs:=[]) trivial hev (G5 h hi _))
 have hsi:=hs.2 i hi
 refine Calls.BF Tryz.func77 rfl g ?_
 refine dX (aj:={ d:=bG }) follows (aei (b.es.getD i en0).gs) (cuts:=[6]) (n:=1000) ?_
 refine Fz (↑(b.es.getD i en0).gs.length:Int) (vi (↑(b.es.getD i en0).gs.length)) ((.d (.slc 4 (b.es.getD i en0).gs.length (dP (b.es.getD i en0).gs))):AV) ((.d (.agg [(di e.kind),(ds e.k.st),(ds e.k.ex),(di e.k.n),(di e.t),(di e.v),(di e.h),(ds e.s),(db e.acc)])):AV) (IH.add G (jP β b.es.length) w) (Fr.mk (oU β) (f1 β b.es.length)) ((.arr eP 7 (bJ V b.es)):AV) ((.d (.con (.slice (V (2*i+2)).fst (b.es.getD i en0).gs.length (V (2*i+2)).snd))):AV) (aS Tryz.prog Tryz.f77 (GX G β b i e w)) (fun Za Zb Zc Zd Ze Zf Zg Zh Zi=>(bT Ze Zf Zh Zc∧(bT Ze Zf Zh Zc∧(((decide (Za>0))=true)→(I64 (↑(b.es.getD i en0).gs.length-1)))∧(((decide (Za>0))=true)→((0≤Za-1)∧(Za-1<↑(b.es.getD i en0).gs.length))))∧(((decide (Za>0)&&decide (e.v≤((b.es.getD i en0).gs.getD (Za-1).toNat dR).v))=true)→aP Ze Zf w Ze Zi .ret ⟨regs 51 [(1,Zd),(2,(.elem 1000001 7 i 0)),(4,(.box 4 0)),(6,(vi 9)),(7,Zb),(8,(.elem 1000001 7 i 0)),(9,(.elem 1000001 7 i 0)),(10,(.elem 1000001 7 i 5)),(11,Zc),(12,Zb),(13,(vb (decide (Za>0)&&decide (e.v≤((b.es.getD i en0).gs.getD (Za-1).toNat dR).v)))),(14,Zb),(15,(vb (decide (Za>0)))),(16,(vb (decide (Za>0)))),(29,(vb (decide (Za>0)&&decide (e.v≤((b.es.getD i en0).gs.getD (Za-1).toNat dR).v))))],[(4,fJ e),(1000001,[Zg])]⟩)∧(((decide (Za>0)&&decide (e.v≤((b.es.getD i en0).gs.getD (Za-1).toNat dR).v))=false)→((((decide (Za≥16))=true)→aP Ze Zf w Ze Zi .ret ⟨regs 51 [(1,Zd),(2,(.elem 1000001 7 i 0)),(4,(.box 4 0)),(6,(vi 8)),(7,Zb),(8,(.elem 1000001 7 i 0)),(9,(.elem 1000001 7 i 0)),(10,(.elem 1000001 7 i 5)),(11,Zc),(12,Zb),(13,(vb (decide (Za>0)&&decide (e.v≤((b.es.getD i en0).gs.getD (Za-1).toNat dR).v)))),(14,Zb),(15,(vb (decide (Za>0)))),(16,(vb (decide (Za>0)))),(29,(vb (decide (Za>0)&&decide (e.v≤((b.es.getD i en0).gs.getD (Za-1).toNat dR).v)))),(30,(vb (decide (Za≥16)))),(31,Zb),(32,(vb (decide (Za≥16))))],[(4,fJ e),(1000001,[Zg])]⟩)∧(((decide (Za≥16))=false)→aK Tryz.prog Ze Zf w Ze [cd Tryz.f77 [1,1,1]] ⟨regs 51 [(1,Zd),(2,(.elem 1000001 7 i 0)),(4,(.box 4 0)),(6,(vi 0)),(7,Zb),(8,(.elem 1000001 7 i 0)),(9,(.elem 1000001 7 i 0)),(10,(.elem 1000001 7 i 5)),(11,Zc),(12,Zb),(13,(vb (decide (Za>0)&&decide (e.v≤((b.es.getD i en0).gs.getD (Za-1).toNat dR).v)))),(14,Zb),(15,(vb (decide (Za>0)))),(16,(vb (decide (Za>0)))),(29,(vb (decide (Za>0)&&decide (e.v≤((b.es.getD i en0).gs.getD (Za-1).toNat dR).v)))),(30,(vb (decide (Za≥16)))),(31,Zb),(32,(vb (decide (Za≥16))))],[(4,fJ e),(1000001,[Zg])]⟩ Zi))))) (by kernel_rfl) ?_
 try dsimp only
 have hlow:(decide (((b.es.getD i en0).gs.length:Int)>0)&&decide (e.v≤((b.es.getD i en0).gs.getD (((b.es.getD i en0).gs.length:Int)-1).toNat dR).v))=wL (b.es.getD i en0) e.v:=VW _ _
 rw[hlow]
 have yU:∀(code:Int) (st:AS),EU (b.es.getD i en0) e=code→code≠0→iM Tryz.prog st Tryz.f77.results.toList=some [.d (di code)]→st.box 1000001=some [.arr fO 7 (bJ V b.es)]→aP (IH.add G (jP β b.es.length) w) ⟨oU β,f1 β b.es.length⟩ w (IH.add G (jP β b.es.length) w) (aS Tryz.prog Tryz.f77 (GX G β b i e w)) .ret st:=by
  intro code st hc h0 hr hb
  refine aP.ret rfl hr fun β1 k tm w' v g1 hv=>?_
  have hv:v=.int .i64 code:=hv
  subst hv
  obtain ⟨q1,_,q2⟩:=h.TD (fun _ hc=>hc) g1 h.QK (FM b.es.length) hb
  unfold GX
  rw[hc,if_neg h0]
  exact h.same q1 q2 code
 refine⟨h.TA hi _,⟨h.TA hi _,fun c=>?_,fun c=>?_⟩,fun c=>?_,fun c=>⟨fun c2=>?_,fun c2=>?_⟩⟩
 ·have:=dn c;have:=hsi.1;exact⟨by omega,by omega⟩
 ·have:=dn c;exact⟨by omega,by omega⟩
 ·refine yU 9 _ (by unfold EU;rw[if_pos c]) (by decide) rfl rfl
 ·refine yU 8 _ (by unfold EU;rw[if_neg (by rw[c];decide),if_pos (by have:=dn c2;omega)]) (by decide) rfl rfl
 have hgc:EU (b.es.getD i en0) e=0:=by unfold EU;rw[if_neg (by rw[c];decide),if_neg (by have:=of_decide_eq_false c2;omega)]
 refine aK.weaken (st':=S77 b V e i) ?_ ?_
 ·exact AS.bD (by kernel_rfl)
 intro β1 h1 a w1 g1 hd
 obtain ⟨β2,fV,n1,n2,g2,sJ,hk1,ET⟩:=h.toB rfl (s:=2*i+2) (by omega) (by omega) (h.gr i hi) g1 (by kernel_rfl) (fun t l hl=>by
  have hl:t=4∧l=(kE e).map .d:=by
   simp only[Go.Ab.look] at hl
   by_cases e2:(4:Nat)=t
   ·subst e2;simp at hl;exact⟨rfl,hl.symm⟩
   ·rw[aQ e2,cond_false] at hl;cases hl
  rw[hl.2];rfl) (by kernel_rfl) (by kernel_rfl)
 exact acI h hi hs e hgc n1 n2 sJ hk1 β2 G a w1 g2 hd
def ada (l:List Al):Nat→Option AV
 | 7=>some (.d (iD l))
 | 15=>some (.d (iD l))
 | _=>none
theorem bQ.Ur (h:bQ G β V b w) {i:Nat} (hi:i<b.es.length):JJ (IH.add G (jP β b.es.length) w) (.d (.con (sv V (2*i+3) (b.es.getD i en0).ah.length))) (.d (iD (b.es.getD i en0).ah)):=by
 intro β h1 v hG r
 have r:v=_:=r
 subst r
 exact DV.rel.mono hG _ _ (h.Kq h.QK (fun c hc o=>IH.nC hc) hi)
theorem Rj (x:En):(decide ((x.ah.length:Int)>0)&&!(x.ah.getD ((x.ah.length:Int)-1).toNat bZ).dec)=bV x:=by
 unfold bV
 rcases List.eq_nil_or_concat x.ah with q|⟨l,g,q⟩
 ·rw[q];rfl
 ·rw[q]
  have e1:(((l.concat g).length:Int)-1).toNat=l.length:=by simp
  rw[e1]
  simp
theorem XW (h:bQ G β V b w) {i:Nat} (hi:i<b.es.length) (hs:gq b.es):dD Tryz.prog (IH.add G (jP β b.es.length) w) 99 [.elem 1000000 7 i 0] [(1000000,[.arr fO 7 (bJ V b.es)])] (.d (db (bV (b.es.getD i en0)))) [(1000000,[.arr fO 7 (bJ V b.es)])]:=by
 refine dD.dA (mv:=[]) (by kernel_rfl) Tryz.func99 rfl Tryz.call99 ?_
 refine abO (aj:={ d:=bG }) follows (ada (b.es.getD i en0).ah) (cuts:=[6]) (n:=1000) ?_
 refine aC (fun _ _ _ _=>(fun (Za:Int) Zb=>(JJ (IH.add G (jP β b.es.length) w) Zb (.d (.slc 6 (b.es.getD i en0).ah.length (dI (b.es.getD i en0).ah)))∧(JJ (IH.add G (jP β b.es.length) w) Zb (.d (.slc 6 (b.es.getD i en0).ah.length (dI (b.es.getD i en0).ah)))∧(((decide (Za>0))=true)→(I64 (↑(b.es.getD i en0).ah.length-1)))∧(((decide (Za>0))=true)→((0≤Za-1)∧(Za-1<↑(b.es.getD i en0).ah.length))))∧((vb (decide (Za>0)&&!((b.es.getD i en0).ah.getD (Za-1).toNat bZ).dec)):AV)=(vb (bV (b.es.getD i en0)))∧((some [(.arr eP 7 (bJ V b.es))]):dS)=(some [(.arr eP 7 (bJ V b.es))])∧True)) (↑(b.es.getD i en0).ah.length:Int) ((.d (.con (.slice (V (2*i+3)).fst (b.es.getD i en0).ah.length (V (2*i+3)).snd))):AV)) (by kernel_rfl) ?_
 try dsimp only
 have hsi:=(hs.2 i hi).2
 refine⟨h.Ur hi,⟨h.Ur hi,fun c=>?_,fun c=>?_⟩,?_,rfl,trivial⟩
 ·have:=dn c;exact⟨by omega,by omega⟩
 ·have:=dn c;exact⟨by omega,by omega⟩
 ·rw[Rj]
def XL (o:Bool):dU:={ d:=bG,m:=fun f _ pre=>bif Nat.beq f 99 then some (.d (db o),pre) else none,ro:=Nat.beq 99 }
def adM (l:List Gv) (m:List Al):Nat→Option AV
 | 11=>some (.d (jZ l))
 | 22=>some (.d (iD m))
 | _=>none
def yG (x:En):Int:=if x.gs.length=0∨bV x=true then 9 else if 16≤x.ah.length then 8 else 0
def Di (x:En) (e:Ev):En:=⟨x.k,x.t,x.s,x.gs,x.ah++[⟨e.t,e.s,false,false,0,.empty⟩]⟩
def GU (G:IH) (β:Nat→Nat) (b:Bk) (i:Nat) (e:Ev) (w:World) (v:Value) (w':World):Prop:=PostB G β b (if yG (b.es.getD i en0)=0 then ⟨b.t,b.es.set i (Di (b.es.getD i en0) e)⟩ else b) w (yG (b.es.getD i en0)) v w'
noncomputable def S78 (b:Bk) (V:Nat→Option Addr×Nat) (e:Ev) (i:Nat):AS:=⟨regs Tryz.f78.ntmps [(2,.elem 1000001 7 i 0),(4,.box 4 0)],[b1 b V,(4,(kE e).map .d)]⟩
noncomputable def adP (b:Bk) (V:Nat→Option Addr×Nat) (i:Nat) (e:Ev):AS:=⟨regs Tryz.f78.ntmps [(2,.elem 1000001 7 i 0),(4,.box 4 0)],[(1000002,[.arr iZ 6 (dI (b.es.getD i en0).ah)]),b1 b V,(4,(kE e).map .d)]⟩
def acC (m:Nat):Nat→Option AV
 | 29=>some (.vec 1000002 6 0 m)
 | _=>none
abbrev SB (e:Ev):Al:=⟨e.t,e.s,false,false,0,.empty⟩
abbrev wu (l:List Al) (e:Ev):Nat→DV:=fun j=>bif j.blt l.length then dI l j else aW true 6 (DU (SB e)) (0+(j-l.length))
noncomputable def aeb (b:Bk) (V:Nat→Option Addr×Nat) (e:Ev) (i:Nat):AS:=⟨regs Tryz.f78.ntmps [(36,.vec 36 6 0 ((b.es.getD i en0).ah.length+1)),(38,.elem 1000001 7 i 6)],[(36,[.arr iZ 6 (wu (b.es.getD i en0).ah e)]),b1 b V]⟩
theorem Qc {i:Nat} (hi:i<b.es.length) {x':En} {p:Option Addr×Nat} {m:Nat} (hm:x'.ah.length=m) (hg:x'.gs=(b.es.getD i en0).gs) (hk2:x'.k=(b.es.getD i en0).k) (ht:x'.t=(b.es.getD i en0).t) (hs:x'.s=(b.es.getD i en0).s) (j:Nat) :
  (bif j.beq i then .agg (List.take 6 (jv (b.es.getD i en0) (sv V (2*i+2) (b.es.getD i en0).gs.length) (sv V (2*i+3) (b.es.getD i en0).ah.length))++[.con (.slice p.1 m p.2)]++List.drop 7 (jv (b.es.getD i en0) (sv V (2*i+2) (b.es.getD i en0).gs.length) (sv V (2*i+3) (b.es.getD i en0).ah.length))) else bJ V b.es j)=bJ (eU V (2*i+3) p) (b.es.set i x') j:=by
 unfold bJ
 by_cases c:j=i
 ·subst c
  rw[show j.beq j=true from by simp,cond_true,List.getD,List.getD,List.getElem?_set_self hi]
  show DV.agg (jv (b.es.getD j en0) _ _)=DV.agg (jv x' _ _)
  simp only[Option.getD_some,jh,dW _ (show 2*j+2≠2*j+3 by omega),hm,hg,hk2,ht,hs,jv]
  rfl
 ·rw[show j.beq i=false from by simpa [Bool.eq_false_iff] using c,cond_false,List.getD,List.getD,List.getElem?_set_ne (Ne.symm c)]
  rw[dW _ (by omega),dW _ (by omega)]
noncomputable def Zv (b:Bk) (f:Nat→DV) (x:En) (e:Ev):AS:=⟨regs Tryz.f78.ntmps [],[(1000003,[.arr iZ 6 (wu x.ah e)]),(1000001,[.arr fO 7 f])]⟩
theorem VJ (x:En) (e:Ev) (j:Nat) (hj:j<(Di x e).ah.length):wu x.ah e j=dI (Di x e).ah j:=by
 have hj:j<(x.ah++[SB e]).length:=hj
 rw[iE] at hj
 show (bif j.blt x.ah.length then dI x.ah j else aW true 6 (DU (SB e)) (0+(j-x.ah.length)))=dI (x.ah++[SB e]) j
 unfold dI
 by_cases c:j<x.ah.length
 ·rw[show j.blt x.ah.length=true from by rw[Nat.blt_eq];exact c,cond_true,nH c]
 ·obtain rfl:j=x.ah.length:=by omega
  rw[show x.ah.length.blt x.ah.length=false from by rw[Bool.eq_false_iff,ne_eq,Nat.blt_eq];omega,cond_false,Nat.sub_self,nK]
  rfl
theorem abQ (h:bQ G β V b w) {i:Nat} (hi:i<b.es.length) (e:Ev) (hgc:yG (b.es.getD i en0)=0) {F:Fr} {w3:World} {h3:IH}
  (hkw:Kept (fun c=>wM β (2*i+3) c∨w.heap.size≤c) w w3) (hon:∀c,F.on c→wM β (2*i+3) c∨w.heap.size≤c) {p:Option Addr} {c bk:Nat} (hnew:0<c→(0<room β (2*i+3)∧bk=blk β (2*i+3))∨w.heap.size≤bk)
  (n1:blk F.β0 1000001=blk β 1∧room F.β0 1000001=room β 1∧many F.β0 1000001=b.es.length) (n3:blk F.β0 1000003=bk∧room F.β0 1000003=c∧(b.es.getD i en0).ah.length+1≤many F.β0 1000003) (hp:p=some ⟨bk,0,none⟩∨c=0)
  {f:Nat→DV} (hf:∀j,j<b.es.length→f j=bJ (eU V (2*i+3) (p,c)) (b.es.set i (Di (b.es.getD i en0) e)) j) :
  aK Tryz.prog G F w3 h3 [cd Tryz.f78 [1,1,1]] (Zv b f (b.es.getD i en0) e) (aS Tryz.prog Tryz.f78 (GU G β b i e w)):=by
 refine dX (aj:={ d:=bG }) follows (fun _=>none) (cuts:=[]) (n:=1000) ?_
 refine iG (b:=aP G F w3 h3 (aS Tryz.prog Tryz.f78 (GU G β b i e w)) .ret ⟨regs 39 [(6,(vi 0))],[(1000003,[(.arr oz 6 (wu (b.es.getD i en0).ah e))]),(1000001,[(.arr eP 7 f)])]⟩) (by kernel_rfl) ?_
 refine aP.ret rfl rfl fun β1 k tm w' v g1 hv=>?_
 have hv:v=.int .i64 0:=hv
 subst hv
 unfold GU
 rw[hgc,if_pos rfl]
 refine h.Xy hi (.inr rfl) g1 hkw hon hnew n1 rfl hf (fun hk=>h.UA hi hk rfl) (fun _=>?_) 0
 have hl:(Di (b.es.getD i en0) e).ah.length=(b.es.getD i en0).ah.length+1:=iE _ _
 rw[aT,aH,jh]
 exact l7 g1 (e:=1000003) (by decide) n3.1 n3.2.1 (by rw[hl];exact n3.2.2) rfl rfl (fun j=>kR _ j) (VJ _ e) hp
theorem acK (h:bQ G β V b w) {i:Nat} (hi:i<b.es.length) (hs:gq b.es) (e:Ev) (hgc:yG (b.es.getD i en0)=0) {β2:Nat→Nat} {fV:Nat→Prop} {w1:World} (n1:blk β2 1000001=blk β 1∧room β2 1000001=room β 1∧many β2 1000001=b.es.length) (n2:(0<room β (2*i+3)→blk β2 1000002=blk β (2*i+3))∧room β2 1000002=room β (2*i+3)∧many β2 1000002=(b.es.getD i en0).ah.length)
  (sJ:∀c,fV c→oU β c∨(0<room β (2*i+3)∧c=blk β (2*i+3))∨w.heap.size≤c) (hk1:Kept (oU β) w w1) :
  aK Tryz.prog G ⟨fV,β2⟩ w1 G [cd Tryz.f78 [1,1]] (adP b V i e) (aS Tryz.prog Tryz.f78 (GU G β b i e w)):=by
 have hsi:=hs.2 i hi
 refine aK.seq (a:=aU (au Tryz.f78) [1,1,0]) (b:=aU (au Tryz.f78) [1,1,1]) (by kernel_rfl) ?_
 refine aK.tail (aj:={ d:=bG,rows:=fun n=>Nat.beq n 35 }) follows (acC (b.es.getD i en0).ah.length) 14 (by kernel_rfl) ?_
 refine iG (b:=((bT G (Fr.mk fV β2) (.d (.con (.slice (V (2*i+3)).fst (b.es.getD i en0).ah.length (V (2*i+3)).snd))) (.vec 1000002 6 0 (b.es.getD i en0).ah.length)∧(((b.es.getD i en0).ah.length+1)*56≤1099511627776)∧((b.es.getD i en0).ah.length+1≤1099511627776))∧aP G (Fr.mk fV β2) w1 G (iP Tryz.prog (opsOf (aU (au Tryz.f78) [1,1,0])).toList 14 ((opsOf (aU (au Tryz.f78) [1,1,0])).toList.length-14) (wpS Tryz.prog [It.code (aU (au Tryz.f78) [1,1,1])] (aS Tryz.prog Tryz.f78 (GU G β b i e w)))) .normal ⟨regs 39 [(2,(.elem 1000001 7 i 0)),(4,(.box 4 0)),(25,(.elem 1000001 7 i 0)),(26,(.elem 1000001 7 i 0)),(27,(.elem 1000001 7 i 0)),(28,(.elem 1000001 7 i 6)),(29,(.vec 1000002 6 0 (b.es.getD i en0).ah.length)),(30,(.box 4 4)),(31,(vi e.t)),(32,(.box 4 7)),(33,(vs e.s)),(34,(.d (.agg [(di e.t),(ds e.s),(db false),(db false),(di 0),(ds (ByteArray.mk #[]))]))),(35,(.vec 35 6 0 1)),(36,(.vec 36 6 0 ((b.es.getD i en0).ah.length+1))),(37,(.elem 1000001 7 i 0)),(38,(.elem 1000001 7 i 6))],[(36,[(.arr oz 6 (fun oV=>bif oV.blt (b.es.getD i en0).ah.length then dI (b.es.getD i en0).ah oV else aW true 6 [di e.t,ds e.s,DV.con (Value.bool false),DV.con (Value.bool false),di 0,ds (ByteArray.mk #[])] (0+(oV-(b.es.getD i en0).ah.length))))]),(35,[(.arr oz 6 (aW true 6 [(di e.t),(ds e.s),(db false),(db false),(di 0),(ds (ByteArray.mk #[]))]))]),(1000002,[.dead]),(1000001,[(.arr eP 7 (bJ V b.es))]),(4,fJ e)]⟩)) (by kernel_rfl) ?_
 have adK:=hsi.2
 refine⟨⟨J3 (h.ap i hi) n2,by omega,by omega⟩,?_⟩
 intro β3 h3 a3 w3 g3 hd3
 have g4:=g3.weaken (st':=aeb b V e i) (by refine AS.leZ [] [0] (b:=((T0∧T0∧True)∧((some [(.arr oz 6 (fun oV=>bif oV.blt (b.es.getD i en0).ah.length then dI (b.es.getD i en0).ah oV else aW true 6 [di e.t,ds e.s,DV.con (Value.bool false),DV.con (Value.bool false),di 0,ds (ByteArray.mk #[])] (0+(oV-(b.es.getD i en0).ah.length))))]):dS)=(some [(.arr oz 6 (wu (b.es.getD i en0).ah e))])∧T0∧True)) (by kernel_rfl) (by kernel_rfl) ?_;exact⟨⟨rfl,rfl,trivial⟩,rfl,rfl,trivial⟩)
 obtain ⟨p,hpv,hp,hm,g5⟩:=g4.shift (q:=36) (m:=(b.es.getD i en0).ah.length+1) (e:=1000003) (on:=fun c=>∃s l,Go.Ab.look [(36,[AV.arr iZ 6 (wu (b.es.getD i en0).ah e)]),b1 b V] s=some l∧Live β3 s l∧blk β3 s=c) (by kernel_rfl) (by kernel_rfl) (by kernel_rfl) (by kernel_rfl) fun s l q1 q2=>⟨s,l,q1,q2,rfl⟩
 show wpOps _ _ _ (List.range' 14 ((opsOf (aU (au Tryz.f78) [1,1,0])).toList.length-14)) _ _
 rw[show (opsOf (aU (au Tryz.f78) [1,1,0])).toList.length-14=1+0 from by kernel_rfl]
 refine(dV.tree (aj:={ d:=bG }) ?_:dV Tryz.prog G _ w3 h3 (opsOf (aU (au Tryz.f78) [1,1,0])).toList 14 (1+0) _ _) _ _ _ _ g5 hd3
 refine je (jv (b.es.getD i en0) (sv V (2*i+2) (b.es.getD i en0).gs.length) (sv V (2*i+3) (b.es.getD i en0).ah.length)) (fun Za=>aP G (Fr.mk (fun c=>∃s l,Ab.look [(36,[AV.arr iZ 6 (wu (b.es.getD i en0).ah e)]),b1 b V] s=some l∧Live β3 s l∧blk β3 s=c) (upd β3 1000003 (blk β3 36) (room β3 36) (many β3 36))) w3 h3 (iP Tryz.prog (opsOf (aU (au Tryz.f78) [1,1,0])).toList (14+1) 0 (wpS Tryz.prog [It.code (aU (au Tryz.f78) [1,1,1])] (aS Tryz.prog Tryz.f78 (GU G β b i e w)))) .normal ⟨regs 39 [(36,(.d (.con (.slice p ((b.es.getD i en0).ah.length+1) (β3 (3*36+1)))))),(38,(.elem 1000001 7 i 6))],[(1000003,[(.arr oz 6 (wu (b.es.getD i en0).ah e))]),(1000001,[(.arr eP 7 (fun j=>bif j.beq i then DV.agg (List.take 6 Za++[DV.con (Value.slice p ((b.es.getD i en0).ah.length+1) (β3 (3*36+1)))]++List.drop (6+1) Za) else bJ V b.es j))])]⟩) (by kernel_rfl) ?_
 refine aP.kP ?_
 refine aK.weaken (st':=Zv b (fun j=>bif j.beq i then .agg (List.take 6 (jv (b.es.getD i en0) (sv V (2*i+2) (b.es.getD i en0).gs.length) (sv V (2*i+3) (b.es.getD i en0).ah.length))++[.con (.slice p ((b.es.getD i en0).ah.length+1) (room β3 36))]++List.drop 7 (jv (b.es.getD i en0) (sv V (2*i+2) (b.es.getD i en0).gs.length) (sv V (2*i+3) (b.es.getD i en0).ah.length))) else bJ V b.es j) (b.es.getD i en0) e) ?_ ?_
 ·exact AS.bD (by kernel_rfl)
 have Zo:Go.Ab.look [(36,[AV.arr iZ 6 (wu (b.es.getD i en0).ah e)]),b1 b V] 36=some [.arr iZ 6 (wu (b.es.getD i en0).ah e)]:=rfl
 have hl1:Go.Ab.look [(36,[AV.arr iZ 6 (wu (b.es.getD i en0).ah e)]),b1 b V] 1000001=some [.arr fO 7 (bJ V b.es)]:=rfl
 have hw1:=hk1.size
 have hlk:∀s l,Go.Ab.look [(36,[AV.arr iZ 6 (wu (b.es.getD i en0).ah e)]),b1 b V] s=some l→Live β3 s l→wM β (2*i+3) (blk β3 s)∨w.heap.size≤blk β3 s:=fun s l q1 q2=>by
  rcases ((g4.box s l q1).1 q2).1 with q|q
  ·rcases sJ _ q with q|q|q
   ·exact .inl (.inl q)
   ·exact .inl (.inr q)
   ·exact .inr q
  ·exact .inr (by omega)
 obtain ⟨f1,f2,f3⟩:=g4.fix 1000001 (by decide)
 refine abQ h hi e hgc (p:=p) (c:=room β3 36) (bk:=blk β3 36) ((hk1.mono fun c hc=>.inl (.inl hc)).trans (g3.kept.mono fun c hc=>?_)) (fun c hc=>?_) (fun hc=>?_) ⟨?_,?_,?_⟩ ⟨?_,?_,?_⟩ hp ?_
 ·rcases sJ _ hc with q|q|q
  ·exact .inl (.inl q)
  ·exact .inl (.inr q)
  ·exact .inr q
 ·obtain ⟨s,l,q1,q2,rfl⟩:=hc
  exact hlk s l q1 q2
 ·have hlive:Live β3 36 [.arr iZ 6 (wu (b.es.getD i en0).ah e)]:=hc
  rcases hlk 36 _ Zo hlive with (q|q)|q
  ·exfalso
   obtain ⟨q1,q2⟩:=q
   have hl:Live β3 1000001 [.arr fO 7 (bJ V b.es)]:=by
    show 0<room β3 1000001
    rw[f2];show 0<room β2 1000001
    rw[n1.2.1];exact q1
   have:=g4.inj 36 1000001 _ _ Zo hl1 hlive hl (by rw[f1];show _=blk β2 1000001;rw[n1.1];exact q2)
   exact absurd this (by decide)
  ·exact .inl q
  ·exact .inr q
 ·show blk (upd β3 1000003 _ _ _) 1000001=_
  rw[aZ (by decide),f1];exact n1.1
 ·show room (upd β3 1000003 _ _ _) 1000001=_
  rw[bI (by decide),f2];exact n1.2.1
 ·show many (upd β3 1000003 _ _ _) 1000001=_
  rw[iy (by decide),f3];exact n1.2.2
 ·show blk (upd β3 1000003 _ _ _) 1000003=_
  rw[aT]
 ·show room (upd β3 1000003 _ _ _) 1000003=_
  rw[aH]
 ·show _≤many (upd β3 1000003 _ _ _) 1000003
  rw[bH];exact hm
 ·intro j hj
  exact Qc (x':=Di (b.es.getD i en0) e) (p:=(p,room β3 36)) hi (iE _ _) rfl rfl rfl rfl j
theorem acJ (h:bQ G β V b w) {i:Nat} (hi:i<b.es.length) (hs:gq b.es) (e:Ev) {ev y:Value} (he:DV.rel G (ig e) ev) :
  Calls Tryz.prog 78 #[y,ev,.pointer (some ⟨blk β 1,i*7,none⟩)] w fun r w'=>∃v,r=.returned v∧GU G β b i e w v w':=by
 have hev:(AV.d (ig e)).rel (f1 β b.es.length) (IH.add G (jP β b.es.length) w) ev:=DV.kN _ _ rfl he
 have g:=h.WE rfl (rs:=[.any,.d (ig e),.elem 1000001 7 i 0]) (us:=#[y,ev,.pointer (some ⟨blk β 1,i*7,none⟩)]) rfl (NH (rs:=[]) trivial hev (G5 h hi _))
 have hsi:=hs.2 i hi
 refine Calls.BF Tryz.func78 rfl g ?_
 refine dX (aj:=XL (bV (b.es.getD i en0))) follows (adM (b.es.getD i en0).gs (b.es.getD i en0).ah) (cuts:=[5]) (n:=1000) ?_
 refine Fz (↑(b.es.getD i en0).gs.length:Int) ((.arr eP 7 (bJ V b.es)):AV) (decide ((↑(b.es.getD i en0).ah.length:Int)≥16)) (IH.add G (jP β b.es.length) w) ((.d (.agg [(di e.kind),(ds e.k.st),(ds e.k.ex),(di e.k.n),(di e.t),(di e.v),(di e.h),(ds e.s),(db e.acc)])):AV) ((.d (.slc 4 (b.es.getD i en0).gs.length (dP (b.es.getD i en0).gs))):AV) (Fr.mk (oU β) (f1 β b.es.length)) ((.d (.slc 6 (b.es.getD i en0).ah.length (dI (b.es.getD i en0).ah))):AV) (aS Tryz.prog Tryz.f78 (GU G β b i e w)) (fun Za Zb Zc Zd Ze Zf Zg Zh Zi=>((bT Zd Zg (.d (.con (.slice (V (2*i+2)).fst (b.es.getD i en0).gs.length (V (2*i+2)).snd))) Zf∧(((!Za==0)=true)→dD Tryz.prog Zd 99 [(.elem 1000000 7 i 0)] [(1000000,[Zb])] (vb (bV (b.es.getD i en0))) [(1000000,[Zb])])∧(((!Za==0)=true)→(([Zb]:(List AV))=[Zb])))∧(((Za==0||bV (b.es.getD i en0))=true)→aP Zd Zg w Zd Zi .ret ⟨regs 39 [(1,Ze),(2,(.elem 1000001 7 i 0)),(4,(.box 4 0)),(6,(vi 9)),(7,(vb (Za==0||bV (b.es.getD i en0)))),(8,(.elem 1000001 7 i 0)),(9,(.elem 1000001 7 i 0)),(10,(.elem 1000001 7 i 5)),(11,Zf),(12,(vi (↑(b.es.getD i en0).gs.length))),(13,(vb (Za==0))),(14,(vb (Za==0))),(17,(vb (Za==0||bV (b.es.getD i en0))))],[(4,fJ e),(1000001,[Zb])]⟩)∧(((Za==0||bV (b.es.getD i en0))=false)→(bT Zd Zg (.d (.con (.slice (V (2*i+3)).fst (b.es.getD i en0).ah.length (V (2*i+3)).snd))) Zh∧((Zc=true)→aP Zd Zg w Zd Zi .ret ⟨regs 39 [(1,Ze),(2,(.elem 1000001 7 i 0)),(4,(.box 4 0)),(6,(vi 8)),(7,(vb (Za==0||bV (b.es.getD i en0)))),(8,(.elem 1000001 7 i 0)),(9,(.elem 1000001 7 i 0)),(10,(.elem 1000001 7 i 5)),(11,Zf),(12,(vi (↑(b.es.getD i en0).gs.length))),(13,(vb (Za==0))),(14,(vb (Za==0))),(17,(vb (Za==0||bV (b.es.getD i en0)))),(18,(vb Zc)),(19,(.elem 1000001 7 i 0)),(20,(.elem 1000001 7 i 0)),(21,(.elem 1000001 7 i 6)),(22,Zh),(23,(vi (↑(b.es.getD i en0).ah.length))),(24,(vb Zc))],[(4,fJ e),(1000001,[Zb])]⟩)∧((Zc=false)→aK Tryz.prog Zd Zg w Zd [cd Tryz.f78 [1,1]] ⟨regs 39 [(1,Ze),(2,(.elem 1000001 7 i 0)),(4,(.box 4 0)),(6,(vi 0)),(7,(vb (Za==0||bV (b.es.getD i en0)))),(8,(.elem 1000001 7 i 0)),(9,(.elem 1000001 7 i 0)),(10,(.elem 1000001 7 i 5)),(11,Zf),(12,(vi (↑(b.es.getD i en0).gs.length))),(13,(vb (Za==0))),(14,(vb (Za==0))),(17,(vb (Za==0||bV (b.es.getD i en0)))),(18,(vb Zc)),(19,(.elem 1000001 7 i 0)),(20,(.elem 1000001 7 i 0)),(21,(.elem 1000001 7 i 6)),(22,Zh),(23,(vi (↑(b.es.getD i en0).ah.length))),(24,(vb Zc))],[(4,fJ e),(1000001,[Zb])]⟩ Zi))))) (by kernel_rfl) ?_
 try dsimp only
 have yU:∀(code:Int) (st:AS),yG (b.es.getD i en0)=code→code≠0→iM Tryz.prog st Tryz.f78.results.toList=some [.d (di code)]→st.box 1000001=some [.arr fO 7 (bJ V b.es)]→aP (IH.add G (jP β b.es.length) w) ⟨oU β,f1 β b.es.length⟩ w (IH.add G (jP β b.es.length) w) (aS Tryz.prog Tryz.f78 (GU G β b i e w)) .ret st:=by
  intro code st hc h0 hr hb
  refine aP.ret rfl hr fun β1 k tm w' v g1 hv=>?_
  have hv:v=.int .i64 code:=hv
  subst hv
  obtain ⟨q1,_,q2⟩:=h.TD (fun _ hc=>hc) g1 h.QK (FM b.es.length) hb
  unfold GU
  rw[hc,if_neg h0]
  exact h.same q1 q2 code
 have ZF:((((b.es.getD i en0).gs.length:Int)==0||bV (b.es.getD i en0))=true)↔((b.es.getD i en0).gs.length=0∨bV (b.es.getD i en0)=true):=by
  rw[Bool.or_eq_true,beq_iff_eq];exact or_congr ⟨fun q=>by omega,fun q=>by omega⟩ Iff.rfl
 refine⟨⟨h.TA hi _,fun _=>XW h hi hs,fun _=>rfl⟩,fun c=>?_,fun c=>⟨h.acd hi _,fun c2=>?_,fun c2=>?_⟩⟩
 ·refine yU 9 _ (by unfold yG;rw[if_pos (ZF.1 c)]) (by decide) rfl rfl
 ·refine yU 8 _ (by unfold yG;rw[if_neg (fun q=>by rw[ZF.2 q] at c;cases c),if_pos (by have:=dn c2;omega)]) (by decide) rfl rfl
 have hgc:yG (b.es.getD i en0)=0:=by unfold yG;rw[if_neg (fun q=>by rw[ZF.2 q] at c;cases c),if_neg (by have:=of_decide_eq_false c2;omega)]
 refine aK.weaken (st':=S78 b V e i) ?_ ?_
 ·exact AS.bD (by kernel_rfl)
 intro β1 h1 a w1 g1 hd
 obtain ⟨β2,fV,n1,n2,g2,sJ,hk1,ET⟩:=h.toB rfl (s:=2*i+3) (by omega) (by omega) (h.ap i hi) g1 (by kernel_rfl) (fun t l hl=>by
  have hl:t=4∧l=(kE e).map .d:=by
   simp only[Go.Ab.look] at hl
   by_cases e2:(4:Nat)=t
   ·subst e2;simp at hl;exact⟨rfl,hl.symm⟩
   ·rw[aQ e2,cond_false] at hl;cases hl
  rw[hl.2];rfl) (by kernel_rfl) (by kernel_rfl)
 exact acK h hi hs e hgc n1 n2 sJ hk1 β2 G a w1 g2 hd
def GI (x:En):Int:=if bV x=true then 0 else 9
def yH (x:En) (e:Ev):En:=⟨x.k,x.t,x.s,x.gs,x.ah.dropLast++(x.ah.getLast?.toList.map fun a=>{ a with dec:=true,acc:=e.acc,at_:=e.t,ans:=e.s })⟩
def Iq (G:IH) (β:Nat→Nat) (b:Bk) (i:Nat) (e:Ev) (w:World) (v:Value) (w':World):Prop:=PostB G β b (if GI (b.es.getD i en0)=0 then ⟨b.t,b.es.set i (yH (b.es.getD i en0) e)⟩ else b) w (GI (b.es.getD i en0)) v w'
def acG (m:Nat):Nat→Option AV
 | 14=>some (.vec 1000002 6 0 m)
 | 18=>some (.vec 1000002 6 0 m)
 | _=>none
noncomputable def S79 (b:Bk) (V:Nat→Option Addr×Nat) (e:Ev) (i:Nat):AS:=⟨regs Tryz.f79.ntmps [(2,.elem 1000001 7 i 0),(4,.box 4 0)],[b1 b V,(4,(kE e).map .d)]⟩
noncomputable def adg (b:Bk) (V:Nat→Option Addr×Nat) (e:Ev) (i:Nat):AS:=⟨regs Tryz.f79.ntmps [(2,.elem 1000001 7 i 0),(4,.box 4 0)],[(1000002,[.arr iZ 6 (dI (b.es.getD i en0).ah)]),b1 b V,(4,(kE e).map .d)]⟩
abbrev Wx (a:Al) (e:Ev):Al:=⟨a.t,a.s,true,e.acc,e.t,e.s⟩
theorem Ut {x:En} {m:Nat} (h:x.ah.length=m+1) (e:Ev):(yH x e).ah.length=m+1∧∀j,j<m+1→(yH x e).ah.getD j bZ=if j=m then Wx (x.ah.getD m bZ) e else x.ah.getD j bZ:=by
 unfold yH
 rcases List.eq_nil_or_concat x.ah with q|⟨l,g,q⟩
 ·rw[q] at h;cases h
 ·rw[q] at h⊢
  have hl:l.length=m:=by simpa using h
  subst hl
  simp only[List.concat_eq_append,List.dropLast_concat,List.getLast?_append,List.getLast?_singleton,Option.some_or,Option.toList_some,List.map_cons,List.map_nil]
  refine⟨iE _ _,fun j hj=>?_⟩
  by_cases c:j=l.length
  ·subst c;rw[if_pos rfl,nK,nK]
  ·rw[if_neg c,nH (by omega),nH (by omega)]
theorem Xt (h:bQ G β V b w) {i:Nat} (hi:i<b.es.length) (e:Ev) (hgc:GI (b.es.getD i en0)=0) {m:Nat} (hm:(b.es.getD i en0).ah.length=m+1) {β2:Nat→Nat} {fV:Nat→Prop} {w1:World} (n1:blk β2 1000001=blk β 1∧room β2 1000001=room β 1∧many β2 1000001=b.es.length) (n2:(0<room β (2*i+3)→blk β2 1000002=blk β (2*i+3))∧room β2 1000002=room β (2*i+3)∧many β2 1000002=(b.es.getD i en0).ah.length)
  (sJ:∀c,fV c→oU β c∨(0<room β (2*i+3)∧c=blk β (2*i+3))∨w.heap.size≤c) (hk1:Kept (oU β) w w1) {st:AS} (hr:iM Tryz.prog st Tryz.f79.results.toList=some [.d (di 0)]) (h1:st.box 1000001=some [.arr fO 7 (bJ V b.es)]) {f:Nat→DV} (h2:st.box 1000002=some [.arr iZ 6 f])
  (hfm:f m=.agg (DU (Wx ((b.es.getD i en0).ah.getD m bZ) e))) (hf:∀j,Nat.beq j m=false→f j=dI (b.es.getD i en0).ah j) :
  aP G ⟨fV,β2⟩ w1 G (aS Tryz.prog Tryz.f79 (Iq G β b i e w)) .ret st:=by
 obtain ⟨hl,hat⟩:=Ut hm e
 have hcap:V (2*i+3)=((V (2*i+3)).1,room β (2*i+3)):=by
  obtain ⟨p,hp,_⟩:=(h.ap i hi).val
  simp only[Value.slice.injEq,true_and] at hp
  rw[←hp.2]
 have hpp:(V (2*i+3)).1=some ⟨blk β2 1000002,0,none⟩∨room β (2*i+3)=0:=by
  obtain ⟨p,hp,hq⟩:=(h.ap i hi).val
  simp only[Value.slice.injEq,true_and] at hp
  by_cases h0:0<room β (2*i+3)
  ·left;rw[hp.1,n2.1 h0];exact hq.resolve_right (by omega)
  ·right;omega
 refine aP.ret rfl hr fun β1 k tm w' v g1 hv=>?_
 have hv:v=.int .i64 0:=hv
 subst hv
 unfold Iq
 rw[hgc,if_pos rfl]
 have hput:∀t n,sv (eU V (2*i+3) ((V (2*i+3)).1,room β (2*i+3))) t n=sv V t n:=fun t n=>by
  by_cases c:t=2*i+3
  ·subst c;rw[jh,←hcap]
  ·rw[dW _ c]
 refine h.Xy hi (x':=yH (b.es.getD i en0) e) (p:=(V (2*i+3)).1) (c:=room β (2*i+3)) (bk:=blk β2 1000002) (.inr rfl) g1 (hk1.mono fun c hc=>.inl (.inl hc)) (fun c hc=>?_) (fun h0=>.inl ⟨h0,n2.1 h0⟩) n1 h1 (fun j hj=>?_) (fun hk=>h.UA hi hk rfl) (fun _=>?_) 0
 ·rcases sJ _ hc with q|q|q
  ·exact .inl (.inl q)
  ·exact .inl (.inr q)
  ·exact .inr q
 ·unfold bJ
  by_cases c:j=i
  ·subst c
   have ex:(b.es.set j (yH (b.es.getD j en0) e)).getD j en0=yH (b.es.getD j en0) e:=by rw[List.getD,List.getElem?_set_self hi];rfl
   rw[ex,hput,hput,hl,←hm]
   rfl
  ·rw[List.getD,List.getD,List.getElem?_set_ne (Ne.symm c)]
   simp only[hput]
 ·rw[aT,aH,jh]
  refine l7 g1 (e:=1000002) (by decide) rfl n2.2.1 (by rw[hl];show m+1≤many β2 1000002;rw[n2.2.2,hm];exact Nat.le_refl _) h2 rfl (fun j=>kR _ j) (fun j hj=>?_) hpp
  rw[hl] at hj
  show f j=.agg (DU ((yH (b.es.getD i en0) e).ah.getD j bZ))
  rw[hat j hj]
  by_cases c:j=m
  ·subst c;rw[if_pos rfl];exact hfm
  ·rw[if_neg c];exact hf j (aQ c)
abbrev s1D (a:Al):List DV:=List.take 2 (DU a)++[.con (.bool true)]++List.drop 3 (DU a)
abbrev s2D (a:Al) (e:Ev):List DV:=List.take 3 (s1D a)++[.con (.bool e.acc)]++List.drop 4 (s1D a)
abbrev ZL (a:Al) (e:Ev):List DV:=List.take 4 (s2D a e)++[.con (.int .i64 e.t)]++List.drop 5 (s2D a e)
abbrev s4D (a:Al) (e:Ev):List DV:=List.take 5 (ZL a e)++[.con (.string e.s)]++List.drop 6 (ZL a e)
def gD (l:List Al) (e:Ev) (m j:Nat):DV:=bif j.beq m then .agg (s4D (l.getD m bZ) e) else bif j.beq m then .agg (ZL (l.getD m bZ) e) else bif j.beq m then .agg (s2D (l.getD m bZ) e) else bif j.beq m then .agg (s1D (l.getD m bZ)) else dI l j
theorem X7 {l:List Al} {e:Ev} {m:Nat}:gD l e m m=.agg (DU (Wx (l.getD m bZ) e)):=by
 unfold gD
 rw[show m.beq m=true from Nat.beq_refl m]
 rfl
theorem XV {l:List Al} {e:Ev} {m j:Nat} (h:j≠m):gD l e m j=dI l j:=by
 unfold gD
 rw[show j.beq m=false from aQ h]
 rfl
noncomputable def aem (b:Bk) (V:Nat→Option Addr×Nat) (e:Ev) (i m:Nat):AS:=⟨regs Tryz.f79.ntmps [(2,.elem 1000001 7 i 0),(4,.box 4 0),(6,vi 0),(7,.elem 1000002 6 m 0),(11,.elem 1000001 7 i 0),(12,.elem 1000001 7 i 0),(13,.elem 1000001 7 i 6),(14,.vec 1000002 6 0 (m+1)),(15,.elem 1000001 7 i 0),(16,.elem 1000001 7 i 0),(17,.elem 1000001 7 i 6),(18,.vec 1000002 6 0 (m+1)),(19,vi ((m+1:Nat):Int)),(20,vi m),(21,.elem 1000002 6 m 0),(22,.elem 1000002 6 m 0),(23,.elem 1000002 6 m 0),(24,.elem 1000002 6 m 0),(25,.elem 1000002 6 m 0),(26,.box 4 8),(27,vb e.acc),(28,.box 4 4),(29,vi e.t),(30,.box 4 7),(31,vs e.s),(32,.elem 1000002 6 m 0),(33,.elem 1000002 6 m 2),(34,.elem 1000002 6 m 0),(35,.elem 1000002 6 m 3),(36,.elem 1000002 6 m 0),(37,.elem 1000002 6 m 4),(38,.elem 1000002 6 m 0),(39,.elem 1000002 6 m 5)],[(1000002,[.arr iZ 6 fun j=>gD (b.es.getD i en0).ah e m j]),b1 b V,(4,(kE e).map .d)]⟩
def N79 (b:Bk) (V:Nat→Option Addr×Nat) (e:Ev) (i:Nat) (G:IH) (F:Fr) (w1:World) (R:Exit→Act→World→Prop) (m:Nat):Prop:=(bT G F (.d (.con (sv V (2*i+3) (b.es.getD i en0).ah.length))) (.vec 1000002 6 0 (m+1))∧bT G F (.d (.con (sv V (2*i+3) (b.es.getD i en0).ah.length))) (.vec 1000002 6 0 (m+1))∧I64 (((m+1:Nat):Int)-1)∧(0≤((m+1:Nat):Int)-1)∧(((m+1:Nat):Int)-1<((m+1:Nat):Int)))∧aP G F w1 G R .ret (aem b V e i m)
theorem abR (h:bQ G β V b w) {i:Nat} (hi:i<b.es.length) (e:Ev) (hgc:GI (b.es.getD i en0)=0) {m:Nat} (hm:(b.es.getD i en0).ah.length=m+1) (Hl:m<16) {β2:Nat→Nat} {fV:Nat→Prop} {w1:World} (n1:blk β2 1000001=blk β 1∧room β2 1000001=room β 1∧many β2 1000001=b.es.length) (n2:(0<room β (2*i+3)→blk β2 1000002=blk β (2*i+3))∧room β2 1000002=room β (2*i+3)∧many β2 1000002=(b.es.getD i en0).ah.length)
  (sJ:∀c,fV c→oU β c∨(0<room β (2*i+3)∧c=blk β (2*i+3))∨w.heap.size≤c) (hk1:Kept (oU β) w w1) :
  aK Tryz.prog G ⟨fV,β2⟩ w1 G [cd Tryz.f79 [1,1]] (adg b V e i) (aS Tryz.prog Tryz.f79 (Iq G β b i e w)):=by
 have hvw:=J3 (G:=G) (fV:=fV) (sz:=6) (h.ap i hi) n2
 rw[hm] at hvw
 have hN:N79 b V e i G ⟨fV,β2⟩ w1 (aS Tryz.prog Tryz.f79 (Iq G β b i e w)) m:=⟨⟨by rw[hm];exact hvw,by rw[hm];exact hvw,⟨by omega,by omega⟩,by omega,by omega⟩,Xt h hi e hgc hm n1 n2 sJ hk1 rfl rfl rfl X7 fun j hj=>XV (Nat.ne_of_beq_eq_false hj)⟩
 have h16:m=0∨m=1∨m=2∨m=3∨m=4∨m=5∨m=6∨m=7∨m=8∨m=9∨m=10∨m=11∨m=12∨m=13∨m=14∨m=15:=by omega
 refine dX (aj:={ d:=bG }) follows (acG (m+1)) (cuts:=[]) (n:=1000) ?_
 refine je m (N79 b V e i G ⟨fV,β2⟩ w1 (aS Tryz.prog Tryz.f79 (Iq G β b i e w))) ?_ hN
 clear hN hvw Hl hm
 rcases h16 with rfl|rfl|rfl|rfl|rfl|rfl|rfl|rfl|rfl|rfl|rfl|rfl|rfl|rfl|rfl|rfl<;>kernel_rfl
theorem abv (h:bQ G β V b w) {i:Nat} (hi:i<b.es.length) (hs:gq b.es) (hb:vI (b.es.getD i en0)=true) (e:Ev) {ev y:Value} (he:DV.rel G (ig e) ev) :
  Calls Tryz.prog 79 #[y,ev,.pointer (some ⟨blk β 1,i*7,none⟩)] w fun r w'=>∃v,r=.returned v∧Iq G β b i e w v w':=by
 have hev:(AV.d (ig e)).rel (f1 β b.es.length) (IH.add G (jP β b.es.length) w) ev:=DV.kN _ _ rfl he
 have g:=h.WE rfl (rs:=[.any,.d (ig e),.elem 1000001 7 i 0]) (us:=#[y,ev,.pointer (some ⟨blk β 1,i*7,none⟩)]) rfl (NH (rs:=[]) trivial hev (G5 h hi _))
 refine Calls.BF Tryz.func79 rfl g ?_
 refine dX (aj:=XL (bV (b.es.getD i en0))) follows (fun _=>none) (cuts:=[3]) (n:=1000) ?_
 refine Yr ((.arr eP 7 (bJ V b.es)):AV) (IH.add G (jP β b.es.length) w) ((.d (.agg [(di e.kind),(ds e.k.st),(ds e.k.ex),(di e.k.n),(di e.t),(di e.v),(di e.h),(ds e.s),(db e.acc)])):AV) (fun Za Zb Zc=>((dD Tryz.prog Zb 99 [(.elem 1000000 7 i 0)] [(1000000,[Za])] (vb (bV (b.es.getD i en0))) [(1000000,[Za])]∧([Za]:(List AV))=[Za])∧(((!bV (b.es.getD i en0))=true)→aP Zb (Fr.mk (oU β) (f1 β b.es.length)) w Zb (aS Tryz.prog Tryz.f79 (Iq G β b i e w)) .ret ⟨regs 40 [(1,Zc),(2,(.elem 1000001 7 i 0)),(4,(.box 4 0)),(6,(vi 9)),(8,(.elem 1000001 7 i 0)),(9,(vb (bV (b.es.getD i en0)))),(10,(vb (!bV (b.es.getD i en0))))],[(4,fJ e),(1000001,[Za])]⟩)∧(((!bV (b.es.getD i en0))=false)→aK Tryz.prog Zb (Fr.mk (oU β) (f1 β b.es.length)) w Zb [cd Tryz.f79 [1,1]] ⟨regs 40 [(1,Zc),(2,(.elem 1000001 7 i 0)),(4,(.box 4 0)),(6,(vi 0)),(8,(.elem 1000001 7 i 0)),(9,(vb (bV (b.es.getD i en0)))),(10,(vb (!bV (b.es.getD i en0))))],[(4,fJ e),(1000001,[Za])]⟩ (aS Tryz.prog Tryz.f79 (Iq G β b i e w))))) (by kernel_rfl) ?_
 refine⟨⟨XW h hi hs,rfl⟩,fun c=>?_,fun c=>?_⟩
 ·refine aP.ret rfl rfl fun β1 k tm w' v g1 hv=>?_
  have hv:v=.int .i64 9:=hv
  subst hv
  obtain ⟨q1,_,q2⟩:=h.TD (fun _ hc=>hc) g1 h.QK (FM b.es.length) rfl
  have hc:GI (b.es.getD i en0)=9:=by unfold GI;rw[if_neg (by simpa using c)]
  unfold Iq
  rw[hc,if_neg (by decide)]
  exact h.same q1 q2 9
 have hgc:GI (b.es.getD i en0)=0:=by unfold GI;rw[if_pos (by simpa using c)]
 obtain ⟨m,hm⟩:∃m,(b.es.getD i en0).ah.length=m+1:=by
  have ho:bV (b.es.getD i en0)=true:=by simpa using c
  unfold bV at ho
  cases hl:(b.es.getD i en0).ah with
  | nil=>rw[hl] at ho;cases ho
  | cons a l=>exact⟨l.length,rfl⟩
 have Hl:m<16:=by
  simp only[vI,aY,eF] at hb
  omega
 refine aK.weaken (st':=S79 b V e i) ?_ ?_
 ·exact AS.bD (by kernel_rfl)
 intro β1 h1 a w1 g1 hd
 obtain ⟨β2,fV,n1,n2,g2,sJ,hk1,ET⟩:=h.toB rfl (s:=2*i+3) (by omega) (by omega) (h.ap i hi) g1 (by kernel_rfl) (fun t l hl=>by
  have hl:t=4∧l=(kE e).map .d:=by
   simp only[Go.Ab.look] at hl
   by_cases e2:(4:Nat)=t
   ·subst e2;simp at hl;exact⟨rfl,hl.symm⟩
   ·rw[aQ e2,cond_false] at hl;cases hl
  rw[hl.2];rfl) (by kernel_rfl) (by kernel_rfl)
 exact abR h hi e hgc hm Hl n1 n2 sJ hk1 β2 G a w1 g2 hd
end Go.Proofs
