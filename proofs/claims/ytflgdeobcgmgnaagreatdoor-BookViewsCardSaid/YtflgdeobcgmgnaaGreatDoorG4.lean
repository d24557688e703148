import Derived.Test.YtflgdeobcgmgnaaGreatDoorAcD
import Derived.Test.YtflgdeobcgmgnaaGreatDoorG3
import Derived.Test.YtflgdeobcgmgnaaGreatDoorAcE
import Derived.Deep.LoopGhost
set_option autoImplicit false
set_option maxHeartbeats 4000000
set_option maxRecDepth 100000
namespace Go.Proofs
open Go Go.Ab Go.RowKit
variable {G:IH} {β:Nat→Nat} {V:Nat→Option Addr×Nat} {b:Bk} {w:World}
def jr (G:IH) (β:Nat→Nat) (b:Bk) (e:Ev) (w:World) (v:Value) (w':World):Prop:=PostB G β b (if dL b e=0 then gQ b e else b) w (dL b e) v w'
def ab8 (b:Bk) (e:Ev):dU:={ d:=fun f _=>bif Nat.beq f 49 then some (db (hasB b.es e)) else bif Nat.beq f 22 then some (di (dQ b.es e.k)) else none }
def adu (b:Bk):Nat→Option AV
 | 11=>some (.d (.ptr (fQ b)))
 | 20=>some (.d (.ptr (fQ b)))
 | 26=>some (.d (.ptr (fQ b)))
 | _=>none
theorem bQ.re (h:bQ G β V b w) {w':World} {S:Nat→Prop} (hk:Kept S w w') (hw:G.holds w') (hS:∀s,s≠0→s<2*b.es.length+2→jc β s→¬S (blk β s)) {t':Int} (ht:w'.heap[blk β 0]?=some (.cells #[.int .i64 t',sv V 1 b.es.length] (room β 0) (0,0))):bQ G β V ⟨t',b.es⟩ w':=
 ⟨hw,ht,h.ent.keep hk fun h0=>hS 1 (by omega) (by omega) (.inr h0),fun i (hi:i<b.es.length)=>(h.gr i hi).keep hk fun h0=>hS _ (by omega) (by omega) (.inr h0),
  fun i (hi:i<b.es.length)=>(h.ap i hi).keep hk fun h0=>hS _ (by omega) (by omega) (.inr h0),h.unk,h.inj⟩
theorem yM {k hh:IH} {F:Fr} {w0:World} {h0:IH} {st:AS} {β':Nat→Nat} {tm:Array Value} {w':World} (g:aO k F w0 h0 st β' hh tm w') (hG:G.le k):G.holds w':=
 have Gt:G.le hh:=hG.trans g.glob
 ⟨fun c o v e=>g.holds.1 c o v (Gt.1 c o v e),fun c o e=>g.holds.2 c o (Gt.2 c o e)⟩
theorem bQ.Ya (h:bQ G β V b w) {w':World} (hk:Kept (fun _=>False) w w'):bQ G β V b w':=
 h.re (t':=b.t) hk (h.hold' (hk.mono fun _ hc=>hc.elim)) (fun _ _ _ _ hc=>hc) (by rw[hk.block _ (lt_of_heap h.top) id];exact h.top)
theorem xZ {on:Nat→Prop} {β1:Nat→Nat} {w w':World} {st:AS} {tm:Array Value} (g:aO G ⟨on,β1⟩ w G st β1 G tm w) (hw:G.holds w') {S:Nat→Prop} (hk:Kept S w w') (hS:∀s l,st.box s=some l→Live β1 s l∧¬S (blk β1 s)):aO G ⟨on,β1⟩ w' G st β1 G tm w':=by
 have hlt:∀s l,st.box s=some l→blk β1 s<w.heap.size:=fun s l hs=>Own.lt (hS s l hs).1 (g.box s l hs).2
 refine⟨g.glob,hw,IH.le.refl _,fun _ _ _=>⟨fun _=>rfl,rfl⟩,Kept.refl _ _,g.fix,g.size,g.regs,fun s l hs=>⟨fun hv=>?_,?_⟩,g.inj⟩
 ·obtain ⟨q,r⟩:=(g.box s l hs).1 hv
  exact⟨.inl (q.resolve_right (by have:=hlt s l hs;omega)),r⟩
 ·rw[hk.block _ (hlt s l hs) (hS s l hs).2];exact(g.box s l hs).2
abbrev DI (b:Bk) (V:Nat→Option Addr×Nat):List AV:=[.d (di b.t),.d (.con (.slice (V 1).1 b.es.length (V 1).2))]
theorem bQ.addTop (h:bQ G β V b w) {rs:List AV} {bs:List (Nat×List AV)} {on:Nat→Prop} {β1:Nat→Nat} {tm:Array Value} (g:aO G ⟨on,β1⟩ w G ⟨rs,bs⟩ β1 G tm w) (hfr:AV.frees 1000000 rs=true) (hfb:(bs.all fun p=>AV.frees 1000000 p.2&&!(Nat.beq p.1 1000000))=true)
  (hd:∀t l,Go.Ab.look bs t=some l→Live β1 t l→blk β1 t≠blk β 0):aO G ⟨fun k=>on k∨k=blk β 0,upd β1 1000000 (blk β 0) (room β 0) 0⟩ w G ⟨rs,(1000000,DI b V) :: bs⟩ (upd β1 1000000 (blk β 0) (room β 0) 0) G tm w:=by
 refine g.more hfr hfb ?_ (fun _=>h.unk 0 (by omega) (.inl rfl)) hd
 refine⟨⟨room β 0,by rw[aH]⟩,[.int .i64 b.t,sv V 1 b.es.length],by rw[h.top],?_⟩
 exact⟨_,_,rfl,rfl,_,_,rfl,rfl,rfl⟩
theorem Pg {F:Fr} {w0 w':World} {h0 hh k:IH} {st:AS} {β':Nat→Nat} {tm:Array Value} (g:aO k F w0 h0 st β' hh tm w') {c r:Nat} (h1:blk F.β0 1000000=c) (h2:room F.β0 1000000=r) {t:Int} {u:Value} (hb:st.box 1000000=some [.d (di t),.d (.con u)]):w'.heap[c]?=some (.cells #[.int .i64 t,u] r (0,0)):=by
 obtain ⟨f1,f2,_⟩:=g.fix 1000000 (by decide)
 obtain ⟨⟨T,hT⟩,vs,ho,v0,vs1,rfl,r0,v1,vs2,rfl,r1,r2⟩:=(g.box 1000000 _ hb).2
 have r2:vs2=[]:=r2
 have r0:v0=.int .i64 t:=r0
 have r1:v1=u:=r1
 subst r2 r0 r1
 have hT:T=r:=hT.trans (f2.trans h2)
 subst hT
 rw[f1,h1] at ho
 exact ho
abbrev Gh (κ:Int) (e:Ev):List AV:=[.d (di κ),.d (ds e.k.st),.d (ds e.k.ex),.d (di e.k.n),.d (di e.t),.d (di e.v),.d (di e.h),.d (ds e.s),.d (db e.acc)]
abbrev fM (β:Nat→Nat):Value:=.pointer (some ⟨blk β 0,0,none⟩)
noncomputable def aaY (β:Nat→Nat) (b:Bk) (V:Nat→Option Addr×Nat) (κ:Int) (e:Ev) (code:Int):AS:=⟨regs Tryz.f45.ntmps [(0,.d (.con (fM β))),(3,.box 3 0),(52,.d (di code))],[(1000000,DI b V),(3,Gh κ e)]⟩
noncomputable def adv (β:Nat→Nat) (b:Bk) (V:Nat→Option Addr×Nat) (κ:Int) (e:Ev) (code:Int):AS:=⟨regs Tryz.f45.ntmps [(0,.d (.con (fM β))),(3,.box 3 0),(8,.d (di code))],[(1000000,DI b V),(3,Gh κ e)]⟩
def FW:Nat→Option AV
 | 35=>some (.box 1000000 0)
 | 49=>some (.box 1000000 0)
 | 56=>some (.box 1000000 0)
 | _=>none
theorem pI {F:Fr} (h1:blk F.β0 1000000=blk β 0):bT G F (.d (.con (fM β))) (.box 1000000 0):=by
 intro β1 h2 v _ hf r
 have r:v=_:=r
 subst r
 show _=_
 rw[(hf 1000000 (by decide)).1,h1]
theorem acH {F:Fr} {β':Nat→Nat} {V':Nat→Option Addr×Nat} {bX:Bk} {κ:Int} {e:Ev} {code:Int} {w2:World} (h1:blk F.β0 1000000=blk β 0) (h2:room F.β0 1000000=room β' 0) (h0':blk β' 0=blk β 0) (hB:bQ G β' V' bX w2) (hon:∀c,F.on c→c=blk β 0∨w.heap.size≤c)
  (hk:Kept (fun c=>iF β b.es.length c∨w.heap.size≤c) w w2) (hbl:∀c,iF β' bX.es.length c→iF β b.es.length c∨w.heap.size≤c) (hc:code=dL b e) (hX0:code=0→bX.es=dY b.es e) (hX1:code≠0→bX=b)
  (hown:∀c,F.on c→c≠blk β 0→¬iF β' bX.es.length c) :
  dV Tryz.prog G F w2 G (opsOf (aU (au Tryz.f45) [1,1,1,1,1,0,0])).toList 8 (1+0) (aaY β bX V' κ e code) (wpS Tryz.prog [cd Tryz.f45 [1,1,1,1,1,0,1],cd Tryz.f45 [1,1,1,1,1,1]] (aS Tryz.prog Tryz.f45 (jr G β b e w))):=by
 refine dV.tree (aj:={ d:=bG }) ?_
 refine iG (b:=aP G F w2 G (iP Tryz.prog (opsOf (aU (au Tryz.f45) [1,1,1,1,1,0,0])).toList (8+1) 0 (wpS Tryz.prog [cd Tryz.f45 [1,1,1,1,1,0,1],cd Tryz.f45 [1,1,1,1,1,1]] (aS Tryz.prog Tryz.f45 (jr G β b e w)))) .normal ⟨regs 62 [(0,(.d (.con (.pointer (some (Addr.mk (β (3*0)) 0 none)))))),(3,(.box 3 0)),(8,(vi code)),(52,(vi code))],[(1000000,[(vi bX.t),(.d (.con (.slice (V' 1).fst bX.es.length (V' 1).snd)))]),(3,[(vi κ),(vs e.k.st),(vs e.k.ex),(vi e.k.n),(vi e.t),(vi e.v),(vi e.h),(vs e.s),(vb e.acc)])]⟩) (by kernel_rfl) ?_
 refine aP.kP ?_
 refine aK.weaken (st':=adv β bX V' κ e code) ?_ ?_
 ·exact AS.bD (by kernel_rfl)
 refine dX (aj:={ d:=bG }) follows FW (cuts:=[]) (n:=1000) ?_
 refine je ((.d (.con (.pointer (some (Addr.mk (β (3*0)) 0 none))))):AV) (fun Za=>((((code != 0)=true)→aP G F w2 G (aS Tryz.prog Tryz.f45 (jr G β b e w)) .ret ⟨regs 62 [(0,Za),(3,(.box 3 0)),(4,(vi code)),(8,(vi code)),(53,(vi code)),(54,(vb (code != 0))),(55,(vi code))],[(1000000,[(vi bX.t),(.d (.con (.slice (V' 1).fst bX.es.length (V' 1).snd)))]),(3,[(vi κ),(vs e.k.st),(vs e.k.ex),(vi e.k.n),(vi e.t),(vi e.v),(vi e.h),(vs e.s),(vb e.acc)])]⟩)∧(((code != 0)=false)→(bT G F Za (.box 1000000 0)∧aP G F w2 G (aS Tryz.prog Tryz.f45 (jr G β b e w)) .ret ⟨regs 62 [(0,Za),(3,(.box 3 0)),(4,(vi 0)),(8,(vi code)),(53,(vi code)),(54,(vb (code != 0))),(56,(.box 1000000 0)),(57,(.box 3 4)),(58,(vi e.t)),(59,(.box 1000000 0)),(60,(.box 1000000 0)),(61,(.box 1000000 0))],[(1000000,[(vi e.t),(.d (.con (.slice (V' 1).fst bX.es.length (V' 1).snd)))]),(3,[(vi κ),(vs e.k.st),(vs e.k.ex),(vi e.k.n),(vi e.t),(vi e.v),(vi e.h),(vs e.s),(vb e.acc)])]⟩)))) (by kernel_rfl) ?_
 try dsimp only
 have yU:∀(st:AS) (t:Int),st.box 1000000=some [.d (di t),.d (.con (sv V' 1 bX.es.length))]→iM Tryz.prog st Tryz.f45.results.toList=some [.d (di code)]→(⟨t,bX.es⟩:Bk)=(if dL b e=0 then gQ b e else b)→aP G F w2 G (aS Tryz.prog Tryz.f45 (jr G β b e w)) .ret st:=by
  intro st t hb hr hX
  refine aP.ret rfl hr fun β1 k tm w' v g1 hv=>?_
  have hv:v=.int .i64 code:=hv
  subst hv
  have ht:=Pg g1 h1 h2 hb
  have hB':=hB.re (t':=t) g1.kept (yM g1 (IH.le.refl G)) (fun s q1 q2 q3 q4=>by
   by_cases q5:blk β' s=blk β 0
   ·exact q1 (hB.inj s 0 q2 (by omega) q3 (.inl rfl) (q5.trans h0'.symm))
   ·exact hown _ q4 q5 ⟨s,q2,q3,rfl⟩) (by rw[h0'];exact ht)
  unfold jr
  rw[←hX,←hc]
  exact⟨rfl,iL (hk.trans (g1.kept.mono fun c hc=>(hon c hc).imp (fun q=>⟨0,by omega,.inl rfl,q.symm⟩) id)),β',V',h0',hB',hbl⟩
 refine⟨fun c=>?_,fun c=>⟨pI h1,?_⟩⟩
 ·have c:code≠0:=by simpa using c
  refine yU _ bX.t rfl rfl ?_
  rw[if_neg (by rw[←hc];exact c),hX1 c]
 ·have c:code=0:=by simpa using c
  subst c
  refine yU _ e.t rfl rfl ?_
  rw[if_pos hc.symm,hX0 rfl];rfl
abbrev XQ (κ:Int) (e:Ev):DV:=.agg [di κ,ds e.k.st,ds e.k.ex,di e.k.n,di e.t,di e.v,di e.h,ds e.s,db e.acc]
abbrev Tq:List AV:=[.d (.con (.func (.func 76) ⟨[]⟩ ⟨[]⟩)),.d (.con (.func (.func 77) ⟨[]⟩ ⟨[]⟩)),.d (.con (.func (.func 78) ⟨[]⟩ ⟨[]⟩)),.d (.con (.func (.func 79) ⟨[]⟩ ⟨[]⟩))]
noncomputable def zM (β:Nat→Nat) (b:Bk) (V:Nat→Option Addr×Nat) (κ:Int) (e:Ev) (y:AV):AS:=⟨regs Tryz.f45.ntmps [(0,.d (.con (fM β))),(3,.box 3 0),(5,.box 5 0),(6,y)],[(1000000,DI b V),(5,Tq),(3,Gh κ e)]⟩
noncomputable def EJ (β:Nat→Nat) (b:Bk) (V:Nat→Option Addr×Nat) (κ:Int) (e:Ev) (g:FuncId) (y:AV):AS:=⟨regs Tryz.f45.ntmps [(0,.d (.con (fM β))),(3,.box 3 0),(48,.d (.con (.func (.func g) ⟨[]⟩ ⟨[]⟩))),(49,.box 1000000 0),(50,.d (XQ κ e)),(51,y)],[(1000000,DI b V),(3,Gh κ e)]⟩
noncomputable def O1 (β:Nat→Nat) (κ:Int) (e:Ev):AS:=⟨regs Tryz.f45.ntmps [(0,.d (.con (fM β))),(3,.box 3 0)],[(3,Gh κ e)]⟩
theorem Ji {F:Fr} {bX:Bk} {κ:Int} {e:Ev} {code:Int} {w1:World} {g:FuncId} {y:AV} (h1:blk F.β0 1000000=blk β 0) (h2:room F.β0 1000000=room β 0) (hB:bQ G β V b w1) (hon:∀c,F.on c→c=blk β 0∨w.heap.size≤c) (hF:∀c,F.on c→c≠blk β 0→¬iF β b.es.length c) (hk0:Kept (fun _=>False) w w1)
  (hc:code=dL b e) (hX0:code=0→bX.es=dY b.es e) (hX1:code≠0→bX=b) (hg:∀(us:Array Value) (w:World),(callFunc g us).run Tryz.prog w=.ok (.enter g us) w)
  (hcall:∀(w2:World) (β1:Nat→Nat) (hh:IH) (ev yv:Value),(∀s,K0≤s→blk β1 s=blk F.β0 s∧room β1 s=room F.β0 s∧many β1 s=many F.β0 s)→bQ G β V b w2→DV.rel G (XQ κ e) ev→y.rel β1 hh yv→Calls Tryz.prog g #[fM β,ev,yv] w2 fun r w'=>∃v,r=.returned v∧PostB G β b bX w2 code v w') :
  dV Tryz.prog G F w1 G (opsOf (aU (au Tryz.f45) [1,1,1,1,1,0,0])).toList 7 (1+1) (EJ β b V κ e g y) (wpS Tryz.prog [cd Tryz.f45 [1,1,1,1,1,0,1],cd Tryz.f45 [1,1,1,1,1,1]] (aS Tryz.prog Tryz.f45 (jr G β b e w))):=by
 refine dV.call (c:={ callee:=.value (.tmp 48),args:=#[.tmp 49,.tmp 50,.tmp 51],argTypes:=#[73,26,107] }) (g:=g) (a1:=[]) (a2:=[]) (γ:=none) rfl rfl rfl (by kernel_rfl) (fun _ _ _ hq=>by cases hq) (by kernel_rfl) hg ?_
 intro β1 hh a w3 vs g1 hd hvs
 obtain ⟨v0,vs1,rfl,r0,v1,vs2,rfl,r1,v2,vs3,rfl,r2,r3⟩:=hvs
 have r3:vs3=[]:=r3
 subst r3
 obtain ⟨f1,f2,_⟩:=g1.fix 1000000 (by decide)
 have r0:v0=.pointer (some ⟨blk β1 1000000,0,none⟩):=r0
 rw[f1,h1] at r0
 subst r0
 have r1:DV.rel G (XQ κ e) v1:=DV.kN _ _ rfl r1
 have ET:=yM g1 (IH.le.refl G)
 have ht:=Pg g1 h1 h2 rfl
 have hB3:bQ G β V b w3:=hB.re (t':=b.t) g1.kept ET (fun s q1 q2 q3 q4=>by
  by_cases q5:blk β s=blk β 0
  ·exact q1 (hB.inj s 0 q2 (by omega) q3 (.inl rfl) q5)
  ·exact hF _ q4 q5 ⟨s,q2,q3,rfl⟩) ht
 refine(hcall w3 β1 hh v1 v2 g1.fix hB3 r1 r2).mono ?_
 rintro r w' ⟨v,rfl,hp⟩
 refine⟨v,rfl,?_⟩
 obtain ⟨hpc,hpk,β',V',h0',hB',hbl⟩:=hp
 subst hpc
 -- the aeB block
 have hl3:(EJ β b V κ e g y).box 3=some (Gh κ e):=rfl
 have hl0:(EJ β b V κ e g y).box 1000000=some (DI b V):=rfl
 obtain ⟨q1,q2⟩:=g1.box 3 _ hl3
 obtain ⟨q3,q4,q5⟩:=q1 trivial
 have hlt3:blk β1 3<w3.heap.size:=Own.lt (show Live β1 3 (Gh κ e) from trivial) q2
 have hne:blk β1 3≠blk β 0:=fun hq=>by
  have:=g1.inj 3 1000000 _ _ hl3 hl0 trivial trivial (hq.trans (f1.trans h1).symm)
  exact absurd this (by decide)
 have hs0:w.heap.size≤blk β1 3:=by
  rcases q3 with q|q
  ·exact(hon _ q).resolve_left hne
  ·exact Nat.le_trans hk0.size q
 have hnB:¬iF β b.es.length (blk β1 3):=fun hq=>by
  rcases q3 with q|q
  ·exact hF _ q hne hq
  ·obtain ⟨s,s1,s2,s3⟩:=hq
   have:=hB.lt s1 s2
   omega
 have gz:=g1.weaken (st':=O1 β κ e) (by refine AS.leZ [] [] (b:=((T0∧T0∧True)∧T0∧True)) (by kernel_rfl) (by kernel_rfl) ?_;exact⟨⟨rfl,rfl,trivial⟩,rfl,trivial⟩)
 have hlz:∀s l,(O1 β κ e).box s=some l→s=3∧l=Gh κ e:=by
  intro s l hl
  simp only[O1,AS.box,Go.Ab.look] at hl
  by_cases e2:(3:Nat)=s
  ·subst e2;simp at hl;exact⟨rfl,hl.symm⟩
  ·rw[aQ e2,cond_false] at hl;cases hl
 have ga:=gz.anew (G':=G) (k:=G) (F':=⟨fun c=>c=blk β1 3,β1⟩) (IH.le.refl _) ET (by kernel_rfl) (fun s l hl=>by rw[(hlz s l hl).2];rfl) (fun s l hl _=>by
  rw[(hlz s l hl).1]
  refine⟨fun o=>?_,?_⟩
  ·cases ec:G.cell (blk β1 3) o with
   | none=>rfl
   | some x=>have:=g1.glob.1 _ _ _ ec;rw[q4] at this;cases this
  ·cases ec:G.obj (blk β1 3) with
   | none=>rfl
   | some x=>have:=g1.glob.2 _ _ ec;rw[q5] at this;cases this) (fun s l hl _=>by rw[(hlz s l hl).1]) (fun _ _=>⟨rfl,rfl,rfl⟩)
 have gb:=xZ ga hB'.hold hpk (fun s l hl=>by
  obtain ⟨rfl,rfl⟩:=hlz s l hl
  exact⟨trivial,hnB⟩)
 have gc:=gb.put (t:=some 52) (x:=.d (di code)) (v:=.int .i64 code) rfl
 have gd:=hB'.addTop (rs:=kF (O1 β κ e).regs (some 52) (.d (di code))) (bs:=(O1 β κ e).boxes) gc (by kernel_rfl) (by kernel_rfl) (fun t l hl _=>by
  rw[(hlz t l hl).1,h0'];exact hne)
 have ge:=gd.weaken (st':=aaY β bX V' κ e code) (by refine AS.leZ [] [] (b:=((T0∧T0∧T0∧True)∧T0∧T0∧True)) (by kernel_rfl) (by kernel_rfl) ?_;exact⟨⟨rfl,rfl,rfl,trivial⟩,rfl,rfl,trivial⟩)
 refine acH (F:=⟨fun k=>k=blk β1 3∨k=blk β' 0,upd β1 1000000 (blk β' 0) (room β' 0) 0⟩) (w2:=w') ?_ ?_ h0' hB' (fun c hc=>?_) ?_ (fun c hc=>?_) hc hX0 hX1 (fun c hc hc0 hq=>?_) _ _ _ _ ge hd
 ·show blk (upd _ _ _ _ _) _=_
  rw[aT,h0']
 ·show room (upd _ _ _ _ _) _=_
  rw[aH]
 ·rcases hc with rfl|rfl
  ·exact .inr hs0
  ·exact .inl h0'
 ·refine(hk0.mono fun c hc=>hc.elim).trans ((g1.kept.mono fun c hc=>?_).trans (hpk.mono fun c hc=>.inl hc))
  exact(hon c hc).imp (fun q=>⟨0,by omega,.inl rfl,q.symm⟩) id
 ·refine(hbl c hc).imp id fun q=>?_
  have:=hk0.size
  have:=g1.kept.size
  omega
 ·rcases hc with rfl|rfl
  ·rcases hbl _ hq with q|q
   ·exact hnB q
   ·omega
  ·exact hc0 h0'
noncomputable def zQ (β:Nat→Nat) (b:Bk) (V:Nat→Option Addr×Nat) (κ:Int) (e:Ev) (idx:Int):AS:=⟨regs Tryz.f45.ntmps [(0,.d (.con (fM β))),(3,.box 3 0),(5,.box 5 0),(6,.d (.con (.pointer none))),(7,.d (di idx))],[(1000000,DI b V),(5,Tq),(3,Gh κ e)]⟩
def zq (n:Nat):Nat→Option AV
 | 35=>some (.box 1000000 0)
 | 39=>some (.vec 1000001 7 0 n)
 | 49=>some (.box 1000000 0)
 | 56=>some (.box 1000000 0)
 | _=>none
structure kX (G:IH) (β:Nat→Nat) (V:Nat→Option Addr×Nat) (b:Bk) (w:World) (F:Fr) (w1:World):Prop where
 h1:blk F.β0 1000000=blk β 0
 h2:room F.β0 1000000=room β 0
 n1:blk F.β0 1000001=blk β 1∧room F.β0 1000001=room β 1∧many F.β0 1000001=b.es.length
 hB:bQ G β V b w1
 hon:∀c,F.on c→c=blk β 0∨w.heap.size≤c
 hF:∀c,F.on c→c≠blk β 0→¬iF β b.es.length c
 hk0:Kept (fun _=>False) w w1
structure nJ (G:IH) (β:Nat→Nat) (V:Nat→Option Addr×Nat) (b:Bk) (F:Fr) (κ:Int) (e:Ev) (g:FuncId) (y:AV) (code:Int) (bX:Bk):Prop where
 hc:code=dL b e
 hX0:code=0→bX.es=dY b.es e
 hX1:code≠0→bX=b
 hg:∀(us:Array Value) (w:World),(callFunc g us).run Tryz.prog w=.ok (.enter g us) w
 hcall:∀(w2:World) (β1:Nat→Nat) (hh:IH) (ev yv:Value),(∀s,K0≤s→blk β1 s=blk F.β0 s∧room β1 s=room F.β0 s∧many β1 s=many F.β0 s)→bQ G β V b w2→DV.rel G (XQ κ e) ev→y.rel β1 hh yv→Calls Tryz.prog g #[fM β,ev,yv] w2 fun r w'=>∃v,r=.returned v∧PostB G β b bX w2 code v w'
theorem FV {F:Fr} {w1:World} (q:kX G β V b w F w1):bT G F (.d (.con (.slice (V 1).1 b.es.length (V 1).2))) (.vec 1000001 7 0 b.es.length):=by
 have hva:=q.hB.ent
 have hv:=hva.val
 have hmr:=hva.row.1.1
 intro β1 h1 u _ hf r
 have r:u=_:=r
 subst r
 obtain ⟨f1,f2,f3⟩:=hf 1000001 (by decide)
 obtain ⟨c1,c2,c3⟩:=q.n1
 obtain ⟨p,hp,hpp⟩:=hv
 simp only[Value.slice.injEq,true_and] at hp
 obtain ⟨e1,e2⟩:=hp
 refine⟨by rw[f3,c3];omega,by rw[f2,f3,c2,c3];exact hmr,p,?_,?_⟩
 ·rw[f2,c2,e1,e2];rfl
 ·rw[f1,f2,c1,c2,Nat.zero_mul]
  exact hpp.imp id fun e=>by omega
theorem NU {F:Fr} {w1:World} {e:Ev} {code:Int} (q:kX G β V b w F w1) {st:AS} (hb:st.box 1000000=some (DI b V)) (hr:iM Tryz.prog st Tryz.f45.results.toList=some [.d (di code)]) (hc:dL b e=code) (h0:code≠0):aP G F w1 G (aS Tryz.prog Tryz.f45 (jr G β b e w)) .ret st:=by
 refine aP.ret rfl hr fun β1 k tm w' v g1 hv=>?_
 have hv:v=.int .i64 code:=hv
 subst hv
 have ht:=Pg g1 q.h1 q.h2 hb
 have hB':=q.hB.re (t':=b.t) g1.kept (yM g1 (IH.le.refl G)) (fun s q1 q2 q3 q4=>by
  by_cases q5:blk β s=blk β 0
  ·exact q1 (q.hB.inj s 0 q2 (by omega) q3 (.inl rfl) q5)
  ·exact q.hF _ q4 q5 ⟨s,q2,q3,rfl⟩) ht
 unfold jr
 rw[hc,if_neg h0]
 exact⟨rfl,iL ((q.hk0.mono fun c hc=>hc.elim).trans (g1.kept.mono fun c hc=>(q.hon c hc).imp (fun q=>⟨0,by omega,.inl rfl,q.symm⟩) id)),β,V,rfl,hB',fun _ hc=>.inl hc⟩
theorem YM {F:Fr} {w1:World} {e:Ev} {i:Nat} {code:Int} {bX:Bk} (q:kX G β V b w F w1) (p:nJ G β V b F 0 e 76 (.d (.con (.pointer none))) code bX):aK Tryz.prog G F w1 G [cd Tryz.f45 [1,1,1,1,1,0],cd Tryz.f45 [1,1,1,1,1,1]] (zM β b V 0 e (.d (.con (.pointer none)))) (aS Tryz.prog Tryz.f45 (jr G β b e w)):=by
 refine aK.seq (a:=aU (au Tryz.f45) [1,1,1,1,1,0,0]) (b:=aU (au Tryz.f45) [1,1,1,1,1,0,1]) (by kernel_rfl) ?_
 refine aK.qR (aj:={ d:=bG }) follows FW 7 (by kernel_rfl) ?_
 refine iG (b:=(((((0:Int)≤(0:Int))∧(0<(↑4:Int)))∧bT G F (.d (.con (.pointer (some (Addr.mk (β (3*0)) 0 none))))) (.box 1000000 0))∧aP G F w1 G (iP Tryz.prog (opsOf (aU (au Tryz.f45) [1,1,1,1,1,0,0])).toList 7 ((opsOf (aU (au Tryz.f45) [1,1,1,1,1,0,0])).toList.length-7) (wpS Tryz.prog [It.code (aU (au Tryz.f45) [1,1,1,1,1,0,1]),cd Tryz.f45 [1,1,1,1,1,1]] (aS Tryz.prog Tryz.f45 (jr G β b e w)))) .normal ⟨regs 62 [(0,(.d (.con (.pointer (some (Addr.mk (β (3*0)) 0 none)))))),(3,(.box 3 0)),(5,(.box 5 0)),(6,(.d (.con (.pointer none)))),(45,(.box 3 0)),(46,(vi 0)),(47,(.box 5 0)),(48,(.d (.con (.func (.func 76) ⟨[]⟩ ⟨[]⟩)))),(49,(.box 1000000 0)),(50,(.d (.agg [(di 0),(ds e.k.st),(ds e.k.ex),(di e.k.n),(di e.t),(di e.v),(di e.h),(ds e.s),(db e.acc)]))),(51,(.d (.con (.pointer none))))],[(1000000,[(vi b.t),(.d (.con (.slice (V 1).fst b.es.length (V 1).snd)))]),(5,[(.d (.con (.func (.func 76) ⟨[]⟩ ⟨[]⟩))),(.d (.con (.func (.func 77) ⟨[]⟩ ⟨[]⟩))),(.d (.con (.func (.func 78) ⟨[]⟩ ⟨[]⟩))),(.d (.con (.func (.func 79) ⟨[]⟩ ⟨[]⟩)))]),(3,[(vi 0),(vs e.k.st),(vs e.k.ex),(vi e.k.n),(vi e.t),(vi e.v),(vi e.h),(vs e.s),(vb e.acc)])]⟩)) (by kernel_rfl) ?_
 refine⟨⟨⟨by decide,by decide⟩,pI q.h1⟩,?_⟩
 intro β3 h3 a3 w3 g3 hd3
 have g4:=g3.weaken (st':=EJ β b V 0 e 76 (.d (.con (.pointer none)))) (by refine AS.leZ [] [] (b:=((T0∧T0∧T0∧T0∧T0∧T0∧True)∧T0∧T0∧True)) (by kernel_rfl) (by kernel_rfl) ?_;exact⟨⟨rfl,rfl,rfl,rfl,rfl,rfl,trivial⟩,rfl,rfl,trivial⟩)
 exact(Ji q.h1 q.h2 q.hB q.hon q.hF q.hk0 p.hc p.hX0 p.hX1 p.hg p.hcall) _ _ _ _ g4 hd3
theorem YH {F:Fr} {w1:World} {e:Ev} {i:Nat} {code:Int} {bX:Bk} (q:kX G β V b w F w1) (p:nJ G β V b F 0 e 76 (.elem 1000001 7 i 0) code bX):aK Tryz.prog G F w1 G [cd Tryz.f45 [1,1,1,1,1,0],cd Tryz.f45 [1,1,1,1,1,1]] (zM β b V 0 e (.elem 1000001 7 i 0)) (aS Tryz.prog Tryz.f45 (jr G β b e w)):=by
 refine aK.seq (a:=aU (au Tryz.f45) [1,1,1,1,1,0,0]) (b:=aU (au Tryz.f45) [1,1,1,1,1,0,1]) (by kernel_rfl) ?_
 refine aK.qR (aj:={ d:=bG }) follows FW 7 (by kernel_rfl) ?_
 refine iG (b:=(((((0:Int)≤(0:Int))∧(0<(↑4:Int)))∧bT G F (.d (.con (.pointer (some (Addr.mk (β (3*0)) 0 none))))) (.box 1000000 0))∧aP G F w1 G (iP Tryz.prog (opsOf (aU (au Tryz.f45) [1,1,1,1,1,0,0])).toList 7 ((opsOf (aU (au Tryz.f45) [1,1,1,1,1,0,0])).toList.length-7) (wpS Tryz.prog [It.code (aU (au Tryz.f45) [1,1,1,1,1,0,1]),cd Tryz.f45 [1,1,1,1,1,1]] (aS Tryz.prog Tryz.f45 (jr G β b e w)))) .normal ⟨regs 62 [(0,(.d (.con (.pointer (some (Addr.mk (β (3*0)) 0 none)))))),(3,(.box 3 0)),(5,(.box 5 0)),(6,(.elem 1000001 7 i 0)),(45,(.box 3 0)),(46,(vi 0)),(47,(.box 5 0)),(48,(.d (.con (.func (.func 76) ⟨[]⟩ ⟨[]⟩)))),(49,(.box 1000000 0)),(50,(.d (.agg [(di 0),(ds e.k.st),(ds e.k.ex),(di e.k.n),(di e.t),(di e.v),(di e.h),(ds e.s),(db e.acc)]))),(51,(.elem 1000001 7 i 0))],[(1000000,[(vi b.t),(.d (.con (.slice (V 1).fst b.es.length (V 1).snd)))]),(5,[(.d (.con (.func (.func 76) ⟨[]⟩ ⟨[]⟩))),(.d (.con (.func (.func 77) ⟨[]⟩ ⟨[]⟩))),(.d (.con (.func (.func 78) ⟨[]⟩ ⟨[]⟩))),(.d (.con (.func (.func 79) ⟨[]⟩ ⟨[]⟩)))]),(3,[(vi 0),(vs e.k.st),(vs e.k.ex),(vi e.k.n),(vi e.t),(vi e.v),(vi e.h),(vs e.s),(vb e.acc)])]⟩)) (by kernel_rfl) ?_
 refine⟨⟨⟨by decide,by decide⟩,pI q.h1⟩,?_⟩
 intro β3 h3 a3 w3 g3 hd3
 have g4:=g3.weaken (st':=EJ β b V 0 e 76 (.elem 1000001 7 i 0)) (by refine AS.leZ [] [] (b:=((T0∧T0∧T0∧T0∧T0∧T0∧True)∧T0∧T0∧True)) (by kernel_rfl) (by kernel_rfl) ?_;exact⟨⟨rfl,rfl,rfl,rfl,rfl,rfl,trivial⟩,rfl,rfl,trivial⟩)
 exact(Ji q.h1 q.h2 q.hB q.hon q.hF q.hk0 p.hc p.hX0 p.hX1 p.hg p.hcall) _ _ _ _ g4 hd3
theorem Y1 {F:Fr} {w1:World} {e:Ev} {i:Nat} {code:Int} {bX:Bk} (q:kX G β V b w F w1) (p:nJ G β V b F 1 e 77 (.elem 1000001 7 i 0) code bX):aK Tryz.prog G F w1 G [cd Tryz.f45 [1,1,1,1,1,0],cd Tryz.f45 [1,1,1,1,1,1]] (zM β b V 1 e (.elem 1000001 7 i 0)) (aS Tryz.prog Tryz.f45 (jr G β b e w)):=by
 refine aK.seq (a:=aU (au Tryz.f45) [1,1,1,1,1,0,0]) (b:=aU (au Tryz.f45) [1,1,1,1,1,0,1]) (by kernel_rfl) ?_
 refine aK.qR (aj:={ d:=bG }) follows FW 7 (by kernel_rfl) ?_
 refine iG (b:=(((((0:Int)≤(1:Int))∧(1<(↑4:Int)))∧bT G F (.d (.con (.pointer (some (Addr.mk (β (3*0)) 0 none))))) (.box 1000000 0))∧aP G F w1 G (iP Tryz.prog (opsOf (aU (au Tryz.f45) [1,1,1,1,1,0,0])).toList 7 ((opsOf (aU (au Tryz.f45) [1,1,1,1,1,0,0])).toList.length-7) (wpS Tryz.prog [It.code (aU (au Tryz.f45) [1,1,1,1,1,0,1]),cd Tryz.f45 [1,1,1,1,1,1]] (aS Tryz.prog Tryz.f45 (jr G β b e w)))) .normal ⟨regs 62 [(0,(.d (.con (.pointer (some (Addr.mk (β (3*0)) 0 none)))))),(3,(.box 3 0)),(5,(.box 5 0)),(6,(.elem 1000001 7 i 0)),(45,(.box 3 0)),(46,(vi 1)),(47,(.box 5 1)),(48,(.d (.con (.func (.func 77) ⟨[]⟩ ⟨[]⟩)))),(49,(.box 1000000 0)),(50,(.d (.agg [(di 1),(ds e.k.st),(ds e.k.ex),(di e.k.n),(di e.t),(di e.v),(di e.h),(ds e.s),(db e.acc)]))),(51,(.elem 1000001 7 i 0))],[(1000000,[(vi b.t),(.d (.con (.slice (V 1).fst b.es.length (V 1).snd)))]),(5,[(.d (.con (.func (.func 76) ⟨[]⟩ ⟨[]⟩))),(.d (.con (.func (.func 77) ⟨[]⟩ ⟨[]⟩))),(.d (.con (.func (.func 78) ⟨[]⟩ ⟨[]⟩))),(.d (.con (.func (.func 79) ⟨[]⟩ ⟨[]⟩)))]),(3,[(vi 1),(vs e.k.st),(vs e.k.ex),(vi e.k.n),(vi e.t),(vi e.v),(vi e.h),(vs e.s),(vb e.acc)])]⟩)) (by kernel_rfl) ?_
 refine⟨⟨⟨by decide,by decide⟩,pI q.h1⟩,?_⟩
 intro β3 h3 a3 w3 g3 hd3
 have g4:=g3.weaken (st':=EJ β b V 1 e 77 (.elem 1000001 7 i 0)) (by refine AS.leZ [] [] (b:=((T0∧T0∧T0∧T0∧T0∧T0∧True)∧T0∧T0∧True)) (by kernel_rfl) (by kernel_rfl) ?_;exact⟨⟨rfl,rfl,rfl,rfl,rfl,rfl,trivial⟩,rfl,rfl,trivial⟩)
 exact(Ji q.h1 q.h2 q.hB q.hon q.hF q.hk0 p.hc p.hX0 p.hX1 p.hg p.hcall) _ _ _ _ g4 hd3
theorem Y7 {F:Fr} {w1:World} {e:Ev} {i:Nat} {code:Int} {bX:Bk} (q:kX G β V b w F w1) (p:nJ G β V b F 2 e 78 (.elem 1000001 7 i 0) code bX):aK Tryz.prog G F w1 G [cd Tryz.f45 [1,1,1,1,1,0],cd Tryz.f45 [1,1,1,1,1,1]] (zM β b V 2 e (.elem 1000001 7 i 0)) (aS Tryz.prog Tryz.f45 (jr G β b e w)):=by
 refine aK.seq (a:=aU (au Tryz.f45) [1,1,1,1,1,0,0]) (b:=aU (au Tryz.f45) [1,1,1,1,1,0,1]) (by kernel_rfl) ?_
 refine aK.qR (aj:={ d:=bG }) follows FW 7 (by kernel_rfl) ?_
 refine iG (b:=(((((0:Int)≤(2:Int))∧(2<(↑4:Int)))∧bT G F (.d (.con (.pointer (some (Addr.mk (β (3*0)) 0 none))))) (.box 1000000 0))∧aP G F w1 G (iP Tryz.prog (opsOf (aU (au Tryz.f45) [1,1,1,1,1,0,0])).toList 7 ((opsOf (aU (au Tryz.f45) [1,1,1,1,1,0,0])).toList.length-7) (wpS Tryz.prog [It.code (aU (au Tryz.f45) [1,1,1,1,1,0,1]),cd Tryz.f45 [1,1,1,1,1,1]] (aS Tryz.prog Tryz.f45 (jr G β b e w)))) .normal ⟨regs 62 [(0,(.d (.con (.pointer (some (Addr.mk (β (3*0)) 0 none)))))),(3,(.box 3 0)),(5,(.box 5 0)),(6,(.elem 1000001 7 i 0)),(45,(.box 3 0)),(46,(vi 2)),(47,(.box 5 2)),(48,(.d (.con (.func (.func 78) ⟨[]⟩ ⟨[]⟩)))),(49,(.box 1000000 0)),(50,(.d (.agg [(di 2),(ds e.k.st),(ds e.k.ex),(di e.k.n),(di e.t),(di e.v),(di e.h),(ds e.s),(db e.acc)]))),(51,(.elem 1000001 7 i 0))],[(1000000,[(vi b.t),(.d (.con (.slice (V 1).fst b.es.length (V 1).snd)))]),(5,[(.d (.con (.func (.func 76) ⟨[]⟩ ⟨[]⟩))),(.d (.con (.func (.func 77) ⟨[]⟩ ⟨[]⟩))),(.d (.con (.func (.func 78) ⟨[]⟩ ⟨[]⟩))),(.d (.con (.func (.func 79) ⟨[]⟩ ⟨[]⟩)))]),(3,[(vi 2),(vs e.k.st),(vs e.k.ex),(vi e.k.n),(vi e.t),(vi e.v),(vi e.h),(vs e.s),(vb e.acc)])]⟩)) (by kernel_rfl) ?_
 refine⟨⟨⟨by decide,by decide⟩,pI q.h1⟩,?_⟩
 intro β3 h3 a3 w3 g3 hd3
 have g4:=g3.weaken (st':=EJ β b V 2 e 78 (.elem 1000001 7 i 0)) (by refine AS.leZ [] [] (b:=((T0∧T0∧T0∧T0∧T0∧T0∧True)∧T0∧T0∧True)) (by kernel_rfl) (by kernel_rfl) ?_;exact⟨⟨rfl,rfl,rfl,rfl,rfl,rfl,trivial⟩,rfl,rfl,trivial⟩)
 exact(Ji q.h1 q.h2 q.hB q.hon q.hF q.hk0 p.hc p.hX0 p.hX1 p.hg p.hcall) _ _ _ _ g4 hd3
theorem YE {F:Fr} {w1:World} {e:Ev} {i:Nat} {code:Int} {bX:Bk} (q:kX G β V b w F w1) (p:nJ G β V b F 3 e 79 (.elem 1000001 7 i 0) code bX):aK Tryz.prog G F w1 G [cd Tryz.f45 [1,1,1,1,1,0],cd Tryz.f45 [1,1,1,1,1,1]] (zM β b V 3 e (.elem 1000001 7 i 0)) (aS Tryz.prog Tryz.f45 (jr G β b e w)):=by
 refine aK.seq (a:=aU (au Tryz.f45) [1,1,1,1,1,0,0]) (b:=aU (au Tryz.f45) [1,1,1,1,1,0,1]) (by kernel_rfl) ?_
 refine aK.qR (aj:={ d:=bG }) follows FW 7 (by kernel_rfl) ?_
 refine iG (b:=(((((0:Int)≤(3:Int))∧(3<(↑4:Int)))∧bT G F (.d (.con (.pointer (some (Addr.mk (β (3*0)) 0 none))))) (.box 1000000 0))∧aP G F w1 G (iP Tryz.prog (opsOf (aU (au Tryz.f45) [1,1,1,1,1,0,0])).toList 7 ((opsOf (aU (au Tryz.f45) [1,1,1,1,1,0,0])).toList.length-7) (wpS Tryz.prog [It.code (aU (au Tryz.f45) [1,1,1,1,1,0,1]),cd Tryz.f45 [1,1,1,1,1,1]] (aS Tryz.prog Tryz.f45 (jr G β b e w)))) .normal ⟨regs 62 [(0,(.d (.con (.pointer (some (Addr.mk (β (3*0)) 0 none)))))),(3,(.box 3 0)),(5,(.box 5 0)),(6,(.elem 1000001 7 i 0)),(45,(.box 3 0)),(46,(vi 3)),(47,(.box 5 3)),(48,(.d (.con (.func (.func 79) ⟨[]⟩ ⟨[]⟩)))),(49,(.box 1000000 0)),(50,(.d (.agg [(di 3),(ds e.k.st),(ds e.k.ex),(di e.k.n),(di e.t),(di e.v),(di e.h),(ds e.s),(db e.acc)]))),(51,(.elem 1000001 7 i 0))],[(1000000,[(vi b.t),(.d (.con (.slice (V 1).fst b.es.length (V 1).snd)))]),(5,[(.d (.con (.func (.func 76) ⟨[]⟩ ⟨[]⟩))),(.d (.con (.func (.func 77) ⟨[]⟩ ⟨[]⟩))),(.d (.con (.func (.func 78) ⟨[]⟩ ⟨[]⟩))),(.d (.con (.func (.func 79) ⟨[]⟩ ⟨[]⟩)))]),(3,[(vi 3),(vs e.k.st),(vs e.k.ex),(vi e.k.n),(vi e.t),(vi e.v),(vi e.h),(vs e.s),(vb e.acc)])]⟩)) (by kernel_rfl) ?_
 refine⟨⟨⟨by decide,by decide⟩,pI q.h1⟩,?_⟩
 intro β3 h3 a3 w3 g3 hd3
 have g4:=g3.weaken (st':=EJ β b V 3 e 79 (.elem 1000001 7 i 0)) (by refine AS.leZ [] [] (b:=((T0∧T0∧T0∧T0∧T0∧T0∧True)∧T0∧T0∧True)) (by kernel_rfl) (by kernel_rfl) ?_;exact⟨⟨rfl,rfl,rfl,rfl,rfl,rfl,trivial⟩,rfl,rfl,trivial⟩)
 exact(Ji q.h1 q.h2 q.hB q.hon q.hF q.hk0 p.hc p.hX0 p.hX1 p.hg p.hcall) _ _ _ _ g4 hd3
theorem YG {F:Fr} {w1:World} {e:Ev} {i:Nat} {code:Int} {bX:Bk} (q:kX G β V b w F w1) (p:nJ G β V b F 0 e 76 (.d (.con (.pointer none))) code bX):aK Tryz.prog G F w1 G [cd Tryz.f45 [1,1,1,1,0,1],cd Tryz.f45 [1,1,1,1,1]] (zQ β b V 0 e (-1)) (aS Tryz.prog Tryz.f45 (jr G β b e w)):=by
 refine dX (aj:={ d:=bG }) follows (zq b.es.length) (cuts:=[12]) (n:=1000) ?_
 refine tu ((.d (.con (.pointer (some (Addr.mk (β (3*0)) 0 none))))):AV) ((.d (.con (.slice (V 1).fst b.es.length (V 1).snd))):AV) ((.d (.con (.func (.func 76) ⟨[]⟩ ⟨[]⟩))):AV) ((.d (.con (.func (.func 77) ⟨[]⟩ ⟨[]⟩))):AV) ((.d (.con (.func (.func 78) ⟨[]⟩ ⟨[]⟩))):AV) ((.d (.con (.func (.func 79) ⟨[]⟩ ⟨[]⟩))):AV) (aS Tryz.prog Tryz.f45 (jr G β b e w)) (fun Za Zb Zc Zd Ze Zf Zg=>(((false=true)→((bT G F Za (.box 1000000 0)∧bT G F Zb (.vec 1000001 7 0 b.es.length)∧(0≤-1)∧(-1<(↑b.es.length:Int)))∧aK Tryz.prog G F w1 G [cd Tryz.f45 [1,1,1,1,1,0],cd Tryz.f45 [1,1,1,1,1,1]] ⟨regs 62 [(0,Za),(3,(.box 3 0)),(5,(.box 5 0)),(6,(.elem 1000001 7 0 0)),(7,(vi (-1))),(33,(vi (-1))),(34,(vb false)),(35,(.box 1000000 0)),(36,(.box 1000000 0)),(37,(.box 1000000 0)),(38,(.box 1000000 1)),(39,(.vec 1000001 7 0 b.es.length)),(40,(vi (-1))),(41,(.elem 1000001 7 0 0))],[(1000000,[(vi b.t),Zb]),(5,[Zc,Zd,Ze,Zf]),(3,[(vi 0),(vs e.k.st),(vs e.k.ex),(vi e.k.n),(vi e.t),(vi e.v),(vi e.h),(vs e.s),(vb e.acc)])]⟩ Zg))∧((false=false)→(((false=true)→aP G F w1 G Zg .ret ⟨regs 62 [(0,Za),(3,(.box 3 0)),(4,(vi 7)),(5,(.box 5 0)),(6,(.d (.con (.pointer none)))),(7,(vi (-1))),(33,(vi (-1))),(34,(vb false)),(42,(.box 3 0)),(43,(vi 0)),(44,(vb false))],[(1000000,[(vi b.t),Zb]),(5,[Zc,Zd,Ze,Zf]),(3,[(vi 0),(vs e.k.st),(vs e.k.ex),(vi e.k.n),(vi e.t),(vi e.v),(vi e.h),(vs e.s),(vb e.acc)])]⟩)∧((false=false)→aK Tryz.prog G F w1 G [cd Tryz.f45 [1,1,1,1,1,0],cd Tryz.f45 [1,1,1,1,1,1]] ⟨regs 62 [(0,Za),(3,(.box 3 0)),(5,(.box 5 0)),(6,(.d (.con (.pointer none)))),(7,(vi (-1))),(33,(vi (-1))),(34,(vb false)),(42,(.box 3 0)),(43,(vi 0)),(44,(vb false))],[(1000000,[(vi b.t),Zb]),(5,[Zc,Zd,Ze,Zf]),(3,[(vi 0),(vs e.k.st),(vs e.k.ex),(vi e.k.n),(vi e.t),(vi e.v),(vi e.h),(vs e.s),(vb e.acc)])]⟩ Zg))))) (by kernel_rfl) ?_
 refine⟨fun c=>(by cases c),fun _=>⟨fun c=>(by cases c),fun _=>aK.weaken (st':=zM β b V 0 e (.d (.con (.pointer none)))) ?_ (YM (i:=i) q p)⟩⟩
 exact AS.bD (by kernel_rfl)
theorem Zj {F:Fr} {w1:World} {e:Ev} {i:Nat} {code:Int} {bX:Bk} (q:kX G β V b w F w1) (hi:i<b.es.length) (p:nJ G β V b F 0 e 76 (.elem 1000001 7 i 0) code bX):aK Tryz.prog G F w1 G [cd Tryz.f45 [1,1,1,1,0,1],cd Tryz.f45 [1,1,1,1,1]] (zQ β b V 0 e i) (aS Tryz.prog Tryz.f45 (jr G β b e w)):=by
 refine dX (aj:={ d:=bG }) follows (zq b.es.length) (cuts:=[12]) (n:=1000) ?_
 refine tu ((.d (.con (.pointer (some (Addr.mk (β (3*0)) 0 none))))):AV) ((.d (.con (.slice (V 1).fst b.es.length (V 1).snd))):AV) ((.d (.con (.func (.func 76) ⟨[]⟩ ⟨[]⟩))):AV) ((.d (.con (.func (.func 77) ⟨[]⟩ ⟨[]⟩))):AV) ((.d (.con (.func (.func 78) ⟨[]⟩ ⟨[]⟩))):AV) ((.d (.con (.func (.func 79) ⟨[]⟩ ⟨[]⟩))):AV) (aS Tryz.prog Tryz.f45 (jr G β b e w)) (fun Za Zb Zc Zd Ze Zf Zg=>((((decide ((↑i:Int)≥0))=true)→((bT G F Za (.box 1000000 0)∧bT G F Zb (.vec 1000001 7 0 b.es.length)∧(0≤(↑i:Int))∧((↑i:Int)<↑b.es.length))∧aK Tryz.prog G F w1 G [cd Tryz.f45 [1,1,1,1,1,0],cd Tryz.f45 [1,1,1,1,1,1]] ⟨regs 62 [(0,Za),(3,(.box 3 0)),(5,(.box 5 0)),(6,(.elem 1000001 7 (0+(↑i:Int).toNat) 0)),(7,(vi (↑i))),(33,(vi (↑i))),(34,(vb (decide ((↑i:Int)≥0)))),(35,(.box 1000000 0)),(36,(.box 1000000 0)),(37,(.box 1000000 0)),(38,(.box 1000000 1)),(39,(.vec 1000001 7 0 b.es.length)),(40,(vi (↑i))),(41,(.elem 1000001 7 (0+(↑i:Int).toNat) 0))],[(1000000,[(vi b.t),Zb]),(5,[Zc,Zd,Ze,Zf]),(3,[(vi 0),(vs e.k.st),(vs e.k.ex),(vi e.k.n),(vi e.t),(vi e.v),(vi e.h),(vs e.s),(vb e.acc)])]⟩ Zg))∧(((decide ((↑i:Int)≥0))=false)→(((false=true)→aP G F w1 G Zg .ret ⟨regs 62 [(0,Za),(3,(.box 3 0)),(4,(vi 7)),(5,(.box 5 0)),(6,(.d (.con (.pointer none)))),(7,(vi (↑i))),(33,(vi (↑i))),(34,(vb (decide ((↑i:Int)≥0)))),(42,(.box 3 0)),(43,(vi 0)),(44,(vb false))],[(1000000,[(vi b.t),Zb]),(5,[Zc,Zd,Ze,Zf]),(3,[(vi 0),(vs e.k.st),(vs e.k.ex),(vi e.k.n),(vi e.t),(vi e.v),(vi e.h),(vs e.s),(vb e.acc)])]⟩)∧((false=false)→aK Tryz.prog G F w1 G [cd Tryz.f45 [1,1,1,1,1,0],cd Tryz.f45 [1,1,1,1,1,1]] ⟨regs 62 [(0,Za),(3,(.box 3 0)),(5,(.box 5 0)),(6,(.d (.con (.pointer none)))),(7,(vi (↑i))),(33,(vi (↑i))),(34,(vb (decide ((↑i:Int)≥0)))),(42,(.box 3 0)),(43,(vi 0)),(44,(vb false))],[(1000000,[(vi b.t),Zb]),(5,[Zc,Zd,Ze,Zf]),(3,[(vi 0),(vs e.k.st),(vs e.k.ex),(vi e.k.n),(vi e.t),(vi e.v),(vi e.h),(vs e.s),(vb e.acc)])]⟩ Zg))))) (by kernel_rfl) ?_
 refine⟨fun _=>⟨⟨pI q.h1,FV q,by omega,by omega⟩,aK.weaken (st':=zM β b V 0 e (.elem 1000001 7 i 0)) ?_ (YH q p)⟩,fun c=>absurd (of_decide_eq_false c) (by omega)⟩
 refine AS.leZ [3] [] (b:=((T0∧T0∧T0∧((.elem 1000001 7 (0+(↑i:Int).toNat) 0):AV)=(.elem 1000001 7 i 0)∧True)∧T0∧T0∧T0∧True)) (by kernel_rfl) (by kernel_rfl) ?_
 exact⟨⟨rfl,rfl,rfl,by rw[gW,Nat.zero_add],trivial⟩,rfl,rfl,rfl,trivial⟩
theorem YA {F:Fr} {w1:World} {e:Ev} {i:Nat} {code:Int} {bX:Bk} (q:kX G β V b w F w1) (p:dL b e=7):aK Tryz.prog G F w1 G [cd Tryz.f45 [1,1,1,1,0,1],cd Tryz.f45 [1,1,1,1,1]] (zQ β b V 1 e (-1)) (aS Tryz.prog Tryz.f45 (jr G β b e w)):=by
 refine dX (aj:={ d:=bG }) follows (zq b.es.length) (cuts:=[12]) (n:=1000) ?_
 refine tu ((.d (.con (.pointer (some (Addr.mk (β (3*0)) 0 none))))):AV) ((.d (.con (.slice (V 1).fst b.es.length (V 1).snd))):AV) ((.d (.con (.func (.func 76) ⟨[]⟩ ⟨[]⟩))):AV) ((.d (.con (.func (.func 77) ⟨[]⟩ ⟨[]⟩))):AV) ((.d (.con (.func (.func 78) ⟨[]⟩ ⟨[]⟩))):AV) ((.d (.con (.func (.func 79) ⟨[]⟩ ⟨[]⟩))):AV) (aS Tryz.prog Tryz.f45 (jr G β b e w)) (fun Za Zb Zc Zd Ze Zf Zg=>(((false=true)→((bT G F Za (.box 1000000 0)∧bT G F Zb (.vec 1000001 7 0 b.es.length)∧(0≤-1)∧(-1<(↑b.es.length:Int)))∧aK Tryz.prog G F w1 G [cd Tryz.f45 [1,1,1,1,1,0],cd Tryz.f45 [1,1,1,1,1,1]] ⟨regs 62 [(0,Za),(3,(.box 3 0)),(5,(.box 5 0)),(6,(.elem 1000001 7 0 0)),(7,(vi (-1))),(33,(vi (-1))),(34,(vb false)),(35,(.box 1000000 0)),(36,(.box 1000000 0)),(37,(.box 1000000 0)),(38,(.box 1000000 1)),(39,(.vec 1000001 7 0 b.es.length)),(40,(vi (-1))),(41,(.elem 1000001 7 0 0))],[(1000000,[(vi b.t),Zb]),(5,[Zc,Zd,Ze,Zf]),(3,[(vi 1),(vs e.k.st),(vs e.k.ex),(vi e.k.n),(vi e.t),(vi e.v),(vi e.h),(vs e.s),(vb e.acc)])]⟩ Zg))∧((false=false)→(((true=true)→aP G F w1 G Zg .ret ⟨regs 62 [(0,Za),(3,(.box 3 0)),(4,(vi 7)),(5,(.box 5 0)),(6,(.d (.con (.pointer none)))),(7,(vi (-1))),(33,(vi (-1))),(34,(vb false)),(42,(.box 3 0)),(43,(vi 1)),(44,(vb true))],[(1000000,[(vi b.t),Zb]),(5,[Zc,Zd,Ze,Zf]),(3,[(vi 1),(vs e.k.st),(vs e.k.ex),(vi e.k.n),(vi e.t),(vi e.v),(vi e.h),(vs e.s),(vb e.acc)])]⟩)∧((true=false)→aK Tryz.prog G F w1 G [cd Tryz.f45 [1,1,1,1,1,0],cd Tryz.f45 [1,1,1,1,1,1]] ⟨regs 62 [(0,Za),(3,(.box 3 0)),(5,(.box 5 0)),(6,(.d (.con (.pointer none)))),(7,(vi (-1))),(33,(vi (-1))),(34,(vb false)),(42,(.box 3 0)),(43,(vi 1)),(44,(vb true))],[(1000000,[(vi b.t),Zb]),(5,[Zc,Zd,Ze,Zf]),(3,[(vi 1),(vs e.k.st),(vs e.k.ex),(vi e.k.n),(vi e.t),(vi e.v),(vi e.h),(vs e.s),(vb e.acc)])]⟩ Zg))))) (by kernel_rfl) ?_
 refine⟨fun c=>(by cases c),fun _=>⟨fun _=>NU q rfl rfl p (by decide),fun c=>(by cases c)⟩⟩
theorem Yn {F:Fr} {w1:World} {e:Ev} {i:Nat} {code:Int} {bX:Bk} (q:kX G β V b w F w1) (hi:i<b.es.length) (p:nJ G β V b F 1 e 77 (.elem 1000001 7 i 0) code bX):aK Tryz.prog G F w1 G [cd Tryz.f45 [1,1,1,1,0,1],cd Tryz.f45 [1,1,1,1,1]] (zQ β b V 1 e i) (aS Tryz.prog Tryz.f45 (jr G β b e w)):=by
 refine dX (aj:={ d:=bG }) follows (zq b.es.length) (cuts:=[12]) (n:=1000) ?_
 refine tu ((.d (.con (.pointer (some (Addr.mk (β (3*0)) 0 none))))):AV) ((.d (.con (.slice (V 1).fst b.es.length (V 1).snd))):AV) ((.d (.con (.func (.func 76) ⟨[]⟩ ⟨[]⟩))):AV) ((.d (.con (.func (.func 77) ⟨[]⟩ ⟨[]⟩))):AV) ((.d (.con (.func (.func 78) ⟨[]⟩ ⟨[]⟩))):AV) ((.d (.con (.func (.func 79) ⟨[]⟩ ⟨[]⟩))):AV) (aS Tryz.prog Tryz.f45 (jr G β b e w)) (fun Za Zb Zc Zd Ze Zf Zg=>((((decide ((↑i:Int)≥0))=true)→((bT G F Za (.box 1000000 0)∧bT G F Zb (.vec 1000001 7 0 b.es.length)∧(0≤(↑i:Int))∧((↑i:Int)<↑b.es.length))∧aK Tryz.prog G F w1 G [cd Tryz.f45 [1,1,1,1,1,0],cd Tryz.f45 [1,1,1,1,1,1]] ⟨regs 62 [(0,Za),(3,(.box 3 0)),(5,(.box 5 0)),(6,(.elem 1000001 7 (0+(↑i:Int).toNat) 0)),(7,(vi (↑i))),(33,(vi (↑i))),(34,(vb (decide ((↑i:Int)≥0)))),(35,(.box 1000000 0)),(36,(.box 1000000 0)),(37,(.box 1000000 0)),(38,(.box 1000000 1)),(39,(.vec 1000001 7 0 b.es.length)),(40,(vi (↑i))),(41,(.elem 1000001 7 (0+(↑i:Int).toNat) 0))],[(1000000,[(vi b.t),Zb]),(5,[Zc,Zd,Ze,Zf]),(3,[(vi 1),(vs e.k.st),(vs e.k.ex),(vi e.k.n),(vi e.t),(vi e.v),(vi e.h),(vs e.s),(vb e.acc)])]⟩ Zg))∧(((decide ((↑i:Int)≥0))=false)→(((true=true)→aP G F w1 G Zg .ret ⟨regs 62 [(0,Za),(3,(.box 3 0)),(4,(vi 7)),(5,(.box 5 0)),(6,(.d (.con (.pointer none)))),(7,(vi (↑i))),(33,(vi (↑i))),(34,(vb (decide ((↑i:Int)≥0)))),(42,(.box 3 0)),(43,(vi 1)),(44,(vb true))],[(1000000,[(vi b.t),Zb]),(5,[Zc,Zd,Ze,Zf]),(3,[(vi 1),(vs e.k.st),(vs e.k.ex),(vi e.k.n),(vi e.t),(vi e.v),(vi e.h),(vs e.s),(vb e.acc)])]⟩)∧((true=false)→aK Tryz.prog G F w1 G [cd Tryz.f45 [1,1,1,1,1,0],cd Tryz.f45 [1,1,1,1,1,1]] ⟨regs 62 [(0,Za),(3,(.box 3 0)),(5,(.box 5 0)),(6,(.d (.con (.pointer none)))),(7,(vi (↑i))),(33,(vi (↑i))),(34,(vb (decide ((↑i:Int)≥0)))),(42,(.box 3 0)),(43,(vi 1)),(44,(vb true))],[(1000000,[(vi b.t),Zb]),(5,[Zc,Zd,Ze,Zf]),(3,[(vi 1),(vs e.k.st),(vs e.k.ex),(vi e.k.n),(vi e.t),(vi e.v),(vi e.h),(vs e.s),(vb e.acc)])]⟩ Zg))))) (by kernel_rfl) ?_
 refine⟨fun _=>⟨⟨pI q.h1,FV q,by omega,by omega⟩,aK.weaken (st':=zM β b V 1 e (.elem 1000001 7 i 0)) ?_ (Y1 q p)⟩,fun c=>absurd (of_decide_eq_false c) (by omega)⟩
 refine AS.leZ [3] [] (b:=((T0∧T0∧T0∧((.elem 1000001 7 (0+(↑i:Int).toNat) 0):AV)=(.elem 1000001 7 i 0)∧True)∧T0∧T0∧T0∧True)) (by kernel_rfl) (by kernel_rfl) ?_
 exact⟨⟨rfl,rfl,rfl,by rw[gW,Nat.zero_add],trivial⟩,rfl,rfl,rfl,trivial⟩
theorem YU {F:Fr} {w1:World} {e:Ev} {i:Nat} {code:Int} {bX:Bk} (q:kX G β V b w F w1) (p:dL b e=7):aK Tryz.prog G F w1 G [cd Tryz.f45 [1,1,1,1,0,1],cd Tryz.f45 [1,1,1,1,1]] (zQ β b V 2 e (-1)) (aS Tryz.prog Tryz.f45 (jr G β b e w)):=by
 refine dX (aj:={ d:=bG }) follows (zq b.es.length) (cuts:=[12]) (n:=1000) ?_
 refine tu ((.d (.con (.pointer (some (Addr.mk (β (3*0)) 0 none))))):AV) ((.d (.con (.slice (V 1).fst b.es.length (V 1).snd))):AV) ((.d (.con (.func (.func 76) ⟨[]⟩ ⟨[]⟩))):AV) ((.d (.con (.func (.func 77) ⟨[]⟩ ⟨[]⟩))):AV) ((.d (.con (.func (.func 78) ⟨[]⟩ ⟨[]⟩))):AV) ((.d (.con (.func (.func 79) ⟨[]⟩ ⟨[]⟩))):AV) (aS Tryz.prog Tryz.f45 (jr G β b e w)) (fun Za Zb Zc Zd Ze Zf Zg=>(((false=true)→((bT G F Za (.box 1000000 0)∧bT G F Zb (.vec 1000001 7 0 b.es.length)∧(0≤-1)∧(-1<(↑b.es.length:Int)))∧aK Tryz.prog G F w1 G [cd Tryz.f45 [1,1,1,1,1,0],cd Tryz.f45 [1,1,1,1,1,1]] ⟨regs 62 [(0,Za),(3,(.box 3 0)),(5,(.box 5 0)),(6,(.elem 1000001 7 0 0)),(7,(vi (-1))),(33,(vi (-1))),(34,(vb false)),(35,(.box 1000000 0)),(36,(.box 1000000 0)),(37,(.box 1000000 0)),(38,(.box 1000000 1)),(39,(.vec 1000001 7 0 b.es.length)),(40,(vi (-1))),(41,(.elem 1000001 7 0 0))],[(1000000,[(vi b.t),Zb]),(5,[Zc,Zd,Ze,Zf]),(3,[(vi 2),(vs e.k.st),(vs e.k.ex),(vi e.k.n),(vi e.t),(vi e.v),(vi e.h),(vs e.s),(vb e.acc)])]⟩ Zg))∧((false=false)→(((true=true)→aP G F w1 G Zg .ret ⟨regs 62 [(0,Za),(3,(.box 3 0)),(4,(vi 7)),(5,(.box 5 0)),(6,(.d (.con (.pointer none)))),(7,(vi (-1))),(33,(vi (-1))),(34,(vb false)),(42,(.box 3 0)),(43,(vi 2)),(44,(vb true))],[(1000000,[(vi b.t),Zb]),(5,[Zc,Zd,Ze,Zf]),(3,[(vi 2),(vs e.k.st),(vs e.k.ex),(vi e.k.n),(vi e.t),(vi e.v),(vi e.h),(vs e.s),(vb e.acc)])]⟩)∧((true=false)→aK Tryz.prog G F w1 G [cd Tryz.f45 [1,1,1,1,1,0],cd Tryz.f45 [1,1,1,1,1,1]] ⟨regs 62 [(0,Za),(3,(.box 3 0)),(5,(.box 5 0)),(6,(.d (.con (.pointer none)))),(7,(vi (-1))),(33,(vi (-1))),(34,(vb false)),(42,(.box 3 0)),(43,(vi 2)),(44,(vb true))],[(1000000,[(vi b.t),Zb]),(5,[Zc,Zd,Ze,Zf]),(3,[(vi 2),(vs e.k.st),(vs e.k.ex),(vi e.k.n),(vi e.t),(vi e.v),(vi e.h),(vs e.s),(vb e.acc)])]⟩ Zg))))) (by kernel_rfl) ?_
 refine⟨fun c=>(by cases c),fun _=>⟨fun _=>NU q rfl rfl p (by decide),fun c=>(by cases c)⟩⟩
theorem Yy {F:Fr} {w1:World} {e:Ev} {i:Nat} {code:Int} {bX:Bk} (q:kX G β V b w F w1) (hi:i<b.es.length) (p:nJ G β V b F 2 e 78 (.elem 1000001 7 i 0) code bX):aK Tryz.prog G F w1 G [cd Tryz.f45 [1,1,1,1,0,1],cd Tryz.f45 [1,1,1,1,1]] (zQ β b V 2 e i) (aS Tryz.prog Tryz.f45 (jr G β b e w)):=by
 refine dX (aj:={ d:=bG }) follows (zq b.es.length) (cuts:=[12]) (n:=1000) ?_
 refine tu ((.d (.con (.pointer (some (Addr.mk (β (3*0)) 0 none))))):AV) ((.d (.con (.slice (V 1).fst b.es.length (V 1).snd))):AV) ((.d (.con (.func (.func 76) ⟨[]⟩ ⟨[]⟩))):AV) ((.d (.con (.func (.func 77) ⟨[]⟩ ⟨[]⟩))):AV) ((.d (.con (.func (.func 78) ⟨[]⟩ ⟨[]⟩))):AV) ((.d (.con (.func (.func 79) ⟨[]⟩ ⟨[]⟩))):AV) (aS Tryz.prog Tryz.f45 (jr G β b e w)) (fun Za Zb Zc Zd Ze Zf Zg=>((((decide ((↑i:Int)≥0))=true)→((bT G F Za (.box 1000000 0)∧bT G F Zb (.vec 1000001 7 0 b.es.length)∧(0≤(↑i:Int))∧((↑i:Int)<↑b.es.length))∧aK Tryz.prog G F w1 G [cd Tryz.f45 [1,1,1,1,1,0],cd Tryz.f45 [1,1,1,1,1,1]] ⟨regs 62 [(0,Za),(3,(.box 3 0)),(5,(.box 5 0)),(6,(.elem 1000001 7 (0+(↑i:Int).toNat) 0)),(7,(vi (↑i))),(33,(vi (↑i))),(34,(vb (decide ((↑i:Int)≥0)))),(35,(.box 1000000 0)),(36,(.box 1000000 0)),(37,(.box 1000000 0)),(38,(.box 1000000 1)),(39,(.vec 1000001 7 0 b.es.length)),(40,(vi (↑i))),(41,(.elem 1000001 7 (0+(↑i:Int).toNat) 0))],[(1000000,[(vi b.t),Zb]),(5,[Zc,Zd,Ze,Zf]),(3,[(vi 2),(vs e.k.st),(vs e.k.ex),(vi e.k.n),(vi e.t),(vi e.v),(vi e.h),(vs e.s),(vb e.acc)])]⟩ Zg))∧(((decide ((↑i:Int)≥0))=false)→(((true=true)→aP G F w1 G Zg .ret ⟨regs 62 [(0,Za),(3,(.box 3 0)),(4,(vi 7)),(5,(.box 5 0)),(6,(.d (.con (.pointer none)))),(7,(vi (↑i))),(33,(vi (↑i))),(34,(vb (decide ((↑i:Int)≥0)))),(42,(.box 3 0)),(43,(vi 2)),(44,(vb true))],[(1000000,[(vi b.t),Zb]),(5,[Zc,Zd,Ze,Zf]),(3,[(vi 2),(vs e.k.st),(vs e.k.ex),(vi e.k.n),(vi e.t),(vi e.v),(vi e.h),(vs e.s),(vb e.acc)])]⟩)∧((true=false)→aK Tryz.prog G F w1 G [cd Tryz.f45 [1,1,1,1,1,0],cd Tryz.f45 [1,1,1,1,1,1]] ⟨regs 62 [(0,Za),(3,(.box 3 0)),(5,(.box 5 0)),(6,(.d (.con (.pointer none)))),(7,(vi (↑i))),(33,(vi (↑i))),(34,(vb (decide ((↑i:Int)≥0)))),(42,(.box 3 0)),(43,(vi 2)),(44,(vb true))],[(1000000,[(vi b.t),Zb]),(5,[Zc,Zd,Ze,Zf]),(3,[(vi 2),(vs e.k.st),(vs e.k.ex),(vi e.k.n),(vi e.t),(vi e.v),(vi e.h),(vs e.s),(vb e.acc)])]⟩ Zg))))) (by kernel_rfl) ?_
 refine⟨fun _=>⟨⟨pI q.h1,FV q,by omega,by omega⟩,aK.weaken (st':=zM β b V 2 e (.elem 1000001 7 i 0)) ?_ (Y7 q p)⟩,fun c=>absurd (of_decide_eq_false c) (by omega)⟩
 refine AS.leZ [3] [] (b:=((T0∧T0∧T0∧((.elem 1000001 7 (0+(↑i:Int).toNat) 0):AV)=(.elem 1000001 7 i 0)∧True)∧T0∧T0∧T0∧True)) (by kernel_rfl) (by kernel_rfl) ?_
 exact⟨⟨rfl,rfl,rfl,by rw[gW,Nat.zero_add],trivial⟩,rfl,rfl,rfl,trivial⟩
theorem Ym {F:Fr} {w1:World} {e:Ev} {i:Nat} {code:Int} {bX:Bk} (q:kX G β V b w F w1) (p:dL b e=7):aK Tryz.prog G F w1 G [cd Tryz.f45 [1,1,1,1,0,1],cd Tryz.f45 [1,1,1,1,1]] (zQ β b V 3 e (-1)) (aS Tryz.prog Tryz.f45 (jr G β b e w)):=by
 refine dX (aj:={ d:=bG }) follows (zq b.es.length) (cuts:=[12]) (n:=1000) ?_
 refine tu ((.d (.con (.pointer (some (Addr.mk (β (3*0)) 0 none))))):AV) ((.d (.con (.slice (V 1).fst b.es.length (V 1).snd))):AV) ((.d (.con (.func (.func 76) ⟨[]⟩ ⟨[]⟩))):AV) ((.d (.con (.func (.func 77) ⟨[]⟩ ⟨[]⟩))):AV) ((.d (.con (.func (.func 78) ⟨[]⟩ ⟨[]⟩))):AV) ((.d (.con (.func (.func 79) ⟨[]⟩ ⟨[]⟩))):AV) (aS Tryz.prog Tryz.f45 (jr G β b e w)) (fun Za Zb Zc Zd Ze Zf Zg=>(((false=true)→((bT G F Za (.box 1000000 0)∧bT G F Zb (.vec 1000001 7 0 b.es.length)∧(0≤-1)∧(-1<(↑b.es.length:Int)))∧aK Tryz.prog G F w1 G [cd Tryz.f45 [1,1,1,1,1,0],cd Tryz.f45 [1,1,1,1,1,1]] ⟨regs 62 [(0,Za),(3,(.box 3 0)),(5,(.box 5 0)),(6,(.elem 1000001 7 0 0)),(7,(vi (-1))),(33,(vi (-1))),(34,(vb false)),(35,(.box 1000000 0)),(36,(.box 1000000 0)),(37,(.box 1000000 0)),(38,(.box 1000000 1)),(39,(.vec 1000001 7 0 b.es.length)),(40,(vi (-1))),(41,(.elem 1000001 7 0 0))],[(1000000,[(vi b.t),Zb]),(5,[Zc,Zd,Ze,Zf]),(3,[(vi 3),(vs e.k.st),(vs e.k.ex),(vi e.k.n),(vi e.t),(vi e.v),(vi e.h),(vs e.s),(vb e.acc)])]⟩ Zg))∧((false=false)→(((true=true)→aP G F w1 G Zg .ret ⟨regs 62 [(0,Za),(3,(.box 3 0)),(4,(vi 7)),(5,(.box 5 0)),(6,(.d (.con (.pointer none)))),(7,(vi (-1))),(33,(vi (-1))),(34,(vb false)),(42,(.box 3 0)),(43,(vi 3)),(44,(vb true))],[(1000000,[(vi b.t),Zb]),(5,[Zc,Zd,Ze,Zf]),(3,[(vi 3),(vs e.k.st),(vs e.k.ex),(vi e.k.n),(vi e.t),(vi e.v),(vi e.h),(vs e.s),(vb e.acc)])]⟩)∧((true=false)→aK Tryz.prog G F w1 G [cd Tryz.f45 [1,1,1,1,1,0],cd Tryz.f45 [1,1,1,1,1,1]] ⟨regs 62 [(0,Za),(3,(.box 3 0)),(5,(.box 5 0)),(6,(.d (.con (.pointer none)))),(7,(vi (-1))),(33,(vi (-1))),(34,(vb false)),(42,(.box 3 0)),(43,(vi 3)),(44,(vb true))],[(1000000,[(vi b.t),Zb]),(5,[Zc,Zd,Ze,Zf]),(3,[(vi 3),(vs e.k.st),(vs e.k.ex),(vi e.k.n),(vi e.t),(vi e.v),(vi e.h),(vs e.s),(vb e.acc)])]⟩ Zg))))) (by kernel_rfl) ?_
 refine⟨fun c=>(by cases c),fun _=>⟨fun _=>NU q rfl rfl p (by decide),fun c=>(by cases c)⟩⟩
theorem Y5 {F:Fr} {w1:World} {e:Ev} {i:Nat} {code:Int} {bX:Bk} (q:kX G β V b w F w1) (hi:i<b.es.length) (p:nJ G β V b F 3 e 79 (.elem 1000001 7 i 0) code bX):aK Tryz.prog G F w1 G [cd Tryz.f45 [1,1,1,1,0,1],cd Tryz.f45 [1,1,1,1,1]] (zQ β b V 3 e i) (aS Tryz.prog Tryz.f45 (jr G β b e w)):=by
 refine dX (aj:={ d:=bG }) follows (zq b.es.length) (cuts:=[12]) (n:=1000) ?_
 refine tu ((.d (.con (.pointer (some (Addr.mk (β (3*0)) 0 none))))):AV) ((.d (.con (.slice (V 1).fst b.es.length (V 1).snd))):AV) ((.d (.con (.func (.func 76) ⟨[]⟩ ⟨[]⟩))):AV) ((.d (.con (.func (.func 77) ⟨[]⟩ ⟨[]⟩))):AV) ((.d (.con (.func (.func 78) ⟨[]⟩ ⟨[]⟩))):AV) ((.d (.con (.func (.func 79) ⟨[]⟩ ⟨[]⟩))):AV) (aS Tryz.prog Tryz.f45 (jr G β b e w)) (fun Za Zb Zc Zd Ze Zf Zg=>((((decide ((↑i:Int)≥0))=true)→((bT G F Za (.box 1000000 0)∧bT G F Zb (.vec 1000001 7 0 b.es.length)∧(0≤(↑i:Int))∧((↑i:Int)<↑b.es.length))∧aK Tryz.prog G F w1 G [cd Tryz.f45 [1,1,1,1,1,0],cd Tryz.f45 [1,1,1,1,1,1]] ⟨regs 62 [(0,Za),(3,(.box 3 0)),(5,(.box 5 0)),(6,(.elem 1000001 7 (0+(↑i:Int).toNat) 0)),(7,(vi (↑i))),(33,(vi (↑i))),(34,(vb (decide ((↑i:Int)≥0)))),(35,(.box 1000000 0)),(36,(.box 1000000 0)),(37,(.box 1000000 0)),(38,(.box 1000000 1)),(39,(.vec 1000001 7 0 b.es.length)),(40,(vi (↑i))),(41,(.elem 1000001 7 (0+(↑i:Int).toNat) 0))],[(1000000,[(vi b.t),Zb]),(5,[Zc,Zd,Ze,Zf]),(3,[(vi 3),(vs e.k.st),(vs e.k.ex),(vi e.k.n),(vi e.t),(vi e.v),(vi e.h),(vs e.s),(vb e.acc)])]⟩ Zg))∧(((decide ((↑i:Int)≥0))=false)→(((true=true)→aP G F w1 G Zg .ret ⟨regs 62 [(0,Za),(3,(.box 3 0)),(4,(vi 7)),(5,(.box 5 0)),(6,(.d (.con (.pointer none)))),(7,(vi (↑i))),(33,(vi (↑i))),(34,(vb (decide ((↑i:Int)≥0)))),(42,(.box 3 0)),(43,(vi 3)),(44,(vb true))],[(1000000,[(vi b.t),Zb]),(5,[Zc,Zd,Ze,Zf]),(3,[(vi 3),(vs e.k.st),(vs e.k.ex),(vi e.k.n),(vi e.t),(vi e.v),(vi e.h),(vs e.s),(vb e.acc)])]⟩)∧((true=false)→aK Tryz.prog G F w1 G [cd Tryz.f45 [1,1,1,1,1,0],cd Tryz.f45 [1,1,1,1,1,1]] ⟨regs 62 [(0,Za),(3,(.box 3 0)),(5,(.box 5 0)),(6,(.d (.con (.pointer none)))),(7,(vi (↑i))),(33,(vi (↑i))),(34,(vb (decide ((↑i:Int)≥0)))),(42,(.box 3 0)),(43,(vi 3)),(44,(vb true))],[(1000000,[(vi b.t),Zb]),(5,[Zc,Zd,Ze,Zf]),(3,[(vi 3),(vs e.k.st),(vs e.k.ex),(vi e.k.n),(vi e.t),(vi e.v),(vi e.h),(vs e.s),(vb e.acc)])]⟩ Zg))))) (by kernel_rfl) ?_
 refine⟨fun _=>⟨⟨pI q.h1,FV q,by omega,by omega⟩,aK.weaken (st':=zM β b V 3 e (.elem 1000001 7 i 0)) ?_ (YE q p)⟩,fun c=>absurd (of_decide_eq_false c) (by omega)⟩
 refine AS.leZ [3] [] (b:=((T0∧T0∧T0∧((.elem 1000001 7 (0+(↑i:Int).toNat) 0):AV)=(.elem 1000001 7 i 0)∧True)∧T0∧T0∧T0∧True)) (by kernel_rfl) (by kernel_rfl) ?_
 exact⟨⟨rfl,rfl,rfl,by rw[gW,Nat.zero_add],trivial⟩,rfl,rfl,rfl,trivial⟩
theorem wE {b:Bk} {e:Ev} (hh:hasB b.es e=false) (ht:b.t≤e.t):dL b e=if e.kind=0 then wK b.es e else match dB b.es e.k with|none=>7|some i=>ku (b.es.getD i en0) e:=by
 unfold dL
 rw[if_neg (by rw[hh];decide),if_neg (by omega)]
 rfl
theorem KJ {F:Fr} {w1:World} (q:kX G β V b w F w1) {β1:Nat→Nat} {hh:IH} {i:Nat} {yv:Value} (hf:∀s,K0≤s→blk β1 s=blk F.β0 s∧room β1 s=room F.β0 s∧many β1 s=many F.β0 s) (r:(AV.elem 1000001 7 i 0).rel β1 hh yv):yv=.pointer (some ⟨blk β 1,i*7,none⟩):=by
 obtain ⟨_,_,r⟩:=r
 rw[r,(hf 1000001 (by decide)).1,q.n1.1]
 rfl
theorem Oh {F:Fr} (hs:gq b.es) {e:Ev} (hk:e.kind=0) (hh:hasB b.es e=false) (ht:b.t≤e.t) (y:AV):nJ G β V b F 0 e 76 y (wK b.es e) (Dq b e):=by
 refine⟨?_,fun h0=>?_,fun h0=>?_,Tryz.call76,fun w2 β1 hh2 ev yv _ hB he _=>acj hB hs.1 e (by unfold ig kE;rw[hk];exact he)⟩
 ·rw[wE hh ht,if_pos hk]
 ·unfold Dq dY;rw[if_pos h0,if_pos hk]
 ·unfold Dq;rw[if_neg h0]
theorem XE {F:Fr} {w1:World} (q:kX G β V b w F w1) (hs:gq b.es) {e:Ev} {i:Nat} (hi:i<b.es.length) (hf:dB b.es e.k=some i) (hk:e.kind=1) (hh:hasB b.es e=false) (ht:b.t≤e.t):nJ G β V b F 1 e 77 (.elem 1000001 7 i 0) (EU (b.es.getD i en0) e) (if EU (b.es.getD i en0) e=0 then ⟨b.t,b.es.set i (CX (b.es.getD i en0) e)⟩ else b):=by
 refine⟨?_,fun h0=>?_,fun h0=>?_,Tryz.call77,fun w2 β1 hh2 ev yv hfr hB he hy=>?_⟩
 ·rw[wE hh ht,if_neg (by omega),hf]
  show _=ku _ _
  unfold ku;rw[if_pos hk];rfl
 ·unfold dY;rw[if_pos h0,if_neg (by omega),hf]
  show _=b.es.set i (gX _ _)
  unfold gX;rw[if_pos hk];rfl
 ·rw[if_neg h0]
 ·rw[KJ q hfr hy]
  exact acr hB hi hs e (by unfold ig kE;rw[hk];exact he)
theorem Xh {F:Fr} {w1:World} (q:kX G β V b w F w1) (hs:gq b.es) {e:Ev} {i:Nat} (hi:i<b.es.length) (hf:dB b.es e.k=some i) (hk:e.kind=2) (hh:hasB b.es e=false) (ht:b.t≤e.t):nJ G β V b F 2 e 78 (.elem 1000001 7 i 0) (yG (b.es.getD i en0)) (if yG (b.es.getD i en0)=0 then ⟨b.t,b.es.set i (Di (b.es.getD i en0) e)⟩ else b):=by
 refine⟨?_,fun h0=>?_,fun h0=>?_,Tryz.call78,fun w2 β1 hh2 ev yv hfr hB he hy=>?_⟩
 ·rw[wE hh ht,if_neg (by omega),hf]
  show _=ku _ _
  unfold ku;rw[if_neg (by omega),if_pos hk];rfl
 ·unfold dY;rw[if_pos h0,if_neg (by omega),hf]
  show _=b.es.set i (gX _ _)
  unfold gX;rw[if_neg (by omega),if_pos hk];rfl
 ·rw[if_neg h0]
 ·rw[KJ q hfr hy]
  exact acJ hB hi hs e (by unfold ig kE;rw[hk];exact he)
theorem Xc {F:Fr} {w1:World} (q:kX G β V b w F w1) (hs:gq b.es) (hb:rH b.es) {e:Ev} {i:Nat} (hi:i<b.es.length) (hf:dB b.es e.k=some i) (hk:e.kind=3) (hh:hasB b.es e=false) (ht:b.t≤e.t):nJ G β V b F 3 e 79 (.elem 1000001 7 i 0) (GI (b.es.getD i en0)) (if GI (b.es.getD i en0)=0 then ⟨b.t,b.es.set i (yH (b.es.getD i en0) e)⟩ else b):=by
 refine⟨?_,fun h0=>?_,fun h0=>?_,Tryz.call79,fun w2 β1 hh2 ev yv hfr hB he hy=>?_⟩
 ·rw[wE hh ht,if_neg (by omega),hf]
  show _=ku _ _
  unfold ku;rw[if_neg (by omega),if_neg (by omega)];rfl
 ·unfold dY;rw[if_pos h0,if_neg (by omega),hf]
  show _=b.es.set i (gX _ _)
  unfold gX;rw[if_neg (by omega),if_neg (by omega)];rfl
 ·rw[if_neg h0]
 ·rw[KJ q hfr hy]
  exact abv hB hi hs (hb i hi) e (by unfold ig kE;rw[hk];exact he)
theorem Zk {F:Fr} {w1:World} (q:kX G β V b w F w1) (hs:gq b.es) (hb:rH b.es) {e:Ev} (fe:lU e) (hh:hasB b.es e=false) (ht:b.t≤e.t):aK Tryz.prog G F w1 G [cd Tryz.f45 [1,1,1,1,0,1],cd Tryz.f45 [1,1,1,1,1]] (zQ β b V e.kind e (dQ b.es e.k)) (aS Tryz.prog Tryz.f45 (jr G β b e w)):=by
 have hno:dB b.es e.k=none→e.kind≠0→dL b e=7:=fun hf h0=>by rw[wE hh ht,if_neg h0,hf]
 have hfi:∀{i},dB b.es e.k=some i→i<b.es.length:=fun hf=>(iW hf).1
 unfold dQ
 rcases fe.1 with hk|hk|hk|hk<;>rw[hk]<;>cases hf:dB b.es e.k with
 | none=>first
  | exact YG (i:=0) q (Oh hs hk hh ht _)
  | exact YA (i:=0) (code:=0) (bX:=b) q (hno hf (by omega))
  | exact YU (i:=0) (code:=0) (bX:=b) q (hno hf (by omega))
  | exact Ym (i:=0) (code:=0) (bX:=b) q (hno hf (by omega))
 | some i=>first
  | exact Zj q (hfi hf) (Oh hs hk hh ht _)
  | exact Yn q (hfi hf) (XE q hs (hfi hf) hf hk hh ht)
  | exact Yy q (hfi hf) (Xh q hs (hfi hf) hf hk hh ht)
  | exact Y5 q (hfi hf) (Xc q hs hb (hfi hf) hf hk hh ht)
noncomputable def Kr (β:Nat→Nat) (b:Bk) (e:Ev):AS:=⟨regs Tryz.f45.ntmps [(0,.d (.con (fM β))),(3,.box 3 0),(5,.box 5 0),(6,.d (.con (.pointer none))),(7,.d (di (dQ b.es e.k)))],[(5,Tq),(3,Gh e.kind e)]⟩
theorem Yd (h:bQ G β V b w) (hs:gq b.es) (hl:(bn b.es).length≤1000000) (hb:rH b.es) (e:Ev) (fe:lU e) {ev:Value} (he:DV.rel G (ig e) ev) :
  Calls Tryz.prog 45 #[.pointer (some ⟨blk β 0,0,none⟩),ev] w fun r w'=>∃v,r=.returned v∧jr G β b e w v w':=by
 obtain ⟨k,hk,hle,hkw,_,hp⟩:=h.data
 have hev:(AV.d (ig e)).rel (fB β b.es.length) k ev:=DV.kN _ _ rfl he
 have g:=aO.bare (G:=k) (rs:=[.d (.con (.pointer (some ⟨blk β 0,0,none⟩))),.d (ig e)]) (β:=fB β b.es.length) (tm:=#[.pointer (some ⟨blk β 0,0,none⟩),ev]) (IH.le.refl k) hkw rfl (fun t x hx=>by
  rcases t with _|_|t
  ·simp at hx;subst hx;exact⟨_,rfl,rfl⟩
  ·simp at hx;subst hx;exact⟨_,rfl,hev⟩
  ·simp at hx) (fun _=>False)
 refine Calls.BF Tryz.func45 rfl g ?_
 refine dX (aj:=ab8 b e) follows (adu b) (cuts:=[8]) (n:=1000) ?_
 refine Fz ((.d (.ptr [(di b.t),(.slc 7 b.es.length (bK b.es))])):AV) ((.agg [(di e.kind),(ds e.k.st),(ds e.k.ex),(di e.k.n),(di e.t),(di e.v),(di e.h),(ds e.s),(db e.acc)]):DV) ((.d (.agg [(.con (.func (.func 76) ⟨[]⟩ ⟨[]⟩)),(.con (.func (.func 77) ⟨[]⟩ ⟨[]⟩)),(.con (.func (.func 78) ⟨[]⟩ ⟨[]⟩)),(.con (.func (.func 79) ⟨[]⟩ ⟨[]⟩))])):AV) ((.d (.con (.pointer (some (Addr.mk (β (3*0)) 0 none))))):AV) ((.agg [(di b.t),(.slc 7 b.es.length (bK b.es))]):DV) (Fr.mk (fun x=>False) (fB β b.es.length)) ((.d (.con (.func (.func 76) ⟨[]⟩ ⟨[]⟩))):AV) ((.d (.con (.func (.func 77) ⟨[]⟩ ⟨[]⟩))):AV) ((.d (.con (.func (.func 78) ⟨[]⟩ ⟨[]⟩))):AV) (fun Za Zb Zc Zd Ze Zf Zg Zh Zi=>((bT k Zf Zd Za∧aA Tryz.prog k 49 [Ze,Zb] (db (hasB b.es e)))∧(((hasB b.es e)=true)→aP k Zf w k (aS Tryz.prog Tryz.f45 (jr G β b e w)) .ret ⟨regs 62 [(0,Zd),(1,(.d Zb)),(3,(.box 3 0)),(4,(vi 6)),(5,(.box 5 0)),(9,Zc),(10,(vb (hasB b.es e))),(11,Za),(12,Za),(13,Za),(14,(.d Ze)),(15,(.d Zb)),(16,(vb (hasB b.es e)))],[(5,[Zg,Zh,Zi,(.d (.con (.func (.func 79) ⟨[]⟩ ⟨[]⟩)))]),(3,fJ e)]⟩)∧(((hasB b.es e)=false)→(bT k Zf Zd Za∧(((decide (e.t<b.t))=true)→aP k Zf w k (aS Tryz.prog Tryz.f45 (jr G β b e w)) .ret ⟨regs 62 [(0,Zd),(1,(.d Zb)),(3,(.box 3 0)),(4,(vi 2)),(5,(.box 5 0)),(9,Zc),(10,(vb (hasB b.es e))),(11,Za),(12,Za),(13,Za),(14,(.d Ze)),(15,(.d Zb)),(16,(vb (hasB b.es e))),(17,(vb (decide (e.t<b.t)))),(18,(.box 3 4)),(19,(vi e.t)),(20,Za),(21,Za),(22,Za),(23,Za),(24,(vi b.t)),(25,(vb (decide (e.t<b.t))))],[(5,[Zg,Zh,Zi,(.d (.con (.func (.func 79) ⟨[]⟩ ⟨[]⟩)))]),(3,fJ e)]⟩)∧(((decide (e.t<b.t))=false)→((bT k Zf Zd Za∧aA Tryz.prog k 22 [Ze,(.agg [(ds e.k.st),(ds e.k.ex),(di e.k.n)])] (di (dQ b.es e.k)))∧aK Tryz.prog k Zf w k [cd Tryz.f45 [1,1,1,1,0,1],cd Tryz.f45 [1,1,1,1,1]] ⟨regs 62 [(0,Zd),(1,(.d Zb)),(3,(.box 3 0)),(4,(vi 0)),(5,(.box 5 0)),(6,(.d (.con (.pointer none)))),(7,(vi (dQ b.es e.k))),(9,Zc),(10,(vb (hasB b.es e))),(11,Za),(12,Za),(13,Za),(14,(.d Ze)),(15,(.d Zb)),(16,(vb (hasB b.es e))),(17,(vb (decide (e.t<b.t)))),(18,(.box 3 4)),(19,(vi e.t)),(20,Za),(21,Za),(22,Za),(23,Za),(24,(vi b.t)),(25,(vb (decide (e.t<b.t)))),(26,Za),(27,Za),(28,Za),(29,(.d Ze)),(30,(.box 3 1)),(31,(.d (.agg [(ds e.k.st),(ds e.k.ex),(di e.k.n)]))),(32,(vi (dQ b.es e.k)))],[(5,[Zg,Zh,Zi,(.d (.con (.func (.func 79) ⟨[]⟩ ⟨[]⟩)))]),(3,fJ e)]⟩ (aS Tryz.prog Tryz.f45 (jr G β b e w)))))))) (by kernel_rfl) ?_
 try dsimp only
 have hvw:bT k (Fr.mk (fun _=>False) (fB β b.es.length)) (.d (.con (fM β))) (.d (.ptr (fQ b))):=by
  intro β1 h1 v hG _ r
  have r:v=_:=r
  subst r
  exact DV.rel.mono hG _ _ hp
 have hno:∀(st:AS) (code:Int),iM Tryz.prog st Tryz.f45.results.toList=some [.d (di code)]→dL b e=code→code≠0→aP k (Fr.mk (fun _=>False) (fB β b.es.length)) w k (aS Tryz.prog Tryz.f45 (jr G β b e w)) .ret st:=by
  intro st code hr hc h0
  refine aP.ret rfl hr fun β1 k1 tm w' v g1 hv=>?_
  have hv:v=.int .i64 code:=hv
  subst hv
  have hkk:Kept (fun _=>False) w w':=g1.kept
  unfold jr
  rw[hc,if_neg h0]
  exact⟨rfl,hkk.mono fun _ hc=>hc.elim,β,V,rfl,h.Ya hkk,fun _ hc=>.inl hc⟩
 refine⟨⟨hvw,f49 b e hs hl⟩,fun hh=>?_,fun hh=>⟨hvw,fun ht=>?_,fun ht=>⟨⟨hvw,f22 b e.k hs.1⟩,?_⟩⟩⟩
 ·exact hno _ 6 rfl (by unfold dL;rw[if_pos hh]) (by decide)
 ·exact hno _ 2 rfl (by unfold dL;rw[if_neg (by rw[hh];decide),if_pos (dn ht)]) (by decide)
 have ht:b.t≤e.t:=by have:=of_decide_eq_false ht;omega
 refine aK.weaken (st':=Kr β b e) ?_ ?_
 ·exact AS.bD (by kernel_rfl)
 intro β1 h1 a w1 g1 hd
 have hlk:∀s l,(Kr β b e).box s=some l→(s=3∨s=5)∧pU l∧Live β1 s l:=by
  intro s l hl
  simp only[Kr,AS.box,Go.Ab.look] at hl
  by_cases e1:(5:Nat)=s
  ·subst e1;simp at hl;subst hl;exact⟨.inr rfl,rfl,trivial⟩
  ·rw[aQ e1,cond_false] at hl
   by_cases e2:(3:Nat)=s
   ·subst e2;simp at hl;subst hl;exact⟨.inl rfl,rfl,trivial⟩
   ·rw[aQ e2,cond_false] at hl;cases hl
 have hnew:∀s l,(Kr β b e).box s=some l→w.heap.size≤blk β1 s:=fun s l hl=>by
  obtain ⟨q,_⟩:=(g1.box s l hl).1 (hlk s l hl).2.2
  exact q.resolve_left id
 have hkk:Kept (fun _=>False) w w1:=g1.kept
 have hB1:=h.Ya hkk
 have Gt:G.le h1:=hle.trans g1.glob
 have ga:=g1.anew (G':=G) (k:=G) (F':=⟨fun c=>c=blk β1 3∨c=blk β1 5,β1⟩) (IH.le.refl _) (yM g1 hle) (by kernel_rfl) (fun s l hl=>(hlk s l hl).2.1) (fun s l hl hv=>by
  obtain ⟨_,q1,q2⟩:=(g1.box s l hl).1 hv
  refine⟨fun o=>?_,?_⟩
  ·cases ec:G.cell (blk β1 s) o with
   | none=>rfl
   | some x=>have:=Gt.1 _ _ _ ec;rw[q1] at this;cases this
  ·cases ec:G.obj (blk β1 s) with
   | none=>rfl
   | some x=>have:=Gt.2 _ _ ec;rw[q2] at this;cases this) (fun s l hl _=>by
  rcases (hlk s l hl).1 with rfl|rfl
  ·exact .inl rfl
  ·exact .inr rfl) (fun _ _=>⟨rfl,rfl,rfl⟩)
 have hlt0:blk β 0<w.heap.size:=lt_of_heap h.top
 have gd:=hB1.addTop (rs:=(Kr β b e).regs) (bs:=(Kr β b e).boxes) ga (by kernel_rfl) (by kernel_rfl) (fun t l hl _=>by
  have:=hnew t l hl
  omega)
 have ge:=gd.weaken (st':=zQ β b V e.kind e (dQ b.es e.k)) (by refine AS.leZ [] [] (b:=((T0∧T0∧T0∧T0∧T0∧True)∧T0∧T0∧T0∧True)) (by kernel_rfl) (by kernel_rfl) ?_;exact⟨⟨rfl,rfl,rfl,rfl,rfl,trivial⟩,rfl,rfl,rfl,trivial⟩)
 have n3:=hnew 3 _ rfl
 have n5:=hnew 5 _ rfl
 obtain ⟨c1,c2,c3⟩:=fB1 (β:=β) b.es.length
 obtain ⟨d1,d2,d3⟩:=g1.fix 1000001 (by decide)
 have q:kX G β V b w ⟨fun c=>(c=blk β1 3∨c=blk β1 5)∨c=blk β 0,upd β1 1000000 (blk β 0) (room β 0) 0⟩ w1:=by
  refine⟨?_,?_,⟨?_,?_,?_⟩,hB1,fun c hc=>?_,fun c hc hc0=>?_,hkk⟩
  ·show blk (upd _ _ _ _ _) _=_
   rw[aT]
  ·show room (upd _ _ _ _ _) _=_
   rw[aH]
  ·show blk (upd _ _ _ _ _) _=_
   rw[aZ (by decide),d1];exact c1
  ·show room (upd _ _ _ _ _) _=_
   rw[bI (by decide),d2];exact c2
  ·show many (upd _ _ _ _ _) _=_
   rw[iy (by decide),d3];exact c3
  ·rcases hc with (rfl|rfl)|rfl
   ·exact .inr n3
   ·exact .inr n5
   ·exact .inl rfl
  ·rintro ⟨s,s1,s2,s3⟩
   have:=h.lt s1 s2
   rcases hc with (rfl|rfl)|rfl
   ·omega
   ·omega
   ·exact hc0 rfl
 exact Zk q hs hb fe hh ht _ _ _ _ ge hd
end Go.Proofs
namespace Go.Proofs
open Go Go.Ab Go.RowKit
variable {G:IH} {w:World}
def oC (P:Program) (k:List It) (R:Exit→Act→World→Prop) (I:Nat→Act→World→Prop) (n:Nat):Exit→Act→World→Prop:=fun e a w=>match e with | .normal=>∃n',n' < n∧I n' a w|e=>wpS P k R e a w
theorem BJ {P:Program} {cd c:Code} {k:List It} {R:Exit→Act→World→Prop} {a:Act} {w:World} (hc:cd=.loop c) (I:Nat→Act→World→Prop) (n0:Nat) (h:I n0 a w) (round:∀n a w,I n a w→wpS P [.code c] (oC P k R I n) .normal a w):wpS P (.code cd :: k) R .normal a w:=by
 subst hc
 show (Code.loop c).wp P (wpS P k R) a w
 refine wp_loop_ghost I n0 h fun n a w hI=>wp_mono (round n a w hI) fun e a w q=>?_
 cases e<;>exact q
theorem fZ {F:Fr} {w0:World} {h0 hh:IH} {st:AS} {β:Nat→Nat} {tm:Array Value} (g:aO G F w0 h0 st β hh tm w):aO hh ⟨fun c=>∃s l,st.box s=some l∧Live β s l∧blk β s=c,β⟩ w hh st β hh tm w:=
 ⟨IH.le.refl _,g.holds,IH.le.refl _,fun _ _ _=>⟨fun _=>rfl,rfl⟩,Kept.refl _ _,fun _ _=>⟨rfl,rfl,rfl⟩,g.size,g.regs,fun s l hs=>⟨fun hv=>⟨.inl ⟨s,l,hs,hv,rfl⟩,((g.box s l hs).1 hv).2⟩,(g.box s l hs).2⟩,g.inj⟩
noncomputable def yD (b:Bk) (p:Value) (n j:Nat):AS:=⟨regs Tryz.f32.ntmps [(1,.box 1 0),(3,.d (.con p)),(13,.d (eu (ak b))),(14,vi n),(15,vi j)],[(1,(fQ b).map .d)]⟩
def NP (b:Bk) (e:Bool):dU:={ d:=fun f _=>bif Nat.beq f 53 then some (eu (ak b)) else bif Nat.beq f 18 then some (db e) else none }
theorem Ny {hh k:IH} {on:Nat→Prop} {st:AS} {β:Nat→Nat} {tm:Array Value} (g:aO hh ⟨on,β⟩ w hh st β hh tm w) (hk:hh.le k) (hw:k.holds w) (hu:∀s l,st.box s=some l→Live β s l→(∀o,k.cell (blk β s) o=none)∧k.obj (blk β s)=none):aO k ⟨on,β⟩ w k st β k tm w:=
 ⟨IH.le.refl _,hw,IH.le.refl _,fun _ _ _=>⟨fun _=>rfl,rfl⟩,Kept.refl _ _,g.fix,g.size,fun t x hx=>let ⟨v,hv,r⟩:=g.regs t x hx;⟨v,hv,AV.rel.mono hk x v r⟩,fun s l hs=>⟨fun hv=>⟨((g.box s l hs).1 hv).1,hu s l hs hv⟩,Own.mono hk (g.box s l hs).2⟩,g.inj⟩
theorem bQ.next {hh h2:IH} {β:Nat→Nat} {V:Nat→Option Addr×Nat} {b:Bk} {w w2:World} {on:Nat→Prop} {β1 β2:Nat→Nat} {st:AS} {tm:Array Value} (h:bQ hh β V b w) (g:aO hh ⟨on,β1⟩ w hh st β2 h2 tm w2) (hon:∀c,on c→¬iF β b.es.length c):bQ h2 β V b w2:=by
 have hk:Kept on w w2:=g.kept
 have hno:∀s,s<2*b.es.length+2→jc β s→¬on (blk β s):=fun s q1 q2 q3=>hon _ q3 ⟨s,q1,q2,rfl⟩
 have hb:bQ hh β V b w2:=h.re (t':=b.t) hk (yM g (IH.le.refl hh)) (fun s _ q2 q3 q4=>hno s q2 q3 q4) (by rw[hk.block _ (lt_of_heap h.top) (hno 0 (by omega) (.inl rfl))];exact h.top)
 refine hb.mono g.holds fun s q1 q2=>?_
 obtain ⟨r1,r2⟩:=g.old (blk β s) (h.lt q1 q2) (hno s q1 q2)
 exact⟨fun o=>(r1 o).trans ((h.unk s q1 q2).1 o),r2.trans (h.unk s q1 q2).2⟩
structure Bg (b:Bk) (w0:World) (j:Nat) (hh:IH) (on:Nat→Prop) (β1 β:Nat→Nat) (V:Nat→Option Addr×Nat) (bj:Bk) (w:World):Prop where
 le:j≤(ak b).length
 book:bQ hh β V bj w
 apart:∀c,on c→w0.heap.size≤c∧¬iF β bj.es.length c
 new:∀c,iF β bj.es.length c→w0.heap.size≤c
 kept:Kept (fun _=>False) w0 w
 run:gB aG ((ak b).drop j) bj=gB aG (ak b) fA
 good:Good bj
 bnd:rH bj.es
def ad8 (b:Bk):Nat→Option AV
 | 29=>some (.d (.ptr (fQ b)))
 | _=>none
def aa8 (r:Bool):dU:={ d:=fun f _=>bif Nat.beq f 37 then some (db r) else none }
theorem DC {b:Bk} (g:Good b) (h:rH b.es):gq b.es:=⟨by have:=g.few;omega,fun i hi=>by have:=h i hi;simp only[vI,aY,eF] at this;exact⟨by omega,by omega⟩⟩
def R32 (b:Bk) (w:World) (v:Value) (w':World):Prop:=v=.bool (aJ aG b)∧Kept (fun _=>False) w w'
theorem Yk {b:Bk} {w0 w:World} {hh:IH} {on:Nat→Prop} {β1 β:Nat→Nat} {V:Nat→Option Addr×Nat} {bj:Bk} {n j:Nat} (q:Bg b w0 j hh on β1 β V bj w) (hj:(ak b).length≤j) (h256:b.es.length≤256) {β2:Nat→Nat} {h2:IH} {a:Act} {w2:World} (g:aO hh ⟨on,β1⟩ w hh (yD b (fM β) n j) β2 h2 a.tmps w2) (hd:a.defers=[]) :
  wpS Tryz.prog [cd Tryz.f32 [1,1,1,1]] (aS Tryz.prog Tryz.f32 (R32 b w0)) .normal a w2:=by
 have hB:=q.book.next g fun c hc=>(q.apart c hc).2
 obtain ⟨k,hk,hle,hkw,_,hp⟩:=hB.data
 have hlk:∀s l,(yD b (fM β) n j).box s=some l→s=1∧Live β2 s l:=by
  intro s l hl
  simp only[yD,AS.box,Go.Ab.look] at hl
  by_cases e2:(1:Nat)=s
  ·subst e2;simp at hl;subst hl;exact⟨rfl,trivial⟩
  ·rw[aQ e2,cond_false] at hl;cases hl
 have hnot:∀s l,(yD b (fM β) n j).box s=some l→w0.heap.size≤blk β2 s∧¬iF β bj.es.length (blk β2 s):=fun s l hl=>by
  obtain ⟨q1,_⟩:=(g.box s l hl).1 (hlk s l hl).2
  rcases q1 with q1|q1
  ·exact q.apart _ q1
  ·refine⟨Nat.le_trans q.kept.size q1,?_⟩
   rintro ⟨t,t1,t2,t3⟩
   have:=q.book.lt t1 t2
   omega
 have g2:=Ny (fZ g) hle hkw (fun s l hl hv=>by
  obtain ⟨_,r1,r2⟩:=(g.box s l hl).1 hv
  rw[hk]
  exact⟨fun o=>by rw[IH.jT (hnot s l hl).2];exact r1 o,r2⟩)
 have hA:aK Tryz.prog k ⟨fun c=>∃s l,(yD b (fM β) n j).box s=some l∧Live β2 s l∧blk β2 s=c,β2⟩ w2 k [cd Tryz.f32 [1,1,1,1]] (yD b (fM β) n j) (aS Tryz.prog Tryz.f32 (R32 b w0)):=by
  refine dX (aj:=aa8 (decide (bj=b))) follows (ad8 bj) (cuts:=[]) (n:=1000) ?_
  refine je ((.d (.ptr [(di bj.t),(.slc 7 bj.es.length (bK bj.es))])):AV) (fun Za=>((bT k (Fr.mk (fun c=>∃s l,(yD b (fM β) n j).box s=some l∧Live β2 s l∧blk β2 s=c) β2) (.d (.con (.pointer (some (Addr.mk (β (3*0)) 0 none))))) Za∧aA Tryz.prog k 37 [(.agg [(di bj.t),(.slc 7 bj.es.length (bK bj.es))]),(.agg [(di b.t),(.slc 7 b.es.length (bK b.es))])] (db (decide (bj=b))))∧aP k (Fr.mk (fun c=>∃s l,(yD b (fM β) n j).box s=some l∧Live β2 s l∧blk β2 s=c) β2) w2 k (aS Tryz.prog Tryz.f32 (R32 b w0)) .ret ⟨regs 35 [(1,(.box 1 0)),(2,(vb (decide (bj=b)))),(3,(.d (.con (.pointer (some (Addr.mk (β (3*0)) 0 none)))))),(13,(.d (.slc 9 (ak b).length (bW (ak b))))),(14,(vi (↑n))),(15,(vi (↑j))),(29,Za),(30,Za),(31,Za),(32,(.d (.agg [(di bj.t),(.slc 7 bj.es.length (bK bj.es))]))),(33,(.d (.agg [(di b.t),(.slc 7 b.es.length (bK b.es))]))),(34,(vb (decide (bj=b))))],[(1,[(vi b.t),(.d (.slc 7 b.es.length (bK b.es)))])]⟩)) (by kernel_rfl) ?_
  refine⟨⟨fun β3 h3 v hG _ r=>?_,f37 bj b (DC q.good q.bnd)⟩,?_⟩
  ·have r:v=_:=r
   subst r
   exact DV.rel.mono hG _ _ hp
  ·refine aP.ret rfl rfl fun β3 k3 tm w3 v g3 hv=>?_
   have hv:v=.bool (decide (bj=b)):=hv
   subst hv
   have hr:=q.run
   rw[List.drop_eq_nil_of_le hj] at hr
   have hr:some bj=gB aG (ak b) fA:=hr
   refine⟨?_,iL (((q.kept.mono fun _ hc=>hc.elim).trans (g.kept.mono fun c hc=>.inr (q.apart c hc).1)).trans (g3.kept.mono fun c hc=>.inr ?_))⟩
   ·unfold aJ
    rw[←hr,decide_eq_true h256,Bool.true_and]
    congr 1
    simp
   ·obtain ⟨s,l,hl,_,rfl⟩:=hc
    exact(hnot s l hl).1
 exact hA β2 k a w2 g2 hd
noncomputable abbrev OX:List It:=[cd Tryz.f32 [1,1,1,0,1,0,0]]
noncomputable abbrev PV:List It:=[.blk 0,cd Tryz.f32 [1,1,1,1]]
def I32 (b:Bk) (w0:World) (n:Nat) (a:Act) (w:World):Prop:=∃j hh on β1 β V bj,n=(ak b).length-j∧Bg b w0 j hh on β1 β V bj w∧aO hh ⟨on,β1⟩ w hh (yD b (fM β) (ak b).length j) β1 hh a.tmps w∧a.defers=[]
noncomputable abbrev yA (b:Bk) (w0:World) (n:Nat):Exit→Act→World→Prop:=oC Tryz.prog PV (aS Tryz.prog Tryz.f32 (R32 b w0)) (I32 b w0) n
noncomputable def XF (b:Bk) (p:Value) (n j:Nat) (e:Ev):AS:=⟨regs Tryz.f32.ntmps [(1,.box 1 0),(3,.d (.con p)),(13,.d (eu (ak b))),(14,vi n),(15,vi j),(22,.d (db false)),(23,.gate 22 false true (.d (.con p))),(24,.gate 22 false true (.d (ig e)))],[(1,(fQ b).map .d)]⟩
noncomputable def adi (b:Bk) (p:Value) (n j:Nat):AS:=⟨regs Tryz.f32.ntmps [(1,.box 1 0),(3,.d (.con p)),(13,.d (eu (ak b))),(14,vi n),(15,vi j),(22,.d (db false))],[(1,(fQ b).map .d)]⟩
noncomputable def aaS (b:Bk) (p:Value) (n j:Nat) (code:Int):AS:=⟨regs Tryz.f32.ntmps [(1,.box 1 0),(3,.d (.con p)),(13,.d (eu (ak b))),(14,vi n),(15,vi j),(22,.d (db false)),(25,.d (di code))],[(1,(fQ b).map .d)]⟩
noncomputable def adO (b:Bk) (p:Value) (n j:Nat) (e:Ev):AS:=⟨regs Tryz.f32.ntmps [(1,.box 1 0),(3,.d (.con p)),(5,.box 5 0),(13,.d (eu (ak b))),(14,vi n),(15,vi j)],[(5,(kE e).map .d),(1,(fQ b).map .d)]⟩
theorem QH {b:Bk} {w0:World} {j:Nat} {hh:IH} {on:Nat→Prop} {β1 β:Nat→Nat} {V:Nat→Option Addr×Nat} {bj:Bk} {w:World} (q:Bg b w0 j hh on β1 β V bj w) (hj:j<(ak b).length) (h:¬(aG ((ak b).getD j ev0)=true∧dL bj ((ak b).getD j ev0)=0)):aJ aG b=false:=by
 have hr:=q.run
 rw[List.drop_eq_getElem_cons hj] at hr
 have he:(ak b)[j]=(ak b).getD j ev0:=by rw[List.getD,gy hj];rfl
 rw[he] at hr
 have:gB aG ((ak b).getD j ev0 :: (ak b).drop (j+1)) bj=none:=by
  show (if _ then _ else _)=_
  rw[if_neg h]
 rw[this] at hr
 unfold aJ
 rw[←hr]
 simp
theorem WA {b:Bk} {w0:World} {j:Nat} {hh:IH} {on:Nat→Prop} {β1 β:Nat→Nat} {V:Nat→Option Addr×Nat} {bj:Bk} {w:World} (q:Bg b w0 j hh on β1 β V bj w) (hj:j<(ak b).length) (hlen:(ak b).length≤1000000) (hok:aG ((ak b).getD j ev0)=true) {F:Fr} {hx:IH} {β':Nat→Nat} {V':Nat→Option Addr×Nat} {w3:World} {code:Int} (h0':blk β' 0=blk β 0) (hc:code=dL bj ((ak b).getD j ev0))
  (hB:bQ hx β' V' (if dL bj ((ak b).getD j ev0)=0 then gQ bj ((ak b).getD j ev0) else bj) w3) (hon:∀c,F.on c→w0.heap.size≤c∧¬iF β' (if dL bj ((ak b).getD j ev0)=0 then gQ bj ((ak b).getD j ev0) else bj).es.length c) (hnew:∀c,iF β' (if dL bj ((ak b).getD j ev0)=0 then gQ bj ((ak b).getD j ev0) else bj).es.length c→w0.heap.size≤c) (hk:Kept (fun _=>False) w0 w3) :
  dV Tryz.prog hx F w3 hx (opsOf (aU (au Tryz.f32) [1,1,1,0,1,0,0,1,1,0,0,1,0])).toList 7 (2+0) (aaS b (fM β) (ak b).length j code) (wpS Tryz.prog [cd Tryz.f32 [1,1,1,0,1,0,0,1,1,0,0,1,1],.blk 1,cd Tryz.f32 [1,1,1,0,1,0,0,1,1,1]] (yA b w0 ((ak b).length-j))):=by
 refine dV.tree (aj:={ d:=bG }) ?_
 refine iG (b:=aP hx F w3 hx (iP Tryz.prog (opsOf (aU (au Tryz.f32) [1,1,1,0,1,0,0,1,1,0,0,1,0])).toList (7+2) 0 (wpS Tryz.prog [cd Tryz.f32 [1,1,1,0,1,0,0,1,1,0,0,1,1],It.blk 1,cd Tryz.f32 [1,1,1,0,1,0,0,1,1,1]] (yA b w0 ((ak b).length-j)))) .normal ⟨regs 35 [(1,(.box 1 0)),(3,(.d (.con (.pointer (some (Addr.mk (β (3*0)) 0 none)))))),(13,(.d (.slc 9 (ak b).length (bW (ak b))))),(14,(vi (↑(ak b).length))),(15,(vi (↑j))),(22,(vb false)),(25,(vi code)),(26,(.gate 22 false true (vb (code != 0)))),(27,(vb (false||code != 0)))],[(1,[(vi b.t),(.d (.slc 7 b.es.length (bK b.es)))])]⟩) (by kernel_rfl) ?_
 refine aP.kP ?_
 refine dX (aj:={ d:=bG }) follows (fun _=>none) (cuts:=[]) (n:=1000) ?_
 refine iG (b:=((((false||code != 0)=true)→aP hx F w3 hx (yA b w0 ((ak b).length-j)) .ret ⟨regs 35 [(1,(.box 1 0)),(2,(vb false)),(3,(.d (.con (.pointer (some (Addr.mk (β (3*0)) 0 none)))))),(13,(.d (.slc 9 (ak b).length (bW (ak b))))),(14,(vi (↑(ak b).length))),(15,(vi (↑j))),(22,(vb false)),(25,(vi code)),(27,(vb (false||code != 0)))],[(1,[(vi b.t),(.d (.slc 7 b.es.length (bK b.es)))])]⟩)∧(((false||code != 0)=false)→((I64 (↑j+1))∧aP hx F w3 hx (yA b w0 ((ak b).length-j)) .normal ⟨regs 35 [(1,(.box 1 0)),(3,(.d (.con (.pointer (some (Addr.mk (β (3*0)) 0 none)))))),(13,(.d (.slc 9 (ak b).length (bW (ak b))))),(14,(vi (↑(ak b).length))),(15,(vi (↑j+1))),(22,(vb false)),(25,(vi code)),(27,(vb (false||code != 0))),(28,(vi (↑j+1)))],[(1,[(vi b.t),(.d (.slc 7 b.es.length (bK b.es)))])]⟩)))) (by kernel_rfl) ?_
 have hle:(ak b)[j]=(ak b).getD j ev0:=by rw[List.getD,gy hj];rfl
 generalize he:(ak b).getD j ev0=e at *
 refine⟨fun c=>?_,fun c=>⟨⟨by omega,by omega⟩,?_⟩⟩
 ·have c:code≠0:=by simpa using c
  have hr:∀st:AS,iM Tryz.prog st Tryz.f32.results.toList=some [.d (db false)]→aP hx F w3 hx (aS Tryz.prog Tryz.f32 (R32 b w0)) .ret st:=fun st hr=>aP.ret rfl hr fun β4 k4 tm w4 v g4 hv=>by
   have hv:v=.bool false:=hv
   subst hv
   exact⟨by rw[QH q hj (by rw[he];exact fun ⟨_,x⟩=>c (hc.trans x))],iL ((hk.mono fun _ hc=>hc.elim).trans (g4.kept.mono fun c hc=>.inr (hon c hc).1))⟩
  exact hr _ rfl
 ·have c:code=0:=by simpa using c
  rw[c] at hc
  rw[if_pos hc.symm] at hB hon hnew
  intro β4 h4 a4 w4 g4 hd4
  have hw4:Kept (fun _=>False) w0 w4:=iL ((hk.mono fun _ hc=>hc.elim).trans (g4.kept.mono fun c hc=>.inr (hon c hc).1))
  have hB4:bQ h4 β' V' (gQ bj e) w4:=hB.next g4 fun c hc=>(hon c hc).2
  have hp0:fM β'=fM β:=by
   show Value.pointer _=Value.pointer _
   rw[h0']
  have gr:=(fZ g4).weaken (st':=yD b (fM β') (ak b).length (j+1)) (by
   refine AS.leZ [1] [] (b:=((T0∧((.d (.con (.pointer (some (Addr.mk (β (3*0)) 0 none))))):AV)=(.d (.con (.pointer (some (Addr.mk (β' (3*0)) 0 none)))))∧T0∧T0∧T0∧True)∧T0∧True)) (by kernel_rfl) (by kernel_rfl) ?_
   exact⟨⟨rfl,congrArg (fun p=>AV.d (.con p)) hp0.symm,rfl,rfl,rfl,trivial⟩,rfl,trivial⟩)
  have hlk:∀s l,Go.Ab.look [(1,(fQ b).map AV.d)] s=some l→s=1∧Live β4 s l:=by
   intro s l hl
   simp only[Go.Ab.look] at hl
   by_cases e2:(1:Nat)=s
   ·subst e2;simp at hl;subst hl;exact⟨rfl,trivial⟩
   ·rw[aQ e2,cond_false] at hl;cases hl
  refine⟨(ak b).length-(j+1),by omega,j+1,h4,_,β4,β',V',gQ bj e,rfl,⟨by omega,hB4,fun c hc'=>?_,hnew,hw4,?_,good_step q.good hc.symm,Hg q.bnd hc.symm⟩,gr,hd4⟩
  ·obtain ⟨s,l,hl,hv,rfl⟩:=hc'
   rcases ((g4.box s l hl).1 hv).1 with q1|q1
   ·exact hon _ q1
   ·refine⟨Nat.le_trans hk.size q1,?_⟩
    rintro ⟨t,t1,t2,t3⟩
    have:=hB.lt t1 t2
    omega
  ·rw[←q.run,List.drop_eq_getElem_cons hj,hle]
   show _=if _ then _ else _
   rw[if_pos ⟨hok,hc.symm⟩]
def Yg (b:Bk):Prop:=∀j,((ak b).getD j ev0).k.st.size≤1000000∧((ak b).getD j ev0).k.ex.size≤1000000
theorem Ie {es:List En} (h:rH es):(bn es).length≤49*es.length:=by
 unfold bn
 induction es with
 | nil=>simp
 | cons x l ih=>
  have h0:=h 0 (by simp)
  have ih:=ih fun i hi=>h (i+1) (by simp;omega)
  have h0:vI x=true:=h0
  simp only[vI,aY,eF] at h0
  have hal:∀(k:Ky) (l:List Al),((l.map (uH k)).flatten).length≤2*l.length:=by
   intro k l
   induction l with
   | nil=>simp
   | cons a l ih=>
    have:(uH k a).length≤2:=by unfold uH;split<;>simp
    simp only[List.map_cons,List.flatten_cons,List.length_append,List.length_cons]
    omega
  have hx:(fD x).length≤49:=by
   have:=hal x.k x.ah
   simp only[fD,List.length_cons,List.length_append,List.length_map]
   omega
  simp only[List.map_cons,List.flatten_cons,List.length_append,List.length_cons]
  omega
theorem N7 {b:Bk} {w0 w:World} {hh:IH} {on:Nat→Prop} {β1 β:Nat→Nat} {V:Nat→Option Addr×Nat} {bj:Bk} {n j:Nat} (q:Bg b w0 j hh on β1 β V bj w) (hj:(ak b).length≤j) (h256:b.es.length≤256) {st:AS} (hst:st.le (yD b (fM β) n j)) {m:Nat}:aP hh ⟨on,β1⟩ w hh (yA b w0 m) (.exit 0) st:=by
 intro β2 h2 a2 w2 g2 hd2
 show wpS Tryz.prog PV (aS Tryz.prog Tryz.f32 (R32 b w0)) (.exit 0) a2 w2
 refine nV (k:=PV) ?_
 show wpS Tryz.prog [cd Tryz.f32 [1,1,1,1]] (aS Tryz.prog Tryz.f32 (R32 b w0)) .normal a2 w2
 exact Yk q hj h256 (g2.weaken hst) hd2
theorem WQ {b:Bk} {w0 w:World} {hh:IH} {on:Nat→Prop} {β1 β:Nat→Nat} {V:Nat→Option Addr×Nat} {bj:Bk} {j:Nat} (q:Bg b w0 j hh on β1 β V bj w) (hj:j<(ak b).length) (hlen:(ak b).length≤1000000) (hok:aG ((ak b).getD j ev0)=true) :
  dV Tryz.prog hh ⟨on,β1⟩ w hh (opsOf (aU (au Tryz.f32) [1,1,1,0,1,0,0,1,1,0,0,1,0])).toList 6 (2+1) (XF b (fM β) (ak b).length j ((ak b).getD j ev0)) (wpS Tryz.prog [cd Tryz.f32 [1,1,1,0,1,0,0,1,1,0,0,1,1],.blk 1,cd Tryz.f32 [1,1,1,0,1,0,0,1,1,1]] (yA b w0 ((ak b).length-j))):=by
 refine dV.call (c:={ callee:=.value (.func 45),args:=#[.tmp 23,.tmp 24],argTypes:=#[73,26] }) (g:=45) (a1:=[]) (a2:=[]) (γ:=some (22,false,true)) rfl rfl rfl (by kernel_rfl) (fun _ _ _ hq=>by cases hq;rfl) (by kernel_rfl) Tryz.call45 ?_
 intro β2 h2 a w3 vs g1 hd hvs
 obtain ⟨v0,vs1,rfl,r0,v1,vs2,rfl,r1,r3⟩:=hvs
 have r3:vs2=[]:=r3
 subst r3
 have r0:v0=fM β:=r0.1 rfl
 subst r0
 have r1:DV.rel h2 (ig ((ak b).getD j ev0)) v1:=r1.1 rfl
 have hB:=q.book.next g1 fun c hc=>(q.apart c hc).2
 have hk3:Kept (fun _=>False) w0 w3:=iL ((q.kept.mono fun _ hc=>hc.elim).trans (g1.kept.mono fun c hc=>.inr (q.apart c hc).1))
 refine(Yd hB (DC q.good q.bnd) (by have:=Ie q.bnd;have:=q.good.few;omega) q.bnd ((ak b).getD j ev0) (ny hok) r1).mono ?_
 rintro r w' ⟨v,rfl,hp⟩
 refine⟨v,rfl,?_⟩
 obtain ⟨hpc,hpk,β',V',h0',hB',hbl⟩:=hp
 subst hpc
 have gz:=(fZ g1).weaken (st':=adi b (fM β) (ak b).length j) (by refine AS.leZ [] [] (b:=((T0∧T0∧T0∧T0∧T0∧T0∧True)∧T0∧True)) (by kernel_rfl) (by kernel_rfl) ?_;exact⟨⟨rfl,rfl,rfl,rfl,rfl,rfl,trivial⟩,rfl,trivial⟩)
 have hl1:(XF b (fM β) (ak b).length j ((ak b).getD j ev0)).box 1=some ((fQ b).map .d):=rfl
 have hb1:=(g1.box 1 _ hl1)
 have hlt1:blk β2 1<w3.heap.size:=Own.lt (show Live β2 1 ((fQ b).map .d) from trivial) hb1.2
 have h1n:w0.heap.size≤blk β2 1∧¬iF β bj.es.length (blk β2 1):=by
  rcases (hb1.1 trivial).1 with q1|q1
  ·exact q.apart _ q1
  ·refine⟨Nat.le_trans q.kept.size q1,?_⟩
   rintro ⟨t,t1,t2,t3⟩
   have:=q.book.lt t1 t2
   omega
 have hlz:∀s l,Go.Ab.look [(1,(fQ b).map AV.d)] s=some l→s=1∧Live β2 s l:=by
  intro s l hl
  simp only[Go.Ab.look] at hl
  by_cases e2:(1:Nat)=s
  ·subst e2;simp at hl;subst hl;exact⟨rfl,trivial⟩
  ·rw[aQ e2,cond_false] at hl;cases hl
 have gb:=xZ gz hB'.hold hpk (fun s l hl=>by
  obtain ⟨e1,e2⟩:=hlz s l hl
  subst e1
  exact⟨e2,h1n.2⟩)
 have gc:=gb.put (t:=some 25) (x:=.d (di (dL bj ((ak b).getD j ev0)))) (v:=.int .i64 (dL bj ((ak b).getD j ev0))) rfl
 have ge:=gc.weaken (st':=aaS b (fM β) (ak b).length j (dL bj ((ak b).getD j ev0))) (by refine AS.leZ [] [] (b:=((T0∧T0∧T0∧T0∧T0∧T0∧T0∧True)∧T0∧True)) (by kernel_rfl) (by kernel_rfl) ?_;exact⟨⟨rfl,rfl,rfl,rfl,rfl,rfl,rfl,trivial⟩,rfl,trivial⟩)
 have hw3:=hk3.size
 refine WA q hj hlen hok h0' rfl hB' (fun c hc=>?_) (fun c hc=>?_) (iL ((hk3.mono fun _ hc=>hc.elim).trans (hpk.mono fun c hc=>.inr (q.new c hc)))) _ _ _ _ ge hd
 ·obtain ⟨s,l,hl,_,rfl⟩:=hc
  obtain ⟨e1,_⟩:=hlz s l hl
  subst e1
  refine⟨h1n.1,fun hq=>?_⟩
  rcases hbl _ hq with q1|q1
  ·exact h1n.2 q1
  ·omega
 ·rcases hbl _ hc with q1|q1
  ·exact q.new _ q1
  ·omega
theorem Va {b:Bk} {w0 w:World} {hh:IH} {on:Nat→Prop} {β1 β:Nat→Nat} {V:Nat→Option Addr×Nat} {bj:Bk} {j:Nat} (q:Bg b w0 j hh on β1 β V bj w) (hsz:Yg b) (hlen:(ak b).length≤1000000) (h256:b.es.length≤256) {a:Act} (g:aO hh ⟨on,β1⟩ w hh (yD b (fM β) (ak b).length j) β1 hh a.tmps w) (hd:a.defers=[]) :
  wpS Tryz.prog OX (yA b w0 ((ak b).length-j)) .normal a w:=by
 obtain ⟨z1,z2⟩:=hsz j
 have h18:=fun (G:IH)=>f18 (G:=G) ((ak b).getD j ev0) z1 z2
 cases hok:aG ((ak b).getD j ev0) with
 | false=>
  have hA:aK Tryz.prog hh ⟨on,β1⟩ w hh OX (yD b (fM β) (ak b).length j) (yA b w0 ((ak b).length-j)):=by
   refine dX (aj:=NP b false) follows (fun _=>none) (cuts:=[]) (n:=1000) ?_
   refine KA ((ak b).getD (↑j:Int).toNat ev0) (decide ((↑j:Int)<↑(ak b).length)) ((.d (.con (.pointer (some (Addr.mk (β (3*0)) 0 none))))):AV) ((.d (.slc 9 (ak b).length (bW (ak b)))):AV) (fun Za Zb Zc Zd=>(((Zb=true)→(((0≤(↑j:Int))∧((↑j:Int)<↑(ak b).length))∧aA Tryz.prog hh 18 [(.agg [(di Za.kind),(ds Za.k.st),(ds Za.k.ex),(di Za.k.n),(di Za.t),(di Za.v),(di Za.h),(ds Za.s),(db Za.acc)])] (db false)∧((true=true)→aP hh (Fr.mk on β1) w hh (yA b w0 ((ak b).length-j)) .ret ⟨regs 35 [(1,(.box 1 0)),(2,(vb false)),(3,Zc),(5,(.box 5 0)),(13,Zd),(14,(vi (↑(ak b).length))),(15,(vi (↑j))),(16,(vb Zb)),(17,(.d (.ptr [(di Za.kind),(ds Za.k.st),(ds Za.k.ex),(di Za.k.n),(di Za.t),(di Za.v),(di Za.h),(ds Za.s),(db Za.acc)]))),(18,(.d (.agg [(di Za.kind),(ds Za.k.st),(ds Za.k.ex),(di Za.k.n),(di Za.t),(di Za.v),(di Za.h),(ds Za.s),(db Za.acc)]))),(19,(.d (.agg [(di Za.kind),(ds Za.k.st),(ds Za.k.ex),(di Za.k.n),(di Za.t),(di Za.v),(di Za.h),(ds Za.s),(db Za.acc)]))),(20,(vb false)),(21,(vb true)),(22,(vb true)),(27,(vb true))],[(5,fJ Za),(1,[(vi b.t),(.d (.slc 7 b.es.length (bK b.es)))])]⟩)∧((true=false)→((I64 (↑j+1))∧aP hh (Fr.mk on β1) w hh (yA b w0 ((ak b).length-j)) .normal ⟨regs 35 [(1,(.box 1 0)),(3,Zc),(5,(.box 5 0)),(13,Zd),(14,(vi (↑(ak b).length))),(15,(vi (↑j+1))),(16,(vb Zb)),(17,(.d (.ptr [(di Za.kind),(ds Za.k.st),(ds Za.k.ex),(di Za.k.n),(di Za.t),(di Za.v),(di Za.h),(ds Za.s),(db Za.acc)]))),(18,(.d (.agg [(di Za.kind),(ds Za.k.st),(ds Za.k.ex),(di Za.k.n),(di Za.t),(di Za.v),(di Za.h),(ds Za.s),(db Za.acc)]))),(19,(.d (.agg [(di Za.kind),(ds Za.k.st),(ds Za.k.ex),(di Za.k.n),(di Za.t),(di Za.v),(di Za.h),(ds Za.s),(db Za.acc)]))),(20,(vb false)),(21,(vb true)),(22,(vb true)),(27,(vb true)),(28,(vi (↑j+1)))],[(5,fJ Za),(1,[(vi b.t),(.d (.slc 7 b.es.length (bK b.es)))])]⟩))))∧((Zb=false)→aP hh (Fr.mk on β1) w hh (yA b w0 ((ak b).length-j)) (.exit 0) ⟨regs 35 [(1,(.box 1 0)),(3,Zc),(13,Zd),(14,(vi (↑(ak b).length))),(15,(vi (↑j))),(16,(vb Zb))],[(1,[(vi b.t),(.d (.slc 7 b.es.length (bK b.es)))])]⟩))) (by kernel_rfl) ?_
   try dsimp only
   simp only[gW]
   refine⟨fun c=>?_,fun c=>N7 (n:=(ak b).length) q (by have:=of_decide_eq_false c;omega) h256 ?_⟩
   ·have hj:j<(ak b).length:=by have:=dn c;omega
    refine⟨⟨by omega,by omega⟩,hok▸h18 hh,fun _=>?_,fun c=>(by cases c)⟩
    have hr:∀st:AS,iM Tryz.prog st Tryz.f32.results.toList=some [.d (db false)]→aP hh ⟨on,β1⟩ w hh (aS Tryz.prog Tryz.f32 (R32 b w0)) .ret st:=fun st hr=>aP.ret rfl hr fun β4 k4 tm w4 v g4 hv=>by
     have hv:v=.bool false:=hv
     subst hv
     exact⟨by rw[QH q hj (by rw[hok];exact fun ⟨x,_⟩=>by cases x)],iL ((q.kept.mono fun _ hc=>hc.elim).trans (g4.kept.mono fun c hc=>.inr (q.apart c hc).1))⟩
    exact hr _ rfl
   ·exact AS.bD (by kernel_rfl)
  exact hA β1 hh a w g hd
 | true=>
  have hA:aK Tryz.prog hh ⟨on,β1⟩ w hh OX (yD b (fM β) (ak b).length j) (yA b w0 ((ak b).length-j)):=by
   refine dX (aj:=NP b true) follows (fun _=>none) (cuts:=[7]) (n:=1000) ?_
   refine qL ((ak b).getD (↑j:Int).toNat ev0) (decide ((↑j:Int)<↑(ak b).length)) (fun Za Zb=>(((Zb=true)→(((0≤(↑j:Int))∧((↑j:Int)<↑(ak b).length))∧aK Tryz.prog hh (Fr.mk on β1) w hh [cd Tryz.f32 [1,1,1,0,1,0,0,1,1,0,0,1],(.blk 1),cd Tryz.f32 [1,1,1,0,1,0,0,1,1,1]] ⟨regs 35 [(1,(.box 1 0)),(3,(.d (.con (.pointer (some (Addr.mk (β (3*0)) 0 none)))))),(5,(.box 5 0)),(13,(.d (.slc 9 (ak b).length (bW (ak b))))),(14,(vi (↑(ak b).length))),(15,(vi (↑j))),(16,(vb Zb)),(17,(.d (.ptr [(di Za.kind),(ds Za.k.st),(ds Za.k.ex),(di Za.k.n),(di Za.t),(di Za.v),(di Za.h),(ds Za.s),(db Za.acc)]))),(18,(.d (.agg [(di Za.kind),(ds Za.k.st),(ds Za.k.ex),(di Za.k.n),(di Za.t),(di Za.v),(di Za.h),(ds Za.s),(db Za.acc)])))],[(5,fJ Za),(1,[(vi b.t),(.d (.slc 7 b.es.length (bK b.es)))])]⟩ (yA b w0 ((ak b).length-j))))∧((Zb=false)→aP hh (Fr.mk on β1) w hh (yA b w0 ((ak b).length-j)) (.exit 0) ⟨regs 35 [(1,(.box 1 0)),(3,(.d (.con (.pointer (some (Addr.mk (β (3*0)) 0 none)))))),(13,(.d (.slc 9 (ak b).length (bW (ak b))))),(14,(vi (↑(ak b).length))),(15,(vi (↑j))),(16,(vb Zb))],[(1,[(vi b.t),(.d (.slc 7 b.es.length (bK b.es)))])]⟩))) (by kernel_rfl) ?_
   try dsimp only
   simp only[gW]
   refine⟨fun c=>?_,fun c=>N7 (n:=(ak b).length) q (by have:=of_decide_eq_false c;omega) h256 ?_⟩
   ·have hj:j<(ak b).length:=by have:=dn c;omega
    refine⟨⟨by omega,by omega⟩,?_⟩
    refine aK.weaken (st':=adO b (fM β) (ak b).length j ((ak b).getD j ev0)) ?_ ?_
    ·exact AS.bD (by kernel_rfl)
    refine aK.seq (a:=aU (au Tryz.f32) [1,1,1,0,1,0,0,1,1,0,0,1,0]) (b:=aU (au Tryz.f32) [1,1,1,0,1,0,0,1,1,0,0,1,1]) (by kernel_rfl) ?_
    refine aK.qR (aj:=NP b true) follows (fun _=>none) 6 (by kernel_rfl) ?_
    refine je ((.agg [(di ((ak b).getD j ev0).kind), (ds ((ak b).getD j ev0).k.st), (ds ((ak b).getD j ev0).k.ex), (di ((ak b).getD j ev0).k.n), (di ((ak b).getD j ev0).t), (di ((ak b).getD j ev0).v), (di ((ak b).getD j ev0).h), (ds ((ak b).getD j ev0).s), (db ((ak b).getD j ev0).acc)]) : DV) (fun Za => (aA Tryz.prog hh 18 [Za] (db true) ∧ aP hh (Fr.mk on β1) w hh (iP Tryz.prog (opsOf (aU (au Tryz.f32) [1, 1, 1, 0, 1, 0, 0, 1, 1, 0, 0, 1, 0])).toList 6 ((opsOf (aU (au Tryz.f32) [1, 1, 1, 0, 1, 0, 0, 1, 1, 0, 0, 1, 0])).toList.length - 6) (wpS Tryz.prog [It.code (aU (au Tryz.f32) [1, 1, 1, 0, 1, 0, 0, 1, 1, 0, 0, 1, 1]), It.blk 1, It.code (Code.region 9 #[Oper.mk (some 28) (Op.binOp BinOp.add 3 (Operand.tmp 15) (Operand.const (Value.int IntKind.i64 1)) 3) 3 "book.go:160" #[] none, Oper.mk (some 15) (Op.move (Operand.tmp 28)) 3 "book.go:160" #[Edge.mk 0 Ground.data] none] false)] (yA b w0 ((ak b).length - j)))) .normal ⟨regs 35 [(1, (.box 1 0)), (3, (.d (.con (.pointer (some (Addr.mk (β (3 * 0)) 0 none)))))), (5, (.box 5 0)), (13, (.d (.slc 9 (ak b).length (bW (ak b))))), (14, (vi (↑(ak b).length))), (15, (vi (↑j))), (19, (.d Za)), (20, (vb true)), (21, (vb false)), (22, (vb false)), (23, (.gate 22 false true (.d (.con (.pointer (some (Addr.mk (β (3 * 0)) 0 none))))))), (24, (.gate 22 false true (.d Za)))], [(5, [(vi ((ak b).getD j ev0).kind), (vs ((ak b).getD j ev0).k.st), (vs ((ak b).getD j ev0).k.ex), (vi ((ak b).getD j ev0).k.n), (vi ((ak b).getD j ev0).t), (vi ((ak b).getD j ev0).v), (vi ((ak b).getD j ev0).h), (vs ((ak b).getD j ev0).s), (vb ((ak b).getD j ev0).acc)]), (1, [(vi b.t), (.d (.slc 7 b.es.length (bK b.es)))])]⟩)) (by kernel_rfl) ?_
    refine⟨hok▸h18 hh,?_⟩
    intro β3 h3 a3 w3 g3 hd3
    have g4:=g3.weaken (st':=XF b (fM β) (ak b).length j ((ak b).getD j ev0)) (by refine AS.leZ [] [] (b:=((T0∧T0∧T0∧T0∧T0∧T0∧T0∧T0∧True)∧T0∧True)) (by kernel_rfl) (by kernel_rfl) ?_;exact⟨⟨rfl,rfl,rfl,rfl,rfl,rfl,rfl,rfl,trivial⟩,rfl,trivial⟩)
    exact(WQ q hj hlen hok) _ _ _ _ g4 hd3
   ·exact AS.bD (by kernel_rfl)
  exact hA β1 hh a w g hd
theorem bQ.fresh {h1:IH} {w1:World} (hw:h1.holds w1) {c T:Nat} (ht:w1.heap[c]?=some (.cells #[.int .i64 0,.slice none 0 0] T (0,0))) (hu:(∀o,h1.cell c o=none)∧h1.obj c=none):bQ h1 (upd (fun _=>0) 0 c T 0) (fun _=>(none,0)) fA w1:=by
 have b0:blk (upd (fun _=>0) 0 c T 0) 0=c:=aT ..
 have r0:room (upd (fun _=>0) 0 c T 0) 0=T:=aH ..
 have r1:room (upd (fun _=>0) 0 c T 0) 1=0:=by rw[bI (by decide)];rfl
 refine⟨hw,by rw[b0,r0];exact ht,?_,fun i hi=>(by cases hi),fun i hi=>(by cases hi),fun s hs hl=>?_,fun s t hs ht' hl hl' _=>?_⟩
 ·rw[r1];exact cZ.nil rfl
 ·have hs:s<2:=hs
  rcases hl with rfl|hl
  ·rw[b0];exact hu
  ·have:s=0∨s=1:=by omega
   rcases this with rfl|rfl
   ·rw[b0];exact hu
   ·omega
 ·have hs:s<2:=hs
  have ht':t<2:=ht'
  have z:∀s,s<2→jc (upd (fun _=>0) 0 c T 0) s→s=0:=fun s hs hl=>by
   rcases hl with rfl|hl
   ·rfl
   ·have:s=0∨s=1:=by omega
    rcases this with rfl|rfl
    ·rfl
    ·omega
  rw[z s hs hl,z t ht' hl']
theorem VR {F:Fr} {w0:World} {h0 h:IH} {rs:List AV} {bs:List (Nat×List AV)} {β:Nat→Nat} {tm:Array Value} (g:aO G F w0 h0 ⟨rs,bs⟩ β h tm w) {q:Nat} {v:Value} (hv:tm[q]?=some v):aO G F w0 h0 ⟨rs.set q (.d (.con v)),bs⟩ β h tm w:=by
 refine⟨g.glob,g.holds,g.ext,g.old,g.kept,g.fix,by simpa using g.size,fun t x hx=>?_,g.box,g.inj⟩
 by_cases ht:t=q
 ·subst ht
  have hlt:t<rs.length:=by
   have:=(List.getElem?_eq_some_iff.1 hx).1
   simpa using this
  simp only[List.getElem?_set_self hlt,aI] at hx
  subst hx
  exact⟨v,hv,rfl⟩
 ·simp only[List.getElem?_set_ne (Ne.symm ht)] at hx
  exact g.regs t x hx
noncomputable def Px (b:Bk) (n:Nat):AS:=⟨regs Tryz.f32.ntmps [(1,.box 1 0),(3,.box 11 0),(13,.d (eu (ak b))),(14,vi n),(15,vi 0)],[(11,[.d (di 0),.d (.con (.slice none 0 0))]),(1,(fQ b).map .d)]⟩
theorem abx (b:Bk) (hs:gq b.es) (hl:(bn b.es).length≤1000000) (hsz:Yg b) (hlen:(ak b).length≤1000000) (hw:G.holds w) {u:Value} (hu:DV.rel G (cu b) u):Calls Tryz.prog 32 #[u] w fun r w'=>∃v,r=.returned v∧R32 b w v w':=by
 have g:=aO.bare (G:=G) (rs:=[.d (cu b)]) (β:=fun _=>0) (tm:=#[u]) (IH.le.refl G) hw rfl (fun t x hx=>by
  rcases t with _|t
  ·simp at hx;subst hx;exact⟨_,rfl,hu⟩
  ·simp at hx) (fun _=>False)
 refine Calls.BF Tryz.func32 rfl g ?_
 refine dX (aj:=NP b true) follows (fun _=>none) (cuts:=[]) (n:=1000) ?_
 refine qL ((.slc 7 b.es.length (bK b.es)):DV) (decide ((↑b.es.length:Int)>256)) (fun Za Zb=>(((Zb=true)→aP G (Fr.mk (fun x=>False) fun x=>0) w G (aS Tryz.prog Tryz.f32 (R32 b w)) .ret ⟨regs 35 [(0,(.d (.agg [(di b.t),Za]))),(1,(.box 1 0)),(2,(vb false)),(6,(.box 1 1)),(7,(.d Za)),(8,(vi (↑b.es.length))),(9,(vb Zb))],[(1,[(vi b.t),(.d Za)])]⟩)∧((Zb=false)→(aA Tryz.prog G 53 [(.agg [(di b.t),Za])] (.slc 9 (ak b).length (bW (ak b)))∧aK Tryz.prog G (Fr.mk (fun x=>False) fun x=>0) w G [cd Tryz.f32 [1,1,1,0,1,0],(.blk 0),cd Tryz.f32 [1,1,1,1]] ⟨regs 35 [(0,(.d (.agg [(di b.t),Za]))),(1,(.box 1 0)),(2,(vb false)),(3,(.box 11 0)),(6,(.box 1 1)),(7,(.d Za)),(8,(vi (↑b.es.length))),(9,(vb Zb)),(10,(.d (.agg [(di 0),dG]))),(11,(.box 11 0)),(12,(.d (.agg [(di b.t),Za]))),(13,(.d (.slc 9 (ak b).length (bW (ak b))))),(14,(vi (↑(ak b).length))),(15,(vi 0))],[(11,[(vi 0),(.d dG)]),(1,[(vi b.t),(.d Za)])]⟩ (aS Tryz.prog Tryz.f32 (R32 b w)))))) (by kernel_rfl) ?_
 refine⟨fun c=>?_,fun c=>⟨f53 b hs hl,?_⟩⟩
 ·refine aP.ret rfl rfl fun β1 k1 tm w' v g1 hv=>?_
  have hv:v=.bool false:=hv
  subst hv
  have c:¬b.es.length≤256:=by have:=dn c;omega
  exact⟨by unfold aJ;rw[decide_eq_false c];rfl,g1.kept⟩
 have h256:b.es.length≤256:=by have:=of_decide_eq_false c;omega
 refine aK.weaken (st':=Px b (ak b).length) ?_ ?_
 ·exact AS.bD (by kernel_rfl)
 intro β1 h1 a w1 g1 hd
 have abg:(Px b (ak b).length).box 11=some [.d (di 0),.d (.con (.slice none 0 0))]:=rfl
 have hb1:(Px b (ak b).length).box 1=some ((fQ b).map .d):=rfl
 obtain ⟨q1,⟨⟨T,hT⟩,vs,ho,v0,vs1,rfl,r0,v1,vs2,rfl,r1,r2⟩⟩:=g1.box 11 _ abg
 have r2:vs2=[]:=r2
 have r0:v0=.int .i64 0:=r0
 have r1:v1=.slice none 0 0:=r1
 subst r2 r0 r1
 have hT:T=room β1 11:=hT
 subst hT
 obtain ⟨q2,q3⟩:=q1 trivial
 have q2:w.heap.size≤blk β1 11:=q2.resolve_left id
 have hB:=bQ.fresh g1.holds ho q3
 have hne:blk β1 1≠blk β1 11:=fun hq=>absurd (g1.inj 1 11 _ _ hb1 abg trivial trivial hq) (by decide)
 have n1:w.heap.size≤blk β1 1:=((g1.box 1 _ hb1).1 trivial).1.resolve_left id
 have hBl:∀c,iF (upd (fun _=>0) 0 (blk β1 11) (room β1 11) 0) fA.es.length c→c=blk β1 11:=by
  rintro c ⟨s,s1,s2,s3⟩
  have hs:s<2:=s1
  have:s=0∨s=1:=by omega
  rcases this with rfl|rfl
  ·rw[aT] at s3;exact s3.symm
  ·rcases s2 with s2|s2
   ·cases s2
   ·rw[bI (by decide)] at s2;cases s2
 obtain ⟨v3,hv3,hr3⟩:=g1.regs 3 (.box 11 0) rfl
 have hr3:v3=.pointer (some ⟨blk β1 11,0,none⟩):=hr3
 subst hr3
 have hp0:fM (upd (fun _=>0) 0 (blk β1 11) (room β1 11) 0)=.pointer (some ⟨blk β1 11,0,none⟩):=by
  show Value.pointer _=Value.pointer _
  rw[aT]
 have g2:=(VR (rs:=(Px b (ak b).length).regs) (bs:=(Px b (ak b).length).boxes) g1 hv3).weaken (st':=yD b (fM (upd (fun _=>0) 0 (blk β1 11) (room β1 11) 0)) (ak b).length 0) (by
  rw[hp0]
  exact AS.bD (by kernel_rfl))
 have g3:=fZ g2
 have hlz:∀s l,Go.Ab.look [(1,(fQ b).map AV.d)] s=some l→s=1:=by
  intro s l hl
  simp only[Go.Ab.look] at hl
  by_cases e2:(1:Nat)=s
  ·exact e2.symm
  ·rw[aQ e2,cond_false] at hl;cases hl
 have hkk:Kept (fun _=>False) w w1:=g1.kept
 refine BJ (c:=aU (au Tryz.f32) [1,1,1,0,1,0,0]) (by kernel_rfl) (I32 b w) ((ak b).length-0) ⟨0,h1,_,β1,_,_,fA,rfl,⟨Nat.zero_le _,hB,?_,fun c hc=>by rw[hBl c hc];exact q2,hkk,rfl,Iw,fun i hi=>(by cases hi)⟩,g3,hd⟩ ?_
 ·rintro c ⟨s,l,hl,_,rfl⟩
  rw[hlz s l hl]
  exact⟨n1,fun hc=>hne (hBl _ hc)⟩
 ·rintro n a2 w2 ⟨j,hh,on,β2,β,V,bj,rfl,q,g,hd2⟩
  exact Va q hsz hlen h256 g hd2
theorem f32 (b:Bk) (hs:gq b.es) (hl:(bn b.es).length≤1000000) (hsz:Yg b) (hlen:(ak b).length≤1000000):aA Tryz.prog G 32 [cu b] (db (aJ aG b)):=by
 refine⟨Tryz.call32,fun w h vs hG hw hr=>?_⟩
 obtain ⟨u,vs1,rfl,r,hn⟩:=hr
 have hn:vs1=[]:=hn
 subst hn
 refine(abx (G:=h) b hs hl hsz hlen hw r).mono ?_
 rintro e w' ⟨v,rfl,hv,hk⟩
 refine⟨v,h,rfl,hv,IH.le.refl h,?_,hk,fun _ _=>⟨fun _=>rfl,rfl⟩⟩
 exact wR hw hk fun _ hc=>hc.elim
end Go.Proofs
namespace Go.Proofs
open Go Go.Ab Go.RowKit
variable {G:IH}
theorem Y2 (c:Nat):dD Tryz.prog G 74 [.d (.con (.slice none 0 c))] [] (.d (.con (.slice none 0 0))) []:=by
 refine dD.walk (aj:={ d:=bG,rows:=fun n=>Nat.beq n 5 }) (keep:=[]) [] follows (by kernel_rfl) Tryz.func74 rfl Tryz.call74 ?_
 refine aC (fun _ _ _ _=>(((true=true)→((ZS ((.d dG):AV))∧True))∧((true=false)→((((0+0)*40≤1099511627776)∧(0+0≤1099511627776))∧((.vec 7 4 0 0):AV)=(.d dG)∧True)))) (by kernel_rfl) ?_
 exact⟨fun _=>⟨rfl,trivial⟩,fun c=>(by cases c)⟩
theorem Xk (p:Addr) (c:Nat):dD Tryz.prog G 74 [.d (.con (.slice (some p) 0 c))] [] (.vec 7 4 0 0) [(7,[.arr jU 4 (fun i=>bif i.blt 0 then DV.con undef else DV.con undef)])]:=by
 refine dD.walk (aj:={ d:=bG,rows:=fun n=>Nat.beq n 5 }) (keep:=[]) [] follows (by kernel_rfl) Tryz.func74 rfl Tryz.call74 ?_
 refine aC (fun _ _ _ _=>(fun Za=>(((false=true)→(((.d dG):AV)=(.vec 7 4 0 0)∧(none:dS)=Za∧True))∧((false=false)→((((0+0)*40≤1099511627776)∧(0+0≤1099511627776))∧(ZS ((.vec 7 4 0 0):AV))∧(Za:dS)=Za∧True)))) (some [(.arr qW 4 (fun i=>bif i.blt 0 then DV.con undef else DV.con undef))])) (by kernel_rfl) ?_
 exact⟨fun c=>(by cases c),fun _=>⟨⟨by omega,by omega⟩,rfl,rfl,trivial⟩⟩
theorem Wu (l:List Gv) (h0:0<l.length) (hl:l.length≤1000000):dD Tryz.prog G 74 [.d (jZ l)] [] (.vec 7 4 0 l.length) [(7,[.arr jU 4 (fun i=>bif i.blt 0 then DV.con undef else dP l (i-0))])]:=by
 refine dD.walk (aj:={ d:=bG,rows:=fun n=>Nat.beq n 5 }) (keep:=[]) [] follows (by kernel_rfl) Tryz.func74 rfl Tryz.call74 ?_
 refine aC (fun _ _ _ _=>(fun Za=>((0<l.length)∧((false=true)→(((.d dG):AV)=(.vec 7 4 0 l.length)∧(none:dS)=Za∧True))∧((false=false)→(((((0+l.length)*40≤1099511627776)∧(0+l.length≤1099511627776))∧(∀(i:Nat),i<l.length→qm true 4 (dP l i)=true))∧((.vec 7 4 0 (0+l.length)):AV)=(.vec 7 4 0 l.length)∧(Za:dS)=Za∧True)))) (some [(.arr qW 4 (fun i=>bif i.blt 0 then DV.con undef else dP l (i-0)))])) (by kernel_rfl) ?_
 try dsimp only
 rw[Nat.zero_add]
 exact⟨h0,fun c=>(by cases c),fun _=>⟨⟨⟨by omega,by omega⟩,fun i _=>rfl⟩,rfl,rfl,trivial⟩⟩
theorem YL (c:Nat):dD Tryz.prog G 75 [.d (.con (.slice none 0 c))] [] (.d (.con (.slice none 0 0))) []:=by
 refine dD.walk (aj:={ d:=bG,rows:=fun n=>Nat.beq n 5 }) (keep:=[]) [] follows (by kernel_rfl) Tryz.func75 rfl Tryz.call75 ?_
 refine aC (fun _ _ _ _=>(((true=true)→((ZS ((.d dG):AV))∧True))∧((true=false)→((((0+0)*56≤1099511627776)∧(0+0≤1099511627776))∧((.vec 7 6 0 0):AV)=(.d dG)∧True)))) (by kernel_rfl) ?_
 exact⟨fun _=>⟨rfl,trivial⟩,fun c=>(by cases c)⟩
theorem VZ (p:Addr) (c:Nat):dD Tryz.prog G 75 [.d (.con (.slice (some p) 0 c))] [] (.vec 7 6 0 0) [(7,[.arr iZ 6 (fun i=>bif i.blt 0 then DV.con undef else DV.con undef)])]:=by
 refine dD.walk (aj:={ d:=bG,rows:=fun n=>Nat.beq n 5 }) (keep:=[]) [] follows (by kernel_rfl) Tryz.func75 rfl Tryz.call75 ?_
 refine aC (fun _ _ _ _=>(fun Za=>(((false=true)→(((.d dG):AV)=(.vec 7 6 0 0)∧(none:dS)=Za∧True))∧((false=false)→((((0+0)*56≤1099511627776)∧(0+0≤1099511627776))∧(ZS ((.vec 7 6 0 0):AV))∧(Za:dS)=Za∧True)))) (some [(.arr oz 6 (fun i=>bif i.blt 0 then DV.con undef else DV.con undef))])) (by kernel_rfl) ?_
 exact⟨fun c=>(by cases c),fun _=>⟨⟨by omega,by omega⟩,rfl,rfl,trivial⟩⟩
theorem WW (l:List Al) (h0:0<l.length) (hl:l.length≤1000000):dD Tryz.prog G 75 [.d (iD l)] [] (.vec 7 6 0 l.length) [(7,[.arr iZ 6 (fun i=>bif i.blt 0 then DV.con undef else dI l (i-0))])]:=by
 refine dD.walk (aj:={ d:=bG,rows:=fun n=>Nat.beq n 5 }) (keep:=[]) [] follows (by kernel_rfl) Tryz.func75 rfl Tryz.call75 ?_
 refine aC (fun _ _ _ _=>(fun Za=>((0<l.length)∧((false=true)→(((.d dG):AV)=(.vec 7 6 0 l.length)∧(none:dS)=Za∧True))∧((false=false)→(((((0+l.length)*56≤1099511627776)∧(0+l.length≤1099511627776))∧(∀(i:Nat),i<l.length→qm true 6 (dI l i)=true))∧((.vec 7 6 0 (0+l.length)):AV)=(.vec 7 6 0 l.length)∧(Za:dS)=Za∧True)))) (some [(.arr oz 6 (fun i=>bif i.blt 0 then DV.con undef else dI l (i-0)))])) (by kernel_rfl) ?_
 try dsimp only
 rw[Nat.zero_add]
 exact⟨h0,fun c=>(by cases c),fun _=>⟨⟨⟨by omega,by omega⟩,fun i _=>rfl⟩,rfl,rfl,trivial⟩⟩
end Go.Proofs
