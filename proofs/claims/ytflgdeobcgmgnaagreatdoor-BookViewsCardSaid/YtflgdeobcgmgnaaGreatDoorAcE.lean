import Derived.Test.YtflgdeobcgmgnaaGreatDoorAcD
set_option autoImplicit false
namespace Go.Ab
open Go Go.RowKit
section
variable {P:Program} {G:IH} {aj:dU} {F:Fr} {w0:World} {h0:IH} {R:Exit→Act→World→Prop}
def aK (P:Program) (G:IH) (F:Fr) (w0:World) (h0:IH) (k:List It) (st:AS) (R:Exit→Act→World→Prop):Prop:=
 ∀(β:Nat→Nat) (h:IH) (a:Act) (w:World),aO G F w0 h0 st β h a.tmps w→a.defers=[]→wpS P k R .normal a w
def aP (G:IH) (F:Fr) (w0:World) (h0:IH) (R:Exit→Act→World→Prop) (e:Exit) (st:AS):Prop:=
 ∀(β:Nat→Nat) (h:IH) (a:Act) (w:World),aO G F w0 h0 st β h a.tmps w→a.defers=[]→R e a w
theorem aK.weaken {k:List It} {st st':AS} (hl:st.le st') (h:aK P G F w0 h0 k st' R):aK P G F w0 h0 k st R:=
 fun β h1 a w g hd=>h β h1 a w (g.weaken hl) hd
def Tree.okR (P:Program) (G:IH) (F:Fr) (w0:World) (h0:IH) (R:Exit→Act→World→Prop):Tree→Prop
 | .leaf e st=>aP G F w0 h0 R e st
 | .br b t f=>(b=true→t.okR P G F w0 h0 R)∧(b=false→f.okR P G F w0 h0 R)
 | .need ps t=>J7 ps∧t.okR P G F w0 h0 R
 | .stop k st=>aK P G F w0 h0 k st R
 | .bad _=>False
def dV (P:Program) (G:IH) (F:Fr) (w0:World) (h0:IH) (all:List Oper) (k n:Nat) (st:AS) (R:Exit→Act→World→Prop):Prop:=
 ∀(β:Nat→Nat) (h:IH) (a:Act) (w:World),aO G F w0 h0 st β h a.tmps w→a.defers=[]→wpOps P all.toArray R (List.range' k n) a w
theorem dV.done {all:List Oper} {k:Nat} {st:AS} {l:List It} (h:aK P G F w0 h0 l st R):dV P G F w0 h0 all k 0 st (wpS P l R):=by
 intro β h1 a w g hd
 simpa [wpOps] using h β h1 a w g hd
theorem dV.pre {all:List Oper} {k n:Nat} {st st':AS} (hle:∀(β:Nat→Nat) (h:IH) (tm:Array Value) (w:World),aO G F w0 h0 st β h tm w→∃β',aO G F w0 h0 st' β' h tm w) (h:dV P G F w0 h0 all k n st' R):dV P G F w0 h0 all k n st R:=
 fun β h1 a w g hd=>let ⟨β',g'⟩:=hle β h1 a.tmps w g;h β' h1 a w g' hd
theorem Jg (all:List Oper):∀(l:List Oper) (es:List Ev) (st:AS) (k n:Nat),(∀j,j<l.length→l[j]?=all[k+j]?)→kH P G all l es st→
  (∀(i:Nat) (e:Ev),es[i]?=some e→∀b∈e.nw,(iK (es.take i) st).free b.1=true)→dV P G F w0 h0 all (k+l.length) n (iK es st) R→dV P G F w0 h0 all k (l.length+n) st R
 | [],es,st,k,n,_,hs,_,hQ=>by
  simp only[kH] at hs;subst hs
  simpa [iK] using hQ
 | o :: l,es,st,k,n,hk,⟨e,es',hes,hop,hs⟩,hf,hQ=>by
  subst hes
  intro β h a w g hd
  rw[List.length_cons,Nat.add_right_comm,List.range'_succ,wpOps_cons]
  have ho:all.toArray[k]?=some o:=by simpa using (hk 0 (by simp)).symm
  simp only[wpOp,ho]
  refine Fa (hop F w0 h0 st β h a w _ R rfl (fun _ _=>rfl) (fun b hb=>by simpa [iK] using hf 0 e rfl b hb) g hd ?_)
  intro a' w' β' h' hd' g'
  refine Jg all l es' (e.app st) (k+1) n (fun j hj=>by have:=hk (j+1) (by simpa using hj);simpa [Nat.add_assoc,Nat.add_comm 1 j] using this) hs
   (fun i e' he' b hb=>by have:=hf (i+1) e' (by simpa using he') b hb;simpa [iK] using this) ?_ β' h' a' w' g' hd'
  have:k+1+l.length=k+(o :: l).length:=by rw[List.length_cons];omega
  rw[this]
  simpa [iK] using hQ
end
end Go.Ab
namespace Go.Ab
open Go Go.RowKit
section
variable {P:Program} {G:IH} {aj:dU} {F:Fr} {w0:World} {h0:IH} {R:Exit→Act→World→Prop}
theorem Jq:∀{es:List Ev} {st:AS},jG st es=true→nM es=true→∀(i:Nat) (e:Ev),es[i]?=some e→∀b∈e.nw,(iK (es.take i) st).free b.1=true:=by
 intro es st hfr hord i e he b hb
 rw[←vK]
 refine sV 0 es st ?_ fun j e' he' hj=>?_
 ·simp only[jG,List.all_eq_true] at hfr
  exact hfr e (List.mem_of_getElem? he) b hb
 ·simp only[Nat.zero_add,Nat.blt_eq] at hj
  exact oH hord hj he' he b hb
theorem dV.steps {all:List Oper} {k m n:Nat} {st st':AS} {cs:List Prop} {es:List Ev} (hg:Good st) (he:vJ P G aj all ((all.drop k).take m) st=some (cs,es,st')) (hl:((all.drop k).take m).length=m)
  (hok:(jG st es&&nM es)=true) (hc:J7 cs) (h:dV P G F w0 h0 all (k+m) n st' R):dV P G F w0 h0 all k (m+n) st R:=by
 simp only[aY] at hok
 obtain ⟨h1,rfl⟩:=BA he hg (vG hc)
 have:=Jg (F:=F) (w0:=w0) (h0:=h0) (R:=R) all ((all.drop k).take m) es st k n (fun j hj=>?_) h1 (Jq hok.1 hok.2) (by rw[hl];exact h)
 ·rwa [hl] at this
 ·rw[hl] at hj
  rw[List.getElem?_take_of_lt hj,List.getElem?_drop]
theorem dV.clear {all:List Oper} {k n:Nat} {st:AS} (h:dV P G F w0 h0 all k n st.clear R):dV P G F w0 h0 all k n st R:=
 dV.pre (fun β _ _ _ g=>⟨β,g.clear⟩) h
theorem dV.call {all:List Oper} {k n:Nat} {st:AS} {o:Oper} {c:Call} {x:Operand} {g:FuncId} {a1 a2:List AV} {γ:Option (Nat×Bool×Bool)} (ho:all[k]?=some o) (hop:o.op=.call c) (hc:c.callee=.value x)
  (hγ:guardOf all o st=some γ) (hb:∀s w b,γ=some (s,w,b)→b=true) (hx:kG (st.ev x)=some (g,a1,a2)) (hcall:∀(us:Array Value) (w:World),(callFunc g us).run P w=.ok (.enter g us) w)
  (H:∀(β:Nat→Nat) (h:IH) (a:Act) (w:World) (vs:List Value),aO G F w0 h0 st β h a.tmps w→a.defers=[]→AV.aF β h (a1++(c.args.toList.map st.ev++a2)) vs→
   Calls P g vs.toArray w fun e w'=>∃v,e=.returned v∧wpOps P all.toArray R (List.range' (k+1) n) (a.put o.dst v) w'):dV P G F w0 h0 all k (n+1) st R:=by
 intro β h a w gm hd
 rw[List.range'_succ,wpOps_cons]
 have ho':all.toArray[k]?=some o:=by simpa using ho
 simp only[wpOp,ho']
 refine Fa ?_
 have hw:=(Ui (e:={ dst:=o.dst,val:=.any }) hγ (fun _ _=>rfl) gm hb).1
 rw[if_pos hw]
 have hxv:=gm.ev x
 obtain ⟨va,vc,hv,ha,hcv⟩:=oD hx hxv
 have hargs:AV.aF β h (c.args.toList.map st.ev) (c.args.toList.map a.eval):=qA fun y _=>gm.ev y
 have hall:=ha.append (hargs.append hcv)
 have hm:c.args.map a.eval=(c.args.toList.map a.eval).toArray:=by apply Array.ext';simp
 have jq:(execOp a.eval o).run P w=(callFunc g (va++(c.args.toList.map a.eval++vc)).toArray).run P w:=by
  simp only[execOp,hop,resolve,hc,hv,hm,Deferred.ofValue,Sem.run_bind,Sem.run_pure,Result.andThen_ok,invoke,List.append_toArray,List.append_assoc]
 unfold Oper.wp
 rw[jq,hcall,Oper.upon_enter]
 refine(H β h a w _ gm hd hall).mono ?_
 rintro e w' ⟨v,rfl,hq⟩
 exact hq
theorem BJ {σ:Type} {c:Code} {k:List It} (I:σ→Act→World→Prop) (μ:σ→Nat)
  (round:∀x a w,I x a w→c.wp P (fun e a' w'=>match e with | .normal=>∃x',I x' a' w'∧μ x' < μ x|e=>wpS P k R e a' w') a w) (x:σ) (a:Act) (w:World) (h:I x a w):wpS P (.code (.loop c) :: k) R .normal a w:=by
 classical
 let m:Act→World→Nat:=fun a w=>if hn:∃n,∃x,I x a w∧μ x=n then Classical.choose (qJ hn) else 0
 show (Code.loop c).wp P (wpS P k R) a w
 refine wp_loop (fun a w=>∃x,I x a w) m ⟨x,h⟩ fun a w hinv=>?_
 have hn:∃n,∃x,I x a w∧μ x=n:=let ⟨x,hx⟩:=hinv;⟨_,x,hx,rfl⟩
 obtain ⟨x,hx,hμ⟩:=(Classical.choose_spec (qJ hn)).1
 have hma:m a w=μ x:=by simp only[m,dif_pos hn];exact hμ.symm
 refine kQ (round x a w hx) fun e a' w' he=>?_
 cases e with
 | normal=>
  obtain ⟨x',hI',hlt⟩:=he
  refine⟨⟨x',hI'⟩,?_⟩
  have hn':∃n,∃x,I x a' w'∧μ x=n:=⟨_,x',hI',rfl⟩
  have:m a' w'≤μ x':=by simp only[m,dif_pos hn'];exact(Classical.choose_spec (qJ hn')).2 _ ⟨x',hI',rfl⟩
  omega
 | _=>exact he
mutual
def DV.flat:DV→Bool
 | .con _=>true
 | .agg l | .aN l=>DV.kV l
 | .clo _ a c=>DV.kV a&&DV.kV c
 | _=>false
def DV.kV:List DV→Bool
 | []=>true
 | x :: l=>DV.flat x&&DV.kV l
end
mutual
theorem DV.kN {h k:IH}:∀(d:DV) (v:Value),d.flat=true→d.rel h v→d.rel k v
 | .con _,_,_,e=>e
 | .agg l,v,f,⟨us,e,r⟩=>⟨us,e,DV.jW l us f r⟩
 | .aN l,v,f,⟨us,e,r⟩=>⟨us,e,DV.jW l us f r⟩
 | .clo _ a c,v,f,⟨va,vc,e,ra,rc⟩=>by
  simp only[DV.flat,aY] at f
  exact⟨va,vc,e,DV.jW a va f.1 ra,DV.jW c vc f.2 rc⟩
 | .ptr _,_,f,_=>by simp[DV.flat] at f
 | .slc _ _ _,_,f,_=>by simp[DV.flat] at f
 | .NY _,_,f,_=>by simp[DV.flat] at f
 | .mp _ _ _,_,f,_=>by simp[DV.flat] at f
theorem DV.jW {h k:IH}:∀(l:List DV) (vs:List Value),DV.kV l=true→DV.aF h l vs→DV.aF k l vs
 | [],_,_,e=>e
 | d :: l,_,f,⟨v,us',e,r,rs⟩=>by
  simp only[DV.kV,aY] at f
  exact⟨v,us',e,DV.kN d v f.1 r,DV.jW l us' f.2 rs⟩
end
mutual
def AV.flat:AV→Bool
 | .any | .box _ _ | .vec _ _ _ _ | .elem _ _ _ _ | .tb _ _ _ | .jY _=>true
 | .d x=>x.flat
 | .agg l | .aN l=>AV.kV l
 | .clo _ a c=>AV.kV a&&AV.kV c
 | .gate _ _ _ x=>AV.flat x
 | .arr _ _ _ | .dead | .mp _ _ _=>false
def AV.kV:List AV→Bool
 | []=>true
 | x :: l=>AV.flat x&&AV.kV l
end
mutual
theorem AV.kN {β:Nat→Nat} {h k:IH}:∀(x:AV) (v:Value),x.flat=true→x.rel β h v→x.rel β k v
 | .any,_,_,e=>e
 | AV.d x,v,f,e=>DV.kN x v f e
 | .box _ _,_,_,e=>e
 | .vec _ _ _ _,_,_,e=>e
 | .elem _ _ _ _,_,_,e=>e
 | .tb _ _ _,_,_,e=>e
 | .jY _,_,_,e=>e
 | .agg l,_,f,⟨us,e,r⟩=>⟨us,e,AV.jW l us f r⟩
 | .aN l,_,f,⟨us,e,r⟩=>⟨us,e,AV.jW l us f r⟩
 | .clo _ a c,_,f,⟨va,vc,e,ra,rc⟩=>by
  simp only[AV.flat,aY] at f
  exact⟨va,vc,e,AV.jW a va f.1 ra,AV.jW c vc f.2 rc⟩
 | .gate _ _ _ x,v,f,⟨e,e'⟩=>⟨fun hb=>AV.kN x v f (e hb),e'⟩
 | .arr _ _ _,_,f,_=>by simp[AV.flat] at f
 | .dead,_,f,_=>by simp[AV.flat] at f
 | .mp _ _ _,_,f,_=>by simp[AV.flat] at f
theorem AV.jW {β:Nat→Nat} {h k:IH}:∀(l:List AV) (vs:List Value),AV.kV l=true→AV.aF β h l vs→AV.aF β k l vs
 | [],_,_,e=>e
 | y :: l,_,f,⟨v,us',e,r,rs⟩=>by
  simp only[AV.kV,aY] at f
  exact⟨v,us',e,AV.kN y v f.1 r,AV.jW l us' f.2 rs⟩
end
theorem AV.UJ {l:List AV}:AV.kV l=true→∀{t:Nat} {x:AV},l[t]?=some x→x.flat=true:=by
 induction l with
 | nil=>intro _ t x h;simp at h
 | cons y l ih=>
  intro f t x h
  simp only[AV.kV,aY] at f
  cases t with
  | zero=>simp at h;subst h;exact f.1
  | succ t=>exact ih f.2 (by simpa using h)
theorem dw.flat {h k:IH} {agg:RK} {sz:Nat} {f:Nat→DV} {c m:Nat} {o:Option Obj} (hf:∀i,i<m→(f i).flat=true) (r:dw h agg sz f c m o):dw k agg sz f c m o:=by
 obtain ⟨h1,r⟩:=r
 refine⟨h1,r.imp id ?_⟩
 rintro ⟨fr,us,e,hfz,hl,ho,r⟩
 exact⟨fr,us,e,hfz,hl,ho,fun i hi=>let ⟨v,hv,hs⟩:=r i hi;⟨v,DV.kN _ _ (hf i hi) hv,hs⟩⟩
def pU (l:List AV):Prop:=match l with
 | [.arr _ _ f]=>∀i,(f i).flat=true
 | [.dead]=>True
 | [.mp _ _ _]=>False
 | l=>AV.kV l=true
theorem Own.flat {β:Nat→Nat} {h k:IH} {s:Nat} {l:List AV} {o:Option Obj} (hf:pU l) (r:Own β h s l o):Own β k s l o:=by
 cases hp:bU l with
 | true=>
  rw[Own.plain hp] at r⊢
  obtain ⟨T,us,e,r⟩:=r
  refine⟨T,us,e,AV.jW _ _ ?_ r⟩
  unfold bU at hp
  unfold pU at hf
  split at hp
  ·cases hp
  ·cases hp
  ·cases hp
  ·rename_i h1 h2 h3
   split at hf
   ·exact absurd rfl (h1 _ _ _)
   ·exact absurd rfl h2
   ·exact hf.elim
   ·exact hf
 | false=>
  rcases dN hp with ⟨agg,sz,f,rfl⟩|rfl|⟨kd,f,has,rfl⟩
  ·exact dw.flat (fun i _=>hf i) r
  ·trivial
  ·exact hf.elim
theorem aO.anew {st:AS} {β:Nat→Nat} {h:IH} {tm:Array Value} {w:World} (g:aO G F w0 h0 st β h tm w) {G':IH} {k:IH} (hG:G'.le k) (hk:k.holds w) (hr:AV.kV st.regs=true) (hb:∀s l,st.box s=some l→pU l)
  (hu:∀s l,st.box s=some l→Live β s l→(∀o,k.cell (blk β s) o=none)∧k.obj (blk β s)=none)
  {F':Fr} (hF:∀s l,st.box s=some l→Live β s l→F'.on (blk β s)) (hβ:∀s,K0≤s→blk β s=blk F'.β0 s∧room β s=room F'.β0 s∧many β s=many F'.β0 s):aO G' F' w k st β k tm w:=
 ⟨hG,hk,IH.le.refl _,fun _ _ _=>⟨fun _=>rfl,rfl⟩,Kept.refl _ _,hβ,g.size,fun t x hx=>let ⟨v,hv,r⟩:=g.regs t x hx;⟨v,hv,AV.kN x v (AV.UJ hr hx) r⟩,
  fun s l hs=>⟨fun hl=>⟨.inl (hF s l hs hl),hu s l hs hl⟩,Own.flat (hb s l hs) (g.box s l hs).2⟩,g.inj⟩
theorem aO.bare {rs:List AV} {β:Nat→Nat} {h:IH} {tm:Array Value} {w:World} (hG:G.le h) (hw:h.holds w) (hs:tm.size=rs.length) (hr:∀(t:Nat) (x:AV),rs[t]?=some x→∃v,tm[t]?=some v∧x.rel β h v) (on:Nat→Prop):aO G ⟨on,β⟩ w h ⟨rs,[]⟩ β h tm w:=
 ⟨hG,hw,IH.le.refl _,fun _ _ _=>⟨fun _=>rfl,rfl⟩,Kept.refl _ _,fun _ _=>⟨rfl,rfl,rfl⟩,hs,hr,fun s l hb=>by simp[AS.box,look] at hb,fun s s' l l' hb=>by simp[AS.box,look] at hb⟩
theorem BM {s:Nat}:∀{bs:List (Nat×List AV)},(bs.all fun p=>AV.frees s p.2&&!(Nat.beq p.1 s))=true→∀t l',look bs t=some l'→t≠s∧AV.frees s l'=true
 | [],_,t,l',h=>by simp[look] at h
 | (k,c) :: bs,hf,t,l',h=>by
  simp only[List.all_cons,aY] at hf
  simp only[look] at h
  by_cases hk:k=t
  ·subst hk
   simp only[fP,cond_true,aI] at h
   subst h
   refine⟨fun e=>?_,hf.1.1⟩
   subst e
   simp at hf
  ·rw[aQ hk,cond_false] at h
   exact BM hf.2 t l' h
theorem aO.more {rs:List AV} {bs:List (Nat×List AV)} {β:Nat→Nat} {h:IH} {tm:Array Value} {w:World} {on:Nat→Prop} (g:aO G ⟨on,β⟩ w h ⟨rs,bs⟩ β h tm w) {s b c m:Nat} {l:List AV}
  (hfr:AV.frees s rs=true) (hfb:(bs.all fun p=>AV.frees s p.2&&!(Nat.beq p.1 s))=true) (hO:Own (upd β s b c m) h s l w.heap[b]?) (hl:Live (upd β s b c m) s l→(∀o,h.cell b o=none)∧h.obj b=none)
  (hd:∀t l',look bs t=some l'→Live β t l'→blk β t≠b):aO G ⟨fun k=>on k∨k=b,upd β s b c m⟩ w h ⟨rs,(s,l) :: bs⟩ (upd β s b c m) h tm w:=by
 have hne:∀t l',look bs t=some l'→t≠s∧AV.frees s l'=true:=BM hfb
 refine⟨g.glob,g.holds,IH.le.refl _,fun _ _ _=>⟨fun _=>rfl,rfl⟩,Kept.refl _ _,fun _ _=>⟨rfl,rfl,rfl⟩,g.size,fun t x hx=>?_,fun t l' ht=>?_,fun t t' m1 m2 h1 h2 l1 l2 he=>?_⟩
 ·obtain ⟨v,hv,r⟩:=g.regs t x hx
  refine⟨v,hv,AV.rel.upd x v ?_ r⟩
  have:∀{l:List AV},AV.frees s l=true→∀{t:Nat},l[t]?=some x→x.free s=true:=by
   intro l
   induction l with
   | nil=>intro _ t h;simp at h
   | cons y l ih=>
    intro f t h
    simp only[AV.frees,aY] at f
    cases t with
    | zero=>simp at h;subst h;exact f.1
    | succ t=>exact ih f.2 (by simpa using h)
  exact this hfr hx
 ·simp only[AS.box,look] at ht
  by_cases hk:s=t
  ·subst hk
   simp only[fP,cond_true,aI] at ht
   subst ht
   rw[aT]
   exact⟨fun hv=>⟨.inl (.inr rfl),hl hv⟩,hO⟩
  ·rw[aQ hk,cond_false] at ht
   obtain ⟨n1,n2⟩:=hne t l' ht
   obtain ⟨q1,q2⟩:=g.box t l' ht
   rw[aZ n1]
   refine⟨fun hv=>?_,Own.upd n1 n2 q2⟩
   obtain ⟨q3,q4⟩:=q1 ((Live.upd n1).1 hv)
   exact⟨q3.imp .inl id,q4⟩
 ·simp only[AS.box,look] at h1 h2
  by_cases k1:s=t
  ·subst k1
   by_cases k2:s=t'
   ·exact k2
   ·rw[aQ k2,cond_false] at h2
    obtain ⟨n1,n2⟩:=hne t' m2 h2
    rw[aT,aZ n1] at he
    exact absurd he.symm (hd t' m2 h2 ((Live.upd n1).1 l2))
  ·rw[aQ k1,cond_false] at h1
   obtain ⟨n1,n2⟩:=hne t m1 h1
   by_cases k2:s=t'
   ·subst k2
    rw[aT,aZ n1] at he
    exact absurd he (hd t m1 h1 ((Live.upd n1).1 l1))
   ·rw[aQ k2,cond_false] at h2
    obtain ⟨n3,n4⟩:=hne t' m2 h2
    rw[aZ n1,aZ n3] at he
    exact g.inj t t' m1 m2 h1 h2 ((Live.upd n1).1 l1) ((Live.upd n3).1 l2) he
end
end Go.Ab
namespace Go.Ab
open Go Go.RowKit
def bT (G:IH) (F:Fr) (x y:AV):Prop:=∀(β:Nat→Nat) (h:IH) (v:Value),G.le h→(∀s,K0≤s→blk β s=blk F.β0 s∧room β s=room F.β0 s∧many β s=many F.β0 s)→x.rel β h v→y.rel β h v
def Jw (y:AV):AV→AV
 | .gate s w b _=>.gate s w b y
 | _=>y
def inX:AV→AV
 | .gate _ _ _ x=>x
 | x=>x
def RI (d:Option Nat):AV→Bool
 | .gate s _ _ _=>xG d s
 | _=>true
def Fb (vp:AV→AV→Prop) (vw:Nat→Option AV) (st:AS) (e:Ev):Option (List Prop×Ev):=match e.dst with
 | none=>some ([],e)
 | some t=>match vw t with
  | none=>some ([],e)
  | some y=>match oW y,pz e.dst st.regs&&RI e.dst e.val with
   | false,true=>some ([vp (inX e.val) y],{ e with val:=Jw y e.val })
   | _,_=>none
def sD (P:Program) (G:IH) (aj:dU) (vp:AV→AV→Prop) (vw:Nat→Option AV) (all:List Oper):List Oper→AS→Option (List Prop×List Ev×AS)
 | [],st=>some ([],[],st)
 | o :: os,st=>match BD P G aj all o st with
  | some (cs,e0)=>match Fb vp vw st e0 with
   | some (ps,e)=>match sD P G aj vp vw all os (e.app st) with
    | some (qs,es,st')=>some (cs++(ps++qs),e :: es,st')
    | none=>none
   | none=>none
  | none=>none
section
variable {P:Program} {G:IH} {aj:dU} {F:Fr} {w0:World} {h0:IH} {R:Exit→Act→World→Prop} {vp:AV→AV→Prop} {vw:Nat→Option AV}
theorem VA {x y:AV} (hv:bT G F (inX x) y) {β:Nat→Nat} {h:IH} {v:Value} (hG:G.le h) (hβ:∀s,K0≤s→blk β s=blk F.β0 s∧room β s=room F.β0 s∧many β s=many F.β0 s) (r:x.rel β h v):(Jw y x).rel β h v:=by
 unfold Jw
 unfold inX at hv
 split
 ·exact⟨fun hb=>hv β h v hG hβ (r.1 hb),r.2⟩
 ·rename_i Ad
  split at hv
  ·exact absurd rfl (Ad _ _ _ _)
  ·exact hv β h v hG hβ r
theorem aO.acD {st:AS} {e:Ev} {z:AV} {β:Nat→Nat} {h:IH} {tm:Array Value} {w:World} (g:aO G F w0 h0 (e.app st) β h tm w) (hz:∀v,e.val.rel β h v→z.rel β h v):aO G F w0 h0 (({ e with val:=z }:Ev).app st) β h tm w:=by
 refine⟨g.glob,g.holds,g.ext,g.old,g.kept,g.fix,?_,fun t x hx=>?_,g.box,g.inj⟩
 ·have:=g.size
  rw[Bq] at this⊢
  exact this
 ·simp only[Ev.app] at hx
  have hg:=g.regs t
  simp only[Ev.app] at hg
  rw[fC] at hx hg
  split at hx
  ·rename_i hd
   cases hr:st.regs[t]? with
   | none=>simp[hr] at hx
   | some y=>
    rw[hr] at hx hg
    simp only[Option.map_some,aI] at hx
    subst hx
    obtain ⟨v,hv,r⟩:=hg e.val (by rw[if_pos hd];rfl)
    exact⟨v,hv,hz v r⟩
  ·rename_i hd
   exact hg x (by rw[if_neg hd];exact hx)
theorem xg.view {ops:List Oper} {o:Oper} {st:AS} {e:Ev} {z:AV} (hop:xg P G F w0 h0 ops o st e) (hz:∀(β:Nat→Nat) (h:IH) (v:Value),G.le h→(∀s,K0≤s→blk β s=blk F.β0 s∧room β s=room F.β0 s∧many β s=many F.β0 s)→e.val.rel β h v→z.rel β h v) :
  xg P G F w0 h0 ops o st { e with val:=z }:=fun st' β h a w K Q h1 h2 h3 g hd hK=>
 hop st' β h a w K Q h1 h2 h3 g hd fun a' w' β' h' hd' g'=>hK a' w' β' h' hd' (g'.acD fun v r=>hz β' h' v g'.glob g'.fix r)
theorem PD (hvp:∀x y,vp x y→bT G F x y) {ops:List Oper} {o:Oper} {st:AS} {e e':Ev} {ps:List Prop} (h:Fb vp vw st e=some (ps,e')) (hp:∀c∈ps,c) (hop:xg P G F w0 h0 ops o st e):xg P G F w0 h0 ops o st e':=by
 unfold Fb at h
 split at h
 ·simp only[aI,bg] at h;obtain ⟨_,rfl⟩:=h;exact hop
 ·split at h
  ·simp only[aI,bg] at h;obtain ⟨_,rfl⟩:=h;exact hop
  ·split at h
   ·simp only[aI,bg] at h
    obtain ⟨rfl,rfl⟩:=h
    exact hop.view fun β h v hG hβ r=>VA (hvp _ _ (hp _ (by simp))) hG hβ r
   ·cases h
theorem Jr {st:AS} {e e':Ev} {ps:List Prop} (h:Fb vp vw st e=some (ps,e')) (hst:Good st) (hg:Good (e.app st)):Good (e'.app st):=by
 unfold Fb at h
 split at h
 ·simp only[aI,bg] at h;obtain ⟨_,rfl⟩:=h;exact hg
 ·rename_i d hd
  split at h
  ·simp only[aI,bg] at h;obtain ⟨_,rfl⟩:=h;exact hg
  ·rename_i y hy
   split at h
   ·rename_i Ad hk
    simp only[aI,bg] at h
    obtain ⟨_,rfl⟩:=h
    simp only[aY] at hk
    obtain ⟨hk1,hk2⟩:=hk
    intro t s w b x ht
    simp only[Ev.app] at ht
    rw[fC] at ht
    have uh:e.dst≠some s→lN (st.reg s) w=some b→lN ((({ e with val:=Jw y e.val }:Ev).app st).reg s) w=some b:=fun hn hb=>by
     unfold AS.reg at hb⊢
     simp only[Ev.app]
     rw[oK hn];exact hb
    split at ht
    ·rename_i hdt
     cases hr:st.regs[t]? with
     | none=>simp[hr] at ht
     | some z=>
      rw[hr] at ht
      simp only[Option.map_some,aI] at ht
      unfold Jw at ht
      split at ht
      ·rename_i s' w' b' x' hev
       simp only[AV.gate.injEq] at ht
       obtain ⟨rfl,rfl,rfl,rfl⟩:=ht
       have hns:e.dst≠some s':=by
        intro hs
        rw[hev] at hk2
        simp[RI,xG,hs] at hk2
       refine uh hns ?_
       have:=hg t s' w' b' x' (by
        simp only[Ev.app]
        rw[fC,if_pos hdt,hr,hev];rfl)
       unfold AS.reg at this⊢
       simp only[Ev.app] at this
       rwa [oK hns] at this
      ·rw[ht] at Ad;simp[oW] at Ad
    ·refine uh ?_ (hst t s w b x ht)
     intro hs
     simp only[pz,hd,List.all_eq_true] at hk1
     have:=hk1 _ (List.mem_of_getElem? ht)
     rw[hd] at hs
     injection hs with hs
     simp[hs] at this
   ·cases h
def kM (P:Program) (G:IH) (F:Fr) (w0:World) (h0:IH) (all:List Oper):List Oper→List Ev→AS→Prop
 | [],es,_=>es=[]
 | o :: os,es,st=>∃e es',es=e :: es'∧xg P G F w0 h0 all o st e∧kM P G F w0 h0 all os es' (e.app st)
theorem kM.length {all:List Oper}:∀{l:List Oper} {es:List Ev} {st:AS},kM P G F w0 h0 all l es st→es.length=l.length
 | [],_,_,h=>by simp only[kM] at h;simp[h]
 | _ :: _,_,_,⟨_,_,e,_,hs⟩=>by rw[e];simp[kM.length hs]
theorem kM.get {all:List Oper}:∀{l:List Oper} {es:List Ev} {st:AS},kM P G F w0 h0 all l es st→
  ∀{i:Nat} {o:Oper} {e:Ev},l[i]?=some o→es[i]?=some e→xg P G F w0 h0 all o (iK (es.take i) st) e
 | [],_,_,_,_,_,_,ho,_=>by simp at ho
 | _ :: _,_,_,⟨e',es',he',hop,hs⟩,i,o,e,ho,he=>by
  subst he'
  cases i with
  | zero=>simp at ho he;subst ho he;simpa [iK] using hop
  | succ i=>
   simp only[List.take_succ_cons,iK]
   exact kM.get hs (by simpa using ho) (by simpa using he)
theorem Gq (hvp:∀x y,vp x y→bT G F x y) {all:List Oper}:∀{os:List Oper} {st:AS} {cs:List Prop} {es:List Ev} {st':AS},sD P G aj vp vw all os st=some (cs,es,st')→Good st→(∀c∈cs,c)→kM P G F w0 h0 all os es st∧st'=iK es st∧Good st'
 | [],st,cs,es,st',h,hg,_=>by
  simp only[sD,aI,bg] at h
  obtain ⟨rfl,rfl,rfl⟩:=h
  exact⟨rfl,rfl,hg⟩
 | o :: os,st,cs,es,st',h,hg,hc=>by
  simp only[sD] at h
  split at h
  ·rename_i cs1 e0 he
   split at h
   ·rename_i ps e hv
    split at h
    ·rename_i qs es' zL hos
     simp only[aI,bg] at h
     obtain ⟨rfl,rfl,rfl⟩:=h
     obtain ⟨h1,h2,h3⟩:=Gq hvp hos (Jr hv hg (Cj he hg)) fun c hc'=>hc c (by simp[hc'])
     exact⟨⟨e,es',rfl,PD hvp hv (fun c hc'=>hc c (by simp[hc'])) (G6 hg he (fun c hc'=>hc c (by simp[hc'])) F w0 h0),h1⟩,h2,h3⟩
    ·cases h
   ·cases h
  ·cases h
def Dy (ops:List Oper) (k:Nat):Bool:=let m:=MI ops [];(List.range ops.length).all fun j=>Nat.blt j k||(List.range j).all fun i=>(m.getD j 0).testBit i
theorem Jv {ops:List Oper} {k j i:Nat} (h:Dy ops k=true) (hk:k≤j) (hj:j<ops.length) (hi:i<j):((MI ops []).getD j 0).testBit i=true:=by
 simp only[Dy,List.all_eq_true,List.mem_range,Bool.or_eq_true] at h
 rcases h j hj with h1|h1
 ·rw[Nat.blt_eq] at h1;omega
 ·exact h1 i hi
theorem Um {ops:List Oper} {k:Nat} {Q:Exit→Act→World→Prop} (hb:wF 0 ops=true) (ht:Dy ops k=true):∀(fuel m:Nat) (listed:Array Bool) (a:Act) (w:World),listed.size=ops.length→(∀j,j<ops.length→listed.getD j true=decide (j<m))→k≤m→m≤ops.length→
  ((List.range ops.length).filter fun i=>!listed.getD i true).length≤fuel→wpOps P ops.toArray Q (List.range' m (ops.length-m)) a w→wpAny P .any ops.toArray Q fuel listed a w:=by
 intro fuel
 induction fuel with
 | zero=>
  intro m listed a w hsz hl hkm hmn hc hw
  have hnil:((List.range ops.length).filter fun i=>!listed.getD i true)=[]:=List.eq_nil_of_length_eq_zero (by omega)
  have hall:∀i,i<ops.length→listed.getD i true=true:=by
   intro i hi
   have:=List.filter_eq_nil_iff.1 hnil i (by simpa using hi)
   simpa using this
  have hm:m=ops.length:=by
   rcases Nat.lt_or_ge m ops.length with h|h
   ·have:=hall m h
    rw[hl m h] at this;simp at this
   ·omega
  subst hm
  refine⟨?_,by simpa [wpOps] using hw⟩
  simp only[Region.ready,List.filter_eq_nil_iff]
  intro i hi
  have:=hall i (by simpa using hi)
  simp[this]
 | succ fuel ih=>
  intro m listed a w hsz hl hkm hmn hc hw
  have hcl:Closed ops (fun j=>listed.getD j false):=by
   intro j o ho hj e he hbd
   have hlt:=(List.getElem?_eq_some_iff.1 ho).1
   have hon:=Bc hb ho e he hbd
   have h1:listed.getD j true=true:=by
    have hjs:j<listed.size:=by omega
    simpa [Array.getD_eq_getD_getElem?,Array.getElem?_eq_getElem hjs] using hj
   rw[hl j hlt] at h1
   have h2:=hl e.on (by omega)
   have hos:e.on<listed.size:=by omega
   simp only[eF] at h1
   rw[decide_eq_true (show e.on<m by omega)] at h2
   simpa [Array.getD_eq_getD_getElem?,Array.getElem?_eq_getElem hos] using h2
  have only:∀i∈Region.ready .any ops.toArray listed,i=m:=by
   intro i hi
   obtain ⟨hlt,AP,o,ho,hpre⟩:=zu hi
   rw[hl i hlt] at AP
   simp only[decide_eq_false_iff_not] at AP
   rcases Nat.lt_or_ge m i with h|h
   ·exfalso
    have hc':Closed ops (fun j=>listed.getD j false||Nat.beq j i):=by
     intro j o' ho' hj e' he' hbd
     simp only[Bool.or_eq_true] at hj⊢
     rcases hj with hj|hj
     ·exact .inl (hcl j o' ho' hj e' he' hbd)
     ·have:j=i:=Nat.eq_of_beq_eq_true hj
      subst this
      rw[ho] at ho';injection ho' with ho';subst ho'
      exact .inl (hpre e' he' hbd)
    have h1:=nT hc' (Jv ht (by omega) hlt h) (by simp)
    simp only[aQ (show m≠i by omega),Bool.or_false] at h1
    have hms:m<listed.size:=by omega
    have h2:=hl m (by omega)
    simp[Array.getD_eq_getD_getElem?,Array.getElem?_eq_getElem hms] at h1 h2
    rw[h1] at h2;cases h2
   ·omega
  rcases Nat.lt_or_ge m ops.length with hm|hm
  ·have hne:Region.ready .any ops.toArray listed≠[]:=by
    intro hr
    have:=ready_nil hb hr m hm
    rw[hl m hm] at this;simp at this
   refine⟨fun hr=>absurd hr hne,fun i hi=>?_⟩
   obtain rfl:=only i hi
   rw[show ops.length-i=(ops.length-(i+1))+1 by omega,List.range'_succ,wpOps_cons] at hw
   have his:i<listed.size:=by omega
   refine wpOp_mono (fun a w hw=>ih (i+1) _ a w (by simpa using hsz) (fun j hj=>?_) (by omega) (by omega) ?_ hw) hw
   ·have hjs:j<listed.size:=by omega
    by_cases hji:j=i
    ·subst hji;simp[Array.getD_eq_getD_getElem?,hjs]
    ·have h1:=hl j hj
     simp only[Array.getD_eq_getD_getElem?,Array.getElem?_setIfInBounds_ne (Ne.symm hji)] at h1⊢
     rw[h1,decide_eq_decide];omega
   ·have AP:listed.getD i true=false:=by rw[hl i hm];simp
    have:((List.range ops.length).filter fun k=>!(listed.setIfInBounds i true).getD k true).length<((List.range ops.length).filter fun k=>!listed.getD k true).length:=by
     refine filter_lt (i:=i) ?_ (by simpa using hm) (by simp[AP]) (by simp[Array.getD_eq_getD_getElem?,his])
     intro k hk
     by_cases hki:k=i
     ·subst hki;simp[AP]
     ·simpa [Array.getD_eq_getD_getElem?,Array.getElem?_setIfInBounds_ne (Ne.symm hki)] using hk
    omega
  ·have hm':m=ops.length:=by omega
   subst hm'
   refine⟨fun _=>by simpa [wpOps] using hw,fun i hi=>?_⟩
   have h1:=only i hi
   obtain ⟨hlt,_⟩:=zu hi
   omega
theorem N8 {ops:List Oper} {es:List Ev} {st0:AS} {k:Nat} (hkn:k≤ops.length) (hs:kM P G F w0 h0 ops (ops.take k) es st0) {xs:List Ev} (hx:xs.length=ops.length-k) (hord:pG ops (es++xs)=true) (htl:Dy ops k=true) (hfr:jG st0 (es++xs)=true)
  {Q:Exit→Act→World→Prop} (hQ:∀(a':Act) (w':World) (β':Nat→Nat) (h':IH),a'.defers=[]→aO G F w0 h0 (iK es st0) β' h' a'.tmps w'→wpOps P ops.toArray Q (List.range' k (ops.length-k)) a' w') :
  ∀(fuel:Nat) (listed:Array Bool) (β:Nat→Nat) (h:IH) (a:Act) (w:World),listed.size=ops.length→(∀j,listed.getD j false=true→j<k)→Closed ops (fun j=>listed.getD j false)→
   ((List.range ops.length).filter fun i=>!listed.getD i true).length≤fuel→
   aO G F w0 h0 (fold (fun j=>listed.getD j false) 0 (es++xs) st0) β h a.tmps w→a.defers=[]→wpAny P .any ops.toArray Q fuel listed a w:=by
 have hlen0:es.length=k:=by rw[hs.length,List.length_take];omega
 have hlen:(es++xs).length=ops.length:=by rw[List.length_append,hlen0,hx];omega
 have hback:wF 0 ops=true:=by simp only[pG,aY] at hord;exact hord.1
 have hfold:∀(D:Nat→Bool),(∀j,D j=true→j<k)→(∀j,j<k→D j=true)→fold D 0 (es++xs) st0=iK es st0:=by
  intro D h1 h2
  have h3:D=fun j=>Nat.blt j k:=by
   funext j
   cases hd:D j with
   | true=>symm;rw[Nat.blt_eq];exact h1 j hd
   | false=>
    cases hb:Nat.blt j k with
    | false=>rfl
    | true=>rw[Nat.blt_eq] at hb;rw[h2 j hb] at hd;cases hd
  rw[h3,ER k 0 _ _ (Nat.zero_le _),Nat.sub_zero,List.take_left' hlen0]
 have hend:∀(fuel:Nat) (listed:Array Bool) (β:Nat→Nat) (h:IH) (a:Act) (w:World),listed.size=ops.length→(∀j,listed.getD j false=true→j<k)→(∀i,i<k→listed.getD i true=true)→((List.range ops.length).filter fun i=>!listed.getD i true).length≤fuel→
   aO G F w0 h0 (fold (fun j=>listed.getD j false) 0 (es++xs) st0) β h a.tmps w→a.defers=[]→wpAny P .any ops.toArray Q fuel listed a w:=by
  intro fuel listed β h a w hsz hlk hall hc g hd
  refine Um hback htl fuel k listed a w hsz (fun j hj=>?_) (Nat.le_refl _) hkn hc (hQ a w β h hd ?_)
  ·have hjs:j<listed.size:=by omega
   by_cases hjk:j<k
   ·rw[hall j hjk,decide_eq_true hjk]
   ·rw[decide_eq_false hjk]
    cases hl:listed.getD j true with
    | false=>rfl
    | true=>
     have:=hlk j (by simpa [Array.getD_eq_getD_getElem?,Array.getElem?_eq_getElem hjs] using hl)
     omega
  ·rwa [hfold _ hlk fun j hj=>?_] at g
   have hjs:j<listed.size:=by omega
   have:=hall j hj
   simpa [Array.getD_eq_getD_getElem?,Array.getElem?_eq_getElem hjs] using this
 intro fuel
 induction fuel with
 | zero=>
  intro listed β h a w hsz hlk hc hcount g hd
  have hnil:((List.range ops.length).filter fun i=>!listed.getD i true)=[]:=List.eq_nil_of_length_eq_zero (by omega)
  refine hend 0 listed β h a w hsz hlk (fun i hi=>?_) hcount g hd
  have:=List.filter_eq_nil_iff.1 hnil i (by simp;omega)
  simpa using this
 | succ fuel ih=>
  intro listed β h a w hsz hlk hc hcount g hd
  by_cases hall:∀i,i<k→listed.getD i true=true
  ·exact hend (fuel+1) listed β h a w hsz hlk hall hcount g hd
  ·have hall:∃i0,i0<k∧listed.getD i0 true=false:=by
    refine Classical.byContradiction fun hn=>hall fun i hi=>?_
    cases hl:listed.getD i true with
    | true=>rfl
    | false=>exact absurd ⟨i,hi,hl⟩ hn
   obtain ⟨i0,hi0,hl0⟩:=hall
   refine⟨fun hr=>?_,fun i hi=>?_⟩
   ·have:=ready_nil hback hr i0 (by omega)
    rw[hl0] at this;cases this
   obtain ⟨hlt,AP,o,ho,hpre⟩:=zu hi
   have hi':i<listed.size:=by omega
   have hset:(fun j=>(listed.setIfInBounds i true).getD j false)=fun j=>listed.getD j false||Nat.beq j i:=by
    funext j
    by_cases hj:j=i
    ·subst hj;simp[Array.getD_eq_getD_getElem?,hi']
    ·rw[aQ hj];simp[Array.getD_eq_getD_getElem?,Array.getElem?_setIfInBounds_ne (Ne.symm hj)]
   have hcl':Closed ops (fun j=>listed.getD j false||Nat.beq j i):=by
    intro j o' ho' hj e' he' hb
    simp only[Bool.or_eq_true] at hj⊢
    rcases hj with hj|hj
    ·exact .inl (hc j o' ho' hj e' he' hb)
    ·have:j=i:=Nat.eq_of_beq_eq_true hj
     subst this
     rw[ho] at ho';injection ho' with ho';subst ho'
     exact .inl (hpre e' he' hb)
   have hik:i<k:=by
    rcases Nat.lt_or_ge i k with h1|h1
    ·exact h1
    ·exfalso
     have h2:=nT hcl' (Jv htl h1 hlt (show i0<i by omega)) (by simp)
     simp only[aQ (show i0≠i by omega),Bool.or_false] at h2
     have his:i0<listed.size:=by omega
     simp only[Array.getD_eq_getD_getElem?,Array.getElem?_eq_getElem his,Option.getD_some] at h2 hl0
     rw[hl0] at h2;cases h2
   have hot:(ops.take k)[i]?=some o:=by rw[List.getElem?_take_of_lt hik];exact ho
   have he:∃e,es[i]?=some e:=⟨es[i]'(by omega),by simp⟩
   obtain ⟨e,he⟩:=he
   have abC:(es++xs)[i]?=some e:=by rw[List.getElem?_append_left (by omega)];exact he
   have hD:(fun j=>listed.getD j false) i=false:=by
    simpa [Array.getD_eq_getD_getElem?,Array.getElem?_eq_getElem hi'] using AP
   have hop:ops.toArray[i]?=some o:=by simpa using ho
   simp only[wpOp,hop]
   refine Fa (GN hlen hc hord hfr (by
    rw[vK,List.take_append_of_le_length (by omega)]
    exact hs.get hot he) ho abC hD hpre g hd ?_)
   intro a' w' β' h' hd' g'
   refine ih (listed.setIfInBounds i true) β' h' a' w' (by simpa using hsz) ?_ ?_ ?_ (by rw[hset];exact g') hd'
   ·intro j hj
    have hj:(fun j=>(listed.setIfInBounds i true).getD j false) j=true:=hj
    rw[hset] at hj
    simp only[Bool.or_eq_true] at hj
    rcases hj with hj|hj
    ·exact hlk j hj
    ·have:j=i:=Nat.eq_of_beq_eq_true hj
     omega
   ·rw[hset];exact hcl'
   ·have:((List.range ops.length).filter fun k=>!(listed.setIfInBounds i true).getD k true).length<((List.range ops.length).filter fun k=>!listed.getD k true).length:=by
     refine filter_lt (i:=i) ?_ (by simpa using hlt) (by simp[AP]) (by simp[Array.getD_eq_getD_getElem?,hi'])
     intro k hk
     by_cases hki:k=i
     ·subst hki;simp[AP]
     ·simpa [Array.getD_eq_getD_getElem?,Array.getElem?_setIfInBounds_ne (Ne.symm hki)] using hk
    omega
def qP (ops:List Oper) (k:Nat):List Ev:=(ops.drop k).map fun o=>{ dst:=o.dst,val:=.any }
def qh (draw:Bool) (ops:List Oper) (k:Nat) (evs:List Ev) (st:AS):Bool:=
 jG st evs&&match draw with|true=>pG ops (evs++qP ops k)&&Dy ops k|false=>nM evs
theorem BR (all:List Oper):∀(l:List Oper) (es:List Ev) (st:AS) (k n:Nat),(∀j,j<l.length→l[j]?=all[k+j]?)→kM P G F w0 h0 all l es st→
  (∀(i:Nat) (e:Ev),es[i]?=some e→∀b∈e.nw,(iK (es.take i) st).free b.1=true)→dV P G F w0 h0 all (k+l.length) n (iK es st) R→dV P G F w0 h0 all k (l.length+n) st R
 | [],es,st,k,n,_,hs,_,hQ=>by
  simp only[kM] at hs;subst hs
  simpa [iK] using hQ
 | o :: l,es,st,k,n,hk,⟨e,es',hes,hop,hs⟩,hf,hQ=>by
  subst hes
  intro β h a w g hd
  rw[List.length_cons,Nat.add_right_comm,List.range'_succ,wpOps_cons]
  have ho:all.toArray[k]?=some o:=by simpa using (hk 0 (by simp)).symm
  simp only[wpOp,ho]
  refine Fa (hop st β h a w _ R rfl (fun _ _=>rfl) (fun b hb=>by simpa [iK] using hf 0 e rfl b hb) g hd ?_)
  intro a' w' β' h' hd' g'
  refine BR all l es' (e.app st) (k+1) n (fun j hj=>by have:=hk (j+1) (by simpa using hj);simpa [Nat.add_assoc,Nat.add_comm 1 j] using this) hs
   (fun i e' he' b hb=>by have:=hf (i+1) e' (by simpa using he') b hb;simpa [iK] using this) ?_ β' h' a' w' g' hd'
  have:k+1+l.length=k+(o :: l).length:=by rw[List.length_cons];omega
  rw[this]
  simpa [iK] using hQ
theorem aK.Ro {id:Nat} {ops:Array Oper} {draw:Bool} {k:Nat} {its:List It} {st st':AS} {cs:List Prop} {es:List Ev} (hm:P.follows .mixedOrders=true) (hvp:∀x y,vp x y→bT G F x y) (hk:k≤ops.toList.length)
  (he:sD P G aj vp vw ops.toList (ops.toList.take k) st.clear=some (cs,es,st')) (hok:qh draw ops.toList k es st.clear=true) (hc:∀c∈cs,c)
  (h:dV P G F w0 h0 ops.toList k (ops.toList.length-k) st' (wpS P its R)):aK P G F w0 h0 (.code (.region id ops draw) :: its) st R:=by
 intro β h1 a w g hd
 show (Code.region id ops draw).wp P (wpS P its R) a w
 obtain ⟨hs,rfl,_⟩:=Gq (F:=F) (w0:=w0) (h0:=h0) hvp he (wZ st) hc
 have hlen:es.length=k:=by rw[hs.length,List.length_take];omega
 simp only[qh,aY] at hok
 obtain ⟨hfr,hord⟩:=hok
 cases draw with
 | true=>
  simp only[aY] at hord
  have Ip:jG st.clear (es++qP ops.toList k)=true:=by
   simp only[jG,List.all_append,aY] at hfr⊢
   refine⟨hfr,?_⟩
   rw[List.all_eq_true]
   intro x hx
   simp only[qP] at hx
   obtain ⟨o,_,rfl⟩:=List.mem_map.1 hx
   rfl
  have:=N8 (P:=P) (G:=G) (F:=F) (w0:=w0) (h0:=h0) (Q:=wpS P its R) hk hs (xs:=qP ops.toList k) (by simp[qP]) hord.1 hord.2 Ip (fun a' w' β' h' hd' g'=>h β' h' a' w' g' hd')
  refine wp_region_any hm ?_
  refine this _ _ β h1 a _ (by simp) ?_ ?_ ?_ ?_ hd
  ·intro j hj
   simp[Array.getD_eq_getD_getElem?,Array.getElem?_replicate] at hj
   split at hj<;>simp at hj
  ·intro j o _ hj
   simp[Array.getD_eq_getD_getElem?,Array.getElem?_replicate] at hj
   split at hj<;>simp at hj
  ·refine Nat.le_trans (List.length_filter_le _ _) (by simp)
  ·rw[vX]
   ·exact(aO.clear g).drew _
   ·intro j _
    simp[Array.getD_eq_getD_getElem?,Array.getElem?_replicate]
    split<;>rfl
 | false=>
  refine wp_region ?_
  have hl:(ops.toList.take k).length=k:=by rw[List.length_take];omega
  have:=BR (P:=P) (G:=G) (F:=F) (w0:=w0) (h0:=h0) (R:=wpS P its R) ops.toList (ops.toList.take k) es st.clear 0 (ops.toList.length-k) (fun j hj=>by
   rw[hl] at hj
   rw[Nat.zero_add,List.getElem?_take_of_lt hj]) hs ?_ (by rw[hl,Nat.zero_add];exact h) β h1 a w (aO.clear g) hd
  ·rw[hl] at this
   have e2:k+(ops.toList.length-k)=ops.size:=by have:ops.toList.length=ops.size:=Array.length_toList;omega
   rw[e2] at this
   simpa [List.range_eq_range'] using this
  ·intro i e he b hb
   rw[←vK]
   refine sV 0 es st.clear ?_ fun j e' he' hj=>?_
   ·simp only[jG,List.all_eq_true] at hfr
    exact hfr e (List.mem_of_getElem? he) b hb
   ·simp only[Nat.zero_add,Nat.blt_eq] at hj
    exact oH hord hj he' he b hb
def FY (P:Program) (G:IH) (aj:dU) (vp:AV→AV→Prop) (vw:Nat→Option AV) (draw:Bool) (ops:List Oper) (st:AS):Option (List Prop×AS):=
 match sD P G aj vp vw ops (ops.take ops.length) st.clear with
 | some (cs,es,st')=>match qh draw ops ops.length es st.clear with
  | true=>some (cs,st')
  | false=>none
 | none=>none
def lK (P:Program) (G:IH) (aj:dU) (vp:AV→AV→Prop) (vw:Nat→Option AV) (cuts:List Nat):Nat→List It→AS→Tree
 | 0,k,st=>.stop k st
 | n+1,k,st=>match cutAt cuts k with
  | true=>.stop k st
  | false=>match k with
   | []=>.leaf .normal st
   | .blk _ :: k=>lK P G aj vp vw cuts n k st
   | .scp :: k=>lK P G aj vp vw cuts n k st
   | .code (.scope c) :: k=>lK P G aj vp vw cuts n (.code c :: .scp :: k) st
   | .code .skip :: k=>lK P G aj vp vw cuts n k st
   | .code (.label _) :: k=>lK P G aj vp vw cuts n k st
   | .code (.seq a b) :: k=>lK P G aj vp vw cuts n (.code a :: .code b :: k) st
   | .code (.block id c) :: k=>lK P G aj vp vw cuts n (.code c :: .blk id :: k) st
   | .code (.region id ops draw) :: k=>match FY P G aj vp vw draw ops.toList st with
    | some (cs,st')=>needs cs (lK P G aj vp vw cuts n k st')
    | none=>.bad id
   | .code (.cond x a b) :: k=>match yt (st.ev x) with
    | .d (.con (.bool y))=>match oW (st.ev x) with
     | true=>.bad 0
     | false=>.br y (lK P G aj vp vw cuts n (.code a :: k) st) (lK P G aj vp vw cuts n (.code b :: k) st)
    | _=>.bad 1
   | .code (.exit id) :: k=>match wX id k with
    | some k'=>lK P G aj vp vw cuts n k' st
    | none=>.leaf (.exit id) st
   | .code .ret :: _=>.leaf .ret st
   | .code c :: k=>.stop (.code c :: k) st
theorem kS (hm:P.follows .mixedOrders=true) (hvp:∀x y,vp x y→bT G F x y) {cuts:List Nat}:∀(n:Nat) (k:List It) (st:AS),(lK P G aj vp vw cuts n k st).okR P G F w0 h0 R→aK P G F w0 h0 k st R
 | 0,_,_,h=>h
 | n+1,k,st,h=>by
  unfold lK at h
  split at h
  ·exact h
  ·rename_i hcut
   clear hcut
   split at h
   ·exact fun β h1 a w g hd=>h β h1 a w g hd
   ·exact fun β h1 a w g hd=>kS hm hvp n _ st h β h1 a w g hd
   ·exact fun β h1 a w g hd=>kS hm hvp n _ st h β h1 a w g hd
   ·intro β h1 a w g hd
    refine wp_scope_straight (kQ (kS hm hvp n _ st h β h1 a w g hd) fun e a w he=>?_)
    cases e<;>exact he
   ·exact fun β h1 a w g hd=>wp_skip (kS hm hvp n _ st h β h1 a w g hd)
   ·exact fun β h1 a w g hd=>wp_label (kS hm hvp n _ st h β h1 a w g hd)
   ·intro β h1 a w g hd
    refine wp_seq (kQ (kS hm hvp n _ st h β h1 a w g hd) fun e a w he=>?_)
    cases e<;>exact he
   ·intro β h1 a w g hd
    refine wp_block (kQ (kS hm hvp n _ st h β h1 a w g hd) fun e a w he=>?_)
    cases e<;>exact he
   ·rename_i id ops draw k'
    split at h
    ·rename_i cs st' hr
     have hcs:(∀c∈cs,c)∧(lK P G aj vp vw cuts n k' st').okR P G F w0 h0 R:=by
      unfold needs at h
      split at h
      ·exact⟨by simp,h⟩
      ·exact⟨vG h.1,h.2⟩
     unfold FY at hr
     split at hr
     ·rename_i cs' es zL hos
      split at hr
      ·rename_i hok
       simp only[aI,bg] at hr
       obtain ⟨rfl,rfl⟩:=hr
       refine aK.Ro (k:=ops.toList.length) hm hvp (Nat.le_refl _) hos hok hcs.1 ?_
       rw[Nat.sub_self]
       exact dV.done (kS hm hvp n k' zL hcs.2)
      ·cases hr
     ·cases hr
    ·exact h.elim
   ·rename_i x c1 c2 k'
    split at h
    ·rename_i y hy
     split at h
     ·exact h.elim
     ·rename_i Ad
      intro β h1 a w g hd
      have hx:=g.ev x
      have hy':st.ev x=.d (.con (.bool y)):=by
       cases hs:st.ev x with
       | gate s w b z=>rw[hs] at Ad;simp[oW] at Ad
       | _=>rw[hs] at hy;exact hy
      rw[hy'] at hx
      refine wp_cond_split (t:=y) hx (fun ht=>?_) fun hf=>?_
      ·exact kS hm hvp n _ st (h.1 ht) β h1 a w g hd
      ·exact kS hm hvp n _ st (h.2 hf) β h1 a w g hd
    ·exact h.elim
   ·rename_i id k'
    intro β h1 a w g hd
    refine wp_exit (nV ?_)
    split at h
    ·rename_i k2 hk;rw[hk];exact kS hm hvp n k2 st h β h1 a w g hd
    ·rename_i hk;rw[hk];exact h β h1 a w g hd
   ·intro β h1 a w g hd
    exact wp_ret (FB ⟨by simp,by simp,by simp⟩ (h β h1 a w g hd))
   ·exact h
theorem dX (hm:P.follows .mixedOrders=true) (vw:Nat→Option AV) {cuts:List Nat} {n:Nat} {k:List It} {st:AS} (h:Holds ((lK P G aj (bT G F) vw cuts n k st).okR P G F w0 h0 R)):aK P G F w0 h0 k st R:=
 kS hm (fun _ _ h=>h) n k st h.h
def JJ (G:IH) (x y:AV):Prop:=∀(β:Nat→Nat) (h:IH) (v:Value),G.le h→x.rel β h v→y.rel β h v
theorem Iz {Q:Exit→AS→Prop}:∀{t:Tree},t.ok P G Q→t.okR P G F w0 h0 (Ends G F w0 h0 Q)
 | .leaf _ _,h=>fun β k _ _ g hd=>⟨_,β,k,h,g,hd⟩
 | .br _ _ _,h=>⟨fun hb=>Iz (h.1 hb),fun hb=>Iz (h.2 hb)⟩
 | .need _ _,h=>⟨h.1,Iz h.2⟩
 | .stop _ _,h=>h F w0 h0
 | .bad _,h=>h
theorem abO {Q:Exit→AS→Prop} (hm:P.follows .mixedOrders=true) (vw:Nat→Option AV) {cuts:List Nat} {n:Nat} {k:List It} {st:AS} (h:Holds ((lK P G aj (JJ G) vw cuts n k st).ok P G Q)):aX P G k st Q:=
 fun F w0 h0=>kS (vp:=JJ G) (F:=F) (w0:=w0) (h0:=h0) hm (fun _ _ h β k v hG _ r=>h β k v hG r) n k st (Iz h.h)
end
end Go.Ab
namespace Go.Ab
open Go Go.RowKit
section
variable {P:Program} {G:IH} {F:Fr} {w0:World} {h0:IH}
theorem LM {s:Nat}:∀{l:List AV},AV.frees s l=true→∀{t:Nat} {x:AV},l[t]?=some x→x.free s=true
 | [],_,t,x,h=>by simp at h
 | y :: l,f,t,x,h=>by
  simp only[AV.frees,aY] at f
  cases t with
  | zero=>simp at h;subst h;exact f.1
  | succ t=>exact LM f.2 (by simpa using h)
theorem aO.shift {rs:List AV} {bs:List (Nat×List AV)} {d e q sz m:Nat} {K:RK} {f:Nat→DV} {β:Nat→Nat} {h:IH} {tm:Array Value} {w:World} (g:aO G F w0 h0 ⟨rs,(d,[.arr K sz f]) :: bs⟩ β h tm w) (hq:rs[q]?=some (.vec d sz 0 m))
  (hfe:AV.frees e (rs.set q .any)=true) (hbe:(bs.all fun p=>AV.frees e p.2&&!(Nat.beq p.1 e))=true) (hbd:(bs.all fun p=>!(Nat.beq p.1 d))=true) {on:Nat→Prop} (hon:∀s l,look ((d,[.arr K sz f]) :: bs) s=some l→Live β s l→on (blk β s)) :
  ∃p,tm[q]?=some (.slice p m (room β d))∧(p=some ⟨blk β d,0,none⟩∨room β d=0)∧m≤many β d∧
   aO G ⟨on,upd β e (blk β d) (room β d) (many β d)⟩ w h ⟨rs.set q (.d (.con (.slice p m (room β d)))),(e,[.arr K sz f]) :: bs⟩ (upd β e (blk β d) (room β d) (many β d)) h tm w:=by
 obtain ⟨v,hv,hm1,hm2,p,hp,hpp⟩:=g.regs q _ hq
 rw[Nat.sub_zero] at hp
 subst hp
 have hld:look ((d,[AV.arr K sz f]) :: bs) d=some [.arr K sz f]:=by simp[look]
 have hbs:∀s l,look bs s=some l→look ((d,[AV.arr K sz f]) :: bs) s=some l:=fun s l hl=>by
  simp only[look]
  have:s≠d:=by
   intro hs;subst hs
   have:=List.all_eq_true.1 hbd _ (sO hl)
   simp at this
  rw[aQ (Ne.symm this),cond_false];exact hl
 have hnd:∀s l,look bs s=some l→s≠d:=fun s l hl hs=>by
  subst hs
  have:=List.all_eq_true.1 hbd _ (sO hl)
  simp at this
 have hne:∀s l,look bs s=some l→s≠e∧AV.frees e l=true:=fun s l hl=>BM hbe s l hl
 refine⟨p,hv,hpp.imp (fun e=>by simpa using e) fun e=>by omega,by omega,g.glob,g.holds,IH.le.refl _,fun _ _ _=>⟨fun _=>rfl,rfl⟩,Kept.refl _ _,fun _ _=>⟨rfl,rfl,rfl⟩,by simpa using g.size,fun t x hx=>?_,fun s l hl=>?_,fun s s' l l' hl hl' hv hv' he=>?_⟩
 ·by_cases ht:t=q
  ·subst ht
   have hlt:t<rs.length:=(List.getElem?_eq_some_iff.1 hq).1
   simp only[List.getElem?_set_self hlt,aI] at hx
   subst hx
   exact⟨_,hv,rfl⟩
  ·simp only[List.getElem?_set_ne (Ne.symm ht)] at hx
   obtain ⟨v,h1,h2⟩:=g.regs t x hx
   refine⟨v,h1,AV.rel.upd x v (LM hfe (t:=t) ?_) h2⟩
   rw[List.getElem?_set_ne (Ne.symm ht)];exact hx
 ·simp only[AS.box,look] at hl
  by_cases hse:e=s
  ·subst hse
   simp only[fP,cond_true,aI] at hl
   subst hl
   rw[aT]
   obtain ⟨b1,b2⟩:=g.box d _ hld
   refine⟨fun hv=>?_,?_⟩
   ·have hv:Live β d [.arr K sz f]:=by
     have hv:0<room (upd β e (blk β d) (room β d) (many β d)) e:=hv
     rw[aH] at hv;exact hv
    exact⟨.inl (hon d _ hld hv),(b1 hv).2⟩
   ·show dw h K sz f (room _ e) (many _ e) _
    rw[aH,bH];exact b2
  ·rw[aQ hse,cond_false] at hl
   obtain ⟨n1,n2⟩:=hne s l hl
   obtain ⟨b1,b2⟩:=g.box s l (hbs s l hl)
   rw[aZ n1]
   refine⟨fun hv=>?_,Own.upd n1 n2 b2⟩
   have hv:=(Live.upd n1).1 hv
   exact⟨.inl (hon s l (hbs s l hl) hv),(b1 hv).2⟩
 ·simp only[AS.box,look] at hl hl'
  have one:∀s l,look bs s=some l→Live (upd β e (blk β d) (room β d) (many β d)) s l→0<room β d→blk β d=blk (upd β e (blk β d) (room β d) (many β d)) s→False:=by
   intro s l hl hv hr he
   obtain ⟨n1,_⟩:=hne s l hl
   rw[aZ n1] at he
   exact hnd s l hl (g.inj d s _ _ hld (hbs s l hl) hr ((Live.upd n1).1 hv) he).symm
  by_cases h1:e=s
  ·by_cases h2:e=s'
   ·rw[←h1,←h2]
   ·subst h1
    rw[aQ h2,cond_false] at hl'
    simp only[fP,cond_true,aI] at hl
    subst hl
    have hv:0<room (upd β e (blk β d) (room β d) (many β d)) e:=hv
    rw[aH] at hv
    rw[aT] at he
    exact(one s' l' hl' hv' hv he).elim
  ·rw[aQ h1,cond_false] at hl
   by_cases h2:e=s'
   ·subst h2
    simp only[fP,cond_true,aI] at hl'
    subst hl'
    have hv':0<room (upd β e (blk β d) (room β d) (many β d)) e:=hv'
    rw[aH] at hv'
    rw[aT] at he
    exact(one s l hl hv hv' he.symm).elim
   ·rw[aQ h2,cond_false] at hl'
    obtain ⟨n1,_⟩:=hne s l hl
    obtain ⟨n2,_⟩:=hne s' l' hl'
    rw[aZ n1,aZ n2] at he
    exact g.inj s s' l l' (hbs s l hl) (hbs s' l' hl') ((Live.upd n1).1 hv) ((Live.upd n2).1 hv') he
end
def aS (P:Program) (fn:Func) (R:Value→World→Prop) (e:Exit) (a:Act) (w:World):Prop:=vP e=true∧a.defers=[]∧∃v,(results fn a.tmps).run P w=.ok v w∧R v w
theorem Calls.BF {P:Program} {G:IH} {F:Fr} {f:FuncId} {fn:Func} {args:List AV} {pre:List (Nat×List AV)} {β:Nat→Nat} {h0:IH} {us:Array Value} {w:World} {R:Value→World→Prop} (hf:P.funcs[f]?=some fn) (hb:fn.body.isSome=true)
  (g:aO G F w h0 ⟨args,pre⟩ β h0 us w) (h:aK P G F w h0 [.code (au fn)] (uz args pre fn.ntmps) (aS P fn R)):Calls P f us w fun e w'=>∃v,e=.returned v∧R v w':=by
 have hb':fn.body=some (au fn):=by
  unfold au
  cases hh:fn.body with
  | none=>simp[hh] at hb
  | some c=>rfl
 refine calls_of_wp hf hb' ?_
 have g0:aO G F w h0 (uz args pre fn.ntmps) β h0 (us++Array.replicate (fn.ntmps-us.size) undef) w:=by
  refine⟨g.glob,g.holds,g.ext,g.old,g.kept,g.fix,?_,fun t x hx=>?_,g.box,g.inj⟩
  ·have:=g.size
   simp[uz,this]
  ·simp only[uz,List.getElem?_append] at hx
   have hs:us.size=args.length:=g.size
   split at hx
   ·rename_i ht
    obtain ⟨v,hv,hr⟩:=g.regs t x hx
    exact⟨v,by rw[Array.getElem?_append_left (by omega)];exact hv,hr⟩
   ·rename_i ht
    rw[List.getElem?_replicate] at hx
    split at hx
    ·rename_i ht'
     simp only[aI] at hx;subst hx
     exact⟨undef,by rw[Array.getElem?_append_right (by omega),Array.getElem?_replicate,if_pos (by omega)],trivial⟩
    ·cases hx
 have:=h β h0 ⟨_,[]⟩ w g0 rfl
 refine kQ this fun e a w' he=>?_
 obtain ⟨he',hd,v,hrun,hr⟩:=he
 cases e<;>first
  | exact⟨hd,v,hrun,v,rfl,hr⟩
  | (simp[vP] at he')
theorem aP.ret {P:Program} {G:IH} {F:Fr} {w0:World} {h0:IH} {fn:Func} {R:Value→World→Prop} {e:Exit} {st:AS} {x:AV} (he:vP e=true) (hr:iM P st fn.results.toList=some [x])
  (h:∀(β:Nat→Nat) (k:IH) (tm:Array Value) (w:World) (v:Value),aO G F w0 h0 st β k tm w→x.rel β k v→R v w):aP G F w0 h0 (aS P fn R) e st:=by
 intro β k a w g hd
 obtain ⟨us,hrun,hrs⟩:=rE (P:=P) g hr
 obtain ⟨v,us',rfl,hx,h0'⟩:=hrs
 have h0':us'=[]:=h0'
 subst h0'
 refine⟨he,hd,v,?_,h β k a.tmps w v g hx⟩
 simp only[results,Sem.run_bind]
 rw[Array.mapM_eq_mapM_toList,Sem.run_map]
 erw [hrun]
 rfl
end Go.Ab
namespace Go.Ab
open Go Go.RowKit
def ZO:Code→Nat | .region id _ _=>id|_=>0
def opsOf:Code→Array Oper | .region _ ops _=>ops|_=>#[]
def IG:Code→Bool | .region _ _ d=>d|_=>false
def iP (P:Program) (all:List Oper) (k n:Nat) (R:Exit→Act→World→Prop):Exit→Act→World→Prop:=fun _ a w=>wpOps P all.toArray R (List.range' k n) a w
def XY (P:Program) (G:IH) (aj:dU) (vp:AV→AV→Prop) (vw:Nat→Option AV) (k:Nat) (draw:Bool) (ops:List Oper) (_:Unit) (st:AS):Tree:=
 match sD P G aj vp vw ops (ops.take k) st.clear with
 | some (cs,es,st')=>match qh draw ops k es st.clear&&Nat.ble k ops.length with
  | true=>needs cs (.leaf .normal st')
  | false=>.bad 0
 | none=>.bad 1
def UU (P:Program) (G:IH) (aj:dU) (all:List Oper) (k m:Nat) (_:Unit) (st:AS):Tree:=
 match vJ P G aj all ((all.drop k).take m) st.clear with
 | some (cs,es,st')=>match jG st.clear es&&nM es&&Nat.beq ((all.drop k).take m).length m with
  | true=>needs cs (.leaf .normal st')
  | false=>.bad 0
 | none=>.bad 1
section
variable {P:Program} {G:IH} {aj:dU} {F:Fr} {w0:World} {h0:IH} {R:Exit→Act→World→Prop}
theorem aK.seq {c a b:Code} {its:List It} {st:AS} (hc:c=.seq a b) (h:aK P G F w0 h0 (.code a :: .code b :: its) st R):aK P G F w0 h0 (.code c :: its) st R:=by
 subst hc
 intro β h1 x w g hd
 refine wp_seq (kQ (h β h1 x w g hd) fun e a w he=>?_)
 cases e<;>exact he
theorem Hy {cs:List Prop} {t:Tree} (h:(needs cs t).okR P G F w0 h0 R):(∀c∈cs,c)∧t.okR P G F w0 h0 R:=by
 unfold needs at h
 split at h
 ·exact⟨by simp,h⟩
 ·exact⟨vG h.1,h.2⟩
theorem aK.tail (hm:P.follows .mixedOrders=true) (vw:Nat→Option AV) (k:Nat) {c:Code} {its:List It} {st:AS} (hc:c=.region (ZO c) (opsOf c) (IG c))
  (h:Holds ((XY P G aj (bT G F) vw k (IG c) (opsOf c).toList () st).okR P G F w0 h0 (iP P (opsOf c).toList k ((opsOf c).toList.length-k) (wpS P its R)))):aK P G F w0 h0 (.code c :: its) st R:=by
 have h:=h.h
 unfold XY at h
 split at h
 ·rename_i cs es st' he
  split at h
  ·rename_i hok
   simp only[aY,Nat.ble_eq] at hok
   obtain ⟨h1,h2⟩:=Hy h
   rw[hc]
   exact aK.Ro hm (fun _ _ h=>h) hok.2 he hok.1 h1 h2
  ·exact h.elim
 ·exact h.elim
theorem dV.tree {all:List Oper} {k m n:Nat} {st:AS} (h:Holds ((UU P G aj all k m () st).okR P G F w0 h0 (iP P all (k+m) n R))):dV P G F w0 h0 all k (m+n) st R:=by
 have h:=h.h
 unfold UU at h
 split at h
 ·rename_i cs es st' he
  split at h
  ·rename_i hok
   simp only[aY,Nat.beq_eq] at hok
   obtain ⟨h1,h2⟩:=Hy h
   refine dV.clear (dV.steps (wZ st) he hok.2 (by simp[hok.1]) ?_ h2)
   have:∀cs:List Prop,(∀c∈cs,c)→J7 cs:=by
    intro cs
    induction cs with
    | nil=>intro _;trivial
    | cons c cs ih=>
     intro hc
     cases cs with
     | nil=>exact hc c (by simp)
     | cons d cs=>exact⟨hc c (by simp),ih fun e he=>hc e (by simp[he])⟩
   exact this cs h1
  ·exact h.elim
 ·exact h.elim
theorem aP.kP {all:List Oper} {k:Nat} {st:AS} {its:List It} (h:aK P G F w0 h0 its st R):aP G F w0 h0 (iP P all k 0 (wpS P its R)) .normal st:=by
 intro β h1 a w g hd
 simpa [iP,wpOps] using h β h1 a w g hd
end
end Go.Ab
namespace Go.Ab
open Go Go.RowKit
theorem EC {P:Program} {G:IH} {o:Oper} {ρ:Operand→AV} {st:AS} {T E:TypeId} {x i:Operand} (ho:o.op=.indexAddr T x i) {n:Nat} (hT:xw P T=some (n,E)) {sz:Nat} (hz:sizeT P E=some sz)
  {s off:Nat} (hx:ρ x=.box s off) {k:IntKind} {m:Int} (hi:ρ i=.d (.con (.int k m))) (hm:0≤m∧m<n):Core P G o ρ st { dst:=o.dst,val:=.box s (off+m.toNat*sz) }:=
 bP fun β h a w _ _ hop=>by
  have hu:P.underlying T=some (.array n E):=by
   unfold xw at hT
   split at hT
   ·rename_i hu;simp at hT;obtain ⟨rfl,rfl⟩:=hT;exact hu
   ·cases hT
  have hxv:=hop x (by simp[ho,Op.operands])
  have hiv:=hop i (by simp[ho,Op.operands])
  rw[hx] at hxv;rw[hi] at hiv
  have hxv:a.eval x=.pointer (some ⟨blk β s,off,none⟩):=hxv
  have hiv:a.eval i=.int k m:=hiv
  refine⟨.pointer (some ⟨blk β s,off+m.toNat*sz,none⟩),?_,rfl⟩
  simp only[execOp,ho,hxv,hiv,Instr.indexAt,asIntOf,Instr.sureAddr,Sem.run_bind,Sem.run_pure,Result.andThen_ok,run_underlying hu,fK hz,if_pos hm,kT]
def Je (P:Program) (ops:List Oper) (o:Oper) (st:AS):Option (List Prop×Ev):=
 match guardOf ops o st with
 | some none=>match o.op with
  | .indexAddr T x i=>match xw P T,st.ev x,st.ev i with
   | some (n,E),.box s off,.d (.con (.int _ m))=>match sizeT P E,pz o.dst st.regs with
    | some sz,true=>some ([0≤m∧m<n],{ dst:=o.dst,val:=.box s (off+m.toNat*sz) })
    | _,_=>none
   | _,_,_=>none
  | _=>none
 | _=>none
section
variable {P:Program} {G:IH} {ops:List Oper} {o:Oper} {st:AS} {cs:List Prop} {e:Ev}
theorem Xw (h:Je P ops o st=some (cs,e)) (hc:∀c∈cs,c):EX P G ops o st e:=by
 intro F w0 h0 st' β h1 a w K Q hlen hag hfr g hd hK
 unfold Je at h
 split at h
 ·rename_i hγ
  split at h
  ·rename_i T x i ho
   split at h
   ·rename_i n E s off k m hT hx hi
    split at h
    ·rename_i sz hz hkey
     simp only[aI,bg] at h;obtain ⟨rfl,rfl⟩:=h
     have hw:Region.wanted o (yielded ops.toArray a.tmps)=true:=by
      unfold guardOf at hγ
      cases hgd:o.guard with
      | none=>simp[Region.wanted,hgd]
      | some jw=>
       exfalso
       obtain ⟨j,want⟩:=jw
       simp only[hgd] at hγ
       split at hγ
       ·split at hγ
        ·split at hγ<;>simp at hγ
        ·cases hγ
       ·cases hγ
     rw[if_pos hw]
     have hrel:∀x∈o.op.operands,(st.ev x).rel β h1 (a.eval x):=fun x hx=>by rw[←He hag hx];exact g.ev x
     exact EC (ρ:=st.ev) (st:=st) ho hT hz hx hi (hc _ (List.mem_singleton.2 rfl)) F w0 h0 st' β h1 a w K Q hlen (fun p hp=>hag p (by
      simp only[touches,looks,List.any_append,Bool.or_eq_true] at hp⊢;exact .inr (.inr hp))) hfr g hd hrel hK
    ·cases h
   ·cases h
  ·cases h
 ·cases h
theorem Tj (h:Je P ops o st=some (cs,e)) (hg:Good st):Good (e.app st):=by
 unfold Je at h
 split at h
 ·split at h
  ·split at h
   ·split at h
    ·rename_i hkey
     simp only[aI,bg] at h;obtain ⟨rfl,rfl⟩:=h
     have hne:∀(t s:Nat) (w b:Bool) (x:AV),st.regs[t]?=some (.gate s w b x)→o.dst≠some s:=by
      intro t s w b x ht hs
      simp only[pz,hs,List.all_eq_true] at hkey
      have:=hkey _ (List.mem_of_getElem? ht)
      simp at this
     intro t s w b x ht
     simp only[Ev.app] at ht
     rw[fC] at ht
     split at ht
     ·rename_i hdt
      cases hr:st.regs[t]? with
      | none=>simp[hr] at ht
      | some y=>simp[hr] at ht
     ·have hs:=hne t s w b x ht
      have:=hg t s w b x ht
      simp only[AS.reg,Ev.app] at this⊢
      rw[oK hs];exact this
    ·cases h
   ·cases h
  ·cases h
 ·cases h
end
def Dw (P:Program) (G:IH) (aj:dU) (ops:List Oper) (o:Oper) (st:AS):Option (List Prop×Ev):=
 match BD P G aj ops o st with
 | some r=>some r
 | none=>Je P ops o st
def vF (P:Program) (G:IH) (aj:dU) (vp:AV→AV→Prop) (vw:Nat→Option AV) (all:List Oper):List Oper→AS→Option (List Prop×List Ev×AS)
 | [],st=>some ([],[],st)
 | o :: os,st=>match Dw P G aj all o st with
  | some (cs,e0)=>match Fb vp vw st e0 with
   | some (ps,e)=>match vF P G aj vp vw all os (e.app st) with
    | some (qs,es,st')=>some (cs++(ps++qs),e :: es,st')
    | none=>none
   | none=>none
  | none=>none
def VH (P:Program) (G:IH) (aj:dU) (vp:AV→AV→Prop) (vw:Nat→Option AV) (k:Nat) (draw:Bool) (ops:List Oper) (_:Unit) (st:AS):Tree:=
 match vF P G aj vp vw ops (ops.take k) st.clear with
 | some (cs,es,st')=>match qh draw ops k es st.clear&&Nat.ble k ops.length with
  | true=>needs cs (.leaf .normal st')
  | false=>.bad 0
 | none=>.bad 1
section
variable {P:Program} {G:IH} {aj:dU} {F:Fr} {w0:World} {h0:IH} {R:Exit→Act→World→Prop} {vp:AV→AV→Prop} {vw:Nat→Option AV}
theorem Uy {all:List Oper} {o:Oper} {st:AS} {cs:List Prop} {e:Ev} (hg:Good st) (h:Dw P G aj all o st=some (cs,e)) (hc:∀c∈cs,c):EX P G all o st e:=by
 unfold Dw at h
 split at h
 ·rename_i r hr
  simp only[aI] at h;subst h
  exact G6 hg hr hc
 ·exact Xw h hc
theorem Qh {all:List Oper} {o:Oper} {st:AS} {cs:List Prop} {e:Ev} (h:Dw P G aj all o st=some (cs,e)) (hg:Good st):Good (e.app st):=by
 unfold Dw at h
 split at h
 ·rename_i r hr
  simp only[aI] at h;subst h
  exact Cj hr hg
 ·exact Tj h hg
theorem F7 (hvp:∀x y,vp x y→bT G F x y) {all:List Oper}:∀{os:List Oper} {st:AS} {cs:List Prop} {es:List Ev} {st':AS},vF P G aj vp vw all os st=some (cs,es,st')→Good st→(∀c∈cs,c)→kM P G F w0 h0 all os es st∧st'=iK es st∧Good st'
 | [],st,cs,es,st',h,hg,_=>by
  simp only[vF,aI,bg] at h
  obtain ⟨rfl,rfl,rfl⟩:=h
  exact⟨rfl,rfl,hg⟩
 | o :: os,st,cs,es,st',h,hg,hc=>by
  simp only[vF] at h
  split at h
  ·rename_i cs1 e0 he
   split at h
   ·rename_i ps e hv
    split at h
    ·rename_i qs es' zL hos
     simp only[aI,bg] at h
     obtain ⟨rfl,rfl,rfl⟩:=h
     obtain ⟨h1,h2,h3⟩:=F7 hvp hos (Jr hv hg (Qh he hg)) fun c hc'=>hc c (by simp[hc'])
     exact⟨⟨e,es',rfl,PD hvp hv (fun c hc'=>hc c (by simp[hc'])) (Uy hg he (fun c hc'=>hc c (by simp[hc'])) F w0 h0),h1⟩,h2,h3⟩
    ·cases h
   ·cases h
  ·cases h
theorem aK.YF {id:Nat} {ops:Array Oper} {draw:Bool} {k:Nat} {its:List It} {st st':AS} {cs:List Prop} {es:List Ev} (hm:P.follows .mixedOrders=true) (hvp:∀x y,vp x y→bT G F x y) (hk:k≤ops.toList.length)
  (he:vF P G aj vp vw ops.toList (ops.toList.take k) st.clear=some (cs,es,st')) (hok:qh draw ops.toList k es st.clear=true) (hc:∀c∈cs,c)
  (h:dV P G F w0 h0 ops.toList k (ops.toList.length-k) st' (wpS P its R)):aK P G F w0 h0 (.code (.region id ops draw) :: its) st R:=by
 intro β h1 a w g hd
 show (Code.region id ops draw).wp P (wpS P its R) a w
 obtain ⟨hs,rfl,_⟩:=F7 (F:=F) (w0:=w0) (h0:=h0) hvp he (wZ st) hc
 have hlen:es.length=k:=by rw[hs.length,List.length_take];omega
 simp only[qh,aY] at hok
 obtain ⟨hfr,hord⟩:=hok
 cases draw with
 | true=>
  simp only[aY] at hord
  have Ip:jG st.clear (es++qP ops.toList k)=true:=by
   simp only[jG,List.all_append,aY] at hfr⊢
   refine⟨hfr,?_⟩
   rw[List.all_eq_true]
   intro x hx
   simp only[qP] at hx
   obtain ⟨o,_,rfl⟩:=List.mem_map.1 hx
   rfl
  have:=N8 (P:=P) (G:=G) (F:=F) (w0:=w0) (h0:=h0) (Q:=wpS P its R) hk hs (xs:=qP ops.toList k) (by simp[qP]) hord.1 hord.2 Ip (fun a' w' β' h' hd' g'=>h β' h' a' w' g' hd')
  refine wp_region_any hm ?_
  refine this _ _ β h1 a _ (by simp) ?_ ?_ ?_ ?_ hd
  ·intro j hj
   simp[Array.getD_eq_getD_getElem?,Array.getElem?_replicate] at hj
   split at hj<;>simp at hj
  ·intro j o _ hj
   simp[Array.getD_eq_getD_getElem?,Array.getElem?_replicate] at hj
   split at hj<;>simp at hj
  ·refine Nat.le_trans (List.length_filter_le _ _) (by simp)
  ·rw[vX]
   ·exact(aO.clear g).drew _
   ·intro j _
    simp[Array.getD_eq_getD_getElem?,Array.getElem?_replicate]
    split<;>rfl
 | false=>
  refine wp_region ?_
  have hl:(ops.toList.take k).length=k:=by rw[List.length_take];omega
  have:=BR (P:=P) (G:=G) (F:=F) (w0:=w0) (h0:=h0) (R:=wpS P its R) ops.toList (ops.toList.take k) es st.clear 0 (ops.toList.length-k) (fun j hj=>by
   rw[hl] at hj
   rw[Nat.zero_add,List.getElem?_take_of_lt hj]) hs ?_ (by rw[hl,Nat.zero_add];exact h) β h1 a w (aO.clear g) hd
  ·rw[hl] at this
   have e2:k+(ops.toList.length-k)=ops.size:=by have:ops.toList.length=ops.size:=Array.length_toList;omega
   rw[e2] at this
   simpa [List.range_eq_range'] using this
  ·intro i e he b hb
   rw[←vK]
   refine sV 0 es st.clear ?_ fun j e' he' hj=>?_
   ·simp only[jG,List.all_eq_true] at hfr
    exact hfr e (List.mem_of_getElem? he) b hb
   ·simp only[Nat.zero_add,Nat.blt_eq] at hj
    exact oH hord hj he' he b hb
theorem aK.qR (hm:P.follows .mixedOrders=true) (vw:Nat→Option AV) (k:Nat) {c:Code} {its:List It} {st:AS} (hc:c=.region (ZO c) (opsOf c) (IG c))
  (h:Holds ((VH P G aj (bT G F) vw k (IG c) (opsOf c).toList () st).okR P G F w0 h0 (iP P (opsOf c).toList k ((opsOf c).toList.length-k) (wpS P its R)))):aK P G F w0 h0 (.code c :: its) st R:=by
 have h:=h.h
 unfold VH at h
 split at h
 ·rename_i cs es st' he
  split at h
  ·rename_i hok
   simp only[aY,Nat.ble_eq] at hok
   obtain ⟨h1,h2⟩:=Hy h
   rw[hc]
   exact aK.YF hm (fun _ _ h=>h) hok.2 he hok.1 h1 h2
  ·exact h.elim
 ·exact h.elim
end
end Go.Ab
