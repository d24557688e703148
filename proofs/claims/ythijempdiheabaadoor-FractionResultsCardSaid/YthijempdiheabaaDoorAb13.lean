import Derived.Test.YthijempdiheabaaDoorAb12
set_option autoImplicit false
namespace Go.Ab
open Go Go.RowKit

def optAll (f : AV → Option DV) : List AV → Option (List DV)
  | [] => some []
  | x :: l => match f x, optAll f l with | some y, some m => some (y :: m) | _, _ => none
/-- A value as data, the walk's own blocks given away with it. -/
def closeAV : Nat → List (Nat × List AV) → AV → Option DV
  | 0, _, _ => none
  | n + 1, b, x => match x with
    | .d y => some y
    | .box s off => match look b s with
      | some l => match optAll (closeAV n b) (l.drop off) with | some m => some (.ptr m) | none => none
      | none => none
    | .agg l => match optAll (closeAV n b) l with | some m => some (.agg m) | none => none
    | .tup l => match optAll (closeAV n b) l with | some m => some (.tup m) | none => none
    | .clo f a c => match optAll (closeAV n b) a, optAll (closeAV n b) c with | some x, some y => some (.clo f x y) | _, _ => none
    | _ => none
theorem optAll_rel {f : AV → Option DV} {β : Nat → Nat} {h k : IH} (hf : ∀ (x : AV) (y : DV) (v : Value), f x = some y → x.rel β h v → y.rel k v) : ∀ {l : List AV} {m : List DV} {vs : List Value}, optAll f l = some m → AV.rels β h l vs → DV.rels k m vs
  | [], m, vs, ho, hr => by simp only [optAll, Option.some.injEq] at ho; subst ho; exact hr
  | x :: l, m, vs, ho, ⟨v, vs', e, hx, hr⟩ => by
    simp only [optAll] at ho
    split at ho
    · rename_i y m' hy hm
      simp only [Option.some.injEq] at ho; subst ho
      exact ⟨v, vs', e, hf x y v hy hx, optAll_rel hf hm hr⟩
    · cases ho
/-- Memory that the walk owned, given away. -/
theorem closeAV_rel {β : Nat → Nat} {h k : IH} (hk : h.le k) {b : List (Nat × List AV)} (hb : ∀ s l, look b s = some l → ∃ vs, AV.rels β h l vs ∧ ∀ i, i < vs.length → k.cell (β s) i = vs[i]?) :
    ∀ (n : Nat) (x : AV) (y : DV) (v : Value), closeAV n b x = some y → x.rel β h v → y.rel k v
  | 0, _, _, _, hc, _ => by simp [closeAV] at hc
  | n + 1, x, y, v, hc, hr => by
    have ih := closeAV_rel hk hb n
    simp only [closeAV] at hc
    split at hc
    · simp only [Option.some.injEq] at hc; subst hc; exact DV.rel.mono hk _ _ hr
    · rename_i s off
      split at hc
      · rename_i l hl
        split at hc
        · rename_i m hm
          simp only [Option.some.injEq] at hc; subst hc
          obtain ⟨vs, hvs, hcell⟩ := hb s l hl
          refine ⟨β s, off, hr, vs.drop off, optAll_rel ih hm (hvs.drop off), fun i hi => ?_⟩
          simp only [List.length_drop] at hi
          rw [hcell _ (by omega)]; simp
        · cases hc
      · cases hc
    · split at hc
      · rename_i m hm
        simp only [Option.some.injEq] at hc; subst hc
        obtain ⟨vs, e, hvs⟩ := hr
        exact ⟨vs, e, optAll_rel ih hm hvs⟩
      · cases hc
    · split at hc
      · rename_i m hm
        simp only [Option.some.injEq] at hc; subst hc
        obtain ⟨vs, e, hvs⟩ := hr
        exact ⟨vs, e, optAll_rel ih hm hvs⟩
      · cases hc
    · split at hc
      · rename_i x' y' hx hy
        simp only [Option.some.injEq] at hc; subst hc
        obtain ⟨va, vc, e, ha, hcc⟩ := hr
        exact ⟨va, vc, e, optAll_rel ih hx ha, optAll_rel ih hy hcc⟩
      · cases hc
    · cases hc

/-- What a function hands back. -/
def resVar (P : Program) (st : AS) : ResultVar → Option AV
  | .tmp t => some (st.reg t)
  | .cell a T => match hasU P T, sizeT P T, st.reg a with
    | true, some n, .box s off => match st.box s with
      | some l => match Nat.beq ((l.drop off).take n).length n with
        | true => loadVal (aggT P T) ((l.drop off).take n)
        | false => none
      | none => none
    | _, _, _ => none
def resVars (P : Program) (st : AS) : List ResultVar → Option (List AV)
  | [] => some []
  | r :: rs => match resVar P st r, resVars P st rs with | some x, some l => some (x :: l) | _, _ => none
def resOf (P : Program) (rs : List ResultVar) (st : AS) : Option DV :=
  match resVars P st rs with
  | some [x] => closeAV 8 st.boxes x
  | some l => closeAV 9 st.boxes (.tup l)
  | none => none
section
variable {P : Program} {G : IH}
theorem resVars_run {F : Nat → Prop} {w0 : World} {h0 : IH} {st : AS} {β : Nat → Nat} {h : IH} {tm : Array Value} {w : World} (g : Gam G F w0 h0 st β h tm w) : ∀ {rs : List ResultVar} {l : List AV}, resVars P st rs = some l →
    ∃ vs : List Value, (rs.mapM fun | .tmp t => pure (tm.getD t undef) | .cell a t => do loadVar t (← asAddr (tm.getD a undef)) : Sem (List Value)).run P w = .ok vs w ∧ AV.rels β h l vs
  | [], l, hl => by simp only [resVars, Option.some.injEq] at hl; subst hl; exact ⟨[], by simp, rfl⟩
  | r :: rs, l, hl => by
    simp only [resVars] at hl
    split at hl
    · rename_i x l' hx hl'
      simp only [Option.some.injEq] at hl; subst hl
      obtain ⟨vs, hrun, hr⟩ := resVars_run g hl'
      have hreg : ∀ t, (st.reg t).rel β h (tm.getD t undef) := fun t => g.ev (a := ⟨tm, []⟩) (.tmp t)
      cases r with
      | tmp t =>
        simp only [resVar, Option.some.injEq] at hx; subst hx
        refine ⟨tm.getD t undef :: vs, ?_, ⟨_, _, rfl, hreg t, hr⟩⟩
        simp only [List.mapM_cons, Sem.run_bind, Sem.run_pure, Result.andThen_ok]
        rw [hrun]; rfl
      | cell a T =>
        simp only [resVar] at hx
        split at hx
        · rename_i n s off hu hz hs
          split at hx
          · rename_i lb hb
            split at hx
            · rename_i hn
              simp only [Nat.beq_eq] at hn
              obtain ⟨us, hus, hcell⟩ := g.cells hb off n
              obtain ⟨v, hv, hvr⟩ := run_loadVar_cells hu hz hn hus hcell hx
              have ha := hreg a
              rw [hs] at ha
              simp only [AV.rel] at ha
              have hasa : (asAddr (tm.getD a undef)).run P w = .ok ⟨β s, off, none⟩ w := by rw [ha]; rfl
              refine ⟨v :: vs, ?_, ⟨_, _, rfl, hvr, hr⟩⟩
              simp only [List.mapM_cons, Sem.run_bind, Sem.run_pure, Result.andThen_ok, hasa, hv]
              rw [hrun]; rfl
            · cases hx
          · cases hx
        · cases hx
    · cases hl
/-- The state in which a function's body begins. -/
def entry (args : List DV) (n : Nat) : AS := ⟨args.map .d ++ List.replicate (n - args.length) .any, []⟩
def isOut : Exit → Bool
  | .normal | .ret => true
  | _ => false
/-- The body hands back 'r'. -/
def Ret (P : Program) (fn : Func) (r : DV) (e : Exit) (st : AS) : Prop := match isOut e, resOf P fn.results.toList st with | true, some d => d = r | _, _ => False
theorem Ret_spec {P : Program} {fn : Func} {r : DV} {e : Exit} {st : AS} (h : Ret P fn r e st) : isOut e = true ∧ resOf P fn.results.toList st = some r := by
  unfold Ret at h
  split at h
  · rename_i h1 h2; exact ⟨h1, by rw [h2, h]⟩
  · exact h.elim
theorem of_eq {a b : Prop} (h : a = b) (hb : b) : a := h ▸ hb
/-- The part of a code that a path leads to: 0, 1 at a sequence and an if; 0 into a block and a loop. -/
def cAt : Code → List Nat → Code
  | c, [] => c
  | .seq a b, i :: r => match i with | 0 => cAt a r | _ => cAt b r
  | .cond _ a b, i :: r => match i with | 0 => cAt a r | _ => cAt b r
  | .block _ c, _ :: r => cAt c r
  | .loop c, _ :: r => cAt c r
  | c, _ => c
def bodyOf (fn : Func) : Code := match fn.body with | some c => c | none => .skip

theorem FnOK.of_body {f : FuncId} {fn : Func} {args : List DV} {r : DV} (hf : P.funcs[f]? = some fn) (hb : fn.body.isSome = true) (hcall : ∀ (vs : Array Value) (w : World), (callFunc f vs).run P w = .ok (.enter f vs) w)
    (h : AWP P G [.code (bodyOf fn)] (entry args fn.ntmps) (Ret P fn r)) : FnOK P G f args r := by
  have hb' : fn.body = some (bodyOf fn) := by
    unfold bodyOf
    cases hh : fn.body with
    | none => simp [hh] at hb
    | some c => rfl
  refine ⟨hcall, fun w h0 vs hG hw hvs => calls_of_wp hf hb' ?_⟩
  have hvl := hvs.length
  have g0 : Gam G (fun _ => False) w h0 (entry args fn.ntmps) (fun _ => 0) h0 (vs.toArray ++ Array.replicate (fn.ntmps - vs.toArray.size) undef) w := by
    refine ⟨hG, hw, IH.le.refl _, fun _ _ _ => ⟨fun _ => rfl, rfl⟩, Kept.refl _ _, by simp [entry, hvl], fun t x hx => ?_, fun s l hb => by simp [entry, AS.box, look] at hb, fun s s' l l' hb => by simp [entry, AS.box, look] at hb⟩
    simp only [entry, List.getElem?_append, List.length_map] at hx
    split at hx
    · rename_i ht
      obtain ⟨v, hv, hr⟩ := ((AV.rels_d (β := fun _ => 0)).2 hvs).get hx
      exact ⟨v, by rw [Array.getElem?_append_left (by simpa [hvl] using ht)]; simpa using hv, hr⟩
    · rename_i ht
      rw [List.getElem?_replicate] at hx
      split at hx
      · rename_i ht'
        simp only [Option.some.injEq] at hx; subst hx
        exact ⟨undef, by rw [Array.getElem?_append_right (by simp [hvl]; omega)]; simp [hvl, ht'], trivial⟩
      · cases hx
  have := h (fun _ => False) w h0 (fun _ => 0) h0 ⟨_, []⟩ w g0 rfl
  refine wp_then this fun e a w' he => ?_
  obtain ⟨st, β, h', hret, g, hd⟩ := he
  obtain ⟨he', hr⟩ := Ret_spec hret
  -- the walk's own blocks, given away
  classical
  let k : IH := ⟨fun b o => if ∃ s l, st.box s = some l ∧ β s = b then w'.cell? ⟨b, o, none⟩ else h'.cell b o, h'.obj⟩
  have hk : h'.le k := by
    refine ⟨fun b o v e => ?_, fun b o e => e⟩
    simp only [k]
    split
    · exact g.holds.1 b o v e
    · exact e
  have hkh : k.holds w' := by
    refine ⟨fun b o v e => ?_, g.holds.2⟩
    simp only [k] at e
    split at e
    · exact e
    · exact g.holds.1 b o v e
  have hold : ∀ b, b < w.heap.size → (∀ o, k.cell b o = h0.cell b o) ∧ k.obj b = h0.obj b := by
    intro b hb
    have h1 := g.old b hb id
    refine ⟨fun o => ?_, h1.2⟩
    simp only [k]
    rw [if_neg]
    · exact h1.1 o
    · rintro ⟨s, l, hbx, rfl⟩
      obtain ⟨h2, _⟩ := g.box s l hbx
      rcases h2 with h2 | h2
      · exact h2
      · omega
  have hbox : ∀ s l, look st.boxes s = some l → ∃ vs, AV.rels β h' l vs ∧ ∀ i, i < vs.length → k.cell (β s) i = vs[i]? := by
    intro s l hbx
    obtain ⟨_, _, _, T, vs, hh, hrs⟩ := g.box s l hbx
    refine ⟨vs, hrs, fun i hi => ?_⟩
    simp only [k]
    rw [if_pos ⟨s, l, hbx, rfl⟩]
    simp [World.cell?, hh]
  have hpost : ∃ v, (results fn a.tmps).run P w' = .ok v w' ∧ DV.rel k r v := by
    simp only [resOf] at hr
    have hres : ∀ l, resVars P st fn.results.toList = some l → ∃ vs : List Value, (results fn a.tmps).run P w' = .ok (if h : vs.toArray.size = 1 then vs.toArray[0] else .tuple vs.toArray) w' ∧ AV.rels β h' l vs := by
      intro l hl
      obtain ⟨vs, hrun, hrs⟩ := resVars_run (P := P) g hl
      refine ⟨vs, ?_, hrs⟩
      simp only [results, Sem.run_bind]
      rw [Array.mapM_eq_mapM_toList, Sem.run_map]
      erw [hrun]
      rfl
    split at hr
    · rename_i x hl
      obtain ⟨vs, hrun, hrs⟩ := hres _ hl
      obtain ⟨v, vs', e, hx, hrest⟩ := hrs
      simp only [AV.rels] at hrest
      subst hrest; subst e
      exact ⟨v, by rw [hrun]; simp, closeAV_rel hk hbox _ _ _ _ hr hx⟩
    · rename_i l hne hl
      obtain ⟨vs, hrun, hrs⟩ := hres _ hl
      refine ⟨.tuple vs.toArray, ?_, closeAV_rel hk hbox 9 (.tup l) r _ hr ⟨vs, rfl, hrs⟩⟩
      rw [hrun]
      have : vs.length ≠ 1 := by
        rw [hrs.length]
        intro h1
        match l, h1 with
        | [x], _ => exact hne x rfl
      simp [this]
    · cases hr
  obtain ⟨v, hrun, hv⟩ := hpost
  cases e <;> first
    | exact ⟨hd, v, hrun, v, k, rfl, hv, g.ext.trans hk, hkh, g.kept.mono fun _ h => h, hold⟩
    | (simp [isOut] at he')
end
end Go.Ab
