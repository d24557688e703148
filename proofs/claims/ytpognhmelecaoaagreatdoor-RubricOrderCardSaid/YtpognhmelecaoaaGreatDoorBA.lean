import Derived.Test.YtpognhmelecaoaaGreatDoorAcC
import Derived.Test.YtpognhmelecaoaaGreatDoorEL
import Derived.Test.YtpognhmelecaoaaGreatDoorB0
import Derived.Shelf.Strings.BuilderX
import Derived.Shelf.RegionOpenPlain
import Derived.Lib.Strings
import Derived.Lib.Slices
import Derived.Lib.Walk
import Derived.Lib.Builder
import Derived.Lib.AppendStr
import Derived.Lib.UnsafeStr
import Derived.Lib.MakeNoZero
import Derived.WalkKit
import Derived.Laws.Externs
import Derived.Laws.IdiomCopy
import Derived.Laws.BitsLemmas
import Derived.Test.YtpognhmelecaoaaGreatDoorAcD
set_option autoImplicit false
namespace Go.Proofs
open Go Go.Ab Go.RowKit
set_option maxHeartbeats 1000000
set_option maxRecDepth 100000
variable {G : IH}
def byteL (l : List UInt8) (i : Nat) : DV := .con (.int .u8 (((l[i]?).getD 0).toNat : Int))
def nilP : AV := .d (.con (.pointer none))
def unitV : DV := .tup []
theorem Gam.result {F : Fr} {w0 : World} {h0 : IH} {st : AS} {β : Nat → Nat} {h : IH} {tm : Array Value} {w : World} (g : Gam G F w0 h0 st β h tm w) {r : AV} {v : Value} (hr : r.rel β h v) : Gam G F w0 h0 ⟨[r], st.boxes⟩ β h #[v] w :=
  ⟨g.glob, g.holds, g.ext, g.old, g.kept, g.fix, rfl, fun t x hx => by
    cases t with
    | zero => simp at hx; subst hx; exact ⟨v, rfl, hr⟩
    | succ t => simp at hx, g.box, g.inj⟩
theorem tup0_rel (h : IH) : unitV.rel h (.tuple #[]) := ⟨[], rfl, rfl⟩
theorem arg1 {F : Fr} {w0 : World} {h0 : IH} {x : AV} {bx : List (Nat × List AV)} {β : Nat → Nat} {h : IH} {us : Array Value} {w : World} (g : Gam G F w0 h0 ⟨[x], bx⟩ β h us w) : ∃ v, us = #[v] ∧ x.rel β h v := by
  have hs : us.size = 1 := g.size
  obtain ⟨v, hv, hr⟩ := g.regs 0 x rfl
  refine ⟨v, ?_, hr⟩
  apply Array.ext
  · simpa using hs
  · intro i h1 h2
    have : i = 0 := by simp at h2; omega
    subst this
    have := (Array.getElem?_eq_some_iff.1 hv).2
    simpa using this
theorem look_head (s : Nat) (l : List AV) (r : List (Nat × List AV)) : Go.Ab.look ((s, l) :: r) s = some l := by simp [Go.Ab.look]
theorem i146' : (Tryz.prog.info? 146).map (·.size) = some 2 := by kernel_rfl
theorem i146 : ∃ j, Tryz.prog.info? 146 = some j ∧ j.size = 2 := Option.map_eq_some_iff.1 i146'
theorem lies146 : liesAt Tryz.prog Tryz.prog.depth 146 (2 / Tryz.prog.cellsOf 146) 0 146 1 = true := by kernel_rfl
theorem copyCheck_used (b : Nat) (w : World) (h0 : w.cell? ⟨b, 0, none⟩ = some (.pointer (some ⟨b, 0, none⟩))) :
    Calls Tryz.prog 174 #[.pointer (some ⟨b, 0, none⟩)] w fun e w' => e = .returned (.tuple #[]) ∧ w' = w := by
  obtain ⟨j, hj, hjs⟩ := i146
  go_enter Tryz.func174, Tryz.ntmps174
  go_wp2
  rw [Lib.run_neq_ptr_same w _ Tryz.underlying143 hj]
  go_wp2
  go_end0
  exact ⟨rfl, rfl⟩
theorem copyCheck_fresh (b : Nat) (w : World) (h0 : w.cell? ⟨b, 0, none⟩ = some (.pointer none)) (hsh : w.shape? b = some (146, 2)) (hfz : w.frozen? ⟨b, 0, none⟩ = false) :
    Calls Tryz.prog 174 #[.pointer (some ⟨b, 0, none⟩)] w fun e w' => e = .returned (.tuple #[]) ∧ w' = w.setCell ⟨b, 0, none⟩ (.pointer (some ⟨b, 0, none⟩)) := by
  obtain ⟨j, hj, hjs⟩ := i146
  go_enter Tryz.func174, Tryz.ntmps174
  go_wp2
  rw [Lib.run_to_unsafe w ⟨b, 0, none⟩ Tryz.underlying143 Tryz.underlying169 hj (by rw [hjs]; decide) hsh (Nat.zero_lt_succ 1)]
  simp only [Result.andThen]
  rw [Oper.upon_value]
  go_wp2
  rw [run_callFunc_extern Tryz.func181 (by kernel_rfl) (by kernel_rfl) (by kernel_rfl) (e := Extern.AbiNoEscape.same) (by kernel_rfl)]
  rw [Lib.run_noEscape]
  simp only [Result.andThen]
  rw [Oper.upon_value]
  go_wp2
  rw [Lib.run_from_unsafe w ⟨b, 0, none⟩ Tryz.underlying169 Tryz.underlying143 hj hsh lies146]
  simp only [Result.andThen]
  rw [Oper.upon_value]
  go_wp2
  go_end0
  exact ⟨rfl, rfl⟩
theorem builder_String (b g cap n : Nat) (T : TypeId) (p : Value) (vs : Array Value) (fz : Nat × Nat) (l : List UInt8) (h0 : l ≠ []) (hn : n = l.length) (w : World) (hbk : w.heap[b]? = some (.cells #[p, .slice (some ⟨g, 0, none⟩) n cap] T (0, 0)))
    (hg : w.heap[g]? = some (.cells vs 5 fz)) (hcap : n ≤ cap) (hsz : n ≤ vs.size) (h63 : n ≤ 9223372036854775807) (hvs : ∀ (j : Nat) (x : UInt8), l[j]? = some x → vs[j]? = some (Value.int .u8 x.toNat)) :
    Calls Tryz.prog 146 #[.pointer (some ⟨b, 0, none⟩)] w fun e w' => e = .returned (.string ⟨l.toArray⟩) ∧ w' = w.drew.freeze ⟨g, 0, none⟩ n := by
  subst hn
  have hl0 : l.length ≠ 0 := by simpa using h0
  have c1 : w.drew.cell? ⟨b, 1, none⟩ = some (.slice (some ⟨g, 0, none⟩) l.length cap) := by
    have : w.drew.heap[b]? = some (.cells #[p, .slice (some ⟨g, 0, none⟩) l.length cap] T (0, 0)) := hbk
    rw [Lib.cell_of_heap this]; rfl
  have hSD : (Builtin.unsafeSliceData_ #[144] 167 #[.slice (some ⟨g, 0, none⟩) l.length cap]).run Tryz.prog w.drew = .ok (.pointer (some ⟨g, 0, none⟩)) w.drew :=
    Lib.run_unsafeSliceData_row _ _ _ _ _ _ (by omega)
  have hUS : (Builtin.unsafeString_ #[167, 3] 9 #[.pointer (some ⟨g, 0, none⟩), .int .i64 l.length]).run Tryz.prog w.drew = .ok (.string ⟨l.toArray⟩) (w.drew.freeze ⟨g, 0, none⟩ l.length) := by
    refine Lib.run_unsafeString_row w.drew 167 3 9 5 Tryz.underlying167 (by kernel_rfl) g vs.size (by have hg' : w.drew.heap[g]? = some (.cells vs 5 fz) := hg; simp [World.shape?, hg']) l h0 hsz h63 ?_
    intro j x hx
    have hg' : w.drew.heap[g]? = some (.cells vs 5 fz) := hg
    have : (⟨g, 0, none⟩ : Addr).add j = ⟨g, j, none⟩ := by rw [add_off]; simp
    rw [this]
    simp only [World.cell?, hg']
    exact hvs j x hx
  have mixed := follows
  go_enter Tryz.func146, Tryz.ntmps146
  go_wp2
  go_region_o
  all_goals (go_wp2; go_ret; exact ⟨rfl, rfl⟩)
theorem builder_String_nil (b : Nat) (T : TypeId) (p : Value) (w : World) (hbk : w.heap[b]? = some (.cells #[p, .slice none 0 0] T (0, 0))) :
    Calls Tryz.prog 146 #[.pointer (some ⟨b, 0, none⟩)] w fun e w' => e = .returned (.string ⟨#[]⟩) ∧ w' = w.drew := by
  have c1 : w.drew.cell? ⟨b, 1, none⟩ = some (.slice none 0 0) := by
    have : w.drew.heap[b]? = some (.cells #[p, .slice none 0 0] T (0, 0)) := hbk
    rw [Lib.cell_of_heap this]; rfl
  have hSD : (Builtin.unsafeSliceData_ #[144] 167 #[.slice none 0 0]).run Tryz.prog w.drew = .ok (.pointer none) w.drew := rfl
  have hUS : (Builtin.unsafeString_ #[167, 3] 9 #[.pointer none, .int .i64 0]).run Tryz.prog w.drew = .ok (.string .empty) w.drew := Lib.run_unsafeString_none w.drew _ _ _ none
  have mixed := follows
  go_enter Tryz.func146, Tryz.ntmps146
  go_wp2
  go_region_o
  all_goals (go_wp2; go_ret; exact ⟨rfl, rfl⟩)
theorem f174_fresh (x : AV) (rest : List (Nat × List AV)) : FnM Tryz.prog G 174 [.tb 1000000 0 146] ((1000000, [nilP, x]) :: rest) (.d unitV) ((1000000, [.box 1000000 0, x]) :: rest) := by
  refine ⟨Tryz.call174, fun F w h β us g => ?_⟩
  obtain ⟨v, rfl, hv, hT⟩ := arg1 g
  subst hv
  have hb : (⟨[.tb 1000000 0 146], (1000000, [nilP, x]) :: rest⟩ : AS).box 1000000 = some [nilP, x] := look_head ..
  have hp : plainB [nilP, x] = true := by
    cases x <;> rfl
  obtain ⟨_, _, _, T, vs, hh, hr⟩ := g.boxP hb hp
  obtain ⟨v0, vs', rfl, h0, v1, vs'', rfl, h1, h2⟩ := hr
  simp only [AV.rels] at h2; subst h2
  simp only [nilP, AV.rel, DV.rel] at h0; subst h0
  have hTT : T.1 = 146 := T.2.trans hT
  rw [hTT] at hh
  have c0 : w.cell? ⟨blk β 1000000, 0, none⟩ = some (.pointer none) := by simp [World.cell?, hh]
  refine (copyCheck_fresh (blk β 1000000) w c0 (by simp [World.shape?, hh]) (by simp [World.frozen?, hh])).mono ?_
  rintro e w' ⟨rfl, rfl⟩
  have g2 := g.store (s := 1000000) (i := 0) (x := .box 1000000 0) (v := .pointer (some ⟨blk β 1000000, 0, none⟩)) ⟨_, hb, hp⟩ rfl
  have hset : setCells 1000000 0 (.box 1000000 0) ((1000000, [nilP, x]) :: rest) = (1000000, [.box 1000000 0, x]) :: rest := by simp [setCells]
  rw [hset] at g2
  exact ⟨_, β, h, rfl, Gam.result g2 (tup0_rel h)⟩
theorem f174_used (y x : AV) (hy : ∀ β h v, y.rel β h v → v = .pointer (some ⟨blk β 1000000, 0, none⟩)) (rest : List (Nat × List AV)) : FnM Tryz.prog G 174 [y] ((1000000, [.box 1000000 0, x]) :: rest) (.d unitV) ((1000000, [.box 1000000 0, x]) :: rest) := by
  refine ⟨Tryz.call174, fun F w h β us g => ?_⟩
  obtain ⟨v, rfl, hv⟩ := arg1 g
  have hv := hy _ _ _ hv
  subst hv
  have hb : (⟨[y], (1000000, [.box 1000000 0, x]) :: rest⟩ : AS).box 1000000 = some [.box 1000000 0, x] := look_head ..
  have hp : plainB [.box 1000000 0, x] = true := by
    cases x <;> rfl
  obtain ⟨_, _, _, T, vs, hh, hr⟩ := g.boxP hb hp
  obtain ⟨v0, vs', rfl, h0, v1, vs'', rfl, h1, h2⟩ := hr
  simp only [AV.rels] at h2; subst h2
  simp only [AV.rel] at h0; subst h0
  have c0 : w.cell? ⟨blk β 1000000, 0, none⟩ = some (.pointer (some ⟨blk β 1000000, 0, none⟩)) := by simp [World.cell?, hh]
  refine (copyCheck_used (blk β 1000000) w c0).mono ?_
  rintro e w' ⟨rfl, rfl⟩
  exact ⟨_, β, h, rfl, Gam.result g (tup0_rel h)⟩
end Go.Proofs
set_option autoImplicit false
namespace Go.Proofs
open Go Go.Ab Go.RowKit
set_option maxHeartbeats 1000000
set_option maxRecDepth 100000
variable {G : IH}
abbrev byteF : RK := ⟨false, 5, true, none⟩
theorem onlyBlk_freeze {g n : Nat} {w : World} : OnlyBlk g w (w.freeze ⟨g, 0, none⟩ n) := by
  unfold World.freeze
  split
  · exact ⟨rfl, rfl, rfl, rfl, fun _ _ => rfl⟩
  · refine ⟨rfl, rfl, rfl, by simp, fun k hk => ?_⟩
    simp only [Array.getElem?_modify]
    rw [if_neg (Ne.symm hk)]
theorem heap_freeze {g n : Nat} {w : World} {vs : Array Value} {T : TypeId} {fr : Nat × Nat} (h : w.heap[g]? = some (.cells vs T fr)) : ∃ fr', (w.freeze ⟨g, 0, none⟩ n).heap[g]? = some (.cells vs T fr') := by
  unfold World.freeze
  split
  · exact ⟨fr, h⟩
  · simp only [Array.getElem?_modify, if_true, h]
    exact ⟨_, rfl⟩
theorem RowOK.frozen {h : IH} {k : RK} {sz c m : Nat} {f : Nat → DV} {o o' : Option Obj} (hR : RowOK h k sz f c m o) (ho : ∀ (vs : Array Value) (fr : Nat × Nat), o = some (.cells vs k.ty fr) → ∃ fr', o' = some (.cells vs k.ty fr')) : RowOK h ⟨k.agg, k.ty, true, k.mn⟩ sz f c m o' := by
  obtain ⟨h1, h2⟩ := hR
  refine ⟨h1, h2.imp id ?_⟩
  rintro ⟨fr, vs, e, hf, hl, hone, r⟩
  obtain ⟨fr', e'⟩ := ho _ _ e
  exact ⟨fr', vs, e', fun hh => Bool.noConfusion hh, hl, hone, r⟩
theorem f146 (y A : AV) (hy : ∀ β h v, y.rel β h v → v = .pointer (some ⟨blk β 1000000, 0, none⟩)) (fz : Bool) (l : List UInt8) (h0 : l ≠ []) (hl : l.length ≤ 4611686018427387904) :
    FnM Tryz.prog G 146 [y] [(1000000, [A, .vec 1000001 1 0 l.length]), (1000001, [.arr ⟨false, 5, fz, none⟩ 1 (byteL l)])] (.d (ds (bs l))) [(1000000, [A, .vec 1000001 1 0 l.length]), (1000001, [.arr byteF 1 (byteL l)])] := by
  refine ⟨Tryz.call146, fun F w h β us g => ?_⟩
  obtain ⟨v, rfl, hv⟩ := arg1 g
  have hv := hy _ _ _ hv
  subst hv
  have hb : (⟨[y], [(1000000, [A, .vec 1000001 1 0 l.length]), (1000001, [.arr ⟨false, 5, fz, none⟩ 1 (byteL l)])]⟩ : AS).box 1000000 = some [A, .vec 1000001 1 0 l.length] := look_head ..
  have hb1 : (⟨[y], [(1000000, [A, .vec 1000001 1 0 l.length]), (1000001, [.arr ⟨false, 5, fz, none⟩ 1 (byteL l)])]⟩ : AS).box 1000001 = some [.arr ⟨false, 5, fz, none⟩ 1 (byteL l)] := by
    simp only [AS.box, Go.Ab.look]; rfl
  have hp : plainB [A, .vec 1000001 1 0 l.length] = true := by
    cases A <;> rfl
  obtain ⟨_, _, _, T, vs, hh, hr⟩ := g.boxP hb hp
  obtain ⟨v0, vs', rfl, hA, v1, vs'', rfl, ⟨k1, k2, p, hv1, hpp⟩, h2⟩ := hr
  simp only [AV.rels] at h2; subst h2
  subst hv1
  have hpos : 0 < l.length := List.length_pos_iff.2 h0
  have hR := (g.box _ _ hb1).2
  simp only [Own] at hR
  obtain ⟨r1, r2⟩ := hR
  rcases r2 with r2 | ⟨fr, us, hu, hfr, hul, hone, hel⟩
  · omega
  have hp' : p = some ⟨blk β 1000001, 0, none⟩ := by
    rcases hpp with hpp | hpp
    · simpa using hpp
    · omega
  subst hp'
  have hRow : RowOK h ⟨false, 5, fz, none⟩ 1 (byteL l) (room β 1000001) (many β 1000001) w.heap[blk β 1000001]? := ⟨r1, .inr ⟨fr, us, hu, hfr, hul, hone, hel⟩⟩
  have hcap : l.length ≤ room β 1000001 := by omega
  refine (builder_String (blk β 1000000) (blk β 1000001) (room β 1000001 - 0) l.length T.1 v0 us.toArray fr l h0 rfl w hh hu (by omega) (by simp [hul]; omega) (by omega) ?_).mono ?_
  · intro j x hx
    have hj : j < l.length := (List.getElem?_eq_some_iff.1 hx).1
    obtain ⟨v, a1, a2, a3, a4⟩ := hel j (by omega)
    simp only [byteL, hx, Option.getD_some, DV.rel] at a1
    subst a1
    have := a4 0 (by omega)
    simp only [Nat.mul_one, Nat.add_zero, Value.cells] at this
    simpa using this
  · rintro e w' ⟨rfl, rfl⟩
    have gd := g.drew (w.drawn + 1)
    have hlive : Live β 1000001 [.arr ⟨false, 5, fz, none⟩ 1 (byteL l)] := show 0 < room β 1000001 by omega
    have g2 := gd.write (s := 1000001) (l := [.arr ⟨false, 5, fz, none⟩ 1 (byteL l)]) (l' := [.arr byteF 1 (byteL l)]) (w' := w.drew.freeze ⟨blk β 1000001, 0, none⟩ l.length)
      (bx := [(1000000, [A, .vec 1000001 1 0 l.length]), (1000001, [.arr byteF 1 (byteL l)])]) hb1 hlive onlyBlk_freeze (by
        simp only [Own]
        refine RowOK.frozen (k := ⟨false, 5, fz, none⟩) hRow fun vs fr' he => ?_
        exact heap_freeze (w := w.drew) he) (by
        intro t m ht
        simp only [Go.Ab.look] at ht
        by_cases h1 : (1000000 : Nat) = t
        · subst h1
          simp at ht
          subst ht
          exact .inr ⟨by decide, rfl⟩
        · rw [beq_ne h1, cond_false] at ht
          by_cases h2 : (1000001 : Nat) = t
          · subst h2
            simp at ht
            subst ht
            exact .inl ⟨rfl, rfl⟩
          · rw [beq_ne h2, cond_false] at ht
            cases ht)
    exact ⟨_, β, h, rfl, Gam.result g2 (r := .d (ds (bs l))) rfl⟩
theorem f146n (y A : AV) (hy : ∀ β h v, y.rel β h v → v = .pointer (some ⟨blk β 1000000, 0, none⟩)) :
    FnM Tryz.prog G 146 [y] [(1000000, [A, .d (.con (.slice none 0 0))])] (.d (ds (bs []))) [(1000000, [A, .d (.con (.slice none 0 0))])] := by
  refine ⟨Tryz.call146, fun F w h β us g => ?_⟩
  obtain ⟨v, rfl, hv⟩ := arg1 g
  have hv := hy _ _ _ hv
  subst hv
  have hb : (⟨[y], [(1000000, [A, .d (.con (.slice none 0 0))])]⟩ : AS).box 1000000 = some [A, .d (.con (.slice none 0 0))] := look_head ..
  have hp : plainB [A, .d (.con (.slice none 0 0))] = true := by
    cases A <;> rfl
  obtain ⟨_, _, _, T, vs, hh, hr⟩ := g.boxP hb hp
  obtain ⟨v0, vs', rfl, hA, v1, vs'', rfl, h1, h2⟩ := hr
  simp only [AV.rels] at h2; subst h2
  simp only [AV.rel, DV.rel] at h1; subst h1
  refine (builder_String_nil (blk β 1000000) T.1 v0 w hh).mono ?_
  rintro e w' ⟨rfl, rfl⟩
  exact ⟨_, β, h, rfl, Gam.result (g.drew (w.drawn + 1)) (r := .d (ds (bs []))) rfl⟩
end Go.Proofs
set_option autoImplicit false
namespace Go.Proofs
open Go Go.Ab Go.RowKit
set_option maxHeartbeats 1000000
set_option maxRecDepth 100000
variable {G : IH}
abbrev byteK : RK := ⟨false, 5, false, none⟩
def orcCC : Orc := { d := fun _ _ => none, m := fun f _ pre => match f, pre with
  | 174, (u, [.d (.con (.pointer none)), x]) :: rest => some (.d unitV, (u, [.box u 0, x]) :: rest)
  | 174, (u, [.box v 0, x]) :: rest => some (.d unitV, (u, [.box v 0, x]) :: rest)
  | _, _ => none }
theorem byteD_L (s : ByteArray) : byteD s = byteL s.data.toList := by
  funext i
  simp only [byteD, byteL, byteAt, Array.getElem?_toList]
theorem byteL_app (l m : List UInt8) : (fun i => bif Nat.blt i l.length then byteL l i else byteL m (i - l.length)) = byteL (l ++ m) := by
  funext i
  cases h : Nat.blt i l.length with
  | true =>
    rw [Nat.blt_eq] at h
    simp only [cond_true, byteL, List.getElem?_append_left h]
  | false =>
    have h : ¬ i < l.length := by rw [← Nat.blt_eq, h]; decide
    simp only [cond_false, byteL, List.getElem?_append_right (Nat.le_of_not_lt h)]
theorem f143_fresh (s : ByteArray) (hs : s.size ≤ 281474976710) : FnM Tryz.prog G 143 [.tb 1000000 0 146, vs s] [(1000000, [nilP, .d (.con (.slice none 0 0))])] (.d (.tup [di s.size, .con .nilIface]))
    [(1000000, [.box 1000000 0, .vec 14 1 0 s.data.toList.length]), (14, [.arr byteK 1 (byteL s.data.toList)])] := by
  refine FnM.walk (orc := orcCC) (keep := []) [] follows (by kernel_rfl) Tryz.func143 rfl Tryz.call143 ?_
  refine of_tr (fun _ _ _ _ => (FnM Tryz.prog G 174 [(.tb 1000000 0 146)] [(1000000, [(.d (.con (.pointer none))), (.d (.con (.slice none 0 0)))])] (.d (.tup [])) [(1000000, [(.box 1000000 0), (.d (.con (.slice none 0 0)))])] ∧ ((s.size * 1 ≤ 1099511627776) ∧ (s.size ≤ 1099511627776)) ∧ (ZS ((.d (.tup [(di (↑s.size)), (.con .nilIface)])) : AV)) ∧ ((some [(.box 1000000 0), (.vec 14 1 0 s.size)]) : (Option (List AV))) = (some [(.box 1000000 0), (.vec 14 1 0 s.data.toList.length)]) ∧ ((some [(.arr ⟨false, 5, false, none⟩ 1 (byteD s))]) : (Option (List AV))) = (some [(.arr ⟨false, 5, false, none⟩ 1 (byteL s.data.toList))]) ∧ True)) (by kernel_rfl) ?_
  refine ⟨f174_fresh _ _, ⟨by omega, by omega⟩, rfl, ?_, ?_, trivial⟩
  · rw [size_list]
  · rw [byteD_L]
theorem f143_used (s : ByteArray) (l : List UInt8) (hs : l.length + s.size ≤ 281474976710) : FnM Tryz.prog G 143 [.tb 1000000 0 146, vs s] [(1000000, [.box 1000000 0, .vec 1000001 1 0 l.length]), (1000001, [.arr byteK 1 (byteL l)])] (.d (.tup [di s.size, .con .nilIface]))
    [(1000000, [.box 1000000 0, .vec 14 1 0 (l ++ s.data.toList).length]), (14, [.arr byteK 1 (byteL (l ++ s.data.toList))])] := by
  refine FnM.walk (orc := orcCC) (keep := []) [] follows (by kernel_rfl) Tryz.func143 rfl Tryz.call143 ?_
  refine of_tr (fun _ _ _ _ => (FnM Tryz.prog G 174 [(.tb 1000000 0 146)] [(1000000, [(.box 1000000 0), (.vec 1000001 1 0 l.length)]), (1000001, [(.arr ⟨false, 5, false, none⟩ 1 (byteL l))])] (.d (.tup [])) [(1000000, [(.box 1000000 0), (.vec 1000001 1 0 l.length)]), (1000001, [(.arr ⟨false, 5, false, none⟩ 1 (byteL l))])] ∧ (((l.length + s.size) * 1 ≤ 1099511627776) ∧ (l.length + s.size ≤ 1099511627776)) ∧ (ZS ((.d (.tup [(di (↑s.size)), (.con .nilIface)])) : AV)) ∧ ((some [(.box 1000000 0), (.vec 14 1 0 (l.length + s.size))]) : (Option (List AV))) = (some [(.box 1000000 0), (.vec 14 1 0 (l ++ s.data.toList).length)]) ∧ ((some [(.arr ⟨false, 5, false, none⟩ 1 (fun i => bif i.blt l.length then byteL l i else byteD s (i - l.length)))]) : (Option (List AV))) = (some [(.arr ⟨false, 5, false, none⟩ 1 (byteL (l ++ s.data.toList)))]) ∧ True)) (by kernel_rfl) ?_
  refine ⟨f174_used (.tb 1000000 0 146) _ (fun β h v hv => hv.1) _, ⟨by omega, by omega⟩, rfl, ?_, ?_, trivial⟩
  · rw [List.length_append, size_list]
  · rw [byteD_L, byteL_app]
end Go.Proofs
