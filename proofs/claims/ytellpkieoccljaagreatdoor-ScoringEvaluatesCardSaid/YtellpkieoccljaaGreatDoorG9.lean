import Derived.Test.YtellpkieoccljaaGreatDoorAcD
import GoSem.ClaimJoined
import Derived.Carry
import Derived.ChangeShapes
import Derived.ChangeArms
import Derived.Deep.Slices
import Derived.LaidMore
import Derived.Test.YtellpkieoccljaaGreatDoorG0
import Derived.Test.YtellpkieoccljaaGreatDoorG8
set_option autoImplicit false
namespace Go.AbW
open Go Go.Ab Go.RowKit Go.ChangeShapes
inductive Sh where
 | int (k : IntKind)
 | bool
 | str
 | slc (agg : Bool) (l : List Sh)
 | own (p : DV → Prop)
mutual
def Sh.dv : Sh → DV → Prop
 | .int k, d => ∃ n, (Lit.int k n).wf = true ∧ d = .con (.int k n)
 | .bool, d => ∃ b, d = .con (.bool b)
 | .str, d => ∃ s : ByteArray, s.size ≤ maxLen ∧ d = .con (.string s)
 | .slc agg l, d => ∃ n f, n ≤ maxLen ∧ d = .slc l.length n f ∧ ∀ i, i < n → (match agg with | true => ∃ es, f i = .agg es ∧ Shs.dv l es | false => Shs.dv l [f i])
 | .own p, d => p d ∧ ∃ sz n f, d = .slc sz n f
def Shs.dv : List Sh → List DV → Prop
 | [], es => es = []
 | s :: l, es => ∃ d es', es = d :: es' ∧ Sh.dv s d ∧ Shs.dv l es'
end
def vdv (agg : Bool) (l : List Sh) (d : DV) : Prop := match agg with | true => ∃ es, d = .agg es ∧ Shs.dv l es | false => Shs.dv l [d]
def fsShapes (P : Program) (r : TypeId → Option (List Sh)) : List Field → Nat → Option (List Sh × Nat)
 | [], off => some ([], off)
 | f :: fs, off => match Nat.beq f.offset off, r f.type with
  | true, some l => match Nat.beq l.length (P.cellsOf f.type), fsShapes P r fs (off + P.cellsOf f.type) with
   | true, some (m, e) => some (l ++ m, e)
   | _, _ => none
  | _, _ => none
def cellShapes (P : Program) (ow : TypeId → Option (DV → Prop)) : Nat → TypeId → Option (List Sh)
 | 0, _ => none
 | n + 1, t => match ow t with
  | some p => some [.own p]
  | none => match P.underlying t with
  | some .bool => some [.bool]
  | some (.int k) => some [.int k]
  | some .string => some [.str]
  | some (.slice e) => match cellShapes P ow n e with
   | some l => match Nat.beq l.length (P.cellsOf e) && (Nat.blt 0 l.length && (aggT P e || Nat.beq l.length 1)) with
    | true => some [.slc (aggT P e) l]
    | false => none
   | none => none
  | some (.struct fs) => match fsShapes P (cellShapes P ow n) fs.toList 0 with
   | some (l, e) => match Nat.beq e (P.cellsOf t) with | true => some l | false => none
   | none => none
  | _ => none
theorem Shs.append : ∀ {a b : List Sh} {u v : List DV}, Shs.dv a u → Shs.dv b v → Shs.dv (a ++ b) (u ++ v)
 | [], _, u, _, ha, hb => by simp only [Shs.dv] at ha; subst ha; exact hb
 | _ :: a, _, _, _, ⟨x, u', e, r, rs⟩, hb => by subst e; exact ⟨x, _, rfl, r, Shs.append rs hb⟩
theorem Shs.length : ∀ {a : List Sh} {u : List DV}, Shs.dv a u → u.length = a.length
 | [], u, h => by simp only [Shs.dv] at h; subst h; rfl
 | _ :: a, _, ⟨x, u', e, r, rs⟩ => by subst e; simp [Shs.length rs]
theorem Sh.cells {s : Sh} {d : DV} {h : IH} {v : Value} (hs : s.dv d) (hv : d.rel h v) : v.cells = #[v] := by
 cases s with
 | int k => obtain ⟨n, _, rfl⟩ := hs; simp only [DV.rel] at hv; subst hv; rfl
 | bool => obtain ⟨n, rfl⟩ := hs; simp only [DV.rel] at hv; subst hv; rfl
 | str => obtain ⟨n, _, rfl⟩ := hs; simp only [DV.rel] at hv; subst hv; rfl
 | slc agg l => obtain ⟨n, f, _, rfl, _⟩ := hs; obtain ⟨p, cap, e, _⟩ := hv; subst e; rfl
 | own p => obtain ⟨_, sz, n, f, rfl⟩ := hs; obtain ⟨p, cap, e, _⟩ := hv; subst e; rfl
section
variable {H : Type} {enc : TypeId × Value → H} {P : Program} {W : World} {base : Nat} {sp : Nat → Bool} {held : Bool}
variable {ow : TypeId → Option (DV → Prop)}
def Fine (P : Program) (t : TypeId) (d : DataW H) : Prop := ∀ w ∈ DataW.weights P t d, w ≤ reachBytes
theorem fine_all {e : TypeId} : ∀ {l : List (DataW H)}, (∀ w ∈ DataW.weightsAll P e l, w ≤ reachBytes) → ∀ d ∈ l, Fine P e d
 | x :: l, h, d, hd => by
  simp only [DataW.weightsAll, List.mem_append] at h
  rcases List.mem_cons.1 hd with rfl | hd
  ·exact fun w hw => h w (.inl hw)
  ·exact fine_all (fun w hw => h w (.inr hw)) d hd
theorem fine_each : ∀ {ts : List TypeId} {l : List (DataW H)}, (∀ w ∈ DataW.weightsEach P ts l, w ≤ reachBytes) → ∀ (i : Nat) (t : TypeId) (d : DataW H), ts[i]? = some t → l[i]? = some d → Fine P t d
 | [], _, _, i, t, d, h1, _ => by simp at h1
 | _ :: _, [], _, i, t, d, _, h2 => by simp at h2
 | t0 :: ts, d0 :: l, h, i, t, d, h1, h2 => by
  simp only [DataW.weightsEach, List.mem_append] at h
  cases i with
  | zero =>
   simp only [List.getElem?_cons_zero, Option.some.injEq] at h1 h2
   subst h1; subst h2
   exact fun w hw => h w (.inl hw)
  | succ i => exact fine_each (fun w hw => h w (.inr hw)) i t d (by simpa using h1) (by simpa using h2)
def How (ow : TypeId → Option (DV → Prop)) (enc : TypeId × Value → H) (P : Program) (W : World) (base : Nat) (sp : Nat → Bool) (held : Bool) : Prop :=
 ∀ (t : TypeId) (p : DV → Prop) (m : Nat) (cs : List Value) (x : DataW H × List MemPlace), ow t = some p → DataW.trod enc P W base sp held m t cs = some x → Fine P t x.1 → ∃ d, Sh.dv (.own p) d ∧ DV.rels (allOf W) [d] cs
theorem fsShapes_le {r : TypeId → Option (List Sh)} : ∀ {fs : List Field} {off e : Nat} {l : List Sh}, fsShapes P r fs off = some (l, e) → off ≤ e
 | [], off, e, l, h => by simp only [fsShapes, Option.some.injEq, Prod.mk.injEq] at h; omega
 | f :: fs, off, e, l, h => by
  simp only [fsShapes] at h
  split at h
  ·split at h
   ·rename_i m e' _ h2
    simp only [Option.some.injEq, Prod.mk.injEq] at h
    have := fsShapes_le h2
    omega
   ·cases h
  ·cases h
theorem open_fields {r : TypeId → Option (List Sh)} {cs : List Value}
  (hr : ∀ (t : TypeId) (l : List Sh) (m : Nat) (cs' : List Value) (x : DataW H × List MemPlace), r t = some l → DataW.trod enc P W base sp held m t cs' = some x → Fine P t x.1 → ∃ es, Shs.dv l es ∧ DV.rels (allOf W) es cs') :
  ∀ {fs : List Field} {off e : Nat} {l : List Sh}, fsShapes P r fs off = some (l, e) → (∀ f ∈ fs, ∃ m y, DataW.trod enc P W base sp held m f.type ((cs.drop f.offset).take (P.cellsOf f.type)) = some y ∧ Fine P f.type y.1) →
   ∃ es, Shs.dv l es ∧ DV.rels (allOf W) es ((cs.drop off).take (e - off))
 | [], off, e, l, h, _ => by
  simp only [fsShapes, Option.some.injEq, Prod.mk.injEq] at h
  obtain ⟨rfl, rfl⟩ := h
  exact ⟨[], rfl, by simp [DV.rels]⟩
 | f :: fs, off, e, l, h, hf => by
  simp only [fsShapes] at h
  split at h
  ·rename_i l0 ho hr0
   split at h
   ·rename_i m e' hc h2
    simp only [Option.some.injEq, Prod.mk.injEq] at h
    obtain ⟨rfl, rfl⟩ := h
    have ho := Nat.eq_of_beq_eq_true ho
    obtain ⟨k, y, hy, hyf⟩ := hf f (List.mem_cons_self ..)
    obtain ⟨d1, a1, b1⟩ := hr _ _ _ _ _ hr0 hy hyf
    obtain ⟨d2, a2, b2⟩ := open_fields hr h2 fun g hg => hf g (List.mem_cons_of_mem _ hg)
    have hle := fsShapes_le h2
    refine ⟨d1 ++ d2, Shs.append a1 a2, ?_⟩
    have := DV.rels.append b1 b2
    rw [ho] at this
    rw [show (cs.drop off).take (e' - off) = (cs.drop off).take (P.cellsOf f.type) ++ (cs.drop (off + P.cellsOf f.type)).take (e' - (off + P.cellsOf f.type)) from by
     rw [show e' - off = P.cellsOf f.type + (e' - (off + P.cellsOf f.type)) by omega, List.take_add, List.drop_drop]]
    exact this
   ·cases h
  ·cases h
theorem open_cells (how : How ow enc P W base sp held) : ∀ {n : Nat} {t : TypeId} {l : List Sh} {m : Nat} {cs : List Value} {x : DataW H × List MemPlace}, cellShapes P ow n t = some l → DataW.trod enc P W base sp held m t cs = some x → Fine P t x.1 →
  ∃ es, Shs.dv l es ∧ DV.rels (allOf W) es cs
 | 0, _, _, _, _, _, h, _, _ => by simp [cellShapes] at h
 | n + 1, t, l, m, cs, x, h, hx, hfi => by
  simp only [cellShapes] at h
  split at h
  ·rename_i p hp
   simp only [Option.some.injEq] at h; subst h
   obtain ⟨d, h1, h2⟩ := how t p m cs x hp hx hfi
   exact ⟨[d], ⟨_, _, rfl, h1, rfl⟩, h2⟩
  split at h
  ·rename_i ht
   obtain ⟨b, rfl, rfl⟩ := DataW.trod_bool ht hx
   simp only [Option.some.injEq] at h; subst h
   exact ⟨[.con (.bool b)], ⟨_, _, rfl, ⟨b, rfl⟩, rfl⟩, ⟨_, _, rfl, rfl, rfl⟩⟩
  ·rename_i k ht
   obtain ⟨b, rfl, rfl, hw⟩ := DataW.trod_int ht hx
   simp only [Option.some.injEq] at h; subst h
   exact ⟨[.con (.int k b)], ⟨_, _, rfl, ⟨b, hw, rfl⟩, rfl⟩, ⟨_, _, rfl, rfl, rfl⟩⟩
  ·rename_i ht
   obtain ⟨b, rfl, rfl, hw⟩ := DataW.trod_string ht hx
   simp only [Option.some.injEq] at h; subst h
   exact ⟨[.con (.string b)], ⟨_, _, rfl, ⟨b, hw, rfl⟩, rfl⟩, ⟨_, _, rfl, rfl, rfl⟩⟩
  ·rename_i e ht
   split at h
   ·rename_i l' hl'
    split at h
    ·rename_i hc
     simp only [Bool.and_eq_true, Nat.beq_eq, Bool.or_eq_true, Nat.blt_eq] at hc
     simp only [Option.some.injEq] at h; subst h
     rcases Go.Deep.open_slice ht hx with ⟨rfl, rfl⟩ | ⟨a, len, cap, mm, n', D, Pl, rfl, hb, hlc, hcap, hmm, rfl, hel⟩
     ·refine ⟨[.slc l'.length 0 fun _ => .con undef], ⟨_, _, rfl, ⟨0, _, Nat.zero_le _, rfl, fun i hi => absurd hi (by omega)⟩, rfl⟩, ⟨_, _, rfl, ⟨none, 0, rfl, Nat.le_refl _, .inl rfl⟩, rfl⟩⟩
     ·have hlm : len ≤ mm := by rw [hmm]; split <;> omega
      have helf : ∀ i, i < len → Fine P e (D i) := fun i hi => by
       unfold Fine at hfi
       simp only [DataW.weights, ht, List.mem_cons, List.mem_append] at hfi
       exact fine_all (fun w hw => hfi w (.inr (.inl hw))) _ (List.mem_map.2 ⟨i, List.mem_range.2 hi, rfl⟩)
      have hspot : 0 < len → a.spot = none := by
       intro hpos
       obtain ⟨cs', h1, _⟩ := hel 0 (by omega)
       obtain ⟨_, h5, h6⟩ := World.cells?_some h1
       have := h6 0 (by omega)
       rw [Nat.zero_mul, List.getElem?_eq_getElem (by omega)] at this
       simp only [World.cell?, Addr.add, if_true] at this
       split at this
       ·split at this
        ·cases this
        ·rename_i hsp; simpa using hsp
       ·cases this
      have hadd : 0 < len → ∀ k, a.add k = ⟨a.block, a.off + k, none⟩ := by
       intro hpos k
       have := hspot hpos
       unfold Addr.add
       split
       ·rename_i hk; subst hk; cases a; simp_all
       ·rfl
      have each : ∀ i, i < len → ∃ d : DV, (match aggT P e with | true => ∃ es, d = .agg es ∧ Shs.dv l' es | false => Shs.dv l' [d]) ∧ ∃ v, DV.rel (allOf W) d v ∧ v.cells.size = l'.length ∧ ∀ j, j < l'.length → W.cell? ⟨a.block, a.off + i * l'.length + j, none⟩ = v.cells[j]? := by
       intro i hi
       obtain ⟨cs', h1, h2⟩ := hel i (by omega)
       obtain ⟨es, h3, h4⟩ := open_cells how hl' h2 (helf i hi)
       obtain ⟨_, h5, h6⟩ := World.cells?_some h1
       have hsz : cs'.length = l'.length := by rw [h5, hc.1]
       have hat : ∀ j, j < l'.length → W.cell? ⟨a.block, a.off + i * l'.length + j, none⟩ = cs'[j]? := by
        intro j hj
        rw [← h6 j (by omega), hadd (by omega), hc.1]
        congr 1
        unfold Addr.add
        split
        ·rename_i hk; subst hk; rfl
        ·rfl
       cases hag : aggT P e with
       | true => exact ⟨.agg es, ⟨es, rfl, h3⟩, .agg cs'.toArray, ⟨cs', rfl, h4⟩, by simp [Value.cells, hsz], fun j hj => by rw [hat j hj]; simp [Value.cells]⟩
       | false =>
        have h1' : l'.length = 1 := by rcases hc.2.2 with h | h
                                       ·rw [hag] at h; cases h
                                       ·exact h
        match l', cs', es, h1', hsz, h3, h4, hat with
        | [s], [c], es, _, _, h3, h4, hat =>
         obtain ⟨d, es', e1, h3, e2⟩ := h3
         simp only [Shs.dv] at e2; subst e2; subst e1
         obtain ⟨v, vs', e3, h4, e4⟩ := h4
         injection e3 with e3 _; subst e3
         have hcell := Sh.cells h3 h4
         refine ⟨d, ⟨_, _, rfl, h3, rfl⟩, c, h4, by rw [hcell]; rfl, fun j hj => ?_⟩
         rw [hat j hj, hcell]; simp
      refine ⟨[.slc l'.length len fun i => if h : i < len then Classical.choose (each i h) else .con undef], ⟨_, _, rfl, ⟨len, _, Nat.le_trans hlc hcap, rfl, fun i hi => ?_⟩, rfl⟩, ⟨_, _, rfl, ⟨some a, cap, rfl, hlc, ?_⟩, rfl⟩⟩
      ·simp only [dif_pos hi]
       exact (Classical.choose_spec (each i hi)).1
      ·by_cases hz : len = 0
       ·exact .inl hz
       right
       refine ⟨a.block, a.off, by have := hspot (by omega); cases a; simp_all, fun i hi => ?_⟩
       simp only [dif_pos hi]
       obtain ⟨_, v, hv, hsz, hcl⟩ := Classical.choose_spec (each i hi)
       exact ⟨v, hv, hsz, fun j hj => hcl j hj⟩
    ·cases h
   ·cases h
  ·rename_i fs ht
   split at h
   ·rename_i l' e hl'
    split at h
    ·rename_i he
     simp only [Option.some.injEq] at h; subst h
     have he := Nat.eq_of_beq_eq_true he
     obtain ⟨xs, n', rfl, rfl, hlen, hxl, hf⟩ := DataW.trod_struct ht hx
     obtain ⟨es, h1, h2⟩ := open_fields (cs := cs) (fun t l m cs' x h1 h2 h3 => open_cells how h1 h2 h3) hl' fun f hf' => by
      obtain ⟨i, hi⟩ := List.mem_iff_getElem?.1 hf'
      have hi' : fs[i]? = some f := by simpa using hi
      have := hf i f hi'
      have hlt : i < xs.length := by
       rw [hxl]; exact (Array.getElem?_eq_some_iff.1 hi').1
      refine ⟨n', xs[i], by rw [this]; simp [hlt], ?_⟩
      unfold Fine at hfi
      simp only [DataW.weights, ht] at hfi
      exact fine_each hfi i f.type xs[i].1 (by simp [hi']) (by simp [hlt])
     refine ⟨es, h1, ?_⟩
     rw [List.drop_zero, Nat.sub_zero, he, ← hlen, List.take_length] at h2
     exact h2
    ·cases h
   ·cases h
  ·cases h
theorem open_val {n : Nat} {t : TypeId} {l : List Sh} {b0 : Nat} {v : Value} {d : DataW H} {p : List MemPlace} (how : How ow enc P W base sp held) (hno : ow t = none) (hs : cellShapes P ow n t = some l) (hl : (aggT P t || Nat.beq l.length 1) = true)
  (hv : Value.okWide P W .any b0 t v) (h : DataW.Trod enc P W base sp held t v d p) (hfi : Fine P t d) : ∃ x : DV, vdv (aggT P t) l x ∧ x.rel (allOf W) v := by
 obtain ⟨m, hm⟩ := h
 obtain ⟨es, h1, h2⟩ := open_cells how hs hm hfi
 cases ha : aggT P t with
 | true =>
  have : ∃ cs, v = .agg cs := by
   unfold aggT at ha
   unfold Value.okWide at hv
   split at ha
   ·rename_i fs hu; rw [hu] at hv; obtain ⟨cs, e, _⟩ := hv; exact ⟨cs, e⟩
   ·rename_i k e hu; rw [hu] at hv; obtain ⟨cs, e, _⟩ := hv; exact ⟨cs, e⟩
   ·cases ha
  obtain ⟨cs, rfl⟩ := this
  exact ⟨.agg es, ⟨es, rfl, h1⟩, ⟨cs.toList, by simp, by simpa [Value.cells] using h2⟩⟩
 | false =>
  rw [ha] at hl
  simp only [Bool.false_or, Nat.beq_eq] at hl
  match l, hl, h1 with
  | [s], _, h1 =>
   obtain ⟨x, es', e1, k1, e2⟩ := h1
   simp only [Shs.dv] at e2; subst e2; subst e1
   obtain ⟨u, vs', e3, h3, e4⟩ := h2
   simp only [DV.rels] at e4; subst e4
   have hu : u = v := by
    have hcell := Sh.cells k1 h3
    have : v.cells = #[u] := by rw [← Array.toArray_toList (xs := v.cells), e3]
    unfold Value.okWide at hv
    cases n with
    | zero => simp [cellShapes] at hs
    | succ n =>
     have hna : ∀ cs, v ≠ .agg cs := by
      rintro cs rfl
      unfold aggT at ha
      simp only [cellShapes, hno] at hs
      split at hv
      ·rename_i hu2; rw [hu2] at ha; simp at ha
      ·rename_i hu2; rw [hu2] at ha; simp at ha
      ·unfold Cell.okWide Cell.ok at hv
       split at hs <;> rename_i ht <;> simp_all
     cases v <;> first | (simp [Value.cells] at this; exact this.symm) | exact absurd rfl (hna _)
   subst hu
   exact ⟨x, ⟨x, [], rfl, k1, rfl⟩, h3⟩
def argShapes (P : Program) (ow : TypeId → Option (DV → Prop)) : List TypeId → Option (List (Bool × List Sh))
 | [] => some []
 | t :: ts => match cellShapes P ow 8 t, argShapes P ow ts with
  | some l, some r => match (aggT P t || Nat.beq l.length 1) && (P.readableRec t && Nat.blt t P.types.size) && (ow t).isNone with
   | true => some ((aggT P t, l) :: r)
   | false => none
  | _, _ => none
def vdvs : List (Bool × List Sh) → List DV → Prop
 | [], xs => xs = []
 | s :: l, xs => ∃ x xs', xs = x :: xs' ∧ vdv s.1 s.2 x ∧ vdvs l xs'
theorem open_all (how : How ow enc P W 0 sp held) : ∀ {ts : List TypeId} {shs : List (Bool × List Sh)} {us : List Value} {es : List (DataW H)} {ps : List MemPlace}, argShapes P ow ts = some shs → (∀ (j : Nat) t v, ts[j]? = some t → us[j]? = some v → Value.okWide P W .any base t v) →
  DataW.TrodAll enc P W 0 sp held ts us es ps → (∀ w ∈ DataW.weightsEach P ts es, w ≤ reachBytes) → ∃ xs : List DV, vdvs shs xs ∧ DV.rels (allOf W) xs us
 | [], shs, us, es, ps, h, _, ht, _ => by
  simp only [argShapes, Option.some.injEq] at h; subst h
  obtain ⟨rfl, _, _⟩ := trodAll_nil ht
  exact ⟨[], rfl, rfl⟩
 | t :: ts, shs, us, es, ps, h, hv, ht, hwt => by
  match us, es, ht, hwt with
  | v :: us, e :: es, ⟨p, q, h1, h2, _⟩, hwt =>
   simp only [argShapes] at h
   split at h
   ·rename_i l r hl hr
    split at h
    ·rename_i hc
     simp only [Bool.and_eq_true, Option.isNone_iff_eq_none] at hc
     simp only [Option.some.injEq] at h; subst h
     simp only [DataW.weightsEach, List.mem_append] at hwt
     obtain ⟨x, a1, a2⟩ := open_val how hc.2 hl hc.1.1 (hv 0 t v rfl rfl) h1 (fun w hw => hwt w (.inl hw))
     obtain ⟨xs, b1, b2⟩ := open_all how hr (fun j t' v' h3 h4 => hv (j + 1) t' v' (by simpa using h3) (by simpa using h4)) h2 (fun w hw => hwt w (.inr hw))
     exact ⟨x :: xs, ⟨_, _, rfl, a1, b1⟩, ⟨_, _, rfl, a2, b2⟩⟩
    ·cases h
   ·cases h
theorem stays_all (hl : laidOutB P = true) {W' : World} (hb : Below W.heap.size W W') : ∀ {ts : List TypeId} {shs : List (Bool × List Sh)} {us : List Value} {es : List (DataW H)} {ps : List MemPlace}, argShapes P ow ts = some shs →
  (∀ x ∈ ps, x.block < W.heap.size) → DataW.TrodAll enc P W 0 (fun _ => true) true ts us es ps → DataW.TrodAll enc P W' 0 (fun b => decide (b < W.heap.size)) true ts us es ps
 | [], shs, us, es, ps, _, _, ht => by obtain ⟨rfl, rfl, rfl⟩ := trodAll_nil ht; exact trodAll_mk0
 | t :: ts, shs, us, es, ps, h, hlt, ht => by
  match us, es, ht with
  | v :: us, e :: es, ⟨p, q, h1, h2, hp⟩ =>
   simp only [argShapes] at h
   split at h
   ·rename_i l r hl' hr
    split at h
    ·rename_i hc
     simp only [Bool.and_eq_true, Nat.blt_eq] at hc
     subst hp
     exact ⟨p, q, Below.trod hl hc.1.2.1 hc.1.2.2 h1 hb (fun x hx => hlt x (List.mem_append_left _ hx)), stays_all hl hb hr (fun x hx => hlt x (List.mem_append_right _ hx)) h2, rfl⟩
    ·cases h
   ·cases h
theorem trodAll_length : ∀ {ts : List TypeId} {us : List Value} {es : List (DataW H)} {ps : List MemPlace}, DataW.TrodAll enc P W base sp held ts us es ps → es.length = ts.length
 | [], us, es, ps, ht => by obtain ⟨_, rfl, _⟩ := trodAll_nil ht; rfl
 | t :: ts, us, es, ps, ht => by
  match us, es, ht with
  | v :: us, e :: es, ⟨p, q, h1, h2, hp⟩ => simp [trodAll_length h2]
theorem law_row {f : FuncId} {fn : Func} {spec : ChangeSpec} {laid : List (String × DataW Unit)} {tb : TypeId} {shs : List (Bool × List Sh)} (hlo : laidOutB P = true) (hr : fn.resultTypes = #[tb]) (htb : P.underlying tb = some .bool) (hvars : spec.vars = [])
  (hfn : ∀ es : List (DataW H), es.length = fn.params.toList.length → spec.fn H es = { results := [.lit (.bool true)], args := es }) (hsh : argShapes P ow fn.params.toList = some shs)
  (how : ∀ (W : World) (sp : Nat → Bool) (held : Bool), How ow enc P W 0 sp held)
  (hlaw : ∀ (W : World), laidMetH P laid W → ∀ xs, vdvs shs xs → FnOK P (allOf W) f xs (.con (.bool true))) :
  ∀ (W : World) (base : Nat) (args : Array Value) (es gs : List (DataW H)) (before : List MemPlace),
   (∀ (j : Nat) t v, fn.params[j]? = some t → args[j]? = some v → Value.okWide P W .any base t v) →
   DataW.Whole enc P fn.params.toList spec.vars false W args.toList es gs before → (DataW.weightsEach P (fn.params.toList ++ spec.plain.varTypes P) (es ++ gs)).all (· ≤ reachBytes) = true → laidMetH P laid W →
   Calls P f args W fun e W' => ∃ v, e = .returned v ∧ spec.post enc P fn false true false false W args v W' := by
 intro W base args es gs before hval hW hwt hL
 have hW' := hW
 obtain ⟨p, q, hA, hV, rfl, hfz, hnd⟩ := hW
 rw [hvars] at hV
 obtain ⟨rfl, rfl⟩ := trodVars_none hV
 have hwe : ∀ w ∈ DataW.weightsEach P fn.params.toList es, w ≤ reachBytes := fun w hw => by
  have hl := trodAll_length hA
  have key : ∀ {ts : List TypeId} {l : List (DataW H)} (us : List TypeId), l.length = ts.length → ∀ w ∈ DataW.weightsEach P ts l, w ∈ DataW.weightsEach P (ts ++ us) (l ++ []) := by
   intro ts
   induction ts with
   | nil => intro l us hl w hw; simp [DataW.weightsEach] at hw
   | cons t ts ih =>
    intro l us hl w hw
    match l, hl with
    | d :: l, hl =>
     simp only [DataW.weightsEach, List.mem_append, List.cons_append] at hw ⊢
     rcases hw with hw | hw
     ·exact .inl hw
     ·exact .inr (ih us (by simpa using hl) w hw)
  have := List.all_eq_true.1 hwt w (key _ hl w hw)
  simpa using this
 obtain ⟨xs, hx, hrel⟩ := open_all (how W _ _) hsh (fun j t v h1 h2 => hval j t v (by simpa using h1) (by simpa using h2)) hA hwe
 have hlt : ∀ x ∈ p, x.block < W.heap.size := fun x hx => by simpa using hW'.lt x (by simpa using hx)
 have hc := (hlaw W hL xs hx).2 W (allOf W) args.toList (IH.le.refl _) (allOf_holds W) hrel
 simp only [Array.toArray_toList] at hc
 refine Calls.mono hc ?_
 rintro e W' ⟨v, h', he, hv, -, -, hk, -⟩
 simp only [DV.rel] at hv
 subst hv; subst he
 have hbelow : Below W.heap.size W W' := ⟨hk.os, hk.tape, hk.output, hk.size, fun k hk' => hk.block k hk' (fun h => h)⟩
 have hlen := trodAll_length hA
 refine ⟨_, rfl, es, [], p ++ [], [], p, [], by rw [hvars]; simpa [hvars] using hW', ?_, ?_, ?_, hbelow.frame _, fun h => by cases h⟩
 ·rw [List.append_nil, hfn es hlen, hr]; exact trodAll_mk1 (shut_bool htb true)
 ·rw [List.append_nil, hfn es hlen]; exact stays_all hlo hbelow hsh hlt hA
 ·rw [List.append_nil, hfn es hlen, hvars]; rfl
end
end Go.AbW
/- Expressions that are read from memory. -/
namespace Go.Proofs
open Go Go.Ab Go.RowKit Go.ChangeShapes
set_option maxRecDepth 100000
theorem lift_rel : ∀ (m m' : Nat) (x : Ex), ht x ≤ m → ht x ≤ m' → ∀ (k : IH) (v : Value), DV.rel k (exD m x) v → DV.rel k (exD m' x) v := by
 intro m
 induction m with
 | zero =>
  intro m' x h1 h2 k v h
  have hk : x.kids = [] := by
   refine Classical.byContradiction fun hh => ?_
   have : 0 < x.kids.length := List.length_pos_iff.2 hh
   have := ht_kid this
   omega
  unfold exD exV at h ⊢
  rw [hk] at h ⊢
  obtain ⟨us, rfl, x1, u1, rfl, h1, x2, u2, rfl, h2, x3, u3, rfl, h3, x4, u4, rfl, h4, x5, u5, rfl, h5, x6, u6, rfl, h6, h0⟩ := h
  exact ⟨_, rfl, x1, _, rfl, h1, x2, _, rfl, h2, x3, _, rfl, h3, x4, _, rfl, h4, x5, _, rfl, h5, x6, _, rfl, DV.rel_slc_congr (fun i hi => absurd hi (by simp)) h6, h0⟩
 | succ m ih =>
  intro m' x h1 h2 k v h
  obtain ⟨us, rfl, x1, u1, rfl, g1, x2, u2, rfl, g2, x3, u3, rfl, g3, x4, u4, rfl, g4, x5, u5, rfl, g5, x6, u6, rfl, g6, h0⟩ := h
  refine ⟨_, rfl, x1, _, rfl, g1, x2, _, rfl, g2, x3, _, rfl, g3, x4, _, rfl, g4, x5, _, rfl, g5, x6, _, rfl, ?_, h0⟩
  obtain ⟨p, cap, e, hc, r⟩ := g6
  refine ⟨p, cap, e, hc, r.imp id fun ⟨b, off, hp, r⟩ => ⟨b, off, hp, fun i hi => ?_⟩⟩
  obtain ⟨v, hv, hs, hj⟩ := r i hi
  have hki := ht_kid (x := x) hi
  obtain ⟨m2, rfl⟩ : ∃ m2, m' = m2 + 1 := ⟨m' - 1, by omega⟩
  exact ⟨v, ih m2 (x.kids.getD i ex0) (by omega) (by omega) k v hv, hs, hj⟩
theorem htL_le {l : List Ex} {n : Nat} (h : ∀ i, i < l.length → ht (l.getD i ex0) + 1 ≤ n) : htL l ≤ n := by
 induction l with
 | nil => simp [htL]
 | cons x l ih =>
  simp only [htL]
  have h0 := h 0 (by simp)
  have := ih fun i hi => by simpa using h (i + 1) (by simpa using hi)
  have h0 : ht x + 1 ≤ n := h0
  omega
theorem wfL_of {l : List Ex} (h : ∀ i, i < l.length → wfE (l.getD i ex0)) : wfL l := by
 induction l with
 | nil => trivial
 | cons x l ih => exact ⟨h 0 (by simp), ih fun i hi => by simpa using h (i + 1) (by simpa using hi)⟩
theorem max_of (f : Nat → Nat) : ∀ n : Nat, ∃ M, ∀ i, i < n → f i ≤ M
 | 0 => ⟨0, fun i hi => by omega⟩
 | n + 1 => by
  obtain ⟨M, h⟩ := max_of f n
  refine ⟨max M (f n), fun i hi => ?_⟩
  rcases Nat.lt_or_ge i n with h1 | h1
  ·have := h i h1; omega
  ·obtain rfl : i = n := by omega
   omega
theorem cells26 : Tryz.prog.cellsOf 26 = 6 := by kernel_rfl
theorem bytes26 : Tryz.prog.bytesOf 26 = 72 := by kernel_rfl
theorem cells23 : Tryz.prog.cellsOf 23 = 2 := by kernel_rfl
theorem cells3 : Tryz.prog.cellsOf 3 = 1 := by kernel_rfl
theorem cells9 : Tryz.prog.cellsOf 9 = 1 := by kernel_rfl
theorem cells24 : Tryz.prog.cellsOf 24 = 1 := by kernel_rfl
def kidsP (d : DV) : Prop := ∃ (l : List Ex) (k : Nat), htL l ≤ k ∧ wfL l ∧ l.length ≤ 8796093022208 ∧ d = .slc 6 l.length (lay (exG k) l)
section
variable {H : Type} {enc : TypeId × Value → H} {W : World} {base : Nat} {sp : Nat → Bool} {held : Bool}
theorem open_node {n : Nat} {cs : List Value} {x : DataW H × List MemPlace} (h : DataW.trod enc Tryz.prog W base sp held n 26 cs = some x) (hf : AbW.Fine Tryz.prog 26 x.1) :
  ∃ (k n d a : Int) (s : ByteArray) (v : Value) (n' : Nat) (y : DataW H × List MemPlace), s.size ≤ maxLen ∧ cs = [.int .i64 k, .string s, .int .i64 n, .int .i64 d, .int .i64 a, v] ∧
   DataW.trod enc Tryz.prog W base sp held n' 24 [v] = some y ∧ AbW.Fine Tryz.prog 24 y.1 ∧ SizeOf.sizeOf y.1 < SizeOf.sizeOf x.1 := by
 obtain ⟨xs, n', rfl, rfl, hl, hxl, hfl⟩ := DataW.trod_struct Tryz.underlying26 h
 have hxl : xs.length = 5 := hxl
 match xs, hxl with
 | [y0, y1, y2, y3, y4], _ =>
  have e0 := hfl 0 _ rfl
  have e1 := hfl 1 _ rfl
  have e2 := hfl 2 _ rfl
  have e3 := hfl 3 _ rfl
  have e4 := hfl 4 _ rfl
  simp only [List.getElem?_cons_zero, List.getElem?_cons_succ] at e0 e1 e2 e3 e4
  rw [cells26] at hl
  erw [cells3] at e0 e3
  erw [cells9] at e1
  erw [cells23] at e2
  erw [cells24] at e4
  match cs, hl with
  | [c0, c1, c2, c3, c4, c5], _ =>
   have e0 : DataW.trod enc Tryz.prog W base sp held n' 3 [c0] = some y0 := e0
   have e1 : DataW.trod enc Tryz.prog W base sp held n' 9 [c1] = some y1 := e1
   have e2 : DataW.trod enc Tryz.prog W base sp held n' 23 [c2, c3] = some y2 := e2
   have e3 : DataW.trod enc Tryz.prog W base sp held n' 3 [c4] = some y3 := e3
   have e4 : DataW.trod enc Tryz.prog W base sp held n' 24 [c5] = some y4 := e4
   obtain ⟨k, h0, _, _⟩ := DataW.trod_int Tryz.underlying3 e0
   obtain ⟨s, h1, _, hs⟩ := DataW.trod_string Tryz.underlying9 e1
   obtain ⟨z0, z1, m2, _, _, f0, f1⟩ := trod_struct2 Tryz.underlying23 e2
   erw [cells3] at f0 f1
   have f0 : DataW.trod enc Tryz.prog W base sp held m2 3 [c2] = some z0 := f0
   have f1 : DataW.trod enc Tryz.prog W base sp held m2 3 [c3] = some z1 := f1
   obtain ⟨a, g0, _, _⟩ := DataW.trod_int Tryz.underlying3 f0
   obtain ⟨b, g1, _, _⟩ := DataW.trod_int Tryz.underlying3 f1
   obtain ⟨c, h3, _, _⟩ := DataW.trod_int Tryz.underlying3 e3
   simp only [List.cons.injEq, and_true] at h0 h1 g0 g1 h3
   subst h0; subst h1; subst g0; subst g1; subst h3
   refine ⟨k, a, b, c, s, c5, n', y4, hs, rfl, e4, ?_, ?_⟩
   ·have hf' : ∀ w ∈ DataW.weights Tryz.prog 26 (.agg ([y0, y1, y2, y3, y4].map (·.1))), w ≤ reachBytes := hf
    simp only [DataW.weights, Tryz.underlying26] at hf'
    exact AbW.fine_each hf' 4 24 y4.1 rfl rfl
   ·have : y4.1 ∈ [y0, y1, y2, y3, y4].map (·.1) := by simp
    have h2 := List.sizeOf_lt_of_mem this
    show SizeOf.sizeOf y4.1 < SizeOf.sizeOf (DataW.agg ([y0, y1, y2, y3, y4].map (·.1)))
    simp only [DataW.agg.sizeOf_spec]
    omega
theorem open_kids (N : Nat) : ∀ (m : Nat) (cs : List Value) (x : DataW H × List MemPlace), SizeOf.sizeOf x.1 ≤ N → DataW.trod enc Tryz.prog W base sp held m 24 cs = some x → AbW.Fine Tryz.prog 24 x.1 → ∃ d, kidsP d ∧ DV.rels (allOf W) [d] cs := by
 induction N using Nat.strongRecOn with
 | _ N ih =>
 intro m cs x hN hx hfi
 rcases Go.Deep.open_slice Tryz.underlying24 hx with ⟨rfl, rfl⟩ | ⟨a, len, cap, mm, n', D, Pl, rfl, hb, hlc, hcap, hmm, rfl, hel⟩
 ·exact ⟨_, ⟨[], 0, by simp [htL], trivial, by simp, rfl⟩, ⟨_, _, rfl, ⟨none, 0, rfl, Nat.le_refl _, .inl rfl⟩, rfl⟩⟩
 have hlm : len ≤ mm := by rw [hmm]; split <;> omega
 have hfi' : ∀ w ∈ DataW.weights Tryz.prog 24 (.slice ((List.range len).map D) ((List.range (mm - len)).map fun j => D (len + j))), w ≤ reachBytes := hfi
 simp only [DataW.weights, Tryz.underlying24, List.mem_cons, List.mem_append] at hfi'
 have helf : ∀ i, i < len → AbW.Fine Tryz.prog 26 (D i) := fun i hi =>
  AbW.fine_all (fun w hw => hfi' w (.inr (.inl hw))) _ (List.mem_map.2 ⟨i, List.mem_range.2 hi, rfl⟩)
 have hlen : len ≤ 8796093022208 := by
  have := hfi' _ (.inl rfl)
  rw [bytes26] at this
  simp only [List.length_map, List.length_range, reachBytes] at this
  omega
 have hspot : 0 < len → a.spot = none := by
  intro hpos
  obtain ⟨cs', h1, _⟩ := hel 0 (by omega)
  obtain ⟨_, h5, h6⟩ := World.cells?_some h1
  have c26 := cells26
  have := h6 0 (by show 0 < Tryz.prog.cellsOf 26; omega)
  rw [Nat.zero_mul, List.getElem?_eq_getElem (by rw [h5, cells26]; omega)] at this
  simp only [World.cell?, Addr.add, if_true] at this
  split at this
  ·split at this
   ·cases this
   ·rename_i hsp; simpa using hsp
  ·cases this
 have hadd : 0 < len → ∀ k, a.add k = ⟨a.block, a.off + k, none⟩ := by
  intro hpos k
  have := hspot hpos
  unfold Addr.add
  split
  ·rename_i hk; subst hk; cases a; simp_all
  ·rfl
 have each : ∀ i, i < len → ∃ (x : Ex) (k : Nat), ht x ≤ k ∧ wfE x ∧ ∃ v, DV.rel (allOf W) (exD k x) v ∧ v.cells.size = 6 ∧ ∀ j, j < 6 → W.cell? ⟨a.block, a.off + i * 6 + j, none⟩ = v.cells[j]? := by
  intro i hi
  obtain ⟨cs', h1, h2⟩ := hel i (by omega)
  obtain ⟨k, n, d, at', s, v, n2, y, hs, rfl, h3, h4, h5⟩ := open_node h2 (helf i hi)
  have hsz : SizeOf.sizeOf y.1 < N := by
   have hm : D i ∈ (List.range len).map D := List.mem_map.2 ⟨i, List.mem_range.2 hi, rfl⟩
   have h6 := List.sizeOf_lt_of_mem hm
   have h7 : SizeOf.sizeOf (DataW.slice ((List.range len).map D) ((List.range (mm - len)).map fun j => D (len + j))) ≤ N := hN
   simp only [DataW.slice.sizeOf_spec] at h7
   have h5 : SizeOf.sizeOf y.1 < SizeOf.sizeOf (D i) := h5
   omega
  obtain ⟨dk, ⟨l, kk, hh, hw, hll, rfl⟩, hr⟩ := ih _ hsz n2 [v] y (Nat.le_refl _) h3 h4
  obtain ⟨u, us, e1, r1, r2⟩ := hr
  simp only [List.cons.injEq] at e1
  obtain ⟨rfl, rfl⟩ := e1
  obtain ⟨_, h8, h9⟩ := World.cells?_some h1
  rw [cells26] at h9 h1
  refine ⟨.mk k s n d at' l, kk, by rw [ht_eq]; exact hh, ⟨hs, hll, hw⟩, .agg #[.int .i64 k, .string s, .int .i64 n, .int .i64 d, .int .i64 at', v], ?_, rfl, fun j hj => ?_⟩
  ·exact ⟨_, rfl, _, _, rfl, rfl, _, _, rfl, rfl, _, _, rfl, rfl, _, _, rfl, rfl, _, _, rfl, rfl, v, _, rfl, r1, rfl⟩
  ·have := h9 j (by simpa using hj)
   rw [hadd (by omega)] at this
   have e : (⟨a.block, a.off + i * 6, none⟩ : Addr).add j = ⟨a.block, a.off + i * 6 + j, none⟩ := by
    unfold Addr.add
    split
    ·rename_i hk; subst hk; rfl
    ·rfl
   rw [e] at this
   rw [this]
   simp [Value.cells]
 classical
 let X : Nat → Ex := fun i => if h : i < len then Classical.choose (each i h) else ex0
 let K : Nat → Nat := fun i => if h : i < len then Classical.choose (Classical.choose_spec (each i h)) else 0
 have hX : ∀ i, i < len → ht (X i) ≤ K i ∧ wfE (X i) ∧ ∃ v, DV.rel (allOf W) (exD (K i) (X i)) v ∧ v.cells.size = 6 ∧ ∀ j, j < 6 → W.cell? ⟨a.block, a.off + i * 6 + j, none⟩ = v.cells[j]? := fun i hi => by
  simp only [X, K, dif_pos hi]
  exact Classical.choose_spec (Classical.choose_spec (each i hi))
 obtain ⟨M, hM⟩ := max_of K len
 have hlenl : ((List.range len).map X).length = len := by simp
 have hget : ∀ i, i < len → ((List.range len).map X).getD i ex0 = X i := fun i hi => by
  simp [List.getD, List.getElem?_map, List.getElem?_range hi]
 refine ⟨.slc 6 ((List.range len).map X).length (lay (exG (M + 1)) ((List.range len).map X)), ⟨_, M + 1, htL_le fun i hi => ?_, wfL_of fun i hi => ?_, by rw [hlenl]; exact hlen, rfl⟩, ⟨_, _, rfl, ⟨some a, cap, by rw [hlenl], by rw [hlenl]; exact hlc, ?_⟩, rfl⟩⟩
 ·rw [hlenl] at hi
  rw [hget i hi]
  have := (hX i hi).1
  have := hM i hi
  omega
 ·rw [hlenl] at hi
  rw [hget i hi]
  exact (hX i hi).2.1
 ·rw [hlenl]
  by_cases hz : len = 0
  ·exact .inl hz
  right
  refine ⟨a.block, a.off, by have := hspot (by omega); cases a; simp_all, fun i hi => ?_⟩
  obtain ⟨h1, _, v, hv, hs, hc⟩ := hX i hi
  refine ⟨v, ?_, hs, fun j hj => hc j hj⟩
  show DV.rel (allOf W) (exD M (((List.range len).map X).getD i ex0)) v
  rw [hget i hi]
  exact lift_rel _ _ _ h1 (Nat.le_trans h1 (hM i hi)) _ _ hv
def ow24 (t : TypeId) : Option (DV → Prop) := match Nat.beq t 24 with | true => some kidsP | false => none
theorem how24 : AbW.How ow24 enc Tryz.prog W base sp held := by
 intro t p m cs x hp hx hf
 unfold ow24 at hp
 split at hp
 ·rename_i h
  obtain rfl := Nat.eq_of_beq_eq_true h
  obtain rfl := Option.some.inj hp
  obtain ⟨d, h1, h2⟩ := open_kids _ m cs x (Nat.le_refl _) hx hf
  obtain ⟨l, k, a, b, c, rfl⟩ := h1
  exact ⟨_, ⟨⟨l, k, a, b, c, rfl⟩, _, _, _, rfl⟩, h2⟩
 ·cases hp
end
open Go Go.Ab Go.RowKit
abbrev fcShW : List AbW.Sh := [.str, .int .i64, .int .i64, .int .i64, .int .i64, .int .i64, .slc false [.str]]
abbrev exShW : List AbW.Sh := [.int .i64, .str, .int .i64, .int .i64, .int .i64, .own kidsP]
theorem facts_ofW {n : Nat} {f : Nat → DV} (hf : ∀ i, i < n → ∃ es, f i = .agg es ∧ AbW.Shs.dv fcShW es) :
  ∃ L : List Fc, L.length = n ∧ (∀ k v, DV.rel k (.slc 7 n f) v → DV.rel k (fcsD L) v) ∧ ∀ i, i < L.length → FcW (L.getD i fc0) := by
 obtain ⟨l, hl, hL⟩ := list_of (p := fun i (x : {x : Fc // FcW x}) => ∀ k v, DV.rel k (f i) v → DV.rel k (fcD x.1) v) ⟨fc0, ⟨by decide, by decide, fun i hi => absurd hi (by simp [fc0])⟩⟩ (fun i hi => by
  obtain ⟨es, h1, _, _, rfl, ⟨a, ha, rfl⟩, _, _, rfl, ⟨b, _, rfl⟩, _, _, rfl, ⟨c, _, rfl⟩, _, _, rfl, ⟨d, _, rfl⟩, _, _, rfl, ⟨e, _, rfl⟩, _, _, rfl, ⟨g, _, rfl⟩, _, _, rfl, ⟨n, f', hn, rfl, hw⟩, rfl⟩ := hf i hi
  obtain ⟨l, hl, hs, hr⟩ := words_of hn hw
  subst hl
  refine ⟨⟨⟨a, b, c, d, e, g, l⟩, ⟨ha, hn, hs⟩⟩, fun k v h => ?_⟩
  rw [h1] at h
  exact fc_rel (fun v => hr k v) h)
 subst hl
 refine ⟨l.map (·.1), List.length_map .., fun k v h => ?_, fun i hi => ?_⟩
 ·unfold fcsD
  rw [List.length_map]
  refine rel_slc_imp (fun i hi v hv => ?_) h
  have := hL i hi k v hv
  unfold fcF
  rw [show (l.map (·.1)).getD i fc0 = (l.getD i ⟨fc0, ⟨by decide, by decide, fun i hi => absurd hi (by simp [fc0])⟩⟩).1 from by rw [List.getD, List.getD, List.getElem?_map, List.getElem?_eq_getElem hi]; rfl]
  exact this
 ·rw [List.length_map] at hi
  rw [show (l.map (·.1)).getD i fc0 = (l.getD i ⟨fc0, ⟨by decide, by decide, fun i hi => absurd hi (by simp [fc0])⟩⟩).1 from by rw [List.getD, List.getD, List.getElem?_map, List.getElem?_eq_getElem hi]; rfl]
  exact (l.getD i _).2
theorem ex_ofW {es : List DV} (h : AbW.Shs.dv exShW es) : ∃ (x : Ex) (m : Nat), ht x ≤ m ∧ wfE x ∧ DV.agg es = exD m x := by
 obtain ⟨_, _, rfl, ⟨k, _, rfl⟩, _, _, rfl, ⟨s, hs, rfl⟩, _, _, rfl, ⟨n, _, rfl⟩, _, _, rfl, ⟨d, _, rfl⟩, _, _, rfl, ⟨a, _, rfl⟩, _, _, rfl, ⟨⟨l, m, hm, hw, hl, rfl⟩, _⟩, rfl⟩ := h
 exact ⟨.mk k s n d a l, m, by rw [ht_eq]; exact hm, ⟨hs, hl, hw⟩, rfl⟩
/-! Facts that are read. -/
abbrev ftShW : List AbW.Sh := [.str, .int .i64, .int .i64, .int .i64, .bool, .str]
theorem fts_ofW {n : Nat} {f : Nat → DV} (hf : ∀ i, i < n → ∃ es, f i = .agg es ∧ AbW.Shs.dv ftShW es) :
  ∃ F : List Ft, F.length = n ∧ ∀ k v, DV.rel k (.slc 6 n f) v → DV.rel k (ftsD F) v := by
 obtain ⟨l, hl, hL⟩ := list_of (p := fun i (x : Ft) => f i = ftD x) ft0 (fun i hi => by
  obtain ⟨es, h1, _, _, rfl, ⟨a, _, rfl⟩, _, _, rfl, ⟨b, _, rfl⟩, _, _, rfl, ⟨c, _, rfl⟩, _, _, rfl, ⟨d, _, rfl⟩, _, _, rfl, ⟨e, rfl⟩, _, _, rfl, ⟨g, _, rfl⟩, rfl⟩ := hf i hi
  exact ⟨⟨a, b, c, d, e, g⟩, h1⟩)
 subst hl
 refine ⟨l, rfl, fun k v h => ?_⟩
 refine DV.rel_slc_congr (fun i hi => ?_) h
 rw [hL i hi]; rfl
end Go.Proofs
