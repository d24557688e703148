import Derived.Test.YtpognhmelecaoaaGreatDoorAcD
import GoSem.ClaimJoined
import Derived.Carry
import Derived.ChangeShapes
import Derived.ChangeArms
import Derived.Deep.Slices
import Derived.LaidMore
set_option autoImplicit false
namespace Go.AbW
open Go Go.Ab Go.RowKit Go.ChangeShapes
inductive Sh where
  | int (k : IntKind)
  | bool
  | str
  | slc (agg : Bool) (l : List Sh)
  | own (p : DV → Prop)
mutual
def Sh.dv : Sh → DV → Prop
  | .int k, d => ∃ n, (Lit.int k n).wf = true ∧ d = .con (.int k n)
  | .bool, d => ∃ b, d = .con (.bool b)
  | .str, d => ∃ s : ByteArray, s.size ≤ maxLen ∧ d = .con (.string s)
  | .slc agg l, d => ∃ n f, n ≤ maxLen ∧ d = .slc l.length n f ∧ ∀ i, i < n → (match agg with | true => ∃ es, f i = .agg es ∧ Shs.dv l es | false => Shs.dv l [f i])
  | .own p, d => p d ∧ ∃ sz n f, d = .slc sz n f
def Shs.dv : List Sh → List DV → Prop
  | [], es => es = []
  | s :: l, es => ∃ d es', es = d :: es' ∧ Sh.dv s d ∧ Shs.dv l es'
end
def vdv (agg : Bool) (l : List Sh) (d : DV) : Prop := match agg with | true => ∃ es, d = .agg es ∧ Shs.dv l es | false => Shs.dv l [d]
def fsShapes (P : Program) (r : TypeId → Option (List Sh)) : List Field → Nat → Option (List Sh × Nat)
  | [], off => some ([], off)
  | f :: fs, off => match Nat.beq f.offset off, r f.type with
    | true, some l => match Nat.beq l.length (P.cellsOf f.type), fsShapes P r fs (off + P.cellsOf f.type) with
      | true, some (m, e) => some (l ++ m, e)
      | _, _ => none
    | _, _ => none
def cellShapes (P : Program) (ow : TypeId → Option (DV → Prop)) : Nat → TypeId → Option (List Sh)
  | 0, _ => none
  | n + 1, t => match ow t with
   | some p => some [.own p]
   | none => match P.underlying t with
    | some .bool => some [.bool]
    | some (.int k) => some [.int k]
    | some .string => some [.str]
    | some (.slice e) => match cellShapes P ow n e with
      | some l => match Nat.beq l.length (P.cellsOf e) && (Nat.blt 0 l.length && (aggT P e || Nat.beq l.length 1)) with
        | true => some [.slc (aggT P e) l]
        | false => none
      | none => none
    | some (.struct fs) => match fsShapes P (cellShapes P ow n) fs.toList 0 with
      | some (l, e) => match Nat.beq e (P.cellsOf t) with | true => some l | false => none
      | none => none
    | _ => none
theorem Shs.append : ∀ {a b : List Sh} {u v : List DV}, Shs.dv a u → Shs.dv b v → Shs.dv (a ++ b) (u ++ v)
  | [], _, u, _, ha, hb => by simp only [Shs.dv] at ha; subst ha; exact hb
  | _ :: a, _, _, _, ⟨x, u', e, r, rs⟩, hb => by subst e; exact ⟨x, _, rfl, r, Shs.append rs hb⟩
theorem Shs.length : ∀ {a : List Sh} {u : List DV}, Shs.dv a u → u.length = a.length
  | [], u, h => by simp only [Shs.dv] at h; subst h; rfl
  | _ :: a, _, ⟨x, u', e, r, rs⟩ => by subst e; simp [Shs.length rs]
theorem Sh.cells {s : Sh} {d : DV} {h : IH} {v : Value} (hs : s.dv d) (hv : d.rel h v) : v.cells = #[v] := by
  cases s with
  | int k => obtain ⟨n, _, rfl⟩ := hs; simp only [DV.rel] at hv; subst hv; rfl
  | bool => obtain ⟨n, rfl⟩ := hs; simp only [DV.rel] at hv; subst hv; rfl
  | str => obtain ⟨n, _, rfl⟩ := hs; simp only [DV.rel] at hv; subst hv; rfl
  | slc agg l => obtain ⟨n, f, _, rfl, _⟩ := hs; obtain ⟨p, cap, e, _⟩ := hv; subst e; rfl
  | own p => obtain ⟨_, sz, n, f, rfl⟩ := hs; obtain ⟨p, cap, e, _⟩ := hv; subst e; rfl
section
variable {H : Type} {enc : TypeId × Value → H} {P : Program} {W : World} {base : Nat} {sp : Nat → Bool} {held : Bool}
variable {ow : TypeId → Option (DV → Prop)}
def Fine (P : Program) (t : TypeId) (d : DataW H) : Prop := ∀ w ∈ DataW.weights P t d, w ≤ reachBytes
theorem fine_all {e : TypeId} : ∀ {l : List (DataW H)}, (∀ w ∈ DataW.weightsAll P e l, w ≤ reachBytes) → ∀ d ∈ l, Fine P e d
  | x :: l, h, d, hd => by
    simp only [DataW.weightsAll, List.mem_append] at h
    rcases List.mem_cons.1 hd with rfl | hd
    · exact fun w hw => h w (.inl hw)
    · exact fine_all (fun w hw => h w (.inr hw)) d hd
theorem fine_each : ∀ {ts : List TypeId} {l : List (DataW H)}, (∀ w ∈ DataW.weightsEach P ts l, w ≤ reachBytes) → ∀ (i : Nat) (t : TypeId) (d : DataW H), ts[i]? = some t → l[i]? = some d → Fine P t d
  | [], _, _, i, t, d, h1, _ => by simp at h1
  | _ :: _, [], _, i, t, d, _, h2 => by simp at h2
  | t0 :: ts, d0 :: l, h, i, t, d, h1, h2 => by
    simp only [DataW.weightsEach, List.mem_append] at h
    cases i with
    | zero =>
      simp only [List.getElem?_cons_zero, Option.some.injEq] at h1 h2
      subst h1; subst h2
      exact fun w hw => h w (.inl hw)
    | succ i => exact fine_each (fun w hw => h w (.inr hw)) i t d (by simpa using h1) (by simpa using h2)
def How (ow : TypeId → Option (DV → Prop)) (enc : TypeId × Value → H) (P : Program) (W : World) (base : Nat) (sp : Nat → Bool) (held : Bool) : Prop :=
  ∀ (t : TypeId) (p : DV → Prop) (m : Nat) (cs : List Value) (x : DataW H × List MemPlace), ow t = some p → DataW.trod enc P W base sp held m t cs = some x → Fine P t x.1 → ∃ d, Sh.dv (.own p) d ∧ DV.rels (allOf W) [d] cs
theorem fsShapes_le {r : TypeId → Option (List Sh)} : ∀ {fs : List Field} {off e : Nat} {l : List Sh}, fsShapes P r fs off = some (l, e) → off ≤ e
  | [], off, e, l, h => by simp only [fsShapes, Option.some.injEq, Prod.mk.injEq] at h; omega
  | f :: fs, off, e, l, h => by
    simp only [fsShapes] at h
    split at h
    · split at h
      · rename_i m e' _ h2
        simp only [Option.some.injEq, Prod.mk.injEq] at h
        have := fsShapes_le h2
        omega
      · cases h
    · cases h
theorem open_fields {r : TypeId → Option (List Sh)} {cs : List Value}
    (hr : ∀ (t : TypeId) (l : List Sh) (m : Nat) (cs' : List Value) (x : DataW H × List MemPlace), r t = some l → DataW.trod enc P W base sp held m t cs' = some x → Fine P t x.1 → ∃ es, Shs.dv l es ∧ DV.rels (allOf W) es cs') :
    ∀ {fs : List Field} {off e : Nat} {l : List Sh}, fsShapes P r fs off = some (l, e) → (∀ f ∈ fs, ∃ m y, DataW.trod enc P W base sp held m f.type ((cs.drop f.offset).take (P.cellsOf f.type)) = some y ∧ Fine P f.type y.1) →
      ∃ es, Shs.dv l es ∧ DV.rels (allOf W) es ((cs.drop off).take (e - off))
  | [], off, e, l, h, _ => by
    simp only [fsShapes, Option.some.injEq, Prod.mk.injEq] at h
    obtain ⟨rfl, rfl⟩ := h
    exact ⟨[], rfl, by simp [DV.rels]⟩
  | f :: fs, off, e, l, h, hf => by
    simp only [fsShapes] at h
    split at h
    · rename_i l0 ho hr0
      split at h
      · rename_i m e' hc h2
        simp only [Option.some.injEq, Prod.mk.injEq] at h
        obtain ⟨rfl, rfl⟩ := h
        have ho := Nat.eq_of_beq_eq_true ho
        obtain ⟨k, y, hy, hyf⟩ := hf f (List.mem_cons_self ..)
        obtain ⟨d1, a1, b1⟩ := hr _ _ _ _ _ hr0 hy hyf
        obtain ⟨d2, a2, b2⟩ := open_fields hr h2 fun g hg => hf g (List.mem_cons_of_mem _ hg)
        have hle := fsShapes_le h2
        refine ⟨d1 ++ d2, Shs.append a1 a2, ?_⟩
        have := DV.rels.append b1 b2
        rw [ho] at this
        rw [show (cs.drop off).take (e' - off) = (cs.drop off).take (P.cellsOf f.type) ++ (cs.drop (off + P.cellsOf f.type)).take (e' - (off + P.cellsOf f.type)) from by
          rw [show e' - off = P.cellsOf f.type + (e' - (off + P.cellsOf f.type)) by omega, List.take_add, List.drop_drop]]
        exact this
      · cases h
    · cases h
theorem open_cells (how : How ow enc P W base sp held) : ∀ {n : Nat} {t : TypeId} {l : List Sh} {m : Nat} {cs : List Value} {x : DataW H × List MemPlace}, cellShapes P ow n t = some l → DataW.trod enc P W base sp held m t cs = some x → Fine P t x.1 →
    ∃ es, Shs.dv l es ∧ DV.rels (allOf W) es cs
  | 0, _, _, _, _, _, h, _, _ => by simp [cellShapes] at h
  | n + 1, t, l, m, cs, x, h, hx, hfi => by
    simp only [cellShapes] at h
    split at h
    · rename_i p hp
      simp only [Option.some.injEq] at h; subst h
      obtain ⟨d, h1, h2⟩ := how t p m cs x hp hx hfi
      exact ⟨[d], ⟨_, _, rfl, h1, rfl⟩, h2⟩
    split at h
    · rename_i ht
      obtain ⟨b, rfl, rfl⟩ := DataW.trod_bool ht hx
      simp only [Option.some.injEq] at h; subst h
      exact ⟨[.con (.bool b)], ⟨_, _, rfl, ⟨b, rfl⟩, rfl⟩, ⟨_, _, rfl, rfl, rfl⟩⟩
    · rename_i k ht
      obtain ⟨b, rfl, rfl, hw⟩ := DataW.trod_int ht hx
      simp only [Option.some.injEq] at h; subst h
      exact ⟨[.con (.int k b)], ⟨_, _, rfl, ⟨b, hw, rfl⟩, rfl⟩, ⟨_, _, rfl, rfl, rfl⟩⟩
    · rename_i ht
      obtain ⟨b, rfl, rfl, hw⟩ := DataW.trod_string ht hx
      simp only [Option.some.injEq] at h; subst h
      exact ⟨[.con (.string b)], ⟨_, _, rfl, ⟨b, hw, rfl⟩, rfl⟩, ⟨_, _, rfl, rfl, rfl⟩⟩
    · rename_i e ht
      split at h
      · rename_i l' hl'
        split at h
        · rename_i hc
          simp only [Bool.and_eq_true, Nat.beq_eq, Bool.or_eq_true, Nat.blt_eq] at hc
          simp only [Option.some.injEq] at h; subst h
          rcases Go.Deep.open_slice ht hx with ⟨rfl, rfl⟩ | ⟨a, len, cap, mm, n', D, Pl, rfl, hb, hlc, hcap, hmm, rfl, hel⟩
          · refine ⟨[.slc l'.length 0 fun _ => .con undef], ⟨_, _, rfl, ⟨0, _, Nat.zero_le _, rfl, fun i hi => absurd hi (by omega)⟩, rfl⟩, ⟨_, _, rfl, ⟨none, 0, rfl, Nat.le_refl _, .inl rfl⟩, rfl⟩⟩
          · have hlm : len ≤ mm := by rw [hmm]; split <;> omega
            have helf : ∀ i, i < len → Fine P e (D i) := fun i hi => by
              unfold Fine at hfi
              simp only [DataW.weights, ht, List.mem_cons, List.mem_append] at hfi
              exact fine_all (fun w hw => hfi w (.inr (.inl hw))) _ (List.mem_map.2 ⟨i, List.mem_range.2 hi, rfl⟩)
            have hspot : 0 < len → a.spot = none := by
              intro hpos
              obtain ⟨cs', h1, _⟩ := hel 0 (by omega)
              obtain ⟨_, h5, h6⟩ := World.cells?_some h1
              have := h6 0 (by omega)
              rw [Nat.zero_mul, List.getElem?_eq_getElem (by omega)] at this
              simp only [World.cell?, Addr.add, if_true] at this
              split at this
              · split at this
                · cases this
                · rename_i hsp; simpa using hsp
              · cases this
            have hadd : 0 < len → ∀ k, a.add k = ⟨a.block, a.off + k, none⟩ := by
              intro hpos k
              have := hspot hpos
              unfold Addr.add
              split
              · rename_i hk; subst hk; cases a; simp_all
              · rfl
            have each : ∀ i, i < len → ∃ d : DV, (match aggT P e with | true => ∃ es, d = .agg es ∧ Shs.dv l' es | false => Shs.dv l' [d]) ∧ ∃ v, DV.rel (allOf W) d v ∧ v.cells.size = l'.length ∧ ∀ j, j < l'.length → W.cell? ⟨a.block, a.off + i * l'.length + j, none⟩ = v.cells[j]? := by
              intro i hi
              obtain ⟨cs', h1, h2⟩ := hel i (by omega)
              obtain ⟨es, h3, h4⟩ := open_cells how hl' h2 (helf i hi)
              obtain ⟨_, h5, h6⟩ := World.cells?_some h1
              have hsz : cs'.length = l'.length := by rw [h5, hc.1]
              have hat : ∀ j, j < l'.length → W.cell? ⟨a.block, a.off + i * l'.length + j, none⟩ = cs'[j]? := by
                intro j hj
                rw [← h6 j (by omega), hadd (by omega), hc.1]
                congr 1
                unfold Addr.add
                split
                · rename_i hk; subst hk; rfl
                · rfl
              cases hag : aggT P e with
              | true => exact ⟨.agg es, ⟨es, rfl, h3⟩, .agg cs'.toArray, ⟨cs', rfl, h4⟩, by simp [Value.cells, hsz], fun j hj => by rw [hat j hj]; simp [Value.cells]⟩
              | false =>
                have h1' : l'.length = 1 := by rcases hc.2.2 with h | h
                                               · rw [hag] at h; cases h
                                               · exact h
                match l', cs', es, h1', hsz, h3, h4, hat with
                | [s], [c], es, _, _, h3, h4, hat =>
                  obtain ⟨d, es', e1, h3, e2⟩ := h3
                  simp only [Shs.dv] at e2; subst e2; subst e1
                  obtain ⟨v, vs', e3, h4, e4⟩ := h4
                  injection e3 with e3 _; subst e3
                  have hcell := Sh.cells h3 h4
                  refine ⟨d, ⟨_, _, rfl, h3, rfl⟩, c, h4, by rw [hcell]; rfl, fun j hj => ?_⟩
                  rw [hat j hj, hcell]; simp
            refine ⟨[.slc l'.length len fun i => if h : i < len then Classical.choose (each i h) else .con undef], ⟨_, _, rfl, ⟨len, _, Nat.le_trans hlc hcap, rfl, fun i hi => ?_⟩, rfl⟩, ⟨_, _, rfl, ⟨some a, cap, rfl, hlc, ?_⟩, rfl⟩⟩
            · simp only [dif_pos hi]
              exact (Classical.choose_spec (each i hi)).1
            · by_cases hz : len = 0
              · exact .inl hz
              right
              refine ⟨a.block, a.off, by have := hspot (by omega); cases a; simp_all, fun i hi => ?_⟩
              simp only [dif_pos hi]
              obtain ⟨_, v, hv, hsz, hcl⟩ := Classical.choose_spec (each i hi)
              exact ⟨v, hv, hsz, fun j hj => hcl j hj⟩
        · cases h
      · cases h
    · rename_i fs ht
      split at h
      · rename_i l' e hl'
        split at h
        · rename_i he
          simp only [Option.some.injEq] at h; subst h
          have he := Nat.eq_of_beq_eq_true he
          obtain ⟨xs, n', rfl, rfl, hlen, hxl, hf⟩ := DataW.trod_struct ht hx
          obtain ⟨es, h1, h2⟩ := open_fields (cs := cs) (fun t l m cs' x h1 h2 h3 => open_cells how h1 h2 h3) hl' fun f hf' => by
            obtain ⟨i, hi⟩ := List.mem_iff_getElem?.1 hf'
            have hi' : fs[i]? = some f := by simpa using hi
            have := hf i f hi'
            have hlt : i < xs.length := by
              rw [hxl]; exact (Array.getElem?_eq_some_iff.1 hi').1
            refine ⟨n', xs[i], by rw [this]; simp [hlt], ?_⟩
            unfold Fine at hfi
            simp only [DataW.weights, ht] at hfi
            exact fine_each hfi i f.type xs[i].1 (by simp [hi']) (by simp [hlt])
          refine ⟨es, h1, ?_⟩
          rw [List.drop_zero, Nat.sub_zero, he, ← hlen, List.take_length] at h2
          exact h2
        · cases h
      · cases h
    · cases h
theorem open_val {n : Nat} {t : TypeId} {l : List Sh} {b0 : Nat} {v : Value} {d : DataW H} {p : List MemPlace} (how : How ow enc P W base sp held) (hno : ow t = none) (hs : cellShapes P ow n t = some l) (hl : (aggT P t || Nat.beq l.length 1) = true)
    (hv : Value.okWide P W .any b0 t v) (h : DataW.Trod enc P W base sp held t v d p) (hfi : Fine P t d) : ∃ x : DV, vdv (aggT P t) l x ∧ x.rel (allOf W) v := by
  obtain ⟨m, hm⟩ := h
  obtain ⟨es, h1, h2⟩ := open_cells how hs hm hfi
  cases ha : aggT P t with
  | true =>
    have : ∃ cs, v = .agg cs := by
      unfold aggT at ha
      unfold Value.okWide at hv
      split at ha
      · rename_i fs hu; rw [hu] at hv; obtain ⟨cs, e, _⟩ := hv; exact ⟨cs, e⟩
      · rename_i k e hu; rw [hu] at hv; obtain ⟨cs, e, _⟩ := hv; exact ⟨cs, e⟩
      · cases ha
    obtain ⟨cs, rfl⟩ := this
    exact ⟨.agg es, ⟨es, rfl, h1⟩, ⟨cs.toList, by simp, by simpa [Value.cells] using h2⟩⟩
  | false =>
    rw [ha] at hl
    simp only [Bool.false_or, Nat.beq_eq] at hl
    match l, hl, h1 with
    | [s], _, h1 =>
      obtain ⟨x, es', e1, k1, e2⟩ := h1
      simp only [Shs.dv] at e2; subst e2; subst e1
      obtain ⟨u, vs', e3, h3, e4⟩ := h2
      simp only [DV.rels] at e4; subst e4
      have hu : u = v := by
        have hcell := Sh.cells k1 h3
        have : v.cells = #[u] := by rw [← Array.toArray_toList (xs := v.cells), e3]
        unfold Value.okWide at hv
        cases n with
        | zero => simp [cellShapes] at hs
        | succ n =>
          have hna : ∀ cs, v ≠ .agg cs := by
            rintro cs rfl
            unfold aggT at ha
            simp only [cellShapes, hno] at hs
            split at hv
            · rename_i hu2; rw [hu2] at ha; simp at ha
            · rename_i hu2; rw [hu2] at ha; simp at ha
            · unfold Cell.okWide Cell.ok at hv
              split at hs <;> rename_i ht <;> simp_all
          cases v <;> first | (simp [Value.cells] at this; exact this.symm) | exact absurd rfl (hna _)
      subst hu
      exact ⟨x, ⟨x, [], rfl, k1, rfl⟩, h3⟩
def argShapes (P : Program) (ow : TypeId → Option (DV → Prop)) : List TypeId → Option (List (Bool × List Sh))
  | [] => some []
  | t :: ts => match cellShapes P ow 8 t, argShapes P ow ts with
    | some l, some r => match (aggT P t || Nat.beq l.length 1) && (P.readableRec t && Nat.blt t P.types.size) && (ow t).isNone with
      | true => some ((aggT P t, l) :: r)
      | false => none
    | _, _ => none
def vdvs : List (Bool × List Sh) → List DV → Prop
  | [], xs => xs = []
  | s :: l, xs => ∃ x xs', xs = x :: xs' ∧ vdv s.1 s.2 x ∧ vdvs l xs'
theorem open_all (how : How ow enc P W 0 sp held) : ∀ {ts : List TypeId} {shs : List (Bool × List Sh)} {us : List Value} {es : List (DataW H)} {ps : List MemPlace}, argShapes P ow ts = some shs → (∀ (j : Nat) t v, ts[j]? = some t → us[j]? = some v → Value.okWide P W .any base t v) →
    DataW.TrodAll enc P W 0 sp held ts us es ps → (∀ w ∈ DataW.weightsEach P ts es, w ≤ reachBytes) → ∃ xs : List DV, vdvs shs xs ∧ DV.rels (allOf W) xs us
  | [], shs, us, es, ps, h, _, ht, _ => by
    simp only [argShapes, Option.some.injEq] at h; subst h
    obtain ⟨rfl, _, _⟩ := trodAll_nil ht
    exact ⟨[], rfl, rfl⟩
  | t :: ts, shs, us, es, ps, h, hv, ht, hwt => by
    match us, es, ht, hwt with
    | v :: us, e :: es, ⟨p, q, h1, h2, _⟩, hwt =>
      simp only [argShapes] at h
      split at h
      · rename_i l r hl hr
        split at h
        · rename_i hc
          simp only [Bool.and_eq_true, Option.isNone_iff_eq_none] at hc
          simp only [Option.some.injEq] at h; subst h
          simp only [DataW.weightsEach, List.mem_append] at hwt
          obtain ⟨x, a1, a2⟩ := open_val how hc.2 hl hc.1.1 (hv 0 t v rfl rfl) h1 (fun w hw => hwt w (.inl hw))
          obtain ⟨xs, b1, b2⟩ := open_all how hr (fun j t' v' h3 h4 => hv (j + 1) t' v' (by simpa using h3) (by simpa using h4)) h2 (fun w hw => hwt w (.inr hw))
          exact ⟨x :: xs, ⟨_, _, rfl, a1, b1⟩, ⟨_, _, rfl, a2, b2⟩⟩
        · cases h
      · cases h
theorem stays_all (hl : laidOutB P = true) {W' : World} (hb : Below W.heap.size W W') : ∀ {ts : List TypeId} {shs : List (Bool × List Sh)} {us : List Value} {es : List (DataW H)} {ps : List MemPlace}, argShapes P ow ts = some shs →
    (∀ x ∈ ps, x.block < W.heap.size) → DataW.TrodAll enc P W 0 (fun _ => true) true ts us es ps → DataW.TrodAll enc P W' 0 (fun b => decide (b < W.heap.size)) true ts us es ps
  | [], shs, us, es, ps, _, _, ht => by obtain ⟨rfl, rfl, rfl⟩ := trodAll_nil ht; exact trodAll_mk0
  | t :: ts, shs, us, es, ps, h, hlt, ht => by
    match us, es, ht with
    | v :: us, e :: es, ⟨p, q, h1, h2, hp⟩ =>
      simp only [argShapes] at h
      split at h
      · rename_i l r hl' hr
        split at h
        · rename_i hc
          simp only [Bool.and_eq_true, Nat.blt_eq] at hc
          subst hp
          exact ⟨p, q, Below.trod hl hc.1.2.1 hc.1.2.2 h1 hb (fun x hx => hlt x (List.mem_append_left _ hx)), stays_all hl hb hr (fun x hx => hlt x (List.mem_append_right _ hx)) h2, rfl⟩
        · cases h
      · cases h
theorem trodAll_length : ∀ {ts : List TypeId} {us : List Value} {es : List (DataW H)} {ps : List MemPlace}, DataW.TrodAll enc P W base sp held ts us es ps → es.length = ts.length
  | [], us, es, ps, ht => by obtain ⟨_, rfl, _⟩ := trodAll_nil ht; rfl
  | t :: ts, us, es, ps, ht => by
    match us, es, ht with
    | v :: us, e :: es, ⟨p, q, h1, h2, hp⟩ => simp [trodAll_length h2]
theorem law_row {f : FuncId} {fn : Func} {spec : ChangeSpec} {laid : List (String × DataW Unit)} {tb : TypeId} {shs : List (Bool × List Sh)} (hlo : laidOutB P = true) (hr : fn.resultTypes = #[tb]) (htb : P.underlying tb = some .bool) (hvars : spec.vars = [])
    (hfn : ∀ es : List (DataW H), es.length = fn.params.toList.length → spec.fn H es = { results := [.lit (.bool true)], args := es }) (hsh : argShapes P ow fn.params.toList = some shs)
    (how : ∀ (W : World) (sp : Nat → Bool) (held : Bool), How ow enc P W 0 sp held)
    (hlaw : ∀ (W : World), laidMetH P laid W → ∀ xs, vdvs shs xs → FnOK P (allOf W) f xs (.con (.bool true))) :
    ∀ (W : World) (base : Nat) (args : Array Value) (es gs : List (DataW H)) (before : List MemPlace),
      (∀ (j : Nat) t v, fn.params[j]? = some t → args[j]? = some v → Value.okWide P W .any base t v) →
      DataW.Whole enc P fn.params.toList spec.vars false W args.toList es gs before → (DataW.weightsEach P (fn.params.toList ++ spec.plain.varTypes P) (es ++ gs)).all (· ≤ reachBytes) = true → laidMetH P laid W →
      Calls P f args W fun e W' => ∃ v, e = .returned v ∧ spec.post enc P fn false true false false W args v W' := by
  intro W base args es gs before hval hW hwt hL
  have hW' := hW
  obtain ⟨p, q, hA, hV, rfl, hfz, hnd⟩ := hW
  rw [hvars] at hV
  obtain ⟨rfl, rfl⟩ := trodVars_none hV
  have hwe : ∀ w ∈ DataW.weightsEach P fn.params.toList es, w ≤ reachBytes := fun w hw => by
    have hl := trodAll_length hA
    have key : ∀ {ts : List TypeId} {l : List (DataW H)} (us : List TypeId), l.length = ts.length → ∀ w ∈ DataW.weightsEach P ts l, w ∈ DataW.weightsEach P (ts ++ us) (l ++ []) := by
      intro ts
      induction ts with
      | nil => intro l us hl w hw; simp [DataW.weightsEach] at hw
      | cons t ts ih =>
        intro l us hl w hw
        match l, hl with
        | d :: l, hl =>
          simp only [DataW.weightsEach, List.mem_append, List.cons_append] at hw ⊢
          rcases hw with hw | hw
          · exact .inl hw
          · exact .inr (ih us (by simpa using hl) w hw)
    have := List.all_eq_true.1 hwt w (key _ hl w hw)
    simpa using this
  obtain ⟨xs, hx, hrel⟩ := open_all (how W _ _) hsh (fun j t v h1 h2 => hval j t v (by simpa using h1) (by simpa using h2)) hA hwe
  have hlt : ∀ x ∈ p, x.block < W.heap.size := fun x hx => by simpa using hW'.lt x (by simpa using hx)
  have hc := (hlaw W hL xs hx).2 W (allOf W) args.toList (IH.le.refl _) (allOf_holds W) hrel
  simp only [Array.toArray_toList] at hc
  refine Calls.mono hc ?_
  rintro e W' ⟨v, h', he, hv, -, -, hk, -⟩
  simp only [DV.rel] at hv
  subst hv; subst he
  have hbelow : Below W.heap.size W W' := ⟨hk.os, hk.tape, hk.output, hk.size, fun k hk' => hk.block k hk' (fun h => h)⟩
  have hlen := trodAll_length hA
  refine ⟨_, rfl, es, [], p ++ [], [], p, [], by rw [hvars]; simpa [hvars] using hW', ?_, ?_, ?_, hbelow.frame _, fun h => by cases h⟩
  · rw [List.append_nil, hfn es hlen, hr]; exact trodAll_mk1 (shut_bool htb true)
  · rw [List.append_nil, hfn es hlen]; exact stays_all hlo hbelow hsh hlt hA
  · rw [List.append_nil, hfn es hlen, hvars]; rfl
end
end Go.AbW
