import Derived.Test.YthijempdiheabaaDoorAb9
import Derived.IntWalk
set_option autoImplicit false
namespace Go.Ab
open Go Go.RowKit

abbrev Oracle := FuncId → List DV → Option DV

section
variable (P : Program) (G : IH) (orc : Oracle) (o : Oper) (ρ : Operand → AV) (st : AS)

def evPure : Option (List Prop × Ev) :=
  match isSelect o.op, o.op.operands.all (fun x => isCon (ρ x)), pureRun P (execOp (fun x => conOf (ρ x)) o) with
  | false, true, some (.value v) => some ([], { dst := o.dst, val := ofVal v })
  | _, _, _ => none
def evAlloc (T : TypeId) : Option (List Prop × Ev) :=
  match o.dst, zeroOf P T with
  | some s, some l => some ([], { dst := some s, val := .box s 0, nw := [(s, l.map fun v => .d (.con v))] })
  | _, _ => none
def evBox (x : AV) : Option (List Prop × Ev) :=
  match o.dst, cellsOf x with
  | some s, some l => match AV.frees s l with | true => some ([], { dst := some s, val := .box s 0, nw := [(s, l)] }) | false => none
  | _, _ => none
def evBuild (T : TypeId) (parts : List (Nat × Operand)) : Option (List Prop × Ev) :=
  match zeroOf P T, placeOf P T, partsOf ρ parts with
  | some z, some pl, some m => match fillA pl (z.map fun v => .d (.con v)) m with | some l => some ([], { dst := o.dst, val := mkAgg l }) | none => none
  | _, _, _ => none
def evBuildSlice (T : TypeId) (n : Nat) (parts : List (Nat × Operand)) : Option (List Prop × Ev) :=
  match sliceElem P T with
  | some E => match sizeT P E, zeroOf P E, partsOf ρ parts with
    | some sz, some z, some m => match fillA (fun i => some (i * sz, sz)) ((zeroRow (n * sz) z).map fun v => .d (.con v)) m with
      | some l => match allD l with
        | some ds => match Nat.ble (n * sz) 16777216 && (Nat.beq ds.length (n * sz) && (aggT P E || (Nat.beq sz 1 && ds.all dvOne))) with
          | true => some ([], { dst := o.dst, val := .d (.slc sz n (elemF (aggT P E) sz ds)) })
          | false => none
        | none => none
      | none => none
    | _, _, _ => none
  | none => none
def evLoad (T : TypeId) (p : AV) : Option (List Prop × Ev) :=
  match hasU P T, sizeT P T with
  | true, some n => match p with
    | .box s off => match st.box s with
      | some l => match Nat.beq ((l.drop off).take n).length n, loadVal (aggT P T) ((l.drop off).take n) with
        | true, some x => some ([], { dst := o.dst, val := x, rdc := rdLocs s off n })
        | _, _ => none
      | none => none
    | .d (.ptr l) => match Nat.beq (l.take n).length n, loadVal (aggT P T) ((l.take n).map .d) with
      | true, some x => some ([], { dst := o.dst, val := x })
      | _, _ => none
    | _ => none
  | _, _ => none
def evStore (T : TypeId) (p x : AV) : Option (List Prop × Ev) :=
  match o.dst, sizeT P T, p, cellsOf x with
  | none, some n, .box s off, some l => match st.box s with
    | some lb => match Nat.beq l.length n && Nat.ble (off + n) lb.length with
      | true => some ([], { dst := none, val := .any, wrc := wrList s off l })
      | false => none
    | none => none
  | _, _, _, _ => none
def nilOK (x : AV) : Bool := match x with | .clo (.func _) _ _ => true | .clo _ _ _ => false | y => notNil y
def evNil (x : AV) : Option (List Prop × Ev) := match nilOK x with | true => some ([], { dst := o.dst, val := x }) | false => none
def evFieldAddr (T : TypeId) (x : AV) (i : Nat) : Option (List Prop × Ev) :=
  match fieldOf P T i with
  | some f => match sizeT P f.type, moveAddr x f.offset with
    | some (_ + 1), some y => some ([], { dst := o.dst, val := y })
    | _, _ => none
  | none => none
def evField (T : TypeId) (x : AV) (i : Nat) : Option (List Prop × Ev) :=
  match fieldOf P T i with
  | some f => match hasU P f.type, sizeT P f.type, aggParts x with
    | true, some n, some l => match partVal (aggT P f.type) l f.offset n with
      | some y => some ([], { dst := o.dst, val := y })
      | none => none
    | _, _, _ => none
  | none => none
def evIndexAddr (T : TypeId) (x i : AV) : Option (List Prop × Ev) :=
  match sliceElem P T, x, i with
  | some E, .d (.slc sz n f), .d (.con (.int _ m)) => match sizeT P E, flatD (f m.toNat) with
    | some sz', some l => match Nat.beq sz' sz with
      | true => some ([0 ≤ m ∧ m < n], { dst := o.dst, val := .d (.ptr l) })
      | false => none
    | _, _ => none
  | _, _, _ => none
def evIndex (T : TypeId) (x i : AV) : Option (List Prop × Ev) :=
  match isStr P T, x, i with
  | true, .d (.con (.string s)), .d (.con (.int _ m)) => some ([0 ≤ m ∧ m < s.size], { dst := o.dst, val := .d (.con (.int .u8 (byteAt s m.toNat))) })
  | _, _, _ => none
def evExtract (x : AV) (i : Nat) : Option (List Prop × Ev) :=
  match tupParts x with
  | some l => match l[i]? with | some y => some ([], { dst := o.dst, val := y }) | none => none
  | none => none
def litInt : Operand → Option Int
  | .const (.int _ n) => some n
  | _ => none
/-- In the range of an int; and its negation, too. -/
def I64 (n : Int) : Prop := -9223372036854775808 ≤ n ∧ n ≤ 9223372036854775807
def R64 (n : Int) : Prop := -9223372036854775807 ≤ n ∧ n ≤ 9223372036854775807
/-- Sums, differences and products of ints that stay in their range. -/
def evArith (op : BinOp) : AV → AV → Option (List Prop × Ev)
  | .d (.con (.int .i64 p)), .d (.con (.int .i64 q)) => match op with
    | .add => some ([I64 (p + q)], { dst := o.dst, val := .d (.con (.int .i64 (p + q))) })
    | .sub => some ([I64 (p - q)], { dst := o.dst, val := .d (.con (.int .i64 (p - q))) })
    | .mul => some ([I64 (p * q)], { dst := o.dst, val := .d (.con (.int .i64 (p * q))) })
    | _ => none
  | _, _ => none
def evNeg (op : UnOp) : AV → Option (List Prop × Ev)
  | .d (.con (.int .i64 p)) => match op with
    | .neg => some ([R64 p], { dst := o.dst, val := .d (.con (.int .i64 (-p))) })
    | _ => none
  | _ => none
def evQuo64 (y : Operand) : AV → AV → Option (List Prop × Ev)
  | .d (.con (.int .i64 p)), .d (.con (.int .i64 q)) => match litInt y with
    | some n => match decide (n = 0) with
      | false => some ([R64 p], { dst := o.dst, val := .d (.con (.int .i64 (p.tdiv n))) })
      | true => none
    | none => some ([q ≠ 0, R64 p], { dst := o.dst, val := .d (.con (.int .i64 (p.tdiv q))) })
  | _, _ => none
def evDiv (rem : Bool) (y : Operand) : AV → AV → Option (List Prop × Ev)
  | .d (.con (.int j p)), .d (.con (.int k q)) => match decide (j = k) with
    | true => match litInt y with
      | some n => match decide (n = 0) with
        | false => some ([], { dst := o.dst, val := .d (.con (.int j (match rem with | true => p.tmod n | false => j.wrap (p.tdiv n)))) })
        | true => none
      | none => some ([q ≠ 0], { dst := o.dst, val := .d (.con (.int j (match rem with | true => p.tmod q | false => j.wrap (p.tdiv q)))) })
    | false => none
  | _, _ => none
def evConcat : AV → AV → Option (List Prop × Ev)
  | .d (.con (.string p)), .d (.con (.string q)) => some ([p.size + q.size ≤ 9223372036854775807], { dst := o.dst, val := .d (.con (.string (p ++ q))) })
  | _, _ => none
def evEq (neq : Bool) (T : TypeId) (x y : AV) : Option (List Prop × Ev) :=
  match eqT P T, aggParts x, aggParts y with
  | some fs, some xs, some ys => match fieldsEq P xs ys fs with
    | some c => some ([], { dst := o.dst, val := .d (.con (.bool (negIf neq c))) })
    | none => none
  | _, _, _ => none
def orElse (a b : Option (List Prop × Ev)) : Option (List Prop × Ev) := match a with | some x => some x | none => b
def evBin (op : BinOp) (T : TypeId) (x y : Operand) : Option (List Prop × Ev) :=
  match op with
  | .quo => orElse (evQuo64 o y (ρ x) (ρ y)) (evDiv o false y (ρ x) (ρ y))
  | .rem => evDiv o true y (ρ x) (ρ y)
  | .add => orElse (evConcat o (ρ x) (ρ y)) (orElse (evArith o .add (ρ x) (ρ y)) (evPure P o ρ))
  | .sub => orElse (evArith o .sub (ρ x) (ρ y)) (evPure P o ρ)
  | .mul => orElse (evArith o .mul (ρ x) (ρ y)) (evPure P o ρ)
  | .eql => orElse (evEq P o false T (ρ x) (ρ y)) (evPure P o ρ)
  | .neq => orElse (evEq P o true T (ρ x) (ρ y)) (evPure P o ρ)
  | _ => evPure P o ρ
def evSlice (T : TypeId) (x : AV) (lo hi : Option Operand) : Option (List Prop × Ev) :=
  match x with
  | .d (.con (.string s)) => match isStr P T, boundA ρ lo 0, boundA ρ hi s.size with
    | true, some l, some m => some ([0 ≤ l ∧ l ≤ m ∧ m ≤ s.size], { dst := o.dst, val := .d (.con (.string (s.extract l.toNat m.toNat))) })
    | _, _, _ => none
  | .d (.slc sz n f) => match sliceElem P T, boundA ρ lo 0, boundA ρ hi n with
    | some E, some l, some m => match sizeT P E with
      | some sz' => match Nat.beq sz' sz with
        | true => some ([0 ≤ l ∧ l ≤ m ∧ m ≤ n], { dst := o.dst, val := .d (.slc sz (m - l).toNat (fun i => f (l.toNat + i))) })
        | false => none
      | none => none
    | _, _, _ => none
  | _ => none
def evCall (c : Call) : Option (List Prop × Ev) :=
  match c.callee with
  | .value x => match calleeOf (ρ x) with
    | some (g, a1, a2) => match allD (a1 ++ (c.args.toList.map ρ ++ a2)) with
      | some ds => match orc g ds with
        | some r => some ([FnOK P G g ds r], { dst := o.dst, val := .d r })
        | none => none
      | none => none
    | none => none
  | .builtin .len => match c.args.toList, c.argTypes.toList with
    | [x], [T] => match ρ x, sliceElem P T with
      | .d (.slc _ n _), some _ => some ([], { dst := o.dst, val := .d (.con (.int .i64 n)) })
      | _, _ => evPure P o ρ
    | _, _ => evPure P o ρ
  | _ => evPure P o ρ
def evConvert (src dst : TypeId) (x : AV) : Option (List Prop × Ev) :=
  match x with
  | .d (.slc 1 n f) => match isBytes P src && isStr P dst with
    | true => some ([BytesAt n f], { dst := o.dst, val := .d (.con (.string ⟨(bytesOf n f).toArray⟩)) })
    | false => none
  | _ => none
/-- WHAT AN OPERATION DOES, and on what terms. -/
def evalOp : Option (List Prop × Ev) :=
  match o.op with
  | .move x => some ([], { dst := o.dst, val := ρ x })
  | .assign x => some ([], { dst := o.dst, val := ρ x })
  | .alloc T => evAlloc P o T
  | .box _ x => evBox o (ρ x)
  | .build T parts => evBuild P o ρ T parts.toList
  | .buildSlice T n parts => evBuildSlice P o ρ T n parts.toList
  | .load T p => evLoad P o st T (ρ p)
  | .store T p x => evStore P o st T (ρ p) (ρ x)
  | .nilCheck x => evNil o (ρ x)
  | .fieldAddr T x i => evFieldAddr P o T (ρ x) i
  | .field T x i => evField P o T (ρ x) i
  | .indexAddr T x i => evIndexAddr P o T (ρ x) (ρ i)
  | .index T x i => evIndex P o T (ρ x) (ρ i)
  | .extract t i => evExtract o (ρ t) i
  | .makeFunc f x c => some ([], { dst := o.dst, val := mkClo f (x.toList.map ρ) (c.toList.map ρ) })
  | .binOp op T x y _ => evBin P o ρ op T x y
  | .unOp op _ x => orElse (evNeg o op (ρ x)) (evPure P o ρ)
  | .slice T x lo hi none => evSlice P o ρ T (ρ x) lo hi
  | .call c => evCall P G orc o ρ c
  | .convert src dst x => orElse (evConvert P o src dst (ρ x)) (evPure P o ρ)
  | _ => evPure P o ρ
end

section
variable {P : Program} {G : IH} {orc : Oracle} {o : Oper} {ρ : Operand → AV} {st : AS} {cs : List Prop} {e : Ev}
theorem evPure_ok (h : evPure P o ρ = some (cs, e)) : Core P G o ρ st e := by
  unfold evPure at h
  split at h
  · rename_i v h1 h2 h3
    simp only [Option.some.injEq, Prod.mk.injEq] at h
    obtain ⟨rfl, rfl⟩ := h
    exact core_pure h1 h2 h3
  · cases h
theorem evDiv_ok {rem : Bool} {T U : TypeId} {x y : Operand} (ho : o.op = .binOp (if rem then .rem else .quo) T x y U) (hy : ∀ n, litInt y = some n → ∀ k q, ρ y = .d (.con (.int k q)) → q = n)
    (h : evDiv o rem y (ρ x) (ρ y) = some (cs, e)) (hc : ∀ c ∈ cs, c) : Core P G o ρ st e := by
  cases hx : ρ x with
  | d a => cases a with
    | con u => cases u with
      | int j p => cases hyv : ρ y with
        | d b => cases b with
          | con v => cases v with
            | int k q =>
              simp only [hx, hyv, evDiv] at h
              split at h
              · rename_i hjk
                simp only [decide_eq_true_eq] at hjk; subst hjk
                split at h
                · rename_i n hn
                  obtain rfl := hy n hn _ _ hyv
                  split at h
                  · rename_i hn0
                    simp only [decide_eq_false_iff_not] at hn0
                    simp only [Option.some.injEq, Prod.mk.injEq] at h
                    obtain ⟨rfl, rfl⟩ := h
                    cases rem with
                    | true => exact core_rem (by simpa using ho) hx hyv hn0
                    | false => exact core_quo (by simpa using ho) hx hyv hn0
                  · cases h
                · simp only [Option.some.injEq, Prod.mk.injEq] at h
                  obtain ⟨rfl, rfl⟩ := h
                  have h0 := hc _ (List.mem_singleton.2 rfl)
                  cases rem with
                  | true => exact core_rem (by simpa using ho) hx hyv h0
                  | false => exact core_quo (by simpa using ho) hx hyv h0
              · cases h
            | _ => simp [hx, hyv, evDiv] at h
          | _ => simp [hx, hyv, evDiv] at h
        | _ => simp [hx, hyv, evDiv] at h
      | _ => simp [hx, evDiv] at h
    | _ => simp [hx, evDiv] at h
  | _ => simp [hx, evDiv] at h
theorem wrap_I64 {n : Int} (h : I64 n) : IntKind.wrap .i64 n = n := IntWalk.i64_in n ⟨h.1, h.2⟩
theorem evArith_ok {op : BinOp} {T U : TypeId} {x y : Operand} (ho : o.op = .binOp op T x y U) (h : evArith o op (ρ x) (ρ y) = some (cs, e)) (hc : ∀ c ∈ cs, c) : Core P G o ρ st e := by
  unfold evArith at h
  split at h
  · rename_i p q hx hy
    have hval : ∀ β (k : IH) (a : Act), (∀ z ∈ o.op.operands, (ρ z).rel β k (a.eval z)) → a.eval x = .int .i64 p ∧ a.eval y = .int .i64 q := by
      intro β k a hop
      have hxv := hop x (by simp [ho, Op.operands])
      have hyv := hop y (by simp [ho, Op.operands])
      rw [hx] at hxv; rw [hy] at hyv
      exact ⟨hxv, hyv⟩
    split at h
    · simp only [Option.some.injEq, Prod.mk.injEq] at h; obtain ⟨rfl, rfl⟩ := h
      have hr := wrap_I64 (hc _ (List.mem_singleton.2 rfl))
      exact core_value fun β k a w _ _ hop => by
        obtain ⟨h1, h2⟩ := hval β k a hop
        exact ⟨_, by simp [execOp, ho, h1, h2, eqGuard, binOp, Op.intArith, hr], rfl⟩
    · simp only [Option.some.injEq, Prod.mk.injEq] at h; obtain ⟨rfl, rfl⟩ := h
      have hr := wrap_I64 (hc _ (List.mem_singleton.2 rfl))
      exact core_value fun β k a w _ _ hop => by
        obtain ⟨h1, h2⟩ := hval β k a hop
        exact ⟨_, by simp [execOp, ho, h1, h2, eqGuard, binOp, Op.intArith, hr], rfl⟩
    · simp only [Option.some.injEq, Prod.mk.injEq] at h; obtain ⟨rfl, rfl⟩ := h
      have hr := wrap_I64 (hc _ (List.mem_singleton.2 rfl))
      exact core_value fun β k a w _ _ hop => by
        obtain ⟨h1, h2⟩ := hval β k a hop
        exact ⟨_, by simp [execOp, ho, h1, h2, eqGuard, binOp, Op.intArith, hr], rfl⟩
    · cases h
  · cases h
theorem evNeg_ok {op : UnOp} {T : TypeId} {x : Operand} (ho : o.op = .unOp op T x) (h : evNeg o op (ρ x) = some (cs, e)) (hc : ∀ c ∈ cs, c) : Core P G o ρ st e := by
  unfold evNeg at h
  split at h
  · rename_i p hx
    split at h
    · simp only [Option.some.injEq, Prod.mk.injEq] at h; obtain ⟨rfl, rfl⟩ := h
      have hp : R64 p := hc _ (List.mem_singleton.2 rfl)
      have hr : IntKind.wrap .i64 (0 - p) = -p := by rw [wrap_I64 ⟨by have := hp.2; omega, by have := hp.1; omega⟩]; omega
      exact core_value fun β k a w _ _ hop => by
        have hxv := hop x (by simp [ho, Op.operands])
        rw [hx] at hxv
        simp only [AV.rel, DV.rel] at hxv
        exact ⟨_, by simp only [execOp, ho, hxv, Op.unary, Op.intArith, Sem.run_bind, Sem.run_pure, Result.andThen_ok, hr], rfl⟩
    · cases h
  · cases h
theorem tdiv_R64 {p q : Int} (hp : R64 p) : I64 (p.tdiv q) := by
  have h1 : (p.tdiv q).natAbs ≤ p.natAbs := by rw [Int.natAbs_tdiv]; exact Nat.div_le_self _ _
  have := hp.1; have := hp.2
  exact ⟨by omega, by omega⟩
theorem evQuo64_ok {T U : TypeId} {x y : Operand} (ho : o.op = .binOp .quo T x y U) (hy : ∀ n, litInt y = some n → ∀ k q, ρ y = .d (.con (.int k q)) → q = n)
    (h : evQuo64 o y (ρ x) (ρ y) = some (cs, e)) (hc : ∀ c ∈ cs, c) : Core P G o ρ st e := by
  unfold evQuo64 at h
  split at h
  · rename_i p q hx hyv
    split at h
    · rename_i n hn
      obtain rfl := hy n hn _ _ hyv
      split at h
      · rename_i hn0
        simp only [decide_eq_false_iff_not] at hn0
        simp only [Option.some.injEq, Prod.mk.injEq] at h; obtain ⟨rfl, rfl⟩ := h
        have hr := wrap_I64 (tdiv_R64 (q := q) (hc _ (List.mem_singleton.2 rfl)))
        have := core_quo (P := P) (G := G) (st := st) ho hx hyv hn0
        rwa [hr] at this
      · cases h
    · simp only [Option.some.injEq, Prod.mk.injEq] at h; obtain ⟨rfl, rfl⟩ := h
      have hr := wrap_I64 (tdiv_R64 (q := q) (hc (R64 p) (by simp)))
      have := core_quo (P := P) (G := G) (st := st) ho hx hyv (hc (q ≠ 0) (by simp))
      rwa [hr] at this
  · cases h
theorem evConcat_ok {T U : TypeId} {x y : Operand} (ho : o.op = .binOp .add T x y U) (h : evConcat o (ρ x) (ρ y) = some (cs, e)) (hc : ∀ c ∈ cs, c) : Core P G o ρ st e := by
  unfold evConcat at h
  split at h
  · rename_i p q hx hy
    simp only [Option.some.injEq, Prod.mk.injEq] at h
    obtain ⟨rfl, rfl⟩ := h
    exact core_concat ho hx hy (hc _ (List.mem_singleton.2 rfl))
  · cases h
theorem evEq_ok {neq : Bool} {T U : TypeId} {x y : Operand} (ho : o.op = .binOp (if neq then .neq else .eql) T x y U) (h : evEq P o neq T (ρ x) (ρ y) = some (cs, e)) : Core P G o ρ st e := by
  unfold evEq at h
  split at h
  · rename_i fs xs ys h1 h2 h3
    split at h
    · rename_i c h4
      simp only [Option.some.injEq, Prod.mk.injEq] at h
      obtain ⟨rfl, rfl⟩ := h
      exact core_eq ho h1 h2 h3 h4
    · cases h
  · cases h
theorem orElse_ok {a b : Option (List Prop × Ev)} {x : List Prop × Ev} (h : orElse a b = some x) : a = some x ∨ b = some x := by
  cases a with
  | some y => exact .inl h
  | none => exact .inr h
theorem evBin_ok {op : BinOp} {T U : TypeId} {x y : Operand} (ho : o.op = .binOp op T x y U) (hy : ∀ n, litInt y = some n → ∀ k q, ρ y = .d (.con (.int k q)) → q = n)
    (h : evBin P o ρ op T x y = some (cs, e)) (hc : ∀ c ∈ cs, c) : Core P G o ρ st e := by
  unfold evBin at h
  split at h
  · rcases orElse_ok h with h | h
    · exact evQuo64_ok ho hy h hc
    · exact evDiv_ok (rem := false) ho hy h hc
  · exact evDiv_ok (rem := true) ho hy h hc
  · rcases orElse_ok h with h | h
    · exact evConcat_ok ho h hc
    · rcases orElse_ok h with h | h
      · exact evArith_ok ho h hc
      · exact evPure_ok h
  · rcases orElse_ok h with h | h
    · exact evArith_ok ho h hc
    · exact evPure_ok h
  · rcases orElse_ok h with h | h
    · exact evArith_ok ho h hc
    · exact evPure_ok h
  · rcases orElse_ok h with h | h
    · exact evEq_ok (neq := false) ho h
    · exact evPure_ok h
  · rcases orElse_ok h with h | h
    · exact evEq_ok (neq := true) ho h
    · exact evPure_ok h
  · exact evPure_ok h
theorem evalOp_ok (hlit : ∀ (y : Operand) n, litInt y = some n → ∀ k q, ρ y = .d (.con (.int k q)) → q = n) (h : evalOp P G orc o ρ st = some (cs, e)) (hc : ∀ c ∈ cs, c) : Core P G o ρ st e := by
  unfold evalOp at h
  split at h
  case h_1 x ho => simp only [Option.some.injEq, Prod.mk.injEq] at h; obtain ⟨rfl, rfl⟩ := h; exact core_move (.inl ho)
  case h_2 x ho => simp only [Option.some.injEq, Prod.mk.injEq] at h; obtain ⟨rfl, rfl⟩ := h; exact core_move (.inr ho)
  case h_3 T ho =>
    unfold evAlloc at h
    split at h
    · rename_i s l hs hz
      simp only [Option.some.injEq, Prod.mk.injEq] at h; obtain ⟨rfl, rfl⟩ := h
      exact core_alloc ho hs hz
    · cases h
  case h_4 T x ho =>
    unfold evBox at h
    split at h
    · rename_i s l hs hz
      split at h
      · rename_i hf
        simp only [Option.some.injEq, Prod.mk.injEq] at h; obtain ⟨rfl, rfl⟩ := h
        exact core_box ho hs hz hf
      · cases h
    · cases h
  case h_5 T parts ho =>
    unfold evBuild at h
    split at h
    · rename_i z pl m h1 h2 h3
      split at h
      · rename_i l hl
        simp only [Option.some.injEq, Prod.mk.injEq] at h; obtain ⟨rfl, rfl⟩ := h
        exact core_build ho h1 h2 h3 hl
      · cases h
    · cases h
  case h_6 T n parts ho =>
    unfold evBuildSlice at h
    split at h
    · rename_i E hE
      split at h
      · rename_i sz z m h1 h2 h3
        split at h
        · rename_i l hl
          split at h
          · rename_i ds hd
            split at h
            · rename_i hcond
              simp only [Bool.and_eq_true, Bool.or_eq_true, Nat.beq_eq] at hcond
              simp only [Option.some.injEq, Prod.mk.injEq] at h; obtain ⟨rfl, rfl⟩ := h
              exact core_buildSlice ho hE h1 hcond.1 h2 h3 hl hd hcond.2.1 hcond.2.2
            · cases h
          · cases h
        · cases h
      · cases h
    · cases h
  case h_7 T p ho =>
    unfold evLoad at h
    split at h
    · rename_i n hu hz
      split at h
      · rename_i s off hp
        split at h
        · rename_i l hb
          split at h
          · rename_i x hn hx
            simp only [Nat.beq_eq] at hn
            simp only [Option.some.injEq, Prod.mk.injEq] at h; obtain ⟨rfl, rfl⟩ := h
            exact core_load_box ho hp hu hz hb hn hx
          · cases h
        · cases h
      · rename_i l hp
        split at h
        · rename_i x hn hx
          simp only [Nat.beq_eq] at hn
          simp only [Option.some.injEq, Prod.mk.injEq] at h; obtain ⟨rfl, rfl⟩ := h
          exact core_load_ptr ho hp hu hz hn hx
        · cases h
      · cases h
    · cases h
  case h_8 T p x ho =>
    unfold evStore at h
    split at h
    · rename_i n s off l hd hz hp hcx
      split at h
      · rename_i lb hb
        split at h
        · rename_i hcond
          simp only [Bool.and_eq_true, Nat.beq_eq, Nat.ble_eq] at hcond
          simp only [Option.some.injEq, Prod.mk.injEq] at h; obtain ⟨rfl, rfl⟩ := h
          exact core_store ho hd hp hz hcx hcond.1 hb hcond.2
        · cases h
      · cases h
    · cases h
  case h_9 x ho =>
    unfold evNil at h
    split at h
    · rename_i hn
      simp only [Option.some.injEq, Prod.mk.injEq] at h; obtain ⟨rfl, rfl⟩ := h
      exact core_nilCheck ho hn
    · cases h
  case h_10 T x i ho =>
    unfold evFieldAddr at h
    split at h
    · rename_i f hf
      split at h
      · rename_i n y hz hy
        simp only [Option.some.injEq, Prod.mk.injEq] at h; obtain ⟨rfl, rfl⟩ := h
        exact core_fieldAddr ho hf hz (by omega) hy
      · cases h
    · cases h
  case h_11 T x i ho =>
    unfold evField at h
    split at h
    · rename_i f hf
      split at h
      · rename_i n l hu hz hl
        split at h
        · rename_i y hy
          simp only [Option.some.injEq, Prod.mk.injEq] at h; obtain ⟨rfl, rfl⟩ := h
          exact core_field ho hf hu hz hl hy
        · cases h
      · cases h
    · cases h
  case h_12 T x i ho =>
    unfold evIndexAddr at h
    split at h
    · rename_i E sz n f k m hE hx hi
      split at h
      · rename_i sz' l hz hl
        split at h
        · rename_i hs
          simp only [Nat.beq_eq] at hs; subst hs
          simp only [Option.some.injEq, Prod.mk.injEq] at h; obtain ⟨rfl, rfl⟩ := h
          exact core_indexAddr ho hE hx hz hi (hc _ (List.mem_singleton.2 rfl)) hl
        · cases h
      · cases h
    · cases h
  case h_13 T x i ho =>
    unfold evIndex at h
    split at h
    · rename_i s k m hT hx hi
      simp only [Option.some.injEq, Prod.mk.injEq] at h; obtain ⟨rfl, rfl⟩ := h
      exact core_index_str ho hT hx hi (hc _ (List.mem_singleton.2 rfl))
    · cases h
  case h_14 t i ho =>
    unfold evExtract at h
    split at h
    · rename_i l hl
      split at h
      · rename_i y hy
        simp only [Option.some.injEq, Prod.mk.injEq] at h; obtain ⟨rfl, rfl⟩ := h
        exact core_extract ho hl hy
      · cases h
    · cases h
  case h_15 f x c ho => simp only [Option.some.injEq, Prod.mk.injEq] at h; obtain ⟨rfl, rfl⟩ := h; exact core_makeFunc ho
  case h_16 op T x y U ho => exact evBin_ok ho (hlit y) h hc
  case h_17 op T x ho =>
    rcases orElse_ok h with h | h
    · exact evNeg_ok ho h hc
    · exact evPure_ok h
  case h_18 T x lo hi ho =>
    unfold evSlice at h
    split at h
    · rename_i s hx
      split at h
      · rename_i l m hT hl hm
        simp only [Option.some.injEq, Prod.mk.injEq] at h; obtain ⟨rfl, rfl⟩ := h
        exact core_slice_str ho hT hx hl hm (hc _ (List.mem_singleton.2 rfl))
      · cases h
    · rename_i sz n f hx
      split at h
      · rename_i E l m hT hl hm
        split at h
        · rename_i sz' hz
          split at h
          · rename_i hs
            simp only [Nat.beq_eq] at hs; subst hs
            simp only [Option.some.injEq, Prod.mk.injEq] at h; obtain ⟨rfl, rfl⟩ := h
            exact core_slice_slc ho hT hx hz hl hm (hc _ (List.mem_singleton.2 rfl))
          · cases h
        · cases h
      · cases h
    · cases h
  case h_19 c ho =>
    unfold evCall at h
    split at h
    · rename_i x hcl
      split at h
      · rename_i g a1 a2 hx
        split at h
        · rename_i ds hd
          split at h
          · rename_i r hr
            simp only [Option.some.injEq, Prod.mk.injEq] at h; obtain ⟨rfl, rfl⟩ := h
            exact core_callFn ho hcl hx hd (hc _ (List.mem_singleton.2 rfl))
          · cases h
        · cases h
      · cases h
    · rename_i hcl
      split at h
      · rename_i x T ha ht
        split at h
        · rename_i sz n f E hx hE
          simp only [Option.some.injEq, Prod.mk.injEq] at h; obtain ⟨rfl, rfl⟩ := h
          exact core_len ho hcl (by rw [← Array.toArray_toList (xs := c.args), ha]) (by rw [← Array.toArray_toList (xs := c.argTypes), ht]) hE hx
        · exact evPure_ok h
      · exact evPure_ok h
    · exact evPure_ok h
  case h_20 src dst x ho =>
    rcases orElse_ok h with h | h
    · unfold evConvert at h
      split at h
      · rename_i n f hx
        split at h
        · rename_i hcond
          simp only [Bool.and_eq_true] at hcond
          simp only [Option.some.injEq, Prod.mk.injEq] at h; obtain ⟨rfl, rfl⟩ := h
          exact core_bytesStr ho hcond.1 hcond.2 hx (hc _ (List.mem_singleton.2 rfl))
        · cases h
      · cases h
    · exact evPure_ok h
  case h_21 => exact evPure_ok h
end
end Go.Ab
