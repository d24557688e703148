import Derived.Test.YtpognhmelecaoaaGreatDoorAcD
import Derived.Test.YtpognhmelecaoaaGreatDoorEK
set_option autoImplicit false
namespace Go.Proofs
open Go Go.Ab Go.RowKit
set_option maxHeartbeats 4000000
set_option maxRecDepth 100000
variable {G : IH}
/-! The trend of an expression. -/
def trC (k : Int) (R : List Int) (b0 b1 : BR) : Int :=
  if k = 2 then 1 else if k = 5 ∨ k = 18 then oppI (R.getD 0 0) else if k = 7 ∨ k = 16 ∨ k = 17 then comI [R.getD 0 0, oppI (R.getD 1 0)]
  else if k = 14 ∨ k = 15 then comI [oppI (R.getD 0 0), R.getD 1 0] else if k = 8 then comI [seeB b1 (R.getD 0 0), seeB b0 (R.getD 1 0)]
  else if k = 9 then (if (!b1.2 || sgnI b1.1.a b1.1.c == 0) = true then 3 else comI [seeB b1 (R.getD 0 0), seeB b0 (oppI (R.getD 1 0))])
  else comI R
mutual
def trE (l : List Fc) (s : ByteArray) : Ex → Int
  | .mk k t n d p kids => if occE s (.mk k t n d p kids) = true then (if (k == 12 || k == 13) = true then 3 else trC k (trL l s kids) (bnE l (kids.getD 0 ex0)) (bnE l (kids.getD 1 ex0))) else 0
def trL (l : List Fc) (s : ByteArray) : List Ex → List Int
  | [] => []
  | x :: r => trE l s x :: trL l s r
end
theorem trL_map (l : List Fc) (s : ByteArray) : ∀ r : List Ex, trL l s r = r.map (trE l s)
  | [] => rfl
  | x :: r => by simp only [trL, List.map_cons, trL_map l s r]
theorem trE_eq (l : List Fc) (s : ByteArray) (x : Ex) : trE l s x = if occE s x = true then (if (x.k == 12 || x.k == 13) = true then 3 else trC x.k (trL l s x.kids) (bnE l (x.kids.getD 0 ex0)) (bnE l (x.kids.getD 1 ex0))) else 0 := by
  cases x; simp only [trE, Ex.k, Ex.kids]; rfl
theorem trL_get {l : List Fc} {s : ByteArray} {r : List Ex} {i : Nat} (hi : i < r.length) : (trL l s r).getD i 0 = trE l s (r.getD i ex0) := by
  rw [trL_map, List.getD, List.getElem?_map, List.getElem?_eq_getElem hi, List.getD, List.getElem?_eq_getElem hi]; rfl
section
variable {k : Int} {R : List Int} {b0 b1 : BR}
theorem trC_2 (h : k = 2) : trC k R b0 b1 = 1 := by unfold trC; rw [if_pos h]
theorem trC_5 (h : k = 5 ∨ k = 18) : trC k R b0 b1 = oppI (R.getD 0 0) := by unfold trC; rw [if_neg (by omega), if_pos h]
theorem trC_7 (h : k = 7 ∨ k = 16 ∨ k = 17) : trC k R b0 b1 = comI [R.getD 0 0, oppI (R.getD 1 0)] := by unfold trC; rw [if_neg (by omega), if_neg (by omega), if_pos h]
theorem trC_14 (h : k = 14 ∨ k = 15) : trC k R b0 b1 = comI [oppI (R.getD 0 0), R.getD 1 0] := by unfold trC; rw [if_neg (by omega), if_neg (by omega), if_neg (by omega), if_pos h]
theorem trC_8 (h : k = 8) : trC k R b0 b1 = comI [seeB b1 (R.getD 0 0), seeB b0 (R.getD 1 0)] := by unfold trC; rw [if_neg (by omega), if_neg (by omega), if_neg (by omega), if_neg (by omega), if_pos h]
theorem trC_9 (h : k = 9) : trC k R b0 b1 = if (!b1.2 || sgnI b1.1.a b1.1.c == 0) = true then 3 else comI [seeB b1 (R.getD 0 0), seeB b0 (oppI (R.getD 1 0))] := by unfold trC; rw [if_neg (by omega), if_neg (by omega), if_neg (by omega), if_neg (by omega), if_neg (by omega), if_pos h]
theorem trC_z (h : ¬ k = 2 ∧ ¬ k = 5 ∧ ¬ k = 18 ∧ ¬ k = 7 ∧ ¬ k = 16 ∧ ¬ k = 17 ∧ ¬ k = 14 ∧ ¬ k = 15 ∧ ¬ k = 8 ∧ ¬ k = 9) : trC k R b0 b1 = comI R := by unfold trC; rw [if_neg (by omega), if_neg (by omega), if_neg (by omega), if_neg (by omega), if_neg (by omega), if_neg (by omega)]
end
noncomputable def orcTr (l : List Fc) : Oracle := fun f a => match f, a with
  | 44, [e, .con (.string s)] => some (db (occE s (rdE e)))
  | 45, [_, e, .con (.string s)] => some (di (trE l s (rdE e)))
  | 46, [_, e] => some (.tup [bdD (bnE l (rdE e)).1, db (bnE l (rdE e)).2])
  | 84, [.con (.int .i64 t)] => some (di (oppI t))
  | 85, [w] => some (di (comI (rdL w)))
  | 86, [_, .con (.int .i64 t), e] => some (di (seeB (bnE l (rdE e)) t))
  | 87, [.agg [.con (.int .i64 a), _, .con (.int .i64 c), _]] => some (di (sgnI a c))
  | _, _ => none
abbrev i1K : RK := ⟨false, 3, false, none⟩
def rowT (l : List Fc) (s : ByteArray) (x : Ex) : Nat → Nat → DV := rowRec (fun _ => DV.con undef) false 1 fun j => [di (trE l s (x.kids.getD j ex0))]
theorem rowT_next {l : List Fc} {s : ByteArray} {x : Ex} (k : Nat) {d : DV} (h : d = di (trE l s (x.kids.getD k ex0))) : (fun i => bif Nat.blt i k then rowT l s x k i else elemF false 1 [d] (i - k)) = rowT l s x (k + 1) := by
  subst h; rfl
noncomputable def S45 (l : List Fc) (ws : List ByteArray) (s : ByteArray) (m : Nat) (x : Ex) (k : Nat) : AS := ⟨regs Tryz.f45.ntmps [(0, .d (wrD l ws)), (2, .d (ds s)), (4, .box 4 0), (7, .vec 900 1 0 k), (25, .d (.slc 6 x.kids.length (lay (exG m) x.kids))), (26, vi x.kids.length), (27, vi k)], [(4, exC m x), (900, [.arr i1K 1 (rowT l s x k)])]⟩
theorem f45 (l : List Fc) (ws : List ByteArray) (s : ByteArray) (m : Nat) : ∀ (x : Ex), ht x ≤ m → Sm x → sndE x = true → (tyE l ws x).2.2 = 0 → FnOK Tryz.prog G 45 [wrD l ws, exD m x, ds s] (di (trE l s x)) := by
  induction m using Nat.strongRecOn with
  | _ m ih =>
  intro x hx hs hsn hty
  have hlen := hs.len.1
  have h45 : ∀ i, i < x.kids.length → FnOK Tryz.prog G 45 [wrD l ws, kidA m x i, ds s] (di (trE l s (x.kids.getD i ex0))) := fun i hi =>
    kidOK (Q := fun d => FnOK Tryz.prog G 45 [wrD l ws, d, ds s] _) hx hi fun m' h1 h2 => ih m' h1 _ h2 (hs.kid hi) (snd_kid hsn hi) ((tyE_fine hty).1 i hi)
  have hnum : ∀ i, i < x.kids.length → x.k = 8 ∨ x.k = 9 → numE (x.kids.getD i ex0) = true := fun i hi hk =>
    num_of _ _ (Nat.le_refl _) (snd_kid hsn hi) ((tyE_fine hty).1 i hi) ((ty_kids hty).1 (.inl (by omega)) i hi)
  have h46 : ∀ i, i < x.kids.length → x.k = 8 ∨ x.k = 9 → FnOK Tryz.prog G 46 [wrD l ws, kidA m x i] (.tup [bdD (bnE l (x.kids.getD i ex0)).1, db (bnE l (x.kids.getD i ex0)).2]) := fun i hi hk =>
    kidOK (Q := fun d => FnOK Tryz.prog G 46 [wrD l ws, d] _) hx hi fun m' h1 h2 => f46 l ws m' _ h2 (hs.kid hi) (snd_kid hsn hi) (hnum i hi hk)
  have h86 : ∀ i, i < x.kids.length → x.k = 8 ∨ x.k = 9 → ∀ t, FnOK Tryz.prog G 86 [wrD l ws, di t, kidA m x i] (di (seeB (bnE l (x.kids.getD i ex0)) t)) := fun i hi hk t =>
    kidOK (Q := fun d => FnOK Tryz.prog G 86 [wrD l ws, di t, d] _) hx hi fun m' h1 h2 => f86 l ws m' _ t h2 (hs.kid hi) (snd_kid hsn hi) (hnum i hi hk)
  have er : ∀ i, i < x.kids.length → rdE (kidA m x i) = x.kids.getD i ex0 := fun i hi => kid_rd hx hi
  have e : rdE (exV x.k x.s x.n x.d x.pos x.kids.length (lay (exG m) x.kids)) = x := rdE_eq hx
  have et := trE_eq l s x
  refine FnOK.walk (orc := orcTr l) (keep := []) follows Tryz.func45 rfl Tryz.call45 ?_
  refine of_tr (fun ZT ZW ZQ ZK => (ZK 44 [(ndX m x), (ds s)] (db (occE s (rdE (ndX m x)))) ∧ (((!occE s (rdE (ndX m x))) = true) → (((di 0) : DV) = (di (trE l s x)))) ∧ (((!occE s (rdE (ndX m x))) = false) → ((((x.k == 12 || x.k == 13) = true) → (((di 3) : DV) = (di (trE l s x)))) ∧ (((x.k == 12 || x.k == 13) = false) → ZW [cd Tryz.f45 [1, 1, 1, 1, 0, 1, 0], (.blk 0), cd Tryz.f45 [1, 1, 1, 1, 1]] (stS ZT [1, 1]) ZQ))))) (by kernel_rfl) ?_
  simp only [e]
  refine ⟨f44 s m x hx hs, fun h1 => ?_, fun h1 => ⟨fun h2 => ?_, fun h2 => ?_⟩⟩
  · rw [et, if_neg (by simpa using h1)]
  · rw [et, if_pos (by simpa using h1), if_pos h2]
  rw [if_pos (by simpa using h1), if_neg (by rw [h2]; decide)] at et
  rw [et]
  refine AWP.pre (.nilRow _ 7 900 1 i1K (rowT l s x 0) (by kernel_rfl) (by kernel_rfl)) ?_
  refine AWP.loop (c := cAt (bodyOf Tryz.f45) [1, 1, 1, 1, 0, 1, 0, 0]) (by kernel_rfl) (S45 l ws s m x) (fun k => k ≤ x.kids.length) (fun k => x.kids.length - k) 0 ?_ (Nat.zero_le _) ?_
  · exact AS.leA (by kernel_rfl)
  · rintro k hk
    refine walk (orc := orcTr l) (keep := []) (cuts := []) (n := 1000) follows ?_
    refine of_eqH4 (x.kids.getD (↑k : Int).toNat ex0) ((.ptr [(.mp none (fV l) (fH l)), (.mp none (wV ws) (wL ws))]) : DV) ((.d (.slc 6 x.kids.length (lay (exG m) x.kids))) : AV) (decide ((↑k : Int) < ↑x.kids.length)) (fun Za Zb Zc Zd => (((Zd = true) → (((0 ≤ (↑k : Int)) ∧ ((↑k : Int) < ↑x.kids.length)) ∧ (FnOK Tryz.prog G 45 [Zb, (ndA m Za), (ds s)] (di (trE l s (rdE (ndA m Za)))) ∧ (((k + 1) * 8 ≤ 1099511627776) ∧ (k + 1 ≤ 1099511627776)) ∧ (∀ (i : Nat), i < 1 → elemOK false 1 (elemF false 1 [DV.con (Value.int IntKind.i64 (trE l s (rdE (ndA m Za))))] i) = true)) ∧ (I64 (↑k + 1)) ∧ Again (S45 l ws s m x) (fun k => k ≤ x.kids.length) (fun k => x.kids.length - k) k ⟨regs 138 [(0, (.d Zb)), (2, (vs s)), (4, (.box 4 0)), (7, (.vec 37 1 0 (k + 1))), (9, (.box 9 0)), (25, Zc), (26, (vi (↑x.kids.length))), (27, (vi (↑k + 1))), (28, (vb Zd)), (29, (.d (.ptr [(di Za.k), (ds Za.s), (di Za.n), (di Za.d), (di Za.pos), (.slc 6 Za.kids.length (exG m Za.kids))]))), (30, (.d (ndA m Za))), (31, (.vec 900 1 0 k)), (32, (.d Zb)), (33, (.d (ndA m Za))), (34, (vs s)), (35, (vi (trE l s (rdE (ndA m Za))))), (36, (.d (.slc 1 1 (elemF false 1 [(di (trE l s (rdE (ndA m Za))))])))), (37, (.vec 37 1 0 (k + 1))), (38, (vi (↑k + 1)))], [(37, [(.arr ⟨false, 3, false, none⟩ 1 (fun i => bif i.blt k then rowT l s x k i else elemF false 1 [DV.con (Value.int IntKind.i64 (trE l s (rdE (ndA m Za))))] (i - k)))]), (9, [(vi Za.k), (vs Za.s), (vi Za.n), (vi Za.d), (vi Za.pos), (.d (.slc 6 Za.kids.length (exG m Za.kids)))]), (4, [(vi x.k), (vs x.s), (vi x.n), (vi x.d), (vi x.pos), Zc]), (900, [.dead])]⟩)) ∧ ((Zd = false) → AWP Tryz.prog G [cd Tryz.f45 [1, 1, 1, 1, 1]] ⟨regs 138 [(0, (.d Zb)), (2, (vs s)), (4, (.box 4 0)), (7, (.vec 900 1 0 k)), (25, Zc), (26, (vi (↑x.kids.length))), (27, (vi (↑k))), (28, (vb Zd))], [(4, [(vi x.k), (vs x.s), (vi x.n), (vi x.d), (vi x.pos), Zc]), (900, [(.arr ⟨false, 3, false, none⟩ 1 (rowT l s x k))])]⟩ (Ret Tryz.prog Tryz.f45 (di (trC x.k (trL l s x.kids) (bnE l (x.kids.getD 0 ex0)) (bnE l (x.kids.getD 1 ex0)))))))) (by kernel_rfl) ?_
    simp only [Int.toNat_natCast]
    refine ⟨fun h => ?_, fun h => ?_⟩
    · have hk2 : k < x.kids.length := by have := of_decide_eq_true h; omega
      have er : rdE (kidA m x k) = x.kids.getD k ex0 := kid_rd hx hk2
      have hh := h45 k hk2
      simp only [er]
      refine ⟨⟨by omega, by omega⟩, ⟨hh, ⟨by omega, by omega⟩, fun i hi => (by obtain rfl : i = 0 := (by omega); rfl)⟩, ⟨by omega, by omega⟩, Again.mkR [(37, 900)] rfl (k + 1) ?_ hk2 (by omega)⟩
      refine of_eq1 ((.d (.slc 6 x.kids.length (lay (exG m) x.kids))) : AV) (fun Za => ((((.d (.ptr [(.mp none (fV l) (fH l)), (.mp none (wV ws) (wL ws))])) : AV) = (.d (.ptr [(.mp none (fV l) (fH l)), (.mp none (wV ws) (wL ws))])) ∧ ((vs s) : AV) = (vs s) ∧ ((.box 4 0) : AV) = (.box 4 0) ∧ ((.vec 900 1 0 (k + 1)) : AV) = (.vec 900 1 0 (k + 1)) ∧ (Za : AV) = Za ∧ ((vi (↑x.kids.length)) : AV) = (vi (↑x.kids.length)) ∧ ((vi (↑k + 1)) : AV) = (vi (↑(k + 1))) ∧ True) ∧ ((some [(vi x.k), (vs x.s), (vi x.n), (vi x.d), (vi x.pos), Za]) : (Option (List AV))) = (some [(vi x.k), (vs x.s), (vi x.n), (vi x.d), (vi x.pos), Za]) ∧ ((some [(.arr ⟨false, 3, false, none⟩ 1 (fun i => bif i.blt k then rowT l s x k i else elemF false 1 [DV.con (Value.int IntKind.i64 (trE l s (x.kids.getD k ex0)))] (i - k)))]) : (Option (List AV))) = (some [(.arr ⟨false, 3, false, none⟩ 1 (rowT l s x (k + 1)))]) ∧ True)) (by kernel_rfl) ?_
      refine ⟨⟨rfl, rfl, rfl, rfl, rfl, rfl, rfl, trivial⟩, rfl, ?_, trivial⟩
      exact congrArg (fun f => some [AV.arr i1K 1 f]) (rowT_next k rfl)
    · have h := of_decide_eq_false h
      obtain rfl : k = x.kids.length := by omega
      have hRl : (trL l s x.kids).length = x.kids.length := by rw [trL_map, List.length_map]
      refine AWP.freeze (agg := i1K) (sz := 1) (f := rowT l s x x.kids.length) 900 (by kernel_rfl) ?_
      refine AWP.pre (.reg _ 7 (.d (inD (trL l s x.kids))) fun β h v hv => ?_) ?_
      · have hv : DV.rel h (.slc 1 x.kids.length fun i => rowT l s x x.kids.length (0 + i)) v := hv
        show DV.rel h (.slc 1 (trL l s x.kids).length _) v
        rw [hRl]
        refine DV.rel_slc_congr (fun i hi => ?_) hv
        rw [Nat.zero_add]
        unfold rowT inF
        rw [rowRec_get hi, trL_get hi]; rfl
      have hrk := rk_all hsn
      have hone := @snd_one x hsn
      have htwo := @snd_two x hsn
      clear et ih h45 hk h h1 h2 hnum
      have h2e : ∀ (a b : Int), rdL (.slc 1 2 (elemF false 1 [di a, di b])) = [a, b] := fun a b => rfl
      have h2r : ∀ (a b : Int) (k : IH) (v : Value), DV.rel k (.slc 1 2 (elemF false 1 [di a, di b])) v → DV.rel k (inD [a, b]) v := fun a b k v hv => DV.rel_slc_congr (fun i hi => by
        rcases i with _ | _ | i
        · rfl
        · rfl
        · exact absurd hi (by simp)) hv
      have h2f : ∀ (a b : Int), FnOK Tryz.prog G 85 [.slc 1 2 (elemF false 1 [di a, di b])] (di (comI [a, b])) := fun a b => (f85 [a, b] (by simp)).args fun k us h => DV.rels_cons (h2r a b k) (fun _ h => h) us h
      generalize trL l s x.kids = R at *
      refine walkK (orc := orcTr l) (keep := []) (cuts := []) (n := 1000) follows ?_
      refine of_tr (fun _ _ _ ZK => (fun Za Zb Zc Zd Ze Zf Zg Zh Zi => ((((x.k == 2) = true) → (((di 1) : DV) = Zc)) ∧ (((x.k == 2) = false) → ((((x.k == 5) = true) → (((((0 : Int) ≤ (0 : Int)) ∧ (0 < (↑R.length : Int))) ∧ ZK 84 [(di (R.getD (Int.toNat 0) 0))] Zg) ∧ (Zg : DV) = Zc)) ∧ (((x.k == 5) = false) → ((((x.k == 18) = true) → (((((0 : Int) ≤ (0 : Int)) ∧ (0 < (↑R.length : Int))) ∧ ZK 84 [(di (R.getD (Int.toNat 0) 0))] Zg) ∧ (Zg : DV) = Zc)) ∧ (((x.k == 18) = false) → ((((x.k == 7) = true) → (((((0 : Int) ≤ (0 : Int)) ∧ (0 < (↑R.length : Int))) ∧ (((0 : Int) ≤ (1 : Int)) ∧ (1 < (↑R.length : Int))) ∧ ZK 84 [(di (R.getD (Int.toNat 1) 0))] (di Zf) ∧ ZK 85 [(.slc 1 2 (elemF false 1 [(di (R.getD (Int.toNat 0) 0)), (di Zf)]))] Zb) ∧ (Zb : DV) = Zc)) ∧ (((x.k == 7) = false) → ((((x.k == 16) = true) → (((((0 : Int) ≤ (0 : Int)) ∧ (0 < (↑R.length : Int))) ∧ (((0 : Int) ≤ (1 : Int)) ∧ (1 < (↑R.length : Int))) ∧ ZK 84 [(di (R.getD (Int.toNat 1) 0))] (di Zf) ∧ ZK 85 [(.slc 1 2 (elemF false 1 [(di (R.getD (Int.toNat 0) 0)), (di Zf)]))] Zb) ∧ (Zb : DV) = Zc)) ∧ (((x.k == 16) = false) → ((((x.k == 17) = true) → (((((0 : Int) ≤ (0 : Int)) ∧ (0 < (↑R.length : Int))) ∧ (((0 : Int) ≤ (1 : Int)) ∧ (1 < (↑R.length : Int))) ∧ ZK 84 [(di (R.getD (Int.toNat 1) 0))] (di Zf) ∧ ZK 85 [(.slc 1 2 (elemF false 1 [(di (R.getD (Int.toNat 0) 0)), (di Zf)]))] Zb) ∧ (Zb : DV) = Zc)) ∧ (((x.k == 17) = false) → ((((x.k == 14) = true) → (((((0 : Int) ≤ (0 : Int)) ∧ (0 < (↑R.length : Int))) ∧ ZK 84 [(di (R.getD (Int.toNat 0) 0))] Zg ∧ (((0 : Int) ≤ (1 : Int)) ∧ (1 < (↑R.length : Int))) ∧ ZK 85 [(.slc 1 2 (elemF false 1 [Zg, (di (R.getD (Int.toNat 1) 0))]))] Zd) ∧ (Zd : DV) = Zc)) ∧ (((x.k == 14) = false) → ((((x.k == 15) = true) → (((((0 : Int) ≤ (0 : Int)) ∧ (0 < (↑R.length : Int))) ∧ ZK 84 [(di (R.getD (Int.toNat 0) 0))] Zg ∧ (((0 : Int) ≤ (1 : Int)) ∧ (1 < (↑R.length : Int))) ∧ ZK 85 [(.slc 1 2 (elemF false 1 [Zg, (di (R.getD (Int.toNat 1) 0))]))] Zd) ∧ (Zd : DV) = Zc)) ∧ (((x.k == 15) = false) → ((((x.k == 8) = true) → (((((0 : Int) ≤ (0 : Int)) ∧ (0 < (↑R.length : Int))) ∧ (((0 : Int) ≤ (1 : Int)) ∧ (1 < (↑x.kids.length : Int))) ∧ ZK 86 [Zh, (di (R.getD (Int.toNat 0) 0)), Zi] (di (seeB Za (R.getD (Int.toNat 0) 0))) ∧ (((0 : Int) ≤ (1 : Int)) ∧ (1 < (↑R.length : Int))) ∧ (((0 : Int) ≤ (0 : Int)) ∧ (0 < (↑x.kids.length : Int))) ∧ ZK 86 [Zh, (di (R.getD (Int.toNat 1) 0)), (ndA m (x.kids.getD (Int.toNat 0) ex0))] (di (seeB Ze (R.getD (Int.toNat 1) 0))) ∧ ZK 85 [(.slc 1 2 (elemF false 1 [(di (seeB Za (R.getD (Int.toNat 0) 0))), (di (seeB Ze (R.getD (Int.toNat 1) 0)))]))] (di (comI (rdL (DV.slc 1 2 (elemF false 1 [DV.con (Value.int IntKind.i64 (seeB Za (R.getD (Int.toNat 0) 0))), DV.con (Value.int IntKind.i64 (seeB Ze (R.getD (Int.toNat 1) 0)))])))))) ∧ ((di (comI (rdL (DV.slc 1 2 (elemF false 1 [DV.con (Value.int IntKind.i64 (seeB Za (R.getD (Int.toNat 0) 0))), DV.con (Value.int IntKind.i64 (seeB Ze (R.getD (Int.toNat 1) 0)))]))))) : DV) = Zc)) ∧ (((x.k == 8) = false) → ((((x.k == 9) = true) → (((((0 : Int) ≤ (1 : Int)) ∧ (1 < (↑x.kids.length : Int))) ∧ ZK 46 [Zh, Zi] (.tup [(bdD Za.fst), (db Za.snd)])) ∧ (((!!Za.snd) = true) → ZK 87 [(bdD Za.fst)] (di (sgnI Za.fst.a Za.fst.c))) ∧ (((!Za.snd || sgnI Za.fst.a Za.fst.c == 0) = true) → (((di 3) : DV) = Zc)) ∧ (((!Za.snd || sgnI Za.fst.a Za.fst.c == 0) = false) → (((((0 : Int) ≤ (0 : Int)) ∧ (0 < (↑R.length : Int))) ∧ (((0 : Int) ≤ (1 : Int)) ∧ (1 < (↑x.kids.length : Int))) ∧ ZK 86 [Zh, (di (R.getD (Int.toNat 0) 0)), Zi] (di (seeB Za (R.getD (Int.toNat 0) 0))) ∧ (((0 : Int) ≤ (1 : Int)) ∧ (1 < (↑R.length : Int))) ∧ ZK 84 [(di (R.getD (Int.toNat 1) 0))] (di Zf) ∧ (((0 : Int) ≤ (0 : Int)) ∧ (0 < (↑x.kids.length : Int))) ∧ ZK 86 [Zh, (di Zf), (ndA m (x.kids.getD (Int.toNat 0) ex0))] (di (seeB Ze Zf)) ∧ ZK 85 [(.slc 1 2 (elemF false 1 [(di (seeB Za (R.getD (Int.toNat 0) 0))), (di (seeB Ze Zf))]))] (di (comI (rdL (DV.slc 1 2 (elemF false 1 [DV.con (Value.int IntKind.i64 (seeB Za (R.getD (Int.toNat 0) 0))), DV.con (Value.int IntKind.i64 (seeB Ze Zf))])))))) ∧ ((di (comI (rdL (DV.slc 1 2 (elemF false 1 [DV.con (Value.int IntKind.i64 (seeB Za (R.getD (Int.toNat 0) 0))), DV.con (Value.int IntKind.i64 (seeB Ze Zf))]))))) : DV) = Zc)))) ∧ (((x.k == 9) = false) → (ZK 85 [(.slc 1 R.length (inF R))] (di (comI (rdL (DV.slc 1 R.length (inF R))))) ∧ ((di (comI (rdL (DV.slc 1 R.length (inF R))))) : DV) = Zc)))))))))))))))))))))) (bnE l (rdE (ndA m (x.kids.getD (Int.toNat 1) ex0)))) (di (comI (rdL (DV.slc 1 2 (elemF false 1 [DV.con (Value.int IntKind.i64 (R.getD (Int.toNat 0) 0)), DV.con (Value.int IntKind.i64 (oppI (R.getD (Int.toNat 1) 0)))]))))) (di (trC x.k R (bnE l (x.kids.getD 0 ex0)) (bnE l (x.kids.getD 1 ex0)))) (di (comI (rdL (DV.slc 1 2 (elemF false 1 [DV.con (Value.int IntKind.i64 (oppI (R.getD (Int.toNat 0) 0))), DV.con (Value.int IntKind.i64 (R.getD (Int.toNat 1) 0))]))))) (bnE l (rdE (ndA m (x.kids.getD (Int.toNat 0) ex0)))) (oppI (R.getD (Int.toNat 1) 0)) (di (oppI (R.getD (Int.toNat 0) 0))) ((.ptr [(.mp none (fV l) (fH l)), (.mp none (wV ws) (wL ws))]) : DV) (ndA m (x.kids.getD (Int.toNat 1) ex0))) (by kernel_rfl) ?_
      have t0 : Int.toNat 0 = 0 := rfl
      have t1 : Int.toNat 1 = 1 := rfl
      simp only [rdL_eq, h2e, beq_iff_eq, beq_eq_false_iff_ne, ne_eq, t0, t1]
      have k1 : x.k = 5 ∨ x.k = 18 → 1 ≤ x.kids.length := fun h => by have := hone h; omega
      have k2 : x.k = 7 ∨ x.k = 8 ∨ x.k = 9 ∨ x.k = 14 ∨ x.k = 15 ∨ x.k = 16 ∨ x.k = 17 → 2 ≤ x.kids.length := fun h => by have := (htwo (by omega)).1; omega
      repeat' (first | (with_reducible refine And.intro ?_ ?_) | (with_reducible intro _))
      all_goals first
        | contradiction
        | (show (0:Int) ≤ _; omega)
        | (show (1:Int) < _; omega)
        | (show (0:Int) < _; omega)
        | exact f84 _
        | exact h2f _ _
        | exact f85 _ (by omega)
        | exact f87 _ _ _ _
        | rw [trC_2 (by omega)]
        | rw [trC_5 (by omega)]
        | rw [trC_7 (by omega)]
        | rw [trC_14 (by omega)]
        | rw [trC_z (by omega)]
        | (have q1 := er 1 (by omega)
           simp only [q1]
           exact h46 1 (by omega) (by omega))
        | (have q1 := er 1 (by omega)
           simp only [q1]
           exact h86 1 (by omega) (by omega) _)
        | (have q1 := er 0 (by omega)
           simp only [q1]
           exact h86 0 (by omega) (by omega) _)
        | (have q1 := er 1 (by omega)
           have q0 := er 0 (by omega)
           simp only [q1, q0]
           rw [trC_8 (by omega)])
        | (rename_i h9
           have q1 := er 1 (by omega)
           simp only [q1] at h9
           rw [trC_9 (by omega), if_pos h9])
        | (rename_i h9
           have q1 := er 1 (by omega)
           have q0 := er 0 (by omega)
           simp only [q1] at h9
           simp only [q1, q0]
           rw [trC_9 (by omega), if_neg (by rw [h9]; decide)])
        | skip
end Go.Proofs
set_option autoImplicit false
namespace Go.Proofs
open Go Go.Ab Go.RowKit
set_option maxHeartbeats 4000000
set_option maxRecDepth 100000
variable {G : IH}
theorem FnOK.res {P : Program} {f : FuncId} {xs : List DV} {r r' : DV} (h : FnOK P G f xs r) (hr : ∀ k v, r.rel k v → r'.rel k v) : FnOK P G f xs r' :=
  ⟨h.1, fun w k us hG hw hu => (h.2 w k us hG hw hu).mono fun _ _ ⟨v, h', e, hv, rest⟩ => ⟨v, h', e, hr h' v hv, rest⟩⟩
/-! Trend, and names that occur. -/
def trdR (L : List Fc) (x : Ex) (s : ByteArray) : Int := if ((typR L x).2.2 != 0 || (typR L x).1 == 2) = true then 3 else if (!fH (revF L L.length) (.string s)) = true then 3 else if (!occE s x) = true then 0 else if ((fM (revF L L.length) (.string s)).kind == 2) = true then 3 else trE (revF L L.length) s x
noncomputable def orcTd (L : List Fc) : Oracle := fun f a => match f, a with
  | 13, [e, _] => some (.tup [di (typR L (rdE e)).1, di (typR L (rdE e)).2.1, di (typR L (rdE e)).2.2])
  | 33, [e, _] => some (.tup [di (typR L (rdE e)).1, di (typR L (rdE e)).2.1, di (typR L (rdE e)).2.2])
  | 41, [_] => some (wrL L)
  | 44, [e, .con (.string s)] => some (db (occE s (rdE e)))
  | 60, [e, .con (.string s)] => some (db (occE s (rdE e)))
  | 45, [_, e, .con (.string s)] => some (di (trE (revF L L.length) s (rdE e)))
  | _, _ => none
theorem f15 (hT : Tab G) (m : Nat) (x : Ex) (s : ByteArray) (L : List Fc) (hx : ht x ≤ m) (hs : Sm x) (h : ∀ i, i < L.length → FcS (L.getD i fc0)) (hl : L.length ≤ 1000) : FnOK Tryz.prog G 15 [exD m x, ds s, fcsD L] (di (trdR L x s)) := by
  have e : rdE (exV x.k x.s x.n x.d x.pos x.kids.length (lay (exG m) x.kids)) = x := rdE_eq hx
  have hwd := fun i (hi : i < L.length) => (h i hi).ln
  refine FnOK.walk (orc := orcTd L) (keep := []) follows Tryz.func15 rfl Tryz.call15 ?_
  refine of_tr (fun _ _ _ ZK => (fun Za Zb => (ZK 13 [(ndX m x), (.slc 7 L.length (fcF L))] (.tup [(di (typR L (rdE (ndX m x))).fst), (di (typR L (rdE (ndX m x))).snd.fst), (di (typR L (rdE (ndX m x))).snd.snd)]) ∧ ((Zb = true) → (((di 3) : DV) = (di (trdR L x s)))) ∧ ((Zb = false) → (ZK 41 [(.slc 7 L.length (fcF L))] Za ∧ (((fH (revF L L.length) (Value.string s)) = false) → ((DV.agg (List.map DV.con [Value.string (ByteArray.mk #[]), Value.int IntKind.i64 0, Value.int IntKind.i64 0, Value.int IntKind.i64 0, Value.int IntKind.i64 0, Value.int IntKind.i64 0, Value.slice none 0 0])).imp (fV (revF L L.length) (Value.string s)))) ∧ (((!fH (revF L L.length) (Value.string s)) = true) → (((di 3) : DV) = (di (trdR L x s)))) ∧ (((!fH (revF L L.length) (Value.string s)) = false) → (ZK 44 [(ndX m x), (ds s)] (db (occE s (rdE (ndX m x)))) ∧ (((!occE s (rdE (ndX m x))) = true) → (((di 0) : DV) = (di (trdR L x s)))) ∧ (((!occE s (rdE (ndX m x))) = false) → (((((fM (revF L L.length) (Value.string s)).kind == 2) = true) → (((di 3) : DV) = (di (trdR L x s)))) ∧ ((((fM (revF L L.length) (Value.string s)).kind == 2) = false) → (ZK 45 [Za, (ndX m x), (ds s)] (di (trE (revF L L.length) s (rdE (ndX m x)))) ∧ ((di (trE (revF L L.length) s (rdE (ndX m x)))) : DV) = (di (trdR L x s)))))))))))) ((.ptr [(.mp none (fV (revF L L.length)) (fH (revF L L.length))), (.mp none (wV (revW L L.length)) (wL (revW L L.length)))]) : DV) ((typR L (rdE (ndX m x))).snd.snd != 0 || (typR L (rdE (ndX m x))).fst == 2)) (by kernel_rfl) ?_
  simp only [e]
  unfold trdR
  refine ⟨f13 hT m x L hx hs h hl, fun h1 => ?_, fun h1 => ⟨f41 L (by omega) (fun i hi => by have := hwd i hi; omega), fun h2 => zd_imp h2, fun h2 => ?_, fun h2 => ⟨f44 s m x hx hs, fun h3 => ?_, fun h3 => ⟨fun h4 => ?_, fun h4 => ⟨?_, ?_⟩⟩⟩⟩⟩
  · rw [if_pos h1]
  · rw [if_neg (by rw [h1]; decide), if_pos (by rw [h2])]
  · rw [if_neg (by rw [h1]; decide), if_neg (by rw [h2]; decide), if_pos h3]
  · rw [if_neg (by rw [h1]; decide), if_neg (by rw [h2]; decide), if_neg (by rw [h3]; decide), if_pos h4]
  · simp only [Bool.or_eq_false_iff, bne_eq_false_iff_eq] at h1
    obtain ⟨_, _, hsn, ht2, ht3⟩ := typ_ok h1.1
    exact f45 _ _ s m x hx hs hsn ht2
  · rw [if_neg (by rw [h1]; decide), if_neg (by rw [h2]; decide), if_neg (by rw [h3]; decide), if_neg (by rw [h4]; decide)]
/-! Names. -/
end Go.Proofs
