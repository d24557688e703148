import Derived.Test.YtpognhmelecaoaaGreatDoorAcD
import Derived.Test.YtpognhmelecaoaaGreatDoorEH
set_option autoImplicit false
namespace Go.Proofs
open Go Go.Ab Go.RowKit
set_option maxHeartbeats 4000000
set_option maxRecDepth 100000
variable {G : IH}
/-! Type. -/
theorem fM_words {l : List Fc} {N : Nat} (h : ∀ x ∈ l, x.words.length ≤ N) (v : Value) : (fM l v).words.length ≤ N := by
  induction l with
  | nil => exact Nat.zero_le _
  | cons x l ih =>
    unfold fM
    cases keyEq v (.string x.name) with
    | true => exact h x (List.mem_cons_self ..)
    | false => exact ih fun y hy => h y (List.mem_cons_of_mem _ hy)
theorem revF_words {L : List Fc} (h : ∀ i, i < L.length → FcS (L.getD i fc0)) (v : Value) : (fM (revF L L.length) v).words.length ≤ 1000 := by
  refine fM_words (fun x hx => ?_) v
  unfold revF at hx
  rw [List.take_length, List.mem_reverse] at hx
  obtain ⟨i, hi, rfl⟩ := List.getElem_of_mem hx
  have := (h i hi).ln
  rw [List.getD, List.getElem?_eq_getElem hi] at this
  exact this
abbrev tyW (L : List Fc) (x : Ex) : KR := tyE (revF L L.length) (revW L L.length) x
def typR (L : List Fc) (x : Ex) : KR := if (!vfB L || decide ((fmtX x).size = 0)) = true then (0, 0, 1) else if (tyW L x).2.2 ≠ 0 then (0, (tyW L x).2) else ((tyW L x).1, 0, 0)
noncomputable def orcTy (L : List Fc) : Oracle := fun f a => match f, a with
  | 21, [_] => some (db (vfB L))
  | 40, [e] => some (ds (fmtX (rdE e)))
  | 41, [_] => some (wrL L)
  | 43, [w] => some (kdM w)
  | 42, [_, e, _] => some (.tup [di (tyW L (rdE e)).1, .agg [di (tyW L (rdE e)).2.1, di (tyW L (rdE e)).2.2]])
  | _, _ => none
theorem f13 (hT : Tab G) (m : Nat) (x : Ex) (L : List Fc) (hx : ht x ≤ m) (hs : Sm x) (h : ∀ i, i < L.length → FcS (L.getD i fc0)) (hl : L.length ≤ 1000) : FnOK Tryz.prog G 13 [exD m x, fcsD L] (.tup [di (typR L x).1, di (typR L x).2.1, di (typR L x).2.2]) := by
  have e : rdE (exV x.k x.s x.n x.d x.pos x.kids.length (lay (exG m) x.kids)) = x := rdE_eq hx
  refine FnOK.walk (orc := orcTy L) (keep := []) follows Tryz.func13 rfl Tryz.call13 ?_
  refine of_tr (fun _ _ _ ZK => (fun Za Zb Zc => ((ZK 21 [(.slc 7 L.length (fcF L))] (db (vfB L)) ∧ (((!!vfB L) = true) → ZK 40 [(ndX m x)] (ds (fmtX (rdE (ndX m x)))))) ∧ (((!vfB L || (fmtX (rdE (ndX m x))).toList == (ByteArray.mk #[]).toList) = true) → (((.tup [(di 0), (di 0), (di 1)]) : DV) = Zb)) ∧ (((!vfB L || (fmtX (rdE (ndX m x))).toList == (ByteArray.mk #[]).toList) = false) → (ZK 41 [(.slc 7 L.length (fcF L))] Za ∧ (ZK 43 [Za] (.mp (some .i64) Zc (hK (kh3 3))) ∧ ZK 42 [Za, (ndX m x), (.mp (some .i64) Zc (hK (kh3 3)))] (.tup [(di (tyW L (rdE (ndX m x))).fst), (.agg [(di (tyW L (rdE (ndX m x))).snd.fst), (di (tyW L (rdE (ndX m x))).snd.snd)])])) ∧ ((((tyW L (rdE (ndX m x))).snd.snd != 0) = true) → (((.tup [(di 0), (di (tyW L (rdE (ndX m x))).snd.fst), (di (tyW L (rdE (ndX m x))).snd.snd)]) : DV) = Zb)) ∧ ((((tyW L (rdE (ndX m x))).snd.snd != 0) = false) → (((.tup [(di (tyW L (rdE (ndX m x))).fst), (di 0), (di 0)]) : DV) = Zb)))))) ((.ptr [(.mp none (fV (revF L L.length)) (fH (revF L L.length))), (.mp none (wV (revW L L.length)) (wL (revW L L.length)))]) : DV) ((.tup [(di (typR L x).fst), (di (typR L x).snd.fst), (di (typR L x).snd.snd)]) : DV) (kF (DV.ptr [DV.mp none (fV (revF L L.length)) (fH (revF L L.length)), DV.mp none (wV (revW L L.length)) (wL (revW L L.length))]))) (by kernel_rfl) ?_
  simp only [e, emp_beq]
  have hwd := fun i (hi : i < L.length) => (h i hi).ln
  refine ⟨⟨f21 hT L h hl, fun _ => f40 hT m x hx hs⟩, fun h1 => ?_, fun h1 => ⟨f41 L (by omega) (fun i hi => by have := hwd i hi; omega), ⟨f43 _ _, f42 _ _ (fun v => by have := revF_words h v; omega) m x hx hs ?_⟩, fun h2 => ?_, fun h2 => ?_⟩⟩
  · unfold typR
    rw [if_pos h1]
  · rw [Bool.or_eq_false_iff, decide_eq_false_iff_not] at h1
    unfold fmtX fitE at h1
    have h2 := h1.2
    cases hh : sndE x with
    | true => rfl
    | false => rw [hh] at h2; exact absurd rfl h2
  · have h2 : (tyW L x).2.2 ≠ 0 := by simpa using h2
    unfold typR
    rw [if_neg (by rw [h1]; decide), if_pos h2]
  · have h2 : (tyW L x).2.2 = 0 := by simpa using h2
    unfold typR
    rw [if_neg (by rw [h1]; decide), if_neg (by omega)]
end Go.Proofs
set_option autoImplicit false
namespace Go.Proofs
open Go Go.Ab Go.RowKit
set_option maxHeartbeats 4000000
set_option maxRecDepth 100000
variable {G : IH}
/-! Names that occur. -/
noncomputable def orcK2 (p : Ex → Bool) (l : List Ex) : Oracle := fun f a => match f, a with
  | 83, [e, _] => some (db (p (rdE e)))
  | 128, [_, _] => some (di (kidI p l))
  | _, _ => none
noncomputable def S128b (c : DV) (m : Nat) (x : Ex) (k : Nat) : AS := ⟨regs Tryz.f128.ntmps [(0, .d (.slc 6 x.kids.length (lay (exG m) x.kids))), (1, .d (.clo (.func 83) [] [c])), (7, vi x.kids.length), (8, vi k)], []⟩
theorem f128b (c : DV) (p : Ex → Bool) (m : Nat) (x : Ex) (hx : ht x ≤ m) (hs : Sm x) (hc : ∀ i, i < x.kids.length → FnOK Tryz.prog G 83 [kidA m x i, c] (db (p (x.kids.getD i ex0)))) :
    FnOK Tryz.prog G 128 [.slc 6 x.kids.length (lay (exG m) x.kids), .clo (.func 83) [] [c]] (di (kidI p x.kids)) := by
  have hl := hs.len.1
  refine FnOK.walk (orc := orcK2 p x.kids) (keep := []) follows Tryz.func128 rfl Tryz.call128 ?_
  refine of_tr (fun ZT ZW ZQ _ => ZW [cd Tryz.f128 [1, 0, 1, 0], (.blk 0), cd Tryz.f128 [1, 1]] (stS ZT []) ZQ) (by kernel_rfl) ?_
  refine AWP.loop (c := cAt (bodyOf Tryz.f128) [1, 0, 1, 0, 0]) (by kernel_rfl) (S128b c m x) (fun k => k ≤ x.kids.length ∧ ∀ i, i < k → p (x.kids.getD i ex0) = false) (fun k => x.kids.length - k) 0 ?_ ⟨Nat.zero_le _, fun i hi => by omega⟩ ?_
  · exact AS.leA (by kernel_rfl)
  · rintro k ⟨hk, hkd⟩
    refine walk (orc := orcK2 p x.kids) (keep := []) (cuts := []) (n := 1000) follows ?_
    refine of_rd (fun ZT ZW ZQ ZK ZA _ => (fun Za => ((((decide ((↑k : Int) < ↑x.kids.length)) = true) → ((((0 ≤ (↑k : Int)) ∧ ((↑k : Int) < ↑x.kids.length)) ∧ ZK 83 [Za, c] (db (p (rdE Za)))) ∧ (((p (rdE Za)) = true) → (((di (↑k)) : DV) = (di (kidI p x.kids)))) ∧ (((p (rdE Za)) = false) → ((I64 (↑k + 1)) ∧ (ZA (stS ZT [0, 1])))))) ∧ (((decide ((↑k : Int) < ↑x.kids.length)) = false) → ZW [cd Tryz.f128 [1, 1]] (stS ZT [1]) ZQ))) (ndA m (x.kids.getD (↑k : Int).toNat ex0))) (by kernel_rfl) ?_
    simp only [Int.toNat_natCast]
    refine ⟨fun h => ?_, fun h => ?_⟩
    · have hk2 : k < x.kids.length := by have := of_decide_eq_true h; omega
      have e1 : p (rdE (kidA m x k)) = p (x.kids.getD k ex0) := by rw [kid_rd hx hk2]
      refine ⟨⟨⟨by omega, by omega⟩, ?_⟩, fun h2 => ?_, fun h2 => ⟨⟨by omega, by omega⟩, Again.mk (k + 1) ?_ ⟨hk2, fun i hi => ?_⟩ (by omega)⟩⟩
      · show FnOK Tryz.prog G 83 [kidA m x k, c] (db (p (rdE (kidA m x k))))
        rw [e1]; exact hc k hk2
      · have h2 : p (rdE (kidA m x k)) = true := h2
        rw [e1] at h2
        rw [(kidI_hit hk2 hkd h2).2]
      · exact AS.leA (by kernel_rfl)
      · rcases Nat.lt_or_ge i k with h1 | h1
        · exact hkd i h1
        · obtain rfl : i = k := by omega
          rw [← e1]; exact h2
    · simp only [decide_eq_false_iff_not] at h
      have hst := kidI_none (p := p) (L := x.kids) fun i hi => hkd i (by omega)
      refine walk (orc := orcK2 p x.kids) (keep := []) (cuts := []) (n := 1000) follows ?_
      refine of_tr (fun _ _ _ _ => (((di (-1)) : DV) = (di (kidI p x.kids)))) (by kernel_rfl) ?_
      rw [hst.2]
theorem f82b (c : DV) (p : Ex → Bool) (m : Nat) (x : Ex) (hx : ht x ≤ m) (hs : Sm x) (hc : ∀ i, i < x.kids.length → FnOK Tryz.prog G 83 [kidA m x i, c] (db (p (x.kids.getD i ex0)))) :
    FnOK Tryz.prog G 82 [.slc 6 x.kids.length (lay (exG m) x.kids), .clo (.func 83) [] [c]] (db (x.kids.any p)) := by
  refine FnOK.walk (orc := orcK2 p x.kids) (keep := []) follows Tryz.func82 rfl Tryz.call82 ?_
  refine of_tr (fun _ _ _ ZK => (ZK 128 [(.slc 6 x.kids.length (lay (exG m) x.kids)), (.clo (.func 83) [] [c])] (di (kidI p x.kids)) ∧ ((db (decide (kidI p x.kids ≥ 0))) : DV) = (db (x.kids.any p)))) (by kernel_rfl) ?_
  refine ⟨f128b c p m x hx hs hc, ?_⟩
  rw [kidI_ge]
mutual
def occE (s : ByteArray) : Ex → Bool
  | .mk k t _ _ _ l => (k == 2 && decide (t = s)) || occL s l
def occL (s : ByteArray) : List Ex → Bool
  | [] => false
  | x :: l => occE s x || occL s l
end
theorem occL_any (s : ByteArray) : ∀ l : List Ex, occL s l = l.any (occE s)
  | [] => rfl
  | x :: l => by simp only [occL, List.any_cons, occL_any s l]
theorem occE_eq (s : ByteArray) (x : Ex) : occE s x = ((x.k == 2 && decide (x.s = s)) || x.kids.any (occE s)) := by cases x; simp only [occE, Ex.k, Ex.s, Ex.kids, occL_any]; rfl
noncomputable def orcOc (x : Ex) : Oracle := fun f a => match f, a with
  | 44, [e, .con (.string s)] => some (db (occE s (rdE e)))
  | 82, [_, .clo (.func 83) [] [.ptr [.con (.string s)]]] => some (db (x.kids.any (occE s)))
  | _, _ => none
theorem f83_of {m : Nat} {y : Ex} (s : ByteArray) (hy : ht y ≤ m) (h : FnOK Tryz.prog G 44 [exD m y, ds s] (db (occE s y))) : FnOK Tryz.prog G 83 [exD m y, .ptr [ds s]] (db (occE s y)) := by
  have e : rdE (exV y.k y.s y.n y.d y.pos y.kids.length (lay (exG m) y.kids)) = y := rdE_eq hy
  refine FnOK.walk (orc := orcOc y) (keep := []) follows Tryz.func83 rfl Tryz.call83 ?_
  refine of_tr (fun _ _ _ ZK => (ZK 44 [(ndX m y), (ds s)] (db (occE s (rdE (ndX m y)))) ∧ ((db (occE s (rdE (ndX m y)))) : DV) = (db (occE s y)))) (by kernel_rfl) ?_
  simp only [e]
  exact ⟨h, trivial⟩
theorem f44 (s : ByteArray) (m : Nat) : ∀ (x : Ex), ht x ≤ m → Sm x → FnOK Tryz.prog G 44 [exD m x, ds s] (db (occE s x)) := by
  induction m using Nat.strongRecOn with
  | _ m ih =>
  intro x hx hs
  have hc : ∀ i, i < x.kids.length → FnOK Tryz.prog G 83 [kidA m x i, .ptr [ds s]] (db (occE s (x.kids.getD i ex0))) := fun i hi =>
    kidOK (Q := fun d => FnOK Tryz.prog G 83 [d, .ptr [ds s]] _) hx hi fun m' h1 h2 => f83_of s h2 (ih m' h1 _ h2 (hs.kid hi))
  refine FnOK.of_body Tryz.func44 rfl Tryz.call44 ?_
  refine walk (orc := orcOc x) (keep := []) (cuts := [1]) (n := 1000) follows ?_
  refine of_tr (fun ZT ZW ZQ _ => ZW [cd Tryz.f44 [1]] (stS ZT []) ZQ) (by kernel_rfl) ?_
  refine AWP.freezeB (dl := [ds s]) 3 (by kernel_rfl) rfl ?_
  refine walk (orc := orcOc x) (keep := []) (cuts := []) (n := 1000) follows ?_
  refine of_tr (fun _ _ _ ZK => ((((!(x.k == 2 && x.s.toList == s.toList)) = true) → ZK 82 [(.slc 6 x.kids.length (lay (exG m) x.kids)), (.clo (.func 83) [] [(.ptr [(ds s)])])] (db (x.kids.any (occE s)))) ∧ ((db (x.k == 2 && x.s.toList == s.toList || x.kids.any (occE s))) : DV) = (db (occE s x)))) (by kernel_rfl) ?_
  simp only [toList_beq]
  refine ⟨fun _ => f82b (.ptr [ds s]) (occE s) m x hx hs hc, ?_⟩
  rw [occE_eq]
/-! Trends. -/
def oppI (v : Int) : Int := if v = 1 then 2 else if v = 2 then 1 else v
theorem f84 (v : Int) : FnOK Tryz.prog G 84 [di v] (di (oppI v)) := by
  refine FnOK.walk (orc := noO) (keep := []) follows Tryz.func84 rfl Tryz.call84 ?_
  refine of_tr (fun _ _ _ _ => ((((v == 1) = true) → (((di 2) : DV) = (di (oppI v)))) ∧ (((v == 1) = false) → ((((v == 2) = true) → (((di 1) : DV) = (di (oppI v)))) ∧ (((v == 2) = false) → (((di v) : DV) = (di (oppI v)))))))) (by kernel_rfl) ?_
  simp only [beq_iff_eq, beq_eq_false_iff_ne, ne_eq]
  unfold oppI
  refine ⟨fun h => ?_, fun h => ⟨fun h2 => ?_, fun h2 => ?_⟩⟩
  · rw [if_pos h]
  · rw [if_neg h, if_pos h2]
  · rw [if_neg h, if_neg h2]
def com2 (a b : Int) : Int := if a = 0 ∨ a = b then b else if b = 0 then a else 3
def comI (l : List Int) : Int := l.foldl com2 0
theorem com3 : ∀ l : List Int, l.foldl com2 3 = 3
  | [] => rfl
  | t :: l => by
    have e : com2 3 t = 3 := by unfold com2; repeat' split
                                all_goals omega
    rw [List.foldl_cons, e]; exact com3 l
theorem com_step {l : List Int} {k : Nat} (h : k < l.length) : (l.take (k + 1)).foldl com2 0 = com2 ((l.take k).foldl com2 0) (l.getD k 0) := by
  rw [List.take_succ_eq_append_getElem h, List.foldl_append, List.getD, List.getElem?_eq_getElem h]; rfl
theorem com_stop {l : List Int} {k : Nat} (h : k < l.length) (h3 : com2 ((l.take k).foldl com2 0) (l.getD k 0) = 3) : comI l = 3 := by
  unfold comI
  rw [← List.take_append_drop (k + 1) l, List.foldl_append, com_step h, h3]
  exact com3 _
noncomputable def S85 (l : List Int) (k : Nat) : AS := ⟨regs Tryz.f85.ntmps [(3, vi ((l.take k).foldl com2 0)), (6, .d (inD l)), (7, vi l.length), (8, vi k)], []⟩
theorem f85 (l : List Int) (hl : l.length ≤ 100000) : FnOK Tryz.prog G 85 [inD l] (di (comI l)) := by
  refine FnOK.walk (orc := noO) (keep := []) follows Tryz.func85 rfl Tryz.call85 ?_
  refine of_tr (fun ZT ZW ZQ _ => ZW [cd Tryz.f85 [1, 1, 0, 1, 0], (.blk 0), cd Tryz.f85 [1, 1, 1]] (stS ZT []) ZQ) (by kernel_rfl) ?_
  refine AWP.loop (c := cAt (bodyOf Tryz.f85) [1, 1, 0, 1, 0, 0]) (by kernel_rfl) (S85 l) (fun k => k ≤ l.length) (fun k => l.length - k) 0 ?_ (Nat.zero_le _) ?_
  · refine AS.leZ [0] [] (b := ((((vi 0) : AV) = (vi (List.foldl com2 0 (List.take 0 l))) ∧ T0 ∧ T0 ∧ T0 ∧ True) ∧ True)) (by kernel_rfl) (by kernel_rfl) ?_
    exact ⟨⟨rfl, rfl, rfl, rfl, trivial⟩, trivial⟩
  · intro k hk
    refine walk (orc := noO) (keep := []) (cuts := []) (n := 1000) follows ?_
    refine of_eqH5 (l.getD (↑k : Int).toNat 0 != 0 && l.getD (↑k : Int).toNat 0 != List.foldl com2 0 (List.take k l)) (vi (l.getD (↑k : Int).toNat 0)) (List.foldl com2 0 (List.take k l) == 0) (decide ((↑k : Int) < ↑l.length)) (vi (List.foldl com2 0 (List.take k l))) (fun Za Zb Zc Zd Ze => (((Zd = true) → (((0 ≤ (↑k : Int)) ∧ ((↑k : Int) < ↑l.length)) ∧ ((Zc = true) → ((I64 (↑k + 1)) ∧ Again (S85 l) (fun k => k ≤ l.length) (fun k => l.length - k) k ⟨regs 26 [(3, Zb), (5, Zb), (6, (.d (.slc 1 l.length (inF l)))), (7, (vi (↑l.length))), (8, (vi (↑k + 1))), (9, (vb Zd)), (10, (.d (.ptr [(di (l.getD (↑k : Int).toNat 0))]))), (11, Zb), (12, (vb Zc)), (13, Ze), (14, (vb Zc)), (15, Zb), (24, (vi (↑k + 1)))], []⟩)) ∧ ((Zc = false) → (((Za = true) → (((di 3) : DV) = (di (comI l)))) ∧ ((Za = false) → ((I64 (↑k + 1)) ∧ Again (S85 l) (fun k => k ≤ l.length) (fun k => l.length - k) k ⟨regs 26 [(3, Ze), (5, Zb), (6, (.d (.slc 1 l.length (inF l)))), (7, (vi (↑l.length))), (8, (vi (↑k + 1))), (9, (vb Zd)), (10, (.d (.ptr [(di (l.getD (↑k : Int).toNat 0))]))), (11, Zb), (12, (vb Zc)), (13, Ze), (14, (vb Zc)), (16, (vb Za)), (17, Zb), (18, (vb (l.getD (↑k : Int).toNat 0 != 0))), (19, (vb (l.getD (↑k : Int).toNat 0 != 0))), (23, (vb Za)), (24, (vi (↑k + 1)))], []⟩)))))) ∧ ((Zd = false) → AWP Tryz.prog G [cd Tryz.f85 [1, 1, 1]] ⟨regs 26 [(3, Ze), (6, (.d (.slc 1 l.length (inF l)))), (7, (vi (↑l.length))), (8, (vi (↑k))), (9, (vb Zd))], []⟩ (Ret Tryz.prog Tryz.f85 (di (comI l)))))) (by kernel_rfl) ?_
    simp only [Int.toNat_natCast]
    refine ⟨fun h => ?_, fun h => ?_⟩
    · have hk2 : k < l.length := by have := of_decide_eq_true h; omega
      have e := com_step hk2
      generalize hA : (l.take k).foldl com2 0 = A at *
      have hst := @com_stop l k hk2
      rw [hA] at hst
      generalize hB : l.getD k 0 = B at *
      refine ⟨⟨by omega, by omega⟩, fun h0 => ⟨⟨by omega, by omega⟩, Again.mk (k + 1) ?_ hk2 (by omega)⟩, fun h0 => ⟨fun h2 => ?_, fun h2 => ⟨⟨by omega, by omega⟩, Again.mk (k + 1) ?_ hk2 (by omega)⟩⟩⟩
      · have h0 : A = 0 := by simpa using h0
        refine of_eq (b := ((((vi B) : AV) = (vi (List.foldl com2 0 (List.take (k + 1) l))) ∧ ((.d (.slc 1 l.length (inF l))) : AV) = (.d (.slc 1 l.length (inF l))) ∧ ((vi (↑l.length)) : AV) = (vi (↑l.length)) ∧ ((vi (↑k + 1)) : AV) = (vi (↑(k + 1))) ∧ True) ∧ True)) (by kernel_rfl) ?_
        refine ⟨⟨?_, rfl, rfl, rfl, trivial⟩, trivial⟩
        rw [e, com2, if_pos (.inl h0)]
      · have h0 : ¬ A = 0 := by simpa using h0
        simp only [Bool.and_eq_true, bne_iff_ne, ne_eq] at h2
        rw [hst (by unfold com2; rw [if_neg (by omega), if_neg h2.1])]
      · have h0 : ¬ A = 0 := by simpa using h0
        refine of_eq (b := ((((vi A) : AV) = (vi (List.foldl com2 0 (List.take (k + 1) l))) ∧ ((.d (.slc 1 l.length (inF l))) : AV) = (.d (.slc 1 l.length (inF l))) ∧ ((vi (↑l.length)) : AV) = (vi (↑l.length)) ∧ ((vi (↑k + 1)) : AV) = (vi (↑(k + 1))) ∧ True) ∧ True)) (by kernel_rfl) ?_
        refine ⟨⟨?_, rfl, rfl, rfl, trivial⟩, trivial⟩
        rw [e]
        refine congrArg vi ?_
        have h2 : B = 0 ∨ B = A := by
          simp only [Bool.and_eq_false_iff, bne_eq_false_iff_eq] at h2
          exact h2
        unfold com2
        split
        · omega
        · rw [if_pos (by omega)]
    · simp only [decide_eq_false_iff_not] at h
      obtain rfl : k = l.length := by omega
      refine walk (orc := noO) (keep := []) (cuts := []) (n := 1000) follows ?_
      refine of_tr (fun _ _ _ _ => (((di (List.foldl com2 0 (List.take l.length l))) : DV) = (di (comI l)))) (by kernel_rfl) ?_
      rw [List.take_length]; rfl
/-! Signs. -/
def sgnI (a b : Int) : Int := if a > 0 then 1 else if b < 0 then -1 else 0
theorem f87 (a b c d : Int) : FnOK Tryz.prog G 87 [.agg [di a, di b, di c, di d]] (di (sgnI a c)) := by
  refine FnOK.walk (orc := noO) (keep := []) follows Tryz.func87 rfl Tryz.call87 ?_
  refine of_tr (fun _ _ _ _ => ((((decide (a > 0)) = true) → (((di 1) : DV) = (di (sgnI a c)))) ∧ (((decide (a > 0)) = false) → ((((decide (c < 0)) = true) → (((di (-1)) : DV) = (di (sgnI a c)))) ∧ (((decide (c < 0)) = false) → (((di 0) : DV) = (di (sgnI a c)))))))) (by kernel_rfl) ?_
  simp only [decide_eq_true_eq, decide_eq_false_iff_not]
  unfold sgnI
  refine ⟨fun h => ?_, fun h => ⟨fun h2 => ?_, fun h2 => ?_⟩⟩
  · rw [if_pos h]
  · rw [if_neg h, if_pos h2]
  · rw [if_neg h, if_neg h2]
end Go.Proofs
/- Kinds of nodes, plain. -/
set_option autoImplicit false
namespace Go.Proofs
open Go Go.Ab Go.RowKit
set_option maxHeartbeats 4000000
set_option maxRecDepth 100000
variable {G : IH}
/-! Nodes of a number's kind. -/
theorem snd_many {x : Ex} (h : sndE x = true) (hk : x.k = 10 ∨ x.k = 11) : 1 ≤ x.kids.length := by
  rw [sndE_eq] at h
  unfold sndK at h
  rw [if_neg (by omega), if_neg (by omega), if_neg (by omega), if_neg (by omega), if_pos hk] at h
  unfold kdK at h
  simp only [Bool.and_eq_true, decide_eq_true_eq] at h
  omega
theorem snd_leaf {x : Ex} (h : sndE x = true) (hk : x.k ≤ 4) : x.kids = [] := by
  have hl : x.kids.length = 0 := by
    rw [sndE_eq] at h
    unfold sndK kdK at h
    revert h
    repeat' split
    all_goals (intro h; simp only [Bool.and_eq_true, decide_eq_true_eq] at h)
    all_goals first | omega | (exfalso; have := h.1; unfold opB at this; simp at this; omega)
  exact List.eq_nil_of_length_eq_zero hl
theorem snd_name {x : Ex} (h : sndE x = true) (hk : x.k = 2) : nameB x.s = true := by
  rw [sndE_eq] at h
  unfold sndK at h
  rw [if_neg (by omega), if_pos hk] at h
  simp only [Bool.and_eq_true] at h
  exact h.1.1
theorem snd_num {x : Ex} (h : sndE x = true) (hk : x.k = 1) : numB x.n x.d = true := by
  rw [sndE_eq] at h
  unfold sndK at h
  rw [if_pos hk] at h
  simp only [Bool.and_eq_true] at h
  exact h.1.1
mutual
def numE : Ex → Bool
  | .mk k _ _ _ _ l => decide (k = 1 ∨ k = 2 ∨ (5 ≤ k ∧ k ≤ 11)) && numL l
def numL : List Ex → Bool
  | [] => true
  | x :: l => numE x && numL l
end
theorem numL_mem : ∀ {l : List Ex} {i : Nat}, numL l = true → i < l.length → numE (l.getD i ex0) = true
  | x :: l, i, h, hi => by
    simp only [numL, Bool.and_eq_true] at h
    cases i with
    | zero => exact h.1
    | succ i => exact numL_mem (i := i) h.2 (by simpa using hi)
theorem numE_kid {x : Ex} (h : numE x = true) {i : Nat} (hi : i < x.kids.length) : numE (x.kids.getD i ex0) = true := by
  cases x
  simp only [numE, Bool.and_eq_true] at h
  exact numL_mem h.2 hi
theorem numE_k {x : Ex} (h : numE x = true) : x.k = 1 ∨ x.k = 2 ∨ (5 ≤ x.k ∧ x.k ≤ 11) := by
  cases x
  simp only [numE, Bool.and_eq_true, decide_eq_true_eq] at h
  exact h.1
theorem badR_none : ∀ {R : List KR}, badR R = none → ∀ r ∈ R, r.2.2 = 0
  | [], _, r, h => by simp at h
  | r :: R, h, y, hy => by
    unfold badR at h
    split at h
    · cases h
    · rcases List.mem_cons.1 hy with rfl | hy
      · omega
      · exact badR_none h y hy
theorem tyE_fine {l : List Fc} {ws : List ByteArray} {x : Ex} (h : (tyE l ws x).2.2 = 0) :
    (∀ i, i < x.kids.length → (tyE l ws (x.kids.getD i ex0)).2.2 = 0) ∧ tyE l ws x = ((apK l ws x.k x.s ((tyL l ws x.kids).map (·.1)) (x.kids.getD 0 ex0).s (x.kids.getD 1 ex0).s).1, x.pos, 0) ∧ (apK l ws x.k x.s ((tyL l ws x.kids).map (·.1)) (x.kids.getD 0 ex0).s (x.kids.getD 1 ex0).s).2 = 0 := by
  have e := tyE_eq l ws x
  unfold tyC at e
  cases hb : badR (tyL l ws x.kids) with
  | some p =>
    exfalso
    rw [hb] at e
    rw [e] at h
    have : ∀ {R : List KR} {p : Int × Int}, badR R = some p → p.2 ≠ 0 := by
      intro R
      induction R with
      | nil => intro p h; cases h
      | cons r R ih =>
        intro p h
        unfold badR at h
        split at h
        · obtain rfl := Option.some.inj h; assumption
        · exact ih h
    exact this hb h
  | none =>
    rw [hb] at e
    refine ⟨fun i hi => ?_, ?_, ?_⟩
    · refine badR_none hb _ ?_
      rw [tyL_map]
      exact List.mem_map_of_mem (kid_mem hi)
    · rw [e] at h ⊢
      rw [show (apK l ws x.k x.s ((tyL l ws x.kids).map (·.1)) (x.kids.getD 0 ex0).s (x.kids.getD 1 ex0).s).2 = 0 from h]
    · rw [e] at h; exact h
theorem allK_get {l : List Int} {v : Int} (h : allK l v = true) {i : Nat} (hi : i < l.length) : l.getD i 0 = v := by
  unfold allK at h
  rw [Bool.not_eq_true', List.any_eq_false] at h
  have := h (l.getD i 0) (by rw [List.getD, List.getElem?_eq_getElem hi]; exact List.getElem_mem hi)
  simpa using this
theorem kx_fine {l : List Int} {a : Int} (h : kxE l a = 0) : allK l a = true := by
  unfold kxE at h
  split at h
  · assumption
  · omega
theorem tyK_get {l : List Fc} {ws : List ByteArray} {r : List Ex} {i : Nat} (hi : i < r.length) : ((tyL l ws r).map (·.1)).getD i 0 = (tyE l ws (r.getD i ex0)).1 := by
  rw [tyL_map, List.map_map, List.getD, List.getD, List.getElem?_map, List.getElem?_eq_getElem hi]; rfl
theorem tyK_len {l : List Fc} {ws : List ByteArray} {r : List Ex} : ((tyL l ws r).map (·.1)).length = r.length := by rw [tyL_map, List.length_map, List.length_map]
theorem rk_all {x : Ex} (h : sndE x = true) : 1 ≤ x.k ∧ x.k ≤ 20 := by
  have hrk := snd_rk h
  refine Classical.byContradiction fun hn => hrk ?_
  unfold rkI
  repeat' split
  all_goals omega
theorem apK_ks {l : List Fc} {ws : List ByteArray} {k : Int} {s : ByteArray} {ks : List Int} {n0 n1 : ByteArray} :
    (5 ≤ k ∧ k ≤ 11 → apK l ws k s ks n0 n1 = (kxA ks 0 0, kxE ks 0)) ∧ (14 ≤ k ∧ k ≤ 17 → apK l ws k s ks n0 n1 = (kxA ks 0 1, kxE ks 0)) ∧ (18 ≤ k → apK l ws k s ks n0 n1 = (kxA ks 1 1, kxE ks 1))
      ∧ (k = 12 ∨ k = 13 → apK l ws k s ks n0 n1 = (if cmK l n0 n1 (ks.getD 0 0) (ks.getD 1 0) then 1 else 0, if cmK l n0 n1 (ks.getD 0 0) (ks.getD 1 0) then 0 else 5)) := by
  refine ⟨fun h => ?_, fun h => ?_, fun h => ?_, fun h => ?_⟩
  · unfold apK
    rw [if_neg (by omega), if_neg (by omega), if_neg (by omega), if_neg (by omega), if_neg (by omega), if_pos (by omega)]
  · unfold apK
    rw [if_neg (by omega), if_neg (by omega), if_neg (by omega), if_neg (by omega), if_neg (by omega), if_neg (by omega), if_pos (by omega)]
  · unfold apK
    rw [if_neg (by omega), if_neg (by omega), if_neg (by omega), if_neg (by omega), if_neg (by omega), if_neg (by omega), if_neg (by omega)]
  · unfold apK
    rw [if_neg (by omega), if_neg (by omega), if_neg (by omega), if_neg (by omega), if_pos h]
theorem ty_kids {l : List Fc} {ws : List ByteArray} {x : Ex} (h : (tyE l ws x).2.2 = 0) :
    (5 ≤ x.k ∧ x.k ≤ 11 ∨ 14 ≤ x.k ∧ x.k ≤ 17 → ∀ i, i < x.kids.length → (tyE l ws (x.kids.getD i ex0)).1 = 0) ∧ (18 ≤ x.k → ∀ i, i < x.kids.length → (tyE l ws (x.kids.getD i ex0)).1 = 1) := by
  obtain ⟨h1, h2, h3⟩ := tyE_fine h
  obtain ⟨a1, a2, a3, a4⟩ := @apK_ks l ws x.k x.s ((tyL l ws x.kids).map (·.1)) (x.kids.getD 0 ex0).s (x.kids.getD 1 ex0).s
  refine ⟨fun hk i hi => ?_, fun hk i hi => ?_⟩
  · have h4 : kxE ((tyL l ws x.kids).map (·.1)) 0 = 0 := by
      rcases hk with hk | hk
      · rw [a1 hk] at h3; exact h3
      · rw [a2 hk] at h3; exact h3
    have := allK_get (kx_fine h4) (i := i) (by rw [tyK_len]; exact hi)
    rw [tyK_get hi] at this; exact this
  · rw [a3 hk] at h3
    have := allK_get (kx_fine h3) (i := i) (by rw [tyK_len]; exact hi)
    rw [tyK_get hi] at this; exact this
theorem ty_node {l : List Fc} {ws : List ByteArray} {x : Ex} (hs : sndE x = true) (h : (tyE l ws x).2.2 = 0) :
    (x.k = 1 ∨ (5 ≤ x.k ∧ x.k ≤ 11) → (tyE l ws x).1 = 0) ∧ (x.k = 3 ∨ x.k = 4 ∨ 12 ≤ x.k → (tyE l ws x).1 = 1) ∧ (x.k = 2 → (tyE l ws x).1 = (nmK l ws x.s).1 ∧ (nmK l ws x.s).2 = 0) := by
  obtain ⟨h1, h2, h3⟩ := tyE_fine h
  have hk := rk_all hs
  obtain ⟨a1, a2, a3, a4⟩ := @apK_ks l ws x.k x.s ((tyL l ws x.kids).map (·.1)) (x.kids.getD 0 ex0).s (x.kids.getD 1 ex0).s
  rw [h2]
  refine ⟨fun hh => ?_, fun hh => ?_, fun hh => ?_⟩
  · rcases hh with hh | hh
    · unfold apK; rw [if_pos hh]
    · rw [a1 hh] at h3 ⊢
      have h3 := kx_fine h3
      show kxA _ 0 0 = 0
      unfold kxA; rw [if_pos h3]
  · by_cases e3 : x.k = 3
    · unfold apK; rw [if_neg (by omega), if_pos e3]
    by_cases e4 : x.k = 4
    · unfold apK; rw [if_neg (by omega), if_neg e3, if_pos e4]
    by_cases e12 : x.k = 12 ∨ x.k = 13
    · rw [a4 e12] at h3 ⊢
      simp only at h3 ⊢
      split at h3
      · rename_i hc; rw [if_pos hc]
      · omega
    by_cases e18 : 18 ≤ x.k
    · rw [a3 e18] at h3 ⊢
      have h3 := kx_fine h3
      show kxA _ 1 1 = 1
      unfold kxA; rw [if_pos h3]
    · rw [a2 (by omega)] at h3 ⊢
      have h3 := kx_fine h3
      show kxA _ 0 1 = 1
      unfold kxA; rw [if_pos h3]
  · have e : apK l ws x.k x.s ((tyL l ws x.kids).map (·.1)) (x.kids.getD 0 ex0).s (x.kids.getD 1 ex0).s = nmK l ws x.s := by
      unfold apK; rw [if_neg (by omega), if_neg (by omega), if_neg (by omega), if_pos hh]
    rw [e] at h3 ⊢
    exact ⟨rfl, h3⟩
theorem numL_of {l : List Ex} (h : ∀ i, i < l.length → numE (l.getD i ex0) = true) : numL l = true := by
  induction l with
  | nil => rfl
  | cons x l ih =>
    simp only [numL, Bool.and_eq_true]
    exact ⟨h 0 (by simp), ih fun i hi => by simpa using h (i + 1) (by simpa using hi)⟩
theorem num_of {l : List Fc} {ws : List ByteArray} (n : Nat) : ∀ x : Ex, ht x ≤ n → sndE x = true → (tyE l ws x).2.2 = 0 → (tyE l ws x).1 = 0 → numE x = true := by
  induction n using Nat.strongRecOn with
  | _ n ih =>
  intro x hx hs h2 h1
  have hk := rk_all hs
  obtain ⟨t1, t2, t3⟩ := ty_node hs h2
  have hc : x.k = 1 ∨ x.k = 2 ∨ (5 ≤ x.k ∧ x.k ≤ 11) := by
    refine Classical.byContradiction fun hn => ?_
    rw [t2 (by omega)] at h1; omega
  have hkids : ∀ i, i < x.kids.length → numE (x.kids.getD i ex0) = true := fun i hi => by
    have hh := ht_kid hi
    by_cases h5 : 5 ≤ x.k ∧ x.k ≤ 11
    · exact ih (n - 1) (by omega) _ (by omega) (snd_kid hs hi) ((tyE_fine h2).1 i hi) ((ty_kids h2).1 (.inl h5) i hi)
    · exfalso
      have := @snd_leaf x hs (by omega)
      rw [this] at hi; simp at hi
  have : numE (Ex.mk x.k x.s x.n x.d x.pos x.kids) = true := by
    simp only [numE, Bool.and_eq_true, decide_eq_true_eq]
    exact ⟨hc, numL_of hkids⟩
  rwa [Ex.eta] at this
end Go.Proofs
