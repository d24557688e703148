import Derived.Test.YtpognhmelecaoaaGreatDoorAcD
import Derived.Test.YtpognhmelecaoaaGreatDoorER
import Derived.Test.YtpognhmelecaoaaGreatDoorEN
set_option autoImplicit false
namespace Go.Proofs
open Go Go.Ab Go.RowKit
set_option maxHeartbeats 4000000
set_option maxRecDepth 100000
variable {G : IH}
/-! The reference's names and types. -/
noncomputable def orc60 : Oracle := fun f a => match f, a with
  | 60, [e, .con (.string s)] => some (db (occE s (rdE e)))
  | _, _ => none
noncomputable def S60 (m : Nat) (x : Ex) (s : ByteArray) (k : Nat) : AS := ⟨regs Tryz.f60.ntmps [(1, .d (ds s)), (2, .box 2 0), (5, vi k)], [(2, exC m x)]⟩
theorem f60 (s : ByteArray) (m : Nat) : ∀ (x : Ex), ht x ≤ m → Sm x → FnOK Tryz.prog G 60 [exD m x, ds s] (db (occE s x)) := by
  induction m using Nat.strongRecOn with
  | _ m ih =>
  intro x hx hs
  have hlen := hs.len.1
  have h60 : ∀ i, i < x.kids.length → FnOK Tryz.prog G 60 [kidA m x i, ds s] (db (occE s (x.kids.getD i ex0))) := fun i hi =>
    kidOK (Q := fun d => FnOK Tryz.prog G 60 [d, ds s] _) hx hi fun m' h1 h2 => ih m' h1 _ h2 (hs.kid hi)
  have eo := occE_eq s x
  refine FnOK.walkK (orc := orc60) (keep := []) follows Tryz.func60 rfl Tryz.call60 ?_
  refine of_tr (fun ZT ZW ZQ _ => ((((x.k == 2 && x.s.toList == s.toList) = true) → (((db true) : DV) = (db (occE s x)))) ∧ (((x.k == 2 && x.s.toList == s.toList) = false) → ZW [cd Tryz.f60 [1, 1, 0, 1, 0], (.blk 0), cd Tryz.f60 [1, 1, 1]] (stS ZT [1]) ZQ))) (by kernel_rfl) ?_
  simp only [toList_beq]
  refine ⟨fun h => ?_, fun h => ?_⟩
  · rw [eo, h]; rfl
  rw [h, Bool.false_or] at eo
  refine AWP.loop (c := cAt (bodyOf Tryz.f60) [1, 1, 0, 1, 0, 0]) (by kernel_rfl) (S60 m x s) (fun k => k ≤ x.kids.length ∧ ∀ i, i < k → occE s (x.kids.getD i ex0) = false) (fun k => x.kids.length - k) 0 ?_ ⟨Nat.zero_le _, fun i hi => absurd hi (Nat.not_lt_zero _)⟩ ?_
  · exact AS.leA (by kernel_rfl)
  · rintro k ⟨hk, hkd⟩
    refine walkK (orc := orc60) (keep := []) (cuts := []) (n := 1000) follows ?_
    refine of_rd (fun ZT ZW ZQ ZK ZA _ => (fun Za => ((((decide ((↑k : Int) < ↑x.kids.length)) = true) → ((((0 ≤ (↑k : Int)) ∧ ((↑k : Int) < ↑x.kids.length)) ∧ ZK 60 [Za, (ds s)] (db (occE s (rdE Za)))) ∧ (((occE s (rdE Za)) = true) → (((db true) : DV) = (db (occE s x)))) ∧ (((occE s (rdE Za)) = false) → ((I64 (↑k + 1)) ∧ (ZA (stS ZT [0, 1])))))) ∧ (((decide ((↑k : Int) < ↑x.kids.length)) = false) → ZW [cd Tryz.f60 [1, 1, 1]] (stS ZT [1]) ZQ))) (ndA m (x.kids.getD (↑k : Int).toNat ex0))) (by kernel_rfl) ?_
    simp only [Int.toNat_natCast]
    refine ⟨fun h1 => ?_, fun h1 => ?_⟩
    · have hk2 : k < x.kids.length := by have := of_decide_eq_true h1; omega
      have er : rdE (kidA m x k) = x.kids.getD k ex0 := kid_rd hx hk2
      have hh := h60 k hk2
      simp only [er]
      refine ⟨⟨⟨by omega, by omega⟩, hh⟩, fun h2 => ?_, fun h2 => ⟨⟨by omega, by omega⟩, Again.mk (k + 1) ?_ ⟨hk2, fun i hi => ?_⟩ (by omega)⟩⟩
      · rw [eo, (List.any_eq_true).2 ⟨_, kid_mem hk2, h2⟩]
      · exact AS.leA (by kernel_rfl)
      · rcases Nat.lt_or_ge i k with h4 | h4
        · exact hkd i h4
        · obtain rfl : i = k := by omega
          exact h2
    · have h1 := of_decide_eq_false h1
      refine walkK (orc := orc60) (keep := []) (cuts := []) (n := 1000) follows ?_
      refine of_tr (fun _ _ _ _ => (((db false) : DV) = (db (occE s x)))) (by kernel_rfl) ?_
      have : x.kids.any (occE s) = false := by
        rw [List.any_eq_false]
        intro y hy
        obtain ⟨i, hi, rfl⟩ := List.getElem_of_mem hy
        have := hkd i (by omega)
        rw [List.getD, List.getElem?_eq_getElem hi] at this
        have this : occE s x.kids[i] = false := this
        rw [this]; decide
      rw [eo, this]
theorem typR_ref {L : List Fc} {x : Ex} : typR L x = if (!vfB L || !fitE x) = true then (0, 0, 1) else nrK (tyW L x) := by
  unfold typR
  have e : (fmtX x).size = 0 ↔ fitE x = false := by
    unfold fmtX
    cases h : fitE x with
    | false => simp
    | true =>
      simp only [if_true]
      constructor
      · intro hz
        exfalso
        have := fmt_pos h
        omega
      · intro h; cases h
  have e2 : decide ((fmtX x).size = 0) = !fitE x := by
    cases h : fitE x with
    | false => rw [decide_eq_true (e.2 h)]; rfl
    | true => rw [decide_eq_false (fun hz => by rw [e.1 hz] at h; cases h)]; rfl
  rw [e2]
  by_cases h1 : (!vfB L || !fitE x) = true
  · rw [if_pos h1, if_pos h1]
  · rw [if_neg h1, if_neg h1]
    unfold nrK
    by_cases h2 : (tyW L x).2.2 ≠ 0
    · rw [if_pos h2]
    · rw [if_neg h2]
noncomputable def orc33 (L : List Fc) : Oracle := fun f a => match f, a with
  | 22, [_] => some (db (vfB L))
  | 64, [e] => some (db (fitE (rdE e)))
  | 65, [e, _] => some (.tup [di (nrK (tyW L (rdE e))).1, di (nrK (tyW L (rdE e))).2.1, di (nrK (tyW L (rdE e))).2.2])
  | _, _ => none
theorem f33 (hT : Tab G) (m : Nat) (x : Ex) (L : List Fc) (hx : ht x ≤ m) (hs : Sm x) (h : ∀ i, i < L.length → FcS (L.getD i fc0)) (hl : L.length ≤ 1000) : FnOK Tryz.prog G 33 [exD m x, fcsD L] (.tup [di (typR L x).1, di (typR L x).2.1, di (typR L x).2.2]) := by
  have e : rdE (exV x.k x.s x.n x.d x.pos x.kids.length (lay (exG m) x.kids)) = x := rdE_eq hx
  refine FnOK.walkK (orc := orc33 L) (keep := []) follows Tryz.func33 rfl Tryz.call33 ?_
  refine of_tr (fun _ _ _ ZK => (fun Za Zb => ((ZK 22 [(.slc 7 L.length (fcF L))] (db (vfB L)) ∧ (((!!vfB L) = true) → ZK 64 [(ndX m x)] (db (fitE (rdE (ndX m x)))))) ∧ (((!vfB L || !fitE (rdE (ndX m x))) = true) → (((.tup [(di 0), (di 0), (di 1)]) : DV) = Zb)) ∧ (((!vfB L || !fitE (rdE (ndX m x))) = false) → (ZK 65 [(ndX m x), (.slc 7 L.length (fcF L))] Za ∧ (Za : DV) = Zb)))) ((.tup [(di (nrK (tyW L (rdE (ndX m x)))).fst), (di (nrK (tyW L (rdE (ndX m x)))).snd.fst), (di (nrK (tyW L (rdE (ndX m x)))).snd.snd)]) : DV) ((.tup [(di (typR L x).fst), (di (typR L x).snd.fst), (di (typR L x).snd.snd)]) : DV)) (by kernel_rfl) ?_
  simp only [e]
  rw [typR_ref]
  refine ⟨⟨f22 hT L h hl, fun _ => f64 hT m x hx hs⟩, fun h1 => ?_, fun h1 => ⟨?_, ?_⟩⟩
  · rw [if_pos h1]
  · have h2 := h1
    simp only [Bool.or_eq_false_iff, Bool.not_eq_false'] at h2
    have hsn : sndE x = true := by
      have h3 := h2.2
      unfold fitE at h3
      simp only [Bool.and_eq_true] at h3
      first | exact h3.1.1 | exact h3.1
    exact f65 L (vf_of h2.1) hl (fun f hf => by
      obtain ⟨i, hi, rfl⟩ := List.getElem_of_mem hf
      have := (h i hi).ln
      rwa [List.getD, List.getElem?_eq_getElem hi] at this) m x hx hs hsn
  · rw [if_neg (by rw [h1]; decide)]
noncomputable def orc11 (b c : Bool) : Oracle := fun f a => match f, a with
  | 32, [_, _] => some (db b)
  | 20, [_] => some (db c)
  | _, _ => none
def fewX (x : Ex) (L : List Fc) : Bool := fewE 30 x && fewF L
theorem f11 (m : Nat) (x : Ex) (L : List Fc) (hx : ht x ≤ m) (hw : wfE x) (hl : L.length ≤ 9223372036854775807) (hw2 : ∀ i, i < L.length → FcW (L.getD i fc0)) : FnOK Tryz.prog G 11 [exD m x, fcsD L] (db (fewX x L)) := by
  refine FnOK.walkK (orc := orc11 (fewE 30 x) (fewF L)) (keep := []) follows Tryz.func11 rfl Tryz.call11 ?_
  refine of_tr (fun _ _ _ ZK => ((ZK 32 [(ndX m x), (di 30)] (db (fewE 30 x)) ∧ (((fewE 30 x) = true) → ZK 20 [(.slc 7 L.length (fcF L))] (db (fewF L)))) ∧ ((db (fewE 30 x && fewF L)) : DV) = (db (fewX x L)))) (by kernel_rfl) ?_
  exact ⟨⟨f32 30 m x hx hw, fun _ => f20 L hl hw2⟩, rfl⟩
end Go.Proofs
set_option autoImplicit false
namespace Go.Proofs
open Go Go.Ab Go.RowKit
set_option maxHeartbeats 4000000
set_option maxRecDepth 100000
variable {G : IH}
/-! The reference's Names. -/
noncomputable def orc29 (L : List Fc) : Orc := { d := orcTd L, rows := fun n => Nat.beq n 10 }
noncomputable def S29 (L : List Fc) (p : Fc → Bool) (m : Nat) (x : Ex) (k : Nat) : AS := ⟨regs Tryz.f29.ntmps [(1, .d (fcsD L)), (2, .box 2 0), (5, .vec 900 1 0 (cntF p L k)), (9, vi k)], [(2, exC m x), (900, [.arr stK 1 (rowNm (L.filter p) (cntF p L k))])]⟩
theorem f29 (hT : Tab G) (m : Nat) (x : Ex) (L : List Fc) (hx : ht x ≤ m) (hs : Sm x) (h : ∀ i, i < L.length → FcS (L.getD i fc0)) (hl : L.length ≤ 1000) : FnOK Tryz.prog G 29 [exD m x, fcsD L] (wdD (nmsR L x)) := by
  have e : rdE (exV x.k x.s x.n x.d x.pos x.kids.length (lay (exG m) x.kids)) = x := rdE_eq hx
  by_cases hty : (typR L x).2.2 ≠ 0
  · have en : nmsR L x = [] := by unfold nmsR; rw [if_pos hty]
    rw [en]
    refine FnOK.res (r := .slc 1 0 fun _ => DV.con undef) ?_ (fun k v hv => DV.rel_slc_congr (fun i hi => absurd hi (by simp)) hv)
    refine FnOK.walkK (orc := orcTd L) (keep := []) follows Tryz.func29 rfl Tryz.call29 ?_
    refine of_tr (fun ZT ZW ZQ ZK => (ZK 33 [(ndX m x), (.slc 7 L.length (fcF L))] (.tup [(di (typR L (rdE (ndX m x))).fst), (di (typR L (rdE (ndX m x))).snd.fst), (di (typR L (rdE (ndX m x))).snd.snd)]) ∧ ((((typR L (rdE (ndX m x))).snd.snd != 0) = true) → (ZS ((.slc 1 0 (fun x => DV.con undef)) : DV))) ∧ ((((typR L (rdE (ndX m x))).snd.snd != 0) = false) → ZW [cd Tryz.f29 [1, 1, 1, 0, 1, 0], (.blk 0), cd Tryz.f29 [1, 1, 1, 1]] (stS ZT [1]) ZQ))) (by kernel_rfl) ?_
    simp only [e]
    refine ⟨f33 hT m x L hx hs h hl, fun h1 => ?_, fun h1 => absurd (by simpa using h1) hty⟩
    trivial
  have en : nmsR L x = (L.filter fun f => occE f.name x).map (·.name) := by unfold nmsR; rw [if_neg hty]
  rw [en]
  refine FnOK.walkK (orc := orc29 L) (keep := []) follows Tryz.func29 rfl Tryz.call29 ?_
  refine of_tr (fun ZT ZW ZQ ZK => (ZK 33 [(ndX m x), (.slc 7 L.length (fcF L))] (.tup [(di (typR L (rdE (ndX m x))).fst), (di (typR L (rdE (ndX m x))).snd.fst), (di (typR L (rdE (ndX m x))).snd.snd)]) ∧ ((((typR L (rdE (ndX m x))).snd.snd != 0) = true) → (((.slc 1 0 (fun i => DV.con undef)) : DV) = (wdD (List.map (fun x => x.name) (List.filter (fun f => occE f.name x) L))))) ∧ ((((typR L (rdE (ndX m x))).snd.snd != 0) = false) → ZW [cd Tryz.f29 [1, 1, 1, 0, 1, 0], (.blk 0), cd Tryz.f29 [1, 1, 1, 1]] (stS ZT [1]) ZQ))) (by kernel_rfl) ?_
  simp only [e]
  refine ⟨f33 hT m x L hx hs h hl, fun h1 => ?_, fun h1 => ?_⟩
  · exact absurd (by simpa using h1) hty
  clear en
  obtain ⟨p, hp⟩ : ∃ p : Fc → Bool, p = fun f => occE f.name x := ⟨_, rfl⟩
  rw [← hp]
  refine AWP.pre (.moves [(10, 900)] _ rfl) ?_
  refine AWP.loop (c := cAt (bodyOf Tryz.f29) [1, 1, 1, 0, 1, 0, 0]) (by kernel_rfl) (S29 L p m x) (fun k => k ≤ L.length) (fun k => L.length - k) 0 ?_ (Nat.zero_le _) ?_
  · refine of_eq1 (some [(vi x.k), (vs x.s), (vi x.n), (vi x.d), (vi x.pos), (.d (.slc 6 x.kids.length (lay (exG m) x.kids)))]) (fun Za => ((((.d (.slc 7 L.length (fcF L))) : AV) = (.d (.slc 7 L.length (fcF L))) ∧ ((.box 2 0) : AV) = (.box 2 0) ∧ ((.vec 900 1 0 0) : AV) = (.vec 900 1 0 0) ∧ ((vi 0) : AV) = (vi 0) ∧ True) ∧ (Za : (Option (List AV))) = Za ∧ ((some [(.arr ⟨false, 9, false, none⟩ 1 (fun x => DV.con undef))]) : (Option (List AV))) = (some [(.arr ⟨false, 9, false, none⟩ 1 (rowNm (List.filter p L) (cntF p L 0)))]) ∧ True)) (by kernel_rfl) ?_
    exact ⟨⟨rfl, rfl, rfl, rfl, trivial⟩, rfl, rfl, trivial⟩
  · intro k hk
    refine walkK (orc := orc29 L) (keep := []) (cuts := []) (n := 1000) follows ?_
    refine of_eqH6 ((.d (.ptr [(ds (L.getD (↑k : Int).toNat fc0).name), (di (L.getD (↑k : Int).toNat fc0).kind), (di (L.getD (↑k : Int).toNat fc0).ln), (di (L.getD (↑k : Int).toNat fc0).ld), (di (L.getD (↑k : Int).toNat fc0).hn), (di (L.getD (↑k : Int).toNat fc0).hd), (.slc 1 (L.getD (↑k : Int).toNat fc0).words.length (stF (L.getD (↑k : Int).toNat fc0).words))])) : AV) ((.d (.slc 7 L.length (fcF L))) : AV) (occE (L.getD (↑k : Int).toNat fc0).name (rdE (ndX m x))) ((.d (.slc 6 x.kids.length (lay (exG m) x.kids))) : AV) (vs (L.getD (↑k : Int).toNat fc0).name) ((.arr ⟨false, 9, false, none⟩ 1 (rowNm (List.filter p L) (cntF p L k))) : AV) (fun Za Zb Zc Zd Ze Zf => ((((decide ((↑k : Int) < ↑L.length)) = true) → ((((0 ≤ (↑k : Int)) ∧ ((↑k : Int) < ↑L.length)) ∧ FnOK Tryz.prog G 60 [(ndX m x), (ds (L.getD (↑k : Int).toNat fc0).name)] (db Zc)) ∧ ((Zc = true) → ((((0 ≤ (↑k : Int)) ∧ ((↑k : Int) < ↑L.length)) ∧ (((cntF p L k + 1) * 16 ≤ 1099511627776) ∧ (cntF p L k + 1 ≤ 1099511627776)) ∧ (∀ (i : Nat), i < 1 → elemOK false 1 (elemF false 1 [DV.con (Value.string (L.getD (↑k : Int).toNat fc0).name)] i) = true)) ∧ (I64 (↑k + 1)) ∧ Again (S29 L p m x) (fun k => k ≤ L.length) (fun k => L.length - k) k ⟨regs 43 [(1, Zb), (2, (.box 2 0)), (5, (.vec 41 1 0 (cntF p L k + 1))), (9, (vi (↑k + 1))), (21, (vi (↑k))), (22, Zb), (23, (vi (↑L.length))), (24, (vb true)), (25, (vi (↑k))), (26, (vi (↑k + 1))), (27, (.d (ndX m x))), (28, Zb), (29, (vi (↑k))), (30, Za), (31, Za), (32, Ze), (33, (vb true)), (34, (.vec 900 1 0 (cntF p L k))), (35, Zb), (36, (vi (↑k))), (37, Za), (38, Za), (39, Ze), (40, (.d (.slc 1 1 (elemF false 1 [(ds (L.getD (↑k : Int).toNat fc0).name)])))), (41, (.vec 41 1 0 (cntF p L k + 1)))], [(41, [(.arr ⟨false, 9, false, none⟩ 1 (fun i => bif i.blt (cntF p L k) then rowNm (List.filter p L) (cntF p L k) i else elemF false 1 [DV.con (Value.string (L.getD (↑k : Int).toNat fc0).name)] (i - cntF p L k)))]), (2, [(vi x.k), (vs x.s), (vi x.n), (vi x.d), (vi x.pos), Zd]), (900, [.dead])]⟩)) ∧ ((Zc = false) → ((I64 (↑k + 1)) ∧ Again (S29 L p m x) (fun k => k ≤ L.length) (fun k => L.length - k) k ⟨regs 43 [(1, Zb), (2, (.box 2 0)), (5, (.vec 900 1 0 (cntF p L k))), (9, (vi (↑k + 1))), (21, (vi (↑k))), (22, Zb), (23, (vi (↑L.length))), (24, (vb true)), (25, (vi (↑k))), (26, (vi (↑k + 1))), (27, (.d (ndX m x))), (28, Zb), (29, (vi (↑k))), (30, Za), (31, Za), (32, Ze), (33, (vb false))], [(2, [(vi x.k), (vs x.s), (vi x.n), (vi x.d), (vi x.pos), Zd]), (900, [Zf])]⟩)))) ∧ (((decide ((↑k : Int) < ↑L.length)) = false) → AWP Tryz.prog G [cd Tryz.f29 [1, 1, 1, 1]] ⟨regs 43 [(1, Zb), (2, (.box 2 0)), (5, (.vec 900 1 0 (cntF p L k))), (9, (vi (↑k))), (21, (vi (↑k))), (22, Zb), (23, (vi (↑L.length))), (24, (vb false))], [(2, [(vi x.k), (vs x.s), (vi x.n), (vi x.d), (vi x.pos), Zd]), (900, [Zf])]⟩ (Ret Tryz.prog Tryz.f29 (wdD (List.map (fun x => x.name) (List.filter p L))))))) (by kernel_rfl) ?_
    simp only [Int.toNat_natCast, e]
    refine ⟨fun h1 => ?_, fun h1 => ?_⟩
    · have hk2 : k < L.length := by have := of_decide_eq_true h1; omega
      have hnx := cntF_next (p := p) (x0 := fc0) hk2
      have hle := @cntF_le _ p L k
      have hpe : p (L.getD k fc0) = occE (L.getD k fc0).name x := by rw [hp]
      refine ⟨⟨⟨by omega, by omega⟩, f60 _ m x hx hs⟩, fun h2 => ?_, fun h2 => ?_⟩
      · rw [← hpe] at h2
        rw [if_pos h2] at hnx
        have hg := cntF_get hk2 h2
        refine ⟨⟨⟨by omega, by omega⟩, ⟨by omega, by omega⟩, fun i hi => (by obtain rfl : i = 0 := (by omega); rfl)⟩, ⟨by omega, by omega⟩, Again.mkR [(41, 900)] rfl (k + 1) ?_ hk2 (by omega)⟩
        refine of_eq1 (some [(vi x.k), (vs x.s), (vi x.n), (vi x.d), (vi x.pos), (.d (.slc 6 x.kids.length (lay (exG m) x.kids)))]) (fun Za => ((((.d (.slc 7 L.length (fcF L))) : AV) = (.d (.slc 7 L.length (fcF L))) ∧ ((.box 2 0) : AV) = (.box 2 0) ∧ ((.vec 900 1 0 (cntF p L k + 1)) : AV) = (.vec 900 1 0 (cntF p L (k + 1))) ∧ ((vi (↑k + 1)) : AV) = (vi (↑(k + 1))) ∧ True) ∧ (Za : (Option (List AV))) = Za ∧ ((some [(.arr ⟨false, 9, false, none⟩ 1 (fun i => bif i.blt (cntF p L k) then rowNm (List.filter p L) (cntF p L k) i else elemF false 1 [DV.con (Value.string (L.getD k fc0).name)] (i - cntF p L k)))]) : (Option (List AV))) = (some [(.arr ⟨false, 9, false, none⟩ 1 (rowNm (List.filter p L) (cntF p L (k + 1))))]) ∧ True)) (by kernel_rfl) ?_
        rw [hnx]
        refine ⟨⟨rfl, rfl, rfl, rfl, trivial⟩, rfl, ?_, trivial⟩
        exact congrArg (fun f => some [AV.arr stK 1 f]) (rowNs_next (by rw [hg]))
      · rw [← hpe] at h2
        rw [if_neg (by rw [h2]; decide)] at hnx
        refine ⟨⟨by omega, by omega⟩, Again.mk (k + 1) ?_ hk2 (by omega)⟩
        refine of_eq1 (some [(vi x.k), (vs x.s), (vi x.n), (vi x.d), (vi x.pos), (.d (.slc 6 x.kids.length (lay (exG m) x.kids)))]) (fun Za => ((((.d (.slc 7 L.length (fcF L))) : AV) = (.d (.slc 7 L.length (fcF L))) ∧ ((.box 2 0) : AV) = (.box 2 0) ∧ ((.vec 900 1 0 (cntF p L k)) : AV) = (.vec 900 1 0 (cntF p L (k + 1))) ∧ ((vi (↑k + 1)) : AV) = (vi (↑(k + 1))) ∧ True) ∧ (Za : (Option (List AV))) = Za ∧ ((some [(.arr ⟨false, 9, false, none⟩ 1 (rowNm (List.filter p L) (cntF p L k)))]) : (Option (List AV))) = (some [(.arr ⟨false, 9, false, none⟩ 1 (rowNm (List.filter p L) (cntF p L (k + 1))))]) ∧ True)) (by kernel_rfl) ?_
        rw [hnx]
        exact ⟨⟨rfl, rfl, rfl, rfl, trivial⟩, rfl, rfl, trivial⟩
    · have h1 := of_decide_eq_false h1
      obtain rfl : k = L.length := by omega
      have hlen : cntF p L L.length = (L.filter p).length := cntF_all
      refine AWP.freeze (agg := stK) (sz := 1) (f := rowNm (L.filter p) (cntF p L L.length)) 900 (by kernel_rfl) ?_
      refine AWP.pre (.reg _ 5 (.d (wdD ((L.filter p).map (·.name)))) fun β h v hv => ?_) ?_
      · have hv : DV.rel h (.slc 1 (cntF p L L.length) fun i => rowNm (L.filter p) (cntF p L L.length) (0 + i)) v := hv
        rw [hlen] at hv
        show DV.rel h (.slc 1 ((L.filter p).map (·.name)).length _) v
        rw [List.length_map]
        exact DV.rel_slc_congr (fun i hi => rowNm_get hi (Nat.le_refl _)) hv
      refine walkK (orc := orc29 L) (keep := []) (cuts := []) (n := 1000) follows ?_
      refine of_tr (fun _ _ _ _ => (ZS ((wdD (List.map (fun x => x.name) (List.filter p L))) : DV))) (by kernel_rfl) ?_
      rfl
end Go.Proofs
