import Derived.Test.YtpognhmelecaoaaGreatDoorAcD
import Derived.Test.YtpognhmelecaoaaGreatDoorEP
import Derived.Test.YtpognhmelecaoaaGreatDoorET
import Derived.Test.YtpognhmelecaoaaGreatDoorES
set_option autoImplicit false
namespace Go.Proofs
open Go Go.Ab Go.RowKit
set_option maxHeartbeats 4000000
set_option maxRecDepth 100000
variable {G : IH}
/-! The reference's Bounds and trends. -/
theorem typ_nr {L : List Fc} {x : Ex} (h : (typR L x).2.2 = 0) : VF L ∧ sndE x = true ∧ (tyW L x).2.2 = 0 ∧ typR L x = ((tyW L x).1, 0, 0) := by
  obtain ⟨h1, _, h3, h4, h5⟩ := typ_ok h
  exact ⟨vf_of h1, h3, h4, h5⟩
noncomputable def orc26 (L : List Fc) : Oracle := fun f a => match f, a with
  | 33, [e, _] => some (.tup [di (typR L (rdE e)).1, di (typR L (rdE e)).2.1, di (typR L (rdE e)).2.2])
  | 59, [e, _] => some (.tup [fr (brE L (rdE e)).1.a (brE L (rdE e)).1.b, fr (brE L (rdE e)).1.c (brE L (rdE e)).1.d, db (brE L (rdE e)).2])
  | _, _ => none
theorem f26 (hT : Tab G) (m : Nat) (x : Ex) (L : List Fc) (hx : ht x ≤ m) (hs : Sm x) (h : ∀ i, i < L.length → FcS (L.getD i fc0)) (hl : L.length ≤ 1000) : FnOK Tryz.prog G 26 [exD m x, fcsD L] (.tup [fr (bdsR L x).1.a (bdsR L x).1.b, fr (bdsR L x).1.c (bdsR L x).1.d, db (bdsR L x).2]) := by
  have e : rdE (exV x.k x.s x.n x.d x.pos x.kids.length (lay (exG m) x.kids)) = x := rdE_eq hx
  refine FnOK.walkK (orc := orc26 L) (keep := []) follows Tryz.func26 rfl Tryz.call26 ?_
  refine of_tr (fun _ _ _ ZK => (fun Za Zb Zc => (ZK 33 [(ndX m x), (.slc 7 L.length (fcF L))] (.tup [(di (typR L (rdE (ndX m x))).fst), (di (typR L (rdE (ndX m x))).snd.fst), (di (typR L (rdE (ndX m x))).snd.snd)]) ∧ ((Zc = true) → (((.tup [(.agg [(di 0), (di 0)]), (.agg [(di 0), (di 0)]), (db false)]) : DV) = Zb)) ∧ ((Zc = false) → (ZK 59 [(ndX m x), (.slc 7 L.length (fcF L))] Za ∧ (Za : DV) = Zb)))) ((.tup [(.agg [(di (brE L (rdE (ndX m x))).fst.a), (di (brE L (rdE (ndX m x))).fst.b)]), (.agg [(di (brE L (rdE (ndX m x))).fst.c), (di (brE L (rdE (ndX m x))).fst.d)]), (db (brE L (rdE (ndX m x))).snd)]) : DV) ((.tup [(fr (bdsR L x).fst.a (bdsR L x).fst.b), (fr (bdsR L x).fst.c (bdsR L x).fst.d), (db (bdsR L x).snd)]) : DV) ((typR L (rdE (ndX m x))).snd.snd != 0 || (typR L (rdE (ndX m x))).fst != 0)) (by kernel_rfl) ?_
  simp only [e]
  refine ⟨f33 hT m x L hx hs h hl, fun h1 => ?_, fun h1 => ?_⟩
  · unfold bdsR; rw [if_pos h1]
  · have h2 := h1
    simp only [Bool.or_eq_false_iff, bne_eq_false_iff_eq] at h2
    obtain ⟨hv, hsn, hty, ht3⟩ := typ_nr h2.1
    have h20 := h2.2
    rw [ht3] at h20
    have hsame := br_same hv _ x (Nat.le_refl _) hsn hty h20
    refine ⟨f59 L hv hl m x hx hs hsn hty h20, ?_⟩
    have e2 : bdsR L x = brE L x := by
      unfold bdsR
      rw [if_neg (by rw [h1]; decide)]
      cases hb : (bnE (revF L L.length) x).2 with
      | true => rw [if_pos rfl, (hsame.2.1 hb).2]
      | false => rw [if_neg (by decide), hsame.2.2 hb]
    rw [e2]
theorem see_same {r b : BR} (h : Same r b) (t : Int) : seeB r t = seeB b t := by
  cases hb : b.2 with
  | true => rw [(h.2.1 hb).2]
  | false =>
    rw [h.2.2 hb]
    unfold seeB
    rw [hb]
    simp only [Bool.false_and, Bool.false_eq_true, if_false]
noncomputable def orc109 (L : List Fc) : Oracle := fun f a => match f, a with
  | 59, [e, _] => some (.tup [fr (brE L (rdE e)).1.a (brE L (rdE e)).1.b, fr (brE L (rdE e)).1.c (brE L (rdE e)).1.d, db (brE L (rdE e)).2])
  | 107, [.con (.int .i64 t)] => some (di (oppI t))
  | _, _ => none
theorem f109 (L : List Fc) (hv : VF L) (hl : L.length ≤ 1000) (m : Nat) (x : Ex) (t : Int) (hx : ht x ≤ m) (hs : Sm x) (hsn : sndE x = true) (hty : (tyW L x).2.2 = 0) (hty0 : (tyW L x).1 = 0) :
    FnOK Tryz.prog G 109 [di t, exD m x, fcsD L] (di (seeB (bnE (revF L L.length) x) t)) := by
  have e : rdE (exV x.k x.s x.n x.d x.pos x.kids.length (lay (exG m) x.kids)) = x := rdE_eq hx
  rw [← see_same (br_same hv _ x (Nat.le_refl _) hsn hty hty0)]
  refine FnOK.walkK (orc := orc109 L) (keep := []) follows Tryz.func109 rfl Tryz.call109 ?_
  refine of_tr (fun _ _ _ ZK => (fun Za Zb => (ZK 59 [(ndX m x), (.slc 7 L.length (fcF L))] (.tup [(.agg [(di (brE L (rdE (ndX m x))).fst.a), (di (brE L (rdE (ndX m x))).fst.b)]), (.agg [(di (brE L (rdE (ndX m x))).fst.c), (di (brE L (rdE (ndX m x))).fst.d)]), (db (brE L (rdE (ndX m x))).snd)]) ∧ ((Za = true) → (((di t) : DV) = (di (seeB (brE L x) t)))) ∧ ((Za = false) → (((Zb = true) → (ZK 107 [(di t)] (di (oppI t)) ∧ ((di (oppI t)) : DV) = (di (seeB (brE L x) t)))) ∧ ((Zb = false) → ((((t == 0) = true) → (((di t) : DV) = (di (seeB (brE L x) t)))) ∧ (((t == 0) = false) → (((di 3) : DV) = (di (seeB (brE L x) t)))))))))) ((brE L (rdE (ndX m x))).snd && decide ((brE L (rdE (ndX m x))).fst.a ≥ 0)) ((brE L (rdE (ndX m x))).snd && decide ((brE L (rdE (ndX m x))).fst.c ≤ 0))) (by kernel_rfl) ?_
  simp only [e]
  unfold seeB
  refine ⟨f59 L hv hl m x hx hs hsn hty hty0, fun h => ?_, fun h => ⟨fun h2 => ⟨f107 _, ?_⟩, fun h2 => ⟨fun h3 => ?_, fun h3 => ?_⟩⟩⟩
  · rw [if_pos h]
  · rw [if_neg (by rw [h]; decide), if_pos h2]
  · rw [if_neg (by rw [h]; decide), if_neg (by rw [h2]; decide), if_pos (by simpa using h3)]
  · rw [if_neg (by rw [h]; decide), if_neg (by rw [h2]; decide), if_neg (by simpa using h3)]
theorem com_pair (a b : Int) : comI [a, b] = com2 a b := by
  unfold comI
  simp only [List.foldl_cons, List.foldl_nil]
  have : com2 0 a = a := by unfold com2; rw [if_pos (.inl rfl)]
  rw [this]
theorem div_cond {r b : BR} (h : Same r b) : (!r.2 || (decide (r.1.a ≤ 0) && decide (r.1.c ≥ 0))) = (!b.2 || sgnI b.1.a b.1.c == 0) := by
  cases hb : b.2 with
  | true =>
    rw [(h.2.1 hb).2, hb]
    simp only [Bool.not_true, Bool.false_or]
    unfold sgnI
    split
    · rw [decide_eq_false (by omega)]; rfl
    · split
      · rw [decide_eq_false (p := b.1.c ≥ 0) (by omega), Bool.and_false]; rfl
      · rw [decide_eq_true (by omega), decide_eq_true (by omega)]; rfl
  | false => rw [h.2.2 hb]; rfl
noncomputable def orc61d (L : List Fc) : Oracle := fun f a => match f, a with
  | 60, [e, .con (.string s)] => some (db (occE s (rdE e)))
  | 61, [e, .con (.string s), _] => some (di (trE (revF L L.length) s (rdE e)))
  | 59, [e, _] => some (.tup [fr (brE L (rdE e)).1.a (brE L (rdE e)).1.b, fr (brE L (rdE e)).1.c (brE L (rdE e)).1.d, db (brE L (rdE e)).2])
  | 107, [.con (.int .i64 t)] => some (di (oppI t))
  | 108, [.con (.int .i64 t), .con (.int .i64 u)] => some (di (com2 t u))
  | 109, [.con (.int .i64 t), e, _] => some (di (seeB (bnE (revF L L.length) (rdE e)) t))
  | _, _ => none
noncomputable def orc61 (L : List Fc) : Orc := { d := orc61d L, rows := fun n => Nat.beq n 18 }
noncomputable def S61 (L : List Fc) (s : ByteArray) (m : Nat) (x : Ex) (k : Nat) : AS := ⟨regs Tryz.f61.ntmps [(1, .d (ds s)), (2, .d (fcsD L)), (3, .box 3 0), (7, .vec 900 1 0 k), (8, vi k)], [(3, exC m x), (900, [.arr i1K 1 (rowT (revF L L.length) s x k)])]⟩
def cmT (l : List Int) (k : Nat) : Int := (l.take k).foldl com2 0
noncomputable def S61b (l : List Int) (k : Nat) : AS := ⟨regs Tryz.f61.ntmps [(7, .d (inD l)), (12, vi (cmT l k)), (13, vi k)], []⟩
theorem f61 (L : List Fc) (hv : VF L) (hl : L.length ≤ 1000) (s : ByteArray) (m : Nat) : ∀ (x : Ex), ht x ≤ m → Sm x → sndE x = true → (tyW L x).2.2 = 0 → FnOK Tryz.prog G 61 [exD m x, ds s, fcsD L] (di (trE (revF L L.length) s x)) := by
  induction m using Nat.strongRecOn with
  | _ m ih =>
  intro x hx hs hsn hty
  have hlen := hs.len.1
  have h61 : ∀ i, i < x.kids.length → FnOK Tryz.prog G 61 [kidA m x i, ds s, fcsD L] (di (trE (revF L L.length) s (x.kids.getD i ex0))) := fun i hi =>
    kidOK (Q := fun d => FnOK Tryz.prog G 61 [d, ds s, fcsD L] _) hx hi fun m' h1 h2 => ih m' h1 _ h2 (hs.kid hi) (snd_kid hsn hi) ((tyE_fine hty).1 i hi)
  have hnum : ∀ i, i < x.kids.length → x.k = 8 ∨ x.k = 9 → (tyW L (x.kids.getD i ex0)).2.2 = 0 ∧ (tyW L (x.kids.getD i ex0)).1 = 0 := fun i hi hk => ⟨(tyE_fine hty).1 i hi, (ty_kids hty).1 (.inl (by omega)) i hi⟩
  have h59 : ∀ i, i < x.kids.length → x.k = 8 ∨ x.k = 9 → FnOK Tryz.prog G 59 [kidA m x i, fcsD L] (.tup [fr (brE L (x.kids.getD i ex0)).1.a (brE L (x.kids.getD i ex0)).1.b, fr (brE L (x.kids.getD i ex0)).1.c (brE L (x.kids.getD i ex0)).1.d, db (brE L (x.kids.getD i ex0)).2]) := fun i hi hk =>
    kidOK (Q := fun d => FnOK Tryz.prog G 59 [d, fcsD L] _) hx hi fun m' h1 h2 => f59 L hv hl m' _ h2 (hs.kid hi) (snd_kid hsn hi) (hnum i hi hk).1 (hnum i hi hk).2
  have h109 : ∀ i, i < x.kids.length → x.k = 8 ∨ x.k = 9 → ∀ t, FnOK Tryz.prog G 109 [di t, kidA m x i, fcsD L] (di (seeB (bnE (revF L L.length) (x.kids.getD i ex0)) t)) := fun i hi hk t =>
    kidOK (Q := fun d => FnOK Tryz.prog G 109 [di t, d, fcsD L] _) hx hi fun m' h1 h2 => f109 L hv hl m' _ t h2 (hs.kid hi) (snd_kid hsn hi) (hnum i hi hk).1 (hnum i hi hk).2
  have hsame : ∀ i, i < x.kids.length → x.k = 8 ∨ x.k = 9 → Same (brE L (x.kids.getD i ex0)) (bnE (revF L L.length) (x.kids.getD i ex0)) := fun i hi hk =>
    br_same hv _ _ (Nat.le_refl _) (snd_kid hsn hi) (hnum i hi hk).1 (hnum i hi hk).2
  have er : ∀ i, i < x.kids.length → rdE (kidA m x i) = x.kids.getD i ex0 := fun i hi => kid_rd hx hi
  have e : rdE (exV x.k x.s x.n x.d x.pos x.kids.length (lay (exG m) x.kids)) = x := rdE_eq hx
  have et := trE_eq (revF L L.length) s x
  refine FnOK.walkK (orc := orc61 L) (keep := []) follows Tryz.func61 rfl Tryz.call61 ?_
  refine of_tr (fun ZT ZW ZQ ZK => (ZK 60 [(ndX m x), (ds s)] (db (occE s (rdE (ndX m x)))) ∧ (((!occE s (rdE (ndX m x))) = true) → (((di 0) : DV) = (di (trE (revF L L.length) s x)))) ∧ (((!occE s (rdE (ndX m x))) = false) → ZW [cd Tryz.f61 [1, 1, 1, 0, 1, 0], (.blk 0), cd Tryz.f61 [1, 1, 1, 1]] (stS ZT [1]) ZQ))) (by kernel_rfl) ?_
  simp only [e]
  refine ⟨f60 s m x hx hs, fun h1 => ?_, fun h1 => ?_⟩
  · rw [et, if_neg (by simpa using h1)]
  rw [if_pos (by simpa using h1)] at et
  rw [et]
  refine AWP.pre (.moves [(18, 900)] _ rfl) ?_
  refine AWP.loop (c := cAt (bodyOf Tryz.f61) [1, 1, 1, 0, 1, 0, 0]) (by kernel_rfl) (S61 L s m x) (fun k => k ≤ x.kids.length) (fun k => x.kids.length - k) 0 ?_ (Nat.zero_le _) ?_
  · refine AS.leZ [] [1] (b := ((T0 ∧ T0 ∧ T0 ∧ T0 ∧ T0 ∧ True) ∧ T0 ∧ ((some [(.arr ⟨false, 3, false, none⟩ 1 (fun x => DV.con undef))]) : (Option (List AV))) = (some [(.arr ⟨false, 3, false, none⟩ 1 (rowT (revF L L.length) s x 0))]) ∧ True)) (by kernel_rfl) (by kernel_rfl) ?_
    exact ⟨⟨rfl, rfl, rfl, rfl, rfl, trivial⟩, rfl, rfl, trivial⟩
  · rintro k hk
    refine walkK (orc := orc61 L) (keep := []) (cuts := []) (n := 1000) follows ?_
    refine of_eqH2 (x.kids.getD (↑k : Int).toNat ex0) ((.d (.slc 6 x.kids.length (lay (exG m) x.kids))) : AV) (fun Za Zb => ((((decide ((↑k : Int) < ↑x.kids.length)) = true) → ((((0 ≤ (↑k : Int)) ∧ ((↑k : Int) < ↑x.kids.length)) ∧ FnOK Tryz.prog G 61 [(ndA m Za), (ds s), (.slc 7 L.length (fcF L))] (di (trE (revF L L.length) s (rdE (ndA m Za)))) ∧ (((k + 1) * 8 ≤ 1099511627776) ∧ (k + 1 ≤ 1099511627776)) ∧ (∀ (i : Nat), i < 1 → elemOK false 1 (elemF false 1 [DV.con (Value.int IntKind.i64 (trE (revF L L.length) s (rdE (ndA m Za))))] i) = true)) ∧ (I64 (↑k + 1)) ∧ Again (S61 L s m x) (fun k => k ≤ x.kids.length) (fun k => x.kids.length - k) k ⟨regs 152 [(1, (vs s)), (2, (.d (.slc 7 L.length (fcF L)))), (3, (.box 3 0)), (7, (.vec 36 1 0 (k + 1))), (8, (vi (↑k + 1))), (19, (vi (↑k))), (20, (.box 3 5)), (21, Zb), (22, (vi (↑x.kids.length))), (23, (vb true)), (24, (vi (↑k))), (25, (vi (↑k + 1))), (26, (.vec 900 1 0 k)), (27, (.box 3 5)), (28, Zb), (29, (vi (↑k))), (30, (.d (.ptr [(di Za.k), (ds Za.s), (di Za.n), (di Za.d), (di Za.pos), (.slc 6 Za.kids.length (exG m Za.kids))]))), (31, (.d (ndA m Za))), (32, (vs s)), (33, (.d (.slc 7 L.length (fcF L)))), (34, (vi (trE (revF L L.length) s (rdE (ndA m Za))))), (35, (.d (.slc 1 1 (elemF false 1 [(di (trE (revF L L.length) s (rdE (ndA m Za))))])))), (36, (.vec 36 1 0 (k + 1)))], [(36, [(.arr ⟨false, 3, false, none⟩ 1 (fun i => bif i.blt k then rowT (revF L L.length) s x k i else elemF false 1 [DV.con (Value.int IntKind.i64 (trE (revF L L.length) s (rdE (ndA m Za))))] (i - k)))]), (3, [(vi x.k), (vs x.s), (vi x.n), (vi x.d), (vi x.pos), Zb]), (900, [.dead])]⟩)) ∧ (((decide ((↑k : Int) < ↑x.kids.length)) = false) → AWP Tryz.prog G [cd Tryz.f61 [1, 1, 1, 1]] ⟨regs 152 [(1, (vs s)), (2, (.d (.slc 7 L.length (fcF L)))), (3, (.box 3 0)), (7, (.vec 900 1 0 k)), (8, (vi (↑k))), (19, (vi (↑k))), (20, (.box 3 5)), (21, Zb), (22, (vi (↑x.kids.length))), (23, (vb false))], [(3, [(vi x.k), (vs x.s), (vi x.n), (vi x.d), (vi x.pos), Zb]), (900, [(.arr ⟨false, 3, false, none⟩ 1 (rowT (revF L L.length) s x k))])]⟩ (Ret Tryz.prog Tryz.f61 (di (if (x.k == 12 || x.k == 13) = true then 3 else trC x.k (trL (revF L L.length) s x.kids) (bnE (revF L L.length) (x.kids.getD 0 ex0)) (bnE (revF L L.length) (x.kids.getD 1 ex0)))))))) (by kernel_rfl) ?_
    simp only [Int.toNat_natCast]
    refine ⟨fun h => ?_, fun h => ?_⟩
    · have hk2 : k < x.kids.length := by have := of_decide_eq_true h; omega
      have er : rdE (kidA m x k) = x.kids.getD k ex0 := kid_rd hx hk2
      have hh := h61 k hk2
      simp only [er]
      refine ⟨⟨⟨by omega, by omega⟩, hh, ⟨by omega, by omega⟩, fun i hi => (by obtain rfl : i = 0 := (by omega); rfl)⟩, ⟨by omega, by omega⟩, Again.mkR [(36, 900)] rfl (k + 1) ?_ hk2 (by omega)⟩
      refine of_eq1 (some [(vi x.k), (vs x.s), (vi x.n), (vi x.d), (vi x.pos), (.d (.slc 6 x.kids.length (lay (exG m) x.kids)))]) (fun Za => ((((vs s) : AV) = (vs s) ∧ ((.d (.slc 7 L.length (fcF L))) : AV) = (.d (.slc 7 L.length (fcF L))) ∧ ((.box 3 0) : AV) = (.box 3 0) ∧ ((.vec 900 1 0 (k + 1)) : AV) = (.vec 900 1 0 (k + 1)) ∧ ((vi (↑k + 1)) : AV) = (vi (↑(k + 1))) ∧ True) ∧ (Za : (Option (List AV))) = Za ∧ ((some [(.arr ⟨false, 3, false, none⟩ 1 (fun i => bif i.blt k then rowT (revF L L.length) s x k i else elemF false 1 [DV.con (Value.int IntKind.i64 (trE (revF L L.length) s (x.kids.getD k ex0)))] (i - k)))]) : (Option (List AV))) = (some [(.arr ⟨false, 3, false, none⟩ 1 (rowT (revF L L.length) s x (k + 1)))]) ∧ True)) (by kernel_rfl) ?_
      refine ⟨⟨rfl, rfl, rfl, rfl, rfl, trivial⟩, rfl, ?_, trivial⟩
      exact congrArg (fun f => some [AV.arr i1K 1 f]) (rowT_next k rfl)
    · have h := of_decide_eq_false h
      obtain rfl : k = x.kids.length := by omega
      have hRl : (trL (revF L L.length) s x.kids).length = x.kids.length := by rw [trL_map, List.length_map]
      refine AWP.freeze (agg := i1K) (sz := 1) (f := rowT (revF L L.length) s x x.kids.length) 900 (by kernel_rfl) ?_
      refine AWP.pre (.reg _ 7 (.d (inD (trL (revF L L.length) s x.kids))) fun β h v hv => ?_) ?_
      · have hv : DV.rel h (.slc 1 x.kids.length fun i => rowT (revF L L.length) s x x.kids.length (0 + i)) v := hv
        show DV.rel h (.slc 1 (trL (revF L L.length) s x.kids).length _) v
        rw [hRl]
        refine DV.rel_slc_congr (fun i hi => ?_) hv
        rw [Nat.zero_add]
        unfold rowT inF
        rw [rowRec_get hi, trL_get hi]; rfl
      have hrk := rk_all hsn
      have hone := @snd_one x hsn
      have htwo := @snd_two x hsn
      clear et ih h61 hk h h1 hnum
      generalize trL (revF L L.length) s x.kids = R at *
      refine walkK (orc := orc61 L) (keep := []) (cuts := []) (n := 1000) follows ?_
      refine of_tr (fun ZT ZW ZQ ZK => (fun Za Zb Zc Zd Ze Zf => ((((x.k == 2) = true) → (((di 1) : DV) = (di (if (x.k == 12 || x.k == 13) = true then 3 else trC x.k R Zc Zd)))) ∧ (((x.k == 2) = false) → ((((x.k == 5) = true) → (((((0 : Int) ≤ (0 : Int)) ∧ (0 < (↑R.length : Int))) ∧ ZK 107 [(di (R.getD (Int.toNat 0) 0))] (di Zf)) ∧ ((di Zf) : DV) = (di (if (x.k == 12 || x.k == 13) = true then 3 else trC x.k R Zc Zd)))) ∧ (((x.k == 5) = false) → ((((x.k == 18) = true) → (((((0 : Int) ≤ (0 : Int)) ∧ (0 < (↑R.length : Int))) ∧ ZK 107 [(di (R.getD (Int.toNat 0) 0))] (di Zf)) ∧ ((di Zf) : DV) = (di (if (x.k == 12 || x.k == 13) = true then 3 else trC x.k R Zc Zd)))) ∧ (((x.k == 18) = false) → ((((x.k == 7) = true) → (((((0 : Int) ≤ (0 : Int)) ∧ (0 < (↑R.length : Int))) ∧ (((0 : Int) ≤ (1 : Int)) ∧ (1 < (↑R.length : Int))) ∧ ZK 107 [(di (R.getD (Int.toNat 1) 0))] (di Zb) ∧ ZK 108 [(di (R.getD (Int.toNat 0) 0)), (di Zb)] (di (com2 (R.getD (Int.toNat 0) 0) Zb))) ∧ ((di (com2 (R.getD (Int.toNat 0) 0) Zb)) : DV) = (di (if (x.k == 12 || x.k == 13) = true then 3 else trC x.k R Zc Zd)))) ∧ (((x.k == 7) = false) → ((((x.k == 16) = true) → (((((0 : Int) ≤ (0 : Int)) ∧ (0 < (↑R.length : Int))) ∧ (((0 : Int) ≤ (1 : Int)) ∧ (1 < (↑R.length : Int))) ∧ ZK 107 [(di (R.getD (Int.toNat 1) 0))] (di Zb) ∧ ZK 108 [(di (R.getD (Int.toNat 0) 0)), (di Zb)] (di (com2 (R.getD (Int.toNat 0) 0) Zb))) ∧ ((di (com2 (R.getD (Int.toNat 0) 0) Zb)) : DV) = (di (if (x.k == 12 || x.k == 13) = true then 3 else trC x.k R Zc Zd)))) ∧ (((x.k == 16) = false) → ((((x.k == 17) = true) → (((((0 : Int) ≤ (0 : Int)) ∧ (0 < (↑R.length : Int))) ∧ (((0 : Int) ≤ (1 : Int)) ∧ (1 < (↑R.length : Int))) ∧ ZK 107 [(di (R.getD (Int.toNat 1) 0))] (di Zb) ∧ ZK 108 [(di (R.getD (Int.toNat 0) 0)), (di Zb)] (di (com2 (R.getD (Int.toNat 0) 0) Zb))) ∧ ((di (com2 (R.getD (Int.toNat 0) 0) Zb)) : DV) = (di (if (x.k == 12 || x.k == 13) = true then 3 else trC x.k R Zc Zd)))) ∧ (((x.k == 17) = false) → ((((x.k == 14) = true) → (((((0 : Int) ≤ (0 : Int)) ∧ (0 < (↑R.length : Int))) ∧ ZK 107 [(di (R.getD (Int.toNat 0) 0))] (di Zf) ∧ (((0 : Int) ≤ (1 : Int)) ∧ (1 < (↑R.length : Int))) ∧ ZK 108 [(di Zf), (di (R.getD (Int.toNat 1) 0))] (di (com2 Zf (R.getD (Int.toNat 1) 0)))) ∧ ((di (com2 Zf (R.getD (Int.toNat 1) 0))) : DV) = (di (if (x.k == 12 || x.k == 13) = true then 3 else trC x.k R Zc Zd)))) ∧ (((x.k == 14) = false) → ((((x.k == 15) = true) → (((((0 : Int) ≤ (0 : Int)) ∧ (0 < (↑R.length : Int))) ∧ ZK 107 [(di (R.getD (Int.toNat 0) 0))] (di Zf) ∧ (((0 : Int) ≤ (1 : Int)) ∧ (1 < (↑R.length : Int))) ∧ ZK 108 [(di Zf), (di (R.getD (Int.toNat 1) 0))] (di (com2 Zf (R.getD (Int.toNat 1) 0)))) ∧ ((di (com2 Zf (R.getD (Int.toNat 1) 0))) : DV) = (di (if (x.k == 12 || x.k == 13) = true then 3 else trC x.k R Zc Zd)))) ∧ (((x.k == 15) = false) → ((((x.k == 8) = true) → (((((0 : Int) ≤ (0 : Int)) ∧ (0 < (↑R.length : Int))) ∧ (((0 : Int) ≤ (1 : Int)) ∧ (1 < (↑x.kids.length : Int))) ∧ ZK 109 [(di (R.getD (Int.toNat 0) 0)), Za, (.slc 7 L.length (fcF L))] (di (seeB (bnE (revF L L.length) (rdE Za)) (R.getD (Int.toNat 0) 0))) ∧ (((0 : Int) ≤ (1 : Int)) ∧ (1 < (↑R.length : Int))) ∧ (((0 : Int) ≤ (0 : Int)) ∧ (0 < (↑x.kids.length : Int))) ∧ ZK 109 [(di (R.getD (Int.toNat 1) 0)), (ndA m (x.kids.getD (Int.toNat 0) ex0)), (.slc 7 L.length (fcF L))] (di (seeB Ze (R.getD (Int.toNat 1) 0))) ∧ ZK 108 [(di (seeB (bnE (revF L L.length) (rdE Za)) (R.getD (Int.toNat 0) 0))), (di (seeB Ze (R.getD (Int.toNat 1) 0)))] (di (com2 (seeB (bnE (revF L L.length) (rdE Za)) (R.getD (Int.toNat 0) 0)) (seeB Ze (R.getD (Int.toNat 1) 0))))) ∧ ((di (com2 (seeB (bnE (revF L L.length) (rdE Za)) (R.getD (Int.toNat 0) 0)) (seeB Ze (R.getD (Int.toNat 1) 0)))) : DV) = (di (if (x.k == 12 || x.k == 13) = true then 3 else trC x.k R Zc Zd)))) ∧ (((x.k == 8) = false) → ((((x.k == 9) = true) → (((((0 : Int) ≤ (1 : Int)) ∧ (1 < (↑x.kids.length : Int))) ∧ ZK 59 [Za, (.slc 7 L.length (fcF L))] (.tup [(.agg [(di (brE L (rdE Za)).fst.a), (di (brE L (rdE Za)).fst.b)]), (.agg [(di (brE L (rdE Za)).fst.c), (di (brE L (rdE Za)).fst.d)]), (db (brE L (rdE Za)).snd)])) ∧ (((!(brE L (rdE Za)).snd || decide ((brE L (rdE Za)).fst.a ≤ 0) && decide ((brE L (rdE Za)).fst.c ≥ 0)) = true) → (((di 3) : DV) = (di (if (x.k == 12 || x.k == 13) = true then 3 else trC x.k R Zc Zd)))) ∧ (((!(brE L (rdE Za)).snd || decide ((brE L (rdE Za)).fst.a ≤ 0) && decide ((brE L (rdE Za)).fst.c ≥ 0)) = false) → (((((0 : Int) ≤ (0 : Int)) ∧ (0 < (↑R.length : Int))) ∧ (((0 : Int) ≤ (1 : Int)) ∧ (1 < (↑x.kids.length : Int))) ∧ ZK 109 [(di (R.getD (Int.toNat 0) 0)), Za, (.slc 7 L.length (fcF L))] (di (seeB (bnE (revF L L.length) (rdE Za)) (R.getD (Int.toNat 0) 0))) ∧ (((0 : Int) ≤ (1 : Int)) ∧ (1 < (↑R.length : Int))) ∧ ZK 107 [(di (R.getD (Int.toNat 1) 0))] (di Zb) ∧ (((0 : Int) ≤ (0 : Int)) ∧ (0 < (↑x.kids.length : Int))) ∧ ZK 109 [(di Zb), (ndA m (x.kids.getD (Int.toNat 0) ex0)), (.slc 7 L.length (fcF L))] (di (seeB Ze Zb)) ∧ ZK 108 [(di (seeB (bnE (revF L L.length) (rdE Za)) (R.getD (Int.toNat 0) 0))), (di (seeB Ze Zb))] (di (com2 (seeB (bnE (revF L L.length) (rdE Za)) (R.getD (Int.toNat 0) 0)) (seeB Ze Zb)))) ∧ ((di (com2 (seeB (bnE (revF L L.length) (rdE Za)) (R.getD (Int.toNat 0) 0)) (seeB Ze Zb))) : DV) = (di (if (x.k == 12 || x.k == 13) = true then 3 else trC x.k R Zc Zd)))))) ∧ (((x.k == 9) = false) → ((((x.k == 12) = true) → (((di 3) : DV) = (di (if (x.k == 12 || x.k == 13) = true then 3 else trC x.k R Zc Zd)))) ∧ (((x.k == 12) = false) → ((((x.k == 13) = true) → (((di 3) : DV) = (di (if (x.k == 12 || x.k == 13) = true then 3 else trC x.k R Zc Zd)))) ∧ (((x.k == 13) = false) → ZW [cd Tryz.f61 [1, 1, 1, 1, 1, 1, 0, 1, 0], (.blk 3), cd Tryz.f61 [1, 1, 1, 1, 1, 1, 1]] (stS ZT [1, 1, 1, 1, 1, 1, 1, 1, 1, 1, 1, 1]) ZQ))))))))))))))))))))))))) (ndA m (x.kids.getD (Int.toNat 1) ex0)) (oppI (R.getD (Int.toNat 1) 0)) (bnE (revF L L.length) (x.kids.getD 0 ex0)) (bnE (revF L L.length) (x.kids.getD 1 ex0)) (bnE (revF L L.length) (rdE (ndA m (x.kids.getD (Int.toNat 0) ex0)))) (oppI (R.getD (Int.toNat 0) 0))) (by kernel_rfl) ?_
      have t0 : Int.toNat 0 = 0 := rfl
      have t1 : Int.toNat 1 = 1 := rfl
      simp only [beq_iff_eq, beq_eq_false_iff_ne, ne_eq, t0, t1]
      have k1 : x.k = 5 ∨ x.k = 18 → 1 ≤ x.kids.length := fun h => by have := hone h; omega
      have k2 : x.k = 7 ∨ x.k = 8 ∨ x.k = 9 ∨ x.k = 14 ∨ x.k = 15 ∨ x.k = 16 ∨ x.k = 17 → 2 ≤ x.kids.length := fun h => by have := (htwo (by omega)).1; omega
      have n12 : ∀ b0 b1, x.k = 12 ∨ x.k = 13 → (if (x.k == 12 || x.k == 13) = true then 3 else trC x.k R b0 b1) = 3 := fun b0 b1 h => by rw [if_pos (by simpa using h)]
      have nz : ∀ b0 b1, ¬ x.k = 12 → ¬ x.k = 13 → (if (x.k == 12 || x.k == 13) = true then 3 else trC x.k R b0 b1) = trC x.k R b0 b1 := fun b0 b1 h1 h2 => by rw [if_neg (by simp [h1, h2])]
      repeat' (first | (with_reducible refine And.intro ?_ ?_) | (with_reducible intro _))
      all_goals first
        | contradiction
        | (exfalso; omega)
        | (show (0:Int) ≤ _; omega)
        | (show (1:Int) < _; omega)
        | (show (0:Int) < _; omega)
        | exact f107 _
        | exact f108 _ _
        | (rw [n12 _ _ (by omega)])
        | (rw [nz _ _ (by omega) (by omega), trC_2 (by omega)])
        | (rw [nz _ _ (by omega) (by omega), trC_5 (by omega)])
        | (rw [nz _ _ (by omega) (by omega), trC_7 (by omega), com_pair])
        | (rw [nz _ _ (by omega) (by omega), trC_14 (by omega), com_pair])
        | (have q1 := er 1 (by omega)
           simp only [q1]
           exact h59 1 (by omega) (by omega))
        | (have q1 := er 1 (by omega)
           simp only [q1]
           exact h109 1 (by omega) (by omega) _)
        | (have q1 := er 0 (by omega)
           simp only [q1]
           exact h109 0 (by omega) (by omega) _)
        | (have q1 := er 1 (by omega)
           have q0 := er 0 (by omega)
           simp only [q1, q0]
           rw [nz _ _ (by omega) (by omega), trC_8 (by omega), com_pair])
        | (rename_i h9
           have q1 := er 1 (by omega)
           simp only [q1] at h9
           rw [div_cond (hsame 1 (by omega) (by omega))] at h9
           rw [nz _ _ (by omega) (by omega), trC_9 (by omega), if_pos h9])
        | (rename_i h9
           have q1 := er 1 (by omega)
           have q0 := er 0 (by omega)
           simp only [q1] at h9
           rw [div_cond (hsame 1 (by omega) (by omega))] at h9
           simp only [q1, q0]
           rw [nz _ _ (by omega) (by omega), trC_9 (by omega), if_neg (by rw [h9]; decide), com_pair])
        | skip
      · refine AWP.loop (c := cAt (bodyOf Tryz.f61) [1, 1, 1, 1, 1, 1, 0, 1, 0, 0]) (by kernel_rfl) (S61b R) (fun k => k ≤ R.length) (fun k => R.length - k) 0 ?_ (Nat.zero_le _) ?_
        · refine AS.leZ [1] [] (b := ((T0 ∧ ((vi 0) : AV) = (vi (cmT R 0)) ∧ T0 ∧ True) ∧ True)) (by kernel_rfl) (by kernel_rfl) ?_
          exact ⟨⟨rfl, rfl, rfl, trivial⟩, trivial⟩
        · intro k hk
          refine walkK (orc := orc61 L) (keep := []) (cuts := []) (n := 1000) follows ?_
          refine of_rd (fun ZT ZW ZQ ZK ZA _ => ((((decide ((↑k : Int) < ↑R.length)) = true) → ((((0 ≤ (↑k : Int)) ∧ ((↑k : Int) < ↑R.length)) ∧ ZK 108 [(di (cmT R k)), (di (R.getD (↑k : Int).toNat 0))] (di (com2 (cmT R k) (R.getD (↑k : Int).toNat 0)))) ∧ (I64 (↑k + 1)) ∧ (ZA (stS ZT [0])))) ∧ (((decide ((↑k : Int) < ↑R.length)) = false) → ZW [cd Tryz.f61 [1, 1, 1, 1, 1, 1, 1]] (stS ZT [1]) ZQ))) (by kernel_rfl) ?_
          simp only [Int.toNat_natCast]
          refine ⟨fun h => ?_, fun h => ?_⟩
          · have hk2 : k < R.length := by have := of_decide_eq_true h; omega
            have hst : cmT R (k + 1) = com2 (cmT R k) (R.getD k 0) := com_step hk2
            refine ⟨⟨⟨by omega, by omega⟩, f108 _ _⟩, ⟨by omega, by omega⟩, Again.mk (k + 1) ?_ hk2 (by omega)⟩
            refine AS.leZ [1] [] (b := ((T0 ∧ ((vi (com2 (cmT R k) (R.getD (↑k : Int).toNat 0))) : AV) = (vi (cmT R (k + 1))) ∧ T0 ∧ True) ∧ True)) (by kernel_rfl) (by kernel_rfl) ?_
            rw [hst]
            exact ⟨⟨rfl, rfl, rfl, trivial⟩, trivial⟩
          · have h := of_decide_eq_false h
            obtain rfl : k = R.length := by omega
            refine walkK (orc := orc61 L) (keep := []) (cuts := []) (n := 1000) follows ?_
            refine of_tr (fun _ _ _ _ => (((di (cmT R R.length)) : DV) = (di (if (x.k == 12 || x.k == 13) = true then 3 else trC x.k R (bnE (revF L L.length) (x.kids.getD 0 ex0)) (bnE (revF L L.length) (x.kids.getD 1 ex0)))))) (by kernel_rfl) ?_
            rw [nz _ _ (by omega) (by omega), trC_z (by omega)]
            unfold comI cmT
            rw [List.take_length]
end Go.Proofs
