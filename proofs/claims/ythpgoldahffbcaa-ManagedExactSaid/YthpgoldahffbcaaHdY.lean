/- managed.Drop. -/
import Derived.Test.YthpgoldahffbcaaHdX
set_option linter.unusedVariables false
set_option linter.unusedSimpArgs false
namespace Go.Proofs.Ythpgoldahffbcaa
open Go.RowKit
def dropE (l : List Hld) (x : Hld) : Int := if vld l ≠ 0 then 1 else match ixO l x with
  | none => 4
  | some i => if (l.drop (i + 1)).any (fun y => y.device == x.device) = true then 12 else 0
def dropP (l : List Hld) (x : Hld) : List Hld := if dropE l x = 0 then (match ixO l x with
  | none => []
  | some i => l.take i ++ l.drop (i + 1)) else []
theorem dropE_wide (l : List Hld) (x : Hld) : 0 ≤ dropE l x ∧ dropE l x ≤ 12 := by
  unfold dropE
  split
  · omega
  · split
    · omega
    · split <;> omega
theorem dropP_no {l : List Hld} {x : Hld} (h : dropE l x ≠ 0) : dropP l x = [] := by rw [dropP, if_neg h]
theorem drop_sl {w : World} {b o : Nat} {l : List Hld} (h : SlOf 3 RHld w (some ⟨b, o, none⟩) l) (k : Nat) : SlOf 3 RHld w (some ⟨b, o + k * 3, none⟩) (l.drop k) := by
  intro j hj
  have hj' : k + j < l.length := by rw [List.length_drop] at hj; omega
  obtain ⟨b', o', e, q⟩ := h (k + j) hj'
  cases e
  refine ⟨b, o + k * 3, rfl, ?_⟩
  rw [List.getElem_drop]
  have : o + (k + j) * 3 = o + k * 3 + j * 3 := by omega
  rwa [this] at q
set_option maxHeartbeats 2000000 in
theorem drop_any (l : List Hld) (x : Hld) (ao : Option Addr) (cap : Nat) (w : World) (h : SlOf 3 RHld w ao l) (hf : Fit l.length) (hc : l.length ≤ cap) (hx : HWide x) :
    Calls Try.prog 20 #[.slice ao l.length cap, .agg #[.int .i64 x.device, .int .i64 x.kind, .int .i64 x.unit]] w (GivesHE w (dropP l x) (dropE l x)) := by
  have H := Lib.hid h
  have HF := Lib.hid hf
  unfold Fit at hf
  clear h hx
  have vw := vld_wide l
  have v0 := vw.1
  have v1 := vw.2
  clear vw
  by_cases hv : vld l ≠ 0
  · have TE : Hid (dropE l x = 1) := Lib.hid (by rw [dropE, if_pos hv])
    have q1 : (vld l != 0) = true := by simpa using hv
    obtain ⟨f, hfl⟩ : ∃ f, Hid (f = vld l) := ⟨_, Lib.hid rfl⟩
    rw [← hfl.out] at q1 v0 v1
    clear hv
    go_enter Try.func20, Try.ntmps20
    go_wp2_with fail
    refine (valid_any l ao cap _ (hlds_gr H.out (by repeat (first | with_reducible exact Gr.refl _ | with_reducible refine Gr.alloc _ ?_ | with_reducible refine Gr.xt _ _ ?_ | with_reducible refine Gr.drew ?_))) HF.out hc).mono ?_
    rw [← hfl.out]
    rintro e w' ⟨rfl, O, d, rfl⟩
    go_wp2_with fail
    go_ret2
    rw [TE.out]
    exact givesHE_no (dropP_no (by rw [TE.out]; omega)) (by repeat (first | with_reducible exact Gr.refl _ | with_reducible refine Gr.alloc _ ?_ | with_reducible refine Gr.xt _ _ ?_ | with_reducible refine Gr.drew ?_))
  have hv := Classical.not_not.1 hv
  have HV := Lib.hid hv
  have L96 := (vld_zero.1 hv).1
  clear hv v0 v1
  cases hix : ixO l x with
  | none =>
    have TE : Hid (dropE l x = 4) := Lib.hid (by rw [dropE, if_neg (by rw [HV.out]; decide), hix])
    have HI := Lib.hid hix
    clear hix
    go_enter Try.func20, Try.ntmps20
    go_wp2_with fail
    refine (valid_any l ao cap _ (hlds_gr H.out (by repeat (first | with_reducible exact Gr.refl _ | with_reducible refine Gr.alloc _ ?_ | with_reducible refine Gr.xt _ _ ?_ | with_reducible refine Gr.drew ?_))) HF.out hc).mono ?_
    rw [HV.out]
    rintro e w' ⟨rfl, O, d, rfl⟩
    go_wp2_with fail
    refine (index_any l x ao cap _ (hlds_gr H.out (by repeat (first | with_reducible exact Gr.refl _ | with_reducible refine Gr.alloc _ ?_ | with_reducible refine Gr.xt _ _ ?_ | with_reducible refine Gr.drew ?_))) HF.out).mono ?_
    rw [HI.out, ixI]
    rintro e w' ⟨rfl, O2, d2, rfl⟩
    go_wp2_with fail
    go_ret2
    rw [TE.out]
    exact givesHE_no (dropP_no (by rw [TE.out]; omega)) (by repeat (first | with_reducible exact Gr.refl _ | with_reducible refine Gr.alloc _ ?_ | with_reducible refine Gr.xt _ _ ?_ | with_reducible refine Gr.drew ?_))
  | some i =>
    have hil := ix_lt hix
    have HI := Lib.hid hix
    obtain ⟨b, o, rfl, -⟩ := H.out i hil
    have TE : Hid (dropE l x = if (l.drop (i + 1)).any (fun y => y.device == x.device) = true then 12 else 0) := Lib.hid (by rw [dropE, if_neg (by rw [HV.out]; decide), hix])
    have TP : Hid (dropE l x = 0 → dropP l x = l.take i ++ l.drop (i + 1)) := Lib.hid fun q => by rw [dropP, if_pos q, hix]
    have SD := Lib.hid (drop_sl H.out (i + 1))
    have DL : (l.drop (i + 1)).length = l.length - (i + 1) := List.length_drop
    clear hix
    by_cases hcap : cap = i + 1
    · subst hcap
      have hdn : l.drop (i + 1) = [] := List.drop_eq_nil_of_le hc
      have HDN := Lib.hid hdn
      have TE0 : Hid (dropE l x = 0) := Lib.hid (by rw [TE.out, hdn]; rfl)
      have hl1 : l.length = i + 1 := by omega
      have HL1 := Lib.hid hl1
      have le1 : l.length ≤ i + 1 := by omega
      clear SD TE hdn hl1
      have i0 : (0 : Int) ≤ i := by omega
      have i00 : decide ((i : Int) < 0) = false := by simp
      have i1 : (i : Int) + 1 ≤ l.length := by omega
      have i2 : (i : Int) + 1 ≤ ((i + 1 : Nat) : Int) := by omega
      have i4 : i + 1 ≤ l.length := by omega
      have i5 : ((i : Int) + 1).toNat = i + 1 := by omega
      have i9 : (0 : Int) ≤ (i : Int) + 1 := by omega
      have i10 : (i : Int) ≤ (i : Int) + 1 := by omega
      have i6 : (i : Int) ≤ ((i + 1 : Nat) : Int) := by omega
      have i7 : (i : Int) ≤ l.length := by omega
      have i8 : IntKind.i64.wrap ((i : Int) + 1) = (i : Int) + 1 := by rw [IntKind.wrap_i64]; omega
      have TL : Hid ((l.take i).length = i) := Lib.hid (by rw [List.length_take]; omega)
      clear DL
      go_enter Try.func20, Try.ntmps20
      go_wp2_with fail
      refine (valid_any l _ _ _ (hlds_gr H.out (by repeat (first | with_reducible exact Gr.refl _ | with_reducible refine Gr.alloc _ ?_ | with_reducible refine Gr.xt _ _ ?_ | with_reducible refine Gr.drew ?_))) HF.out hc).mono ?_
      rw [HV.out]
      rintro e w' ⟨rfl, O, d, rfl⟩
      go_wp2_with fail
      refine (index_any l x _ _ _ (hlds_gr H.out (by repeat (first | with_reducible exact Gr.refl _ | with_reducible refine Gr.alloc _ ?_ | with_reducible refine Gr.xt _ _ ?_ | with_reducible refine Gr.drew ?_))) HF.out).mono ?_
      rw [HI.out, ixI]
      rintro e w' ⟨rfl, O2, d2, rfl⟩
      go_wp2_with fail
      obtain ⟨W0, hW0⟩ : ∃ W0 : World, Hid (W0 = xt (w.alloc (.cells #[.int .i64 x.device, .int .i64 x.kind, .int .i64 x.unit] 34)) (O ++ O2) d2) := ⟨_, Lib.hid rfl⟩
      have G0 : Hid (Gr w W0) := Lib.hid (by rw [hW0.out]; exact (by repeat (first | with_reducible exact Gr.refl _ | with_reducible refine Gr.alloc _ ?_ | with_reducible refine Gr.xt _ _ ?_ | with_reducible refine Gr.drew ?_)))
      have E0 : Hid (W0.cell? ⟨w.heap.size, 0, none⟩ = some (.int .i64 x.device)) := Lib.hid (by rw [hW0.out]; simp [go_sem])
      rw [← hW0.out]
      clear hW0
      refine (containsD_any w.heap.size x.device [] (some ⟨b, o, none⟩) 0 _ (SlOf.nil _ _ _ _) (by unfold Fit; simp) E0.out).mono ?_
      rintro e W1 ⟨rfl, hg⟩
      have G1 := Lib.hid (G0.out.trans hg)
      clear hg
      have H1 := Lib.hid (take_sl (hlds_gr H.out G1.out) i)
      simp only [List.any_nil]
      go_wp2_with fail
      go_region_law (
        (go_simp; go_at_call 40; refine (concat_any (l.take i) [] _ (some ⟨b, o, none⟩) (some ⟨b, o, none⟩) (i + 1) 0 _ (by rw [TL.out]; simp [go_sem]) (by simp [go_sem]) (hlds_gr H1.out (by repeat (first | with_reducible exact Gr.refl _ | with_reducible refine Gr.alloc _ ?_ | with_reducible refine Gr.xt _ _ ?_ | with_reducible refine Gr.drew ?_))) (SlOf.nil _ _ _ _) (by have := TL.out; omega) (by simp)).mono ?_; rintro e W3 ⟨v, rfl, ho, hg⟩; have G3 : Hid (Gr w W3) := Lib.hid (G1.out.trans (Gr.trans (by repeat (first | with_reducible exact Gr.refl _ | with_reducible refine Gr.alloc _ ?_ | with_reducible refine Gr.xt _ _ ?_ | with_reducible refine Gr.drew ?_)) hg)); have O3 := Lib.hid (owns_low (base' := w.heap.size) ho (by have := G1.out.size; simp; omega)); clear ho hg))
      all_goals go_wp2_with fail
      all_goals
        refine bodyPost_ret (v := .tuple #[v, .int .i64 0]) ?_ rfl ?_
        · simp [results, Try.results20, go_sem]
        · rw [TP.out TE0.out, TE0.out, HDN.out]
          exact ⟨v, rfl, O3.out, G3.out⟩
    · have hne : cap ≠ i + 1 := hcap
      have i3 : i + 1 ≤ cap := by omega
      have i0 : (0 : Int) ≤ i := by omega
      have i00 : decide ((i : Int) < 0) = false := by simp
      have i1 : (i : Int) + 1 ≤ l.length := by omega
      have i2 : (i : Int) + 1 ≤ cap := by omega
      have i4 : i + 1 ≤ l.length := by omega
      have i5 : ((i : Int) + 1).toNat = i + 1 := by omega
      have i9 : (0 : Int) ≤ (i : Int) + 1 := by omega
      have i10 : (i : Int) ≤ (i : Int) + 1 := by omega
      have i6 : (i : Int) ≤ cap := by omega
      have i7 : (i : Int) ≤ l.length := by omega
      have i8 : IntKind.i64.wrap ((i : Int) + 1) = (i : Int) + 1 := by rw [IntKind.wrap_i64]; omega
      have TL : Hid ((l.take i).length = i) := Lib.hid (by rw [List.length_take]; omega)
      have DLH := Lib.hid DL
      clear DL
      go_enter Try.func20, Try.ntmps20
      go_wp2_with fail
      refine (valid_any l _ _ _ (hlds_gr H.out (by repeat (first | with_reducible exact Gr.refl _ | with_reducible refine Gr.alloc _ ?_ | with_reducible refine Gr.xt _ _ ?_ | with_reducible refine Gr.drew ?_))) HF.out hc).mono ?_
      rw [HV.out]
      rintro e w' ⟨rfl, O, d, rfl⟩
      go_wp2_with fail
      refine (index_any l x _ _ _ (hlds_gr H.out (by repeat (first | with_reducible exact Gr.refl _ | with_reducible refine Gr.alloc _ ?_ | with_reducible refine Gr.xt _ _ ?_ | with_reducible refine Gr.drew ?_))) HF.out).mono ?_
      rw [HI.out, ixI]
      rintro e w' ⟨rfl, O2, d2, rfl⟩
      go_wp2_with fail
      rw [← DLH.out]
      obtain ⟨W0, hW0⟩ : ∃ W0 : World, Hid (W0 = xt (w.alloc (.cells #[.int .i64 x.device, .int .i64 x.kind, .int .i64 x.unit] 34)) (O ++ O2) d2) := ⟨_, Lib.hid rfl⟩
      have G0 : Hid (Gr w W0) := Lib.hid (by rw [hW0.out]; exact (by repeat (first | with_reducible exact Gr.refl _ | with_reducible refine Gr.alloc _ ?_ | with_reducible refine Gr.xt _ _ ?_ | with_reducible refine Gr.drew ?_)))
      have E0 : Hid (W0.cell? ⟨w.heap.size, 0, none⟩ = some (.int .i64 x.device)) := Lib.hid (by rw [hW0.out]; simp [go_sem])
      rw [← hW0.out]
      clear hW0
      refine (containsD_any w.heap.size x.device (l.drop (i + 1)) (some ⟨b, o + (i + 1) * 3, none⟩) _ _ (hlds_gr SD.out G0.out) (by unfold Fit; have := DLH.out; omega) E0.out).mono ?_
      cases hany : (l.drop (i + 1)).any (fun y => y.device == x.device) with
      | true =>
        rw [hany, if_pos rfl] at TE
        clear hany
        rintro e W1 ⟨rfl, hg⟩
        have G1 := Lib.hid (G0.out.trans hg)
        clear hg
        go_wp2_with fail
        go_ret2
        rw [TE.out]
        exact givesHE_no (dropP_no (by rw [TE.out]; omega)) G1.out
      | false =>
        rw [hany, if_neg (by decide)] at TE
        clear hany
        rintro e W1 ⟨rfl, hg⟩
        have G1 := Lib.hid (G0.out.trans hg)
        clear hg
        have H1 := Lib.hid (take_sl (hlds_gr H.out G1.out) i)
        have H2 := Lib.hid (hlds_gr SD.out G1.out)
        go_wp2_with fail
        go_region_law (
          (go_simp; go_at_call 40; refine (concat_any (l.take i) (l.drop (i + 1)) _ (some ⟨b, o, none⟩) (some ⟨b, o + (i + 1) * 3, none⟩) cap (cap - (i + 1)) _ (by rw [TL.out]; simp [go_sem]) (by rw [DLH.out]; simp [go_sem]) (hlds_gr H1.out (by repeat (first | with_reducible exact Gr.refl _ | with_reducible refine Gr.alloc _ ?_ | with_reducible refine Gr.xt _ _ ?_ | with_reducible refine Gr.drew ?_))) (hlds_gr H2.out (by repeat (first | with_reducible exact Gr.refl _ | with_reducible refine Gr.alloc _ ?_ | with_reducible refine Gr.xt _ _ ?_ | with_reducible refine Gr.drew ?_))) (by have := TL.out; omega) (by have := DLH.out; omega)).mono ?_; rintro e W3 ⟨v, rfl, ho, hg⟩; have G3 : Hid (Gr w W3) := Lib.hid (G1.out.trans (Gr.trans (by repeat (first | with_reducible exact Gr.refl _ | with_reducible refine Gr.alloc _ ?_ | with_reducible refine Gr.xt _ _ ?_ | with_reducible refine Gr.drew ?_)) hg)); have O3 := Lib.hid (owns_low (base' := w.heap.size) ho (by have := G1.out.size; simp; omega)); clear ho hg))
        all_goals go_wp2_with fail
        all_goals
          refine bodyPost_ret (v := .tuple #[v, .int .i64 0]) ?_ rfl ?_
          · simp [results, Try.results20, go_sem]
          · rw [TP.out TE.out, TE.out]
            exact ⟨v, rfl, O3.out, G3.out⟩
end Go.Proofs.Ythpgoldahffbcaa
