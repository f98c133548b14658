/- ramp.applied, ramp.Apply. -/
import Derived.Test.YtoenkcojfogmmaaRmpH
set_option linter.unusedVariables false
set_option linter.unusedSimpArgs false
namespace Go.Proofs.Ytoenkcojfogmmaa
open Go.RowKit
open Classical

/-- Rails behind a write. -/
noncomputable def applyR (r : Rls) (p : Wri) : Rls := if p.kind = 2 then ⟨r.on, r.level.set p.unit.toNat p.value⟩ else ⟨r.on.set p.unit.toNat (p.value == 1), r.level⟩
theorem applyR_on_len (r : Rls) (p : Wri) : (applyR r p).on.length = r.on.length := by unfold applyR; split <;> simp
theorem applyR_lv_len (r : Rls) (p : Wri) : (applyR r p).level.length = r.level.length := by unfold applyR; split <;> simp
theorem applyR_lv {r : Rls} {p : Wri} {u : Nat} (hk : p.kind = 2) (hu : p.unit = (u : Int)) : applyR r p = ⟨r.on, r.level.set u p.value⟩ := by rw [applyR, if_pos hk, hu, Int.toNat_natCast]
theorem applyR_on {r : Rls} {p : Wri} {u : Nat} (hk : p.kind ≠ 2) (hu : p.unit = (u : Int)) : applyR r p = ⟨r.on.set u (p.value == 1), r.level⟩ := by rw [applyR, if_neg hk, hu, Int.toNat_natCast]

set_option maxRecDepth 100000 in
set_option maxHeartbeats 2000000 in
theorem applied_any (r : Rls) (p : Wri) (n u : Nat) (a1 a2 : Option Addr) (c1 c2 : Nat) (w : World) (h1 : SlOf 1 RB w a1 r.on) (h2 : SlOf 1 RI w a2 r.level) (n1 : r.on.length = n) (n2 : r.level.length = n) (hn : n ≤ 16) (hu : p.unit = (u : Int)) (hun : u < n) :
    Calls Try.prog 51 #[.agg #[.slice a1 r.on.length c1, .slice a2 r.level.length c2], .agg #[.int .i64 p.kind, .int .i64 p.unit, .int .i64 p.value]] w (GivesRls w (applyR r p)) := by
  have H1 := Lib.hid h1
  have H2 := Lib.hid h2
  have N1 := Lib.hid n1
  have N2 := Lib.hid n2
  have HU := Lib.hid hu
  have m1 : r.on.length ≤ 16 := by omega
  have m2 : r.level.length ≤ 16 := by omega
  have u1 : u < r.on.length := by omega
  have u2 : u < r.level.length := by omega
  clear h1 h2 n1 n2
  rw [hu]
  clear hu
  go_enter Try.func51, Try.ntmps51
  go_wp2_with fail
  refine (copied_any r a1 a2 c1 c2 _ (H1.out.giB (by repeat (first | with_reducible exact Gr.refl _ | with_reducible refine Gr.alloc _ ?_ | with_reducible refine Gr.xt _ _ ?_ | with_reducible refine Gr.drew ?_)) ) (H2.out.giI (by repeat (first | with_reducible exact Gr.refl _ | with_reducible refine Gr.alloc _ ?_ | with_reducible refine Gr.xt _ _ ?_ | with_reducible refine Gr.drew ?_)) ) (by omega) (by omega)).mono ?_
  rintro e W1 ⟨a5, c5, a6, c6, rfl, hc5, hc6, o1, o2, hg⟩
  obtain ⟨B1, rfl, hB1, q1⟩ := o1.at (by simp [bools]; omega)
  obtain ⟨B2, rfl, hB2, q2⟩ := o2.at (by simp [nums]; omega)
  have Q1 := Lib.hid q1
  have Q2 := Lib.hid q2
  have G1 := Lib.hid hg
  have e0 : W1.cell? ⟨w.heap.size + 1, 0, none⟩ = some (.int .i64 p.kind) := cell_gr hg (by simp [go_sem])
  have e1 : W1.cell? ⟨w.heap.size + 1, 1, none⟩ = some (.int .i64 u) := cell_gr hg (by simp [go_sem])
  have e2 : W1.cell? ⟨w.heap.size + 1, 2, none⟩ = some (.int .i64 p.value) := cell_gr hg (by simp [go_sem])
  have x0 := has_of_cell e0
  have r0 : Row W1 (w.heap.size + 2) 31 [.slice none 0 0, .slice none 0 0] := by
    have := Row.new ((w.alloc (.cells #[.slice a1 r.on.length c1, .slice a2 r.level.length c2] 31)).alloc (.cells #[.int .i64 p.kind, .int .i64 u, .int .i64 p.value] 46)) #[.slice none 0 0, .slice none 0 0] 31
    simp only [World.size_alloc] at this
    exact this.gr hg
  have R0 := Lib.hid r0
  have y0 := r0.cell 0 (by simp)
  have y1 := r0.cell 1 (by simp)
  simp only [List.getElem_cons_zero, List.getElem_cons_succ] at y0 y1
  have y2 := r0.free 0
  have y3 := r0.free 1
  have yh := r0.has
  have sz : w.heap.size + 3 ≤ W1.heap.size := by have := hg.size; simpa using this
  have z1 := q1.has
  have z2 := q2.has
  have z3 := q1.free u
  have z4 := q2.free u
  have z5 := q1.bat u u1
  have z6 := q2.iat u u2
  have t1 : B1 ≠ B2 := q1.apart q2 (by decide)
  have t2 : B1 ≠ W1.heap.size := by have : B1 < W1.heap.size := q1.has; omega
  have t3 : B2 ≠ W1.heap.size := by have : B2 < W1.heap.size := q2.has; omega
  have t4 : w.heap.size + 3 ≤ B1 := by simpa using hB1
  have t5 : w.heap.size + 3 ≤ B2 := by simpa using hB2
  have GW : Hid (Gr w W1) := Lib.hid ((((Gr.refl w).alloc _).alloc _).alloc _ |>.trans hg)
  have g0 : (0 : Int) ≤ u := by omega
  have g1 : (u : Int) < r.on.length := by omega
  have g2 : (u : Int) < r.level.length := by omega
  clear o1 o2 hg q1 q2 r0 hB1 hB2
  by_cases hk : p.kind = 2
  · have HK := Lib.hid hk
    rw [hk] at e0
    clear hk
    go_wp2_with fail
    refine bodyPost_ret (v := .agg #[.slice (some ⟨B1, 0, none⟩) r.on.length c5, .slice (some ⟨B2, 0, none⟩) r.level.length c6]) ?_ rfl ?_
    · simp [results, Try.results51, go_sem, y0, y1, yh, t1, t2, t3, z1, z2]
    · rw [applyR_lv HK.out HU.out]
      refine ⟨some ⟨B1, 0, none⟩, c5, some ⟨B2, 0, none⟩, c6, by simp, hc5, by simpa using hc6, ?_, ?_, ?_⟩
      · exact Own1.row (by omega) (by repeat (first | with_reducible exact Q1.out | with_reducible refine RowS.alloc _ ?_ | with_reducible refine RowS.oth ?_ (by omega)))
      · exact Own1.row (by omega) (by repeat (first | with_reducible exact Q2.out.iset u u2 _ | with_reducible refine RowS.alloc _ ?_ | with_reducible refine RowS.oth ?_ (by omega)))
      · repeat (first | with_reducible exact GW.out | with_reducible refine Gr.alloc _ ?_ | with_reducible refine Gr.setc (by omega) ?_)
  · have hkb : (p.kind == 2) = false := by simpa using hk
    have HK := Lib.hid hk
    clear hk
    go_wp2_with fail
    refine bodyPost_ret (v := .agg #[.slice (some ⟨B1, 0, none⟩) r.on.length c5, .slice (some ⟨B2, 0, none⟩) r.level.length c6]) ?_ rfl ?_
    · simp [results, Try.results51, go_sem, y0, y1, yh, t1, t2, t3, z1, z2]
    · rw [applyR_on HK.out HU.out]
      refine ⟨some ⟨B1, 0, none⟩, c5, some ⟨B2, 0, none⟩, c6, by simp, by simpa using hc5, hc6, ?_, ?_, ?_⟩
      · exact Own1.row (by omega) (by repeat (first | with_reducible exact Q1.out.bset u u1 _ | with_reducible refine RowS.alloc _ ?_ | with_reducible refine RowS.oth ?_ (by omega)))
      · exact Own1.row (by omega) (by repeat (first | with_reducible exact Q2.out | with_reducible refine RowS.alloc _ ?_ | with_reducible refine RowS.oth ?_ (by omega)))
      · repeat (first | with_reducible exact GW.out | with_reducible refine Gr.alloc _ ?_ | with_reducible refine Gr.setc (by omega) ?_)

/-- The error of a write. -/
def lvLen (l : List Sup) (u : Int) : Int := if h : 0 ≤ u ∧ u < l.length then (l[u.toNat]'(by omega)).levels.length else 0
def BadVal (l : List Sup) (p : Wri) : Prop := p.value < 0 ∨ (p.kind = 2 ∧ lvLen l p.unit ≤ p.value) ∨ (p.kind ≠ 2 ∧ 1 < p.value)
noncomputable def appE (l : List Sup) (r : Rls) (p : Wri) : Int :=
  if begR l [r] = 0 then (if p.kind ≠ 2 ∧ p.kind ≠ 3 then 1 else if p.unit < 0 ∨ (l.length : Int) ≤ p.unit then 4 else if BadVal l p then 2 else 0) else begR l [r]
noncomputable def appP (l : List Sup) (r : Rls) (p : Wri) : Rls := if appE l r p = 0 then applyR r p else noRls
theorem one_rls {w : World} {B : Nat} {a : Rls} {a1 a2 : Option Addr} {c1 c2 : Nat} (e0 : w.cell? ⟨B, 0, none⟩ = some (.slice a1 a.on.length c1)) (e1 : w.cell? ⟨B, 1, none⟩ = some (.slice a2 a.level.length c2))
    (h1 : SlOf 1 RB w a1 a.on) (h2 : SlOf 1 RI w a2 a.level) (k1 : a.on.length ≤ c1) (k2 : a.level.length ≤ c2) (f1 : Fit a.on.length) (f2 : Fit a.level.length) : SlOf 2 RRls w (some ⟨B, 0, none⟩) [a] := by
  intro k hk
  refine ⟨B, 0, rfl, ?_⟩
  have : k = 0 := by simp at hk; omega
  subst this
  exact ⟨⟨a1, c1, e0, k1, f1, h1⟩, ⟨a2, c2, e1, k2, f2, h2⟩⟩
theorem applyR_wide {l : List Sup} {r : Rls} {p : Wri} (hr : RlsOk l r) (hp : Wide p.value) (k : Nat) (hk : k < (applyR r p).level.length) : Wide (applyR r p).level[k] := by
  have hw := rls_wide hr
  rw [applyR_lv_len] at hk
  by_cases e : p.kind = 2
  · have : (applyR r p).level = r.level.set p.unit.toNat p.value := by rw [applyR, if_pos e]
    simp only [this, List.getElem_set]
    split
    · exact hp
    · rw [← lvAt_eq hk]; exact hw k
  · have : (applyR r p).level = r.level := by rw [applyR, if_neg e]
    simp only [this]
    rw [← lvAt_eq hk]; exact hw k

/-- The call returns rails in rows of their own and an error. -/
def GivesRo (w : World) (r : Rls) (x : Int) (e : Ending) (w' : World) : Prop :=
  ∃ a1 a2 c1 c2, e = .returned (.tuple #[.agg #[.slice a1 r.on.length c1, .slice a2 r.level.length c2], .int .i64 x]) ∧ r.on.length ≤ c1 ∧ r.level.length ≤ c2 ∧ Own1 w.heap.size w' 4 (bools r.on) a1 ∧ Own1 w.heap.size w' 3 (nums r.level) a2 ∧ Gr w w'
theorem givesRo_no {w w' : World} {x : Int} (hg : Gr w w') : GivesRo w noRls x (.returned (.tuple #[.agg #[.slice none 0 0, .slice none 0 0], .int .i64 x])) w' :=
  ⟨none, none, 0, 0, rfl, Nat.le_refl _, Nat.le_refl _, .inl rfl, .inl rfl, hg⟩

set_option maxRecDepth 100000 in
set_option maxHeartbeats 4000000 in
theorem apply_any (l : List Sup) (r : Rls) (p : Wri) (ao a1 a2 : Option Addr) (cap c1 c2 : Nat) (w : World) (h : SlOf 5 RSup w ao l) (hf : Fit l.length) (h1 : SlOf 1 RB w a1 r.on) (h2 : SlOf 1 RI w a2 r.level)
    (k1 : r.on.length ≤ c1) (k2 : r.level.length ≤ c2) (f1 : Fit r.on.length) (f2 : Fit r.level.length) (hp : WWide p) :
    Calls Try.prog 20 #[.slice ao l.length cap, .agg #[.slice a1 r.on.length c1, .slice a2 r.level.length c2], .agg #[.int .i64 p.kind, .int .i64 p.unit, .int .i64 p.value]] w (GivesRo w (appP l r p) (appE l r p)) := by
  have H := Lib.hid h
  have H1 := Lib.hid h1
  have H2 := Lib.hid h2
  have HF := Lib.hid hf
  have F1 := Lib.hid f1
  have F2 := Lib.hid f2
  have WP := Lib.hid hp
  have K : Hid (r.on.length ≤ c1 ∧ r.level.length ≤ c2) := Lib.hid ⟨k1, k2⟩
  clear h h1 h2 hf f1 f2 k1 k2 hp
  go_enter Try.func20, Try.ntmps20
  go_wp2_with fail
  refine (begin_any l [r] ao _ cap 1 _ (sups_gr H.out (by repeat (first | with_reducible exact Gr.refl _ | with_reducible refine Gr.alloc _ ?_ | with_reducible refine Gr.xt _ _ ?_ | with_reducible refine Gr.drew ?_))) HF.out (one_rls (a1 := a1) (a2 := a2) (c1 := c1) (c2 := c2) (by simp [go_sem]) (by simp [go_sem]) (H1.out.giB (by repeat (first | with_reducible exact Gr.refl _ | with_reducible refine Gr.alloc _ ?_ | with_reducible refine Gr.xt _ _ ?_ | with_reducible refine Gr.drew ?_))) (H2.out.giI (by repeat (first | with_reducible exact Gr.refl _ | with_reducible refine Gr.alloc _ ?_ | with_reducible refine Gr.xt _ _ ?_ | with_reducible refine Gr.drew ?_))) K.out.1 K.out.2 F1.out F2.out) (by unfold Fit; simp)).mono ?_
  rintro e w' ⟨rfl, O1, d1, rfl⟩
  by_cases hb : begR l [r] = 0
  · have HB := Lib.hid hb
    rw [hb]
    have hz := begR_zero hb
    have ra := Lib.hid (hz.2 r (by simp))
    have n16 : l.length ≤ 16 := by
      have := (chk_zero hz.1).1
      simp only [Big, not_or] at this
      omega
    clear hz hb
    by_cases hk : p.kind ≠ 2 ∧ p.kind ≠ 3
    · have HE : Hid (appE l r p = 1) := Lib.hid (by rw [appE, if_pos HB.out, if_pos hk])
      have hk2 : (p.kind == 2) = false := by simp [hk.1]
      have hk3 : (p.kind != 3) = true := by simp [hk.2]
      clear hk
      go_wp2_with fail
      refine bodyPost_ret (v := .tuple #[.agg #[.slice none 0 0, .slice none 0 0], .int .i64 1]) ?_ rfl ?_
      · simp [results, Try.results20, go_sem]
      · rw [appP, HE.out, if_neg (by omega)]
        exact givesRo_no (by repeat (first | with_reducible exact Gr.refl _ | with_reducible refine Gr.alloc _ ?_ | with_reducible refine Gr.xt _ _ ?_ | with_reducible refine Gr.drew ?_))
    · have HK := Lib.hid hk
      by_cases hu : p.unit < 0 ∨ (l.length : Int) ≤ p.unit
      · have HE : Hid (appE l r p = 4) := Lib.hid (by rw [appE, if_pos HB.out, if_neg hk, if_pos hu])
        have HU := Lib.hid hu
        rcases Classical.em (p.kind = 2) with hk2 | hk2
        · have q2 : (p.kind == 2) = true := by simp [hk2]
          clear hk hk2
          rcases Classical.em (p.unit < 0) with u0 | u0
          · have v0 : decide (p.unit < 0) = true := by simpa using u0
            clear u0 hu
            go_wp2_with fail
            refine bodyPost_ret (v := .tuple #[.agg #[.slice none 0 0, .slice none 0 0], .int .i64 4]) ?_ rfl ?_
            · simp [results, Try.results20, go_sem]
            · rw [appP, HE.out, if_neg (by omega)]
              exact givesRo_no (by repeat (first | with_reducible exact Gr.refl _ | with_reducible refine Gr.alloc _ ?_ | with_reducible refine Gr.xt _ _ ?_ | with_reducible refine Gr.drew ?_))
          · have v0 : decide (p.unit < 0) = false := by simpa using u0
            have v1 : decide ((l.length : Int) ≤ p.unit) = true := by simp; omega
            clear u0 hu
            go_wp2_with fail
            refine bodyPost_ret (v := .tuple #[.agg #[.slice none 0 0, .slice none 0 0], .int .i64 4]) ?_ rfl ?_
            · simp [results, Try.results20, go_sem]
            · rw [appP, HE.out, if_neg (by omega)]
              exact givesRo_no (by repeat (first | with_reducible exact Gr.refl _ | with_reducible refine Gr.alloc _ ?_ | with_reducible refine Gr.xt _ _ ?_ | with_reducible refine Gr.drew ?_))
        · have q2 : (p.kind == 2) = false := by simp [hk2]
          have q3 : (p.kind != 3) = false := by
            have := hk
            simp only [not_and, Classical.not_not] at this
            simp [this hk2]
          clear hk hk2
          rcases Classical.em (p.unit < 0) with u0 | u0
          · have v0 : decide (p.unit < 0) = true := by simpa using u0
            clear u0 hu
            go_wp2_with fail
            refine bodyPost_ret (v := .tuple #[.agg #[.slice none 0 0, .slice none 0 0], .int .i64 4]) ?_ rfl ?_
            · simp [results, Try.results20, go_sem]
            · rw [appP, HE.out, if_neg (by omega)]
              exact givesRo_no (by repeat (first | with_reducible exact Gr.refl _ | with_reducible refine Gr.alloc _ ?_ | with_reducible refine Gr.xt _ _ ?_ | with_reducible refine Gr.drew ?_))
          · have v0 : decide (p.unit < 0) = false := by simpa using u0
            have v1 : decide ((l.length : Int) ≤ p.unit) = true := by simp; omega
            clear u0 hu
            go_wp2_with fail
            refine bodyPost_ret (v := .tuple #[.agg #[.slice none 0 0, .slice none 0 0], .int .i64 4]) ?_ rfl ?_
            · simp [results, Try.results20, go_sem]
            · rw [appP, HE.out, if_neg (by omega)]
              exact givesRo_no (by repeat (first | with_reducible exact Gr.refl _ | with_reducible refine Gr.alloc _ ?_ | with_reducible refine Gr.xt _ _ ?_ | with_reducible refine Gr.drew ?_))
      · obtain ⟨u, hun⟩ := Int.eq_ofNat_of_zero_le (show 0 ≤ p.unit by omega)
        have UN := Lib.hid hun
        have hul : u < l.length := by omega
        have HU := Lib.hid hu
        have hlv : Hid (lvLen l p.unit = l[u].levels.length) := Lib.hid (by simp [lvLen, hun, hul])
        obtain ⟨b, o, rfl, _, ⟨al, cl, q1, _, _, _⟩, _⟩ := H.out u hul
        have xq := has_of_cell q1
        have v0 : decide (p.unit < 0) = false := by simp; omega
        have v1 : decide ((l.length : Int) ≤ p.unit) = false := by simp; omega
        rw [hun] at v0 v1 ⊢
        have g0 : (0 : Int) ≤ u := by omega
        have g1 : (u : Int) < l.length := by omega
        clear hun hu
        rcases Classical.em (p.kind = 2) with hk2 | hk2
        · have q2 : (p.kind == 2) = true := by simp [hk2]
          have K2 := Lib.hid hk2
          clear hk hk2
          by_cases hv0 : p.value < 0
          · have w0 : decide (p.value < 0) = true := by simpa using hv0
            have V0 := Lib.hid hv0
            clear hv0
            have HE : Hid (appE l r p = 2) := Lib.hid (by rw [appE, if_pos HB.out, if_neg HK.out, if_neg HU.out, if_pos (.inl V0.out)])
            go_wp2_with fail
            refine wp_region_growsx (by kernel_rfl) (by kernel_rfl) ?_
            repeat (go_big_quiet_step (fail))
            refine wpQuiet_nil ?_
            rintro _ ⟨⟨O5, d5⟩, rfl⟩
            go_wp2_with fail
            refine bodyPost_ret (v := .tuple #[.agg #[.slice none 0 0, .slice none 0 0], .int .i64 2]) ?_ rfl ?_
            · simp [results, Try.results20, go_sem]
            · rw [appP, HE.out, if_neg (by omega)]
              exact givesRo_no (by repeat (first | with_reducible exact Gr.refl _ | with_reducible refine Gr.alloc _ ?_ | with_reducible refine Gr.xt _ _ ?_ | with_reducible refine Gr.drew ?_))
          · have w0 : decide (p.value < 0) = false := by simpa using hv0
            by_cases hv1 : (l[u].levels.length : Int) ≤ p.value
            · have w1 : decide ((l[u].levels.length : Int) ≤ p.value) = true := by simpa using hv1
              have V1 := Lib.hid hv1
              clear hv0 hv1
              have HE : Hid (appE l r p = 2) := Lib.hid (by rw [appE, if_pos HB.out, if_neg HK.out, if_neg HU.out, if_pos (.inr (.inl ⟨K2.out, by rw [hlv.out]; exact V1.out⟩))])
              go_wp2_with fail
              refine wp_region_growsx (by kernel_rfl) (by kernel_rfl) ?_
              repeat (go_big_quiet_step (fail))
              refine wpQuiet_nil ?_
              rintro _ ⟨⟨O5, d5⟩, rfl⟩
              go_wp2_with fail
              refine bodyPost_ret (v := .tuple #[.agg #[.slice none 0 0, .slice none 0 0], .int .i64 2]) ?_ rfl ?_
              · simp [results, Try.results20, go_sem]
              · rw [appP, HE.out, if_neg (by omega)]
                exact givesRo_no (by repeat (first | with_reducible exact Gr.refl _ | with_reducible refine Gr.alloc _ ?_ | with_reducible refine Gr.xt _ _ ?_ | with_reducible refine Gr.drew ?_))
            · have w1 : decide ((l[u].levels.length : Int) ≤ p.value) = false := by simp; omega
              have V0 := Lib.hid hv0
              have V1 := Lib.hid hv1
              clear hv0 hv1
              have HE : Hid (appE l r p = 0) := Lib.hid (by rw [appE, if_pos HB.out, if_neg HK.out, if_neg HU.out, if_neg (fun q => q.elim V0.out (fun q => q.elim (fun q => V1.out (by rw [← hlv.out]; exact q.2)) (fun q => q.1 K2.out)))])
              go_wp2_with fail
              refine wp_region_growsx (by kernel_rfl) (by kernel_rfl) ?_
              repeat (go_big_quiet_step (fail))
              refine wpQuiet_nil ?_
              rintro _ ⟨⟨O5, d5⟩, rfl⟩
              clear q1 xq
              go_wp2_with fail
              have AA := fun W hh1 hh2 => applied_any r p l.length u a1 a2 c1 c2 W hh1 hh2 ra.out.2.1 ra.out.2.2.1 n16 UN.out hul
              rw [UN.out] at AA
              refine (AA _ (H1.out.giB (by repeat (first | with_reducible exact Gr.refl _ | with_reducible refine Gr.alloc _ ?_ | with_reducible refine Gr.xt _ _ ?_ | with_reducible refine Gr.drew ?_))) (H2.out.giI (by repeat (first | with_reducible exact Gr.refl _ | with_reducible refine Gr.alloc _ ?_ | with_reducible refine Gr.xt _ _ ?_ | with_reducible refine Gr.drew ?_)))).mono ?_
              clear AA
              rintro e w' ⟨a6, c6, a7, c7, rfl, hc6, hc7, o1, o2, O2, d2, rfl⟩
              have O6 := Lib.hid o1
              have O7 := Lib.hid o2
              clear o1 o2
              go_wp2_with fail
              refine bodyPost_ret (v := .tuple #[.agg #[.slice a6 (applyR r p).on.length c6, .slice a7 (applyR r p).level.length c7], .int .i64 0]) ?_ rfl ?_
              · simp [results, Try.results20, go_sem]
              · rw [appP, HE.out, if_pos rfl]
                have p1 := O6.out
                have p2 := O7.out
                simp only [xt_xt, xt_drew] at p1 p2
                refine ⟨a6, a7, c6, c7, rfl, hc6, hc7, (Own1.far (by simp) p1 (by simp <;> omega)).low (by simp <;> omega), (Own1.far (by simp) p2 (by simp <;> omega)).low (by simp <;> omega), (by repeat (first | with_reducible exact Gr.refl _ | with_reducible refine Gr.alloc _ ?_ | with_reducible refine Gr.xt _ _ ?_ | with_reducible refine Gr.drew ?_))⟩
        · have q2 : (p.kind == 2) = false := by simp [hk2]
          have q3 : (p.kind != 3) = false := by
            have := hk
            simp only [not_and, Classical.not_not] at this
            simp [this hk2]
          have K2 := Lib.hid hk2
          clear hk hk2
          by_cases hv0 : p.value < 0
          · have w0 : decide (p.value < 0) = true := by simpa using hv0
            have V0 := Lib.hid hv0
            clear hv0
            have HE : Hid (appE l r p = 2) := Lib.hid (by rw [appE, if_pos HB.out, if_neg HK.out, if_neg HU.out, if_pos (.inl V0.out)])
            go_wp2_with fail
            refine wp_region_growsx (by kernel_rfl) (by kernel_rfl) ?_
            repeat (go_big_quiet_step (fail))
            refine wpQuiet_nil ?_
            rintro _ ⟨⟨O5, d5⟩, rfl⟩
            go_wp2_with fail
            refine bodyPost_ret (v := .tuple #[.agg #[.slice none 0 0, .slice none 0 0], .int .i64 2]) ?_ rfl ?_
            · simp [results, Try.results20, go_sem]
            · rw [appP, HE.out, if_neg (by omega)]
              exact givesRo_no (by repeat (first | with_reducible exact Gr.refl _ | with_reducible refine Gr.alloc _ ?_ | with_reducible refine Gr.xt _ _ ?_ | with_reducible refine Gr.drew ?_))
          · have w0 : decide (p.value < 0) = false := by simpa using hv0
            by_cases hv1 : 1 < p.value
            · have w1 : decide (1 < p.value) = true := by simpa using hv1
              have V1 := Lib.hid hv1
              clear hv0 hv1
              have HE : Hid (appE l r p = 2) := Lib.hid (by rw [appE, if_pos HB.out, if_neg HK.out, if_neg HU.out, if_pos (.inr (.inr ⟨K2.out, V1.out⟩))])
              go_wp2_with fail
              refine wp_region_growsx (by kernel_rfl) (by kernel_rfl) ?_
              repeat (go_big_quiet_step (fail))
              refine wpQuiet_nil ?_
              rintro _ ⟨⟨O5, d5⟩, rfl⟩
              go_wp2_with fail
              refine bodyPost_ret (v := .tuple #[.agg #[.slice none 0 0, .slice none 0 0], .int .i64 2]) ?_ rfl ?_
              · simp [results, Try.results20, go_sem]
              · rw [appP, HE.out, if_neg (by omega)]
                exact givesRo_no (by repeat (first | with_reducible exact Gr.refl _ | with_reducible refine Gr.alloc _ ?_ | with_reducible refine Gr.xt _ _ ?_ | with_reducible refine Gr.drew ?_))
            · have w1 : decide (1 < p.value) = false := by simp; omega
              have V0 := Lib.hid hv0
              have V1 := Lib.hid hv1
              clear hv0 hv1
              have HE : Hid (appE l r p = 0) := Lib.hid (by rw [appE, if_pos HB.out, if_neg HK.out, if_neg HU.out, if_neg (fun q => q.elim V0.out (fun q => q.elim (fun q => K2.out q.1) (fun q => V1.out q.2)))])
              go_wp2_with fail
              refine wp_region_growsx (by kernel_rfl) (by kernel_rfl) ?_
              repeat (go_big_quiet_step (fail))
              refine wpQuiet_nil ?_
              rintro _ ⟨⟨O5, d5⟩, rfl⟩
              clear q1 xq
              go_wp2_with fail
              have AA := fun W hh1 hh2 => applied_any r p l.length u a1 a2 c1 c2 W hh1 hh2 ra.out.2.1 ra.out.2.2.1 n16 UN.out hul
              rw [UN.out] at AA
              refine (AA _ (H1.out.giB (by repeat (first | with_reducible exact Gr.refl _ | with_reducible refine Gr.alloc _ ?_ | with_reducible refine Gr.xt _ _ ?_ | with_reducible refine Gr.drew ?_))) (H2.out.giI (by repeat (first | with_reducible exact Gr.refl _ | with_reducible refine Gr.alloc _ ?_ | with_reducible refine Gr.xt _ _ ?_ | with_reducible refine Gr.drew ?_)))).mono ?_
              clear AA
              rintro e w' ⟨a6, c6, a7, c7, rfl, hc6, hc7, o1, o2, O2, d2, rfl⟩
              have O6 := Lib.hid o1
              have O7 := Lib.hid o2
              clear o1 o2
              go_wp2_with fail
              refine bodyPost_ret (v := .tuple #[.agg #[.slice a6 (applyR r p).on.length c6, .slice a7 (applyR r p).level.length c7], .int .i64 0]) ?_ rfl ?_
              · simp [results, Try.results20, go_sem]
              · rw [appP, HE.out, if_pos rfl]
                have p1 := O6.out
                have p2 := O7.out
                simp only [xt_xt, xt_drew] at p1 p2
                refine ⟨a6, a7, c6, c7, rfl, hc6, hc7, (Own1.far (by simp) p1 (by simp <;> omega)).low (by simp <;> omega), (Own1.far (by simp) p2 (by simp <;> omega)).low (by simp <;> omega), (by repeat (first | with_reducible exact Gr.refl _ | with_reducible refine Gr.alloc _ ?_ | with_reducible refine Gr.xt _ _ ?_ | with_reducible refine Gr.drew ?_))⟩
  · have hbb : (begR l [r] != 0) = true := by simpa using hb
    have HE : Hid (appE l r p = begR l [r]) := Lib.hid (by rw [appE, if_neg hb])
    have HB := Lib.hid hb
    clear hb
    by_cases hk : p.kind = 2
    · have hk2 : (p.kind == 2) = true := by simp [hk]
      clear hk
      go_wp2_with fail
      refine bodyPost_ret (v := .tuple #[.agg #[.slice none 0 0, .slice none 0 0], .int .i64 (begR l [r])]) ?_ rfl ?_
      · simp [results, Try.results20, go_sem]
      · rw [appP, HE.out, if_neg HB.out]
        exact givesRo_no (by repeat (first | with_reducible exact Gr.refl _ | with_reducible refine Gr.alloc _ ?_ | with_reducible refine Gr.xt _ _ ?_ | with_reducible refine Gr.drew ?_))
    · have hk2 : (p.kind == 2) = false := by simp [hk]
      clear hk
      go_wp2_with fail
      refine bodyPost_ret (v := .tuple #[.agg #[.slice none 0 0, .slice none 0 0], .int .i64 (begR l [r])]) ?_ rfl ?_
      · simp [results, Try.results20, go_sem]
      · rw [appP, HE.out, if_neg HB.out]
        exact givesRo_no (by repeat (first | with_reducible exact Gr.refl _ | with_reducible refine Gr.alloc _ ?_ | with_reducible refine Gr.xt _ _ ?_ | with_reducible refine Gr.drew ?_))
end Go.Proofs.Ytoenkcojfogmmaa
