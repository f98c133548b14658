/- Function values of schema.Check, searches with them, ascending (printed by wip/tools/uca.py). -/
import Derived.Test.YtadldblpkgackaaGreatDoorUbB
set_option linter.unusedVariables false
set_option linter.unusedSimpArgs false
namespace Go.Proofs.YtadldblpkgackaaGreatDoor
open Go.RowKit
open Classical

/-- Bounds on what schemas hold. -/
def SmlR (r : Rul) : Prop := r.name.length ≤ 1000000 ∧ r.words.length ≤ 1000000 ∧ ∀ y ∈ r.words, y.length ≤ 1000000
def SmlS (s : Sch) : Prop := s.comp.length ≤ 1000000 ∧ s.rules.length ≤ 1000000 ∧ ∀ r ∈ s.rules, SmlR r
theorem ruls_at {w : World} {a : Option Addr} {l : List Rul} (h : SlOf 7 RRul w a l) (k : Nat) (hk : k < l.length) : ∃ b o pa pc, a = some ⟨b, o, none⟩ ∧ w.cell? ⟨b, o + k * 7, none⟩ = some (.string (bs l[k].name)) ∧ w.cell? ⟨b, o + k * 7 + 1, none⟩ = some (.bool l[k].req) ∧ w.cell? ⟨b, o + k * 7 + 2, none⟩ = some (.int .i64 l[k].kind) ∧ w.cell? ⟨b, o + k * 7 + 3, none⟩ = some (.int .i64 l[k].low) ∧ w.cell? ⟨b, o + k * 7 + 4, none⟩ = some (.int .i64 l[k].high) ∧ w.cell? ⟨b, o + k * 7 + 5, none⟩ = some (.int .i64 l[k].count) ∧ w.cell? ⟨b, o + k * 7 + 6, none⟩ = some (.slice pa l[k].words.length pc) ∧ SlOf 1 RS w pa l[k].words := by
  obtain ⟨b, o, e, c0, c1, c2, c3, c4, c5, ⟨pa, pc, c6, _, hf, hs⟩⟩ := h k hk
  exact ⟨b, o, pa, pc, e, c0.1, c1, c2.1, c3.1, c4.1, c5.1, c6, hs⟩
theorem schs_at {w : World} {a : Option Addr} {l : List Sch} (h : SlOf 3 RSch w a l) (k : Nat) (hk : k < l.length) : ∃ b o pa pc, a = some ⟨b, o, none⟩ ∧ w.cell? ⟨b, o + k * 3, none⟩ = some (.string (bs l[k].comp)) ∧ w.cell? ⟨b, o + k * 3 + 1, none⟩ = some (.bool l[k].closed) ∧ w.cell? ⟨b, o + k * 3 + 2, none⟩ = some (.slice pa l[k].rules.length pc) ∧ SlOf 7 RRul w pa l[k].rules := by
  obtain ⟨b, o, e, c0, c1, ⟨pa, pc, c2, _, hf, hs⟩⟩ := h k hk
  exact ⟨b, o, pa, pc, e, c0.1, c1, c2, hs⟩
theorem ck1_any (s : Sch) (a : Option Addr) (c : Nat) (w : World) (hf : s.rules.length ≤ 1000000) :
    Calls Tryz.prog 34 #[.agg #[.string (bs s.comp), .bool s.closed, .slice a s.rules.length c]] w (Grows w (.bool (decide (16 < s.rules.length)))) := by
  go_enter Tryz.func34, Tryz.ntmps34
  go_wp2
  go_ret
  exact ⟨ret_bool (by rw [Bool.eq_iff_iff]; simp; try omega), (Gr.refl _).alloc _⟩
theorem ck2_any (r : Rul) (a : Option Addr) (c : Nat) (w : World) (h : SlOf 1 RS w a r.words) (hf : SmlR r) :
    Calls Tryz.prog 37 #[.agg #[.string (bs r.name), .bool r.req, .int .i64 r.kind, .int .i64 r.low, .int .i64 r.high, .int .i64 r.count, .slice a r.words.length c]] w (Grows w (.bool (!ruleP r))) := by
  have HC : ∀ W, Gr w W → Calls Tryz.prog 38 #[.agg #[.string (bs r.name), .bool r.req, .int .i64 r.kind, .int .i64 r.low, .int .i64 r.high, .int .i64 r.count, .slice a r.words.length c]] W (Grows W (.bool (ruleP r))) := fun W hg => rule_any r a c W (h.giS hg) hf.2.1 hf.2.2 hf.1
  have HH := Lib.hid HC
  clear HC h hf
  go_enter Tryz.func37, Tryz.ntmps37
  go_wp2_with (go_at_call 38; refine (HH.out _ (by repeat (first | exact Gr.refl _ | refine Gr.alloc _ ?_))).mono ?_; rintro e w' ⟨rfl, O, d, rfl⟩)
  go_ret
  exact ⟨rfl, ((Gr.refl _).alloc _).xt _ _⟩
theorem ck3_any (r : Rul) (a : Option Addr) (c : Nat) (w : World) :
    Calls Tryz.prog 40 #[.agg #[.string (bs r.name), .bool r.req, .int .i64 r.kind, .int .i64 r.low, .int .i64 r.high, .int .i64 r.count, .slice a r.words.length c]] w (Grows w (.string (bs r.name))) := by
  go_enter Tryz.func40, Tryz.ntmps40
  go_wp2
  go_ret
  exact ⟨rfl, (Gr.refl _).alloc _⟩
theorem ck4_any (s : Sch) (a : Option Addr) (c : Nat) (w : World) :
    Calls Tryz.prog 42 #[.agg #[.string (bs s.comp), .bool s.closed, .slice a s.rules.length c]] w (Grows w (.string (bs s.comp))) := by
  go_enter Tryz.func42, Tryz.ntmps42
  go_wp2
  go_ret
  exact ⟨rfl, (Gr.refl _).alloc _⟩
theorem ascN_iff : ∀ l : List St, ascN l = true ↔ ∀ i (h : i + 1 < l.length), ltS l[i] l[i + 1] = true
  | [] => by simp [ascN]
  | [a] => by simp [ascN]
  | a :: b :: l => by
    have ih := ascN_iff (b :: l)
    rw [ascN, Bool.and_eq_true, ih]
    constructor
    · rintro ⟨h1, h2⟩ i hi
      cases i with
      | zero => exact h1
      | succ i => exact h2 i (by simp at hi ⊢; omega)
    · intro h
      refine ⟨h 0 (by simp), fun i hi => h (i + 1) (by simp at hi ⊢; omega)⟩
set_option maxRecDepth 100000 in
set_option maxHeartbeats 4000000 in
theorem idxK1_any (ys : List Sch) (a : Option Addr) (cap : Nat) (w : World) (h : SlOf 3 RSch w a ys) (hf : ys.length ≤ 1000000) (hy : ∀ y ∈ ys, SmlS y) :
    Calls Tryz.prog 54 #[.slice a ys.length cap, .func (.func 34) #[] #[]] w fun e w' => ∃ i : Int, e = .returned (.int .i64 i) ∧ (decide (0 ≤ i) = ys.any (fun y => decide (16 < y.rules.length))) ∧ Gr w w' := by
  have H := Lib.hid h
  have HY := Lib.hid hy
  clear h hy
  go_enter Tryz.func54, Tryz.ntmps54
  go_wp2_with fail
  go_loopw [8] (fun i wr => ∃ k : Nat, k ≤ ys.length ∧ i = .int .i64 k ∧ (∀ j (hj : j < k) (hjl : j < ys.length), (fun y => decide (16 < y.rules.length)) ys[j] = false) ∧ Gr w wr) (fun i _ => ys.length - (intOf i).toNat)
  case atStart => exact ⟨0, Nat.zero_le _, rfl, fun j h => absurd h (by omega), Gr.refl _⟩
  case round =>
    obtain ⟨k, hk, rfl, hall, hg⟩ := hrel
    have HA := Lib.hid hall
    have HG := Lib.hid hg
    clear hall hg
    by_cases hlt : k < ys.length
    · obtain ⟨b, o, pa, pc, rfl, c0, c1, c2, hs⟩ := schs_at (H.out.gr RSch.mono HG.out) k hlt
      obtain ⟨y, hyk⟩ : ∃ y, ys[k] = y := ⟨_, rfl⟩
      have HYK := Lib.hid hyk
      have hyl := HY.out ys[k] (List.getElem_mem hlt)
      rw [hyk] at c0 c1 c2 hs hyl
      have hh := has_of_cell c0
      have HC := Lib.hid (ck1_any y pa pc wr hyl.2.1)
      clear hyk hs
      by_cases hv : (fun y => decide (16 < y.rules.length)) y = true
      · rw [show (decide (16 < y.rules.length)) = true from hv] at HC
        have V := Lib.hid hv
        clear hv
        go_wp2_with (go_at_call 34; refine HC.out.mono ?_; rintro e w' ⟨rfl, O, d, rfl⟩)
        go_ret
        refine ⟨_, rfl, ?_, HG.out.xt _ _⟩
        rw [show decide (0 ≤ (k : Int)) = true by simp, eq_comm, List.any_eq_true]
        exact ⟨_, List.getElem_mem hlt, by rw [HYK.out]; exact V.out⟩
      · rw [Bool.not_eq_true] at hv
        rw [show (decide (16 < y.rules.length)) = false from hv] at HC
        have V := Lib.hid hv
        clear hv
        go_wp2_with (go_at_call 34; refine HC.out.mono ?_; rintro e w' ⟨rfl, O, d, rfl⟩)
        go_roundw
        case rel =>
          refine ⟨k + 1, by omega, by go_num, fun j hj hjl => ?_, HG.out.xt _ _⟩
          by_cases e : j = k
          · subst e; rw [HYK.out]; exact V.out
          · exact HA.out j (by omega) hjl
        case measure => simp [intOf]; omega
    · go_wp2_with fail
      go_ret
      refine ⟨_, rfl, ?_, HG.out⟩
      rw [eq_comm, show decide ((0:Int) ≤ -1) = false by simp, List.any_eq_false]
      intro x hx
      obtain ⟨j, hj, rfl⟩ := List.getElem_of_mem hx
      have := HA.out j (by omega) hj
      (try simp only at this)
      rw [this]; decide
theorem conK1_any (ys : List Sch) (a : Option Addr) (cap : Nat) (w : World) (h : SlOf 3 RSch w a ys) (hf : ys.length ≤ 1000000) (hy : ∀ y ∈ ys, SmlS y) :
    Calls Tryz.prog 33 #[.slice a ys.length cap, .func (.func 34) #[] #[]] w (Grows w (.bool (ys.any (fun y => decide (16 < y.rules.length))))) := by
  have H := Lib.hid h
  have HY := Lib.hid hy
  clear h hy
  go_enter Tryz.func33, Tryz.ntmps33
  go_wp2_with fail
  refine (idxK1_any ys a cap w H.out hf HY.out).mono ?_
  rintro e w' ⟨x, rfl, hx, hg⟩
  have X := Lib.hid hx
  have HG := Lib.hid hg
  clear hx hg
  go_wp2_with fail
  go_ret
  exact ⟨ret_bool X.out, HG.out⟩
set_option maxRecDepth 100000 in
set_option maxHeartbeats 4000000 in
theorem idxK2_any (ys : List Rul) (a : Option Addr) (cap : Nat) (w : World) (h : SlOf 7 RRul w a ys) (hf : ys.length ≤ 1000000) (hy : ∀ y ∈ ys, SmlR y) :
    Calls Tryz.prog 80 #[.slice a ys.length cap, .func (.func 37) #[] #[]] w fun e w' => ∃ i : Int, e = .returned (.int .i64 i) ∧ (decide (0 ≤ i) = ys.any (fun y => !ruleP y)) ∧ Gr w w' := by
  have H := Lib.hid h
  have HY := Lib.hid hy
  clear h hy
  go_enter Tryz.func80, Tryz.ntmps80
  go_wp2_with fail
  go_loopw [8] (fun i wr => ∃ k : Nat, k ≤ ys.length ∧ i = .int .i64 k ∧ (∀ j (hj : j < k) (hjl : j < ys.length), (fun y => !ruleP y) ys[j] = false) ∧ Gr w wr) (fun i _ => ys.length - (intOf i).toNat)
  case atStart => exact ⟨0, Nat.zero_le _, rfl, fun j h => absurd h (by omega), Gr.refl _⟩
  case round =>
    obtain ⟨k, hk, rfl, hall, hg⟩ := hrel
    have HA := Lib.hid hall
    have HG := Lib.hid hg
    clear hall hg
    by_cases hlt : k < ys.length
    · obtain ⟨b, o, pa, pc, rfl, c0, c1, c2, c3, c4, c5, c6, hs⟩ := ruls_at (H.out.gr RRul.mono HG.out) k hlt
      obtain ⟨y, hyk⟩ : ∃ y, ys[k] = y := ⟨_, rfl⟩
      have HYK := Lib.hid hyk
      have hyl := HY.out ys[k] (List.getElem_mem hlt)
      rw [hyk] at c0 c1 c2 c3 c4 c5 c6 hs hyl
      have hh := has_of_cell c0
      have HC := Lib.hid (ck2_any y pa pc wr hs hyl)
      clear hyk hs
      by_cases hv : (fun y => !ruleP y) y = true
      · rw [show (!ruleP y) = true from hv] at HC
        have V := Lib.hid hv
        clear hv
        go_wp2_with (go_at_call 37; refine HC.out.mono ?_; rintro e w' ⟨rfl, O, d, rfl⟩)
        go_ret
        refine ⟨_, rfl, ?_, HG.out.xt _ _⟩
        rw [show decide (0 ≤ (k : Int)) = true by simp, eq_comm, List.any_eq_true]
        exact ⟨_, List.getElem_mem hlt, by rw [HYK.out]; exact V.out⟩
      · rw [Bool.not_eq_true] at hv
        rw [show (!ruleP y) = false from hv] at HC
        have V := Lib.hid hv
        clear hv
        go_wp2_with (go_at_call 37; refine HC.out.mono ?_; rintro e w' ⟨rfl, O, d, rfl⟩)
        go_roundw
        case rel =>
          refine ⟨k + 1, by omega, by go_num, fun j hj hjl => ?_, HG.out.xt _ _⟩
          by_cases e : j = k
          · subst e; rw [HYK.out]; exact V.out
          · exact HA.out j (by omega) hjl
        case measure => simp [intOf]; omega
    · go_wp2_with fail
      go_ret
      refine ⟨_, rfl, ?_, HG.out⟩
      rw [eq_comm, show decide ((0:Int) ≤ -1) = false by simp, List.any_eq_false]
      intro x hx
      obtain ⟨j, hj, rfl⟩ := List.getElem_of_mem hx
      have := HA.out j (by omega) hj
      (try simp only at this)
      rw [this]; decide
theorem conK2_any (ys : List Rul) (a : Option Addr) (cap : Nat) (w : World) (h : SlOf 7 RRul w a ys) (hf : ys.length ≤ 1000000) (hy : ∀ y ∈ ys, SmlR y) :
    Calls Tryz.prog 36 #[.slice a ys.length cap, .func (.func 37) #[] #[]] w (Grows w (.bool (ys.any (fun y => !ruleP y)))) := by
  have H := Lib.hid h
  have HY := Lib.hid hy
  clear h hy
  go_enter Tryz.func36, Tryz.ntmps36
  go_wp2_with fail
  refine (idxK2_any ys a cap w H.out hf HY.out).mono ?_
  rintro e w' ⟨x, rfl, hx, hg⟩
  have X := Lib.hid hx
  have HG := Lib.hid hg
  clear hx hg
  go_wp2_with fail
  go_ret
  exact ⟨ret_bool X.out, HG.out⟩
set_option maxRecDepth 100000 in
set_option maxHeartbeats 4000000 in
theorem ascR_any (ys : List Rul) (a : Option Addr) (cap : Nat) (w : World) (h : SlOf 7 RRul w a ys) (hf : ys.length ≤ 1000000) :
    Calls Tryz.prog 39 #[.slice a ys.length cap, .func (.func 40) #[] #[]] w (Grows w (.bool (ascN (ys.map Rul.name)))) := by
  have H := Lib.hid h
  clear h
  go_enter Tryz.func39, Tryz.ntmps39
  go_wp2_with fail
  go_loopw [5] (fun i wr => ∃ m : Nat, 1 ≤ m ∧ (m = 1 ∨ m ≤ ys.length) ∧ i = .int .i64 m ∧ (∀ j (hj : j + 1 < m) (hjl : j + 1 < ys.length), ltS (Rul.name ys[j]) (Rul.name ys[j + 1]) = true) ∧ Gr w wr) (fun i _ => ys.length - (intOf i).toNat)
  case atStart => exact ⟨1, by omega, .inl rfl, rfl, fun j h => absurd h (by omega), by repeat (first | exact Gr.refl _ | refine Gr.alloc _ ?_)⟩
  case round =>
    obtain ⟨m, hm1, hm, rfl, hal, hg⟩ := hrel
    have HB := Lib.hid hal
    have HG := Lib.hid hg
    clear hal hg
    by_cases hml : m < ys.length
    · obtain ⟨b, o, pa, pc, rfl, c0, c1, c2, c3, c4, c5, c6, _⟩ := ruls_at (H.out.gr RRul.mono HG.out) m hml
      obtain ⟨b3, o3, qa, qc, e3, d0, d1, d2, d3, d4, d5, d6, _⟩ := ruls_at (H.out.gr RRul.mono HG.out) (m - 1) (by omega)
      cases e3
      have hh := has_of_cell c0
      have hi : (1 : Int) ≤ m := by omega
      clear hm
      by_cases hv : ltS (Rul.name (ys[m - 1]'(by omega))) (Rul.name ys[m]) = true
      · have hv' : Op.bytesLess (Rul.name (ys[m - 1]'(by omega))) (Rul.name ys[m]) = true := hv
        have V := Lib.hid hv
        clear hv
        (try simp only at hv')
        go_wp2_with fail
        refine wp_region_grows (by kernel_rfl) (by kernel_rfl) ?_
        repeat (go_big_quiet_step (first | (go_at_call 40; exact calls_grows (ck3_any _ _ _ _))))
        refine wpQuiet_nil ?_
        rintro _ ⟨⟨O, d9⟩, rfl⟩
        go_wp2_with fail
        go_roundw
        case rel =>
          refine ⟨m + 1, by omega, .inr (by omega), by go_num, fun j hj hjl => ?_, HG.out.xt _ _⟩
          by_cases e : j = m - 1
          · subst e
            have := V.out
            have e2 : m - 1 + 1 = m := by omega
            simpa only [e2] using this
          · exact HB.out j (by omega) hjl
        case measure => simp [intOf]; omega
      · have hv' : Op.bytesLess (Rul.name (ys[m - 1]'(by omega))) (Rul.name ys[m]) = false := by rwa [Bool.not_eq_true] at hv
        have V := Lib.hid hv
        clear hv
        (try simp only at hv')
        go_wp2_with fail
        refine wp_region_grows (by kernel_rfl) (by kernel_rfl) ?_
        repeat (go_big_quiet_step (first | (go_at_call 40; exact calls_grows (ck3_any _ _ _ _))))
        refine wpQuiet_nil ?_
        rintro _ ⟨⟨O, d9⟩, rfl⟩
        go_wp2_with fail
        go_ret
        refine ⟨ret_bool ?_, HG.out.xt _ _⟩
        rw [eq_comm, ← Bool.not_eq_true, ascN_iff]
        intro q
        have := q (m - 1) (by rw [List.length_map]; omega)
        have e2 : m - 1 + 1 = m := by omega
        simp only [e2, List.getElem_map] at this
        exact V.out this
    · go_wp2_with fail
      go_ret
      refine ⟨ret_bool ?_, HG.out⟩
      rw [eq_comm, ascN_iff]
      intro j hj
      rw [List.length_map] at hj
      simp only [List.getElem_map]
      exact HB.out j (by omega) hj
set_option maxRecDepth 100000 in
set_option maxHeartbeats 4000000 in
theorem ascS_any (ys : List Sch) (a : Option Addr) (cap : Nat) (w : World) (h : SlOf 3 RSch w a ys) (hf : ys.length ≤ 1000000) :
    Calls Tryz.prog 41 #[.slice a ys.length cap, .func (.func 42) #[] #[]] w (Grows w (.bool (ascN (ys.map Sch.comp)))) := by
  have H := Lib.hid h
  clear h
  go_enter Tryz.func41, Tryz.ntmps41
  go_wp2_with fail
  go_loopw [5] (fun i wr => ∃ m : Nat, 1 ≤ m ∧ (m = 1 ∨ m ≤ ys.length) ∧ i = .int .i64 m ∧ (∀ j (hj : j + 1 < m) (hjl : j + 1 < ys.length), ltS (Sch.comp ys[j]) (Sch.comp ys[j + 1]) = true) ∧ Gr w wr) (fun i _ => ys.length - (intOf i).toNat)
  case atStart => exact ⟨1, by omega, .inl rfl, rfl, fun j h => absurd h (by omega), by repeat (first | exact Gr.refl _ | refine Gr.alloc _ ?_)⟩
  case round =>
    obtain ⟨m, hm1, hm, rfl, hal, hg⟩ := hrel
    have HB := Lib.hid hal
    have HG := Lib.hid hg
    clear hal hg
    by_cases hml : m < ys.length
    · obtain ⟨b, o, pa, pc, rfl, c0, c1, c2, _⟩ := schs_at (H.out.gr RSch.mono HG.out) m hml
      obtain ⟨b3, o3, qa, qc, e3, d0, d1, d2, _⟩ := schs_at (H.out.gr RSch.mono HG.out) (m - 1) (by omega)
      cases e3
      have hh := has_of_cell c0
      have hi : (1 : Int) ≤ m := by omega
      clear hm
      by_cases hv : ltS (Sch.comp (ys[m - 1]'(by omega))) (Sch.comp ys[m]) = true
      · have hv' : Op.bytesLess (Sch.comp (ys[m - 1]'(by omega))) (Sch.comp ys[m]) = true := hv
        have V := Lib.hid hv
        clear hv
        (try simp only at hv')
        go_wp2_with fail
        refine wp_region_grows (by kernel_rfl) (by kernel_rfl) ?_
        repeat (go_big_quiet_step (first | (go_at_call 42; exact calls_grows (ck4_any _ _ _ _))))
        refine wpQuiet_nil ?_
        rintro _ ⟨⟨O, d9⟩, rfl⟩
        go_wp2_with fail
        go_roundw
        case rel =>
          refine ⟨m + 1, by omega, .inr (by omega), by go_num, fun j hj hjl => ?_, HG.out.xt _ _⟩
          by_cases e : j = m - 1
          · subst e
            have := V.out
            have e2 : m - 1 + 1 = m := by omega
            simpa only [e2] using this
          · exact HB.out j (by omega) hjl
        case measure => simp [intOf]; omega
      · have hv' : Op.bytesLess (Sch.comp (ys[m - 1]'(by omega))) (Sch.comp ys[m]) = false := by rwa [Bool.not_eq_true] at hv
        have V := Lib.hid hv
        clear hv
        (try simp only at hv')
        go_wp2_with fail
        refine wp_region_grows (by kernel_rfl) (by kernel_rfl) ?_
        repeat (go_big_quiet_step (first | (go_at_call 42; exact calls_grows (ck4_any _ _ _ _))))
        refine wpQuiet_nil ?_
        rintro _ ⟨⟨O, d9⟩, rfl⟩
        go_wp2_with fail
        go_ret
        refine ⟨ret_bool ?_, HG.out.xt _ _⟩
        rw [eq_comm, ← Bool.not_eq_true, ascN_iff]
        intro q
        have := q (m - 1) (by rw [List.length_map]; omega)
        have e2 : m - 1 + 1 = m := by omega
        simp only [e2, List.getElem_map] at this
        exact V.out this
    · go_wp2_with fail
      go_ret
      refine ⟨ret_bool ?_, HG.out⟩
      rw [eq_comm, ascN_iff]
      intro j hj
      rw [List.length_map] at hj
      simp only [List.getElem_map]
      exact HB.out j (by omega) hj
end Go.Proofs.YtadldblpkgackaaGreatDoor
