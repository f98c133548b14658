/- Holds made off the source of numbers. -/
import Derived.Test.YthpgoldahffbcaaHdD
import Derived.Test.YthpgoldahffbcaaHdP
import Derived.Test.YthpgoldahffbcaaSrc
set_option linter.unusedVariables false
set_option linter.unusedSimpArgs false
namespace Go.Proofs.Ythpgoldahffbcaa
open Go.RowKit
def Small (x : Hld) : Prop := 0 ≤ x.device ∧ x.device ≤ 3 ∧ (x.kind = 1 ∨ x.kind = 2) ∧ 0 ≤ x.unit ∧ x.unit ≤ 5
theorem Small.wide {x : Hld} (h : Small x) : HWide x := by
  obtain ⟨h1, h2, h3, h4, h5⟩ := h
  refine ⟨?_, ?_, ?_⟩ <;> unfold Wide <;> omega
theorem smalls_wide {l : List Hld} (h : ∀ x ∈ l, Small x) : HsWide l := HsWide.of_mem fun x hx => (h x hx).wide
def MakesHold (w : World) (b len : Nat) (e : Ending) (w' : World) : Prop := ∃ x : Hld, e = .returned (.agg #[.int .i64 x.device, .int .i64 x.kind, .int .i64 x.unit]) ∧ Small x ∧ Mv b len w w'
set_option maxHeartbeats 1000000 in
theorem hold_any (w : World) (b len : Nat) (ht : Tp w b len) : Calls Try.prog 18 #[.pointer (some ⟨b, 0, none⟩)] w (MakesHold w b len) := by
  have TT := Lib.hid ht
  have HB := Lib.hid ht.has
  clear ht
  go_enter Try.func18, Try.ntmps18
  go_wp2_with fail
  have g0 : Hid (Gr w (w.alloc (.cells #[.int .i64 0, .int .i64 0, .int .i64 0] 34))) := Lib.hid ((Gr.refl _).alloc _)
  have R0 : Hid (Row (w.alloc (.cells #[.int .i64 0, .int .i64 0, .int .i64 0] 34)) w.heap.size 34 [.int .i64 0, .int .i64 0, .int .i64 0]) := Lib.hid (Row.new w _ _)
  refine (nM_any _ b len _ (TT.out.gr g0.out) (by omega) (by omega)).mono ?_
  rintro e W1 ⟨x, rfl, ⟨x1, x2⟩, hm⟩
  have nb : Hid (w.heap.size ≠ b) := Lib.hid (by have := HB.out; omega)
  have M1 := Lib.hid ((Mv.of_gr TT.out g0.out).trans HB.out hm)
  have R1 := Lib.hid (hm.row R0.out nb.out)
  have T1 := Lib.hid (M1.out.tp TT.out)
  clear hm g0 R0
  go_wp2_with fail
  refine (pickNew_any W1 b len T1.out _ rfl _ 2 [1, 2] (fun k => k = 1 ∨ k = 2) rfl rfl (by omega) (by omega) (by intro y hy; simp at hy; omega)).mono ?_
  rintro e W2 ⟨y, rfl, hy, hm⟩
  have M2 := Lib.hid (M1.out.trans HB.out hm)
  have R2 := Lib.hid (hm.row R1.out nb.out)
  have T2 := Lib.hid (M2.out.tp TT.out)
  have HY := Lib.hid hy
  clear hm hy
  go_wp2_with fail
  refine (nM_any _ b len _ T2.out (by omega) (by omega)).mono ?_
  rintro e W3 ⟨z, rfl, ⟨z1, z2⟩, hm⟩
  have M3 := Lib.hid (M2.out.trans HB.out hm)
  have R3 := Lib.hid (hm.row R2.out nb.out)
  clear hm
  have c0 := R3.out.cell 0 (by simp)
  have c1 := R3.out.cell 1 (by simp)
  have c2 := R3.out.cell 2 (by simp)
  have f0 := R3.out.free 0
  have f1 := R3.out.free 1
  have f2 := R3.out.free 2
  have ch := R3.out.has
  simp only [List.getElem_cons_zero, List.getElem_cons_succ] at c0 c1 c2
  go_wp2_with fail
  refine bodyPost_ret (v := .agg #[.int .i64 x, .int .i64 y, .int .i64 z]) ?_ rfl ?_
  · simp [results, Try.results18, go_sem, c0, c1, c2]
  exact ⟨⟨x, y, z⟩, rfl, ⟨x1, by show x ≤ 3; omega, HY.out, z1, by show z ≤ 5; omega⟩, ((M3.out.setc (Nat.le_refl _)).setc (Nat.le_refl _)).setc (Nat.le_refl _)⟩
def MakesHolds (w : World) (b len : Nat) (e : Ending) (w' : World) : Prop := ∃ (l : List Hld) (v : Value), e = .returned v ∧ w'.ownsRow w.heap.size 34 3 v l.length (encHs l) ∧ Right l ∧ l.length ≤ 9 ∧ (∀ x ∈ l, Small x) ∧ Mv b len w w'
set_option maxHeartbeats 1000000 in
theorem holds_any (w : World) (b len : Nat) (ht : Tp w b len) : Calls Try.prog 8 #[.pointer (some ⟨b, 0, none⟩)] w (MakesHolds w b len) := by
  have TT := Lib.hid ht
  have HB := Lib.hid ht.has
  clear ht
  go_enter Try.func8, Try.ntmps8
  go_wp2_with fail
  refine (nM_any _ b len _ TT.out (by omega) (by omega)).mono ?_
  rintro e W1 ⟨n0, rfl, ⟨x1, x2⟩, hm⟩
  obtain ⟨n, rfl⟩ := Int.eq_ofNat_of_zero_le x1
  have M1 := Lib.hid hm
  clear hm
  go_wp2_with fail
  go_loopw [3, 4] (fun v i wr => ∃ (k : Nat) (l : List Hld), i = .int .i64 k ∧ k + l.length ≤ 9 ∧ wr.ownsRow w.heap.size 34 3 v l.length (encHs l) ∧ Right l ∧ (∀ x ∈ l, Small x) ∧ Mv b len w wr) (fun _ i _ => (intOf i).toNat)
  case atStart => exact ⟨n, [], rfl, by simp; omega, owns_nil _ _ _ _, right_nil, by simp, M1.out⟩
  case round =>
    obtain ⟨k, l, rfl, hk, ho, hr, hs, hm⟩ := hrel
    have HO := Lib.hid ho
    have RI' := Lib.hid hr
    have SM := Lib.hid hs
    have HM := Lib.hid hm
    have TW := Lib.hid (hm.tp TT.out)
    clear hr hs hm M1
    by_cases h0 : 0 < k
    · obtain ⟨j, rfl⟩ : ∃ j, k = j + 1 := ⟨k - 1, by omega⟩
      have g0 : (0 : Int) < ((j + 1 : Nat) : Int) := by omega
      obtain ⟨a, c, rfl, hc, hown1⟩ := owns_ownN ho
      clear ho hown1
      go_wp2_with fail
      refine (hold_any _ b len TW.out).mono ?_
      rintro e W2 ⟨x, rfl, hx, hm⟩
      have SX := Lib.hid hx
      have HWx := Lib.hid hx.wide
      have M2 := Lib.hid (HM.out.trans HB.out hm)
      have O2 := Lib.hid (hm.owns HO.out HB.out)
      have SL := Lib.hid ((by obtain ⟨a', c', e, _, q⟩ := owns_ownN O2.out; cases e; exact q.slH (smalls_wide SM.out)) : SlOf 3 RHld W2 a l)
      have T2 := Lib.hid (M2.out.tp TT.out)
      clear hx hm
      go_wp2_with fail
      refine (refTake_any l x a c _ SL.out (by unfold Fit; omega) hc HWx.out).mono ?_
      rintro e W3 ⟨v', rfl, ho3, hg3⟩
      have M3 := Lib.hid (M2.out.gr hg3)
      have O3 := Lib.hid (owns_low (base' := w.heap.size) ho3 M2.out.size)
      have O23 := Lib.hid (Gr.owns O2.out hg3)
      clear ho3 hg3
      have tw := takeE_wide l x
      have tw0 := tw.1
      have tw1 := tw.2
      clear tw
      by_cases hte : takeE l x = 0
      · have TZ := Lib.hid (takeE_zero hte)
        have TP := Lib.hid (takeP_yes hte)
        rw [hte]
        rw [TP.out] at O3
        clear hte tw0 tw1
        go_wp2_with fail
        go_roundw
        case rel =>
          refine ⟨j, l ++ [x], by go_num, by simp; omega, O3.out, TZ.out.1.snoc TZ.out.2.1 TZ.out.2.2, fun y hy => ?_, M3.out⟩
          rcases List.mem_append.1 hy with q | q
          · exact SM.out y q
          · rw [List.mem_singleton.1 q]; exact SX.out
        case measure => simp [intOf]
      · obtain ⟨f, hfe⟩ : ∃ f, Hid (f = takeE l x) := ⟨_, Lib.hid rfl⟩
        rw [← hfe.out] at hte tw0 tw1 ⊢
        have q1 : (f == 0) = false := by simpa using hte
        clear hte
        go_wp2_with fail
        go_roundw
        case rel => exact ⟨j, l, by go_num, by omega, O23.out, RI'.out, SM.out, M3.out⟩
        case measure => simp [intOf]
    · have hk0 : k = 0 := by omega
      subst hk0
      clear ho
      go_wp2_with fail
      go_ret
      exact ⟨l, _, rfl, HO.out, RI'.out, by omega, SM.out, HM.out⟩
end Go.Proofs.Ythpgoldahffbcaa
