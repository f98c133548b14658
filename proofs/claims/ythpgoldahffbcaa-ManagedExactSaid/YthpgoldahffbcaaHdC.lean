/- slices.Clone of holds; Valid and Take of the program and of the reference; Same. -/
import Derived.Test.YthpgoldahffbcaaHdB
import Derived.Test.YthpgoldahffbcaaRox
set_option linter.unusedVariables false
set_option linter.unusedSimpArgs false
namespace Go.Proofs.Ythpgoldahffbcaa
open Go.RowKit
theorem infoHld : (Try.prog.info? 34).map (fun i => (i.zero, i.size, i.bytes)) = some (some (.agg #[.int .i64 0, .int .i64 0, .int .i64 0]), 3, 24) := by kernel_rfl
/-- The call returns holds in a row of their own. -/
def GivesH (w : World) (l : List Hld) (e : Ending) (w' : World) : Prop := ∃ v, e = .returned v ∧ w'.ownsRow w.heap.size 34 3 v l.length (encHs l) ∧ Gr w w'
/-- The same, and an error. -/
def GivesHE (w : World) (l : List Hld) (x : Int) (e : Ending) (w' : World) : Prop := ∃ v, e = .returned (.tuple #[v, .int .i64 x]) ∧ w'.ownsRow w.heap.size 34 3 v l.length (encHs l) ∧ Gr w w'
theorem gets_sl {w : World} {ao : Option Addr} {l : List Hld} (h : SlOf 3 RHld w ao l) : Gets w ao l.length 3 (encHs l) := by
  refine ⟨encHs_len l, fun hn => ?_⟩
  obtain ⟨b, o, rfl, _⟩ := h 0 (by omega)
  exact ⟨_, rfl, slH_cells h⟩
theorem owns_nil (w : World) (base e size : Nat) : w.ownsRow base e size (.slice none 0 0) 0 [] := World.ownsRow_nil _ _ _ _
theorem take_sl {w : World} {ao : Option Addr} {l : List Hld} (h : SlOf 3 RHld w ao l) (k : Nat) : SlOf 3 RHld w ao (l.take k) := by
  intro j hj
  have hj' : j < l.length := by rw [List.length_take] at hj; omega
  obtain ⟨b, o, e, q⟩ := h j hj'
  refine ⟨b, o, e, ?_⟩
  rw [List.getElem_take]
  exact q
set_option maxRecDepth 100000 in
set_option maxHeartbeats 1000000 in
theorem cloneH_any (l : List Hld) (ao : Option Addr) (cap : Nat) (w : World) (h : SlOf 3 RHld w ao l) (hf : l.length ≤ 1000000) :
    Calls Try.prog 33 #[.slice ao l.length cap] w (GivesH w l) := by
  have H := Lib.hid h
  clear h
  obtain ⟨i0, hi, hz0, hz1, hz2⟩ := info_parts infoHld
  cases ao with
  | none =>
    have := sl_none H.out
    subst this
    have he : ∀ w : World, (binOp .eql 24 (.slice none 0 cap) (.slice none 0 0)).run Try.prog w = .ok (.bool true) w := fun _ => rfl
    simp only [List.length_nil]
    go_enter Try.func33, Try.ntmps33
    go_wp2_with fail
    go_ret
    exact ⟨_, rfl, owns_nil _ _ _ _, Gr.refl _⟩
  | some a =>
    obtain ⟨b, o, s⟩ := a
    have he : ∀ w : World, (binOp .eql 24 (.slice (some ⟨b, o, s⟩) l.length cap) (.slice none 0 0)).run Try.prog w = .ok (.bool false) w := fun _ => rfl
    go_enter Try.func33, Try.ntmps33
    go_wp2_with (at_builtin; refine wpList_append_gets _ rfl _ _ 24 rfl w.heap.size 34 i0 (.agg #[.int .i64 0, .int .i64 0, .int .i64 0]) 3 24 Try.underlying24 hi hz0 hz1 hz2 rfl (by decide) _ 0 [] rfl (World.ownsRow_made w #[] 0 (Nat.le_refl _) (by simp) rfl) (some ⟨b, o, s⟩) l.length cap (encHs l) rfl (gets_sl (hlds_gr H.out ((Gr.refl _).alloc _))) (encHs_one l) (by unfold maxLen; omega) (by omega) (by simp) ?_; intro v' w1 hown' hgrow hnil)
    rw [Nat.zero_add, List.nil_append] at hown'
    go_ret
    exact ⟨v', rfl, hown', ((Gr.refl w).alloc _).grown hgrow (fun k e => by cases e; exact Nat.le_refl _)⟩

set_option maxHeartbeats 2000000 in
theorem valid_any (l : List Hld) (ao : Option Addr) (cap : Nat) (w : World) (h : SlOf 3 RHld w ao l) (hf : Fit l.length) (hc : l.length ≤ cap) :
    Calls Try.prog 12 #[.slice ao l.length cap] w (Grows w (.int .i64 (vld l))) := by
  unfold Fit at hf
  have H := Lib.hid h
  clear h
  by_cases hbig : 96 < l.length
  · have q1 : decide ((96 : Int) < l.length) = true := by simp; omega
    have HV : Hid (vld l = 3) := Lib.hid (by rw [vld, if_pos hbig])
    go_enter Try.func12, Try.ntmps12
    go_wp2_with fail
    go_ret
    rw [HV.out]
    exact ⟨rfl, Gr.refl _⟩
  · have q1 : decide ((96 : Int) < l.length) = false := by simp; omega
    have HV : Hid (vld l = vldF l 0 l.length) := Lib.hid (by rw [vld, if_neg hbig])
    go_enter Try.func12, Try.ntmps12
    go_wp2_with fail
    go_loopw [11] (fun i wr => ∃ k : Nat, k ≤ l.length ∧ i = .int .i64 k ∧ vldF l 0 l.length = vldF l k (l.length - k) ∧ Gr w wr) (fun i _ => l.length - (intOf i).toNat)
    case atStart => exact ⟨0, Nat.zero_le _, rfl, rfl, Gr.refl _⟩
    case round =>
      obtain ⟨k, hk, rfl, hv, hg⟩ := hrel
      have HK := Lib.hid hv
      have HG := Lib.hid hg
      clear hv hg
      by_cases hlt : k < l.length
      · obtain ⟨b, o, rfl, ⟨c0, v1⟩, ⟨c1, v3⟩, ⟨c2, v5⟩⟩ := (hlds_gr H.out HG.out) k hlt
        have ch := has_of_cell c0
        have HW : Hid (HWide l[k]) := Lib.hid ⟨v1, v3, v5⟩
        have HS : Hid (vldF l k (l.length - k) = if flt (l.take k) l[k] = 0 then vldF l (k + 1) (l.length - (k + 1)) else flt (l.take k) l[k]) := Lib.hid (by
          rw [show l.length - k = (l.length - (k + 1)) + 1 by omega, vldF, List.getElem?_eq_getElem hlt])
        have HT : Hid (SlOf 3 RHld wr (some ⟨b, o, none⟩) (l.take k)) := Lib.hid (take_sl (hlds_gr H.out HG.out) k)
        have hcall : ∀ W, Gr wr W → Calls Try.prog 32 #[.slice (some ⟨b, o, none⟩) k cap, .agg #[.int .i64 l[k].device, .int .i64 l[k].kind, .int .i64 l[k].unit]] W (Grows W (.int .i64 (flt (l.take k) l[k]))) := by
          intro W hW
          have := fault_any (l.take k) l[k] (some ⟨b, o, none⟩) cap W (hlds_gr HT.out hW) (by unfold Fit; rw [List.length_take]; omega) HW.out
          rwa [List.length_take, Nat.min_eq_left (by omega)] at this
        have HC := Lib.hid hcall
        have fw := flt_wide (l.take k) l[k]
        obtain ⟨f, hfl⟩ : ∃ f, f = flt (l.take k) l[k] := ⟨_, rfl⟩
        rw [← hfl] at HS HC fw
        have f0 := fw.1
        have f1 := fw.2
        have k0 : (0 : Int) ≤ k := by omega
        have k1 : (k : Int) ≤ cap := by omega
        have k2 : (k : Int) < l.length := by omega
        clear hcall fw hfl v1 v3 v5
        by_cases hf0 : f = 0
        · subst hf0
          go_wp2_with fail
          refine wp_region_grows (by kernel_rfl) (by kernel_rfl) ?_
          repeat (go_big_quiet_step ((go_at_call 32; exact calls_grows (HC.out _ (by repeat (first | with_reducible exact Gr.refl _ | with_reducible refine Gr.alloc _ ?_ | with_reducible refine Gr.xt _ _ ?_ | with_reducible refine Gr.drew ?_))))))
          refine wpQuiet_nil ?_
          rintro _ ⟨⟨O5, d5⟩, rfl⟩
          go_wp2_with fail
          go_roundw
          case rel => exact ⟨k + 1, by omega, by go_num, by rw [HK.out, HS.out]; simp, HG.out.trans (by repeat (first | with_reducible exact Gr.refl _ | with_reducible refine Gr.alloc _ ?_ | with_reducible refine Gr.xt _ _ ?_ | with_reducible refine Gr.drew ?_))⟩
          case measure => simp [intOf]; omega
        · have q2 : (f != 0) = true := by simpa using hf0
          have HF := Lib.hid hf0
          clear hf0
          go_wp2_with fail
          refine wp_region_grows (by kernel_rfl) (by kernel_rfl) ?_
          repeat (go_big_quiet_step ((go_at_call 32; exact calls_grows (HC.out _ (by repeat (first | with_reducible exact Gr.refl _ | with_reducible refine Gr.alloc _ ?_ | with_reducible refine Gr.xt _ _ ?_ | with_reducible refine Gr.drew ?_))))))
          refine wpQuiet_nil ?_
          rintro _ ⟨⟨O5, d5⟩, rfl⟩
          go_wp2_with fail
          go_ret
          rw [HV.out, HK.out, HS.out, if_neg HF.out]
          exact ⟨rfl, HG.out.trans (by repeat (first | with_reducible exact Gr.refl _ | with_reducible refine Gr.alloc _ ?_ | with_reducible refine Gr.xt _ _ ?_ | with_reducible refine Gr.drew ?_))⟩
      · have hkn : k = l.length := by omega
        subst hkn
        go_wp2_with fail
        go_ret
        rw [HV.out, HK.out, Nat.sub_self]
        exact ⟨rfl, HG.out⟩

set_option maxHeartbeats 2000000 in
theorem refValid_any (l : List Hld) (ao : Option Addr) (cap : Nat) (w : World) (h : SlOf 3 RHld w ao l) (hf : Fit l.length) (hc : l.length ≤ cap) :
    Calls Try.prog 17 #[.slice ao l.length cap] w (Grows w (.int .i64 (vld l))) := by
  unfold Fit at hf
  have H := Lib.hid h
  clear h
  by_cases hbig : 96 < l.length
  · have q1 : decide ((96 : Int) < l.length) = true := by simp; omega
    have HV : Hid (vld l = 3) := Lib.hid (by rw [vld, if_pos hbig])
    go_enter Try.func17, Try.ntmps17
    go_wp2_with fail
    go_ret
    rw [HV.out]
    exact ⟨rfl, Gr.refl _⟩
  · have q1 : decide ((96 : Int) < l.length) = false := by simp; omega
    have HV : Hid (vld l = vldF l 0 l.length) := Lib.hid (by rw [vld, if_neg hbig])
    go_enter Try.func17, Try.ntmps17
    go_wp2_with fail
    go_loopw [10] (fun i wr => ∃ k : Nat, k ≤ l.length ∧ i = .int .i64 k ∧ vldF l 0 l.length = vldF l k (l.length - k) ∧ Gr w wr) (fun i _ => l.length - (intOf i).toNat)
    case atStart => exact ⟨0, Nat.zero_le _, rfl, rfl, Gr.refl _⟩
    case round =>
      obtain ⟨k, hk, rfl, hv, hg⟩ := hrel
      have HK := Lib.hid hv
      have HG := Lib.hid hg
      clear hv hg
      by_cases hlt : k < l.length
      · obtain ⟨b, o, rfl, ⟨c0, v1⟩, ⟨c1, v3⟩, ⟨c2, v5⟩⟩ := (hlds_gr H.out HG.out) k hlt
        have ch := has_of_cell c0
        have HW : Hid (HWide l[k]) := Lib.hid ⟨v1, v3, v5⟩
        have HS : Hid (vldF l k (l.length - k) = if flt (l.take k) l[k] = 0 then vldF l (k + 1) (l.length - (k + 1)) else flt (l.take k) l[k]) := Lib.hid (by
          rw [show l.length - k = (l.length - (k + 1)) + 1 by omega, vldF, List.getElem?_eq_getElem hlt])
        have HT : Hid (SlOf 3 RHld wr (some ⟨b, o, none⟩) (l.take k)) := Lib.hid (take_sl (hlds_gr H.out HG.out) k)
        have hcall : ∀ W, Gr wr W → Calls Try.prog 35 #[.slice (some ⟨b, o, none⟩) k cap, .agg #[.int .i64 l[k].device, .int .i64 l[k].kind, .int .i64 l[k].unit]] W (Grows W (.int .i64 (flt (l.take k) l[k]))) := by
          intro W hW
          have := fits_any (l.take k) l[k] (some ⟨b, o, none⟩) cap W (hlds_gr HT.out hW) (by unfold Fit; rw [List.length_take]; omega) HW.out
          rwa [List.length_take, Nat.min_eq_left (by omega)] at this
        have HC := Lib.hid hcall
        have fw := flt_wide (l.take k) l[k]
        obtain ⟨f, hfl⟩ : ∃ f, f = flt (l.take k) l[k] := ⟨_, rfl⟩
        rw [← hfl] at HS HC fw
        have f0 := fw.1
        have f1 := fw.2
        have k0 : (0 : Int) ≤ k := by omega
        have k1 : (k : Int) ≤ cap := by omega
        have k2 : (k : Int) < l.length := by omega
        clear hcall fw hfl v1 v3 v5
        by_cases hf0 : f = 0
        · subst hf0
          go_wp2_with fail
          refine wp_region_grows (by kernel_rfl) (by kernel_rfl) ?_
          repeat (go_big_quiet_step ((go_at_call 35; exact calls_grows (HC.out _ (by repeat (first | with_reducible exact Gr.refl _ | with_reducible refine Gr.alloc _ ?_ | with_reducible refine Gr.xt _ _ ?_ | with_reducible refine Gr.drew ?_))))))
          refine wpQuiet_nil ?_
          rintro _ ⟨⟨O5, d5⟩, rfl⟩
          go_wp2_with fail
          go_roundw
          case rel => exact ⟨k + 1, by omega, by go_num, by rw [HK.out, HS.out]; simp, HG.out.trans (by repeat (first | with_reducible exact Gr.refl _ | with_reducible refine Gr.alloc _ ?_ | with_reducible refine Gr.xt _ _ ?_ | with_reducible refine Gr.drew ?_))⟩
          case measure => simp [intOf]; omega
        · have q2 : (f != 0) = true := by simpa using hf0
          have HF := Lib.hid hf0
          clear hf0
          go_wp2_with fail
          refine wp_region_grows (by kernel_rfl) (by kernel_rfl) ?_
          repeat (go_big_quiet_step ((go_at_call 35; exact calls_grows (HC.out _ (by repeat (first | with_reducible exact Gr.refl _ | with_reducible refine Gr.alloc _ ?_ | with_reducible refine Gr.xt _ _ ?_ | with_reducible refine Gr.drew ?_))))))
          refine wpQuiet_nil ?_
          rintro _ ⟨⟨O5, d5⟩, rfl⟩
          go_wp2_with fail
          go_ret
          rw [HV.out, HK.out, HS.out, if_neg HF.out]
          exact ⟨rfl, HG.out.trans (by repeat (first | with_reducible exact Gr.refl _ | with_reducible refine Gr.alloc _ ?_ | with_reducible refine Gr.xt _ _ ?_ | with_reducible refine Gr.drew ?_))⟩
      · have hkn : k = l.length := by omega
        subst hkn
        go_wp2_with fail
        go_ret
        rw [HV.out, HK.out, Nat.sub_self]
        exact ⟨rfl, HG.out⟩
end Go.Proofs.Ythpgoldahffbcaa
