/- Users of the reference (printed by wip/tools/users.py). -/
import Derived.Test.YthpgoldahffbcaaHeC
import Derived.Outline
set_option linter.unusedVariables false
set_option linter.unusedSimpArgs false
namespace Go.Proofs.Ythpgoldahffbcaa
open Go.RowKit
/-- The devices of the first holds of a unit. -/
def MemTo (l : List Hld) (un : Int) (k : Nat) (cur : List Int) : Prop := ∀ d, d ∈ cur ↔ ∃ x ∈ l.take k, x.unit = un ∧ x.device = d
theorem MemTo.same {l : List Hld} {un : Int} {k : Nat} {cur : List Int} (h : MemTo l un k cur) (hk : k < l.length) (hs : l[k].unit ≠ un ∨ l[k].device ∈ cur) : MemTo l un (k + 1) cur := by
  intro d
  rw [h d, List.take_succ_eq_append_getElem hk]
  constructor
  · rintro ⟨x, hx, q⟩; exact ⟨x, List.mem_append_left _ hx, q⟩
  · rintro ⟨x, hx, q1, q2⟩
    rcases List.mem_append.1 hx with hx | hx
    · exact ⟨x, hx, q1, q2⟩
    · rw [List.mem_singleton.1 hx] at q1 q2
      rcases hs with q | q
      · exact absurd q1 q
      · rw [← h d, ← q2]; exact q
theorem MemTo.more {l : List Hld} {un : Int} {k : Nat} {cur cur' : List Int} (h : MemTo l un k cur) (hk : k < l.length) (hs : l[k].unit = un) (hc : ∀ d, d ∈ cur' ↔ d = l[k].device ∨ d ∈ cur) : MemTo l un (k + 1) cur' := by
  intro d
  rw [hc d, h d, List.take_succ_eq_append_getElem hk]
  constructor
  · rintro (rfl | ⟨x, hx, q⟩)
    · exact ⟨l[k], List.mem_append_right _ (List.mem_singleton.2 rfl), hs, rfl⟩
    · exact ⟨x, List.mem_append_left _ hx, q⟩
  · rintro ⟨x, hx, q1, q2⟩
    rcases List.mem_append.1 hx with hx | hx
    · exact .inr ⟨x, hx, q1, q2⟩
    · rw [List.mem_singleton.1 hx] at q2; exact .inl q2.symm
theorem users_mem2 (l : List Hld) (un d : Int) : d ∈ Lib.compact (srt (devs (l.filter fun x : Hld => x.unit == un))) ↔ ∃ x ∈ l, x.unit = un ∧ x.device = d := users_mem l un d
set_option maxRecDepth 100000 in
set_option maxHeartbeats 4000000 in
theorem refUsers_any (un : Int) (l : List Hld) (ao : Option Addr) (cap : Nat) (w : World) (h : SlOf 3 RHld w ao l) (hf : l.length ≤ 1000) :
    Calls Try.prog 26 #[.slice ao l.length cap, .int .i64 un] w (GivesI w (usersL l un)) := by
  have H := Lib.hid h
  clear h
  obtain ⟨i0, hi, hz0, hz1, hz2⟩ := info_parts infoInt
  go_enter Try.func26, Try.ntmps26
  go_wp2_with fail
  go_loopw [11, 5] (fun i v wr => ∃ (k : Nat) (cur : List Int), k ≤ l.length ∧ i = .int .i64 k ∧ wr.ownsRow w.heap.size 3 1 v cur.length (nums cur) ∧ cur.Pairwise (· < ·) ∧ MemTo l un k cur ∧ cur.length ≤ k ∧ Gr w wr) (fun i _ _ => l.length - (intOf i).toNat)
  case atStart => exact ⟨0, [], Nat.zero_le _, rfl, owns_nil _ _ _ _, List.Pairwise.nil, fun d => by simp, Nat.zero_le _, Gr.refl _⟩
  case round =>
    obtain ⟨k, cur, hk, rfl, ho, hpw, hmem, hcl, hg⟩ := hrel
    have HO := Lib.hid ho
    have PW := Lib.hid hpw
    have MM := Lib.hid hmem
    have HG0 := Lib.hid hg
    clear hpw hmem hg
    by_cases hlt : k < l.length
    · obtain ⟨b, o, rfl, ⟨c0, -⟩, ⟨c1, -⟩, ⟨c2, -⟩⟩ := (hlds_gr H.out HG0.out) k hlt
      have ch := has_of_cell c0
      have MS := Lib.hid (fun hs => MM.out.same hlt hs)
      have ME := Lib.hid (fun cur' hs hc => MM.out.more (cur' := cur') hlt hs hc)
      obtain ⟨x, hx⟩ : ∃ x, Hid (x = l[k]) := ⟨_, Lib.hid rfl⟩
      rw [← hx.out] at c0 c1 c2 MS ME
      by_cases hu : x.unit = un
      · have hub : (x.unit != un) = false := by simpa using hu
        have HU := Lib.hid hu
        clear hu
        obtain ⟨Wo, rfl⟩ : ∃ Wo : World, Wo = wr := ⟨_, rfl⟩
        obtain ⟨av, cv, rfl, hcv, hown⟩ := owns_ownN ho
        have OWN := Lib.hid hown
        clear ho hown
        go_wp2_with fail
        obtain ⟨W1, hW1⟩ : ∃ W1 : World, Hid (W1 = Wo.alloc (.cells #[.int .i64 x.device, .int .i64 x.kind, .int .i64 x.unit] 34)) := ⟨_, Lib.hid rfl⟩
        have G1' : Hid (Gr Wo W1) := Lib.hid (by rw [hW1.out]; exact (Gr.refl _).alloc _)
        have R1 : Hid (Row W1 Wo.heap.size 34 [.int .i64 x.device, .int .i64 x.kind, .int .i64 x.unit]) := Lib.hid (by rw [hW1.out]; exact Row.new Wo _ _)
        rw [← hW1.out]
        clear hW1 c0 c1 c2 ch
        have SI := Lib.hid (Own1.gr OWN.out G1'.out)
        go_loopw [8] (fun a wr => ∃ j : Nat, a = .int .i64 j ∧ j ≤ cur.length ∧ (∀ m (hm : m < cur.length), j ≤ m → x.device < cur[m]) ∧ Gr W1 wr) (fun a _ => (intOf a).toNat)
        case atStart => exact ⟨cur.length, rfl, Nat.le_refl _, fun m hm q => absurd hm (by omega), Gr.refl _⟩
        case round =>
          obtain ⟨j, rfl, hj, hgt, hg⟩ := hrel
          have HGT := Lib.hid hgt
          have HI2 := Lib.hid hg
          have e0 := (R1.out.gr hg).cell 0 (by simp)
          have eh := (R1.out.gr hg).has
          simp only [List.getElem_cons_zero] at e0
          clear hgt hg
          by_cases hj0 : j = 0
          · subst hj0
            go_wp2_with fail
            refine wp_region_grows (by kernel_rfl) (by kernel_rfl) ?_
            repeat (go_big_quiet_step (fail))
            refine wpQuiet_nil ?_
            rintro _ ⟨⟨OA, dA⟩, rfl⟩
            go_wp2_with fail
            refine wp_region_growsx (by kernel_rfl) (by kernel_rfl) ?_
            repeat (go_big_quiet_step (fail))
            refine wpQuiet_nil ?_
            rintro _ ⟨⟨OB, dB⟩, rfl⟩
            obtain ⟨W, hW⟩ : ∃ W : World, Hid (W = xt wr OB dB) := ⟨_, Lib.hid rfl⟩
            have GW : Hid (Gr wr W) := Lib.hid (by rw [hW.out]; exact (Gr.refl _).xt _ _)
            have HG : Hid (Gr w W) := Lib.hid (HG0.out.trans (G1'.out.trans (HI2.out.trans GW.out)))
            have HOW := Lib.hid (Gr.owns HO.out (G1'.out.trans (HI2.out.trans GW.out)))
            replace e0 := cell_gr GW.out e0
            replace eh := has_of_cell e0
            rw [← hW.out]
            clear hW
            have INS := Lib.hid (rising_ins PW.out x.device 0 (by omega) (fun m hm q => absurd q (by omega)) (fun m hm hjm => HGT.out m hm (by omega)))
            have INM := Lib.hid (ME.out _ HU.out INS.out.2)
            have INL : Hid ((cur.take 0 ++ x.device :: cur.drop 0).length = cur.length + 1) := Lib.hid (by rw [List.length_append, List.length_cons, List.length_take, List.length_drop]; omega)
            obtain ⟨_, ⟨ee, hn0⟩ | ⟨g, cap', c', ee, -⟩⟩ := HOW.out
            · injection ee with e1 e2 e3
              subst e1 e3
              have hc0 : cur = [] := List.eq_nil_of_length_eq_zero (by simpa using e2)
              have INN : Hid (nums (cur.take 0 ++ x.device :: cur.drop 0) = nums [] ++ ([.int .i64 x.device] ++ nums [])) := Lib.hid (by rw [hc0]; simp [nums])
              have hc1 : cur.length = 0 := by rw [hc0]; rfl
              clear e2 hn0 hc0
              rw [hc1]
              have hn1 := hc1
              have HOW0 : Hid (W.ownsRow w.heap.size 3 1 (.slice none 0 0) 0 (nums [])) := Lib.hid (owns_nil W w.heap.size _ _)
              go_wp2_with fail
              go_region_law (first
                | (refine step_append_gets _ rfl _ _ 22 rfl w.heap.size 3 i0 (.int .i64 0) 1 8 Try.underlying22 hi hz0 hz1 hz2 rfl (by decide) (.slice (some ⟨W.heap.size, 0, none⟩) 1 1) 1 [.int .i64 x.device] (by simp [Act.eval, Act.put] <;> omega) (Gr.owns (own_int W x.device w.heap.size _ rfl HG.out.size) (by repeat (first | with_reducible exact Gr.refl _ | with_reducible refine Gr.alloc _ ?_ | with_reducible refine Gr.xt _ _ ?_ | with_reducible refine Gr.drew ?_))) none 0 0 (nums ([])) (by simp [Act.eval, Act.put] <;> omega) (Gets.gr gets_none (by repeat (first | with_reducible exact Gr.refl _ | with_reducible refine Gr.alloc _ ?_ | with_reducible refine Gr.xt _ _ ?_ | with_reducible refine Gr.drew ?_))) (nums_one _) (by unfold maxLen; omega) (by omega) (by have := HG.out.size; simp; omega) ?_; intro v1 w1 hown hgrow hnil; have G1 : Hid (Gr W w1) := Lib.hid (Gr.grown (by repeat (first | with_reducible exact Gr.refl _ | with_reducible refine Gr.alloc _ ?_ | with_reducible refine Gr.xt _ _ ?_ | with_reducible refine Gr.drew ?_)) hgrow (fun k e => by have e2 : some W.heap.size = some k := e; injection e2 with e2; omega)); obtain ⟨a1, c1, rfl, hg1⟩ := gets_own (by decide) hown; have g1 := Lib.hid hg1; clear hown hgrow hnil hg1)
                | (refine step_append_gets _ rfl _ _ 22 rfl w.heap.size 3 i0 (.int .i64 0) 1 8 Try.underlying22 hi hz0 hz1 hz2 rfl (by decide) (.slice none 0 0) 0 (nums ([])) (by simp [Act.eval, Act.put] <;> omega) (Gr.owns HOW0.out G1.out) a1 (1 + 0) c1 ([.int .i64 x.device] ++ nums ([])) (by simp [Act.eval, Act.put] <;> omega) g1.out (by intro u hu; rcases List.mem_append.1 hu with q | q; (rw [List.mem_singleton.1 q]; rfl); exact nums_one _ u q) (by unfold maxLen; omega) (by omega) (by have := HG.out.size; have := G1.out.size; omega) ?_; intro v2 w2 hown2 hgrow2 hnil2; have O2 := Lib.hid hown2; have G2 : Hid (Gr w w2) := Lib.hid (Gr.grown (HG.out.trans G1.out) hgrow2 (fun k e => (owns_block (Gr.owns HOW0.out G1.out) k e).1)); clear hown2 hgrow2 hnil2))
              all_goals go_wp2_with fail
              all_goals go_roundw
              all_goals first
                | (simp [intOf]; omega)
                | skip
              all_goals
                refine ⟨k + 1, cur.take 0 ++ x.device :: cur.drop 0, by omega, by go_num, ?_, INS.out.1, INM.out, by rw [INL.out]; omega, G2.out⟩
                rw [INL.out, INN.out]
                have q := O2.out
                rw [show 0 + (1 + 0) = cur.length + 1 from by omega] at q
                exact q
            · injection ee with e1 e2 e3
              subst e1 e3
              have p1 : (0 : Int) ≤ ((0 : Nat) : Int) := by omega
              have p2 : ((0 : Nat) : Int) ≤ cur.length := by omega
              have p3 : ((0 : Nat) : Int) ≤ cv := by omega
              have p4 : 0 ≤ cv := by omega
              have p5 : 0 ≤ cur.length := by omega
              by_cases hcj : cv = 0
              · have DN : Hid (cur.drop (0) = []) := Lib.hid (List.drop_eq_nil_of_le (by omega))
                have INN : Hid (nums (cur.take 0 ++ x.device :: cur.drop 0) = nums (cur.take 0) ++ ([.int .i64 x.device] ++ nums [])) := Lib.hid (by rw [DN.out]; simp [nums])
                have cl1 : cur.length ≤ 0 := by omega
                go_wp2_with fail
                go_region_law (first
                  | (refine step_append_gets _ rfl _ _ 22 rfl w.heap.size 3 i0 (.int .i64 0) 1 8 Try.underlying22 hi hz0 hz1 hz2 rfl (by decide) (.slice (some ⟨W.heap.size, 0, none⟩) 1 1) 1 [.int .i64 x.device] (by simp [Act.eval, Act.put] <;> omega) (Gr.owns (own_int W x.device w.heap.size _ rfl HG.out.size) (by repeat (first | with_reducible exact Gr.refl _ | with_reducible refine Gr.alloc _ ?_ | with_reducible refine Gr.xt _ _ ?_ | with_reducible refine Gr.drew ?_))) (some ⟨g, 0, none⟩) 0 0 (nums ([])) (by simp [Act.eval, Act.put] <;> omega) (Gets.gr gets_none (by repeat (first | with_reducible exact Gr.refl _ | with_reducible refine Gr.alloc _ ?_ | with_reducible refine Gr.xt _ _ ?_ | with_reducible refine Gr.drew ?_))) (nums_one _) (by unfold maxLen; omega) (by omega) (by have := HG.out.size; simp; omega) ?_; intro v1 w1 hown hgrow hnil; have G1 : Hid (Gr W w1) := Lib.hid (Gr.grown (by repeat (first | with_reducible exact Gr.refl _ | with_reducible refine Gr.alloc _ ?_ | with_reducible refine Gr.xt _ _ ?_ | with_reducible refine Gr.drew ?_)) hgrow (fun k e => by have e2 : some W.heap.size = some k := e; injection e2 with e2; omega)); obtain ⟨a1, c1, rfl, hg1⟩ := gets_own (by decide) hown; have g1 := Lib.hid hg1; clear hown hgrow hnil hg1)
                  | (refine step_append_gets _ rfl _ _ 22 rfl w.heap.size 3 i0 (.int .i64 0) 1 8 Try.underlying22 hi hz0 hz1 hz2 rfl (by decide) (.slice (some ⟨g, 0, none⟩) 0 cv) 0 (nums (cur.take 0)) (by simp [Act.eval, Act.put] <;> omega) (Gr.owns (take_own1 HOW.out 0 (by omega)) G1.out) a1 (1 + 0) c1 ([.int .i64 x.device] ++ nums ([])) (by simp [Act.eval, Act.put] <;> omega) g1.out (by intro u hu; rcases List.mem_append.1 hu with q | q; (rw [List.mem_singleton.1 q]; rfl); exact nums_one _ u q) (by unfold maxLen; omega) (by omega) (by have := HG.out.size; have := G1.out.size; omega) ?_; intro v2 w2 hown2 hgrow2 hnil2; have O2 := Lib.hid hown2; have G2 : Hid (Gr w w2) := Lib.hid (Gr.grown (HG.out.trans G1.out) hgrow2 (fun k e => (owns_block (Gr.owns (take_own1 HOW.out 0 (by omega)) G1.out) k e).1)); clear hown2 hgrow2 hnil2))
                all_goals go_wp2_with fail
                all_goals go_roundw
                all_goals first
                  | (simp [intOf]; omega)
                  | skip
                all_goals
                  refine ⟨k + 1, cur.take 0 ++ x.device :: cur.drop 0, by omega, by go_num, ?_, INS.out.1, INM.out, by rw [INL.out]; omega, G2.out⟩
                  rw [INL.out, INN.out]
                  have q := O2.out
                  rw [show 0 + (1 + 0) = cur.length + 1 from by omega] at q
                  exact q
              · have INN : Hid (nums (cur.take 0 ++ x.device :: cur.drop 0) = nums (cur.take 0) ++ ([.int .i64 x.device] ++ nums (cur.drop 0))) := Lib.hid (by simp [nums])
                go_wp2_with fail
                go_region_law (first
                  | (refine step_append_gets _ rfl _ _ 22 rfl w.heap.size 3 i0 (.int .i64 0) 1 8 Try.underlying22 hi hz0 hz1 hz2 rfl (by decide) (.slice (some ⟨W.heap.size, 0, none⟩) 1 1) 1 [.int .i64 x.device] (by simp [Act.eval, Act.put] <;> omega) (Gr.owns (own_int W x.device w.heap.size _ rfl HG.out.size) (by repeat (first | with_reducible exact Gr.refl _ | with_reducible refine Gr.alloc _ ?_ | with_reducible refine Gr.xt _ _ ?_ | with_reducible refine Gr.drew ?_))) (some ⟨g, 0, none⟩) (cur.length - 0) (cv - 0) (nums (cur.drop 0)) (by simp [Act.eval, Act.put] <;> omega) (Gets.gr (drop_gets HOW.out 0 (by omega)) (by repeat (first | with_reducible exact Gr.refl _ | with_reducible refine Gr.alloc _ ?_ | with_reducible refine Gr.xt _ _ ?_ | with_reducible refine Gr.drew ?_))) (nums_one _) (by unfold maxLen; omega) (by omega) (by have := HG.out.size; simp; omega) ?_; intro v1 w1 hown hgrow hnil; have G1 : Hid (Gr W w1) := Lib.hid (Gr.grown (by repeat (first | with_reducible exact Gr.refl _ | with_reducible refine Gr.alloc _ ?_ | with_reducible refine Gr.xt _ _ ?_ | with_reducible refine Gr.drew ?_)) hgrow (fun k e => by have e2 : some W.heap.size = some k := e; injection e2 with e2; omega)); obtain ⟨a1, c1, rfl, hg1⟩ := gets_own (by decide) hown; have g1 := Lib.hid hg1; clear hown hgrow hnil hg1)
                  | (refine step_append_gets _ rfl _ _ 22 rfl w.heap.size 3 i0 (.int .i64 0) 1 8 Try.underlying22 hi hz0 hz1 hz2 rfl (by decide) (.slice (some ⟨g, 0, none⟩) 0 cv) 0 (nums (cur.take 0)) (by simp [Act.eval, Act.put] <;> omega) (Gr.owns (take_own1 HOW.out 0 (by omega)) G1.out) a1 (1 + (cur.length - 0)) c1 ([.int .i64 x.device] ++ nums (cur.drop 0)) (by simp [Act.eval, Act.put] <;> omega) g1.out (by intro u hu; rcases List.mem_append.1 hu with q | q; (rw [List.mem_singleton.1 q]; rfl); exact nums_one _ u q) (by unfold maxLen; omega) (by omega) (by have := HG.out.size; have := G1.out.size; omega) ?_; intro v2 w2 hown2 hgrow2 hnil2; have O2 := Lib.hid hown2; have G2 : Hid (Gr w w2) := Lib.hid (Gr.grown (HG.out.trans G1.out) hgrow2 (fun k e => (owns_block (Gr.owns (take_own1 HOW.out 0 (by omega)) G1.out) k e).1)); clear hown2 hgrow2 hnil2))
                all_goals go_wp2_with fail
                all_goals go_roundw
                all_goals first
                  | (simp [intOf]; omega)
                  | skip
                all_goals
                  refine ⟨k + 1, cur.take 0 ++ x.device :: cur.drop 0, by omega, by go_num, ?_, INS.out.1, INM.out, by rw [INL.out]; omega, G2.out⟩
                  rw [INL.out, INN.out]
                  have q := O2.out
                  rw [show 0 + (1 + (cur.length - 0)) = cur.length + 1 from by omega] at q
                  exact q


          · obtain ⟨j', rfl⟩ : ∃ j', j = j' + 1 := ⟨j - 1, by omega⟩
            obtain ⟨g, rfl, -, rg⟩ := SI.out.at (by simp [nums]; omega)
            have cj := (rg.gr HI2.out).iat j' (by omega)
            have cjh := has_of_cell cj
            have hjl : j' < cur.length := by omega
            have p0 : (0 : Int) < ((j' + 1 : Nat) : Int) := by omega
            have p1 : ((j' + 1 : Nat) : Int) - 1 = (j' : Int) := by omega
            have p2 : IntKind.i64.wrap (j' : Int) = (j' : Int) := by rw [IntKind.wrap_i64]; omega
            have p3 : (0 : Int) ≤ (j' : Int) := by omega
            have p4 : (j' : Int) < cur.length := by omega
            obtain ⟨y, hy⟩ : ∃ y, Hid (y = cur[j']'hjl) := ⟨_, Lib.hid rfl⟩
            rw [← hy.out] at cj
            clear rg hj0
            by_cases hgt2 : x.device < y
            · have qd : decide (x.device < y) = true := by simpa using hgt2
              have HY2 : Hid (x.device < cur[j']'hjl) := Lib.hid (by rw [← hy.out]; exact hgt2)
              go_wp2_with fail
              refine wp_region_grows (by kernel_rfl) (by kernel_rfl) ?_
              repeat (go_big_quiet_step (fail))
              refine wpQuiet_nil ?_
              rintro _ ⟨⟨OA, dA⟩, rfl⟩
              clear p1 p2
              go_wp2_with fail
              go_roundw
              case rel =>
                refine ⟨j', by go_num, by omega, fun m hm hjm => ?_, HI2.out.trans ((Gr.refl _).xt _ _)⟩
                by_cases e : m = j'
                · subst e; exact HY2.out
                · exact HGT.out m hm (by omega)
              case measure => simp [intOf]
            · have qd : decide (x.device < y) = false := by simpa using hgt2
              go_wp2_with fail
              refine wp_region_grows (by kernel_rfl) (by kernel_rfl) ?_
              repeat (go_big_quiet_step (fail))
              refine wpQuiet_nil ?_
              rintro _ ⟨⟨OA, dA⟩, rfl⟩
              by_cases heq : y = x.device
              · have qe : (y == x.device) = true := by simpa using heq
                have HEQ : Hid (x.device ∈ cur) := Lib.hid (by rw [← heq, hy.out]; exact List.getElem_mem _)
                clear heq hgt2
                go_wp2_with fail
                refine wp_region_growsx (by kernel_rfl) (by kernel_rfl) ?_
                repeat (go_big_quiet_step (fail))
                refine wpQuiet_nil ?_
                rintro _ ⟨⟨OB, dB⟩, rfl⟩
                clear p1 p2
                go_wp2_with fail
                go_roundw
                case rel => exact ⟨k + 1, cur, by omega, by go_num, Gr.owns HO.out (G1'.out.trans (HI2.out.trans ((Gr.refl _).xt _ _))), PW.out, MS.out (.inr HEQ.out), by omega, HG0.out.trans (G1'.out.trans (HI2.out.trans ((Gr.refl _).xt _ _)))⟩
                case measure => simp [intOf]; omega
              · have qe : (y == x.device) = false := by simpa using heq
                have LO : Hid (∀ m (hm : m < cur.length), m < j' + 1 → cur[m] < x.device) := Lib.hid (fun m hm hmj => by
                  have hyd : cur[j']'hjl < x.device := by rw [← hy.out]; omega
                  rcases Nat.lt_or_eq_of_le (Nat.le_of_lt_succ hmj) with q | q
                  · have := (List.pairwise_iff_getElem.1 PW.out) m j' hm (by omega) q
                    omega
                  · subst q; exact hyd)
                clear heq hgt2
                go_wp2_with fail
                refine wp_region_growsx (by kernel_rfl) (by kernel_rfl) ?_
                repeat (go_big_quiet_step (fail))
                refine wpQuiet_nil ?_
                rintro _ ⟨⟨OB, dB⟩, rfl⟩
                clear p1 p2
                obtain ⟨W, hW⟩ : ∃ W : World, Hid (W = xt wr OB dB) := ⟨_, Lib.hid rfl⟩
                have GW : Hid (Gr wr W) := Lib.hid (by rw [hW.out]; exact (Gr.refl _).xt _ _)
                have HG : Hid (Gr w W) := Lib.hid (HG0.out.trans (G1'.out.trans (HI2.out.trans GW.out)))
                have HOW := Lib.hid (Gr.owns HO.out (G1'.out.trans (HI2.out.trans GW.out)))
                replace e0 := cell_gr GW.out e0
                replace eh := has_of_cell e0
                rw [← hW.out]
                clear hW
                have INS := Lib.hid (rising_ins PW.out x.device (j' + 1) (by omega) LO.out (fun m hm hjm => HGT.out m hm (by omega)))
                have INM := Lib.hid (ME.out _ HU.out INS.out.2)
                have INL : Hid ((cur.take (j' + 1) ++ x.device :: cur.drop (j' + 1)).length = cur.length + 1) := Lib.hid (by rw [List.length_append, List.length_cons, List.length_take, List.length_drop]; omega)
                clear cj cjh
                have p1 : (0 : Int) ≤ (((j' + 1) : Nat) : Int) := by omega
                have p2 : (((j' + 1) : Nat) : Int) ≤ cur.length := by omega
                have p3 : (((j' + 1) : Nat) : Int) ≤ cv := by omega
                have p4 : (j' + 1) ≤ cv := by omega
                have p5 : (j' + 1) ≤ cur.length := by omega
                have p6 : (0 : Int) ≤ (j' : Int) + 1 := by omega
                have p7 : (j' : Int) + 1 ≤ cv := by omega
                have p8 : (j' : Int) + 1 ≤ cur.length := by omega
                by_cases hcj : cv = (j' + 1)
                · have DN : Hid (cur.drop ((j' + 1)) = []) := Lib.hid (List.drop_eq_nil_of_le (by omega))
                  have INN : Hid (nums (cur.take (j' + 1) ++ x.device :: cur.drop (j' + 1)) = nums (cur.take (j' + 1)) ++ ([.int .i64 x.device] ++ nums [])) := Lib.hid (by rw [DN.out]; simp [nums])
                  have cl1 : cur.length ≤ (j' + 1) := by omega
                  go_wp2_with fail
                  go_region_law (first
                    | (refine step_append_gets _ rfl _ _ 22 rfl w.heap.size 3 i0 (.int .i64 0) 1 8 Try.underlying22 hi hz0 hz1 hz2 rfl (by decide) (.slice (some ⟨W.heap.size, 0, none⟩) 1 1) 1 [.int .i64 x.device] (by simp [Act.eval, Act.put] <;> omega) (Gr.owns (own_int W x.device w.heap.size _ rfl HG.out.size) (by repeat (first | with_reducible exact Gr.refl _ | with_reducible refine Gr.alloc _ ?_ | with_reducible refine Gr.xt _ _ ?_ | with_reducible refine Gr.drew ?_))) (some ⟨g, 0, none⟩) 0 0 (nums ([])) (by simp [Act.eval, Act.put] <;> omega) (Gets.gr gets_none (by repeat (first | with_reducible exact Gr.refl _ | with_reducible refine Gr.alloc _ ?_ | with_reducible refine Gr.xt _ _ ?_ | with_reducible refine Gr.drew ?_))) (nums_one _) (by unfold maxLen; omega) (by omega) (by have := HG.out.size; simp; omega) ?_; intro v1 w1 hown hgrow hnil; have G1 : Hid (Gr W w1) := Lib.hid (Gr.grown (by repeat (first | with_reducible exact Gr.refl _ | with_reducible refine Gr.alloc _ ?_ | with_reducible refine Gr.xt _ _ ?_ | with_reducible refine Gr.drew ?_)) hgrow (fun k e => by have e2 : some W.heap.size = some k := e; injection e2 with e2; omega)); obtain ⟨a1, c1, rfl, hg1⟩ := gets_own (by decide) hown; have g1 := Lib.hid hg1; clear hown hgrow hnil hg1)
                    | (refine step_append_gets _ rfl _ _ 22 rfl w.heap.size 3 i0 (.int .i64 0) 1 8 Try.underlying22 hi hz0 hz1 hz2 rfl (by decide) (.slice (some ⟨g, 0, none⟩) (j' + 1) cv) (j' + 1) (nums (cur.take (j' + 1))) (by simp [Act.eval, Act.put] <;> omega) (Gr.owns (take_own1 HOW.out (j' + 1) (by omega)) G1.out) a1 (1 + 0) c1 ([.int .i64 x.device] ++ nums ([])) (by simp [Act.eval, Act.put] <;> omega) g1.out (by intro u hu; rcases List.mem_append.1 hu with q | q; (rw [List.mem_singleton.1 q]; rfl); exact nums_one _ u q) (by unfold maxLen; omega) (by omega) (by have := HG.out.size; have := G1.out.size; omega) ?_; intro v2 w2 hown2 hgrow2 hnil2; have O2 := Lib.hid hown2; have G2 : Hid (Gr w w2) := Lib.hid (Gr.grown (HG.out.trans G1.out) hgrow2 (fun k e => (owns_block (Gr.owns (take_own1 HOW.out (j' + 1) (by omega)) G1.out) k e).1)); clear hown2 hgrow2 hnil2))
                  all_goals go_wp2_with fail
                  all_goals go_roundw
                  all_goals first
                    | (simp [intOf]; omega)
                    | skip
                  all_goals
                    refine ⟨k + 1, cur.take (j' + 1) ++ x.device :: cur.drop (j' + 1), by omega, by go_num, ?_, INS.out.1, INM.out, by rw [INL.out]; omega, G2.out⟩
                    rw [INL.out, INN.out]
                    have q := O2.out
                    rw [show (j' + 1) + (1 + 0) = cur.length + 1 from by omega] at q
                    exact q
                · have INN : Hid (nums (cur.take (j' + 1) ++ x.device :: cur.drop (j' + 1)) = nums (cur.take (j' + 1)) ++ ([.int .i64 x.device] ++ nums (cur.drop (j' + 1)))) := Lib.hid (by simp [nums])
                  go_wp2_with fail
                  go_region_law (first
                    | (refine step_append_gets _ rfl _ _ 22 rfl w.heap.size 3 i0 (.int .i64 0) 1 8 Try.underlying22 hi hz0 hz1 hz2 rfl (by decide) (.slice (some ⟨W.heap.size, 0, none⟩) 1 1) 1 [.int .i64 x.device] (by simp [Act.eval, Act.put] <;> omega) (Gr.owns (own_int W x.device w.heap.size _ rfl HG.out.size) (by repeat (first | with_reducible exact Gr.refl _ | with_reducible refine Gr.alloc _ ?_ | with_reducible refine Gr.xt _ _ ?_ | with_reducible refine Gr.drew ?_))) (some ⟨g, (j' + 1), none⟩) (cur.length - (j' + 1)) (cv - (j' + 1)) (nums (cur.drop (j' + 1))) (by simp [Act.eval, Act.put] <;> omega) (Gets.gr (drop_gets HOW.out (j' + 1) (by omega)) (by repeat (first | with_reducible exact Gr.refl _ | with_reducible refine Gr.alloc _ ?_ | with_reducible refine Gr.xt _ _ ?_ | with_reducible refine Gr.drew ?_))) (nums_one _) (by unfold maxLen; omega) (by omega) (by have := HG.out.size; simp; omega) ?_; intro v1 w1 hown hgrow hnil; have G1 : Hid (Gr W w1) := Lib.hid (Gr.grown (by repeat (first | with_reducible exact Gr.refl _ | with_reducible refine Gr.alloc _ ?_ | with_reducible refine Gr.xt _ _ ?_ | with_reducible refine Gr.drew ?_)) hgrow (fun k e => by have e2 : some W.heap.size = some k := e; injection e2 with e2; omega)); obtain ⟨a1, c1, rfl, hg1⟩ := gets_own (by decide) hown; have g1 := Lib.hid hg1; clear hown hgrow hnil hg1)
                    | (refine step_append_gets _ rfl _ _ 22 rfl w.heap.size 3 i0 (.int .i64 0) 1 8 Try.underlying22 hi hz0 hz1 hz2 rfl (by decide) (.slice (some ⟨g, 0, none⟩) (j' + 1) cv) (j' + 1) (nums (cur.take (j' + 1))) (by simp [Act.eval, Act.put] <;> omega) (Gr.owns (take_own1 HOW.out (j' + 1) (by omega)) G1.out) a1 (1 + (cur.length - (j' + 1))) c1 ([.int .i64 x.device] ++ nums (cur.drop (j' + 1))) (by simp [Act.eval, Act.put] <;> omega) g1.out (by intro u hu; rcases List.mem_append.1 hu with q | q; (rw [List.mem_singleton.1 q]; rfl); exact nums_one _ u q) (by unfold maxLen; omega) (by omega) (by have := HG.out.size; have := G1.out.size; omega) ?_; intro v2 w2 hown2 hgrow2 hnil2; have O2 := Lib.hid hown2; have G2 : Hid (Gr w w2) := Lib.hid (Gr.grown (HG.out.trans G1.out) hgrow2 (fun k e => (owns_block (Gr.owns (take_own1 HOW.out (j' + 1) (by omega)) G1.out) k e).1)); clear hown2 hgrow2 hnil2))
                  all_goals go_wp2_with fail
                  all_goals go_roundw
                  all_goals first
                    | (simp [intOf]; omega)
                    | skip
                  all_goals
                    refine ⟨k + 1, cur.take (j' + 1) ++ x.device :: cur.drop (j' + 1), by omega, by go_num, ?_, INS.out.1, INM.out, by rw [INL.out]; omega, G2.out⟩
                    rw [INL.out, INN.out]
                    have q := O2.out
                    rw [show (j' + 1) + (1 + (cur.length - (j' + 1))) = cur.length + 1 from by omega] at q
                    exact q



      · have hub : (x.unit != un) = true := by simpa using hu
        have HU := Lib.hid hu
        clear hu ho
        go_wp2_with fail
        go_roundw
        case rel => exact ⟨k + 1, cur, by omega, by go_num, HO.out.alloc _, PW.out, MS.out (.inl HU.out), by omega, HG0.out.alloc _⟩
        case measure => simp [intOf]; omega
    · have hkn : k = l.length := by omega
      subst hkn
      have EQ : Hid (cur = usersL l un) := Lib.hid (rising_eq PW.out (comp_srt _).1 fun d => by
        rw [MM.out d, List.take_length, users_mem])
      clear ho
      rw [EQ.out] at HO
      go_wp2_with fail
      go_ret
      exact ⟨_, rfl, HO.out, HG0.out⟩
end Go.Proofs.Ythpgoldahffbcaa
