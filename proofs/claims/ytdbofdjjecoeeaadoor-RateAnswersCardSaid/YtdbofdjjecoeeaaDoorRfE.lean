/- The reference's Read: what it returns for every text (printed by wip/tools/rfe.py). -/
import Derived.Test.YtdbofdjjecoeeaaDoorScan
import Derived.Test.YtdbofdjjecoeeaaDoorRfC
import Derived.Test.YtdbofdjjecoeeaaDoorRead
import Derived.LaidEqlPtr
set_option linter.unusedVariables false
set_option linter.unusedSimpArgs false
namespace Go.Proofs.YtdbofdjjecoeeaaDoor
open Go.RowKit

/-- A rate of the call's own. -/
def Rt (w : World) (b : Nat) (n d : Int) : Prop := Row w b 27 [.int .i64 n, .int .i64 d]
theorem Rt.xt {w : World} {b : Nat} {n d : Int} (h : Rt w b n d) (O : Array Obj) (D : Nat) : Rt (xt w O D) b n d := Row.xt O D h
theorem Rt.gr {w w' : World} {b : Nat} {n d : Int} (h : Rt w b n d) (hg : Gr w w') : Rt w' b n d := Row.gr h hg
theorem Rt.other {w : World} {b B o : Nat} {n d : Int} {v : Value} (h : Rt w b n d) (hb : B ≠ b) : Rt (w.setCell ⟨B, o, none⟩ v) b n d := Row.oth h hb
theorem Rt.set0 {w : World} {b : Nat} {n d : Int} (h : Rt w b n d) (x : Int) : Rt (w.setCell ⟨b, 0, none⟩ (.int .i64 x)) b x d := Row.set h 0 _
theorem Rt.set1 {w : World} {b : Nat} {n d : Int} (h : Rt w b n d) (x : Int) : Rt (w.setCell ⟨b, 1, none⟩ (.int .i64 x)) b n x := Row.set h 1 _
theorem Rt.all {w : World} {b : Nat} {n d : Int} (h : Rt w b n d) : w.cell? ⟨b, 0, none⟩ = some (.int .i64 n) ∧ w.cell? ⟨b, 1, none⟩ = some (.int .i64 d) ∧ w.frozen? ⟨b, 0, none⟩ = false ∧ w.frozen? ⟨b, 1, none⟩ = false :=
  ⟨Row.cell h 0 (by simp), Row.cell h 1 (by simp), Row.free h 0, Row.free h 1⟩
theorem infoInt : ∃ j, Tryd.prog.info? 3 = some j ∧ j.size ≠ 0 := by
  have h : (Tryd.prog.info? 3).map (·.size) = some 1 := by kernel_rfl
  obtain ⟨j, h1, h2⟩ := Option.map_eq_some_iff.1 h
  exact ⟨j, h1, by omega⟩
theorem ptr_same (w : World) (a : Addr) : (binOp .eql 66 (.pointer (some a)) (.pointer (some a))).run Tryd.prog w = .ok (.bool true) w := by
  obtain ⟨j, hj, -⟩ := infoInt
  exact run_eql_ptr_same w a Tryd.underlying66 hj
theorem ptr_other {w : World} {b : Nat} {n d : Int} (h : Rt w b n d) : (binOp .eql 66 (.pointer (some ⟨b, 1, none⟩)) (.pointer (some ⟨b, 0, none⟩))).run Tryd.prog w = .ok (.bool false) w := by
  obtain ⟨j, hj, hs⟩ := infoInt
  exact run_eql_ptr_other w Tryd.underlying66 hj hs (by simp) h h
set_option maxRecDepth 100000 in
set_option maxHeartbeats 4000000 in
theorem refRead_any (l : List UInt8) (w : World) (hl : l.length ≤ 1000) :
    Calls Tryd.prog 28 #[.string ⟨l.toArray⟩] w (ReadR l w) := by
  go_enter Tryd.func28, Tryd.ntmps28
  go_wp2_with fail
  go_loopw [5, 6] (fun p i wr => ∃ (k : Nat) (num den : Int) (wh : Bool), k ≤ l.length ∧ i = .int .i64 k ∧ p = .pointer (some ⟨w.heap.size + 1, if wh = true then 1 else 0, none⟩) ∧ Hid (scanL (l.take k) = some (num, den, wh)) ∧ 0 ≤ num ∧ num ≤ 1441151880758558729 ∧ 0 ≤ den ∧ den ≤ 1441151880758558729 ∧ Hid (Gr w wr) ∧ Hid (Rt wr w.heap.size 0 0) ∧ Hid (Rt wr (w.heap.size + 1) num den)) (fun _ i _ => l.length - (intOf i).toNat)
  case atStart =>
    refine ⟨0, 0, 1, false, Nat.zero_le _, rfl, rfl, Lib.hid rfl, by omega, by omega, by omega, by omega, Lib.hid ?_, Lib.hid ?_, Lib.hid ?_⟩
    · exact ((Gr.refl w).alloc _).alloc _
    · exact Row.alloc _ (Row.new w _ _)
    · have q := Row.new (w.alloc (.cells #[.int .i64 0, .int .i64 0] 27)) #[.int .i64 0, .int .i64 1] 27
      rw [World.size_alloc] at q
      exact q
  case round =>
    obtain ⟨k, num, den, wh, hk, rfl, rfl, hs, n0, n1, d0, d1, hg, r0, r1⟩ := hrel
    obtain ⟨c00, c01, c02, c03⟩ := r0.out.all
    obtain ⟨c10, c11, c12, c13⟩ := r1.out.all
    have z0 := setCell_id c00
    have z1 := setCell_id c01
    have pp := ptr_same wr ⟨w.heap.size + 1, 0, none⟩
    have po := ptr_other r1.out
    have e0 := has_of_cell c00
    have e1 := has_of_cell c10
    by_cases hlt : k < l.length
    · have h1 : (k : Int) < l.length := by omega
      obtain ⟨cb, hc⟩ : ∃ cb, l[k] = cb := ⟨_, rfl⟩
      have hcb : (ByteArray.mk l.toArray)[k]'(by show k < l.toArray.size; simpa using hlt) = cb := hc
      have cb1 : cb.toNat < 256 := UInt8.toNat_lt cb
      cases wh
      · by_cases h47 : cb.toNat = 47
        · have hst : Hid (scanL (l.take (k + 1)) = some (num, 0, true)) := Lib.hid (by
            rw [scan_snoc l k hlt, hs.out, hc]
            simp [stp, h47])
          have q1 : ((cb.toNat : Int) == 47) = true := by simp; omega
          go_wp2_with fail
          go_roundw
          case rel =>
            refine ⟨k + 1, num, 0, true, by omega, by go_num, rfl, hst, by omega, by omega, by omega, by omega, Lib.hid ?_, Lib.hid ?_, Lib.hid ?_⟩
            · exact hg.out.setCell (a := ⟨w.heap.size + 1, 1, none⟩) (Nat.le_succ _) _
            · exact r0.out.other (by omega)
            · exact r1.out.set1 0
          case measure => simp [intOf]; omega
        · by_cases hd : 48 ≤ cb.toNat ∧ cb.toNat ≤ 57 ∧ num ≤ 144115188075855872
          · have hst : Hid (scanL (l.take (k + 1)) = some (num * 10 + ((cb.toNat : Int) - 48), den, false)) := Lib.hid (by
              rw [scan_snoc l k hlt, hs.out, hc]
              simp only [Option.bind_some, stp]
              rw [if_neg (by omega), if_pos (by simp; omega)]
              simp)
            have q1 : decide ((48 : Int) ≤ cb.toNat) = true := by simp; omega
            have q2 : decide ((cb.toNat : Int) ≤ 57) = true := by simp; omega
            have q3 : decide (num ≤ 144115188075855872) = true := by simp; omega
            have q4 : ((cb.toNat : Int) == 47) = false := by rw [beq_eq_false_iff_ne]; omega
            go_wp2_with fail
            refine wp_region_grows_tail 12 (by kernel_rfl) (by kernel_rfl) ?_
            simp only [List.take_succ_cons, List.take_zero, List.drop_succ_cons, List.drop_zero]
            repeat (go_big_quiet_step (fail))
            refine wpQuiet_nil ?_
            rintro _ ⟨⟨O5, D5⟩, rfl⟩
            go_wp2_with fail
            go_roundw
            case rel =>
              refine ⟨k + 1, _, _, false, by omega, by go_num, rfl, hst, by omega, by omega, by omega, by omega, Lib.hid ?_, Lib.hid ?_, Lib.hid ?_⟩
              · exact Gr.xt _ _ (hg.out.setCell (a := ⟨w.heap.size + 1, 0, none⟩) (Nat.le_succ _) _)
              · exact (r0.out.other (by omega)).xt _ _
              · exact (r1.out.set0 _).xt _ _
            case measure => simp [intOf]; omega
          · have HN : Hid (∀ n d, validB n d = true → fmtL n d ≠ l) := Lib.hid fun n d hv he => by
              obtain ⟨wh', hsc⟩ := scan_fmt n d hv
              rw [he] at hsc
              have hno : scanL (l.take (k + 1)) = none := by
                rw [scan_snoc l k hlt, hs.out, hc]
                simp only [Option.bind_some, stp]
                rw [if_neg (by omega), if_neg (by simp; omega)]
              rw [scan_take l _ hno] at hsc
              cases hsc
            have q4 : ((cb.toNat : Int) == 47) = false := by rw [beq_eq_false_iff_ne]; omega
            have hbad : cb.toNat < 48 ∨ (48 ≤ cb.toNat ∧ 57 < cb.toNat) ∨ (48 ≤ cb.toNat ∧ cb.toNat ≤ 57 ∧ 144115188075855872 < num) := by omega
            clear hd
            rcases hbad with b1 | ⟨b1, b2⟩ | ⟨b1, b2, b3⟩
            · have q1 : decide ((48 : Int) ≤ cb.toNat) = false := by simp; omega
              go_wp2_with fail
              refine bodyPost_ret (v := .tuple #[.agg #[.int .i64 0, .int .i64 0], .int .i64 6]) ?_ rfl ?_
              · simp [results, Tryd.results28, go_sem, c00, c01, e0]
              · exact ⟨0, 0, 6, rfl, .inr ⟨HN.out, rfl, rfl, rfl⟩, by repeat (first | with_reducible exact hg.out | with_reducible refine Gr.setCell (Nat.le_refl _) _ ?_ | with_reducible refine Gr.xt _ _ ?_ | with_reducible refine Gr.alloc _ ?_ | with_reducible refine Gr.drewN _ ?_)⟩
            · have q1 : decide ((48 : Int) ≤ cb.toNat) = true := by simp; omega
              have q2 : decide ((cb.toNat : Int) ≤ 57) = false := by simp; omega
              go_wp2_with fail
              refine bodyPost_ret (v := .tuple #[.agg #[.int .i64 0, .int .i64 0], .int .i64 6]) ?_ rfl ?_
              · simp [results, Tryd.results28, go_sem, c00, c01, e0]
              · exact ⟨0, 0, 6, rfl, .inr ⟨HN.out, rfl, rfl, rfl⟩, by repeat (first | with_reducible exact hg.out | with_reducible refine Gr.setCell (Nat.le_refl _) _ ?_ | with_reducible refine Gr.xt _ _ ?_ | with_reducible refine Gr.alloc _ ?_ | with_reducible refine Gr.drewN _ ?_)⟩
            · have q1 : decide ((48 : Int) ≤ cb.toNat) = true := by simp; omega
              have q2 : decide ((cb.toNat : Int) ≤ 57) = true := by simp; omega
              have q3 : decide (num ≤ 144115188075855872) = false := by simp; omega
              go_wp2_with fail
              refine bodyPost_ret (v := .tuple #[.agg #[.int .i64 0, .int .i64 0], .int .i64 6]) ?_ rfl ?_
              · simp [results, Tryd.results28, go_sem, c00, c01, e0]
              · exact ⟨0, 0, 6, rfl, .inr ⟨HN.out, rfl, rfl, rfl⟩, by repeat (first | with_reducible exact hg.out | with_reducible refine Gr.setCell (Nat.le_refl _) _ ?_ | with_reducible refine Gr.xt _ _ ?_ | with_reducible refine Gr.alloc _ ?_ | with_reducible refine Gr.drewN _ ?_)⟩
      · by_cases hd : 48 ≤ cb.toNat ∧ cb.toNat ≤ 57 ∧ den ≤ 144115188075855872
        · have hst : Hid (scanL (l.take (k + 1)) = some (num, den * 10 + ((cb.toNat : Int) - 48), true)) := Lib.hid (by
            rw [scan_snoc l k hlt, hs.out, hc]
            simp only [Option.bind_some, stp]
            rw [if_neg (by simp), if_pos (by simp; omega)]
            simp)
          have q1 : decide ((48 : Int) ≤ cb.toNat) = true := by simp; omega
          have q2 : decide ((cb.toNat : Int) ≤ 57) = true := by simp; omega
          have q3 : decide (den ≤ 144115188075855872) = true := by simp; omega
          have q4 : ((cb.toNat : Int) == 47) = false := by rw [beq_eq_false_iff_ne]; omega
          go_wp2_with fail
          refine wp_region_grows_tail 12 (by kernel_rfl) (by kernel_rfl) ?_
          simp only [List.take_succ_cons, List.take_zero, List.drop_succ_cons, List.drop_zero]
          repeat (go_big_quiet_step (fail))
          refine wpQuiet_nil ?_
          rintro _ ⟨⟨O5, D5⟩, rfl⟩
          go_wp2_with fail
          go_roundw
          case rel =>
            refine ⟨k + 1, _, _, true, by omega, by go_num, rfl, hst, by omega, by omega, by omega, by omega, Lib.hid ?_, Lib.hid ?_, Lib.hid ?_⟩
            · exact Gr.xt _ _ (hg.out.setCell (a := ⟨w.heap.size + 1, 1, none⟩) (Nat.le_succ _) _)
            · exact (r0.out.other (by omega)).xt _ _
            · exact (r1.out.set1 _).xt _ _
          case measure => simp [intOf]; omega
        · have HN : Hid (∀ n d, validB n d = true → fmtL n d ≠ l) := Lib.hid fun n d hv he => by
            obtain ⟨wh', hsc⟩ := scan_fmt n d hv
            rw [he] at hsc
            have hno : scanL (l.take (k + 1)) = none := by
              rw [scan_snoc l k hlt, hs.out, hc]
              simp only [Option.bind_some, stp]
              rw [if_neg (by simp), if_neg (by simp; omega)]
            rw [scan_take l _ hno] at hsc
            cases hsc
          have hbad : cb.toNat < 48 ∨ (48 ≤ cb.toNat ∧ 57 < cb.toNat) ∨ (48 ≤ cb.toNat ∧ cb.toNat ≤ 57 ∧ 144115188075855872 < den) := by omega
          clear hd
          rcases hbad with b1 | ⟨b1, b2⟩ | ⟨b1, b2, b3⟩
          · have q1 : decide ((48 : Int) ≤ cb.toNat) = false := by simp; omega
            by_cases h47 : cb.toNat = 47
            · have q4 : ((cb.toNat : Int) == 47) = true := by simp; omega
              go_wp2_with fail
              refine bodyPost_ret (v := .tuple #[.agg #[.int .i64 0, .int .i64 0], .int .i64 6]) ?_ rfl ?_
              · simp [results, Tryd.results28, go_sem, c00, c01, e0]
              · exact ⟨0, 0, 6, rfl, .inr ⟨HN.out, rfl, rfl, rfl⟩, by repeat (first | with_reducible exact hg.out | with_reducible refine Gr.setCell (Nat.le_refl _) _ ?_ | with_reducible refine Gr.xt _ _ ?_ | with_reducible refine Gr.alloc _ ?_ | with_reducible refine Gr.drewN _ ?_)⟩
            · have q4 : ((cb.toNat : Int) == 47) = false := by rw [beq_eq_false_iff_ne]; omega
              go_wp2_with fail
              refine bodyPost_ret (v := .tuple #[.agg #[.int .i64 0, .int .i64 0], .int .i64 6]) ?_ rfl ?_
              · simp [results, Tryd.results28, go_sem, c00, c01, e0]
              · exact ⟨0, 0, 6, rfl, .inr ⟨HN.out, rfl, rfl, rfl⟩, by repeat (first | with_reducible exact hg.out | with_reducible refine Gr.setCell (Nat.le_refl _) _ ?_ | with_reducible refine Gr.xt _ _ ?_ | with_reducible refine Gr.alloc _ ?_ | with_reducible refine Gr.drewN _ ?_)⟩
          · have q1 : decide ((48 : Int) ≤ cb.toNat) = true := by simp; omega
            have q2 : decide ((cb.toNat : Int) ≤ 57) = false := by simp; omega
            have q4 : ((cb.toNat : Int) == 47) = false := by rw [beq_eq_false_iff_ne]; omega
            go_wp2_with fail
            refine bodyPost_ret (v := .tuple #[.agg #[.int .i64 0, .int .i64 0], .int .i64 6]) ?_ rfl ?_
            · simp [results, Tryd.results28, go_sem, c00, c01, e0]
            · exact ⟨0, 0, 6, rfl, .inr ⟨HN.out, rfl, rfl, rfl⟩, by repeat (first | with_reducible exact hg.out | with_reducible refine Gr.setCell (Nat.le_refl _) _ ?_ | with_reducible refine Gr.xt _ _ ?_ | with_reducible refine Gr.alloc _ ?_ | with_reducible refine Gr.drewN _ ?_)⟩
          · have q1 : decide ((48 : Int) ≤ cb.toNat) = true := by simp; omega
            have q2 : decide ((cb.toNat : Int) ≤ 57) = true := by simp; omega
            have q3 : decide (den ≤ 144115188075855872) = false := by simp; omega
            have q4 : ((cb.toNat : Int) == 47) = false := by rw [beq_eq_false_iff_ne]; omega
            go_wp2_with fail
            refine bodyPost_ret (v := .tuple #[.agg #[.int .i64 0, .int .i64 0], .int .i64 6]) ?_ rfl ?_
            · simp [results, Tryd.results28, go_sem, c00, c01, e0]
            · exact ⟨0, 0, 6, rfl, .inr ⟨HN.out, rfl, rfl, rfl⟩, by repeat (first | with_reducible exact hg.out | with_reducible refine Gr.setCell (Nat.le_refl _) _ ?_ | with_reducible refine Gr.xt _ _ ?_ | with_reducible refine Gr.alloc _ ?_ | with_reducible refine Gr.drewN _ ?_)⟩
    · obtain rfl : k = l.length := by omega
      rw [List.take_length] at hs
      cases wh
      · have hnl : decide ((l.length : Int) < l.length) = false := by simp
        go_wp2_with fail
        clear z0 z1 pp po hnl
        refine (ref_valid_any num den _ (by omega) (by omega) (by omega) (by omega)).mono ?_
        by_cases hv : validB num den = true
        · rw [hv]
          rintro e w' ⟨rfl, O3, D3, rfl⟩
          go_wp2_with fail
          refine (refFormat_any num den _ (by omega) (by omega) (by omega) (by omega)).mono ?_
          rintro e w' ⟨rfl, O4, D4, rfl⟩
          obtain ⟨f0, f1, f2, f3⟩ := ((r0.out.set0 num).set1 den).all
          have z0 := setCell_id c00
          have z1 := setCell_id c01
          go_wp2_with fail
          · rename_i hf
            have HN : Hid (∀ n d, validB n d = true → fmtL n d ≠ l) := Lib.hid fun n d hv' he => by
              obtain ⟨wh', hsc⟩ := scan_fmt n d hv'
              rw [he, hs.out] at hsc
              simp only [Option.some.injEq, Prod.mk.injEq] at hsc
              obtain ⟨rfl, rfl, -⟩ := hsc
              rw [he] at hf
              simp at hf
            refine bodyPost_ret (v := .tuple #[.agg #[.int .i64 0, .int .i64 0], .int .i64 6]) ?_ rfl ?_
            · simp [results, Tryd.results28, go_sem, c00, c01, e0]
            · exact ⟨0, 0, 6, rfl, .inr ⟨HN.out, rfl, rfl, rfl⟩, by repeat (first | with_reducible exact hg.out | with_reducible refine Gr.setCell (Nat.le_refl _) _ ?_ | with_reducible refine Gr.xt _ _ ?_ | with_reducible refine Gr.alloc _ ?_ | with_reducible refine Gr.drewN _ ?_)⟩
          · rename_i hf
            refine bodyPost_ret (v := .tuple #[.agg #[.int .i64 num, .int .i64 den], .int .i64 0]) ?_ rfl ?_
            · simp [results, Tryd.results28, go_sem, f0, f1, e0]
            · refine ⟨num, den, 0, rfl, .inl ⟨hv, by simpa using hf, rfl⟩, ?_⟩
              repeat (first | with_reducible exact hg.out | with_reducible refine Gr.setCell (Nat.le_refl _) _ ?_ | with_reducible refine Gr.xt _ _ ?_ | with_reducible refine Gr.alloc _ ?_ | with_reducible refine Gr.drewN _ ?_)
        · have hv' : validB num den = false := by simpa using hv
          rw [hv']
          rintro e w' ⟨rfl, O3, D3, rfl⟩
          have z0 := setCell_id c00
          have z1 := setCell_id c01
          have HN : Hid (∀ n d, validB n d = true → fmtL n d ≠ l) := Lib.hid fun n d hv2 he => by
            obtain ⟨wh', hsc⟩ := scan_fmt n d hv2
            rw [he, hs.out] at hsc
            simp only [Option.some.injEq, Prod.mk.injEq] at hsc
            obtain ⟨rfl, rfl, -⟩ := hsc
            exact hv hv2
          go_wp2_with fail
          refine bodyPost_ret (v := .tuple #[.agg #[.int .i64 0, .int .i64 0], .int .i64 6]) ?_ rfl ?_
          · simp [results, Tryd.results28, go_sem, c00, c01, e0]
          · exact ⟨0, 0, 6, rfl, .inr ⟨HN.out, rfl, rfl, rfl⟩, by repeat (first | with_reducible exact hg.out | with_reducible refine Gr.setCell (Nat.le_refl _) _ ?_ | with_reducible refine Gr.xt _ _ ?_ | with_reducible refine Gr.alloc _ ?_ | with_reducible refine Gr.drewN _ ?_)⟩
      · have hnl : decide ((l.length : Int) < l.length) = false := by simp
        go_wp2_with fail
        clear z0 z1 pp po hnl
        refine (ref_valid_any num den _ (by omega) (by omega) (by omega) (by omega)).mono ?_
        by_cases hv : validB num den = true
        · rw [hv]
          rintro e w' ⟨rfl, O3, D3, rfl⟩
          go_wp2_with fail
          refine (refFormat_any num den _ (by omega) (by omega) (by omega) (by omega)).mono ?_
          rintro e w' ⟨rfl, O4, D4, rfl⟩
          obtain ⟨f0, f1, f2, f3⟩ := ((r0.out.set0 num).set1 den).all
          have z0 := setCell_id c00
          have z1 := setCell_id c01
          go_wp2_with fail
          · rename_i hf
            have HN : Hid (∀ n d, validB n d = true → fmtL n d ≠ l) := Lib.hid fun n d hv' he => by
              obtain ⟨wh', hsc⟩ := scan_fmt n d hv'
              rw [he, hs.out] at hsc
              simp only [Option.some.injEq, Prod.mk.injEq] at hsc
              obtain ⟨rfl, rfl, -⟩ := hsc
              rw [he] at hf
              simp at hf
            refine bodyPost_ret (v := .tuple #[.agg #[.int .i64 0, .int .i64 0], .int .i64 6]) ?_ rfl ?_
            · simp [results, Tryd.results28, go_sem, c00, c01, e0]
            · exact ⟨0, 0, 6, rfl, .inr ⟨HN.out, rfl, rfl, rfl⟩, by repeat (first | with_reducible exact hg.out | with_reducible refine Gr.setCell (Nat.le_refl _) _ ?_ | with_reducible refine Gr.xt _ _ ?_ | with_reducible refine Gr.alloc _ ?_ | with_reducible refine Gr.drewN _ ?_)⟩
          · rename_i hf
            refine bodyPost_ret (v := .tuple #[.agg #[.int .i64 num, .int .i64 den], .int .i64 0]) ?_ rfl ?_
            · simp [results, Tryd.results28, go_sem, f0, f1, e0]
            · refine ⟨num, den, 0, rfl, .inl ⟨hv, by simpa using hf, rfl⟩, ?_⟩
              repeat (first | with_reducible exact hg.out | with_reducible refine Gr.setCell (Nat.le_refl _) _ ?_ | with_reducible refine Gr.xt _ _ ?_ | with_reducible refine Gr.alloc _ ?_ | with_reducible refine Gr.drewN _ ?_)
        · have hv' : validB num den = false := by simpa using hv
          rw [hv']
          rintro e w' ⟨rfl, O3, D3, rfl⟩
          have z0 := setCell_id c00
          have z1 := setCell_id c01
          have HN : Hid (∀ n d, validB n d = true → fmtL n d ≠ l) := Lib.hid fun n d hv2 he => by
            obtain ⟨wh', hsc⟩ := scan_fmt n d hv2
            rw [he, hs.out] at hsc
            simp only [Option.some.injEq, Prod.mk.injEq] at hsc
            obtain ⟨rfl, rfl, -⟩ := hsc
            exact hv hv2
          go_wp2_with fail
          refine bodyPost_ret (v := .tuple #[.agg #[.int .i64 0, .int .i64 0], .int .i64 6]) ?_ rfl ?_
          · simp [results, Tryd.results28, go_sem, c00, c01, e0]
          · exact ⟨0, 0, 6, rfl, .inr ⟨HN.out, rfl, rfl, rfl⟩, by repeat (first | with_reducible exact hg.out | with_reducible refine Gr.setCell (Nat.le_refl _) _ ?_ | with_reducible refine Gr.xt _ _ ?_ | with_reducible refine Gr.alloc _ ?_ | with_reducible refine Gr.drewN _ ?_)⟩
end Go.Proofs.YtdbofdjjecoeeaaDoor
