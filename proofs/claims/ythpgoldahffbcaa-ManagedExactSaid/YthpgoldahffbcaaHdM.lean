/- The walk of ManagedReturns. -/
import Derived.Test.YthpgoldahffbcaaHdN
import Derived.Test.YthpgoldahffbcaaHdH
set_option linter.unusedVariables false
set_option linter.unusedSimpArgs false
namespace Go.Proofs.Ythpgoldahffbcaa
open Go.RowKit
theorem filter_wide {l : List Hld} (h : HsWide l) (p : Hld → Bool) : HsWide (l.filter p) := HsWide.of_mem fun x hx => h.mem (List.mem_filter.1 hx).1
theorem reverse_wide {l : List Hld} (h : HsWide l) : HsWide l.reverse := HsWide.of_mem fun x hx => h.mem (List.mem_reverse.1 hx)
theorem same_yes (a : List Hld) (ao bo : Option Addr) (ca cb : Nat) (w : World) (ha : SlOf 3 RHld w ao a) (hb : SlOf 3 RHld w bo a) (fa : Fit a.length) :
    Calls Try.prog 13 #[.slice ao a.length ca, .slice bo a.length cb] w (Grows w (.bool true)) := by
  have := same_any a a ao bo ca cb w ha hb fa fa
  rwa [show decide (a = a) = true by simp] at this
set_option maxRecDepth 100000 in
set_option maxHeartbeats 4000000 in
theorem returns_walk (a : Option Addr) (len cap : Nat) (zs : List Int) (n : Int) (w : World) (h : RowIn w a len cap zs) (h0 : 0 ≤ n) (h1 : n ≤ 255) :
    Calls Try.prog 3 #[.slice a len cap, .int .u8 n] w (Grows w (.bool true)) := by
  have H := Lib.hid h
  clear h
  by_cases hbig : 200 < len
  · have q1 : decide ((200 : Int) < len) = true := by simp; omega
    have q2 : decide (200 < len) = true := by simpa using hbig
    clear hbig
    go_enter Try.func3, Try.ntmps3
    go_wp2_with fail
    refine (sane_any _).mono ?_
    rintro e W3 ⟨rfl, hg3⟩
    have G3 := Lib.hid hg3
    clear hg3
    go_wp2_with fail
    go_ret
    exact ⟨rfl, G3.out⟩
  have q1 : decide ((200 : Int) < len) = false := by simp; omega
  have q2 : decide (200 < len) = false := by simpa using hbig
  clear hbig
  go_enter Try.func3, Try.ntmps3
  go_wp2_with fail
  refine (newTape_any w a len cap zs H.out).mono ?_
  rintro e W0 ⟨b, nn, rfl, ht, hg, hb, _⟩
  have TT : Hid (Tp W0 b nn) := Lib.hid ⟨_, ht⟩
  have G0 := Lib.hid hg
  have HB := Lib.hid hb
  clear ht hg hb
  go_wp2_with fail
  refine (holds_any W0 b nn TT.out).mono ?_
  rintro e W1 ⟨l, v, rfl, ho, hr, hl9, hsm, hm⟩
  have RI' := Lib.hid hr
  have WD := Lib.hid (smalls_wide hsm)
  have G1 : Hid (Gr w W1) := Lib.hid (Mv.out G0.out hm HB.out)
  obtain ⟨al, cl, rfl, hcl, hown⟩ := owns_ownN ho
  have SL := Lib.hid (hown.slH WD.out)
  clear ho hr hsm hm hown G0 HB TT
  go_wp2_with fail
  obtain ⟨dv, hdv⟩ : ∃ dv : Nat, n % 5 = (dv : Int) := ⟨(n % 5).toNat, by omega⟩
  have dv5 : dv < 5 := by omega
  (try rw [hdv])
  clear hdv
  have L1 : l.length ≤ 1000000 := by omega
  have EL := Lib.hid (split_len l dv)
  have EG := Lib.hid (filter_gone l dv)
  have RL := Lib.hid (RI'.out.filter (fun x : Hld => x.device != (dv : Int)))
  have EK := Lib.hid (fun k hk => filter_kept l dv k hk)
  refine (return_any dv l al cl _ SL.out L1).mono ?_
  rintro e W2 ⟨v3, v4, rfl, ho3, ho4, hg2⟩
  obtain ⟨left, hleft⟩ : ∃ left, Hid (left = l.filter (fun x : Hld => x.device != (dv : Int))) := ⟨_, Lib.hid rfl⟩
  obtain ⟨mine, hmine⟩ : ∃ mine, Hid (mine = l.filter (fun x : Hld => x.device == (dv : Int))) := ⟨_, Lib.hid rfl⟩
  rw [← hleft.out] at ho3 EL EG RL EK
  rw [← hmine.out] at ho4 EL
  have WL : Hid (HsWide left) := Lib.hid (by rw [hleft.out]; exact filter_wide WD.out _)
  have WM : Hid (HsWide mine) := Lib.hid (by rw [hmine.out]; exact filter_wide WD.out _)
  have eln : left.length + mine.length = l.length := EL.out
  obtain ⟨a3, c3, rfl, hc3, hown3⟩ := owns_ownN ho3
  obtain ⟨a4, c4, rfl, hc4, hown4⟩ := owns_ownN ho4
  have S3 := Lib.hid (hown3.slH WL.out)
  have S4 := Lib.hid (hown4.slH (reverse_wide WM.out))
  have G2 := Lib.hid (G1.out.trans hg2)
  have SL2 := Lib.hid (hlds_gr SL.out hg2)
  clear ho3 ho4 hown3 hown4 hg2 SL G1 EL
  go_wp2_with fail
  refine (of_any dv l al cl _ SL2.out L1).mono ?_
  rintro e W3 ⟨v5, rfl, ho5, hg3⟩
  rw [← hmine.out] at ho5
  obtain ⟨a5, c5, rfl, hc5, hown5⟩ := owns_ownN ho5
  have S5 := Lib.hid (hown5.slH WM.out)
  have G3 := Lib.hid (G2.out.trans hg3)
  have SL3 := Lib.hid (hlds_gr SL2.out hg3)
  have S33 := Lib.hid (hlds_gr S3.out hg3)
  have S43 := Lib.hid (hlds_gr S4.out hg3)
  clear ho5 hown5 hg3 S3 S4 SL2 G2
  go_wp2_with fail
  refine (valid_any left a3 c3 _ S33.out (by unfold Fit; omega) hc3).mono ?_
  rw [right_iff.2 RL.out]
  rintro e W4 ⟨rfl, hg4⟩
  have G4 := Lib.hid (G3.out.trans hg4)
  have SL4 := Lib.hid (hlds_gr SL3.out hg4)
  have S34 := Lib.hid (hlds_gr S33.out hg4)
  have S44 := Lib.hid (hlds_gr S43.out hg4)
  have S54 := Lib.hid (hlds_gr S5.out hg4)
  clear hg4 SL3 S33 S43 S5 G3
  go_wp2_with fail
  refine (of_any dv left a3 c3 _ S34.out (by omega)).mono ?_
  rw [EG.out]
  rintro e W5 ⟨v6, rfl, ho6, hg5⟩
  obtain ⟨a6, c6, rfl, -, -⟩ := owns_ownN ho6
  have G5 := Lib.hid (G4.out.trans hg5)
  have SL5 := Lib.hid (hlds_gr SL4.out hg5)
  have S35 := Lib.hid (hlds_gr S34.out hg5)
  have S45 := Lib.hid (hlds_gr S44.out hg5)
  have S55 := Lib.hid (hlds_gr S54.out hg5)
  have q3 : (((left.length : Int) + mine.length) != (l.length : Int)) = false := by simp; omega
  have q4 : ((left.length + mine.length) != l.length) = false := by simp; omega
  clear ho6 hg5 SL4 S34 S44 S54 G4
  go_wp2_with fail
  go_loopw [60] (fun i wr => ∃ k : Nat, k ≤ mine.length ∧ i = .int .i64 k ∧ Gr W5 wr) (fun i _ => mine.length - (intOf i).toNat)
  case atStart => exact ⟨0, Nat.zero_le _, rfl, Gr.refl _⟩
  case round =>
    obtain ⟨k, hk, rfl, hg⟩ := hrel
    have HG := Lib.hid hg
    clear hg
    by_cases hlt : k < mine.length
    · obtain ⟨b1, o1, rfl, ⟨c0, -⟩, ⟨c1, -⟩, ⟨c2, -⟩⟩ := (hlds_gr S45.out HG.out) (mine.length - 1 - k) (by rw [List.length_reverse]; omega)
      obtain ⟨b2, o2, rfl, ⟨d0, -⟩, ⟨d1, -⟩, ⟨d2, -⟩⟩ := (hlds_gr S55.out HG.out) k hlt
      rw [reverse_at hlt (by rw [List.length_reverse]; omega)] at c0 c1 c2
      have ch := has_of_cell c0
      have dh := has_of_cell d0
      obtain ⟨j, hj⟩ : ∃ j, Hid (j = mine.length - 1 - k) := ⟨_, Lib.hid rfl⟩
      rw [← hj.out] at c0 c1 c2
      have i1 : (mine.length : Int) - 1 - k = (j : Int) := by have := hj.out; omega
      have i2 : (0 : Int) ≤ (j : Int) := by omega
      have i3 : (j : Int) < mine.length := by have := hj.out; omega
      have i4 : (0 : Int) ≤ (k : Int) := by omega
      have i5 : (k : Int) < mine.length := by omega
      have i6 : IntKind.i64.wrap ((mine.length : Int) - 1) = (mine.length : Int) - 1 := by rw [IntKind.wrap_i64]; omega
      have i7 : IntKind.i64.wrap (j : Int) = (j : Int) := by rw [IntKind.wrap_i64]; omega
      have hn := neq_hold mine[k].device mine[k].kind mine[k].unit mine[k].device mine[k].kind mine[k].unit
      simp only [BEq.rfl, Bool.and_self, Bool.not_true] at hn
      go_wp2_with fail
      refine wp_region_grows (by kernel_rfl) (by kernel_rfl) ?_
      repeat (go_big_quiet_step (fail))
      refine wpQuiet_nil ?_
      rintro _ ⟨⟨O5, d5⟩, rfl⟩
      clear i1 i6 i7
      go_wp2_with fail
      go_roundw
      case rel => exact ⟨k + 1, by omega, by go_num, HG.out.trans (by repeat (first | with_reducible exact Gr.refl _ | with_reducible refine Gr.alloc _ ?_ | with_reducible refine Gr.xt _ _ ?_ | with_reducible refine Gr.drew ?_))⟩
      case measure => simp [intOf]; omega
    · obtain ⟨W6, rfl⟩ : ∃ W6 : World, W6 = wr := ⟨_, rfl⟩
      have G6 := Lib.hid (G5.out.trans HG.out)
      have SL6 := Lib.hid (hlds_gr SL5.out HG.out)
      have S36 := Lib.hid (hlds_gr S35.out HG.out)
      clear HG S45 S55 SL5 S35 G5
      go_wp2_with fail
      go_loopw [11] (fun i wr => ∃ k : Nat, k ≤ 5 ∧ i = .int .i64 k ∧ Gr W6 wr) (fun i _ => 5 - (intOf i).toNat)
      case atStart => exact ⟨0, Nat.zero_le _, rfl, Gr.refl _⟩
      case round =>
        obtain ⟨k, hk, rfl, hg⟩ := hrel
        have HG := Lib.hid hg
        clear hg
        by_cases hlt5 : k < 5
        · have k5 : (k : Int) < 5 := by omega
          by_cases hkd : k = dv
          · subst hkd
            go_wp2_with fail
            go_roundw
            case rel => exact ⟨k + 1, by omega, by go_num, HG.out⟩
            case measure => simp [intOf]; omega
          · have q5 : ((k : Int) != (dv : Int)) = true := by simp; omega
            have q6 : (k != dv) = true := by simpa using hkd
            have EKk := Lib.hid (EK.out k (by omega))
            clear hkd
            go_wp2_with fail
            refine (of_any k left a3 c3 _ (hlds_gr S36.out HG.out) (by omega)).mono ?_
            rw [EKk.out]
            rintro e W7 ⟨v7, rfl, ho7, hg7⟩
            obtain ⟨xs, hxs⟩ : ∃ xs, Hid (xs = l.filter (fun x : Hld => x.device == (k : Int))) := ⟨_, Lib.hid rfl⟩
            have XW : Hid (HsWide xs) := Lib.hid (by rw [hxs.out]; exact filter_wide WD.out _)
            have XL : xs.length ≤ 9 := by rw [hxs.out]; exact Nat.le_trans (List.length_filter_le _ _) hl9
            rw [← hxs.out] at ho7
            obtain ⟨a7, c7, rfl, -, hown7⟩ := owns_ownN ho7
            have S7 := Lib.hid (hown7.slH XW.out)
            have G7 := Lib.hid (HG.out.trans hg7)
            clear ho7 hg7 hown7
            go_wp2_with fail
            refine (of_any k l al cl _ (hlds_gr SL6.out G7.out) L1).mono ?_
            rw [← hxs.out]
            rintro e W8 ⟨v8, rfl, ho8, hg8⟩
            obtain ⟨a8, c8, rfl, -, hown8⟩ := owns_ownN ho8
            have S8 := Lib.hid (hown8.slH XW.out)
            have S78 := Lib.hid (hlds_gr S7.out hg8)
            have G8 := Lib.hid (G7.out.trans hg8)
            clear ho8 hg8 hown8
            go_wp2_with fail
            refine (same_yes xs a7 a8 c7 c8 _ S78.out S8.out (by unfold Fit; omega)).mono ?_
            rintro e W9 ⟨rfl, hg9⟩
            have G9 := Lib.hid (G8.out.trans hg9)
            clear hg9
            go_wp2_with fail
            go_roundw
            case rel => exact ⟨k + 1, by omega, by go_num, G9.out⟩
            case measure => simp [intOf]; omega
        · obtain rfl : k = 5 := by omega
          go_wp2_with fail
          refine (sane_any _).mono ?_
          rintro e W9 ⟨rfl, hg9⟩
          have G9 := Lib.hid (HG.out.trans hg9)
          clear hg9
          go_wp2_with fail
          go_ret
          exact ⟨rfl, G6.out.trans G9.out⟩
end Go.Proofs.Ythpgoldahffbcaa
