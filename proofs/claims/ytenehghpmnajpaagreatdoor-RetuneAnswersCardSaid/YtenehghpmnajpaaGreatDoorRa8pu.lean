/- Lemmas and contracts for the proof of RetuneAnswers (several texts in one, printed by wip/tools/pack.py): BsB OpC OpS ApG RaE StN. -/
import Derived.Test.YtenehghpmnajpaaGreatDoorRa8pt
import Derived.Test.YtenehghpmnajpaaGreatDoorRa8pp
import Derived.Deep.Slices
import Derived.Deep.Strs
import Derived.WalkKit
import Derived.ProofKit
import Derived.SizedLaws
import Derived.Test.YtenehghpmnajpaaGreatDoorRa8pq
import Derived.Test.YtenehghpmnajpaaGreatDoorRa8pm
set_option maxRecDepth 100000
set_option maxHeartbeats 16000000
set_option linter.unusedVariables false
set_option linter.unusedSimpArgs false
namespace Go.Proofs.YtenehghpmnajpaaGreatDoor
open Go.RowKit
open Classical
theorem encS_one (ts : List ST) : ∀ u ∈ ts.map encS, u.oneCell' = true := by
  intro u hu
  obtain ⟨t, _, rfl⟩ := List.mem_map.1 hu
  rfl
theorem gets_intsH {lo : Nat} {w : World} {a : Option Addr} {xs : List Int} (h : SlOf 1 (HiR lo RI) w a xs) : Gets w a xs.length 1 (nums xs) := gets_slI h.lo
theorem slIH_wide {w : World} {lo : Nat} {a : Option Addr} {xs : List Int} (h : SlOf 1 (HiR lo RI) w a xs) : ∀ k (hk : k < xs.length), Wide xs[k] := fun k hk => by
  obtain ⟨b, o, _, _, _, hw⟩ := h k hk
  exact hw
theorem owns_slIH {w : World} {lo base n : Nat} {v : Value} {xs : List Int} (hlo : lo ≤ base) (h : w.ownsRow base 3 1 v n (nums xs)) (hn : n = xs.length) (hw : ∀ k (hk : k < xs.length), Wide xs[k]) : ∃ a c, v = .slice a n c ∧ SlOf 1 (HiR lo RI) w a xs := by
  subst hn
  rcases Nat.eq_zero_or_pos xs.length with e | e
  · have : xs = [] := List.eq_nil_of_length_eq_zero e
    subst this
    obtain ⟨a, c, e⟩ := owns_slice h
    exact ⟨a, c, e, SlOf.nil _ _ _ _⟩
  · obtain ⟨g, cap, e1, h1, hb, hc⟩ := owns_cell h e
    refine ⟨_, cap, e1, fun k hk => ⟨g, 0, rfl, by omega, ?_, hw k hk⟩⟩
    rw [Nat.zero_add, Nat.mul_one, hc k (by omega)]
    simp [nums, hk]
theorem lit_sets (W : World) : SlOf 1 RSet (((W.alloc (.cells #[.int .i64 0] 3)).alloc (.cells #[.int .i64 0, .int .i64 0] 3)).alloc (.cells #[.slice (some ⟨W.heap.size, 0, none⟩) 1 1, .slice (some ⟨W.heap.size + 1, 0, none⟩) 2 2] 22)) (some ⟨W.heap.size + 1 + 1, 0, none⟩) [[0], [0, 0]] := by
  have e1 : (W.alloc (.cells #[.int .i64 0] 3)).heap.size = W.heap.size + 1 := by simp
  have e2 : ((W.alloc (.cells #[.int .i64 0] 3)).alloc (.cells #[.int .i64 0, .int .i64 0] 3)).heap.size = W.heap.size + 1 + 1 := by simp
  have ra := ((Row.new W #[.int .i64 0] 3).alloc (.cells #[.int .i64 0, .int .i64 0] 3)).alloc (.cells #[.slice (some ⟨W.heap.size, 0, none⟩) 1 1, .slice (some ⟨W.heap.size + 1, 0, none⟩) 2 2] 22)
  have rb := (Row.new (W.alloc (.cells #[.int .i64 0] 3)) #[.int .i64 0, .int .i64 0] 3).alloc (.cells #[.slice (some ⟨W.heap.size, 0, none⟩) 1 1, .slice (some ⟨W.heap.size + 1, 0, none⟩) 2 2] 22)
  have rc := Row.new ((W.alloc (.cells #[.int .i64 0] 3)).alloc (.cells #[.int .i64 0, .int .i64 0] 3)) #[.slice (some ⟨W.heap.size, 0, none⟩) 1 1, .slice (some ⟨W.heap.size + 1, 0, none⟩) 2 2] 22
  rw [e1] at rb
  rw [e2] at rc
  have w0 : Wide 0 := by unfold Wide; omega
  intro k hk
  refine ⟨W.heap.size + 1 + 1, 0, rfl, ?_⟩
  have hk2 : k < 2 := hk
  obtain rfl | rfl : k = 0 ∨ k = 1 := by omega
  · refine ⟨_, 1, rc.cell 0 (by simp), fun j hj => ⟨W.heap.size, 0, rfl, ?_, ?_⟩⟩
    · have : j = 0 := by simpa using hj
      subst this
      exact ra.cell 0 (by simp)
    · have : j = 0 := by simpa using hj
      subst this
      exact w0
  · refine ⟨_, 2, rc.cell 1 (by simp), fun j hj => ⟨W.heap.size + 1, 0, rfl, ?_, ?_⟩⟩
    · have : j < 2 := hj
      obtain rfl | rfl : j = 0 ∨ j = 1 := by omega
      · exact rb.cell 0 (by simp)
      · exact rb.cell 1 (by simp)
    · have : j < 2 := hj
      obtain rfl | rfl : j = 0 ∨ j = 1 := by omega
      · exact w0
      · exact w0
theorem bentS_any (w : World) (b len lo c : Nat) (a : Option Addr) (cs : List (List Int)) (ht : Tp w b len) (hs : SetsH lo w a cs) (hlo : b < lo) (hlw : lo ≤ w.heap.size) (hl : cs.length ≤ 5000) (hn : ∀ s ∈ cs, s.length ≤ 1000) :
    Calls Tryz.prog 42 #[.pointer (some ⟨b, 0, none⟩), .slice a cs.length c] w (GivesBentS b len w) := by
  have TT := Lib.hid ht
  have HW := Lib.hid ht.has
  obtain ⟨j0, hj, hy0, hy1, hy2⟩ := info_parts infoSl
  obtain ⟨i0, hi, hz0, hz1, hz2⟩ := info_parts infoInt
  have gE : Gr w (w.alloc (.cells #[] 22)) := (Gr.refl _).alloc _
  obtain ⟨ts, hts, hst, hgt0⟩ := sets_choose hs
  have hgt : Gets (w.alloc (.cells #[] 22)) a cs.length 1 (ts.map encS) := ⟨hgt0.1, fun h0 => by
    obtain ⟨ad, e, q⟩ := hgt0.2 h0
    exact ⟨ad, e, fun j u hu => cell_gr gE (q j u hu)⟩⟩
  have TL : ts.length = cs.length := by rw [← hts, List.length_map]
  have GT := Lib.hid hgt
  have ST1 := Lib.hid hst
  have LNS : Hid (∀ t ∈ ts, t.s.length ≤ 1000) := Lib.hid (fun t h => hn _ (by rw [← hts]; exact List.mem_map.2 ⟨t, h, rfl⟩))
  have OO : Hid ((w.alloc (.cells #[] 22)).ownsRow w.heap.size 22 1 (.slice (some ⟨w.heap.size, 0, none⟩) 0 0) 0 []) := Lib.hid (World.ownsRow_lit w #[] 0 (Nat.le_refl _) (by unfold maxLen; omega) rfl)
  obtain ⟨n, hnn⟩ : ∃ n, cs.length = n := ⟨_, rfl⟩
  rw [hnn] at TL GT hl ⊢
  clear ht hs hgt hgt0 hst hn hts gE
  have TLh := Lib.hid TL
  clear TL hnn
  go_enter Tryz.func42, Tryz.ntmps42
  by_cases h0 : n = 0
  · have e0 : ((n : Int) == 0) = true := by simp [h0]
    have e1 : decide (n = 0) = true := decide_eq_true h0
    go_wp2_with (first
      | (at_builtin; refine wpList_append_gets _ rfl _ _ 59 rfl w.heap.size 22 j0 (.slice none 0 0) 1 24 Tryz.underlying59 hj hy0 hy1 hy2 rfl (by decide) (.slice (some ⟨w.heap.size, 0, none⟩) 0 0) 0 [] rfl OO.out a n c (ts.map encS) rfl GT.out (encS_one _) (by unfold maxLen; omega) (by omega) (by simp) ?_; intro v W1 hown hgrow hblk; rw [Nat.zero_add, List.nil_append] at hown; obtain ⟨A1, c1, rfl⟩ := owns_slice hown; have OW := Lib.hid hown; have G1 : Hid (Gr w W1) := Lib.hid (((Gr.refl w).alloc _).grown hgrow (fun k e => (OO.out.lt k e).1)); clear hown hgrow hblk)
      | fail)
    go_ret
    refine ⟨[[0], [0, 0]], _, _, rfl, lit_sets W1, by simp, fun s hs => ?_, .of_gr TT.out (((G1.out.alloc _).alloc _).alloc _)⟩
    have : s = [0] ∨ s = [0, 0] := by simpa using hs
    rcases this with rfl | rfl <;> simp
  · have e0 : ((n : Int) == 0) = false := by simp; omega
    have e1 : decide (n = 0) = false := decide_eq_false h0
    go_wp2_with (first
      | (at_builtin; refine wpList_append_gets _ rfl _ _ 59 rfl w.heap.size 22 j0 (.slice none 0 0) 1 24 Tryz.underlying59 hj hy0 hy1 hy2 rfl (by decide) (.slice (some ⟨w.heap.size, 0, none⟩) 0 0) 0 [] rfl OO.out a n c (ts.map encS) rfl GT.out (encS_one _) (by unfold maxLen; omega) (by omega) (by simp) ?_; intro v W1 hown hgrow hblk; rw [Nat.zero_add, List.nil_append] at hown; obtain ⟨A1, c1, rfl⟩ := owns_slice hown; have OW := Lib.hid hown; have G1 : Hid (Gr w W1) := Lib.hid (((Gr.refl w).alloc _).grown hgrow (fun k e => (OO.out.lt k e).1)); clear hown hgrow hblk)
      | fail)
    obtain ⟨g, cap, eA, hcap, _, _⟩ := owns_cell OW.out (by omega)
    cases eA
    have BLO := Lib.hid hlo
    have S1 : Hid (BsSt b len lo w ts (.slice (some ⟨g, 0, none⟩) n c1) W1) := Lib.hid ⟨by rw [TLh.out]; exact OW.out, ST1.out.gr G1.out, LNS.out, .of_gr TT.out G1.out⟩
    clear OW e1 hlo
    refine (nM_any W1 b len n (S1.out.mv.tp TT.out) (by omega) (by omega)).mono ?_
    rintro e w2 ⟨x, rfl, ⟨x0, x1⟩, hm⟩
    have S2 := Lib.hid (S1.out.mvd BLO.out HW.out hm)
    obtain ⟨k, rfl⟩ : ∃ k : Nat, x = (k : Int) := ⟨x.toNat, by omega⟩
    have hk : k < n := by omega
    clear hm S1 x0 x1
    go_wp2_with fail
    refine (nM_any w2 b len 4 (S2.out.mv.tp TT.out) (by omega) (by omega)).mono ?_
    rintro e w3 ⟨y, rfl, ⟨y0, y1⟩, hm⟩
    have S3 := Lib.hid (S2.out.mvd BLO.out HW.out hm)
    have hy : y = 0 ∨ y = 1 ∨ y = 2 ∨ y = 3 := by omega
    clear hm S2 y0 y1
    have hkt : k < ts.length := by rw [TLh.out]; exact hk
    obtain ⟨t, htk⟩ : ∃ t, ts[k] = t := ⟨_, rfl⟩
    have tk : ts[k]? = some t := by rw [List.getElem?_eq_getElem hkt, htk]
    have TK := Lib.hid tk
    have LT : t.s.length ≤ 1000 := S3.out.lens t (List.mem_of_getElem? tk)
    clear htk
    have k2 : (k : Int) < n := by omega
    rcases hy with rfl | rfl | rfl | rfl
    · have k3 : (k : Int) ≤ c1 := by omega
      have k4 : ((k : Int) + 1) ≤ n := by omega
      have ew : IntKind.i64.wrap ((k : Int) + 1) = (k : Int) + 1 := by rw [IntKind.wrap_i64]; omega
      clear tk
      go_wp2_with fail
      refine wp_region_grows_tail 8 (by kernel_rfl) (by kernel_rfl) ?_
      simp only [List.take_succ_cons, List.take_zero, List.drop_succ_cons, List.drop_zero]
      repeat (go_big_quiet_step (fail))
      refine wpQuiet_nil ?_
      rintro _ ⟨⟨O, d⟩, rfl⟩
      obtain ⟨W4, hW4⟩ : ∃ W4 : World, Hid (W4 = xt w3 O d) := ⟨_, Lib.hid rfl⟩
      show wpList _ _ _ _ _ (xt w3 O d)
      rw [← hW4.out]
      have G4 : Hid (Gr w3 W4) := Lib.hid (by rw [hW4.out]; exact (Gr.refl _).xt O d)
      have S4 := Lib.hid (S3.out.grd G4.out)
      have AT : Hid (∀ j (hj : j < ts.length), W4.cell? ⟨g, j, none⟩ = some (encS ts[j])) := Lib.hid (fun j hj => (S4.out.at hj).1)
      clear hW4
      refine wpList_append_cut _ rfl _ _ 59 rfl 22 j0 (.slice none 0 0) 24 Tryz.underlying59 hj hy0 hy1 hy2 rfl g k ((ts.take k).map encS) rfl ?_ ?_ _ (n - (k + 1)) (c1 - (k + 1)) rfl ?_ ((ts.drop (k + 1)).map encS) ?_ ?_ ?_ ?_
      · have := TLh.out; simp; omega
      · intro j u hu
        have hj : j < ts.length := by
          obtain ⟨q, _⟩ := List.getElem?_eq_some_iff.1 hu
          simp at q; omega
        have hjk : j < k := by
          obtain ⟨q, _⟩ := List.getElem?_eq_some_iff.1 hu
          simp at q; omega
        rw [AT.out j hj]
        rw [List.getElem?_map, List.getElem?_take_of_lt hjk, List.getElem?_eq_getElem hj] at hu
        exact hu
      · omega
      · refine ⟨by have := TLh.out; simp; omega, fun hne => ?_⟩
        have : ¬ c1 = k + 1 := by omega
        rw [if_neg this]
        refine ⟨_, rfl, fun j u hu => ?_⟩
        have hj : k + 1 + j < ts.length := by
          obtain ⟨q, _⟩ := List.getElem?_eq_some_iff.1 hu
          simp at q; omega
        rw [Addr.add_lit, AT.out (k + 1 + j) hj]
        rw [List.getElem?_map, List.getElem?_drop, List.getElem?_eq_getElem hj] at hu
        exact hu
      · unfold maxLen; omega
      · omega
      intro g' c' w' hcl hg'
      have CL := Lib.hid hcl
      have M5 := Lib.hid (S4.out.mv.gr hg')
      clear hcl hg'
      go_wp2_with fail
      all_goals
        go_ret
        have LN : (ts.take k ++ ts.drop (k + 1)).length = k + (n - (k + 1)) := by have := TLh.out; simp; omega
        have SUB : ∀ u ∈ ts.take k ++ ts.drop (k + 1), u ∈ ts := fun u hu => by
          rcases List.mem_append.1 hu with hu | hu
          · exact List.mem_of_mem_take hu
          · exact List.mem_of_mem_drop hu
        refine ⟨(ts.take k ++ ts.drop (k + 1)).map (·.s), some ⟨g', 0, none⟩, c', by rw [List.length_map, LN]; rfl, sts_sets (lo := lo) (fun u hu => intsH_mv (ST1.out u (SUB u hu)) BLO.out M5.out) (by rw [List.map_append]; exact CL.out), by rw [List.length_map, LN]; omega, fun s hs => ?_, M5.out⟩
        obtain ⟨u, hu, rfl⟩ := List.mem_map.1 hs
        exact LNS.out u (SUB u hu)
    · obtain ⟨c0, cf, ch⟩ := S3.out.atv tk
      clear tk cf
      have TA := Lib.hid (S3.out.sts t (List.mem_of_getElem? TK.out))
      have O3 : Hid ((w3.alloc (.cells #[] 3)).ownsRow w3.heap.size 3 1 (.slice (some ⟨w3.heap.size, 0, none⟩) 0 0) 0 []) := Lib.hid (World.ownsRow_lit w3 #[] 0 (Nat.le_refl _) (by unfold maxLen; omega) rfl)
      have GN := Lib.hid (gets_intsH (intsH_gr TA.out ((Gr.refl w3).alloc (.cells #[] 3))))
      by_cases hl0 : t.s.length = 0
      · have e2 : decide (0 < t.s.length) = false := decide_eq_false (by omega)
        clear hl0
        go_upto_region 13 with (first
          | (at_builtin; refine wpList_append_gets _ rfl _ _ 22 rfl w3.heap.size 3 i0 (.int .i64 0) 1 8 Tryz.underlying22 hi hz0 hz1 hz2 rfl (by decide) (.slice (some ⟨w3.heap.size, 0, none⟩) 0 0) 0 [] rfl O3.out t.a t.s.length t.c (nums t.s) rfl GN.out (nums_one _) (by unfold maxLen; omega) (by omega) (by simp) ?_; intro v4 W4 hown hgrow hblk; rw [Nat.zero_add, List.nil_append] at hown; obtain ⟨ax, cx, rfl⟩ := owns_slice hown; have O4 := Lib.hid hown; have G4 : Hid (Gr w3 W4) := Lib.hid (((Gr.refl _).alloc _).grown hgrow (fun k e => (O3.out.lt k e).1)); clear hown hgrow hblk)
          | fail)
        have M4 : Hid (Mv b len w3 W4) := Lib.hid (.of_gr (S3.out.mv.tp TT.out) G4.out)
        have S4 := Lib.hid (S3.out.grd G4.out)
        obtain ⟨ax', cx', eX, hX⟩ := owns_slIH (lo := lo) (by have := S3.out.mv.size; omega) O4.out rfl (slIH_wide TA.out)
        cases eX
        have P := Lib.hid (S4.out.put hkt ⟨ax, cx, t.s⟩ hX LT)
        obtain ⟨d0, df, dh⟩ := S4.out.atv TK.out
        clear hX c0 ch
        go_wp2_with fail
        go_ret
        exact P.out.gives (by have := TLh.out; simp; omega) (by have := TLh.out; simp; omega)
      · have e2 : decide (0 < t.s.length) = true := decide_eq_true (by omega)
        go_wp2_with (first
          | (at_builtin; refine wpList_append_gets _ rfl _ _ 22 rfl w3.heap.size 3 i0 (.int .i64 0) 1 8 Tryz.underlying22 hi hz0 hz1 hz2 rfl (by decide) (.slice (some ⟨w3.heap.size, 0, none⟩) 0 0) 0 [] rfl O3.out t.a t.s.length t.c (nums t.s) rfl GN.out (nums_one _) (by unfold maxLen; omega) (by omega) (by simp) ?_; intro v4 W4 hown hgrow hblk; rw [Nat.zero_add, List.nil_append] at hown; obtain ⟨ax, cx, rfl⟩ := owns_slice hown; have O4 := Lib.hid hown; have G4 : Hid (Gr w3 W4) := Lib.hid (((Gr.refl _).alloc _).grown hgrow (fun k e => (O3.out.lt k e).1)); clear hown hgrow hblk)
          | fail)
        have ZW : Hid (b < w3.heap.size) := Lib.hid (by have := S3.out.mv.size; have := HW.out; omega)
        have M4 : Hid (Mv b len w3 W4) := Lib.hid (.of_gr (S3.out.mv.tp TT.out) G4.out)
        have T3 := Lib.hid (S3.out.mv.tp TT.out)
        obtain ⟨gx, cx', eX, _, hgx, _⟩ := owns_cell O4.out (by omega)
        cases eX
        clear c0 ch
        refine (nM_any W4 b len t.s.length (M4.out.tp T3.out) (by omega) (by omega)).mono ?_
        rintro e w5 ⟨x, rfl, ⟨x0, x1⟩, hm5⟩
        obtain ⟨q, rfl⟩ : ∃ q : Nat, x = (q : Int) := ⟨x.toNat, by omega⟩
        have hq : q < t.s.length := by omega
        have O5 := Lib.hid (hm5.owns O4.out ZW.out)
        have M5 := Lib.hid (M4.out.trans ZW.out hm5)
        clear hm5 x0 x1
        go_wp2_with fail
        refine (rangeM_any w5 b len (-1) 4 (M5.out.tp T3.out) (by omega) (by omega) (by omega)).mono ?_
        rintro e w6 ⟨z, rfl, ⟨z0, z1⟩, hm6⟩
        have O6 := Lib.hid (hm6.owns O5.out ZW.out)
        have M6 := Lib.hid (M5.out.trans ZW.out hm6)
        clear hm6
        have q2 : (q : Int) < t.s.length := by omega
        obtain ⟨f6, h6⟩ := owns_free O6.out q
        have c6 : w6.cell? ⟨gx, q, none⟩ = some (.int .i64 t.s[q]) := by
          obtain ⟨g', cap', e', _, _, hc⟩ := owns_cell O6.out (by omega)
          cases e'
          rw [hc q (by omega)]
          simp [nums, hq]
        obtain ⟨W7, hW7⟩ : ∃ W7 : World, Hid (W7 = w6.setCell ⟨gx, q, none⟩ (.int .i64 z)) := ⟨_, Lib.hid rfl⟩
        have M7 : Hid (Mv b len w3 W7) := Lib.hid (by rw [hW7.out]; exact M6.out.setc hgx)
        have O7 : Hid (W7.ownsRow w3.heap.size 3 1 (.slice (some ⟨gx, 0, none⟩) t.s.length cx) t.s.length (nums (t.s.set q z))) := Lib.hid (by
          have := owns_put O6.out (j := q) (by omega) (.int .i64 z)
          rw [← hW7.out] at this
          rwa [show nums (t.s.set q z) = (nums t.s).set q (.int .i64 z) from by simp [nums, List.map_set]])
        have S7 := Lib.hid (S3.out.mvd BLO.out HW.out M7.out)
        have WZ : Hid (∀ i (hi : i < (t.s.set q z).length), Wide (t.s.set q z)[i]) := Lib.hid (fun i hi => by
          have hw := slIH_wide TA.out i (by simpa using hi)
          rw [List.getElem_set]
          split
          · unfold Wide; omega
          · exact hw)
        go_upto_region 13 with fail
        rw [← hW7.out]
        obtain ⟨ax', cx'', eX, hX⟩ := owns_slIH (lo := lo) (by have := S3.out.mv.size; omega) O7.out (by simp) WZ.out
        cases eX
        have P := Lib.hid (S7.out.put hkt ⟨some ⟨gx, 0, none⟩, cx, t.s.set q z⟩ hX (by simp; omega))
        have EN : encS ⟨some ⟨gx, 0, none⟩, cx, t.s.set q z⟩ = .slice (some ⟨gx, 0, none⟩) t.s.length cx := by simp [encS]
        rw [EN] at P
        obtain ⟨d0, df, dh⟩ := S7.out.atv TK.out
        clear hX f6 h6 c6 EN
        go_wp2_with fail
        go_ret
        exact P.out.gives (by have := TLh.out; simp; omega) (by have := TLh.out; simp; omega)
    · obtain ⟨c0, cf, ch⟩ := S3.out.atv tk
      clear tk cf
      obtain ⟨N4, hN4⟩ : ∃ N4 : Nat, Hid (w3.heap.size = N4) := ⟨_, Lib.hid rfl⟩
      obtain ⟨W4, hW4⟩ : ∃ W4 : World, Hid (W4 = w3.alloc (.cells #[.slice t.a t.s.length t.c] 22)) := ⟨_, Lib.hid rfl⟩
      have G4 : Hid (Gr w3 W4) := Lib.hid (by rw [hW4.out]; exact (Gr.refl _).alloc _)
      have O4 : Hid (W4.ownsRow w.heap.size 22 1 (.slice (some ⟨g, 0, none⟩) n c1) n (ts.map encS)) := Lib.hid (by have := Gr.owns S3.out.own G4.out; rwa [TLh.out] at this)
      have CC : Hid (∀ j u, ([encS t] : List Value)[j]? = some u → W4.cell? ((⟨N4, 0, none⟩ : Addr).add j) = some u) := Lib.hid (by
        have := row_cells (Row.new w3 #[.slice t.a t.s.length t.c] 22)
        rw [← hW4.out, hN4.out] at this
        exact this)
      have ONE : Hid (∀ u ∈ ([encS t] : List Value), u.oneCell' = true) := Lib.hid (fun u hu => by rw [List.mem_singleton.1 hu]; rfl)
      have BS4 : Hid (w.heap.size ≤ W4.heap.size) := Lib.hid (by have := S3.out.mv.size; have := G4.out.size; omega)
      have M4 := Lib.hid (S3.out.mv.gr G4.out)
      go_wp2_with (first
        | (at_builtin; rw [← hW4.out, hN4.out]; refine wpList_append_gets _ rfl _ _ 59 rfl w.heap.size 22 j0 (.slice none 0 0) 1 24 Tryz.underlying59 hj hy0 hy1 hy2 rfl (by decide) (.slice (some ⟨g, 0, none⟩) n c1) n (ts.map encS) rfl O4.out (some ⟨N4, 0, none⟩) 1 1 [encS t] rfl ⟨rfl, fun _ => ⟨_, rfl, CC.out⟩⟩ ONE.out (by unfold maxLen; omega) (by omega) BS4.out ?_; intro v9 W9 hown hgrow _; obtain ⟨a9, c9, rfl⟩ := owns_slice hown; have O9 := Lib.hid hown; have H9 := Lib.hid hgrow; clear hown hgrow hW4)
        | fail)
      go_ret
      have M9 : Mv b len w W9 := M4.out.grown H9.out (fun k e => (O4.out.lt k e).1)
      have O9' : W9.ownsRow w.heap.size 22 1 (.slice a9 (n + 1) c9) (n + 1) ((ts ++ [t]).map encS) := by rw [List.map_append]; exact O9.out
      obtain ⟨g9, c9', e9, _, _, _⟩ := owns_cell O9' (by omega)
      cases e9
      have S9 : BsSt b len lo w (ts ++ [t]) (.slice (some ⟨g9, 0, none⟩) (n + 1) c9) W9 := ⟨by rw [List.length_append, TLh.out]; exact O9', fun u hu => by
        rcases List.mem_append.1 hu with hu | hu
        · exact intsH_mv (ST1.out u hu) BLO.out M9
        · rw [List.mem_singleton.1 hu]; exact intsH_mv (ST1.out t (List.mem_of_getElem? TK.out)) BLO.out M9, fun u hu => by
        rcases List.mem_append.1 hu with hu | hu
        · exact LNS.out u hu
        · rw [List.mem_singleton.1 hu]; exact LT, M9⟩
      exact S9.gives (by simp) (by rw [List.length_append, TLh.out]; simp; omega)
    · clear tk
      obtain ⟨v0, hv0⟩ : ∃ v0, ts[0]? = some v0 := ⟨_, List.getElem?_eq_getElem (by omega)⟩
      have V0 := Lib.hid hv0
      clear hv0
      go_upto_region 6 with fail
      refine bs6 (w0 := w) S3.out TK.out V0.out hk TLh.out.symm ?_
      intro t23 t24 t25 t26 t27 t28 t29 t30 t31 t32 t33 t34 wx hS
      simp only [bs6A]
      have SX := Lib.hid hS
      clear hS
      go_wp2_with fail
      go_ret
      exact SX.out.gives (by have := TLh.out; simp; omega) (by have := TLh.out; simp; omega)
end Go.Proofs.YtenehghpmnajpaaGreatDoor

set_option linter.unusedVariables false
set_option linter.unusedSimpArgs false
namespace Go.Proofs.YtenehghpmnajpaaGreatDoor
open Go.RowKit Go.ChangeShapes Go.WideShapes
theorem add_of {a : Addr} {w : World} {v : Value} {n : Nat} (h0 : a = ⟨a.block, a.off, none⟩) (h : w.cell? (a.add n) = some v) : w.cell? ⟨a.block, a.off + n, none⟩ = some v := by
  simp only [Addr.add] at h
  split at h
  · rename_i e; subst e; rw [h0] at h; simpa using h
  · exact h
def Light {H : Type} (t : TypeId) (d : DataW H) : Prop := ∀ n ∈ d.weights Tryz.prog t, n ≤ reachBytes
theorem all_light {H : Type} {e : TypeId} : ∀ {l : List (DataW H)} {d : DataW H}, d ∈ l → ∀ n ∈ d.weights Tryz.prog e, n ∈ DataW.weightsAll Tryz.prog e l
  | d' :: r, d, hd, n, hn => by
    simp only [DataW.weightsAll, List.mem_append]
    rcases List.mem_cons.1 hd with rfl | h
    · exact Or.inl hn
    · exact Or.inr (all_light h n hn)
theorem Light.elem {H : Type} {t e : TypeId} {elems spare : List (DataW H)} (h : Light t (DataW.slice elems spare)) (hu : Tryz.prog.underlying t = some (.slice e)) : (elems.length + spare.length) * Tryz.prog.bytesOf e ≤ reachBytes ∧ ∀ d ∈ elems, Light e d := by
  refine ⟨h _ (by simp [DataW.weights, hu]), fun d hd n hn => h n ?_⟩
  simp only [DataW.weights, hu, List.mem_cons, List.mem_append]
  exact Or.inr (Or.inl (all_light hd n hn))
theorem Light.part {H : Type} {t : TypeId} {fs : Array Field} {parts : List (DataW H)} (h : Light t (DataW.agg parts)) (hu : Tryz.prog.underlying t = some (.struct fs)) {j : Nat} {u : TypeId} {d : DataW H} (ht : (fs.toList.map (·.type))[j]? = some u) (hd : parts[j]? = some d) : Light u d := fun n hn => h n (by
  simp only [DataW.weights, hu]
  exact DataW.weights_mem_each ht hd n hn)
theorem reach_eq : reachBytes = 140737488351232 := rfl
-- A slice of whole numbers.
theorem open_nums {H : Type} {enc : TypeId × Value → H} {W : World} {fuel : Nat} {cs : List Value} {x : DataW H × List MemPlace} (h : DataW.trod enc Tryz.prog W 0 (fun _ => true) true fuel 22 cs = some x) (hl : Light 22 x.1) :
    ∃ (a : Option Addr) (xs : List Int) (cap : Nat), cs = [.slice a xs.length cap] ∧ xs.length ≤ cap ∧ Fit xs.length ∧ SlOf 1 RI W a xs := by
  rcases open_ints Tryz.underlying22 Tryz.underlying3 (by kernel_rfl) h with ⟨rfl, -⟩ | ⟨a, len, cap, zs, rfl, hb, hle, hm, hz, rfl, hcell, hwz⟩
  · exact ⟨none, [], 0, rfl, Nat.le_refl _, by unfold Fit; simp, SlOf.nil _ _ _ _⟩
  · have hzc : zs.length = cap := by simpa using hz
    have ht : (zs.take len).length = len := by rw [List.length_take]; omega
    refine ⟨some a, zs.take len, cap, by rw [ht], by omega, ?_, fun k hk => ?_⟩
    · have := (hl.elem Tryz.underlying22).1
      rw [reach_eq, show Tryz.prog.bytesOf 3 = 8 by kernel_rfl] at this
      simp [lits] at this
      unfold Fit; omega
    · have hk' : k < len := by omega
      have q := hcell 0 (by omega)
      have z : a = ⟨a.block, a.off, none⟩ := addr_of_cell (by simpa [Addr.add] using q)
      have c := hcell k (by omega)
      refine ⟨a.block, a.off, by rw [← z], add_of z (n := k * 1) ?_, ?_⟩
      · rw [Nat.mul_one, c, List.getElem_take, List.getD_eq_getElem?_getD, List.getElem?_eq_getElem (by omega)]; rfl
      · rw [List.getElem_take]
        have := bounds_i64 (hwz _ (List.getElem_mem (show k < zs.length by omega)))
        unfold Wide; omega
theorem open_num {H : Type} {enc : TypeId × Value → H} {W : World} {n : Nat} {v : Value} {y : DataW H × List MemPlace} (h : DataW.trod enc Tryz.prog W 0 (fun _ => true) true n 3 [v] = some y) : ∃ x, v = .int .i64 x ∧ Wide x := by
  obtain ⟨n0, e0, -, w0⟩ := DataW.trod_int Tryz.underlying3 h
  have b0 := bounds_i64 w0
  exact ⟨n0, by simpa using e0, by unfold Wide; omega⟩
def ClkIn (W : World) (c : Clk) (cs : List Value) : Prop := ∃ ap cp ac cc, cs = [.int .i64 c.kind, .slice ap c.parents.length cp, .slice ac c.choices.length cc, .int .i64 c.low, .int .i64 c.high] ∧ Wide c.kind ∧ Wide c.low ∧ Wide c.high ∧
  c.parents.length ≤ cp ∧ Fit c.parents.length ∧ SlOf 1 RI W ap c.parents ∧ c.choices.length ≤ cc ∧ Fit c.choices.length ∧ SlOf 1 RI W ac c.choices
theorem open_clk {H : Type} {enc : TypeId × Value → H} {W : World} {n : Nat} {cs : List Value} {x : DataW H × List MemPlace} (h : DataW.trod enc Tryz.prog W 0 (fun _ => true) true n 79 cs = some x) (hl : Light 79 x.1) :
    ∃ c : Clk, ClkIn W c cs := by
  obtain ⟨xs, m, _, rfl, hlen, hxs, hf⟩ := DataW.trod_struct Tryz.underlying79 h
  have hl5 : cs.length = 5 := hlen
  match cs, hl5, xs, hxs with
  | [v0, v1, v2, v3, v4], _, [y0, y1, y2, y3, y4], _ =>
    have g0 : DataW.trod enc Tryz.prog W 0 (fun _ => true) true m 3 [v0] = some y0 := hf 0 _ rfl
    have g1 : DataW.trod enc Tryz.prog W 0 (fun _ => true) true m 22 [v1] = some y1 := hf 1 _ rfl
    have g2 : DataW.trod enc Tryz.prog W 0 (fun _ => true) true m 22 [v2] = some y2 := hf 2 _ rfl
    have g3 : DataW.trod enc Tryz.prog W 0 (fun _ => true) true m 3 [v3] = some y3 := hf 3 _ rfl
    have g4 : DataW.trod enc Tryz.prog W 0 (fun _ => true) true m 3 [v4] = some y4 := hf 4 _ rfl
    have l1 : Light 22 y1.1 := Light.part (j := 1) hl Tryz.underlying79 rfl rfl
    have l2 : Light 22 y2.1 := Light.part (j := 2) hl Tryz.underlying79 rfl rfl
    obtain ⟨k, rfl, w0⟩ := open_num g0
    obtain ⟨ap, ps, cp, e1, p1, p2, p3⟩ := open_nums g1 l1
    obtain ⟨ac, cs', cc, e2, q1, q2, q3⟩ := open_nums g2 l2
    obtain ⟨lo, rfl, w3⟩ := open_num g3
    obtain ⟨hi, rfl, w4⟩ := open_num g4
    injection e1 with e1 _
    injection e2 with e2 _
    subst e1; subst e2
    exact ⟨⟨k, ps, cs', lo, hi⟩, ap, cp, ac, cc, rfl, w0, w3, w4, p1, p2, p3, q1, q2, q3⟩
instance : Inhabited Clk := ⟨⟨0, [], [], 0, 0⟩⟩
theorem open_clks {H : Type} {enc : TypeId × Value → H} {W : World} {fuel : Nat} {cs : List Value} {x : DataW H × List MemPlace} (h : DataW.trod enc Tryz.prog W 0 (fun _ => true) true fuel 23 cs = some x) (hl : Light 23 x.1) :
    ∃ (a : Option Addr) (raw : List Clk) (cap : Nat), cs = [.slice a raw.length cap] ∧ raw.length ≤ cap ∧ Fit raw.length ∧ SlOf 5 RClk W a raw := by
  rcases Go.Deep.open_slice Tryz.underlying23 h with ⟨rfl, -⟩ | ⟨a, len, cap, m, n, D, Pl, rfl, hb, hle, hm, hmm, rfl, hx⟩
  · exact ⟨none, [], 0, rfl, Nat.le_refl _, by unfold Fit; simp, fun k hk => absurd hk (by simp)⟩
  · have hmc : m = cap := by simpa using hmm
    obtain ⟨hsz, hel⟩ := hl.elem Tryz.underlying23
    have each : ∀ i, i < len → ∃ c : Clk, ∃ ds, ClkIn W c ds ∧ ∀ j, j < 5 → W.cell? ((a.add (i * 5)).add j) = ds[j]? := by
      intro i hi
      obtain ⟨cs', h1, h2⟩ := hx i (by omega)
      obtain ⟨c, hc⟩ := open_clk h2 (hel _ (List.mem_map.2 ⟨i, List.mem_range.2 hi, rfl⟩))
      have h1' : W.cells? 0 (a.add (i * 5)) 5 = some cs' := h1
      obtain ⟨_, -, hc'⟩ := World.cells?_some h1'
      exact ⟨c, cs', hc, hc'⟩
    obtain ⟨f, hf⟩ := Go.Deep.choose_lt each
    refine ⟨some a, (List.range len).map f, cap, by simp, by simpa using hle, ?_, fun k hk => ?_⟩
    · rw [reach_eq, show Tryz.prog.bytesOf 79 = 72 by kernel_rfl] at hsz
      simp at hsz
      simp only [List.length_map, List.length_range]
      unfold Fit; omega
    have hk' : k < len := by simpa using hk
    obtain ⟨ds, ⟨ap, cp, ac, cc, rfl, w0, w3, w4, p1, p2, p3, q1, q2, q3⟩, hc⟩ := hf k hk'
    have c0 := hc 0 (by omega)
    have c1 := hc 1 (by omega)
    have c2 := hc 2 (by omega)
    have c3 := hc 3 (by omega)
    have c4 := hc 4 (by omega)
    rw [Go.Deep.add_add] at c0 c1 c2 c3 c4
    have z : a = ⟨a.block, a.off, none⟩ := by
      obtain ⟨ds', ⟨_, _, _, _, rfl, _⟩, hc'⟩ := hf 0 (by omega)
      have q := hc' 0 (by omega)
      rw [Go.Deep.add_add] at q
      have q' : W.cell? a = some (.int .i64 (f 0).kind) := by simpa [Addr.add] using q
      exact addr_of_cell q'
    refine ⟨a.block, a.off, by rw [← z], ?_⟩
    rw [List.getElem_map, List.getElem_range]
    refine ⟨⟨?_, w0⟩, ⟨ap, cp, ?_, p1, p2, p3⟩, ⟨ac, cc, ?_, q1, q2, q3⟩, ⟨?_, w3⟩, ⟨?_, w4⟩⟩
    · exact add_of z (by simpa using c0)
    · exact add_of z (by simpa using c1)
    · exact add_of z (by simpa using c2)
    · exact add_of z (by simpa using c3)
    · exact add_of z (by simpa using c4)
def LmtIn (c : Lmt) (cs : List Value) : Prop := cs = [.int .i64 c.clock, .int .i64 c.low, .int .i64 c.high] ∧ Wide c.clock ∧ Wide c.low ∧ Wide c.high
theorem open_lmt {H : Type} {enc : TypeId × Value → H} {W : World} {n : Nat} {cs : List Value} {x : DataW H × List MemPlace} (h : DataW.trod enc Tryz.prog W 0 (fun _ => true) true n 35 cs = some x) : ∃ c : Lmt, LmtIn c cs := by
  obtain ⟨xs, m, _, rfl, hlen, hxs, hf⟩ := DataW.trod_struct Tryz.underlying35 h
  have hl3 : cs.length = 3 := hlen
  match cs, hl3, xs, hxs with
  | [v0, v1, v2], _, [y0, y1, y2], _ =>
    have g0 : DataW.trod enc Tryz.prog W 0 (fun _ => true) true m 3 [v0] = some y0 := hf 0 _ rfl
    have g1 : DataW.trod enc Tryz.prog W 0 (fun _ => true) true m 3 [v1] = some y1 := hf 1 _ rfl
    have g2 : DataW.trod enc Tryz.prog W 0 (fun _ => true) true m 3 [v2] = some y2 := hf 2 _ rfl
    obtain ⟨k, rfl, w0⟩ := open_num g0
    obtain ⟨lo, rfl, w1⟩ := open_num g1
    obtain ⟨hi, rfl, w2⟩ := open_num g2
    exact ⟨⟨k, lo, hi⟩, rfl, w0, w1, w2⟩
instance : Inhabited Lmt := ⟨⟨0, 0, 0⟩⟩
theorem open_lmts {H : Type} {enc : TypeId × Value → H} {W : World} {fuel : Nat} {cs : List Value} {x : DataW H × List MemPlace} (h : DataW.trod enc Tryz.prog W 0 (fun _ => true) true fuel 24 cs = some x) (hl : Light 24 x.1) :
    ∃ (a : Option Addr) (raw : List Lmt) (cap : Nat), cs = [.slice a raw.length cap] ∧ raw.length ≤ cap ∧ Fit raw.length ∧ SlOf 3 RLmt W a raw := by
  rcases Go.Deep.open_slice Tryz.underlying24 h with ⟨rfl, -⟩ | ⟨a, len, cap, m, n, D, Pl, rfl, hb, hle, hm, hmm, rfl, hx⟩
  · exact ⟨none, [], 0, rfl, Nat.le_refl _, by unfold Fit; simp, fun k hk => absurd hk (by simp)⟩
  · have hmc : m = cap := by simpa using hmm
    have hsz := (hl.elem Tryz.underlying24).1
    have each : ∀ i, i < len → ∃ c : Lmt, ∃ ds, LmtIn c ds ∧ ∀ j, j < 3 → W.cell? ((a.add (i * 3)).add j) = ds[j]? := by
      intro i hi
      obtain ⟨cs', h1, h2⟩ := hx i (by omega)
      obtain ⟨c, hc⟩ := open_lmt h2
      have h1' : W.cells? 0 (a.add (i * 3)) 3 = some cs' := h1
      obtain ⟨_, -, hc'⟩ := World.cells?_some h1'
      exact ⟨c, cs', hc, hc'⟩
    obtain ⟨f, hf⟩ := Go.Deep.choose_lt each
    refine ⟨some a, (List.range len).map f, cap, by simp, by simpa using hle, ?_, fun k hk => ?_⟩
    · rw [reach_eq, show Tryz.prog.bytesOf 35 = 24 by kernel_rfl] at hsz
      simp at hsz
      simp only [List.length_map, List.length_range]
      unfold Fit; omega
    have hk' : k < len := by simpa using hk
    obtain ⟨ds, ⟨rfl, w0, w1, w2⟩, hc⟩ := hf k hk'
    have c0 := hc 0 (by omega)
    have c1 := hc 1 (by omega)
    have c2 := hc 2 (by omega)
    rw [Go.Deep.add_add] at c0 c1 c2
    have z : a = ⟨a.block, a.off, none⟩ := by
      obtain ⟨ds', ⟨rfl, _⟩, hc'⟩ := hf 0 (by omega)
      have q := hc' 0 (by omega)
      rw [Go.Deep.add_add] at q
      have q' : W.cell? a = some (.int .i64 (f 0).clock) := by simpa [Addr.add] using q
      exact addr_of_cell q'
    refine ⟨a.block, a.off, by rw [← z], ?_⟩
    rw [List.getElem_map, List.getElem_range]
    refine ⟨⟨?_, w0⟩, ⟨?_, w1⟩, ⟨?_, w2⟩⟩
    · exact add_of z (by simpa using c0)
    · exact add_of z (by simpa using c1)
    · exact add_of z (by simpa using c2)
instance : Inhabited Brn := ⟨⟨0, 0, []⟩⟩
def RSetW (w : World) (b o : Nat) (s : List Int) : Prop := Fit s.length ∧ RSet w b o s
theorem RSetW.sets {w : World} {a : Option Addr} {cs : List (List Int)} (h : SlOf 1 RSetW w a cs) : SlOf 1 RSet w a cs := fun k hk => by
  obtain ⟨b, o, e, _, h2⟩ := h k hk
  exact ⟨b, o, e, h2⟩
theorem RSetW.fit {w : World} {a : Option Addr} {cs : List (List Int)} (h : SlOf 1 RSetW w a cs) : ∀ s ∈ cs, Fit s.length := fun s hs => by
  obtain ⟨k, hk, rfl⟩ := List.mem_iff_getElem.1 hs
  obtain ⟨b, o, e, h1, _⟩ := h k hk
  exact h1
theorem open_sets {H : Type} {enc : TypeId × Value → H} {W : World} {fuel : Nat} {cs : List Value} {x : DataW H × List MemPlace} (h : DataW.trod enc Tryz.prog W 0 (fun _ => true) true fuel 59 cs = some x) (hl : Light 59 x.1) :
    ∃ (a : Option Addr) (raw : List (List Int)) (cap : Nat), cs = [.slice a raw.length cap] ∧ raw.length ≤ cap ∧ Fit raw.length ∧ SlOf 1 RSetW W a raw := by
  rcases Go.Deep.open_slice Tryz.underlying59 h with ⟨rfl, -⟩ | ⟨a, len, cap, m, n, D, Pl, rfl, hb, hle, hm, hmm, rfl, hx⟩
  · exact ⟨none, [], 0, rfl, Nat.le_refl _, by unfold Fit; simp, fun k hk => absurd hk (by simp)⟩
  · have hmc : m = cap := by simpa using hmm
    obtain ⟨hsz, hel⟩ := hl.elem Tryz.underlying59
    have each : ∀ i, i < len → ∃ s : List Int, ∃ ap cp, W.cell? (a.add (i * 1)) = some (.slice ap s.length cp) ∧ SlOf 1 RI W ap s ∧ Fit s.length := by
      intro i hi
      obtain ⟨cs', h1, h2⟩ := hx i (by omega)
      obtain ⟨ap, xs, cp, e, _, hft, hs⟩ := open_nums h2 (hel _ (List.mem_map.2 ⟨i, List.mem_range.2 hi, rfl⟩))
      have h1' : W.cells? 0 (a.add (i * 1)) 1 = some cs' := h1
      obtain ⟨_, -, hc'⟩ := World.cells?_some h1'
      refine ⟨xs, ap, cp, ?_, hs, hft⟩
      have := hc' 0 (by omega)
      rw [Go.Deep.add_add, Nat.add_zero] at this
      rw [this, e]; rfl
    obtain ⟨f, hf⟩ := Go.Deep.choose_lt each
    refine ⟨some a, (List.range len).map f, cap, by simp, by simpa using hle, ?_, fun k hk => ?_⟩
    · rw [reach_eq, show Tryz.prog.bytesOf 22 = 24 by kernel_rfl] at hsz
      simp at hsz
      simp only [List.length_map, List.length_range]
      unfold Fit; omega
    have hk' : k < len := by simpa using hk
    obtain ⟨ap, cp, c0, hs, hft⟩ := hf k hk'
    have z : a = ⟨a.block, a.off, none⟩ := by
      obtain ⟨ap', cp', q, _⟩ := hf 0 (by omega)
      rw [Nat.zero_mul] at q
      exact addr_of_cell (by simpa [Addr.add] using q)
    refine ⟨a.block, a.off, by rw [← z], ?_⟩
    rw [List.getElem_map, List.getElem_range]
    exact ⟨hft, ap, cp, add_of z c0, hs⟩
structure Wri where
  kind : Int
  unit : Int
  value : Int
def WriWd (p : Wri) : Prop := Wide p.kind ∧ Wide p.unit ∧ Wide p.value
theorem open_wri {H : Type} {enc : TypeId × Value → H} {W : World} {n : Nat} {cs : List Value} {x : DataW H × List MemPlace} (h : DataW.trod enc Tryz.prog W 0 (fun _ => true) true n 65 cs = some x) : ∃ p : Wri, cs = [.int .i64 p.kind, .int .i64 p.unit, .int .i64 p.value] ∧ WriWd p := by
  obtain ⟨xs, m, _, rfl, hlen, hxs, hf⟩ := DataW.trod_struct Tryz.underlying65 h
  have hl3 : cs.length = 3 := hlen
  match cs, hl3, xs, hxs with
  | [v0, v1, v2], _, [y0, y1, y2], _ =>
    have g0 : DataW.trod enc Tryz.prog W 0 (fun _ => true) true m 3 [v0] = some y0 := hf 0 _ rfl
    have g1 : DataW.trod enc Tryz.prog W 0 (fun _ => true) true m 3 [v1] = some y1 := hf 1 _ rfl
    have g2 : DataW.trod enc Tryz.prog W 0 (fun _ => true) true m 3 [v2] = some y2 := hf 2 _ rfl
    obtain ⟨k, rfl, w0⟩ := open_num g0
    obtain ⟨lo, rfl, w1⟩ := open_num g1
    obtain ⟨hi, rfl, w2⟩ := open_num g2
    exact ⟨⟨k, lo, hi⟩, rfl, w0, w1, w2⟩
end Go.Proofs.YtenehghpmnajpaaGreatDoor

set_option linter.unusedVariables false
set_option linter.unusedSimpArgs false
namespace Go.Proofs.YtenehghpmnajpaaGreatDoor
open Go.RowKit
open Classical
noncomputable def apE (l : List Clk) (s : List Int) (p : Wri) : Int := if cchk l = 0 then (if SetOk l s ∧ p.kind = 1 then (if 0 ≤ p.unit ∧ p.unit < l.length then (if 0 ≤ p.value ∧ p.value < kOf l p.unit.toNat then 0 else 2) else 4) else 1) else cchk l
noncomputable def apL (l : List Clk) (s : List Int) (p : Wri) : List Int := if apE l s p = 0 then s.set p.unit.toNat p.value else []
def GivesXE (w : World) (xs : List Int) (en : Int) (e : Ending) (w' : World) : Prop := ∃ (a : Option Addr) (c : Nat), e = .returned (.tuple #[.slice a xs.length c, .int .i64 en]) ∧ SlOf 1 RI w' a xs ∧ Gr w w'
theorem apE_zero {l : List Clk} {s : List Int} {p : Wri} (h : apE l s p = 0) : cchk l = 0 ∧ SetOk l s ∧ ∃ u v : Nat, p = ⟨1, u, v⟩ ∧ u < l.length ∧ (v : Int) < kOf l u := by
  unfold apE at h
  split at h
  · rename_i h0
    split at h
    · rename_i h1
      split at h
      · rename_i h2
        split at h
        · rename_i h3
          refine ⟨h0, h1.1, p.unit.toNat, p.value.toNat, ?_, by omega, by omega⟩
          obtain ⟨k, u, v⟩ := p
          simp only at h1 h2 h3 ⊢
          rw [h1.2, Int.toNat_of_nonneg h2.1, Int.toNat_of_nonneg h3.1]
        · cases h
      · cases h
    · cases h
  · contradiction
theorem apE_set {l : List Clk} {s : List Int} {p : Wri} (h0 : cchk l = 0) (h : ¬ (SetOk l s ∧ p.kind = 1)) : apE l s p = 1 := by unfold apE; rw [if_pos h0, if_neg h]
theorem apE_unit {l : List Clk} {s : List Int} {p : Wri} (h0 : cchk l = 0) (h : SetOk l s ∧ p.kind = 1) (h1 : ¬ (0 ≤ p.unit ∧ p.unit < l.length)) : apE l s p = 4 := by unfold apE; rw [if_pos h0, if_pos h, if_neg h1]
theorem apE_val {l : List Clk} {s : List Int} {p : Wri} (h0 : cchk l = 0) (h : SetOk l s ∧ p.kind = 1) (h1 : 0 ≤ p.unit ∧ p.unit < l.length) (h2 : ¬ (0 ≤ p.value ∧ p.value < kOf l p.unit.toNat)) : apE l s p = 2 := by unfold apE; rw [if_pos h0, if_pos h, if_pos h1, if_neg h2]
theorem apE_ok {l : List Clk} {s : List Int} {p : Wri} (h0 : cchk l = 0) (h : SetOk l s ∧ p.kind = 1) (h1 : 0 ≤ p.unit ∧ p.unit < l.length) (h2 : 0 ≤ p.value ∧ p.value < kOf l p.unit.toNat) : apE l s p = 0 := by unfold apE; rw [if_pos h0, if_pos h, if_pos h1, if_pos h2]
theorem gives_err {w w' : World} {l : List Clk} {s : List Int} {p : Wri} {n : Int} (h : apE l s p = n) (hn : n ≠ 0) (hg : Gr w w') : GivesXE w (apL l s p) (apE l s p) (.returned (.tuple #[.slice none 0 0, .int .i64 n])) w' := by
  have e : apL l s p = [] := by unfold apL; rw [if_neg (by rw [h]; exact hn)]
  rw [e, h]
  exact ⟨none, 0, rfl, SlOf.nil _ _ _ _, hg⟩
theorem refApplyG_any (l : List Clk) (s : List Int) (p : Wri) (al aS : Option Addr) (cl cs : Nat) (w : World) (h : SlOf 5 RClk w al l) (hs : SlOf 1 RI w aS s) (fl : Fit l.length) (fs : Fit s.length) (hp : WriWd p) :
    Calls Tryz.prog 47 #[.slice al l.length cl, .slice aS s.length cs, .agg #[.int .i64 p.kind, .int .i64 p.unit, .int .i64 p.value]] w (GivesXE w (apL l s p) (apE l s p)) := by
  by_cases hz : apE l s p = 0
  · obtain ⟨h0, h1, u, v, rfl, hu, hv⟩ := apE_zero hz
    refine (refApply_any l s u v al aS cl cs w h hs h0 h1 hu hv).mono ?_
    rintro e w' ⟨B, c, rfl, hr, _, hg⟩
    have e1 : apL l s ⟨1, u, v⟩ = s.set u v := by unfold apL; rw [if_pos hz]; rfl
    have hS := h1.set hu (show 0 ≤ (v : Int) by omega) hv
    rw [e1, hz]
    exact ⟨_, c, by rw [List.length_set], hr.slI (setOk_wide h0 hS), hg⟩
  · have RC := Lib.hid (fun W (hW : Gr w W) => refCheck_any l al cl W (clks_gr h hW) fl)
    have ST := Lib.hid (fun W (hW : Gr w W) => refSettingG_any l s al aS cl cs W (clks_gr h hW) (hs.giI hW) fl fs)
    have RW := Lib.hid (Row.new w #[.int .i64 p.kind, .int .i64 p.unit, .int .i64 p.value] 65)
    have g0 : Hid (Gr w (w.alloc (.cells #[.int .i64 p.kind, .int .i64 p.unit, .int .i64 p.value] 65))) := Lib.hid ((Gr.refl _).alloc _)
    have H := Lib.hid h
    have HZ := Lib.hid hz
    obtain ⟨pk, pu, pv⟩ := p
    simp only at RW g0 ⊢
    clear h hs hz hp
    by_cases hc : cchk l = 0
    · have E1 := Lib.hid (apE_set (s := s) (p := ⟨pk, pu, pv⟩) hc)
      have E2 := Lib.hid (apE_unit (s := s) (p := ⟨pk, pu, pv⟩) hc)
      have E3 := Lib.hid (apE_val (s := s) (p := ⟨pk, pu, pv⟩) hc)
      have E4 := Lib.hid (apE_ok (s := s) (p := ⟨pk, pu, pv⟩) hc)
      have NB := Lib.hid (cchk_zero hc).1
      have hl := small_len (cchk_zero hc).1
      rw [hc] at RC
      obtain ⟨y, hy⟩ : ∃ y, decide (cchk l = 0 ∧ SetOk l s) = y := ⟨_, rfl⟩
      rw [hy] at ST
      have HY := Lib.hid hy
      have HC := Lib.hid hc
      unfold Fit at fl fs
      clear hy hc
      go_enter Tryz.func47, Tryz.ntmps47
      go_wp2_with fail
      refine (RC.out _ g0.out).mono ?_
      rintro e w1 ⟨rfl, hg1⟩
      have R1 := Lib.hid (RW.out.gr hg1)
      have G1 := Lib.hid (g0.out.trans hg1)
      obtain ⟨P, hP⟩ : ∃ P, w.heap.size = P := ⟨_, rfl⟩
      rw [hP] at R1 ⊢
      clear hg1 RW g0
      go_wp2_with fail
      refine (ST.out w1 G1.out).mono ?_
      rintro e w2 ⟨rfl, hg2⟩
      have R2 := Lib.hid (R1.out.gr hg2)
      have G2 := Lib.hid (G1.out.trans hg2)
      clear hg2 R1 G1 hP
      cases y
      · have e1 := Lib.hid (E1.out (fun q => absurd HY.out (by rw [decide_eq_true ⟨HC.out, q.1⟩]; simp)))
        go_wp2_with fail
        go_ret2
        exact gives_err e1.out (by decide) G2.out
      have SO := Lib.hid (of_decide_eq_true HY.out).2
      have c0 : w2.cell? ⟨P, 0, none⟩ = some (.int .i64 pk) := R2.out.cell 0 (by simp)
      have c1 : w2.cell? ⟨P, 1, none⟩ = some (.int .i64 pu) := R2.out.cell 1 (by simp)
      have c2 : w2.cell? ⟨P, 2, none⟩ = some (.int .i64 pv) := R2.out.cell 2 (by simp)
      have hx := R2.out.has
      by_cases h1 : pk = 1
      · subst h1
        by_cases hu0 : pu < 0
        · have d1 : decide (pu < 0) = true := decide_eq_true hu0
          have e1 := Lib.hid (E2.out ⟨SO.out, rfl⟩ (fun q => by first | omega | (simp only at q; omega)))
          clear hu0
          go_wp2_with fail
          go_ret2
          exact gives_err e1.out (by decide) G2.out
        by_cases hu1 : (l.length : Int) ≤ pu
        · have d1 : decide (pu < 0) = false := decide_eq_false (by omega)
          have d2 : decide ((l.length : Int) ≤ pu) = true := decide_eq_true hu1
          have e1 := Lib.hid (E2.out ⟨SO.out, rfl⟩ (fun q => by first | omega | (simp only at q; omega)))
          clear hu0 hu1
          go_wp2_with fail
          go_ret2
          exact gives_err e1.out (by decide) G2.out
        obtain ⟨u, rfl⟩ : ∃ u : Nat, pu = u := ⟨pu.toNat, by omega⟩
        have hu : u < l.length := by omega
        obtain ⟨fp, fc⟩ := small_at NB.out hu
        obtain ⟨b, o, rfl, ⟨d0, _⟩, ⟨ap, cp, d1, _⟩, ⟨ac, cc, d2, _, d2f, _⟩, ⟨d3, _⟩, ⟨d4, _⟩⟩ := clks_gr H.out G2.out u hu
        have k2 : (u : Int) < l.length := by omega
        have e1 : decide ((u : Int) < 0) = false := decide_eq_false (by omega)
        have e2 : decide (l.length ≤ u) = false := decide_eq_false (by omega)
        have bad : Hid (¬ (0 ≤ pv ∧ pv < l[u].choices.length)) := Lib.hid (fun q => HZ.out (E4.out ⟨SO.out, rfl⟩ ⟨by simp, by simpa using k2⟩ (by show 0 ≤ pv ∧ pv < kOf l (Int.toNat (u : Int)); rw [Int.toNat_natCast, kOf_at hu]; exact q)))
        have EE : Hid (apE l s ⟨1, u, pv⟩ = 2) := Lib.hid (E3.out ⟨SO.out, rfl⟩ ⟨by simp, by simpa using k2⟩ (fun q => bad.out (by have q : 0 ≤ pv ∧ pv < kOf l (Int.toNat (u : Int)) := q; rwa [Int.toNat_natCast, kOf_at hu] at q)))
        clear E1 E2 E3 E4 HZ hu0 hu1 d0 d1 d3 d4
        unfold Fit at d2f
        by_cases hv0 : pv < 0
        · have e3 : decide (pv < 0) = true := decide_eq_true hv0
          clear hv0 bad
          go_wp2_with fail
          (try (go_quiet (fail)); try (go_wp2_with fail))
          go_ret2
          exact gives_err EE.out (by decide) (by first | exact G2.out | exact G2.out.drewN _)
        · have e3 : decide (pv < 0) = false := decide_eq_false hv0
          have e4 : decide ((l[u].choices.length : Int) ≤ pv) = true := decide_eq_true (by have := bad.out; omega)
          clear hv0 bad
          go_wp2_with fail
          go_quiet (fail)
          go_wp2_with fail
          go_ret2
          exact gives_err EE.out (by decide) (G2.out.drewN _)
      · have d1 : (pk != 1) = true := by simp [h1]
        have e1 := Lib.hid (E1.out (fun q => h1 q.2))
        clear h1
        go_wp2_with fail
        go_ret2
        exact gives_err e1.out (by decide) G2.out
    · have E : Hid (apE l s ⟨pk, pu, pv⟩ = cchk l) := Lib.hid (by unfold apE; rw [if_neg hc])
      obtain ⟨B, hB⟩ : ∃ B, cchk l = B := ⟨_, rfl⟩
      rw [hB] at RC hc E
      have hb : (B != 0) = true := by simp [hc]
      have HC := Lib.hid hc
      clear hB ST hc
      go_enter Tryz.func47, Tryz.ntmps47
      go_wp2_with fail
      refine (RC.out _ g0.out).mono ?_
      rintro e w1 ⟨rfl, hg1⟩
      have G1 := Lib.hid (g0.out.trans hg1)
      clear hg1
      go_wp2_with fail
      go_ret2
      exact gives_err E.out HC.out G1.out
theorem proApplyG_any (l : List Clk) (s : List Int) (p : Wri) (al aS : Option Addr) (cl cs : Nat) (w : World) (h : SlOf 5 RClk w al l) (hs : SlOf 1 RI w aS s) (fl : Fit l.length) (fs : Fit s.length) (hp : WriWd p) :
    Calls Tryz.prog 46 #[.slice al l.length cl, .slice aS s.length cs, .agg #[.int .i64 p.kind, .int .i64 p.unit, .int .i64 p.value]] w (GivesXE w (apL l s p) (apE l s p)) := by
  by_cases hz : apE l s p = 0
  · obtain ⟨h0, h1, u, v, rfl, hu, hv⟩ := apE_zero hz
    refine (proApply_any l s u v al aS cl cs w h hs h0 h1 hu hv).mono ?_
    rintro e w' ⟨B, c, rfl, hr, _, hg⟩
    have e1 : apL l s ⟨1, u, v⟩ = s.set u v := by unfold apL; rw [if_pos hz]; rfl
    have hS := h1.set hu (show 0 ≤ (v : Int) by omega) hv
    rw [e1, hz]
    exact ⟨_, c, by rw [List.length_set], hr.slI (setOk_wide h0 hS), hg⟩
  · have RC := Lib.hid (fun W (hW : Gr w W) => pCheck_any l al cl W (clks_gr h hW) fl)
    have ST := Lib.hid (fun W (hW : Gr w W) => pSetting_any l s al aS cl cs W (clks_gr h hW) (hs.giI hW) fl fs)
    have RW := Lib.hid (Row.new w #[.int .i64 p.kind, .int .i64 p.unit, .int .i64 p.value] 65)
    have g0 : Hid (Gr w (w.alloc (.cells #[.int .i64 p.kind, .int .i64 p.unit, .int .i64 p.value] 65))) := Lib.hid ((Gr.refl _).alloc _)
    have H := Lib.hid h
    have HZ := Lib.hid hz
    obtain ⟨pk, pu, pv⟩ := p
    simp only at RW g0 ⊢
    clear h hs hz hp
    by_cases hc : cchk l = 0
    · have E1 := Lib.hid (apE_set (s := s) (p := ⟨pk, pu, pv⟩) hc)
      have E2 := Lib.hid (apE_unit (s := s) (p := ⟨pk, pu, pv⟩) hc)
      have E3 := Lib.hid (apE_val (s := s) (p := ⟨pk, pu, pv⟩) hc)
      have E4 := Lib.hid (apE_ok (s := s) (p := ⟨pk, pu, pv⟩) hc)
      have NB := Lib.hid (cchk_zero hc).1
      have hl := small_len (cchk_zero hc).1
      rw [hc] at RC
      obtain ⟨y, hy⟩ : ∃ y, decide (cchk l = 0 ∧ SetOk l s) = y := ⟨_, rfl⟩
      rw [hy] at ST
      have HY := Lib.hid hy
      have HC := Lib.hid hc
      unfold Fit at fl fs
      clear hy hc
      go_enter Tryz.func46, Tryz.ntmps46
      go_wp2_with fail
      refine (RC.out _ g0.out).mono ?_
      rintro e w1 ⟨rfl, hg1⟩
      have R1 := Lib.hid (RW.out.gr hg1)
      have G1 := Lib.hid (g0.out.trans hg1)
      obtain ⟨P, hP⟩ : ∃ P, w.heap.size = P := ⟨_, rfl⟩
      rw [hP] at R1 ⊢
      clear hg1 RW g0
      go_wp2_with fail
      refine (ST.out w1 G1.out).mono ?_
      rintro e w2 ⟨rfl, hg2⟩
      have R2 := Lib.hid (R1.out.gr hg2)
      have G2 := Lib.hid (G1.out.trans hg2)
      clear hg2 R1 G1 hP
      cases y
      · have e1 := Lib.hid (E1.out (fun q => absurd HY.out (by rw [decide_eq_true ⟨HC.out, q.1⟩]; simp)))
        go_wp2_with fail
        go_ret2
        exact gives_err e1.out (by decide) G2.out
      have SO := Lib.hid (of_decide_eq_true HY.out).2
      have c0 : w2.cell? ⟨P, 0, none⟩ = some (.int .i64 pk) := R2.out.cell 0 (by simp)
      have c1 : w2.cell? ⟨P, 1, none⟩ = some (.int .i64 pu) := R2.out.cell 1 (by simp)
      have c2 : w2.cell? ⟨P, 2, none⟩ = some (.int .i64 pv) := R2.out.cell 2 (by simp)
      have hx := R2.out.has
      by_cases h1 : pk = 1
      · subst h1
        by_cases hu0 : pu < 0
        · have d1 : decide (pu < 0) = true := decide_eq_true hu0
          have e1 := Lib.hid (E2.out ⟨SO.out, rfl⟩ (fun q => by first | omega | (simp only at q; omega)))
          clear hu0
          go_wp2_with fail
          go_ret2
          exact gives_err e1.out (by decide) G2.out
        by_cases hu1 : (l.length : Int) ≤ pu
        · have d1 : decide (pu < 0) = false := decide_eq_false (by omega)
          have d2 : decide ((l.length : Int) ≤ pu) = true := decide_eq_true hu1
          have e1 := Lib.hid (E2.out ⟨SO.out, rfl⟩ (fun q => by first | omega | (simp only at q; omega)))
          clear hu0 hu1
          go_wp2_with fail
          go_ret2
          exact gives_err e1.out (by decide) G2.out
        obtain ⟨u, rfl⟩ : ∃ u : Nat, pu = u := ⟨pu.toNat, by omega⟩
        have hu : u < l.length := by omega
        obtain ⟨fp, fc⟩ := small_at NB.out hu
        obtain ⟨b, o, rfl, ⟨d0, _⟩, ⟨ap, cp, d1, _⟩, ⟨ac, cc, d2, _, d2f, _⟩, ⟨d3, _⟩, ⟨d4, _⟩⟩ := clks_gr H.out G2.out u hu
        have k2 : (u : Int) < l.length := by omega
        have e1 : decide ((u : Int) < 0) = false := decide_eq_false (by omega)
        have e2 : decide (l.length ≤ u) = false := decide_eq_false (by omega)
        have bad : Hid (¬ (0 ≤ pv ∧ pv < l[u].choices.length)) := Lib.hid (fun q => HZ.out (E4.out ⟨SO.out, rfl⟩ ⟨by simp, by simpa using k2⟩ (by show 0 ≤ pv ∧ pv < kOf l (Int.toNat (u : Int)); rw [Int.toNat_natCast, kOf_at hu]; exact q)))
        have EE : Hid (apE l s ⟨1, u, pv⟩ = 2) := Lib.hid (E3.out ⟨SO.out, rfl⟩ ⟨by simp, by simpa using k2⟩ (fun q => bad.out (by have q : 0 ≤ pv ∧ pv < kOf l (Int.toNat (u : Int)) := q; rwa [Int.toNat_natCast, kOf_at hu] at q)))
        clear E1 E2 E3 E4 HZ hu0 hu1 d0 d1 d3 d4
        unfold Fit at d2f
        by_cases hv0 : pv < 0
        · have e3 : decide (pv < 0) = true := decide_eq_true hv0
          clear hv0 bad
          go_wp2_with fail
          (try (go_quiet (fail)); try (go_wp2_with fail))
          go_ret2
          exact gives_err EE.out (by decide) (by first | exact G2.out | exact G2.out.drewN _)
        · have e3 : decide (pv < 0) = false := decide_eq_false hv0
          have e4 : decide ((l[u].choices.length : Int) ≤ pv) = true := decide_eq_true (by have := bad.out; omega)
          clear hv0 bad
          go_wp2_with fail
          go_quiet (fail)
          go_wp2_with fail
          go_ret2
          exact gives_err EE.out (by decide) (G2.out.drewN _)
      · have d1 : (pk != 1) = true := by simp [h1]
        have e1 := Lib.hid (E1.out (fun q => h1 q.2))
        clear h1
        go_wp2_with fail
        go_ret2
        exact gives_err e1.out (by decide) G2.out
    · have E : Hid (apE l s ⟨pk, pu, pv⟩ = cchk l) := Lib.hid (by unfold apE; rw [if_neg hc])
      obtain ⟨B, hB⟩ : ∃ B, cchk l = B := ⟨_, rfl⟩
      rw [hB] at RC hc E
      have hb : (B != 0) = true := by simp [hc]
      have HC := Lib.hid hc
      clear hB ST hc
      go_enter Tryz.func46, Tryz.ntmps46
      go_wp2_with fail
      refine (RC.out _ g0.out).mono ?_
      rintro e w1 ⟨rfl, hg1⟩
      have G1 := Lib.hid (g0.out.trans hg1)
      clear hg1
      go_wp2_with fail
      refine (RC.out _ G1.out).mono ?_
      rintro e w2 ⟨rfl, hg2⟩
      have G2 := Lib.hid (G1.out.trans hg2)
      clear hg2
      go_wp2_with fail
      go_ret2
      exact gives_err E.out HC.out G2.out
theorem apL_len {l : List Clk} {s : List Int} {p : Wri} : (apL l s p).length ≤ s.length := by
  unfold apL
  split <;> simp
theorem trip_at {W : World} {Y : Nat} {ty : TypeId} {u v z : Value} (r : Row W Y ty [u, v, z]) : W.cell? ⟨Y, 0, none⟩ = some u ∧ W.cell? ⟨Y, 1, none⟩ = some v ∧ W.cell? ⟨Y, 2, none⟩ = some z ∧ Has W Y := ⟨r.cell 0 (by simp), r.cell 1 (by simp), r.cell 2 (by simp), r.has⟩
theorem raE {Q : Exit → Act → World → Prop} {s0 s1 s2 s3 s4 s5 s6 s7 s8 s9 s10 s11 s12 s13 s14 s15 s16 s17 s19 s20 s21 s22 s24 s25 s26 s27 s28 s29 s30 s31 s32 s33 s34 s35 s36 s37 s38 s39 s40 s41 s42 s43 s44 s45 s46 s47 s48 s49 s50 s51 s52 s53 s54 s55 s56 s57 s58 s59 s60 s61 s62 s63 s64 s65 s66 s67 s68 s69 s70 s71 s72 s73 s74 s75 s76 s77 s78 s79 s80 s81 s82 s83 s84 s85 s86 s87 s88 s89 s90 s91 s92 s93 s94 s95 s96 s97 s98 s99 s100 s101 s102 s103 s104 s105 s106 s107 s108 s109 s110 s111 s112 s113 s114 s115 s116 s117 s118 s119 s120 s121 s122 s123 s124 s125 s126 s127 s128 s129 s130 s131 s132 s133 s134 s135 s136 s137 s138 s139 s140 s141 s142 s143 s144 s145 s146 s147 s148 s149 s150 s151 s152 s153 s154 s155 s156 s157 s158 s159 s160 s161 s162 s163 s164 s165 s166 s167 s168 s169 s170 s171 s172 s173 s174 s175 s176 s177 s178 s179 s180 s181 s182 s183 s184 s185 s186 s187 s188 s189 s190 s191 s192 s193 s194 s195 s196 s197 s198 s199 s200 s201 s202 s203 s204 s205 s206 s207 s208 s209 s210 s211 s212 s213 s214 s215 s216 s217 s218 s219 s220 s221 s222 s223 s224 s225 s226 s227 s228 s229 s230 s231 s232 s233 s234 s235 s236 s237 s238 s239 s240 s241 s242 s243 s244 s245 s246 s247 s248 s249 s250 s251 s252 s253 s254 s255 s256 s257 s258 s259 s260 s261 s262 s263 s264 s268 s269 s270 s271 s272 s273 s274 s275 s276 s277 s278 s279 s280 s281 s282 s283 s284 s285 s286 s287 s288 s289 s290 s291 s292 s293 s294 s295 s296 : Value} {l : List Clk} {lf : List Int} {al aF : Option Addr} {cl cF gv : Nat} {W0 : World}
    (CL : SlOf 5 RClk W0 al l) (fl : Fit l.length) (SF : SlOf 1 RI W0 aF lf) (ff : lf.length ≤ 1000000) (V : ∀ k, k < 3 → ∃ p : Wri, WriWd p ∧ W0.cell? ⟨gv, k * 3, none⟩ = some (.int .i64 p.kind) ∧ W0.cell? ⟨gv, k * 3 + 1, none⟩ = some (.int .i64 p.unit) ∧ W0.cell? ⟨gv, k * 3 + 2, none⟩ = some (.int .i64 p.value))
    (h : ∀ (t14 t43 t44 t45 t46 t47 t267 t268 t269 t270 t271 t272 t273 t274 t275 t276 t277 t278 t279 t280 t281 t282 t283 t284 t285 t286 t287 t288 t289 t290 t291 t292 t293 t294 : Value) (wx : World), Gr W0 wx → Q (.exit 8) { tmps := #[s0, s1, s2, s3, s4, s5, s6, s7, s8, s9, s10, s11, s12, s13, t14, s15, s16, s17, .slice aF lf.length cF, s19, s20, s21, s22, .slice al l.length cl, s24, s25, s26, s27, s28, s29, s30, s31, s32, s33, s34, s35, s36, s37, s38, s39, s40, s41, s42, t43, t44, t45, t46, t47, s48, s49, s50, s51, s52, s53, s54, s55, s56, s57, s58, s59, s60, s61, s62, s63, s64, s65, s66, s67, s68, s69, s70, s71, s72, s73, s74, s75, s76, s77, s78, s79, s80, s81, s82, s83, s84, s85, s86, s87, s88, s89, s90, s91, s92, s93, s94, s95, s96, s97, s98, s99, s100, s101, s102, s103, s104, s105, s106, s107, s108, s109, s110, s111, s112, s113, s114, s115, s116, s117, s118, s119, s120, s121, s122, s123, s124, s125, s126, s127, s128, s129, s130, s131, s132, s133, s134, s135, s136, s137, s138, s139, s140, s141, s142, s143, s144, s145, s146, s147, s148, s149, s150, s151, s152, s153, s154, s155, s156, s157, s158, s159, s160, s161, s162, s163, s164, s165, s166, s167, s168, s169, s170, s171, s172, s173, s174, s175, s176, s177, s178, s179, s180, s181, s182, s183, s184, s185, s186, s187, s188, s189, s190, s191, s192, s193, s194, s195, s196, s197, s198, s199, s200, s201, s202, s203, s204, s205, s206, s207, s208, s209, s210, s211, s212, s213, s214, s215, s216, s217, s218, s219, s220, s221, s222, s223, s224, s225, s226, s227, s228, s229, s230, s231, s232, s233, s234, s235, s236, s237, s238, s239, s240, s241, s242, s243, s244, s245, s246, s247, s248, s249, s250, s251, s252, s253, s254, s255, s256, s257, s258, s259, s260, s261, s262, s263, s264, .slice (some ⟨gv, 0, none⟩) 3 3, .int .i64 3, t267, t268, t269, t270, t271, t272, t273, t274, t275, t276, t277, t278, t279, t280, t281, t282, t283, t284, t285, t286, t287, t288, t289, t290, t291, t292, t293, t294, s295, s296], defers := [] } wx) :
    (codeIn 8 Tryz.f5).wp Tryz.prog Q { tmps := #[s0, s1, s2, s3, s4, s5, s6, s7, s8, s9, s10, s11, s12, s13, s14, s15, s16, s17, .slice aF lf.length cF, s19, s20, s21, s22, .slice al l.length cl, s24, s25, s26, s27, s28, s29, s30, s31, s32, s33, s34, s35, s36, s37, s38, s39, s40, s41, s42, s43, s44, s45, s46, s47, s48, s49, s50, s51, s52, s53, s54, s55, s56, s57, s58, s59, s60, s61, s62, s63, s64, s65, s66, s67, s68, s69, s70, s71, s72, s73, s74, s75, s76, s77, s78, s79, s80, s81, s82, s83, s84, s85, s86, s87, s88, s89, s90, s91, s92, s93, s94, s95, s96, s97, s98, s99, s100, s101, s102, s103, s104, s105, s106, s107, s108, s109, s110, s111, s112, s113, s114, s115, s116, s117, s118, s119, s120, s121, s122, s123, s124, s125, s126, s127, s128, s129, s130, s131, s132, s133, s134, s135, s136, s137, s138, s139, s140, s141, s142, s143, s144, s145, s146, s147, s148, s149, s150, s151, s152, s153, s154, s155, s156, s157, s158, s159, s160, s161, s162, s163, s164, s165, s166, s167, s168, s169, s170, s171, s172, s173, s174, s175, s176, s177, s178, s179, s180, s181, s182, s183, s184, s185, s186, s187, s188, s189, s190, s191, s192, s193, s194, s195, s196, s197, s198, s199, s200, s201, s202, s203, s204, s205, s206, s207, s208, s209, s210, s211, s212, s213, s214, s215, s216, s217, s218, s219, s220, s221, s222, s223, s224, s225, s226, s227, s228, s229, s230, s231, s232, s233, s234, s235, s236, s237, s238, s239, s240, s241, s242, s243, s244, s245, s246, s247, s248, s249, s250, s251, s252, s253, s254, s255, s256, s257, s258, s259, s260, s261, s262, s263, s264, .slice (some ⟨gv, 0, none⟩) 3 3, .int .i64 3, .int .i64 0, s268, s269, s270, s271, s272, s273, s274, s275, s276, s277, s278, s279, s280, s281, s282, s283, s284, s285, s286, s287, s288, s289, s290, s291, s292, s293, s294, s295, s296], defers := [] } W0 := by
  have HQ := PLift.up h
  clear h
  simp only [codeIn, Tryz.f5, codeOf, Option.bind_some, Option.getD_some, Nat.beq, cond_true, cond_false]
  have CL' := Lib.hid CL
  have SF' := Lib.hid SF
  have VV := Lib.hid V
  clear CL SF V
  go_loopw [267] (fun s wi => ∃ j : Nat, j ≤ 3 ∧ s = .int .i64 j ∧ Gr W0 wi) (fun s _ => 3 - (intOf s).toNat)
  case atStart => exact ⟨0, Nat.zero_le _, rfl, Gr.refl _⟩
  case round =>
    obtain ⟨j, hj, rfl, hg⟩ := hrel
    have GG := Lib.hid hg
    clear hg
    by_cases hl : j < 3
    · have j3 : (j : Int) < 3 := by omega
      obtain ⟨⟨pk, pu, pv⟩, hp, hc0, hc1, hc2⟩ := VV.out j hl
      simp only at hc0 hc1 hc2
      have c0 := cell_gr GG.out hc0
      have c1 := cell_gr GG.out hc1
      have c2 := cell_gr GG.out hc2
      have hh := has_of_cell c0
      have V1 := Lib.hid (fun W (hW : Gr W0 W) => proApplyG_any l lf ⟨pk, pu, pv⟩ al aF cl cF W (CL'.out.gr RClk.mono hW) (SF'.out.giI hW) fl (by unfold Fit; omega) hp)
      have V2 := Lib.hid (fun W (hW : Gr W0 W) => refApplyG_any l lf ⟨pk, pu, pv⟩ al aF cl cF W (CL'.out.gr RClk.mono hW) (SF'.out.giI hW) fl (by unfold Fit; omega) hp)
      have LN : (apL l lf ⟨pk, pu, pv⟩).length ≤ lf.length := apL_len
      obtain ⟨xs, hxs⟩ : ∃ x, apL l lf ⟨pk, pu, pv⟩ = x := ⟨_, rfl⟩
      obtain ⟨xe, hxe⟩ : ∃ x, apE l lf ⟨pk, pu, pv⟩ = x := ⟨_, rfl⟩
      rw [hxs, hxe] at V1 V2
      rw [hxs] at LN
      simp only at V1 V2
      clear hxs hxe hc0 hc1 hc2 hp
      have lb : (xe != xe) = false := by simp
      obtain ⟨W1, hW1⟩ : ∃ W1 : World, Hid (W1 = wr.alloc (.cells #[.int .i64 pk, .int .i64 pu, .int .i64 pv] 65)) := ⟨_, Lib.hid rfl⟩
      have G1 : Hid (Gr wr W1) := Lib.hid (by rw [hW1.out]; exact (Gr.refl _).alloc _)
      have R1 : Hid (Row W1 wr.heap.size 65 [.int .i64 pk, .int .i64 pu, .int .i64 pv]) := Lib.hid (by rw [hW1.out]; exact Row.new _ _ _)
      have GG1 := Lib.hid (GG.out.trans G1.out)
      go_wp2_with fail
      rw [← hW1.out]
      clear c0 c1 c2 hh
      refine (V1.out W1 GG1.out).mono ?_
      rintro e w2 ⟨a1, c1, rfl, hs1, hg2⟩
      have G2 := Lib.hid (GG1.out.trans hg2)
      have S1 := Lib.hid hs1
      obtain ⟨y0, y1, y2, yh⟩ := trip_at (R1.out.gr hg2)
      clear hs1 hg2 V1
      go_wp2_with fail
      clear y0 y1 y2 yh
      refine (V2.out w2 G2.out).mono ?_
      rintro e w3 ⟨a2, c2, rfl, hs2, hg3⟩
      have G3 := Lib.hid (G2.out.trans hg3)
      have X := Lib.hid (ints_any xs xs a1 a2 c1 c2 w3 (S1.out.giI hg3) hs2 (by unfold Fit; omega) (by unfold Fit; omega))
      have dx : decide (xs = xs) = true := decide_eq_true rfl
      rw [dx] at X
      clear dx
      clear hs2 hg3 V2 S1
      go_wp2_with fail
      refine X.out.mono ?_
      rintro e w4 ⟨rfl, hg4⟩
      have G4 := Lib.hid (G3.out.trans hg4)
      clear hg4 X
      go_wp2_with fail
      go_roundw
      case rel => exact ⟨j + 1, by omega, by simp, G4.out⟩
      case measure => simp [intOf]; omega
    · obtain rfl : j = 3 := by omega
      go_wp2_with fail
      exact HQ.down _ _ _ _ _ _ _ _ _ _ _ _ _ _ _ _ _ _ _ _ _ _ _ _ _ _ _ _ _ _ _ _ _ _ _ GG.out
theorem states18_any (l : List Clk) (al : Option Addr) (cl : Nat) (w : World) (h : SlOf 5 RClk w al l) (hc : cchk l = 0) :
    Calls Tryz.prog 35 #[.slice al l.length cl] w (Grows w (.int .i64 (prodC l : Nat))) := by
  obtain ⟨nb, ok, pr, fs⟩ := cchk_zero hc
  have hl := small_len nb
  have NB := Lib.hid nb
  have H := Lib.hid h
  have PR := Lib.hid pr
  have TK : Hid (∀ k, prodC (l.take k) ≤ prodC l) := Lib.hid (fun k => prodC_take_le (allOk_cho ok) k)
  clear h hc nb ok pr fs
  go_enter Tryz.func35, Tryz.ntmps35
  go_wp2_with fail
  go_loopw [3, 8] (fun n i wr => ∃ k : Nat, k ≤ l.length ∧ i = .int .i64 k ∧ n = .int .i64 (prodC (l.take k) : Nat) ∧ Gr w wr) (fun _ i _ => l.length - (intOf i).toNat)
  case atStart => exact ⟨0, Nat.zero_le _, rfl, rfl, Gr.refl _⟩
  case round =>
    obtain ⟨k, hk, rfl, rfl, hg⟩ := hrel
    have HG := Lib.hid hg
    by_cases hlt2 : k < l.length
    · have h1 := TK.out k
      have h2 := TK.out (k + 1)
      have h3 := PR.out
      have hstep := prodC_take l k hlt2
      obtain ⟨x, ex⟩ : ∃ x, prodC (l.take k) = x := ⟨_, rfl⟩
      rw [ex] at h1 hstep ⊢
      rw [hstep] at h2
      have HST := Lib.hid hstep
      have hm1 : ((x * l[k].choices.length : Nat) : Int) ≤ 4096 := by omega
      have hm0 : (0 : Int) ≤ ((x * l[k].choices.length : Nat) : Int) := by omega
      rw [Int.natCast_mul] at hm0 hm1
      have hx4 : x ≤ 4096 := by omega
      obtain ⟨fp, fc⟩ := small_at NB.out hlt2
      obtain ⟨b, o, rfl, ⟨d0, _⟩, ⟨ap, cp, d1, _⟩, ⟨ac, cc, d2, d2l, d2f, _⟩, ⟨d3, _⟩, ⟨d4, _⟩⟩ := clks_gr H.out hg k hlt2
      unfold Fit at d2f
      have k2 : (k : Int) < l.length := by omega
      have dh := has_of_cell d0
      clear ex hg hstep h1 h2 h3
      go_wp2_with fail
      go_roundw
      case rel => exact ⟨k + 1, by omega, by go_num, by rw [HST.out, Int.natCast_mul], HG.out.alloc _⟩
      case measure => simp [intOf]; omega
    · obtain rfl : k = l.length := by omega
      clear hg
      go_wp2_with fail
      go_ret
      exact ⟨by rw [List.take_length]; rfl, HG.out⟩
end Go.Proofs.YtenehghpmnajpaaGreatDoor
