/- bringuprails.Draws. -/
import Derived.Test.YtoenkcojfogmmaaMkB
set_option linter.unusedVariables false
set_option linter.unusedSimpArgs false
namespace Go.Proofs.Ytoenkcojfogmmaa
open Go.RowKit
open Classical

theorem infoDrw : (Try.prog.info? 72).map (fun i => (i.zero, i.size, i.bytes)) = some (some (.agg #[.int .i64 0, .int .i64 0, .int .i64 0, .int .i64 0]), 4, 32) := by kernel_rfl
def encD (x : Drw) : List Value := [.int .i64 x.supply, .int .i64 x.low, .int .i64 x.high, .int .i64 x.load]
theorem encD_len (x : Drw) : (encD x).length = 4 := rfl
theorem encD_one (t : Drw) : ∀ u ∈ encD t, u.oneCell' = true := by
  intro u hu
  simp only [encD, List.mem_cons, List.not_mem_nil, or_false] at hu
  rcases hu with rfl | rfl | rfl | rfl <;> rfl
def MakesDrws (w : World) (b len : Nat) (l : List Sup) (e : Ending) (w' : World) : Prop :=
  ∃ ds ao cap, e = .returned (.slice ao ds.length cap) ∧ DrwsOk l ds ∧ ds.length ≤ cap ∧ Hold b w' (fun W => SlOf 4 RDrw W ao ds) ∧ Mv b len w w'
theorem mono_drws (ao : Option Addr) (l : List Drw) : GrMono (fun W => SlOf 4 RDrw W ao l) := fun _ _ hg h => drws_gr h hg
theorem mono_cell (a : Addr) (v : Value) : GrMono (fun W => W.cell? a = some v) := fun _ _ hg h => by cases a; exact cell_gr hg h
/-- The levels of a supply stay, wherever the tape stands. -/
theorem hold_levels {b len : Nat} {w : World} {bs os : Nat} {l : List Sup} (h : Hold b w (fun W => SlOf 5 RSup W (some ⟨bs, os, none⟩) l)) (ht : Tp w b len) {k : Nat} (hk : k < l.length) {av : Option Addr} {cv : Nat} (c : w.cell? ⟨bs, os + k * 5 + 1, none⟩ = some (.slice av l[k].levels.length cv)) :
    Hold b w (fun W => SlOf 1 RI W av l[k].levels) ∧ Hold b w (fun W => W.cell? ⟨bs, os + k * 5 + 1, none⟩ = some (.slice av l[k].levels.length cv)) := by
  have key : ∀ p : Int, (w.setCell ⟨b, 1, none⟩ (.int .i64 p)).cell? ⟨bs, os + k * 5 + 1, none⟩ = some (.slice av l[k].levels.length cv) ∧ SlOf 1 RI (w.setCell ⟨b, 1, none⟩ (.int .i64 p)) av l[k].levels := by
    intro p
    obtain ⟨b', o', e, _, ⟨ao', cp', hc, _, _, hs⟩, _⟩ := h p k hk
    cases e
    have hne : (⟨b, 1, none⟩ : Addr) ≠ ⟨bs, os + k * 5 + 1, none⟩ := by
      intro e
      rw [← e] at hc c
      rw [World.cell?_setCell_same _ _ _ c] at hc
      cases hc
    have h2 : (w.setCell ⟨b, 1, none⟩ (.int .i64 p)).cell? ⟨bs, os + k * 5 + 1, none⟩ = some (.slice av l[k].levels.length cv) := by
      rw [World.cell?_setCell_other]
      · exact c
      · exact hne
    rw [h2] at hc
    cases hc
    exact ⟨h2, hs⟩
  exact ⟨fun p => (key p).2, fun p => (key p).1⟩
theorem drws_at {base : Nat} {w : World} {v : Value} {ds : List Drw} (h : w.ownsRow base 72 4 v ds.length (ds.flatMap encD)) (hw : ∀ x ∈ ds, Wide x.supply ∧ Wide x.low ∧ Wide x.high ∧ Wide x.load) :
    ∃ a c, v = .slice a ds.length c ∧ ds.length ≤ c ∧ SlOf 4 RDrw w a ds := by
  rcases Nat.eq_zero_or_pos ds.length with e | e
  · have : ds = [] := List.eq_nil_of_length_eq_zero e
    subst this
    obtain ⟨a, c, rfl⟩ := owns_slice h
    exact ⟨a, c, rfl, Nat.zero_le _, SlOf.nil _ _ _ _⟩
  · obtain ⟨g, cap, rfl, hc, hb, hcell⟩ := owns_cell h e
    refine ⟨_, cap, rfl, hc, fun k hk => ⟨g, 0, rfl, ?_⟩⟩
    have key : ∀ j, (hj : j < 4) → w.cell? ⟨g, 0 + k * 4 + j, none⟩ = (encD ds[k])[j]? := fun j hj => by
      rw [← flat_at encD 4 encD_len ds k j hk hj, Nat.zero_add]
      exact hcell _ (by omega)
    obtain ⟨h1, h2, h3, h4⟩ := hw ds[k] (List.getElem_mem hk)
    exact ⟨⟨key 0 (by omega), h1⟩, ⟨key 1 (by omega), h2⟩, ⟨key 2 (by omega), h3⟩, ⟨key 3 (by omega), h4⟩⟩
theorem cell_four (w : World) (x0 x1 x2 x3 : Value) (t : TypeId) : ∀ j u, [x0, x1, x2, x3][j]? = some u → (w.alloc (.cells #[x0, x1, x2, x3] t)).cell? ((⟨w.heap.size, 0, none⟩ : Addr).add j) = some u := by
  intro j u hu
  obtain ⟨hj, hu⟩ := List.getElem?_eq_some_iff.1 hu
  have : (⟨w.heap.size, 0, none⟩ : Addr).add j = ⟨w.heap.size, j, none⟩ := by unfold Addr.add; split <;> simp_all
  rw [this, (Row.new w #[x0, x1, x2, x3] t).cell j hj, ← hu]

set_option maxRecDepth 100000 in
set_option maxHeartbeats 4000000 in
theorem mkDraws_any (l : List Sup) (ao : Option Addr) (cap : Nat) (w : World) (b len n : Nat) (ht : Tp w b len) (h : Hold b w (fun W => SlOf 5 RSup W ao l)) (hc : chk l = 0) (hl : 0 < l.length) (hn : n ≤ 30) :
    Calls Try.prog 10 #[.pointer (some ⟨b, 0, none⟩), .slice ao l.length cap, .int .i64 n] w (MakesDrws w b len l) := by
  have TT := Lib.hid ht
  have HB := Lib.hid ht.has
  have H := Lib.hid h
  have HC := Lib.hid hc
  have hz := chk_zero hc
  have OK := Lib.hid hz.2
  have n16 : l.length ≤ 16 := by
    have := hz.1
    simp only [Big, not_or] at this
    omega
  have L16 : Hid (∀ k (h : k < l.length), 1 ≤ l[k].levels.length ∧ l[k].levels.length ≤ 16) := Lib.hid fun k hk => by
    have h1 := hz.1
    simp only [Big, not_or] at h1
    refine ⟨?_, Classical.byContradiction fun q => h1.2 ⟨k, hk, by omega⟩⟩
    obtain ⟨_, q⟩ := hz.2 k hk
    exact q.1.2.2.1
  clear ht h hc hz
  obtain ⟨i0, hi, hz0, hz1, hz2⟩ := info_parts infoDrw
  go_enter Try.func10, Try.ntmps10
  go_wp2_with fail
  refine (nM_any _ b len _ TT.out (by omega) (by omega)).mono ?_
  rintro e w1 ⟨x, rfl, ⟨hx1, hx2⟩, hm⟩
  obtain ⟨m, rfl⟩ := Int.eq_ofNat_of_zero_le (show 0 ≤ x by omega)
  have M1 := Lib.hid hm
  clear hm
  go_wp2_with fail
  go_loopw [7, 8] (fun s7 s8 wr => ∃ (ds : List Drw) (m : Nat), s8 = .int .i64 m ∧ Mv b len w wr ∧ wr.ownsRow w.heap.size 72 4 s7 ds.length (ds.flatMap encD) ∧ (∀ x ∈ ds, DrwOk l x) ∧ ds.length + m ≤ 32) (fun _ s8 _ => (intOf s8).toNat)
  case atStart => exact ⟨[], m, rfl, M1.out, World.ownsRow_nil _ _ _ _, fun t h => absurd h List.not_mem_nil, by simp; omega⟩
  case round =>
    clear M1
    obtain ⟨ds, m, rfl, hm, ho, hok, hle⟩ := hrel
    have HM := Lib.hid hm
    have HO := Lib.hid ho
    have DK := Lib.hid hok
    obtain ⟨a7, c7, rfl⟩ := owns_slice ho
    clear hm ho hok
    by_cases h0 : 0 < m
    · obtain ⟨m', rfl⟩ : ∃ m', m = m' + 1 := ⟨m - 1, by omega⟩
      have g0 : (0 : Int) < ((m' + 1 : Nat) : Int) := by omega
      go_wp2_with fail
      refine (nM_any _ b len _ (HM.out.tp TT.out) (by omega) (by omega)).mono ?_
      rintro e w2 ⟨k0, rfl, ⟨hk1, hk2⟩, hm2⟩
      obtain ⟨k, rfl⟩ := Int.eq_ofNat_of_zero_le hk1
      have hkl : k < l.length := by omega
      have M2 := Lib.hid (HM.out.trans HB.out hm2)
      have MW2 := Lib.hid hm2
      have T2 := Lib.hid (M2.out.tp TT.out)
      have H2 := Lib.hid (H.out.mv HB.out M2.out (mono_sups _ _))
      clear hm2
      obtain ⟨bs, os, rfl, _, ⟨av, cv, q1, _, _, _⟩, _⟩ := H2.out.now T2.out k hkl
      have HL := Lib.hid (hold_levels H2.out T2.out hkl q1)
      have ll := L16.out k hkl
      have x0 := has_of_cell q1
      have gk0 : (0 : Int) ≤ k := by omega
      have gk1 : (k : Int) < l.length := by omega
      have hb2 : Hid (b < w2.heap.size) := Lib.hid T2.out.has
      go_wp2_with fail
      go_cut [10] (fun s10 wx => ∃ v : Int, s10 = .int .i64 v ∧ 1 ≤ v ∧ v ≤ 5000 ∧ Mv b len w2 wx)
      case first =>
        go_region_law (
          (go_simp; go_at_call 34; refine (nM_any _ b len _ (T2.out.gr (by repeat (first | with_reducible exact Gr.refl _ | with_reducible refine Gr.drew ?_ | with_reducible refine Gr.alloc _ ?_))) (by omega) (by omega)).mono ?_; rintro e w3 ⟨x, rfl, ⟨hx1, hx2⟩, hm⟩; obtain ⟨xn, rfl⟩ := Int.eq_ofNat_of_zero_le hx1; have M3 := Lib.hid ((Mv.of_gr T2.out (by repeat (first | with_reducible exact Gr.refl _ | with_reducible refine Gr.drew ?_ | with_reducible refine Gr.alloc _ ?_))).trans hb2.out hm); have T3 := Lib.hid (M3.out.tp T2.out); have hxl : xn < l[k].levels.length := (by omega); have q1' := (HL.out.2.mv hb2.out M3.out (mono_cell _ _)).now T3.out; have x0' := has_of_cell q1'; obtain ⟨bv, ov, rfl, y1, _⟩ := ((HL.out.1.mv hb2.out M3.out (mono_I _ _)).now T3.out).one xn hxl; have xv := has_of_cell y1; have gv0 : (0 : Int) ≤ xn := (by omega); have gv1 : (xn : Int) < l[k].levels.length := (by omega); have lvb := Lib.hid (allOk_lv OK.out k hkl xn hxl); clear hm))
        all_goals (go_wp2_with fail; go_meet)
        all_goals exact ⟨_, rfl, lvb.out.1, lvb.out.2, M3.out⟩
      obtain ⟨v, rfl, hv1, hv2, hm3⟩ := hcut
      obtain ⟨w3, rfl⟩ : ∃ w3 : World, w3 = wc := ⟨_, rfl⟩
      have M3 := Lib.hid (M2.out.trans HB.out hm3)
      have MW3 := Lib.hid (MW2.out.trans (by have := HM.out.size; have := HB.out; omega) hm3)
      clear hm3 q1 x0 HL
      go_wp2_with fail
      refine (pickNew_any w3 b len (M3.out.tp TT.out) _ rfl _ 4 [0, 10, 100, 1000] (InTo 0 1000) rfl rfl (by omega) (by omega) (by simp [InTo])).mono ?_
      rintro e w4 ⟨p1, rfl, ⟨hp1, hp2⟩, hm4⟩
      have M4 := Lib.hid (M3.out.trans HB.out hm4)
      have MW4 := Lib.hid (MW3.out.trans (by have := HM.out.size; have := HB.out; omega) hm4)
      clear hm4 M3 MW3
      rcases Int.lt_or_le p1 v with hA | hA
      · go_wp2_with fail
        refine (pickNew_any w4 b len (M4.out.tp TT.out) _ rfl _ 4 [0, 50, 500, 2000] (InTo 0 2000) rfl rfl (by omega) (by omega) (by simp [InTo])).mono ?_
        rintro e w5 ⟨p2, rfl, ⟨hp3, hp4⟩, hm5⟩
        have M5 := Lib.hid (M4.out.trans HB.out hm5)
        have MW5 := Lib.hid (MW4.out.trans (by have := HM.out.size; have := HB.out; omega) hm5)
        clear hm5 M4 MW4
        rcases Int.lt_or_le (v + p2) 5000 with hB | hB
        · go_wp2_with fail
          refine (pickNew_any w5 b len (M5.out.tp TT.out) _ rfl _ 4 [0, 10, 100, 300] (InTo 0 300) rfl rfl (by omega) (by omega) (by simp [InTo])).mono ?_
          rintro e w6 ⟨p3, rfl, ⟨hp5, hp6⟩, hm6⟩
          have M6 := Lib.hid (M5.out.trans HB.out hm6)
          have MW6 := Lib.hid (MW5.out.trans (by have := HM.out.size; have := HB.out; omega) hm6)
          clear hm6 M5 MW5
          have OX := Lib.hid (MW6.out.owns HO.out HB.out)
          have DO : Hid (DrwOk l ⟨k, v - p1, v + p2, p3⟩) := Lib.hid (by unfold DrwOk; simp only; omega)
          go_wp2_with (at_builtin; refine wpList_append_own _ rfl _ _ 27 rfl w.heap.size 72 i0 (.agg #[.int .i64 0, .int .i64 0, .int .i64 0, .int .i64 0]) 4 32 Try.underlying27 hi hz0 hz1 hz2 rfl (by decide) (.slice a7 ds.length c7) ds.length (ds.flatMap encD) rfl ((OX.out.alloc _).alloc _) ⟨w6.heap.size + 1, 0, none⟩ 1 1 (encD ⟨k, v - p1, v + p2, p3⟩) rfl rfl (by have := cell_four (w6.alloc (.cells #[.int .i64 k, .int .i64 (v - p1), .int .i64 (v + p2), .int .i64 p3] 72)) (.int .i64 k) (.int .i64 (v - p1)) (.int .i64 (v + p2)) (.int .i64 p3) 72; simpa [encD] using this) (encD_one _) (by unfold maxLen; omega) (by omega) (by have := M6.out.size; simp; omega) ?_; intro v' wz hown' hgrow hnil; have HOz := Lib.hid hown'; have HGz := Lib.hid hgrow; clear hown' hgrow hnil)
          go_roundw
          case rel =>
            refine ⟨ds ++ [⟨k, v - p1, v + p2, p3⟩], m', by go_num, ?_, ?_, ?_, by simp; omega⟩
            · exact ((M6.out.alloc _).alloc _).grown HGz.out (fun j e => (OX.out.lt j e).1)
            · have := HOz.out
              rw [List.length_append, List.flatMap_append]
              simpa using this
            · intro t ht
              rcases List.mem_append.1 ht with q | q
              · exact DK.out t q
              · rw [List.mem_singleton.1 q]; exact DO.out
          case measure => simp [intOf]
        · go_wp2_with fail
          refine (pickNew_any w5 b len (M5.out.tp TT.out) _ rfl _ 4 [0, 10, 100, 300] (InTo 0 300) rfl rfl (by omega) (by omega) (by simp [InTo])).mono ?_
          rintro e w6 ⟨p3, rfl, ⟨hp5, hp6⟩, hm6⟩
          have M6 := Lib.hid (M5.out.trans HB.out hm6)
          have MW6 := Lib.hid (MW5.out.trans (by have := HM.out.size; have := HB.out; omega) hm6)
          clear hm6 M5 MW5
          have OX := Lib.hid (MW6.out.owns HO.out HB.out)
          have DO : Hid (DrwOk l ⟨k, v - p1, 5000, p3⟩) := Lib.hid (by unfold DrwOk; simp only; omega)
          go_wp2_with (at_builtin; refine wpList_append_own _ rfl _ _ 27 rfl w.heap.size 72 i0 (.agg #[.int .i64 0, .int .i64 0, .int .i64 0, .int .i64 0]) 4 32 Try.underlying27 hi hz0 hz1 hz2 rfl (by decide) (.slice a7 ds.length c7) ds.length (ds.flatMap encD) rfl ((OX.out.alloc _).alloc _) ⟨w6.heap.size + 1, 0, none⟩ 1 1 (encD ⟨k, v - p1, 5000, p3⟩) rfl rfl (by have := cell_four (w6.alloc (.cells #[.int .i64 k, .int .i64 (v - p1), .int .i64 (5000), .int .i64 p3] 72)) (.int .i64 k) (.int .i64 (v - p1)) (.int .i64 (5000)) (.int .i64 p3) 72; simpa [encD] using this) (encD_one _) (by unfold maxLen; omega) (by omega) (by have := M6.out.size; simp; omega) ?_; intro v' wz hown' hgrow hnil; have HOz := Lib.hid hown'; have HGz := Lib.hid hgrow; clear hown' hgrow hnil)
          go_roundw
          case rel =>
            refine ⟨ds ++ [⟨k, v - p1, 5000, p3⟩], m', by go_num, ?_, ?_, ?_, by simp; omega⟩
            · exact ((M6.out.alloc _).alloc _).grown HGz.out (fun j e => (OX.out.lt j e).1)
            · have := HOz.out
              rw [List.length_append, List.flatMap_append]
              simpa using this
            · intro t ht
              rcases List.mem_append.1 ht with q | q
              · exact DK.out t q
              · rw [List.mem_singleton.1 q]; exact DO.out
          case measure => simp [intOf]
      · go_wp2_with fail
        refine (pickNew_any w4 b len (M4.out.tp TT.out) _ rfl _ 4 [0, 50, 500, 2000] (InTo 0 2000) rfl rfl (by omega) (by omega) (by simp [InTo])).mono ?_
        rintro e w5 ⟨p2, rfl, ⟨hp3, hp4⟩, hm5⟩
        have M5 := Lib.hid (M4.out.trans HB.out hm5)
        have MW5 := Lib.hid (MW4.out.trans (by have := HM.out.size; have := HB.out; omega) hm5)
        clear hm5 M4 MW4
        rcases Int.lt_or_le (v + p2) 5000 with hB | hB
        · go_wp2_with fail
          refine (pickNew_any w5 b len (M5.out.tp TT.out) _ rfl _ 4 [0, 10, 100, 300] (InTo 0 300) rfl rfl (by omega) (by omega) (by simp [InTo])).mono ?_
          rintro e w6 ⟨p3, rfl, ⟨hp5, hp6⟩, hm6⟩
          have M6 := Lib.hid (M5.out.trans HB.out hm6)
          have MW6 := Lib.hid (MW5.out.trans (by have := HM.out.size; have := HB.out; omega) hm6)
          clear hm6 M5 MW5
          have OX := Lib.hid (MW6.out.owns HO.out HB.out)
          have DO : Hid (DrwOk l ⟨k, 0, v + p2, p3⟩) := Lib.hid (by unfold DrwOk; simp only; omega)
          go_wp2_with (at_builtin; refine wpList_append_own _ rfl _ _ 27 rfl w.heap.size 72 i0 (.agg #[.int .i64 0, .int .i64 0, .int .i64 0, .int .i64 0]) 4 32 Try.underlying27 hi hz0 hz1 hz2 rfl (by decide) (.slice a7 ds.length c7) ds.length (ds.flatMap encD) rfl ((OX.out.alloc _).alloc _) ⟨w6.heap.size + 1, 0, none⟩ 1 1 (encD ⟨k, 0, v + p2, p3⟩) rfl rfl (by have := cell_four (w6.alloc (.cells #[.int .i64 k, .int .i64 (0), .int .i64 (v + p2), .int .i64 p3] 72)) (.int .i64 k) (.int .i64 (0)) (.int .i64 (v + p2)) (.int .i64 p3) 72; simpa [encD] using this) (encD_one _) (by unfold maxLen; omega) (by omega) (by have := M6.out.size; simp; omega) ?_; intro v' wz hown' hgrow hnil; have HOz := Lib.hid hown'; have HGz := Lib.hid hgrow; clear hown' hgrow hnil)
          go_roundw
          case rel =>
            refine ⟨ds ++ [⟨k, 0, v + p2, p3⟩], m', by go_num, ?_, ?_, ?_, by simp; omega⟩
            · exact ((M6.out.alloc _).alloc _).grown HGz.out (fun j e => (OX.out.lt j e).1)
            · have := HOz.out
              rw [List.length_append, List.flatMap_append]
              simpa using this
            · intro t ht
              rcases List.mem_append.1 ht with q | q
              · exact DK.out t q
              · rw [List.mem_singleton.1 q]; exact DO.out
          case measure => simp [intOf]
        · exact absurd hB (by omega)
    · have hm0 : m = 0 := by omega
      subst hm0
      have hwd : ∀ x ∈ ds, Wide x.supply ∧ Wide x.low ∧ Wide x.high ∧ Wide x.load := fun x hx => by
        have := DK.out x hx
        unfold DrwOk at this
        unfold Wide
        omega
      have WD := Lib.hid hwd
      clear hwd
      go_wp2_with fail
      go_ret
      refine ⟨ds, a7, c7, rfl, ⟨HC.out, by omega, fun k hk => DK.out _ (List.getElem_mem hk)⟩, ?_, fun p => ?_, HM.out⟩
      · obtain ⟨a', c', e', h1, h2⟩ := drws_at HO.out WD.out
        cases e'; exact h1
      · obtain ⟨a', c', e', h1, h2⟩ := drws_at (ownsRow_setCell_below HO.out (a := ⟨b, 1, none⟩) HB.out (.int .i64 p)) WD.out
        cases e'; exact h2
end Go.Proofs.Ytoenkcojfogmmaa
