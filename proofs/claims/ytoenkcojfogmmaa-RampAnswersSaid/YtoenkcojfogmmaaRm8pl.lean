/- Lemmas and contracts for the proof of RampAnswers (several texts in one, printed by wip/tools/pack.py): ZMkC RqV RxC RxD RxE RqA. -/
import Derived.Test.YtoenkcojfogmmaaRm8ph
import Derived.Test.YtoenkcojfogmmaaRm8pe
import Derived.Test.YtoenkcojfogmmaaRm8pf
import Derived.Test.YtoenkcojfogmmaaRm8pk
import Derived.Test.YtoenkcojfogmmaaRm8pg
set_option maxRecDepth 100000
set_option maxHeartbeats 16000000
set_option linter.unusedVariables false
set_option linter.unusedSimpArgs false
namespace Go.Proofs.Ytoenkcojfogmmaa
open Go.RowKit
open Classical
theorem infoDrw : (Try.prog.info? 72).map (fun i => (i.zero, i.size, i.bytes)) = some (some (.agg #[.int .i64 0, .int .i64 0, .int .i64 0, .int .i64 0]), 4, 32) := by kernel_rfl
def encD (x : Drw) : List Value := [.int .i64 x.supply, .int .i64 x.low, .int .i64 x.high, .int .i64 x.load]
theorem encD_len (x : Drw) : (encD x).length = 4 := rfl
theorem encD_one (t : Drw) : ∀ u ∈ encD t, u.oneCell' = true := by
  intro u hu
  simp only [encD, List.mem_cons, List.not_mem_nil, or_false] at hu
  rcases hu with rfl | rfl | rfl | rfl <;> rfl
def MakesDrws (w : World) (b len : Nat) (l : List Sup) (e : Ending) (w' : World) : Prop :=
  ∃ ds ao cap, e = .returned (.slice ao ds.length cap) ∧ DrwsOk l ds ∧ ds.length ≤ cap ∧ Hold b w' (fun W => SlOf 4 RDrw W ao ds) ∧ Mv b len w w'
theorem mono_drws (ao : Option Addr) (l : List Drw) : GrMono (fun W => SlOf 4 RDrw W ao l) := fun _ _ hg h => drws_gr h hg
theorem mono_cell (a : Addr) (v : Value) : GrMono (fun W => W.cell? a = some v) := fun _ _ hg h => by cases a; exact cell_gr hg h
theorem hold_levels {b len : Nat} {w : World} {bs os : Nat} {l : List Sup} (h : Hold b w (fun W => SlOf 5 RSup W (some ⟨bs, os, none⟩) l)) (ht : Tp w b len) {k : Nat} (hk : k < l.length) {av : Option Addr} {cv : Nat} (c : w.cell? ⟨bs, os + k * 5 + 1, none⟩ = some (.slice av l[k].levels.length cv)) :
    Hold b w (fun W => SlOf 1 RI W av l[k].levels) ∧ Hold b w (fun W => W.cell? ⟨bs, os + k * 5 + 1, none⟩ = some (.slice av l[k].levels.length cv)) := by
  have key : ∀ p : Int, (w.setCell ⟨b, 1, none⟩ (.int .i64 p)).cell? ⟨bs, os + k * 5 + 1, none⟩ = some (.slice av l[k].levels.length cv) ∧ SlOf 1 RI (w.setCell ⟨b, 1, none⟩ (.int .i64 p)) av l[k].levels := by
    intro p
    obtain ⟨b', o', e, _, ⟨ao', cp', hc, _, _, hs⟩, _⟩ := h p k hk
    cases e
    have hne : (⟨b, 1, none⟩ : Addr) ≠ ⟨bs, os + k * 5 + 1, none⟩ := by
      intro e
      rw [← e] at hc c
      rw [World.cell?_setCell_same _ _ _ c] at hc
      cases hc
    have h2 : (w.setCell ⟨b, 1, none⟩ (.int .i64 p)).cell? ⟨bs, os + k * 5 + 1, none⟩ = some (.slice av l[k].levels.length cv) := by
      rw [World.cell?_setCell_other]
      · exact c
      · exact hne
    rw [h2] at hc
    cases hc
    exact ⟨h2, hs⟩
  exact ⟨fun p => (key p).2, fun p => (key p).1⟩
theorem drws_at {base : Nat} {w : World} {v : Value} {ds : List Drw} (h : w.ownsRow base 72 4 v ds.length (ds.flatMap encD)) (hw : ∀ x ∈ ds, Wide x.supply ∧ Wide x.low ∧ Wide x.high ∧ Wide x.load) :
    ∃ a c, v = .slice a ds.length c ∧ ds.length ≤ c ∧ SlOf 4 RDrw w a ds := by
  rcases Nat.eq_zero_or_pos ds.length with e | e
  · have : ds = [] := List.eq_nil_of_length_eq_zero e
    subst this
    obtain ⟨a, c, rfl⟩ := owns_slice h
    exact ⟨a, c, rfl, Nat.zero_le _, SlOf.nil _ _ _ _⟩
  · obtain ⟨g, cap, rfl, hc, hb, hcell⟩ := owns_cell h e
    refine ⟨_, cap, rfl, hc, fun k hk => ⟨g, 0, rfl, ?_⟩⟩
    have key : ∀ j, (hj : j < 4) → w.cell? ⟨g, 0 + k * 4 + j, none⟩ = (encD ds[k])[j]? := fun j hj => by
      rw [← flat_at encD 4 encD_len ds k j hk hj, Nat.zero_add]
      exact hcell _ (by omega)
    obtain ⟨h1, h2, h3, h4⟩ := hw ds[k] (List.getElem_mem hk)
    exact ⟨⟨key 0 (by omega), h1⟩, ⟨key 1 (by omega), h2⟩, ⟨key 2 (by omega), h3⟩, ⟨key 3 (by omega), h4⟩⟩
theorem cell_four (w : World) (x0 x1 x2 x3 : Value) (t : TypeId) : ∀ j u, [x0, x1, x2, x3][j]? = some u → (w.alloc (.cells #[x0, x1, x2, x3] t)).cell? ((⟨w.heap.size, 0, none⟩ : Addr).add j) = some u := by
  intro j u hu
  obtain ⟨hj, hu⟩ := List.getElem?_eq_some_iff.1 hu
  have : (⟨w.heap.size, 0, none⟩ : Addr).add j = ⟨w.heap.size, j, none⟩ := by unfold Addr.add; split <;> simp_all
  rw [this, (Row.new w #[x0, x1, x2, x3] t).cell j hj, ← hu]
theorem mkDraws_any (l : List Sup) (ao : Option Addr) (cap : Nat) (w : World) (b len n : Nat) (ht : Tp w b len) (h : Hold b w (fun W => SlOf 5 RSup W ao l)) (hc : chk l = 0) (hl : 0 < l.length) (hn : n ≤ 30) :
    Calls Try.prog 10 #[.pointer (some ⟨b, 0, none⟩), .slice ao l.length cap, .int .i64 n] w (MakesDrws w b len l) := by
  have TT := Lib.hid ht
  have HB := Lib.hid ht.has
  have H := Lib.hid h
  have HC := Lib.hid hc
  have hz := chk_zero hc
  have OK := Lib.hid hz.2
  have n16 : l.length ≤ 16 := by
    have := hz.1
    simp only [BigZ, not_or] at this
    omega
  have L16 : Hid (∀ k (h : k < l.length), 1 ≤ l[k].levels.length ∧ l[k].levels.length ≤ 16) := Lib.hid fun k hk => by
    have h1 := hz.1
    simp only [BigZ, not_or] at h1
    refine ⟨?_, Classical.byContradiction fun q => h1.2 ⟨k, hk, by omega⟩⟩
    obtain ⟨_, q⟩ := hz.2 k hk
    exact q.1.2.2.1
  clear ht h hc hz
  obtain ⟨i0, hi, hz0, hz1, hz2⟩ := info_parts infoDrw
  go_enter Try.func10, Try.ntmps10
  go_wp2_with fail
  refine (nM_any _ b len _ TT.out (by omega) (by omega)).mono ?_
  rintro e w1 ⟨x, rfl, ⟨hx1, hx2⟩, hm⟩
  obtain ⟨m, rfl⟩ := Int.eq_ofNat_of_zero_le (show 0 ≤ x by omega)
  have M1 := Lib.hid hm
  clear hm
  go_wp2_with fail
  go_loopw [7, 8] (fun s7 s8 wr => ∃ (ds : List Drw) (m : Nat), s8 = .int .i64 m ∧ Mv b len w wr ∧ wr.ownsRow w.heap.size 72 4 s7 ds.length (ds.flatMap encD) ∧ (∀ x ∈ ds, DrwOk l x) ∧ ds.length + m ≤ 32) (fun _ s8 _ => (intOf s8).toNat)
  case atStart => exact ⟨[], m, rfl, M1.out, World.ownsRow_nil _ _ _ _, fun t h => absurd h List.not_mem_nil, by simp; omega⟩
  case round =>
    clear M1
    obtain ⟨ds, m, rfl, hm, ho, hok, hle⟩ := hrel
    have HM := Lib.hid hm
    have HO := Lib.hid ho
    have DK := Lib.hid hok
    obtain ⟨a7, c7, rfl⟩ := owns_slice ho
    clear hm ho hok
    by_cases h0 : 0 < m
    · obtain ⟨m', rfl⟩ : ∃ m', m = m' + 1 := ⟨m - 1, by omega⟩
      have g0 : (0 : Int) < ((m' + 1 : Nat) : Int) := by omega
      go_wp2_with fail
      refine (nM_any _ b len _ (HM.out.tp TT.out) (by omega) (by omega)).mono ?_
      rintro e w2 ⟨k0, rfl, ⟨hk1, hk2⟩, hm2⟩
      obtain ⟨k, rfl⟩ := Int.eq_ofNat_of_zero_le hk1
      have hkl : k < l.length := by omega
      have M2 := Lib.hid (HM.out.trans HB.out hm2)
      have MW2 := Lib.hid hm2
      have T2 := Lib.hid (M2.out.tp TT.out)
      have H2 := Lib.hid (H.out.mv HB.out M2.out (mono_sups _ _))
      clear hm2
      obtain ⟨bs, os, rfl, _, ⟨av, cv, q1, _, _, _⟩, _⟩ := H2.out.now T2.out k hkl
      have HL := Lib.hid (hold_levels H2.out T2.out hkl q1)
      have ll := L16.out k hkl
      have x0 := has_of_cell q1
      have gk0 : (0 : Int) ≤ k := by omega
      have gk1 : (k : Int) < l.length := by omega
      have hb2 : Hid (b < w2.heap.size) := Lib.hid T2.out.has
      go_wp2_with fail
      go_cut [10] (fun s10 wx => ∃ v : Int, s10 = .int .i64 v ∧ 1 ≤ v ∧ v ≤ 5000 ∧ Mv b len w2 wx)
      case first =>
        go_region_law (
          (go_simp; go_at_call 34; refine (nM_any _ b len _ (T2.out.gr (by repeat (first | with_reducible exact Gr.refl _ | with_reducible refine Gr.drew ?_ | with_reducible refine Gr.alloc _ ?_))) (by omega) (by omega)).mono ?_; rintro e w3 ⟨x, rfl, ⟨hx1, hx2⟩, hm⟩; obtain ⟨xn, rfl⟩ := Int.eq_ofNat_of_zero_le hx1; have M3 := Lib.hid ((Mv.of_gr T2.out (by repeat (first | with_reducible exact Gr.refl _ | with_reducible refine Gr.drew ?_ | with_reducible refine Gr.alloc _ ?_))).trans hb2.out hm); have T3 := Lib.hid (M3.out.tp T2.out); have hxl : xn < l[k].levels.length := (by omega); have q1' := (HL.out.2.mv hb2.out M3.out (mono_cell _ _)).now T3.out; have x0' := has_of_cell q1'; obtain ⟨bv, ov, rfl, y1, _⟩ := ((HL.out.1.mv hb2.out M3.out (mono_I _ _)).now T3.out).one xn hxl; have xv := has_of_cell y1; have gv0 : (0 : Int) ≤ xn := (by omega); have gv1 : (xn : Int) < l[k].levels.length := (by omega); have lvb := Lib.hid (allOk_lv OK.out k hkl xn hxl); clear hm))
        all_goals (go_wp2_with fail; go_meet)
        all_goals exact ⟨_, rfl, lvb.out.1, lvb.out.2, M3.out⟩
      obtain ⟨v, rfl, hv1, hv2, hm3⟩ := hcut
      obtain ⟨w3, rfl⟩ : ∃ w3 : World, w3 = wc := ⟨_, rfl⟩
      have M3 := Lib.hid (M2.out.trans HB.out hm3)
      have MW3 := Lib.hid (MW2.out.trans (by have := HM.out.size; have := HB.out; omega) hm3)
      clear hm3 q1 x0 HL
      go_wp2_with fail
      refine (pickNew_any w3 b len (M3.out.tp TT.out) _ rfl _ 4 [0, 10, 100, 1000] (InTo 0 1000) rfl rfl (by omega) (by omega) (by simp [InTo])).mono ?_
      rintro e w4 ⟨p1, rfl, ⟨hp1, hp2⟩, hm4⟩
      have M4 := Lib.hid (M3.out.trans HB.out hm4)
      have MW4 := Lib.hid (MW3.out.trans (by have := HM.out.size; have := HB.out; omega) hm4)
      clear hm4 M3 MW3
      rcases Int.lt_or_le p1 v with hA | hA
      · go_wp2_with fail
        refine (pickNew_any w4 b len (M4.out.tp TT.out) _ rfl _ 4 [0, 50, 500, 2000] (InTo 0 2000) rfl rfl (by omega) (by omega) (by simp [InTo])).mono ?_
        rintro e w5 ⟨p2, rfl, ⟨hp3, hp4⟩, hm5⟩
        have M5 := Lib.hid (M4.out.trans HB.out hm5)
        have MW5 := Lib.hid (MW4.out.trans (by have := HM.out.size; have := HB.out; omega) hm5)
        clear hm5 M4 MW4
        rcases Int.lt_or_le (v + p2) 5000 with hB | hB
        · go_wp2_with fail
          refine (pickNew_any w5 b len (M5.out.tp TT.out) _ rfl _ 4 [0, 10, 100, 300] (InTo 0 300) rfl rfl (by omega) (by omega) (by simp [InTo])).mono ?_
          rintro e w6 ⟨p3, rfl, ⟨hp5, hp6⟩, hm6⟩
          have M6 := Lib.hid (M5.out.trans HB.out hm6)
          have MW6 := Lib.hid (MW5.out.trans (by have := HM.out.size; have := HB.out; omega) hm6)
          clear hm6 M5 MW5
          have OX := Lib.hid (MW6.out.owns HO.out HB.out)
          have DO : Hid (DrwOk l ⟨k, v - p1, v + p2, p3⟩) := Lib.hid (by unfold DrwOk; simp only; omega)
          go_wp2_with (at_builtin; refine wpList_append_own _ rfl _ _ 27 rfl w.heap.size 72 i0 (.agg #[.int .i64 0, .int .i64 0, .int .i64 0, .int .i64 0]) 4 32 Try.underlying27 hi hz0 hz1 hz2 rfl (by decide) (.slice a7 ds.length c7) ds.length (ds.flatMap encD) rfl ((OX.out.alloc _).alloc _) ⟨w6.heap.size + 1, 0, none⟩ 1 1 (encD ⟨k, v - p1, v + p2, p3⟩) rfl rfl (by have := cell_four (w6.alloc (.cells #[.int .i64 k, .int .i64 (v - p1), .int .i64 (v + p2), .int .i64 p3] 72)) (.int .i64 k) (.int .i64 (v - p1)) (.int .i64 (v + p2)) (.int .i64 p3) 72; simpa [encD] using this) (encD_one _) (by unfold maxLen; omega) (by omega) (by have := M6.out.size; simp; omega) ?_; intro v' wz hown' hgrow hnil; have HOz := Lib.hid hown'; have HGz := Lib.hid hgrow; clear hown' hgrow hnil)
          go_roundw
          case rel =>
            refine ⟨ds ++ [⟨k, v - p1, v + p2, p3⟩], m', by go_num, ?_, ?_, ?_, by simp; omega⟩
            · exact ((M6.out.alloc _).alloc _).grown HGz.out (fun j e => (OX.out.lt j e).1)
            · have := HOz.out
              rw [List.length_append, List.flatMap_append]
              simpa using this
            · intro t ht
              rcases List.mem_append.1 ht with q | q
              · exact DK.out t q
              · rw [List.mem_singleton.1 q]; exact DO.out
          case measure => simp [intOf]
        · go_wp2_with fail
          refine (pickNew_any w5 b len (M5.out.tp TT.out) _ rfl _ 4 [0, 10, 100, 300] (InTo 0 300) rfl rfl (by omega) (by omega) (by simp [InTo])).mono ?_
          rintro e w6 ⟨p3, rfl, ⟨hp5, hp6⟩, hm6⟩
          have M6 := Lib.hid (M5.out.trans HB.out hm6)
          have MW6 := Lib.hid (MW5.out.trans (by have := HM.out.size; have := HB.out; omega) hm6)
          clear hm6 M5 MW5
          have OX := Lib.hid (MW6.out.owns HO.out HB.out)
          have DO : Hid (DrwOk l ⟨k, v - p1, 5000, p3⟩) := Lib.hid (by unfold DrwOk; simp only; omega)
          go_wp2_with (at_builtin; refine wpList_append_own _ rfl _ _ 27 rfl w.heap.size 72 i0 (.agg #[.int .i64 0, .int .i64 0, .int .i64 0, .int .i64 0]) 4 32 Try.underlying27 hi hz0 hz1 hz2 rfl (by decide) (.slice a7 ds.length c7) ds.length (ds.flatMap encD) rfl ((OX.out.alloc _).alloc _) ⟨w6.heap.size + 1, 0, none⟩ 1 1 (encD ⟨k, v - p1, 5000, p3⟩) rfl rfl (by have := cell_four (w6.alloc (.cells #[.int .i64 k, .int .i64 (v - p1), .int .i64 (5000), .int .i64 p3] 72)) (.int .i64 k) (.int .i64 (v - p1)) (.int .i64 (5000)) (.int .i64 p3) 72; simpa [encD] using this) (encD_one _) (by unfold maxLen; omega) (by omega) (by have := M6.out.size; simp; omega) ?_; intro v' wz hown' hgrow hnil; have HOz := Lib.hid hown'; have HGz := Lib.hid hgrow; clear hown' hgrow hnil)
          go_roundw
          case rel =>
            refine ⟨ds ++ [⟨k, v - p1, 5000, p3⟩], m', by go_num, ?_, ?_, ?_, by simp; omega⟩
            · exact ((M6.out.alloc _).alloc _).grown HGz.out (fun j e => (OX.out.lt j e).1)
            · have := HOz.out
              rw [List.length_append, List.flatMap_append]
              simpa using this
            · intro t ht
              rcases List.mem_append.1 ht with q | q
              · exact DK.out t q
              · rw [List.mem_singleton.1 q]; exact DO.out
          case measure => simp [intOf]
      · go_wp2_with fail
        refine (pickNew_any w4 b len (M4.out.tp TT.out) _ rfl _ 4 [0, 50, 500, 2000] (InTo 0 2000) rfl rfl (by omega) (by omega) (by simp [InTo])).mono ?_
        rintro e w5 ⟨p2, rfl, ⟨hp3, hp4⟩, hm5⟩
        have M5 := Lib.hid (M4.out.trans HB.out hm5)
        have MW5 := Lib.hid (MW4.out.trans (by have := HM.out.size; have := HB.out; omega) hm5)
        clear hm5 M4 MW4
        rcases Int.lt_or_le (v + p2) 5000 with hB | hB
        · go_wp2_with fail
          refine (pickNew_any w5 b len (M5.out.tp TT.out) _ rfl _ 4 [0, 10, 100, 300] (InTo 0 300) rfl rfl (by omega) (by omega) (by simp [InTo])).mono ?_
          rintro e w6 ⟨p3, rfl, ⟨hp5, hp6⟩, hm6⟩
          have M6 := Lib.hid (M5.out.trans HB.out hm6)
          have MW6 := Lib.hid (MW5.out.trans (by have := HM.out.size; have := HB.out; omega) hm6)
          clear hm6 M5 MW5
          have OX := Lib.hid (MW6.out.owns HO.out HB.out)
          have DO : Hid (DrwOk l ⟨k, 0, v + p2, p3⟩) := Lib.hid (by unfold DrwOk; simp only; omega)
          go_wp2_with (at_builtin; refine wpList_append_own _ rfl _ _ 27 rfl w.heap.size 72 i0 (.agg #[.int .i64 0, .int .i64 0, .int .i64 0, .int .i64 0]) 4 32 Try.underlying27 hi hz0 hz1 hz2 rfl (by decide) (.slice a7 ds.length c7) ds.length (ds.flatMap encD) rfl ((OX.out.alloc _).alloc _) ⟨w6.heap.size + 1, 0, none⟩ 1 1 (encD ⟨k, 0, v + p2, p3⟩) rfl rfl (by have := cell_four (w6.alloc (.cells #[.int .i64 k, .int .i64 (0), .int .i64 (v + p2), .int .i64 p3] 72)) (.int .i64 k) (.int .i64 (0)) (.int .i64 (v + p2)) (.int .i64 p3) 72; simpa [encD] using this) (encD_one _) (by unfold maxLen; omega) (by omega) (by have := M6.out.size; simp; omega) ?_; intro v' wz hown' hgrow hnil; have HOz := Lib.hid hown'; have HGz := Lib.hid hgrow; clear hown' hgrow hnil)
          go_roundw
          case rel =>
            refine ⟨ds ++ [⟨k, 0, v + p2, p3⟩], m', by go_num, ?_, ?_, ?_, by simp; omega⟩
            · exact ((M6.out.alloc _).alloc _).grown HGz.out (fun j e => (OX.out.lt j e).1)
            · have := HOz.out
              rw [List.length_append, List.flatMap_append]
              simpa using this
            · intro t ht
              rcases List.mem_append.1 ht with q | q
              · exact DK.out t q
              · rw [List.mem_singleton.1 q]; exact DO.out
          case measure => simp [intOf]
        · exact absurd hB (by omega)
    · have hm0 : m = 0 := by omega
      subst hm0
      have hwd : ∀ x ∈ ds, Wide x.supply ∧ Wide x.low ∧ Wide x.high ∧ Wide x.load := fun x hx => by
        have := DK.out x hx
        unfold DrwOk at this
        unfold Wide
        omega
      have WD := Lib.hid hwd
      clear hwd
      go_wp2_with fail
      go_ret
      refine ⟨ds, a7, c7, rfl, ⟨HC.out, by omega, fun k hk => DK.out _ (List.getElem_mem hk)⟩, ?_, fun p => ?_, HM.out⟩
      · obtain ⟨a', c', e', h1, h2⟩ := drws_at HO.out WD.out
        cases e'; exact h1
      · obtain ⟨a', c', e', h1, h2⟩ := drws_at (ownsRow_setCell_below HO.out (a := ⟨b, 1, none⟩) HB.out (.int .i64 p)) WD.out
        cases e'; exact h2
def MakesWris (b len : Nat) (w : World) (e : Ending) (w' : World) : Prop :=
  ∃ (ps : List Wri) (ao : Option Addr) (cap : Nat), e = .returned (.slice ao ps.length cap) ∧ ps.length ≤ 5 ∧ (∀ p ∈ ps, WWide p) ∧ w'.ownsRow w.heap.size 46 3 (.slice ao ps.length cap) ps.length (encWs ps) ∧ Mv b len w w'
theorem infoWr : (Try.prog.info? 46).map (fun i => (i.zero, i.size, i.bytes)) = some (some (.agg #[.int .i64 0, .int .i64 0, .int .i64 0]), 3, 24) := by kernel_rfl
theorem encWs_app (ps qs : List Wri) : encWs (ps ++ qs) = encWs ps ++ encWs qs := by simp [encWs]
theorem writes_any (n : Nat) (al : Option Addr) (cl : Nat) (w : World) (b len : Nat) (ht : Tp w b len) (hn : 1 ≤ n) (hn1 : n ≤ 1000) :
    Calls Try.prog 28 #[.pointer (some ⟨b, 0, none⟩), .slice al n cl] w (MakesWris b len w) := by
  have TT := Lib.hid ht
  have HW := Lib.hid ht.has
  obtain ⟨j0, hj, hy0, hy1, hy2⟩ := info_parts infoWr
  clear ht
  go_enter Try.func28, Try.ntmps28
  go_wp2_with fail
  refine (nM_any w b len 6 TT.out (by omega) (by omega)).mono ?_
  rintro e w1 ⟨q, rfl, ⟨q0, q1⟩, hm1⟩
  have M1 := Lib.hid hm1
  obtain ⟨q, rfl⟩ := Int.eq_ofNat_of_zero_le q0
  clear hm1
  go_wp2_with fail
  go_loopw [5, 6] (fun s5 s6 wr => ∃ (ps : List Wri) (ao : Option Addr) (cap i : Nat), s5 = .slice ao ps.length cap ∧ s6 = .int .i64 (i : Int) ∧ ps.length + i ≤ 5 ∧ (∀ p ∈ ps, WWide p) ∧ wr.ownsRow w.heap.size 46 3 (.slice ao ps.length cap) ps.length (encWs ps) ∧ Mv b len w wr) (fun _ s6 _ => (intOf s6).toNat)
  case atStart => exact ⟨[], none, 0, q, rfl, rfl, by simp; omega, fun p hp => by simp at hp, World.ownsRow_nil _ _ _ _, M1.out⟩
  case round =>
    clear M1 q0 q1
    obtain ⟨ps, ao, cap, i, rfl, rfl, hi, hw, ho, hm⟩ := hrel
    have HWD := Lib.hid hw
    have HO := Lib.hid ho
    have HM := Lib.hid hm
    clear hw ho hm
    by_cases hi0 : 0 < i
    · have i2 : (0 : Int) < i := by omega
      go_wp2_with fail
      refine (pickNew_any wr b len (HM.out.tp TT.out) _ rfl #[.int .i64 2, .int .i64 3] 2 [2, 3] (InTo 2 3) rfl rfl (by omega) (by omega) (by simp [InTo])).mono ?_
      rintro e w2 ⟨k, rfl, ⟨k0, k1⟩, hm2⟩
      have M2 := Lib.hid (HM.out.trans HW.out hm2)
      have O2 := Lib.hid (hm2.owns HO.out HW.out)
      clear hm2 HM HO
      go_wp2_with fail
      refine (nM_any w2 b len n (M2.out.tp TT.out) (by omega) (by omega)).mono ?_
      rintro e w3 ⟨u, rfl, ⟨u0, u1⟩, hm3⟩
      have M3 := Lib.hid (M2.out.trans HW.out hm3)
      have O3 := Lib.hid (hm3.owns O2.out HW.out)
      clear hm3 M2 O2
      go_wp2_with fail
      refine (nM_any w3 b len 2 (M3.out.tp TT.out) (by omega) (by omega)).mono ?_
      rintro e w4 ⟨v, rfl, ⟨v0, v1⟩, hm4⟩
      have M4 := Lib.hid (M3.out.trans HW.out hm4)
      have O4 := Lib.hid (hm4.owns O3.out HW.out)
      clear hm4 M3 O3
      obtain ⟨W5, hW5⟩ : ∃ W5 : World, Hid (W5 = w4.alloc (.cells #[.int .i64 k, .int .i64 u, .int .i64 v] 46)) := ⟨_, Lib.hid rfl⟩
      obtain ⟨BX, hBX⟩ : ∃ BX : Nat, Hid (w4.heap.size = BX) := ⟨_, Lib.hid rfl⟩
      have G5 : Hid (Gr w4 W5) := Lib.hid (by rw [hW5.out]; exact (Gr.refl _).alloc _)
      have R5 : Hid (Row W5 BX 46 [.int .i64 k, .int .i64 u, .int .i64 v]) := Lib.hid (by rw [hW5.out, ← hBX.out]; exact Row.new _ _ _)
      have M5 := Lib.hid (M4.out.gr G5.out)
      have O5 := Lib.hid (Gr.owns O4.out G5.out)
      have BH : Hid (w.heap.size ≤ BX) := Lib.hid (by have := M4.out.size; have := hBX.out; omega)
      have BG2 : Hid (Value.ownBlock (.slice ao ps.length cap) ≠ some BX) := Lib.hid (fun e => by
        have := (O4.out.lt BX e).2
        have := hBX.out
        omega)
      have WP : Hid (WWide ⟨k, u, v⟩) := Lib.hid ⟨by show Wide k; unfold Wide; omega, by show Wide u; unfold Wide; omega, by show Wide v; unfold Wide; omega⟩
      have ZB : Hid (BX ≠ b) := Lib.hid (by have := HW.out; have := BH.out; omega)
      go_wp2_with fail
      rw [← hW5.out, hBX.out]
      refine (nM_any W5 b len 12 (M5.out.tp TT.out) (by omega) (by omega)).mono ?_
      rintro e w6 ⟨y, rfl, ⟨y0, y1⟩, hm6⟩
      have M6 := Lib.hid (M5.out.trans HW.out hm6)
      have O6 := Lib.hid (hm6.owns O5.out HW.out)
      have R6 := Lib.hid (hm6.row R5.out ZB.out)
      clear hm6 M5 O5 R5 hW5 G5 M4 O4 k0 k1 u0 u1 v0 v1
      go_upto_if 26 with fail
      go_cut [] (fun wx => ∃ p : Wri, WWide p ∧ Row wx BX 46 [.int .i64 p.kind, .int .i64 p.unit, .int .i64 p.value] ∧ wx.ownsRow w.heap.size 46 3 (.slice ao ps.length cap) ps.length (encWs ps) ∧ Mv b len w wx)
      case first =>
        by_cases hy : y = 11
        · have hb : (y == 11) = true := by simp [hy]
          clear hy y0 y1
          go_wp2_with fail
          refine (rangeM_any w6 b len 0 4 (M6.out.tp TT.out) (by omega) (by omega) (by omega)).mono ?_
          rintro e w7 ⟨x, rfl, ⟨x0, x1⟩, hm7⟩
          have M7 := Lib.hid (M6.out.trans HW.out hm7)
          have O7 := Lib.hid (hm7.owns O6.out HW.out)
          have R7 := Lib.hid (hm7.row R6.out ZB.out)
          clear hm7 M6 O6 R6
          go_wp2_with fail
          refine (rangeM_any w7 b len (-1) n (M7.out.tp TT.out) (by omega) (by omega) (by omega)).mono ?_
          rintro e w8 ⟨y2, rfl, ⟨y0, y1⟩, hm8⟩
          have M8 := Lib.hid (M7.out.trans HW.out hm8)
          have O8 := Lib.hid (hm8.owns O7.out HW.out)
          have R8 := Lib.hid (hm8.row R7.out ZB.out)
          clear hm8 M7 O7 R7
          go_wp2_with fail
          refine (rangeM_any w8 b len (-1) 5 (M8.out.tp TT.out) (by omega) (by omega) (by omega)).mono ?_
          rintro e w9 ⟨z, rfl, ⟨z0, z1⟩, hm9⟩
          have M9 := Lib.hid (M8.out.trans HW.out hm9)
          have O9 := Lib.hid (hm9.owns O8.out HW.out)
          have R9 := Lib.hid (hm9.row R8.out ZB.out)
          clear hm9 M8 O8 R8
          have WX : Hid (WWide ⟨x, y2, z⟩) := Lib.hid ⟨by show Wide x; unfold Wide; omega, by show Wide y2; unfold Wide; omega, by show Wide z; unfold Wide; omega⟩
          have c0 := R9.out.cell 0 (by simp)
          have c1 := R9.out.cell 1 (by simp)
          have c2 := R9.out.cell 2 (by simp)
          have ch := R9.out.has
          have cf0 := R9.out.free 0
          have cf1 := R9.out.free 1
          have cf2 := R9.out.free 2
          simp only [List.getElem_cons_zero, List.getElem_cons_succ] at c0 c1 c2
          have RX : Hid (Row (((w9.setCell ⟨BX, 0, none⟩ (.int .i64 x)).setCell ⟨BX, 1, none⟩ (.int .i64 y2)).setCell ⟨BX, 2, none⟩ (.int .i64 z)) BX 46 [.int .i64 x, .int .i64 y2, .int .i64 z]) := Lib.hid (((R9.out.set 0 (.int .i64 x)).set 1 (.int .i64 y2)).set 2 (.int .i64 z))
          have MX : Hid (Mv b len w (((w9.setCell ⟨BX, 0, none⟩ (.int .i64 x)).setCell ⟨BX, 1, none⟩ (.int .i64 y2)).setCell ⟨BX, 2, none⟩ (.int .i64 z))) := Lib.hid (((M9.out.setc BH.out).setc BH.out).setc BH.out)
          have OX : Hid ((((w9.setCell ⟨BX, 0, none⟩ (.int .i64 x)).setCell ⟨BX, 1, none⟩ (.int .i64 y2)).setCell ⟨BX, 2, none⟩ (.int .i64 z)).ownsRow w.heap.size 46 3 (.slice ao ps.length cap) ps.length (encWs ps)) := Lib.hid (by
            have q := fun (W : World) (o : Nat) (v : Value) (h : W.ownsRow w.heap.size 46 3 (.slice ao ps.length cap) ps.length (encWs ps)) => World.ownsRow.kept h (grownBy_set W BX o v) (.inr BG2.out)
            exact q _ _ _ (q _ _ _ (q _ _ _ O9.out)))
          go_wp2_with fail
          go_meet
          exact ⟨⟨x, y2, z⟩, WX.out, RX.out, OX.out, MX.out⟩
        · have hb : (y == 11) = false := by simp [hy]
          clear hy y0 y1
          go_wp2_with fail
          go_meet
          exact ⟨⟨k, u, v⟩, WP.out, R6.out, O6.out, M6.out⟩
      case rest =>
      obtain ⟨p, hp, hr, ho, hm⟩ := hcut
      obtain ⟨w7, rfl⟩ : ∃ wo : World, wo = wc := ⟨_, rfl⟩
      have PP := Lib.hid hp
      have M7 := Lib.hid hm
      have c0 := hr.cell 0 (by simp)
      have c1 := hr.cell 1 (by simp)
      have c2 := hr.cell 2 (by simp)
      have ch := hr.has
      simp only [List.getElem_cons_zero, List.getElem_cons_succ] at c0 c1 c2
      obtain ⟨W8, hW8⟩ : ∃ W8 : World, Hid (W8 = w7.alloc (.cells #[.int .i64 p.kind, .int .i64 p.unit, .int .i64 p.value] 46)) := ⟨_, Lib.hid rfl⟩
      obtain ⟨N8, hN8⟩ : ∃ N8 : Nat, Hid (w7.heap.size = N8) := ⟨_, Lib.hid rfl⟩
      have G8 : Hid (Gr w7 W8) := Lib.hid (by rw [hW8.out]; exact (Gr.refl _).alloc _)
      have O8 := Lib.hid (Gr.owns ho G8.out)
      have M8 := Lib.hid (M7.out.gr G8.out)
      have CC : Hid (∀ j x, ([.int .i64 p.kind, .int .i64 p.unit, .int .i64 p.value] : List Value)[j]? = some x → W8.cell? ((⟨N8, 0, none⟩ : Addr).add j) = some x) := Lib.hid (by
        have := row_cells (Row.new w7 #[.int .i64 p.kind, .int .i64 p.unit, .int .i64 p.value] 46)
        rw [← hW8.out, hN8.out] at this
        exact this)
      have ONE : Hid (∀ x ∈ ([.int .i64 p.kind, .int .i64 p.unit, .int .i64 p.value] : List Value), x.oneCell' = true) := Lib.hid (fun x hx => by simp only [List.mem_cons, List.not_mem_nil, or_false] at hx; rcases hx with rfl | rfl | rfl <;> rfl)
      have BS8 : Hid (w.heap.size ≤ W8.heap.size) := Lib.hid M8.out.size
      clear hp hr ho hm M6 O6 R6 WP
      go_wp2_with (first
        | (at_builtin; rw [← hW8.out, hN8.out]; refine wpList_append_gets _ rfl _ _ 35 rfl w.heap.size 46 j0 (.agg #[.int .i64 0, .int .i64 0, .int .i64 0]) 3 24 Try.underlying35 hj hy0 hy1 hy2 rfl (by decide) (.slice ao ps.length cap) ps.length (encWs ps) rfl O8.out (some ⟨N8, 0, none⟩) 1 1 [.int .i64 p.kind, .int .i64 p.unit, .int .i64 p.value] rfl ⟨rfl, fun _ => ⟨_, rfl, CC.out⟩⟩ ONE.out (by unfold maxLen; omega) (by omega) BS8.out ?_; intro v9 W9 hown hgrow _; obtain ⟨a9, c9, rfl⟩ := owns_slice hown; have O9 := Lib.hid hown; have H9 := Lib.hid hgrow; clear hown hgrow hW8)
        | fail)
      go_roundw
      case rel =>
        refine ⟨ps ++ [p], a9, c9, i - 1, by simp, by go_num, by simp; omega, fun q hq => ?_, ?_, M8.out.grown H9.out (fun k e => (O8.out.lt k e).1)⟩
        · rcases List.mem_append.1 hq with hq | hq
          · exact HWD.out q hq
          · rw [List.mem_singleton.1 hq]; exact PP.out
        · have := O9.out
          rw [encWs_app]
          simpa [encWs, encWZ] using this
      case measure => simp [intOf]; omega
    · obtain rfl : i = 0 := by omega
      go_wp2_with fail
      go_ret
      exact ⟨ps, ao, cap, rfl, by omega, HWD.out, HO.out, HM.out⟩
theorem planP_len (l : List Sup) (a b : Rls) (d : List Drw) : (planP l a b d).length ≤ 64 := by
  by_cases h : planE l a b d = 0
  · unfold planP
    rw [if_pos h]
    have h16 : l.length ≤ 16 := by
      unfold planE at h
      by_cases hb : begR l [a, b] = 0
      · rw [if_pos hb] at h
        by_cases hd : DrwsOk l d
        · have hz := (chk_zero hd.1).1
          simp only [BigZ, not_or] at hz
          omega
        · rw [if_neg hd] at h
          exact absurd h (by decide)
      · rw [if_neg hb] at h
        exact absurd h hb
    have := planL_len l.length a b
    omega
  · rw [planP_no h]; simp
theorem rxC {Q : Exit → Act → World → Prop} {s0 s1 s2 s3 s5 s6 s7 s8 s9 s10 s13 s14 s15 s16 s17 s18 s19 s21 s23 s24 s25 s26 s27 s28 s29 s30 s31 s32 s33 s34 s35 s36 s37 s38 s39 s40 s41 s42 s43 s44 s45 s46 s47 s48 s49 s50 s51 s52 s53 s54 s55 s56 s57 s58 s59 s60 s61 s62 s63 s64 s65 s66 s67 s68 s69 s70 s71 s72 s73 s74 s75 s76 s77 s78 s79 s80 s81 s82 s83 s84 s85 s86 s87 s88 s89 s90 s91 s92 s93 s94 s95 s96 s97 s98 s99 s100 s101 s102 s103 s104 s105 s106 s107 s108 s109 s110 s111 s112 s113 s114 s115 s116 s117 s118 s119 s120 s121 s122 s123 s124 s125 s126 s127 s128 s129 s130 s131 s132 s133 s134 s135 s136 s137 s138 s139 s140 s141 s142 s143 s144 s145 s146 s147 s148 s149 s150 s151 s155 s156 s157 s158 s159 s160 s161 s162 s163 s164 s165 s166 s167 s168 s169 s170 s171 s172 s173 s174 s175 s176 s177 s178 s179 s180 s181 s182 s183 s184 s185 s186 s187 s188 s189 s190 s191 s192 s193 s194 s195 s196 s197 s198 s199 s200 s201 s202 s203 s204 s205 s206 s207 s208 s209 s210 s211 s212 s213 s214 s215 s216 s217 s218 s219 s220 s221 s222 s223 s224 s225 s226 s227 s228 s229 s230 s231 s232 s233 s234 s235 s236 s237 s238 s239 s240 s241 s242 s243 s244 s245 s246 s247 s248 s249 s250 s251 s252 s253 s254 s255 s256 s257 s258 s259 s260 s261 s262 s263 s264 s265 s266 s267 s268 s269 s270 s271 s272 s273 s274 s275 s276 s277 s278 s279 s280 s281 s282 s283 : Value} {b n m : Nat} {l : List Sup} {r q : Rls} {plan : List Wri} {ax aP al a1 a2 a3 a4 : Option Addr} {cx cP cl c1 c2 c3 c4 Y gz : Nat} {WA : World}
    (TP0 : Tp WA b n) (SX : ∀ W, Mv b n WA W → SlOf 5 RSup W ax l) (fx : Fit l.length) (YB : Row WA Y 56 [.slice a1 r.on.length c1, .slice a2 r.level.length c2, .slice a3 q.on.length c3, .slice a4 q.level.length c4]) (hY : Y ≠ b) (RA : ∀ W, Mv b n WA W → RlA W a1 a2 c1 c2 r ∧ RlA W a3 a4 c3 c4 q) (PL : ∀ W, Mv b n WA W → SlOf 3 RWri W aP plan) (fP : plan.length ≤ 1000) (hm1 : 1 ≤ m ∧ m ≤ 1000)
    (Z : ∀ W, Mv b n WA W → ∀ k, k < 2 → ∃ (az : Option Addr) (z : List Drw) (cz : Nat), W.cell? ⟨gz, k, none⟩ = some (.slice az z.length cz) ∧ (∀ W', Mv b n WA W' → SlOf 4 RDrw W' az z) ∧ Fit z.length)
    (h : ∀ (t10 t28 t29 t30 t31 t32 t34 t35 t36 t37 t38 t39 t40 t41 t42 t43 t154 t155 t156 t157 t158 t159 t160 t161 t162 t163 t164 t165 t166 t167 t168 t169 t170 t171 t172 t173 t174 t175 t176 t177 t178 t179 t180 t181 t182 t183 t184 t185 t186 t187 t188 t189 t190 t191 t192 t193 t194 t195 t196 t197 t198 t199 t200 t201 t202 t203 t204 t205 t206 t207 t208 t209 t210 t211 t212 t213 t214 t215 t216 t217 t218 t219 t220 t221 t222 t223 t224 t225 t226 t227 t228 t229 t230 t231 t232 t233 t234 t235 t236 t237 t238 t239 t240 t241 t242 t243 t244 t245 t246 t247 t248 t249 t250 t251 t252 t253 t254 t255 t256 t257 t258 t259 t260 t261 t262 t263 t264 t265 t266 t267 t268 t269 t270 t271 t272 t273 t274 t275 t276 t277 t278 t279 t280 : Value) (wx : World), Mv b n WA wx → Q (.exit 4) { tmps := #[s0, s1, s2, s3, .slice aP plan.length cP, s5, s6, s7, s8, s9, t10, .pointer (some ⟨b, 0, none⟩), .slice al m cl, s13, s14, s15, s16, s17, s18, s19, .slice ax l.length cx, s21, .pointer (some ⟨Y, 0, none⟩), s23, s24, s25, s26, s27, t28, t29, t30, t31, t32, s33, t34, t35, t36, t37, t38, t39, t40, t41, t42, t43, s44, s45, s46, s47, s48, s49, s50, s51, s52, s53, s54, s55, s56, s57, s58, s59, s60, s61, s62, s63, s64, s65, s66, s67, s68, s69, s70, s71, s72, s73, s74, s75, s76, s77, s78, s79, s80, s81, s82, s83, s84, s85, s86, s87, s88, s89, s90, s91, s92, s93, s94, s95, s96, s97, s98, s99, s100, s101, s102, s103, s104, s105, s106, s107, s108, s109, s110, s111, s112, s113, s114, s115, s116, s117, s118, s119, s120, s121, s122, s123, s124, s125, s126, s127, s128, s129, s130, s131, s132, s133, s134, s135, s136, s137, s138, s139, s140, s141, s142, s143, s144, s145, s146, s147, s148, s149, s150, s151, .slice (some ⟨gz, 0, none⟩) 2 2, .int .i64 2, t154, t155, t156, t157, t158, t159, t160, t161, t162, t163, t164, t165, t166, t167, t168, t169, t170, t171, t172, t173, t174, t175, t176, t177, t178, t179, t180, t181, t182, t183, t184, t185, t186, t187, t188, t189, t190, t191, t192, t193, t194, t195, t196, t197, t198, t199, t200, t201, t202, t203, t204, t205, t206, t207, t208, t209, t210, t211, t212, t213, t214, t215, t216, t217, t218, t219, t220, t221, t222, t223, t224, t225, t226, t227, t228, t229, t230, t231, t232, t233, t234, t235, t236, t237, t238, t239, t240, t241, t242, t243, t244, t245, t246, t247, t248, t249, t250, t251, t252, t253, t254, t255, t256, t257, t258, t259, t260, t261, t262, t263, t264, t265, t266, t267, t268, t269, t270, t271, t272, t273, t274, t275, t276, t277, t278, t279, t280, s281, s282, s283], defers := [] } wx) :
    (codeIn 4 Try.f7).wp Try.prog Q { tmps := #[s0, s1, s2, s3, .slice aP plan.length cP, s5, s6, s7, s8, s9, s10, .pointer (some ⟨b, 0, none⟩), .slice al m cl, s13, s14, s15, s16, s17, s18, s19, .slice ax l.length cx, s21, .pointer (some ⟨Y, 0, none⟩), s23, s24, s25, s26, s27, s28, s29, s30, s31, s32, s33, s34, s35, s36, s37, s38, s39, s40, s41, s42, s43, s44, s45, s46, s47, s48, s49, s50, s51, s52, s53, s54, s55, s56, s57, s58, s59, s60, s61, s62, s63, s64, s65, s66, s67, s68, s69, s70, s71, s72, s73, s74, s75, s76, s77, s78, s79, s80, s81, s82, s83, s84, s85, s86, s87, s88, s89, s90, s91, s92, s93, s94, s95, s96, s97, s98, s99, s100, s101, s102, s103, s104, s105, s106, s107, s108, s109, s110, s111, s112, s113, s114, s115, s116, s117, s118, s119, s120, s121, s122, s123, s124, s125, s126, s127, s128, s129, s130, s131, s132, s133, s134, s135, s136, s137, s138, s139, s140, s141, s142, s143, s144, s145, s146, s147, s148, s149, s150, s151, .slice (some ⟨gz, 0, none⟩) 2 2, .int .i64 2, .int .i64 0, s155, s156, s157, s158, s159, s160, s161, s162, s163, s164, s165, s166, s167, s168, s169, s170, s171, s172, s173, s174, s175, s176, s177, s178, s179, s180, s181, s182, s183, s184, s185, s186, s187, s188, s189, s190, s191, s192, s193, s194, s195, s196, s197, s198, s199, s200, s201, s202, s203, s204, s205, s206, s207, s208, s209, s210, s211, s212, s213, s214, s215, s216, s217, s218, s219, s220, s221, s222, s223, s224, s225, s226, s227, s228, s229, s230, s231, s232, s233, s234, s235, s236, s237, s238, s239, s240, s241, s242, s243, s244, s245, s246, s247, s248, s249, s250, s251, s252, s253, s254, s255, s256, s257, s258, s259, s260, s261, s262, s263, s264, s265, s266, s267, s268, s269, s270, s271, s272, s273, s274, s275, s276, s277, s278, s279, s280, s281, s282, s283], defers := [] } WA := by
  have HQ := PLift.up h
  clear h
  simp only [codeIn, Try.f7, codeOf, Option.bind_some, Option.getD_some, Nat.beq, cond_true, cond_false]
  have TP := Lib.hid TP0
  have HBW := Lib.hid TP0.has
  have SX' := Lib.hid SX
  have YB' := Lib.hid YB
  have NY := Lib.hid hY
  have RA' := Lib.hid RA
  have PL' := Lib.hid PL
  have ZZ := Lib.hid Z
  clear TP0 SX YB RA PL Z hY
  go_loopw [154] (fun s wi => ∃ j : Nat, j ≤ 2 ∧ s = .int .i64 j ∧ Mv b n WA wi) (fun s _ => 2 - (intOf s).toNat)
  case atStart => exact ⟨0, Nat.zero_le _, rfl, Mv.refl TP.out⟩
  case round =>
    obtain ⟨j, hj, rfl, hm⟩ := hrel
    have M0 := Lib.hid hm
    clear hm
    by_cases hl : j < 2
    · have j3 : (j : Int) < 2 := by omega
      obtain ⟨az, z, cz, hc, hs, fz⟩ := ZZ.out wr M0.out j hl
      have hh := has_of_cell hc
      have ZS := Lib.hid hs
      clear hs
      have V1 := Lib.hid (fun W hW => plan_anyZ l r q z ax a1 a2 a3 a4 az cx c1 c2 c3 c4 cz W (SX'.out W hW) fx (RA'.out W hW).1.on (RA'.out W hW).1.lv (RA'.out W hW).2.on (RA'.out W hW).2.lv (ZS.out W hW) (RA'.out W hW).1.k1 (RA'.out W hW).1.k2 (RA'.out W hW).2.k1 (RA'.out W hW).2.k2 (RA'.out W hW).1.f1 (RA'.out W hW).1.f2 (RA'.out W hW).2.f1 (RA'.out W hW).2.f2 fz)
      have V2 := Lib.hid (fun W hW => refBigPlan_any l r q z ax a1 a2 a3 a4 az cx c1 c2 c3 c4 cz W (SX'.out W hW) fx (RA'.out W hW).1.on (RA'.out W hW).1.lv (RA'.out W hW).2.on (RA'.out W hW).2.lv (ZS.out W hW) (RA'.out W hW).1.f1 (RA'.out W hW).1.f2 (RA'.out W hW).2.f1 (RA'.out W hW).2.f2 fz)
      have PN := planP_len l r q z
      obtain ⟨pw, hpw⟩ : ∃ x, planP l r q z = x := ⟨_, rfl⟩
      obtain ⟨pe, hpe⟩ : ∃ x, planE l r q z = x := ⟨_, rfl⟩
      rw [hpw, hpe] at V1 V2
      rw [hpw] at PN
      clear hpw hpe
      have lb1 : (pe != pe) = false := by simp
      obtain ⟨y0, y1, y2, y3, yh⟩ := pairR (M0.out.row YB'.out NY.out)
      go_wp2_with fail
      clear hc hh y0 y1 y2 y3 yh
      refine (V1.out wr M0.out).mono ?_
      rintro e w2 ⟨p1, k1, rfl, _, hs1, hg2⟩
      have M2 := Lib.hid (M0.out.gr hg2)
      have S1 := Lib.hid hs1
      obtain ⟨y0, y1, y2, y3, yh⟩ := pairR (M2.out.row YB'.out NY.out)
      clear hs1 hg2 V1
      go_wp2_with fail
      clear y0 y1 y2 y3 yh
      refine (V2.out w2 M2.out).mono ?_
      rintro e w3 ⟨p2, k2, rfl, ho2, hw2, hg3⟩
      have M3 := Lib.hid (M2.out.gr hg3)
      have S12 := Lib.hid (SlOf.gr RWri.mono S1.out hg3)
      have O2 := Lib.hid ho2
      have W2 := Lib.hid hw2
      have S2 : Hid (SlOf 3 RWri w3 p2 pw) := Lib.hid (by obtain ⟨a, c, e, _, hs⟩ := owns_slW ho2 hw2; cases e; exact hs)
      have ZB2 : Hid (b < w2.heap.size) := Lib.hid (by have := M2.out.size; have := HBW.out; omega)
      have X1 := Lib.hid (sameWritesE_any pw p1 p2 k1 k2 w3 S12.out S2.out (by unfold Fit; omega))
      clear ho2 hw2 hg3 V2 S1 M2
      go_wp2_with fail
      refine X1.out.mono ?_
      rintro e w4 ⟨rfl, hg4⟩
      have M4 := Lib.hid (M3.out.gr hg4)
      have O4 := Lib.hid (Gr.owns O2.out hg4)
      clear hg4 X1 S12 S2 O2 M3
      go_wp2_with fail
      refine (writes_any m al cl w4 b n (M4.out.tp TP.out) hm1.1 hm1.2).mono ?_
      rintro e w5 ⟨ps, a5, k5, rfl, hl5, hw5, ho5, hm5⟩
      have M5 := Lib.hid (M4.out.trans HBW.out hm5)
      have O5 := Lib.hid (hm5.owns O4.out ZB2.out)
      have P5 : Hid (SlOf 3 RWri w5 a5 ps) := Lib.hid (by obtain ⟨a, c, e, _, hs⟩ := owns_slW ho5 hw5; cases e; exact hs)
      have P2 : Hid (SlOf 3 RWri w5 p2 pw) := Lib.hid (by obtain ⟨a, c, e, _, hs⟩ := owns_slW O5.out W2.out; cases e; exact hs)
      clear hw5 ho5 hm5 O4 O5 W2 M4
      obtain ⟨W8, hW8⟩ : ∃ W8 : World, Hid (W8 = w5.alloc (.cells #[.slice aP plan.length cP, .slice p2 pw.length k2, .slice a5 ps.length k5] 35)) := ⟨_, Lib.hid rfl⟩
      have G8 : Hid (Gr w5 W8) := Lib.hid (by rw [hW8.out]; exact (Gr.refl _).alloc _)
      have B8 : Hid (Row W8 w5.heap.size 35 [.slice aP plan.length cP, .slice p2 pw.length k2, .slice a5 ps.length k5]) := Lib.hid (by rw [hW8.out]; exact Row.new _ _ _)
      have M8 := Lib.hid (M5.out.gr G8.out)
      go_wp2_with fail
      rw [← hW8.out]
      refine wp_code_eq (c := codeIn 6 Try.f7) (by kernel_rfl) (rxB (W0 := W8) (gz := w5.heap.size) (r := r) (SX'.out W8 M8.out) fx (M8.out.row YB'.out NY.out) (RA'.out W8 M8.out).1 (ZS.out W8 M8.out) fz (fun k hk => ?_) ?_)
      · have d0 := B8.out.cell 0 (by simp)
        have d1 := B8.out.cell 1 (by simp)
        have d2 := B8.out.cell 2 (by simp)
        obtain rfl | rfl | rfl : k = 0 ∨ k = 1 ∨ k = 2 := by omega
        · exact ⟨aP, plan, cP, d0, PL'.out W8 M8.out, fP⟩
        · exact ⟨p2, pw, k2, d1, SlOf.gr RWri.mono P2.out G8.out, by omega⟩
        · exact ⟨a5, ps, k5, d2, SlOf.gr RWri.mono P5.out G8.out, by omega⟩
      intro t10 t34 t35 t36 t37 t38 t39 t40 t41 t42 t43 t194 t195 t196 t197 t198 t199 t200 t201 t202 t203 t204 t205 t206 t207 t208 t209 t210 t211 t212 t213 t214 t215 t216 t217 t218 t219 t220 t221 t222 t223 t224 t225 t226 t227 t228 t229 t230 t231 t232 t233 t234 t235 t236 t237 t238 t239 t240 t241 t242 t243 t244 t245 t246 t247 t248 t249 t250 t251 t252 t253 t254 t255 t256 t257 t258 t259 t260 t261 t262 t263 t264 t265 t266 t267 t268 t269 t270 t271 t272 t273 t274 t275 t276 t277 t278 t279 wx hgx
      have MX := Lib.hid (M8.out.gr hgx)
      clear hgx B8 hW8 G8 M8 P5 P2
      go_wp2_with fail
      go_roundw
      case rel => exact ⟨j + 1, by omega, by simp, MX.out⟩
      case measure => simp [intOf]; omega
    · obtain rfl : j = 2 := by omega
      go_wp2_with fail
      exact HQ.down _ _ _ _ _ _ _ _ _ _ _ _ _ _ _ _ _ _ _ _ _ _ _ _ _ _ _ _ _ _ _ _ _ _ _ _ _ _ _ _ _ _ _ _ _ _ _ _ _ _ _ _ _ _ _ _ _ _ _ _ _ _ _ _ _ _ _ _ _ _ _ _ _ _ _ _ _ _ _ _ _ _ _ _ _ _ _ _ _ _ _ _ _ _ _ _ _ _ _ _ _ _ _ _ _ _ _ _ _ _ _ _ _ _ _ _ _ _ _ _ _ _ _ _ _ _ _ _ _ _ _ _ _ _ _ _ _ _ _ _ _ _ _ _ M0.out
theorem joinP_lens (l : List Sup) (a b : Rls) (f1 : Fit b.on.length) (f2 : Fit b.level.length) : Fit (joinP l a b).on.length ∧ Fit (joinP l a b).level.length := by
  unfold joinP
  split
  · exact ⟨by rw [joinR_on_len]; exact f1, by rw [joinR_lv_len]; exact f2⟩
  · simp [noRls, Fit]
theorem rxD {Q : Exit → Act → World → Prop} {s0 s1 s2 s5 s6 s7 s8 s9 s10 s14 s15 s16 s17 s18 s19 s21 s22 s23 s24 s25 s26 s27 s28 s29 s30 s31 s32 s33 s34 s35 s36 s37 s38 s39 s40 s41 s42 s43 s44 s45 s46 s47 s48 s49 s50 s51 s52 s53 s54 s55 s56 s57 s58 s59 s60 s61 s62 s63 s64 s65 s66 s67 s68 s69 s70 s71 s72 s73 s74 s75 s76 s77 s78 s79 s80 s81 s82 s83 s84 s85 s86 s87 s88 s89 s90 s91 s92 s93 s94 s95 s96 s97 s98 s99 s100 s101 s102 s103 s104 s105 s106 s107 s108 s109 s110 s111 s112 s113 s114 s115 s116 s120 s121 s122 s123 s124 s125 s126 s127 s128 s129 s130 s131 s132 s133 s134 s135 s136 s137 s138 s139 s140 s141 s142 s143 s144 s145 s146 s147 s148 s149 s150 s151 s152 s153 s154 s155 s156 s157 s158 s159 s160 s161 s162 s163 s164 s165 s166 s167 s168 s169 s170 s171 s172 s173 s174 s175 s176 s177 s178 s179 s180 s181 s182 s183 s184 s185 s186 s187 s188 s189 s190 s191 s192 s193 s194 s195 s196 s197 s198 s199 s200 s201 s202 s203 s204 s205 s206 s207 s208 s209 s210 s211 s212 s213 s214 s215 s216 s217 s218 s219 s220 s221 s222 s223 s224 s225 s226 s227 s228 s229 s230 s231 s232 s233 s234 s235 s236 s237 s238 s239 s240 s241 s242 s243 s244 s245 s246 s247 s248 s249 s250 s251 s252 s253 s254 s255 s256 s257 s258 s259 s260 s261 s262 s263 s264 s265 s266 s267 s268 s269 s270 s271 s272 s273 s274 s275 s276 s277 s278 s279 s280 s281 s282 s283 : Value} {b n m : Nat} {l : List Sup} {ds es : List Drw} {plan : List Wri} {ax aP al aD aE : Option Addr} {cx cP cl cD cE gy : Nat} {WA : World}
    (TP0 : Tp WA b n) (SX : ∀ W, Mv b n WA W → SlOf 5 RSup W ax l) (fx : Fit l.length) (PL : ∀ W, Mv b n WA W → SlOf 3 RWri W aP plan) (fP : plan.length ≤ 1000) (hm1 : 1 ≤ m ∧ m ≤ 1000) (DE : ∀ W, Mv b n WA W → SlOf 4 RDrw W aD ds ∧ SlOf 4 RDrw W aE es) (fD : Fit ds.length) (fE : Fit es.length)
    (Z : ∀ W, Mv b n WA W → ∀ k, k < 4 → ∃ (a1 a2 a3 a4 : Option Addr) (c1 c2 c3 c4 : Nat) (r q : Rls), W.cell? ⟨gy, k * 4, none⟩ = some (.slice a1 r.on.length c1) ∧ W.cell? ⟨gy, k * 4 + 1, none⟩ = some (.slice a2 r.level.length c2) ∧ W.cell? ⟨gy, k * 4 + 2, none⟩ = some (.slice a3 q.on.length c3) ∧ W.cell? ⟨gy, k * 4 + 3, none⟩ = some (.slice a4 q.level.length c4) ∧ (∀ W', Mv b n WA W' → RlA W' a1 a2 c1 c2 r ∧ RlA W' a3 a4 c3 c4 q))
    (h : ∀ (t10 t22 t23 t24 t25 t26 t28 t29 t30 t31 t32 t34 t35 t36 t37 t38 t39 t40 t41 t42 t43 t119 t120 t121 t122 t123 t124 t125 t126 t127 t128 t129 t130 t131 t132 t133 t134 t135 t136 t137 t138 t139 t140 t141 t142 t143 t144 t145 t146 t147 t148 t149 t150 t151 t152 t153 t154 t155 t156 t157 t158 t159 t160 t161 t162 t163 t164 t165 t166 t167 t168 t169 t170 t171 t172 t173 t174 t175 t176 t177 t178 t179 t180 t181 t182 t183 t184 t185 t186 t187 t188 t189 t190 t191 t192 t193 t194 t195 t196 t197 t198 t199 t200 t201 t202 t203 t204 t205 t206 t207 t208 t209 t210 t211 t212 t213 t214 t215 t216 t217 t218 t219 t220 t221 t222 t223 t224 t225 t226 t227 t228 t229 t230 t231 t232 t233 t234 t235 t236 t237 t238 t239 t240 t241 t242 t243 t244 t245 t246 t247 t248 t249 t250 t251 t252 t253 t254 t255 t256 t257 t258 t259 t260 t261 t262 t263 t264 t265 t266 t267 t268 t269 t270 t271 t272 t273 t274 t275 t276 t277 t278 t279 t280 t281 : Value) (wx : World), Mv b n WA wx → Q (.exit 2) { tmps := #[s0, s1, s2, .slice aD ds.length cD, .slice aP plan.length cP, s5, s6, s7, s8, s9, t10, .pointer (some ⟨b, 0, none⟩), .slice al m cl, .slice aE es.length cE, s14, s15, s16, s17, s18, s19, .slice ax l.length cx, s21, t22, t23, t24, t25, t26, s27, t28, t29, t30, t31, t32, s33, t34, t35, t36, t37, t38, t39, t40, t41, t42, t43, s44, s45, s46, s47, s48, s49, s50, s51, s52, s53, s54, s55, s56, s57, s58, s59, s60, s61, s62, s63, s64, s65, s66, s67, s68, s69, s70, s71, s72, s73, s74, s75, s76, s77, s78, s79, s80, s81, s82, s83, s84, s85, s86, s87, s88, s89, s90, s91, s92, s93, s94, s95, s96, s97, s98, s99, s100, s101, s102, s103, s104, s105, s106, s107, s108, s109, s110, s111, s112, s113, s114, s115, s116, .slice (some ⟨gy, 0, none⟩) 4 4, .int .i64 4, t119, t120, t121, t122, t123, t124, t125, t126, t127, t128, t129, t130, t131, t132, t133, t134, t135, t136, t137, t138, t139, t140, t141, t142, t143, t144, t145, t146, t147, t148, t149, t150, t151, t152, t153, t154, t155, t156, t157, t158, t159, t160, t161, t162, t163, t164, t165, t166, t167, t168, t169, t170, t171, t172, t173, t174, t175, t176, t177, t178, t179, t180, t181, t182, t183, t184, t185, t186, t187, t188, t189, t190, t191, t192, t193, t194, t195, t196, t197, t198, t199, t200, t201, t202, t203, t204, t205, t206, t207, t208, t209, t210, t211, t212, t213, t214, t215, t216, t217, t218, t219, t220, t221, t222, t223, t224, t225, t226, t227, t228, t229, t230, t231, t232, t233, t234, t235, t236, t237, t238, t239, t240, t241, t242, t243, t244, t245, t246, t247, t248, t249, t250, t251, t252, t253, t254, t255, t256, t257, t258, t259, t260, t261, t262, t263, t264, t265, t266, t267, t268, t269, t270, t271, t272, t273, t274, t275, t276, t277, t278, t279, t280, t281, s282, s283], defers := [] } wx) :
    (codeIn 2 Try.f7).wp Try.prog Q { tmps := #[s0, s1, s2, .slice aD ds.length cD, .slice aP plan.length cP, s5, s6, s7, s8, s9, s10, .pointer (some ⟨b, 0, none⟩), .slice al m cl, .slice aE es.length cE, s14, s15, s16, s17, s18, s19, .slice ax l.length cx, s21, s22, s23, s24, s25, s26, s27, s28, s29, s30, s31, s32, s33, s34, s35, s36, s37, s38, s39, s40, s41, s42, s43, s44, s45, s46, s47, s48, s49, s50, s51, s52, s53, s54, s55, s56, s57, s58, s59, s60, s61, s62, s63, s64, s65, s66, s67, s68, s69, s70, s71, s72, s73, s74, s75, s76, s77, s78, s79, s80, s81, s82, s83, s84, s85, s86, s87, s88, s89, s90, s91, s92, s93, s94, s95, s96, s97, s98, s99, s100, s101, s102, s103, s104, s105, s106, s107, s108, s109, s110, s111, s112, s113, s114, s115, s116, .slice (some ⟨gy, 0, none⟩) 4 4, .int .i64 4, .int .i64 0, s120, s121, s122, s123, s124, s125, s126, s127, s128, s129, s130, s131, s132, s133, s134, s135, s136, s137, s138, s139, s140, s141, s142, s143, s144, s145, s146, s147, s148, s149, s150, s151, s152, s153, s154, s155, s156, s157, s158, s159, s160, s161, s162, s163, s164, s165, s166, s167, s168, s169, s170, s171, s172, s173, s174, s175, s176, s177, s178, s179, s180, s181, s182, s183, s184, s185, s186, s187, s188, s189, s190, s191, s192, s193, s194, s195, s196, s197, s198, s199, s200, s201, s202, s203, s204, s205, s206, s207, s208, s209, s210, s211, s212, s213, s214, s215, s216, s217, s218, s219, s220, s221, s222, s223, s224, s225, s226, s227, s228, s229, s230, s231, s232, s233, s234, s235, s236, s237, s238, s239, s240, s241, s242, s243, s244, s245, s246, s247, s248, s249, s250, s251, s252, s253, s254, s255, s256, s257, s258, s259, s260, s261, s262, s263, s264, s265, s266, s267, s268, s269, s270, s271, s272, s273, s274, s275, s276, s277, s278, s279, s280, s281, s282, s283], defers := [] } WA := by
  have HQ := PLift.up h
  clear h
  simp only [codeIn, Try.f7, codeOf, Option.bind_some, Option.getD_some, Nat.beq, cond_true, cond_false]
  have TP := Lib.hid TP0
  have HBW := Lib.hid TP0.has
  have SX' := Lib.hid SX
  have PL' := Lib.hid PL
  have DE' := Lib.hid DE
  have ZZ := Lib.hid Z
  clear TP0 SX PL DE Z
  go_loopw [119] (fun s wi => ∃ j : Nat, j ≤ 4 ∧ s = .int .i64 j ∧ Mv b n WA wi) (fun s _ => 4 - (intOf s).toNat)
  case atStart => exact ⟨0, Nat.zero_le _, rfl, Mv.refl TP.out⟩
  case round =>
    obtain ⟨j, hj, rfl, hm⟩ := hrel
    have M0 := Lib.hid hm
    clear hm
    by_cases hl : j < 4
    · have j3 : (j : Int) < 4 := by omega
      obtain ⟨a1, a2, a3, a4, c1, c2, c3, c4, r, q, hc0, hc1, hc2, hc3, hs⟩ := ZZ.out wr M0.out j hl
      have hh := has_of_cell hc0
      have RA := Lib.hid hs
      clear hs
      have JL := Lib.hid (joinP_lens l r q (RA.out wr M0.out).2.f1 (RA.out wr M0.out).2.f2)
      have V1 := Lib.hid (fun W hW => (bigJoin_any l r q ax a1 a2 a3 a4 cx c1 c2 c3 c4 W (SX'.out W hW) fx (RA.out W hW).1.on (RA.out W hW).1.lv (RA.out W hW).2.on (RA.out W hW).2.lv (RA.out W hW).1.k1 (RA.out W hW).1.k2 (RA.out W hW).2.k1 (RA.out W hW).2.k2 (RA.out W hW).1.f1 (RA.out W hW).1.f2 (RA.out W hW).2.f1 (RA.out W hW).2.f2).mono (fun e w' h => h.rl JL.out.1 JL.out.2))
      have V2 := Lib.hid (fun W hW => (refBigJoin_any l r q ax a1 a2 a3 a4 cx c1 c2 c3 c4 W (SX'.out W hW) fx (RA.out W hW).1.on (RA.out W hW).1.lv (RA.out W hW).2.on (RA.out W hW).2.lv (RA.out W hW).1.f1 (RA.out W hW).1.f2 (RA.out W hW).2.f1 (RA.out W hW).2.f2).mono (fun e w' h => h.rl JL.out.1 JL.out.2))
      obtain ⟨J, hJ⟩ : ∃ x, joinP l r q = x := ⟨_, rfl⟩
      obtain ⟨je, hje⟩ : ∃ x, begR l [r, q] = x := ⟨_, rfl⟩
      rw [hJ, hje] at V1 V2
      clear hJ hje JL
      have lb1 : (je != je) = false := by simp
      obtain ⟨W1, hW1⟩ : ∃ W1 : World, Hid (W1 = wr.alloc (.cells #[.slice a1 r.on.length c1, .slice a2 r.level.length c2, .slice a3 q.on.length c3, .slice a4 q.level.length c4] 56)) := ⟨_, Lib.hid rfl⟩
      have G1 : Hid (Gr wr W1) := Lib.hid (by rw [hW1.out]; exact (Gr.refl _).alloc _)
      have R1 : Hid (Row W1 wr.heap.size 56 [.slice a1 r.on.length c1, .slice a2 r.level.length c2, .slice a3 q.on.length c3, .slice a4 q.level.length c4]) := Lib.hid (by rw [hW1.out]; exact Row.new _ _ _)
      have M1 := Lib.hid (M0.out.gr G1.out)
      have ZB : Hid (b < wr.heap.size) := Lib.hid (by have := M0.out.size; have := HBW.out; omega)
      obtain ⟨YB, hYB⟩ : ∃ YB : Nat, Hid (wr.heap.size = YB) := ⟨_, Lib.hid rfl⟩
      rw [hYB.out] at R1
      have NY : Hid (YB ≠ b) := Lib.hid (by have := ZB.out; have := hYB.out; omega)
      go_upto_region 15 with fail
      rw [← hW1.out, hYB.out]
      clear hc0 hc1 hc2 hc3 hh hW1
      obtain ⟨y0, y1, y2, y3, yh⟩ := pairR R1.out
      go_wp2_with fail
      clear y0 y1 y2 y3 yh
      refine (V1.out W1 M1.out).mono ?_
      rintro e w2 ⟨v1, rfl, hv1, hg2⟩
      obtain ⟨b1, b2, e1, e2, rfl, hr1⟩ := hv1
      have G2 := Lib.hid hg2
      have M2 := Lib.hid (M1.out.gr hg2)
      have S1 := Lib.hid hr1
      clear hg2 hr1 V1
      go_upto_region 16 with fail
      obtain ⟨W3, hW3⟩ : ∃ W3 : World, Hid (W3 = w2.alloc (.cells #[.slice b1 J.on.length e1, .slice b2 J.level.length e2] 31)) := ⟨_, Lib.hid rfl⟩
      obtain ⟨N3, hN3⟩ : ∃ N3 : Nat, Hid (w2.heap.size = N3) := ⟨_, Lib.hid rfl⟩
      rw [← hW3.out, hN3.out]
      have G3 : Hid (Gr w2 W3) := Lib.hid (by rw [hW3.out]; exact (Gr.refl _).alloc _)
      have R3 : Hid (Row W3 N3 31 [.slice b1 J.on.length e1, .slice b2 J.level.length e2]) := Lib.hid (by rw [hW3.out, ← hN3.out]; exact Row.new _ _ _)
      have M3 := Lib.hid (M2.out.gr G3.out)
      have S3 := Lib.hid (S1.out.gr G3.out)
      obtain ⟨y0, y1, y2, y3, yh⟩ := pairR (R1.out.gr (G2.out.trans G3.out))
      clear hW3 hN3 S1
      go_wp2_with fail
      clear y0 y1 y2 y3 yh
      refine (V2.out W3 M3.out).mono ?_
      rintro e w4 ⟨v2, rfl, hv2, hg4⟩
      obtain ⟨b3, b4, e3, e4, rfl, hr2⟩ := hv2
      have G4 := Lib.hid hg4
      have M4 := Lib.hid (M3.out.gr hg4)
      have S2 := Lib.hid hr2
      clear hg4 hr2 V2
      go_upto_region 17 with fail
      obtain ⟨W5, hW5⟩ : ∃ W5 : World, Hid (W5 = w4.alloc (.cells #[.slice b3 J.on.length e3, .slice b4 J.level.length e4] 31)) := ⟨_, Lib.hid rfl⟩
      obtain ⟨N5, hN5⟩ : ∃ N5 : Nat, Hid (w4.heap.size = N5) := ⟨_, Lib.hid rfl⟩
      rw [← hW5.out, hN5.out]
      have G5 : Hid (Gr w4 W5) := Lib.hid (by rw [hW5.out]; exact (Gr.refl _).alloc _)
      have R5 : Hid (Row W5 N5 31 [.slice b3 J.on.length e3, .slice b4 J.level.length e4]) := Lib.hid (by rw [hW5.out, ← hN5.out]; exact Row.new _ _ _)
      have M5 := Lib.hid (M4.out.gr G5.out)
      have S5 := Lib.hid (S2.out.gr G5.out)
      have S35 := Lib.hid (S3.out.gr (G4.out.trans G5.out))
      have X := Lib.hid (sameRails_any J J b1 b2 b3 b4 e1 e2 e3 e4 W5 S35.out.on S35.out.lv S5.out.on S5.out.lv S5.out.f1 S5.out.f2 S5.out.f1 S5.out.f2)
      have dx : decide (J = J) = true := decide_eq_true rfl
      rw [dx] at X
      obtain ⟨y0, y1, yh, _⟩ := boxZ (R3.out.gr (G4.out.trans G5.out))
      obtain ⟨z0, z1, zh, _⟩ := boxZ R5.out
      have R15 := Lib.hid (R1.out.gr (G2.out.trans (G3.out.trans (G4.out.trans G5.out))))
      clear dx hW5 hN5 S2 S3 S5 S35
      go_wp2_with fail
      refine X.out.mono ?_
      rintro e w6 ⟨rfl, hg6⟩
      have M6 := Lib.hid (M5.out.gr hg6)
      have R16 := Lib.hid (R15.out.gr hg6)
      clear hg6 X y0 y1 yh z0 z1 zh R15 M5
      obtain ⟨W8, hW8⟩ : ∃ W8 : World, Hid (W8 = w6.alloc (.cells #[.slice aD ds.length cD, .slice aE es.length cE] 27)) := ⟨_, Lib.hid rfl⟩
      have G8 : Hid (Gr w6 W8) := Lib.hid (by rw [hW8.out]; exact (Gr.refl _).alloc _)
      have B8 : Hid (Row W8 w6.heap.size 27 [.slice aD ds.length cD, .slice aE es.length cE]) := Lib.hid (by rw [hW8.out]; exact Row.new _ _ _)
      have M8 := Lib.hid (M6.out.gr G8.out)
      have ZB6 : Hid (b < w6.heap.size) := Lib.hid (by have := M6.out.size; have := HBW.out; omega)
      go_wp2_with fail
      rw [← hW8.out]
      refine wp_code_eq (c := codeIn 4 Try.f7) (by kernel_rfl) (rxC (WA := W8) (gz := w6.heap.size) (r := r) (q := q) (M8.out.tp TP.out) (fun W hW => SX'.out W (M8.out.trans HBW.out hW)) fx (R16.out.gr G8.out) NY.out (fun W hW => RA.out W (M8.out.trans HBW.out hW)) (fun W hW => PL'.out W (M8.out.trans HBW.out hW)) fP hm1 (fun W hW k hk => ?_) ?_)
      · have rw8 := hW.row B8.out (by have := ZB6.out; omega)
        have d0 := rw8.cell 0 (by simp)
        have d1 := rw8.cell 1 (by simp)
        obtain rfl | rfl : k = 0 ∨ k = 1 := by omega
        · exact ⟨aD, ds, cD, d0, fun W' hW' => (DE'.out W' (M8.out.trans HBW.out hW')).1, fD⟩
        · exact ⟨aE, es, cE, d1, fun W' hW' => (DE'.out W' (M8.out.trans HBW.out hW')).2, fE⟩
      intro t10 t28 t29 t30 t31 t32 t34 t35 t36 t37 t38 t39 t40 t41 t42 t43 t154 t155 t156 t157 t158 t159 t160 t161 t162 t163 t164 t165 t166 t167 t168 t169 t170 t171 t172 t173 t174 t175 t176 t177 t178 t179 t180 t181 t182 t183 t184 t185 t186 t187 t188 t189 t190 t191 t192 t193 t194 t195 t196 t197 t198 t199 t200 t201 t202 t203 t204 t205 t206 t207 t208 t209 t210 t211 t212 t213 t214 t215 t216 t217 t218 t219 t220 t221 t222 t223 t224 t225 t226 t227 t228 t229 t230 t231 t232 t233 t234 t235 t236 t237 t238 t239 t240 t241 t242 t243 t244 t245 t246 t247 t248 t249 t250 t251 t252 t253 t254 t255 t256 t257 t258 t259 t260 t261 t262 t263 t264 t265 t266 t267 t268 t269 t270 t271 t272 t273 t274 t275 t276 t277 t278 t279 t280 wx hmx
      have MX := Lib.hid (M8.out.trans HBW.out hmx)
      clear hmx
      go_wp2_with fail
      go_roundw
      case rel => exact ⟨j + 1, by omega, by simp, MX.out⟩
      case measure => simp [intOf]; omega
    · obtain rfl : j = 4 := by omega
      go_wp2_with fail
      exact HQ.down _ _ _ _ _ _ _ _ _ _ _ _ _ _ _ _ _ _ _ _ _ _ _ _ _ _ _ _ _ _ _ _ _ _ _ _ _ _ _ _ _ _ _ _ _ _ _ _ _ _ _ _ _ _ _ _ _ _ _ _ _ _ _ _ _ _ _ _ _ _ _ _ _ _ _ _ _ _ _ _ _ _ _ _ _ _ _ _ _ _ _ _ _ _ _ _ _ _ _ _ _ _ _ _ _ _ _ _ _ _ _ _ _ _ _ _ _ _ _ _ _ _ _ _ _ _ _ _ _ _ _ _ _ _ _ _ _ _ _ _ _ _ _ _ _ _ _ _ _ _ _ _ _ _ _ _ _ _ _ _ _ _ _ _ _ _ _ _ _ _ _ _ _ _ _ _ _ _ _ _ _ _ _ _ _ M0.out
theorem rxE {Q : Exit → Act → World → Prop} {s0 s1 s2 s5 s6 s8 s9 s10 s15 s17 s19 s20 s21 s22 s23 s24 s25 s26 s27 s28 s29 s30 s31 s32 s33 s34 s35 s36 s37 s38 s39 s40 s41 s42 s43 s44 s45 s46 s47 s48 s49 s50 s51 s52 s53 s54 s55 s56 s57 s58 s59 s60 s61 s62 s63 s64 s65 s66 s67 s68 s69 s70 s71 s72 s73 s74 s75 s76 s77 s78 s79 s80 s81 s82 s83 s84 s85 s86 s87 s88 s89 s90 s91 s92 s93 s94 s95 s96 s97 s98 s102 s103 s104 s105 s106 s107 s108 s109 s110 s111 s112 s113 s114 s115 s116 s117 s118 s119 s120 s121 s122 s123 s124 s125 s126 s127 s128 s129 s130 s131 s132 s133 s134 s135 s136 s137 s138 s139 s140 s141 s142 s143 s144 s145 s146 s147 s148 s149 s150 s151 s152 s153 s154 s155 s156 s157 s158 s159 s160 s161 s162 s163 s164 s165 s166 s167 s168 s169 s170 s171 s172 s173 s174 s175 s176 s177 s178 s179 s180 s181 s182 s183 s184 s185 s186 s187 s188 s189 s190 s191 s192 s193 s194 s195 s196 s197 s198 s199 s200 s201 s202 s203 s204 s205 s206 s207 s208 s209 s210 s211 s212 s213 s214 s215 s216 s217 s218 s219 s220 s221 s222 s223 s224 s225 s226 s227 s228 s229 s230 s231 s232 s233 s234 s235 s236 s237 s238 s239 s240 s241 s242 s243 s244 s245 s246 s247 s248 s249 s250 s251 s252 s253 s254 s255 s256 s257 s258 s259 s260 s261 s262 s263 s264 s265 s266 s267 s268 s269 s270 s271 s272 s273 s274 s275 s276 s277 s278 s279 s280 s281 s282 s283 : Value} {b n m y0 y1 y2 y3 : Nat} {r0 r1 r2 r3 : Rls} {ds es : List Drw} {plan : List Wri} {aP al aD aE b1 b2 b3 b4 b5 b6 b7 b8 : Option Addr} {cP cl cD cE gx d1 d2 d3 d4 d5 d6 d7 d8 : Nat} {WA : World}
    (TP0 : Tp WA b n) (PL : ∀ W, Mv b n WA W → SlOf 3 RWri W aP plan) (fP : plan.length ≤ 1000) (hm1 : 1 ≤ m ∧ m ≤ 1000) (DE : ∀ W, Mv b n WA W → SlOf 4 RDrw W aD ds ∧ SlOf 4 RDrw W aE es) (fD : Fit ds.length) (fE : Fit es.length)
    (K0 : Row WA y0 31 [.slice b1 r0.on.length d1, .slice b2 r0.level.length d2]) (nK0 : y0 ≠ b) (RK0 : ∀ W, Mv b n WA W → RlA W b1 b2 d1 d2 r0) (K1 : Row WA y1 31 [.slice b3 r1.on.length d3, .slice b4 r1.level.length d4]) (nK1 : y1 ≠ b) (RK1 : ∀ W, Mv b n WA W → RlA W b3 b4 d3 d4 r1)
    (K2 : Row WA y2 31 [.slice b5 r2.on.length d5, .slice b6 r2.level.length d6]) (nK2 : y2 ≠ b) (RK2 : ∀ W, Mv b n WA W → RlA W b5 b6 d5 d6 r2) (K3 : Row WA y3 31 [.slice b7 r3.on.length d7, .slice b8 r3.level.length d8]) (nK3 : y3 ≠ b) (RK3 : ∀ W, Mv b n WA W → RlA W b7 b8 d7 d8 r3)
    (Z : ∀ W, Mv b n WA W → ∀ k, k < 3 → ∃ (ax : Option Addr) (l : List Sup) (cx : Nat), W.cell? ⟨gx, k, none⟩ = some (.slice ax l.length cx) ∧ (∀ W', Mv b n WA W' → SlOf 5 RSup W' ax l) ∧ Fit l.length)
    (h : ∀ (t10 t20 t22 t23 t24 t25 t26 t28 t29 t30 t31 t32 t34 t35 t36 t37 t38 t39 t40 t41 t42 t43 t101 t102 t103 t104 t105 t106 t107 t108 t109 t110 t111 t112 t113 t114 t115 t116 t117 t118 t119 t120 t121 t122 t123 t124 t125 t126 t127 t128 t129 t130 t131 t132 t133 t134 t135 t136 t137 t138 t139 t140 t141 t142 t143 t144 t145 t146 t147 t148 t149 t150 t151 t152 t153 t154 t155 t156 t157 t158 t159 t160 t161 t162 t163 t164 t165 t166 t167 t168 t169 t170 t171 t172 t173 t174 t175 t176 t177 t178 t179 t180 t181 t182 t183 t184 t185 t186 t187 t188 t189 t190 t191 t192 t193 t194 t195 t196 t197 t198 t199 t200 t201 t202 t203 t204 t205 t206 t207 t208 t209 t210 t211 t212 t213 t214 t215 t216 t217 t218 t219 t220 t221 t222 t223 t224 t225 t226 t227 t228 t229 t230 t231 t232 t233 t234 t235 t236 t237 t238 t239 t240 t241 t242 t243 t244 t245 t246 t247 t248 t249 t250 t251 t252 t253 t254 t255 t256 t257 t258 t259 t260 t261 t262 t263 t264 t265 t266 t267 t268 t269 t270 t271 t272 t273 t274 t275 t276 t277 t278 t279 t280 t281 t282 : Value) (wx : World), Mv b n WA wx → Q (.exit 0) { tmps := #[s0, s1, s2, .slice aD ds.length cD, .slice aP plan.length cP, s5, s6, .pointer (some ⟨y0, 0, none⟩), s8, s9, t10, .pointer (some ⟨b, 0, none⟩), .slice al m cl, .slice aE es.length cE, .pointer (some ⟨y1, 0, none⟩), s15, .pointer (some ⟨y2, 0, none⟩), s17, .pointer (some ⟨y3, 0, none⟩), s19, t20, s21, t22, t23, t24, t25, t26, s27, t28, t29, t30, t31, t32, s33, t34, t35, t36, t37, t38, t39, t40, t41, t42, t43, s44, s45, s46, s47, s48, s49, s50, s51, s52, s53, s54, s55, s56, s57, s58, s59, s60, s61, s62, s63, s64, s65, s66, s67, s68, s69, s70, s71, s72, s73, s74, s75, s76, s77, s78, s79, s80, s81, s82, s83, s84, s85, s86, s87, s88, s89, s90, s91, s92, s93, s94, s95, s96, s97, s98, .slice (some ⟨gx, 0, none⟩) 3 3, .int .i64 3, t101, t102, t103, t104, t105, t106, t107, t108, t109, t110, t111, t112, t113, t114, t115, t116, t117, t118, t119, t120, t121, t122, t123, t124, t125, t126, t127, t128, t129, t130, t131, t132, t133, t134, t135, t136, t137, t138, t139, t140, t141, t142, t143, t144, t145, t146, t147, t148, t149, t150, t151, t152, t153, t154, t155, t156, t157, t158, t159, t160, t161, t162, t163, t164, t165, t166, t167, t168, t169, t170, t171, t172, t173, t174, t175, t176, t177, t178, t179, t180, t181, t182, t183, t184, t185, t186, t187, t188, t189, t190, t191, t192, t193, t194, t195, t196, t197, t198, t199, t200, t201, t202, t203, t204, t205, t206, t207, t208, t209, t210, t211, t212, t213, t214, t215, t216, t217, t218, t219, t220, t221, t222, t223, t224, t225, t226, t227, t228, t229, t230, t231, t232, t233, t234, t235, t236, t237, t238, t239, t240, t241, t242, t243, t244, t245, t246, t247, t248, t249, t250, t251, t252, t253, t254, t255, t256, t257, t258, t259, t260, t261, t262, t263, t264, t265, t266, t267, t268, t269, t270, t271, t272, t273, t274, t275, t276, t277, t278, t279, t280, t281, t282, s283], defers := [] } wx) :
    (codeIn 0 Try.f7).wp Try.prog Q { tmps := #[s0, s1, s2, .slice aD ds.length cD, .slice aP plan.length cP, s5, s6, .pointer (some ⟨y0, 0, none⟩), s8, s9, s10, .pointer (some ⟨b, 0, none⟩), .slice al m cl, .slice aE es.length cE, .pointer (some ⟨y1, 0, none⟩), s15, .pointer (some ⟨y2, 0, none⟩), s17, .pointer (some ⟨y3, 0, none⟩), s19, s20, s21, s22, s23, s24, s25, s26, s27, s28, s29, s30, s31, s32, s33, s34, s35, s36, s37, s38, s39, s40, s41, s42, s43, s44, s45, s46, s47, s48, s49, s50, s51, s52, s53, s54, s55, s56, s57, s58, s59, s60, s61, s62, s63, s64, s65, s66, s67, s68, s69, s70, s71, s72, s73, s74, s75, s76, s77, s78, s79, s80, s81, s82, s83, s84, s85, s86, s87, s88, s89, s90, s91, s92, s93, s94, s95, s96, s97, s98, .slice (some ⟨gx, 0, none⟩) 3 3, .int .i64 3, .int .i64 0, s102, s103, s104, s105, s106, s107, s108, s109, s110, s111, s112, s113, s114, s115, s116, s117, s118, s119, s120, s121, s122, s123, s124, s125, s126, s127, s128, s129, s130, s131, s132, s133, s134, s135, s136, s137, s138, s139, s140, s141, s142, s143, s144, s145, s146, s147, s148, s149, s150, s151, s152, s153, s154, s155, s156, s157, s158, s159, s160, s161, s162, s163, s164, s165, s166, s167, s168, s169, s170, s171, s172, s173, s174, s175, s176, s177, s178, s179, s180, s181, s182, s183, s184, s185, s186, s187, s188, s189, s190, s191, s192, s193, s194, s195, s196, s197, s198, s199, s200, s201, s202, s203, s204, s205, s206, s207, s208, s209, s210, s211, s212, s213, s214, s215, s216, s217, s218, s219, s220, s221, s222, s223, s224, s225, s226, s227, s228, s229, s230, s231, s232, s233, s234, s235, s236, s237, s238, s239, s240, s241, s242, s243, s244, s245, s246, s247, s248, s249, s250, s251, s252, s253, s254, s255, s256, s257, s258, s259, s260, s261, s262, s263, s264, s265, s266, s267, s268, s269, s270, s271, s272, s273, s274, s275, s276, s277, s278, s279, s280, s281, s282, s283], defers := [] } WA := by
  have HQ := PLift.up h
  clear h
  simp only [codeIn, Try.f7, codeOf, Option.bind_some, Option.getD_some, Nat.beq, cond_true, cond_false]
  have TP := Lib.hid TP0
  have HBW := Lib.hid TP0.has
  have PL' := Lib.hid PL
  have DE' := Lib.hid DE
  have Q0 := Lib.hid K0
  have Q1 := Lib.hid K1
  have Q2 := Lib.hid K2
  have Q3 := Lib.hid K3
  have n0 := Lib.hid nK0
  have n1 := Lib.hid nK1
  have n2 := Lib.hid nK2
  have n3 := Lib.hid nK3
  have S0 := Lib.hid RK0
  have S1 := Lib.hid RK1
  have S2 := Lib.hid RK2
  have S3 := Lib.hid RK3
  have ZZ := Lib.hid Z
  clear TP0 PL DE Z K0 K1 K2 K3 nK0 nK1 nK2 nK3 RK0 RK1 RK2 RK3
  go_loopw [101] (fun s wi => ∃ j : Nat, j ≤ 3 ∧ s = .int .i64 j ∧ Mv b n WA wi) (fun s _ => 3 - (intOf s).toNat)
  case atStart => exact ⟨0, Nat.zero_le _, rfl, Mv.refl TP.out⟩
  case round =>
    obtain ⟨j, hj, rfl, hm⟩ := hrel
    have M0 := Lib.hid hm
    clear hm
    by_cases hl : j < 3
    · have j3 : (j : Int) < 3 := by omega
      obtain ⟨ax, l, cx, hc, hs, fx⟩ := ZZ.out wr M0.out j hl
      have hh := has_of_cell hc
      have SX := Lib.hid hs
      clear hs
      go_upto_region 12 with fail
      clear hc hh
      obtain ⟨u0, u1, uh, _⟩ := boxZ (M0.out.row Q0.out n0.out)
      obtain ⟨u2, u3, uh2, _⟩ := boxZ (M0.out.row Q1.out n1.out)
      obtain ⟨u4, u5, uh4, _⟩ := boxZ (M0.out.row Q2.out n2.out)
      obtain ⟨u6, u7, uh6, _⟩ := boxZ (M0.out.row Q3.out n3.out)
      obtain ⟨W1, hW1⟩ : ∃ W1 : World, Hid (W1 = wr.alloc (.cells #[.slice b1 r0.on.length d1, .slice b2 r0.level.length d2, .slice b1 r0.on.length d1, .slice b2 r0.level.length d2, .slice b3 r1.on.length d3, .slice b4 r1.level.length d4, .slice b5 r2.on.length d5, .slice b6 r2.level.length d6, .slice b3 r1.on.length d3, .slice b4 r1.level.length d4, .slice b7 r3.on.length d7, .slice b8 r3.level.length d8, .slice b5 r2.on.length d5, .slice b6 r2.level.length d6, .slice b3 r1.on.length d3, .slice b4 r1.level.length d4] 56)) := ⟨_, Lib.hid rfl⟩
      have G1 : Hid (Gr wr W1) := Lib.hid (by rw [hW1.out]; exact (Gr.refl _).alloc _)
      have B1 : Hid (Row W1 wr.heap.size 56 [.slice b1 r0.on.length d1, .slice b2 r0.level.length d2, .slice b1 r0.on.length d1, .slice b2 r0.level.length d2, .slice b3 r1.on.length d3, .slice b4 r1.level.length d4, .slice b5 r2.on.length d5, .slice b6 r2.level.length d6, .slice b3 r1.on.length d3, .slice b4 r1.level.length d4, .slice b7 r3.on.length d7, .slice b8 r3.level.length d8, .slice b5 r2.on.length d5, .slice b6 r2.level.length d6, .slice b3 r1.on.length d3, .slice b4 r1.level.length d4]) := Lib.hid (by rw [hW1.out]; exact Row.new _ _ _)
      have M1 := Lib.hid (M0.out.gr G1.out)
      have ZB : Hid (b < wr.heap.size) := Lib.hid (by have := M0.out.size; have := HBW.out; omega)
      go_wp2_with fail
      rw [← hW1.out]
      clear u0 u1 uh u2 u3 uh2 u4 u5 uh4 u6 u7 uh6
      refine wp_code_eq (c := codeIn 2 Try.f7) (by kernel_rfl) (rxD (WA := W1) (gy := wr.heap.size) (l := l) (M1.out.tp TP.out) (fun W hW => SX.out W (M1.out.trans HBW.out hW)) fx (fun W hW => PL'.out W (M1.out.trans HBW.out hW)) fP hm1 (fun W hW => DE'.out W (M1.out.trans HBW.out hW)) fD fE (fun W hW k hk => ?_) ?_)
      · have R := hW.row B1.out (by have := ZB.out; omega)
        have T0 := fun W' (hW' : Mv b n W1 W') => S0.out W' (M1.out.trans HBW.out hW')
        have T1 := fun W' (hW' : Mv b n W1 W') => S1.out W' (M1.out.trans HBW.out hW')
        have T2 := fun W' (hW' : Mv b n W1 W') => S2.out W' (M1.out.trans HBW.out hW')
        have T3 := fun W' (hW' : Mv b n W1 W') => S3.out W' (M1.out.trans HBW.out hW')
        obtain rfl | rfl | rfl | rfl : k = 0 ∨ k = 1 ∨ k = 2 ∨ k = 3 := by omega
        · exact ⟨b1, b2, b1, b2, d1, d2, d1, d2, r0, r0, R.cell 0 (by simp), R.cell 1 (by simp), R.cell 2 (by simp), R.cell 3 (by simp), fun W' h => ⟨T0 W' h, T0 W' h⟩⟩
        · exact ⟨b3, b4, b5, b6, d3, d4, d5, d6, r1, r2, R.cell 4 (by simp), R.cell 5 (by simp), R.cell 6 (by simp), R.cell 7 (by simp), fun W' h => ⟨T1 W' h, T2 W' h⟩⟩
        · exact ⟨b3, b4, b7, b8, d3, d4, d7, d8, r1, r3, R.cell 8 (by simp), R.cell 9 (by simp), R.cell 10 (by simp), R.cell 11 (by simp), fun W' h => ⟨T1 W' h, T3 W' h⟩⟩
        · exact ⟨b5, b6, b3, b4, d5, d6, d3, d4, r2, r1, R.cell 12 (by simp), R.cell 13 (by simp), R.cell 14 (by simp), R.cell 15 (by simp), fun W' h => ⟨T2 W' h, T1 W' h⟩⟩
      intro t10 t22 t23 t24 t25 t26 t28 t29 t30 t31 t32 t34 t35 t36 t37 t38 t39 t40 t41 t42 t43 t119 t120 t121 t122 t123 t124 t125 t126 t127 t128 t129 t130 t131 t132 t133 t134 t135 t136 t137 t138 t139 t140 t141 t142 t143 t144 t145 t146 t147 t148 t149 t150 t151 t152 t153 t154 t155 t156 t157 t158 t159 t160 t161 t162 t163 t164 t165 t166 t167 t168 t169 t170 t171 t172 t173 t174 t175 t176 t177 t178 t179 t180 t181 t182 t183 t184 t185 t186 t187 t188 t189 t190 t191 t192 t193 t194 t195 t196 t197 t198 t199 t200 t201 t202 t203 t204 t205 t206 t207 t208 t209 t210 t211 t212 t213 t214 t215 t216 t217 t218 t219 t220 t221 t222 t223 t224 t225 t226 t227 t228 t229 t230 t231 t232 t233 t234 t235 t236 t237 t238 t239 t240 t241 t242 t243 t244 t245 t246 t247 t248 t249 t250 t251 t252 t253 t254 t255 t256 t257 t258 t259 t260 t261 t262 t263 t264 t265 t266 t267 t268 t269 t270 t271 t272 t273 t274 t275 t276 t277 t278 t279 t280 t281 wx hmx
      have MX := Lib.hid (M1.out.trans HBW.out hmx)
      clear hmx
      go_wp2_with fail
      go_roundw
      case rel => exact ⟨j + 1, by omega, by simp, MX.out⟩
      case measure => simp [intOf]; omega
    · obtain rfl : j = 3 := by omega
      go_wp2_with fail
      exact HQ.down _ _ _ _ _ _ _ _ _ _ _ _ _ _ _ _ _ _ _ _ _ _ _ _ _ _ _ _ _ _ _ _ _ _ _ _ _ _ _ _ _ _ _ _ _ _ _ _ _ _ _ _ _ _ _ _ _ _ _ _ _ _ _ _ _ _ _ _ _ _ _ _ _ _ _ _ _ _ _ _ _ _ _ _ _ _ _ _ _ _ _ _ _ _ _ _ _ _ _ _ _ _ _ _ _ _ _ _ _ _ _ _ _ _ _ _ _ _ _ _ _ _ _ _ _ _ _ _ _ _ _ _ _ _ _ _ _ _ _ _ _ _ _ _ _ _ _ _ _ _ _ _ _ _ _ _ _ _ _ _ _ _ _ _ _ _ _ _ _ _ _ _ _ _ _ _ _ _ _ _ _ _ _ _ _ _ _ _ _ _ _ _ _ _ _ _ _ _ _ _ _ _ _ _ _ M0.out
theorem owns_two {w : World} {base base' e e' size size' n n' : Nat} {v v' : Value} {xs xs' : List Value} (h : w.ownsRow base e size v n xs) (h' : w.ownsRow base' e' size' v' n' xs') (hT : e ≠ e') : v'.ownBlock = none ∨ v'.ownBlock ≠ v.ownBlock := by
  obtain ⟨_, ⟨rfl, _⟩ | ⟨g', cap', cur', rfl, _, hg', _⟩⟩ := h'
  · exact .inl rfl
  · refine .inr fun q => ?_
    obtain ⟨_, ⟨rfl, _⟩ | ⟨g, cap, cur, rfl, _, hg, _⟩⟩ := h
    · cases q
    · have : g' = g := by simpa [Value.ownBlock] using q
      subst this
      rw [hg] at hg'
      injection hg' with hg'
      injection hg' with _ hg'
      exact hT hg'
theorem owns_put {w : World} {base e size n g cap j : Nat} {xs : List Value} (h : w.ownsRow base e size (.slice (some ⟨g, 0, none⟩) n cap) n xs) (hj : j < n * size) (v : Value) : (w.setCell ⟨g, j, none⟩ v).ownsRow base e size (.slice (some ⟨g, 0, none⟩) n cap) n (xs.set j v) := by
  obtain ⟨h0, ⟨e1, _⟩ | ⟨g', cap', cur, e1, hb, hg, hn, hm, hs, ht⟩⟩ := h
  · cases e1
  · simp only [Value.slice.injEq, Option.some.injEq, Addr.mk.injEq, and_true, true_and] at e1
    obtain ⟨rfl, rfl⟩ := e1
    have hr : Row w g e cur.toList := hg
    have hr2 := hr.set j v
    refine ⟨by simpa using h0, .inr ⟨g, cap, (cur.toList.set j v).toArray, rfl, hb, hr2, hn, hm, by simpa using hs, ?_⟩⟩
    rw [← ht]
    simp only []
    rw [List.take_set]
theorem mem_set_or {α : Type} {xs : List α} {i : Nat} {x y : α} (h : y ∈ xs.set i x) : y = x ∨ y ∈ xs := (List.mem_or_eq_of_mem_set h).symm
theorem two_at {α : Type} {R : α → α → Prop} {xs : List α} (h : xs.Pairwise R) {i k : Nat} (hi : i < xs.length) (hk : k < xs.length) (hne : i ≠ k) : R xs[i] xs[k] ∨ R xs[k] xs[i] := by
  have p := List.pairwise_iff_getElem.1 h
  rcases Nat.lt_or_gt_of_ne hne with q | q
  · exact .inl (p i k hi hk q)
  · exact .inr (p k i hk hi q)
end Go.Proofs.Ytoenkcojfogmmaa
