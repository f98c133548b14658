/- bringuprails.Rails. -/
import Derived.Test.YtoenkcojfogmmaaMkA
import Derived.Deep.RegionLaw
import Derived.Deep.AppendLies
set_option linter.unusedVariables false
set_option linter.unusedSimpArgs false
namespace Go.Proofs.Ytoenkcojfogmmaa
open Go.RowKit
open Classical

/-- Rails as a value, wherever the tape stands. -/
def VH (b : Nat) (w : World) (v : Value) (r : Rls) : Prop := ∃ a1 a2 c1 c2, v = .agg #[.slice a1 r.on.length c1, .slice a2 r.level.length c2] ∧ r.on.length ≤ c1 ∧ r.level.length ≤ c2 ∧ Hold b w (fun W => SlOf 1 RB W a1 r.on) ∧ Hold b w (fun W => SlOf 1 RI W a2 r.level)
def MakesRls (w : World) (b len : Nat) (l : List Sup) (e : Ending) (w' : World) : Prop := ∃ r v, e = .returned v ∧ RlsOk l r ∧ VH b w' v r ∧ Mv b len w w'
theorem mono_sups (ao : Option Addr) (l : List Sup) : GrMono (fun W => SlOf 5 RSup W ao l) := fun _ _ hg h => sups_gr h hg
theorem mono_B (ao : Option Addr) (l : List Bool) : GrMono (fun W => SlOf 1 RB W ao l) := fun _ _ hg h => h.giB hg
theorem mono_I (ao : Option Addr) (l : List Int) : GrMono (fun W => SlOf 1 RI W ao l) := fun _ _ hg h => h.giI hg
theorem VH.mv {b len : Nat} {w w' : World} {v : Value} {r : Rls} (h : VH b w v r) (hb : b < w.heap.size) (m : Mv b len w w') : VH b w' v r := by
  obtain ⟨a1, a2, c1, c2, e, k1, k2, h1, h2⟩ := h
  exact ⟨a1, a2, c1, c2, e, k1, k2, h1.mv hb m (mono_B _ _), h2.mv hb m (mono_I _ _)⟩
theorem Own1.othT {base C U o : Nat} {w : World} {T : Nat} {vs us : List Value} {a : Option Addr} {v : Value} (h : Own1 base w T vs a) (hr : RowS w C U us) (hT : U ≠ T) : Own1 base (w.setCell ⟨C, o, none⟩ v) T vs a := by
  rcases h with h | ⟨B, e, hB, h⟩
  · exact .inl h
  · exact .inr ⟨B, e, hB, h.oth (hr.apart h hT)⟩
/-- The levels of the first rails. -/
def LvsIn (l : List Sup) (ls : List Int) : Prop := ∀ j (h : j < l.length) (h' : j < ls.length), 0 ≤ ls[j] ∧ ls[j] ≤ (l[j].levels.length : Int) - 1
theorem LvsIn.snoc {l : List Sup} {ls : List Int} (h : LvsIn l ls) (k : Nat) (hk : k < l.length) (hl : ls.length = k) (x : Int) (h0 : 0 ≤ x) (h1 : x ≤ (l[k].levels.length : Int) - 1) : LvsIn l (ls ++ [x]) := by
  intro j hj hj'
  by_cases e : j < ls.length
  · rw [List.getElem_append_left e]; exact h j hj e
  · have e : j = ls.length := by simp at hj'; omega
    subst e
    subst hl
    simp
    exact ⟨h0, by omega⟩

set_option maxRecDepth 100000 in
set_option maxHeartbeats 4000000 in
theorem mkRails_any (l : List Sup) (ao : Option Addr) (cap : Nat) (w : World) (b len : Nat) (ht : Tp w b len) (h : Hold b w (fun W => SlOf 5 RSup W ao l)) (hc : chk l = 0) :
    Calls Try.prog 17 #[.pointer (some ⟨b, 0, none⟩), .slice ao l.length cap] w (MakesRls w b len l) := by
  have TT := Lib.hid ht
  have hb := ht.has
  have HB := Lib.hid hb
  have H := Lib.hid h
  have HC := Lib.hid hc
  have hz := chk_zero hc
  have n16 : l.length ≤ 16 := by
    have := hz.1
    simp only [Big, not_or] at this
    omega
  have L16 : Hid (∀ k (h : k < l.length), 1 ≤ l[k].levels.length ∧ l[k].levels.length ≤ 16) := Lib.hid fun k hk => by
    have h1 := hz.1
    simp only [Big, not_or] at h1
    refine ⟨?_, Classical.byContradiction fun q => h1.2 ⟨k, hk, by omega⟩⟩
    obtain ⟨_, q⟩ := hz.2 k hk
    exact q.1.2.2.1
  clear ht hb h hc hz
  obtain ⟨i0, hi, hz0, hz1, hz2⟩ := info_parts infoInt
  obtain ⟨j0, hj, hy0, hy1, hy2⟩ := info_parts infoBool
  go_enter Try.func17, Try.ntmps17
  go_wp2_with fail
  go_loopw [10] (fun i wr => ∃ (k : Nat) (vO vL : Value) (os : List Bool) (ls : List Int), k ≤ l.length ∧ i = .int .i64 k ∧ Mv b len w wr ∧ Row wr w.heap.size 31 [.slice none 0 0, .slice none 0 0] ∧ Row wr (w.heap.size + 1) 31 [vO, vL] ∧ wr.ownsRow w.heap.size 4 1 vO k (bools os) ∧ wr.ownsRow w.heap.size 3 1 vL k (nums ls) ∧ os.length = k ∧ ls.length = k ∧ LvsIn l ls) (fun i _ => l.length - (intOf i).toNat)
  case atStart =>
    refine ⟨0, .slice none 0 0, .slice none 0 0, [], [], Nat.zero_le _, rfl, ?_, (Row.new w #[.slice none 0 0, .slice none 0 0] _).alloc _, ?_, World.ownsRow_nil _ _ _ _, World.ownsRow_nil _ _ _ _, rfl, rfl, fun j _ h => absurd h (by simp)⟩
    · exact Mv.of_gr TT.out (((Gr.refl _).alloc _).alloc _)
    · have := Row.new (w.alloc (.cells #[.slice none 0 0, .slice none 0 0] 31)) #[.slice none 0 0, .slice none 0 0] 31
      simpa using this
  case round =>
    obtain ⟨k, vO, vL, os, ls, hk, rfl, hm, hr, hbx, ho, hl, e1, e2, hin⟩ := hrel
    have HM := Lib.hid hm
    have HR := Lib.hid hr
    have BX := Lib.hid hbx
    have OO := Lib.hid ho
    have OL := Lib.hid hl
    have HI := Lib.hid hin
    have E1 := Lib.hid e1
    have E2 := Lib.hid e2
    have TW := Lib.hid (hm.tp TT.out)
    clear hm hr hbx ho hl hin e1 e2
    by_cases hlt : k < l.length
    · obtain ⟨bs, os', rfl, ⟨c0, _⟩, ⟨av, cv, q1, q1l, q1f, cV⟩, ⟨c2, _⟩, ⟨c3, _⟩, c4⟩ := (H.out.mv HB.out HM.out (mono_sups _ _)).now TW.out k hlt
      unfold RB at c4
      have x0 := has_of_cell c0
      clear cV q1f q1l
      have ll := L16.out k hlt
      have b0 := BX.out.cell 0 (by simp)
      have b1 := BX.out.cell 1 (by simp)
      simp only [List.getElem_cons_zero, List.getElem_cons_succ] at b0 b1
      have bh := BX.out.has
      go_wp2_with fail
      obtain ⟨W1, hW1⟩ : ∃ W1 : World, Hid (W1 = wr.alloc (.cells #[.int .i64 l[k].parent, .slice av l[k].levels.length cv, .int .i64 l[k].dropout, .int .i64 l[k].capacity, .bool l[k].always] 70)) := ⟨_, Lib.hid rfl⟩
      have G1 : Hid (Gr wr W1) := Lib.hid (by rw [hW1.out]; exact (Gr.refl _).alloc _)
      have d1 : W1.cell? ⟨wr.heap.size, 1, none⟩ = some (.slice av l[k].levels.length cv) := by rw [hW1.out]; simp [go_sem]
      rw [← hW1.out]
      have B1 := Lib.hid (BX.out.gr G1.out)
      have R1 := Lib.hid (HR.out.gr G1.out)
      have O1 : Hid (W1.ownsRow w.heap.size 4 1 vO k (bools os)) := Lib.hid (by rw [hW1.out]; exact OO.out.alloc _)
      have L1 : Hid (W1.ownsRow w.heap.size 3 1 vL k (nums ls)) := Lib.hid (by rw [hW1.out]; exact OL.out.alloc _)
      have M1 : Hid (Mv b len w W1) := Lib.hid (HM.out.gr G1.out)
      have T1 := Lib.hid (M1.out.tp TT.out)
      have D1 : Hid (Row W1 wr.heap.size 70 [.int .i64 l[k].parent, .slice av l[k].levels.length cv, .int .i64 l[k].dropout, .int .i64 l[k].capacity, .bool l[k].always]) := Lib.hid (by rw [hW1.out]; exact Row.new wr _ _)
      have sz5 : Hid (w.heap.size + 1 < wr.heap.size) := Lib.hid BX.out.has
      have hne7 : Hid (wr.heap.size ≠ b) := Lib.hid (by have := HM.out.size; have := HB.out; omega)
      have hne5 : Hid (w.heap.size + 1 ≠ b) := Lib.hid (by have := HB.out; omega)
      have hne4 : Hid (w.heap.size ≠ b) := Lib.hid (by have := HB.out; omega)
      have hb1 : Hid (b < W1.heap.size) := Lib.hid T1.out.has
      have a0 := B1.out.cell 0 (by simp)
      have a1 := B1.out.has
      have a2 := B1.out.free 0
      simp only [List.getElem_cons_zero] at a0
      clear b0 b1 bh c0 c2 c3 c4 q1 x0 hW1
      clear d1
      go_cut [] (fun wx => ∃ (vO' : Value) (o : Bool), Mv b len w wx ∧ Row wx w.heap.size 31 [.slice none 0 0, .slice none 0 0] ∧ Row wx wr.heap.size 70 [.int .i64 l[k].parent, .slice av l[k].levels.length cv, .int .i64 l[k].dropout, .int .i64 l[k].capacity, .bool l[k].always] ∧ Row wx (w.heap.size + 1) 31 [vO', vL] ∧ wx.ownsRow w.heap.size 4 1 vO' (k + 1) (bools (os ++ [o])) ∧ wx.ownsRow w.heap.size 3 1 vL k (nums ls))
      case first =>
        go_region_law (first
          | (go_simp; go_at_call 34; refine (nM_any _ b len _ (T1.out.gr (by repeat (first | with_reducible exact Gr.refl _ | with_reducible refine Gr.drew ?_ | with_reducible refine Gr.alloc _ ?_))) (by omega) (by omega)).mono ?_; rintro e w2 ⟨x, rfl, ⟨hx1, hx2⟩, hm⟩; have M2 := Lib.hid ((Mv.of_gr T1.out (by repeat (first | with_reducible exact Gr.refl _ | with_reducible refine Gr.drew ?_ | with_reducible refine Gr.alloc _ ?_))).trans hb1.out hm); have B2 := Lib.hid (M2.out.row B1.out hne5.out); have z0 := B2.out.cell 0 (by simp); have zh := B2.out.has; clear hm; simp only [List.getElem_cons_zero] at z0)
          | (refine step_append_lies _ rfl _ _ 29 rfl w.heap.size 4 j0 (.bool false) 1 1 Try.underlying29 hj hy0 hy1 hy2 rfl (by decide) vO k (bools os) (by simp [Act.eval, Act.put]) ((M2.out.owns O1.out HB.out).alloc _) ⟨w2.heap.size, 0, none⟩ 1 1 [.bool (decide (0 < x))] (by simp [Act.eval, Act.put]) rfl (cell_one_new _ _ _) (by simp [Value.oneCell']) (by omega) (by unfold maxLen; omega) (by omega) (by have := M2.out.size; have := M1.out.size; simp; omega) _ rfl ?_; intro g c3 w3 hown hgrow hat hlt'; have B3 := Lib.hid ((B2.out.alloc _).grown hgrow (owns_apart (M2.out.owns O1.out HB.out) B2.out.s (by decide))); have OW := Lib.hid hown; have GW := Lib.hid hgrow; have y0 := B3.out.cell 0 (by simp); have y1 := B3.out.free 0; have yh := B3.out.has; clear hown hgrow hat hlt'))
        all_goals (go_wp2_with fail; go_meet)
        all_goals
          have HA := M2.out.owns O1.out HB.out
          have LA := M2.out.owns L1.out HB.out
          have hLA : Hid (vL.ownBlock = none ∨ vL.ownBlock ≠ vO.ownBlock) := Lib.hid (by
            rcases hq : vL.ownBlock with _ | g2
            · exact .inl rfl
            · right
              intro e
              obtain ⟨_, ⟨rfl, _⟩ | ⟨g1, cp1, cur1, rfl, _, hg1, _⟩⟩ := LA
              · cases hq
              · have : some g1 ≠ vO.ownBlock := owns_apart HA (B := g1) (T := 3) (vs := cur1.toList) ⟨[], by simpa [Row] using hg1⟩ (by decide)
                simp [Value.ownBlock] at hq
                subst hq
                exact this e)
          refine ⟨.slice (some ⟨g, 0, none⟩) (k + 1) c3, decide (0 < x), ?_, ?_, ?_, ?_, ?_, ?_⟩
          · exact (((M1.out.trans HB.out M2.out).alloc _).grown GW.out (fun k e => (HA.lt k e).1)).setc (by omega)
          · exact (((M2.out.row R1.out hne4.out).alloc _).grown GW.out (owns_apart HA (M2.out.row R1.out hne4.out).s (by decide))).oth (by omega)
          · exact (((M2.out.row D1.out hne7.out).alloc _).grown GW.out (owns_apart HA (M2.out.row D1.out hne7.out).s (by decide))).oth (by have := sz5.out; omega)
          · exact B3.out.set 0 _
          · have := owns_set (o := 0) (x := .slice (some ⟨g, 0, none⟩) (k + 1) c3) OW.out B3.out.s (by decide)
            simpa [bools] using this
          · exact owns_set ((LA.alloc _).kept GW.out hLA.out) B3.out.s (by decide)
      obtain ⟨vO', o, hm2, hr2, hd2, hb2, ho2, hl2⟩ := hcut
      obtain ⟨W2, rfl⟩ : ∃ W2 : World, W2 = wc := ⟨_, rfl⟩
      have MW := Lib.hid hm2
      have TW2 := Lib.hid (hm2.tp TT.out)
      have RW := Lib.hid hr2
      have DW := Lib.hid hd2
      have BW := Lib.hid hb2
      have OW := Lib.hid ho2
      have LW := Lib.hid hl2
      have hbW : Hid (b < W2.heap.size) := Lib.hid TW2.out.has
      clear hm2 hr2 hd2 hb2 ho2 hl2 a0 a1 a2
      have a0 := BW.out.cell 1 (by simp)
      have a1 := BW.out.has
      have a2 := BW.out.free 1
      have a3 := DW.out.cell 1 (by simp)
      have a4 := DW.out.has
      simp only [List.getElem_cons_zero, List.getElem_cons_succ] at a0 a3
      have l1 : (1 : Int) ≤ l[k].levels.length := by omega
      have l2 : (l[k].levels.length : Int) ≤ 16 := by omega
      go_wp2_with fail
      go_region_law (first
        | (go_simp; go_at_call 34; refine (nM_any _ b len _ (TW2.out.gr (by repeat (first | with_reducible exact Gr.refl _ | with_reducible refine Gr.drew ?_ | with_reducible refine Gr.alloc _ ?_))) (by omega) (by omega)).mono ?_; rintro e w2 ⟨x, rfl, ⟨hx1, hx2⟩, hm⟩; have M2 := Lib.hid ((Mv.of_gr TW2.out (by repeat (first | with_reducible exact Gr.refl _ | with_reducible refine Gr.drew ?_ | with_reducible refine Gr.alloc _ ?_))).trans hbW.out hm); have B2 := Lib.hid (M2.out.row BW.out hne5.out); have z0 := B2.out.cell 1 (by simp); have zh := B2.out.has; clear hm; simp only [List.getElem_cons_zero, List.getElem_cons_succ] at z0)
        | (refine step_append_lies _ rfl _ _ 22 rfl w.heap.size 3 i0 (.int .i64 0) 1 8 Try.underlying22 hi hz0 hz1 hz2 rfl (by decide) vL k (nums ls) (by simp [Act.eval, Act.put]) ((M2.out.owns LW.out HB.out).alloc _) ⟨w2.heap.size, 0, none⟩ 1 1 [.int .i64 x] (by simp [Act.eval, Act.put]) rfl (cell_one_new _ _ _) (by simp [Value.oneCell']) (by omega) (by unfold maxLen; omega) (by omega) (by have := M2.out.size; have := MW.out.size; simp; omega) _ rfl ?_; intro g c3 w3 hown hgrow hat hlt'; have B3 := Lib.hid ((B2.out.alloc _).grown hgrow (owns_apart (M2.out.owns LW.out HB.out) B2.out.s (by decide))); have OX := Lib.hid hown; have GX := Lib.hid hgrow; have y0 := B3.out.cell 1 (by simp); have y1 := B3.out.free 1; have yh := B3.out.has; clear hown hgrow hat hlt'))
      all_goals go_wp2_with fail
      all_goals go_roundw
      all_goals first
        | (simp [intOf]; omega)
        | skip
      all_goals
        have HA := M2.out.owns LW.out HB.out
        have LA := M2.out.owns OW.out HB.out
        have hLA : Hid (vO'.ownBlock = none ∨ vO'.ownBlock ≠ vL.ownBlock) := Lib.hid (by
          rcases hq : vO'.ownBlock with _ | g2
          · exact .inl rfl
          · right
            intro e
            obtain ⟨_, ⟨rfl, _⟩ | ⟨g1, cp1, cur1, rfl, _, hg1, _⟩⟩ := LA
            · cases hq
            · have : some g1 ≠ vL.ownBlock := owns_apart HA (B := g1) (T := 4) (vs := cur1.toList) ⟨[], by simpa [Row] using hg1⟩ (by decide)
              simp [Value.ownBlock] at hq
              subst hq
              exact this e)
        refine ⟨k + 1, vO', .slice (some ⟨g, 0, none⟩) (k + 1) c3, os ++ [o], ls ++ [x], by omega, by go_num, ?_, ?_, ?_, ?_, ?_, by simp [E1.out], by simp [E2.out], HI.out.snoc k hlt E2.out x hx1 hx2⟩
        · exact (((MW.out.trans HB.out M2.out).alloc _).grown GX.out (fun k e => (HA.lt k e).1)).setc (by omega)
        · exact (((M2.out.row RW.out hne4.out).alloc _).grown GX.out (owns_apart HA (M2.out.row RW.out hne4.out).s (by decide))).oth (by omega)
        · exact B3.out.set 1 _
        · exact owns_set ((LA.alloc _).kept GX.out hLA.out) B3.out.s (by decide)
        · have := owns_set (o := 1) (x := .slice (some ⟨g, 0, none⟩) (k + 1) c3) OX.out B3.out.s (by decide)
          simpa [nums] using this
    · have hkn : k = l.length := by omega
      subst hkn
      obtain ⟨a1, c1, rfl, k1, o1⟩ := owns_own1 OO.out
      obtain ⟨a2, c2, rfl, k2, o2⟩ := owns_own1 OL.out
      have b0 := BX.out.cell 0 (by simp)
      have b1 := BX.out.cell 1 (by simp)
      have r0 := HR.out.cell 0 (by simp)
      have r1 := HR.out.cell 1 (by simp)
      simp only [List.getElem_cons_zero, List.getElem_cons_succ] at b0 b1 r0 r1
      have bh := BX.out.has
      have rh := HR.out.has
      have r2 := HR.out.free 0
      have r3 := HR.out.free 1
      have P1 := Lib.hid o1
      have P2 := Lib.hid o2
      clear o1 o2
      go_wp2_with fail
      refine bodyPost_ret (v := .agg #[.slice a1 l.length c1, .slice a2 l.length c2]) ?_ rfl ?_
      · simp [results, Try.results17, go_sem, r0, r1]
      · refine ⟨⟨os, ls⟩, _, rfl, ⟨HC.out, E1.out, E2.out, fun j h h' => HI.out j h h'⟩, ⟨a1, a2, c1, c2, by show _ = Value.agg #[.slice a1 os.length c1, .slice a2 ls.length c2]; rw [E1.out, E2.out], by show os.length ≤ c1; rw [E1.out]; exact k1, by show ls.length ≤ c2; rw [E2.out]; exact k2, fun p => ?_, fun p => ?_⟩, (HM.out.setc (Nat.le_refl _)).setc (Nat.le_refl _)⟩
        · exact (((P1.out.othT HR.out.s (by decide)).othT (HR.out.set 0 _).s (by decide)).oth (o := 1) HB.out).slB
        · exact (((P2.out.othT HR.out.s (by decide)).othT (HR.out.set 0 _).s (by decide)).oth (o := 1) HB.out).slI (fun j hj => by
            have h1 := HI.out j (by have := E2.out; omega) hj
            have h2 := L16.out j (by have := E2.out; omega)
            unfold Wide; omega)
end Go.Proofs.Ytoenkcojfogmmaa
