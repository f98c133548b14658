/- Lemmas and contracts for the proof of RampAnswers (several texts in one, printed by wip/tools/pack.py): ZMkB RqN8. -/
import Derived.Test.YtoenkcojfogmmaaRm8pg
import Derived.Deep.RegionLaw
import Derived.Deep.AppendLies
set_option maxRecDepth 100000
set_option maxHeartbeats 16000000
set_option linter.unusedVariables false
set_option linter.unusedSimpArgs false
namespace Go.Proofs.Ytoenkcojfogmmaa
open Go.RowKit
open Classical
def VH (b : Nat) (w : World) (v : Value) (r : Rls) : Prop := ∃ a1 a2 c1 c2, v = .agg #[.slice a1 r.on.length c1, .slice a2 r.level.length c2] ∧ r.on.length ≤ c1 ∧ r.level.length ≤ c2 ∧ Hold b w (fun W => SlOf 1 RB W a1 r.on) ∧ Hold b w (fun W => SlOf 1 RI W a2 r.level)
def MakesRls (w : World) (b len : Nat) (l : List Sup) (e : Ending) (w' : World) : Prop := ∃ r v, e = .returned v ∧ RlsOk l r ∧ VH b w' v r ∧ Mv b len w w'
theorem mono_sups (ao : Option Addr) (l : List Sup) : GrMono (fun W => SlOf 5 RSup W ao l) := fun _ _ hg h => sups_gr h hg
theorem mono_B (ao : Option Addr) (l : List Bool) : GrMono (fun W => SlOf 1 RB W ao l) := fun _ _ hg h => h.giB hg
theorem mono_I (ao : Option Addr) (l : List Int) : GrMono (fun W => SlOf 1 RI W ao l) := fun _ _ hg h => h.giI hg
theorem VH.mv {b len : Nat} {w w' : World} {v : Value} {r : Rls} (h : VH b w v r) (hb : b < w.heap.size) (m : Mv b len w w') : VH b w' v r := by
  obtain ⟨a1, a2, c1, c2, e, k1, k2, h1, h2⟩ := h
  exact ⟨a1, a2, c1, c2, e, k1, k2, h1.mv hb m (mono_B _ _), h2.mv hb m (mono_I _ _)⟩
theorem Own1.othT {base C U o : Nat} {w : World} {T : Nat} {vs us : List Value} {a : Option Addr} {v : Value} (h : Own1 base w T vs a) (hr : RowS w C U us) (hT : U ≠ T) : Own1 base (w.setCell ⟨C, o, none⟩ v) T vs a := by
  rcases h with h | ⟨B, e, hB, h⟩
  · exact .inl h
  · exact .inr ⟨B, e, hB, h.oth (hr.apart h hT)⟩
def LvsIn (l : List Sup) (ls : List Int) : Prop := ∀ j (h : j < l.length) (h' : j < ls.length), 0 ≤ ls[j] ∧ ls[j] ≤ (l[j].levels.length : Int) - 1
theorem LvsIn.snoc {l : List Sup} {ls : List Int} (h : LvsIn l ls) (k : Nat) (hk : k < l.length) (hl : ls.length = k) (x : Int) (h0 : 0 ≤ x) (h1 : x ≤ (l[k].levels.length : Int) - 1) : LvsIn l (ls ++ [x]) := by
  intro j hj hj'
  by_cases e : j < ls.length
  · rw [List.getElem_append_left e]; exact h j hj e
  · have e : j = ls.length := by simp at hj'; omega
    subst e
    subst hl
    simp
    exact ⟨h0, by omega⟩
theorem mkRails_any (l : List Sup) (ao : Option Addr) (cap : Nat) (w : World) (b len : Nat) (ht : Tp w b len) (h : Hold b w (fun W => SlOf 5 RSup W ao l)) (hc : chk l = 0) :
    Calls Try.prog 17 #[.pointer (some ⟨b, 0, none⟩), .slice ao l.length cap] w (MakesRls w b len l) := by
  have TT := Lib.hid ht
  have hb := ht.has
  have HB := Lib.hid hb
  have H := Lib.hid h
  have HC := Lib.hid hc
  have hz := chk_zero hc
  have n16 : l.length ≤ 16 := by
    have := hz.1
    simp only [BigZ, not_or] at this
    omega
  have L16 : Hid (∀ k (h : k < l.length), 1 ≤ l[k].levels.length ∧ l[k].levels.length ≤ 16) := Lib.hid fun k hk => by
    have h1 := hz.1
    simp only [BigZ, not_or] at h1
    refine ⟨?_, Classical.byContradiction fun q => h1.2 ⟨k, hk, by omega⟩⟩
    obtain ⟨_, q⟩ := hz.2 k hk
    exact q.1.2.2.1
  clear ht hb h hc hz
  obtain ⟨i0, hi, hz0, hz1, hz2⟩ := info_parts infoInt
  obtain ⟨j0, hj, hy0, hy1, hy2⟩ := info_parts infoBool
  go_enter Try.func17, Try.ntmps17
  go_wp2_with fail
  go_loopw [10] (fun i wr => ∃ (k : Nat) (vO vL : Value) (os : List Bool) (ls : List Int), k ≤ l.length ∧ i = .int .i64 k ∧ Mv b len w wr ∧ Row wr w.heap.size 31 [.slice none 0 0, .slice none 0 0] ∧ Row wr (w.heap.size + 1) 31 [vO, vL] ∧ wr.ownsRow w.heap.size 4 1 vO k (bools os) ∧ wr.ownsRow w.heap.size 3 1 vL k (nums ls) ∧ os.length = k ∧ ls.length = k ∧ LvsIn l ls) (fun i _ => l.length - (intOf i).toNat)
  case atStart =>
    refine ⟨0, .slice none 0 0, .slice none 0 0, [], [], Nat.zero_le _, rfl, ?_, (Row.new w #[.slice none 0 0, .slice none 0 0] _).alloc _, ?_, World.ownsRow_nil _ _ _ _, World.ownsRow_nil _ _ _ _, rfl, rfl, fun j _ h => absurd h (by simp)⟩
    · exact Mv.of_gr TT.out (((Gr.refl _).alloc _).alloc _)
    · have := Row.new (w.alloc (.cells #[.slice none 0 0, .slice none 0 0] 31)) #[.slice none 0 0, .slice none 0 0] 31
      simpa using this
  case round =>
    obtain ⟨k, vO, vL, os, ls, hk, rfl, hm, hr, hbx, ho, hl, e1, e2, hin⟩ := hrel
    have HM := Lib.hid hm
    have HR := Lib.hid hr
    have BX := Lib.hid hbx
    have OO := Lib.hid ho
    have OL := Lib.hid hl
    have HI := Lib.hid hin
    have E1 := Lib.hid e1
    have E2 := Lib.hid e2
    have TW := Lib.hid (hm.tp TT.out)
    clear hm hr hbx ho hl hin e1 e2
    by_cases hlt : k < l.length
    · obtain ⟨bs, os', rfl, ⟨c0, _⟩, ⟨av, cv, q1, q1l, q1f, cV⟩, ⟨c2, _⟩, ⟨c3, _⟩, c4⟩ := (H.out.mv HB.out HM.out (mono_sups _ _)).now TW.out k hlt
      unfold RB at c4
      have x0 := has_of_cell c0
      clear cV q1f q1l
      have ll := L16.out k hlt
      have b0 := BX.out.cell 0 (by simp)
      have b1 := BX.out.cell 1 (by simp)
      simp only [List.getElem_cons_zero, List.getElem_cons_succ] at b0 b1
      have bh := BX.out.has
      go_wp2_with fail
      obtain ⟨W1, hW1⟩ : ∃ W1 : World, Hid (W1 = wr.alloc (.cells #[.int .i64 l[k].parent, .slice av l[k].levels.length cv, .int .i64 l[k].dropout, .int .i64 l[k].capacity, .bool l[k].always] 70)) := ⟨_, Lib.hid rfl⟩
      have G1 : Hid (Gr wr W1) := Lib.hid (by rw [hW1.out]; exact (Gr.refl _).alloc _)
      have d1 : W1.cell? ⟨wr.heap.size, 1, none⟩ = some (.slice av l[k].levels.length cv) := by rw [hW1.out]; simp [go_sem]
      rw [← hW1.out]
      have B1 := Lib.hid (BX.out.gr G1.out)
      have R1 := Lib.hid (HR.out.gr G1.out)
      have O1 : Hid (W1.ownsRow w.heap.size 4 1 vO k (bools os)) := Lib.hid (by rw [hW1.out]; exact OO.out.alloc _)
      have L1 : Hid (W1.ownsRow w.heap.size 3 1 vL k (nums ls)) := Lib.hid (by rw [hW1.out]; exact OL.out.alloc _)
      have M1 : Hid (Mv b len w W1) := Lib.hid (HM.out.gr G1.out)
      have T1 := Lib.hid (M1.out.tp TT.out)
      have D1 : Hid (Row W1 wr.heap.size 70 [.int .i64 l[k].parent, .slice av l[k].levels.length cv, .int .i64 l[k].dropout, .int .i64 l[k].capacity, .bool l[k].always]) := Lib.hid (by rw [hW1.out]; exact Row.new wr _ _)
      have sz5 : Hid (w.heap.size + 1 < wr.heap.size) := Lib.hid BX.out.has
      have hne7 : Hid (wr.heap.size ≠ b) := Lib.hid (by have := HM.out.size; have := HB.out; omega)
      have hne5 : Hid (w.heap.size + 1 ≠ b) := Lib.hid (by have := HB.out; omega)
      have hne4 : Hid (w.heap.size ≠ b) := Lib.hid (by have := HB.out; omega)
      have hb1 : Hid (b < W1.heap.size) := Lib.hid T1.out.has
      have a0 := B1.out.cell 0 (by simp)
      have a1 := B1.out.has
      have a2 := B1.out.free 0
      simp only [List.getElem_cons_zero] at a0
      clear b0 b1 bh c0 c2 c3 c4 q1 x0 hW1
      clear d1
      go_cut [] (fun wx => ∃ (vO' : Value) (o : Bool), Mv b len w wx ∧ Row wx w.heap.size 31 [.slice none 0 0, .slice none 0 0] ∧ Row wx wr.heap.size 70 [.int .i64 l[k].parent, .slice av l[k].levels.length cv, .int .i64 l[k].dropout, .int .i64 l[k].capacity, .bool l[k].always] ∧ Row wx (w.heap.size + 1) 31 [vO', vL] ∧ wx.ownsRow w.heap.size 4 1 vO' (k + 1) (bools (os ++ [o])) ∧ wx.ownsRow w.heap.size 3 1 vL k (nums ls))
      case first =>
        go_region_law (first
          | (go_simp; go_at_call 34; refine (nM_any _ b len _ (T1.out.gr (by repeat (first | with_reducible exact Gr.refl _ | with_reducible refine Gr.drew ?_ | with_reducible refine Gr.alloc _ ?_))) (by omega) (by omega)).mono ?_; rintro e w2 ⟨x, rfl, ⟨hx1, hx2⟩, hm⟩; have M2 := Lib.hid ((Mv.of_gr T1.out (by repeat (first | with_reducible exact Gr.refl _ | with_reducible refine Gr.drew ?_ | with_reducible refine Gr.alloc _ ?_))).trans hb1.out hm); have B2 := Lib.hid (M2.out.row B1.out hne5.out); have z0 := B2.out.cell 0 (by simp); have zh := B2.out.has; clear hm; simp only [List.getElem_cons_zero] at z0)
          | (refine step_append_lies _ rfl _ _ 29 rfl w.heap.size 4 j0 (.bool false) 1 1 Try.underlying29 hj hy0 hy1 hy2 rfl (by decide) vO k (bools os) (by simp [Act.eval, Act.put]) ((M2.out.owns O1.out HB.out).alloc _) ⟨w2.heap.size, 0, none⟩ 1 1 [.bool (decide (0 < x))] (by simp [Act.eval, Act.put]) rfl (cell_one_new _ _ _) (by simp [Value.oneCell']) (by omega) (by unfold maxLen; omega) (by omega) (by have := M2.out.size; have := M1.out.size; simp; omega) _ rfl ?_; intro g c3 w3 hown hgrow hat hlt'; have B3 := Lib.hid ((B2.out.alloc _).grown hgrow (owns_apart (M2.out.owns O1.out HB.out) B2.out.s (by decide))); have OW := Lib.hid hown; have GW := Lib.hid hgrow; have y0 := B3.out.cell 0 (by simp); have y1 := B3.out.free 0; have yh := B3.out.has; clear hown hgrow hat hlt'))
        all_goals (go_wp2_with fail; go_meet)
        all_goals
          have HA := M2.out.owns O1.out HB.out
          have LA := M2.out.owns L1.out HB.out
          have hLA : Hid (vL.ownBlock = none ∨ vL.ownBlock ≠ vO.ownBlock) := Lib.hid (by
            rcases hq : vL.ownBlock with _ | g2
            · exact .inl rfl
            · right
              intro e
              obtain ⟨_, ⟨rfl, _⟩ | ⟨g1, cp1, cur1, rfl, _, hg1, _⟩⟩ := LA
              · cases hq
              · have : some g1 ≠ vO.ownBlock := owns_apart HA (B := g1) (T := 3) (vs := cur1.toList) ⟨[], by simpa [Row] using hg1⟩ (by decide)
                simp [Value.ownBlock] at hq
                subst hq
                exact this e)
          refine ⟨.slice (some ⟨g, 0, none⟩) (k + 1) c3, decide (0 < x), ?_, ?_, ?_, ?_, ?_, ?_⟩
          · exact (((M1.out.trans HB.out M2.out).alloc _).grown GW.out (fun k e => (HA.lt k e).1)).setc (by omega)
          · exact (((M2.out.row R1.out hne4.out).alloc _).grown GW.out (owns_apart HA (M2.out.row R1.out hne4.out).s (by decide))).oth (by omega)
          · exact (((M2.out.row D1.out hne7.out).alloc _).grown GW.out (owns_apart HA (M2.out.row D1.out hne7.out).s (by decide))).oth (by have := sz5.out; omega)
          · exact B3.out.set 0 _
          · have := owns_set (o := 0) (x := .slice (some ⟨g, 0, none⟩) (k + 1) c3) OW.out B3.out.s (by decide)
            simpa [bools] using this
          · exact owns_set ((LA.alloc _).kept GW.out hLA.out) B3.out.s (by decide)
      obtain ⟨vO', o, hm2, hr2, hd2, hb2, ho2, hl2⟩ := hcut
      obtain ⟨W2, rfl⟩ : ∃ W2 : World, W2 = wc := ⟨_, rfl⟩
      have MW := Lib.hid hm2
      have TW2 := Lib.hid (hm2.tp TT.out)
      have RW := Lib.hid hr2
      have DW := Lib.hid hd2
      have BW := Lib.hid hb2
      have OW := Lib.hid ho2
      have LW := Lib.hid hl2
      have hbW : Hid (b < W2.heap.size) := Lib.hid TW2.out.has
      clear hm2 hr2 hd2 hb2 ho2 hl2 a0 a1 a2
      have a0 := BW.out.cell 1 (by simp)
      have a1 := BW.out.has
      have a2 := BW.out.free 1
      have a3 := DW.out.cell 1 (by simp)
      have a4 := DW.out.has
      simp only [List.getElem_cons_zero, List.getElem_cons_succ] at a0 a3
      have l1 : (1 : Int) ≤ l[k].levels.length := by omega
      have l2 : (l[k].levels.length : Int) ≤ 16 := by omega
      go_wp2_with fail
      go_region_law (first
        | (go_simp; go_at_call 34; refine (nM_any _ b len _ (TW2.out.gr (by repeat (first | with_reducible exact Gr.refl _ | with_reducible refine Gr.drew ?_ | with_reducible refine Gr.alloc _ ?_))) (by omega) (by omega)).mono ?_; rintro e w2 ⟨x, rfl, ⟨hx1, hx2⟩, hm⟩; have M2 := Lib.hid ((Mv.of_gr TW2.out (by repeat (first | with_reducible exact Gr.refl _ | with_reducible refine Gr.drew ?_ | with_reducible refine Gr.alloc _ ?_))).trans hbW.out hm); have B2 := Lib.hid (M2.out.row BW.out hne5.out); have z0 := B2.out.cell 1 (by simp); have zh := B2.out.has; clear hm; simp only [List.getElem_cons_zero, List.getElem_cons_succ] at z0)
        | (refine step_append_lies _ rfl _ _ 22 rfl w.heap.size 3 i0 (.int .i64 0) 1 8 Try.underlying22 hi hz0 hz1 hz2 rfl (by decide) vL k (nums ls) (by simp [Act.eval, Act.put]) ((M2.out.owns LW.out HB.out).alloc _) ⟨w2.heap.size, 0, none⟩ 1 1 [.int .i64 x] (by simp [Act.eval, Act.put]) rfl (cell_one_new _ _ _) (by simp [Value.oneCell']) (by omega) (by unfold maxLen; omega) (by omega) (by have := M2.out.size; have := MW.out.size; simp; omega) _ rfl ?_; intro g c3 w3 hown hgrow hat hlt'; have B3 := Lib.hid ((B2.out.alloc _).grown hgrow (owns_apart (M2.out.owns LW.out HB.out) B2.out.s (by decide))); have OX := Lib.hid hown; have GX := Lib.hid hgrow; have y0 := B3.out.cell 1 (by simp); have y1 := B3.out.free 1; have yh := B3.out.has; clear hown hgrow hat hlt'))
      all_goals go_wp2_with fail
      all_goals go_roundw
      all_goals first
        | (simp [intOf]; omega)
        | skip
      all_goals
        have HA := M2.out.owns LW.out HB.out
        have LA := M2.out.owns OW.out HB.out
        have hLA : Hid (vO'.ownBlock = none ∨ vO'.ownBlock ≠ vL.ownBlock) := Lib.hid (by
          rcases hq : vO'.ownBlock with _ | g2
          · exact .inl rfl
          · right
            intro e
            obtain ⟨_, ⟨rfl, _⟩ | ⟨g1, cp1, cur1, rfl, _, hg1, _⟩⟩ := LA
            · cases hq
            · have : some g1 ≠ vL.ownBlock := owns_apart HA (B := g1) (T := 4) (vs := cur1.toList) ⟨[], by simpa [Row] using hg1⟩ (by decide)
              simp [Value.ownBlock] at hq
              subst hq
              exact this e)
        refine ⟨k + 1, vO', .slice (some ⟨g, 0, none⟩) (k + 1) c3, os ++ [o], ls ++ [x], by omega, by go_num, ?_, ?_, ?_, ?_, ?_, by simp [E1.out], by simp [E2.out], HI.out.snoc k hlt E2.out x hx1 hx2⟩
        · exact (((MW.out.trans HB.out M2.out).alloc _).grown GX.out (fun k e => (HA.lt k e).1)).setc (by omega)
        · exact (((M2.out.row RW.out hne4.out).alloc _).grown GX.out (owns_apart HA (M2.out.row RW.out hne4.out).s (by decide))).oth (by omega)
        · exact B3.out.set 1 _
        · exact owns_set ((LA.alloc _).kept GX.out hLA.out) B3.out.s (by decide)
        · have := owns_set (o := 1) (x := .slice (some ⟨g, 0, none⟩) (k + 1) c3) OX.out B3.out.s (by decide)
          simpa [nums] using this
    · have hkn : k = l.length := by omega
      subst hkn
      obtain ⟨a1, c1, rfl, k1, o1⟩ := owns_own1 OO.out
      obtain ⟨a2, c2, rfl, k2, o2⟩ := owns_own1 OL.out
      have b0 := BX.out.cell 0 (by simp)
      have b1 := BX.out.cell 1 (by simp)
      have r0 := HR.out.cell 0 (by simp)
      have r1 := HR.out.cell 1 (by simp)
      simp only [List.getElem_cons_zero, List.getElem_cons_succ] at b0 b1 r0 r1
      have bh := BX.out.has
      have rh := HR.out.has
      have r2 := HR.out.free 0
      have r3 := HR.out.free 1
      have P1 := Lib.hid o1
      have P2 := Lib.hid o2
      clear o1 o2
      go_wp2_with fail
      refine bodyPost_ret (v := .agg #[.slice a1 l.length c1, .slice a2 l.length c2]) ?_ rfl ?_
      · simp [results, Try.results17, go_sem, r0, r1]
      · refine ⟨⟨os, ls⟩, _, rfl, ⟨HC.out, E1.out, E2.out, fun j h h' => HI.out j h h'⟩, ⟨a1, a2, c1, c2, by show _ = Value.agg #[.slice a1 os.length c1, .slice a2 ls.length c2]; rw [E1.out, E2.out], by show os.length ≤ c1; rw [E1.out]; exact k1, by show ls.length ≤ c2; rw [E2.out]; exact k2, fun p => ?_, fun p => ?_⟩, (HM.out.setc (Nat.le_refl _)).setc (Nat.le_refl _)⟩
        · exact (((P1.out.othT HR.out.s (by decide)).othT (HR.out.set 0 _).s (by decide)).oth (o := 1) HB.out).slB
        · exact (((P2.out.othT HR.out.s (by decide)).othT (HR.out.set 0 _).s (by decide)).oth (o := 1) HB.out).slI (fun j hj => by
            have h1 := HI.out j (by have := E2.out; omega) hj
            have h2 := L16.out j (by have := E2.out; omega)
            unfold Wide; omega)
theorem done_stay {done : Array Bool} {i j : Nat} (h : done.getD j false = true) : (done.setIfInBounds i true).getD j false = true := by
  by_cases e : i = j
  · subst e
    refine getD_set_same ?_
    unfold Array.getD at h
    split at h
    · assumption
    · cases h
  · simp only [Array.getD_eq_getD_getElem?, Array.getElem?_setIfInBounds] at h ⊢
    rw [if_neg e]; exact h
def agg0 : Value → Value
  | .agg a => a.getD 0 (.bool false)
  | _ => .bool false
def agg1 : Value → Value
  | .agg a => a.getD 1 (.bool false)
  | _ => .bool false
def JV (wr w : World) (n : Nat) (o : List Bool) (v : List Int) (t : Value) : Prop := ∃ x1 c1 x2 c2, t = .agg #[.slice x1 n c1, .slice x2 n c2] ∧ n ≤ c1 ∧ n ≤ c2 ∧ Own1 wr.heap.size w 4 (bools o) x1 ∧ Own1 wr.heap.size w 3 (nums v) x2
def DJ (s t : Value) : Prop := ∀ B, ((agg0 s).ownBlock = some B → (agg0 t).ownBlock ≠ some B) ∧ ((agg1 s).ownBlock = some B → (agg1 t).ownBlock ≠ some B)
section
variable {wr w w' : World} {n B : Nat} {o : List Bool} {v : List Int} {s t p q u1 u2 : Value}
theorem JV.gr (h : JV wr w n o v t) (hg : Gr w w') : JV wr w' n o v t := by
  obtain ⟨x1, c1, x2, c2, e, k1, k2, h1, h2⟩ := h
  exact ⟨x1, c1, x2, c2, e, k1, k2, h1.gr hg, h2.gr hg⟩
theorem JV.box2 (h : JV wr w n o v t) (r : Row w B 31 [p, q]) : JV wr ((w.setCell ⟨B, 0, none⟩ u1).setCell ⟨B, 1, none⟩ u2) n o v t := by
  obtain ⟨x1, c1, x2, c2, e, k1, k2, h1, h2⟩ := h
  exact ⟨x1, c1, x2, c2, e, k1, k2, (h1.othT r.s (by decide)).othT (r.set 0 u1).s (by decide), (h2.othT r.s (by decide)).othT (r.set 0 u1).s (by decide)⟩
theorem own1_lt {base : Nat} {T : Nat} {vs : List Value} {a : Option Addr} {m c : Nat} (h : Own1 base w T vs a) (h0 : 0 < vs.length) (e : (Value.slice a m c).ownBlock = some B) : base ≤ B ∧ B < w.heap.size := by
  obtain ⟨B', e', hb, r⟩ := h.at h0
  subst e'
  have : B' = B := by simpa [Value.ownBlock] using e
  subst this
  exact ⟨hb, r.has⟩
theorem JV.apart {o' : List Bool} {v' : List Int} (h : JV wr w n o v s) (k : JV w w' n o' v' t) (h0 : 0 < n) (l1 : o.length = n) (l2 : v.length = n) (l3 : o'.length = n) (l4 : v'.length = n) : DJ s t := by
  obtain ⟨x1, c1, x2, c2, rfl, _, _, h1, h2⟩ := h
  obtain ⟨x3, c3, x4, c4, rfl, _, _, h3, h4⟩ := k
  intro B
  constructor
  · intro e e'
    have a1 := own1_lt h1 (by simp [bools]; omega) e
    have a2 := own1_lt h3 (by simp [bools]; omega) e'
    omega
  · intro e e'
    have a1 := own1_lt h2 (by simp [nums]; omega) e
    have a2 := own1_lt h4 (by simp [nums]; omega) e'
    omega
theorem JV.low (h : JV w w' n o v t) (hs : wr.heap.size ≤ w.heap.size) : JV wr w' n o v t := by
  obtain ⟨x1, c1, x2, c2, e, k1, k2, h1, h2⟩ := h
  exact ⟨x1, c1, x2, c2, e, k1, k2, h1.low hs, h2.low hs⟩
end
def BoxR (wr w : World) (d : Bool) (pt : Value) : Prop := ∃ B : Nat, pt = .pointer (some ⟨B, 0, none⟩) ∧ wr.heap.size ≤ B ∧ Has w B ∧ (d = true ∨ Row w B 31 [.slice none 0 0, .slice none 0 0])
def FullR (w : World) (pt t : Value) : Prop := ∃ B : Nat, pt = .pointer (some ⟨B, 0, none⟩) ∧ Row w B 31 [agg0 t, agg1 t]
section
variable {wr w w' : World} {d : Bool} {pt pt' t : Value} {B : Nat} {u1 u2 : Value}
theorem BoxR.gr (h : BoxR wr w d pt) (hg : Gr w w') : BoxR wr w' d pt := by
  obtain ⟨B, e, h1, h2, h3⟩ := h
  exact ⟨B, e, h1, Nat.lt_of_lt_of_le h2 hg.size, h3.imp id (fun r => r.gr hg)⟩
theorem BoxR.oth (h : BoxR wr w d pt) (hne : pt ≠ .pointer (some ⟨B, 0, none⟩)) : BoxR wr ((w.setCell ⟨B, 0, none⟩ u1).setCell ⟨B, 1, none⟩ u2) d pt := by
  obtain ⟨B', rfl, h1, h2, h3⟩ := h
  have hn : B ≠ B' := fun e => hne (by rw [e])
  refine ⟨B', rfl, h1, ?_, h3.imp id (fun r => (r.oth hn).oth hn)⟩
  have z : ∀ (W : World) (a : Addr) (x : Value), (W.setCell a x).heap.size = W.heap.size := fun W a x => size_set W a x
  show B' < _
  rw [z, z]; exact h2
theorem BoxR.same (h : BoxR wr w false (.pointer (some ⟨B, 0, none⟩))) : BoxR wr ((w.setCell ⟨B, 0, none⟩ u1).setCell ⟨B, 1, none⟩ u2) true (.pointer (some ⟨B, 0, none⟩)) := by
  obtain ⟨B', e, h1, h2, h3⟩ := h
  cases e
  have z : ∀ (W : World) (a : Addr) (x : Value), (W.setCell a x).heap.size = W.heap.size := fun W a x => size_set W a x
  refine ⟨B, rfl, h1, ?_, .inl rfl⟩
  show B < _
  rw [z, z]; exact h2
theorem FullR.gr (h : FullR w pt t) (hg : Gr w w') : FullR w' pt t := by
  obtain ⟨B, e, r⟩ := h
  exact ⟨B, e, r.gr hg⟩
theorem FullR.oth (h : FullR w pt t) (hne : pt ≠ .pointer (some ⟨B, 0, none⟩)) : FullR ((w.setCell ⟨B, 0, none⟩ u1).setCell ⟨B, 1, none⟩ u2) pt t := by
  obtain ⟨B', rfl, r⟩ := h
  have hn : B ≠ B' := fun e => hne (by rw [e])
  exact ⟨B', rfl, (r.oth hn).oth hn⟩
end
def rqn8F (NA NB n c1 c2 c3 c4 : Nat) (xa xb : Rls) (a1 a2 a3 a4 : Option Addr) (wr : World) (t11 t12 t49 t50 t51 t52 t53 : Value) (d : Array Bool) (w : World) : Prop :=
  Gr wr w ∧ (d.getD 0 false = true → t49 = .agg #[.slice a1 n c1, .slice a2 n c2]) ∧
  (d.getD 1 false = true → t50 = .agg #[.slice a3 n c3, .slice a4 n c4]) ∧
  (d.getD 2 false = true → JV wr w n (joinR xa xb).on (joinR xa xb).level t51) ∧
  (d.getD 3 false = true → t52 = .agg #[.slice a1 n c1, .slice a2 n c2]) ∧
  (d.getD 4 false = true → (d.getD 2 false = true ∧ JV wr w n xa.on xa.level t53 ∧ (0 < n → DJ t51 t53))) ∧
  (d.getD 5 false = true → (BoxR wr w (d.getD 7 false) t11 ∧ (d.getD 6 false = true → t12 ≠ t11))) ∧
  (d.getD 6 false = true → (BoxR wr w (d.getD 8 false) t12 ∧ (d.getD 5 false = true → t12 ≠ t11))) ∧
  (d.getD 7 false = true → ((d.getD 5 false = true ∧ d.getD 2 false = true) ∧ FullR w t11 t51)) ∧
  (d.getD 8 false = true → ((d.getD 6 false = true ∧ d.getD 4 false = true) ∧ FullR w t12 t53))
def rqn8A (NA NB : Nat) (t11 t12 t49 t50 t51 t52 t53 s0 s1 s2 s3 s4 s7 s8 s9 s10 s13 s14 s15 s16 s17 s18 s19 s20 s21 s22 s23 s24 s25 s26 s27 s28 s29 s30 s31 s32 s33 s34 s35 s36 s37 s38 s39 s40 s41 s42 s43 s44 s45 s46 s47 s48 s54 s55 s56 s57 s58 s59 s60 s61 s62 s63 s64 s65 s66 s67 s68 s69 s70 s71 s72 s73 s74 s75 s76 s77 s78 s79 s80 s81 s82 s83 s84 s85 s86 s87 s88 s89 s90 s91 s92 s93 s94 s95 s96 s97 s98 s99 s100 s101 s102 s103 s104 s105 s106 s107 s108 s109 s110 s111 s112 s113 s114 s115 s116 s117 s118 s119 s120 s121 s122 s123 s124 s125 s126 s127 s128 s129 s130 s131 s132 s133 s134 s135 s136 s137 s138 s139 s140 s141 s142 s143 s144 s145 s146 s147 s148 s149 s150 s151 s152 s153 s154 s155 s156 s157 : Value) : Act := { tmps := #[s0, s1, s2, s3, s4, .pointer (some ⟨NA, 0, none⟩), .pointer (some ⟨NB, 0, none⟩), s7, s8, s9, s10, t11, t12, s13, s14, s15, s16, s17, s18, s19, s20, s21, s22, s23, s24, s25, s26, s27, s28, s29, s30, s31, s32, s33, s34, s35, s36, s37, s38, s39, s40, s41, s42, s43, s44, s45, s46, s47, s48, t49, t50, t51, t52, t53, s54, s55, s56, s57, s58, s59, s60, s61, s62, s63, s64, s65, s66, s67, s68, s69, s70, s71, s72, s73, s74, s75, s76, s77, s78, s79, s80, s81, s82, s83, s84, s85, s86, s87, s88, s89, s90, s91, s92, s93, s94, s95, s96, s97, s98, s99, s100, s101, s102, s103, s104, s105, s106, s107, s108, s109, s110, s111, s112, s113, s114, s115, s116, s117, s118, s119, s120, s121, s122, s123, s124, s125, s126, s127, s128, s129, s130, s131, s132, s133, s134, s135, s136, s137, s138, s139, s140, s141, s142, s143, s144, s145, s146, s147, s148, s149, s150, s151, s152, s153, s154, s155, s156, s157], defers := [] }
theorem rqn8 {Q : Exit → Act → World → Prop} {NA NB n c1 c2 c3 c4 : Nat} {xa xb : Rls} {a1 a2 a3 a4 : Option Addr} {wr : World}  {s0 s1 s2 s3 s4 s7 s8 s9 s10 s11 s12 s13 s14 s15 s16 s17 s18 s19 s20 s21 s22 s23 s24 s25 s26 s27 s28 s29 s30 s31 s32 s33 s34 s35 s36 s37 s38 s39 s40 s41 s42 s43 s44 s45 s46 s47 s48 s49 s50 s51 s52 s53 s54 s55 s56 s57 s58 s59 s60 s61 s62 s63 s64 s65 s66 s67 s68 s69 s70 s71 s72 s73 s74 s75 s76 s77 s78 s79 s80 s81 s82 s83 s84 s85 s86 s87 s88 s89 s90 s91 s92 s93 s94 s95 s96 s97 s98 s99 s100 s101 s102 s103 s104 s105 s106 s107 s108 s109 s110 s111 s112 s113 s114 s115 s116 s117 s118 s119 s120 s121 s122 s123 s124 s125 s126 s127 s128 s129 s130 s131 s132 s133 s134 s135 s136 s137 s138 s139 s140 s141 s142 s143 s144 s145 s146 s147 s148 s149 s150 s151 s152 s153 s154 s155 s156 s157 : Value} (RA : Row wr NA 31 [.slice a1 n c1, .slice a2 n c2]) (RBb : Row wr NB 31 [.slice a3 n c3, .slice a4 n c4])
    (hJ : ∀ W, Gr wr W → Calls Try.prog 54 #[.agg #[.slice a1 n c1, .slice a2 n c2], .agg #[.slice a3 n c3, .slice a4 n c4]] W (GivesRls W (joinR xa xb)))
    (hC : ∀ W, Gr wr W → Calls Try.prog 45 #[.agg #[.slice a1 n c1, .slice a2 n c2]] W (GivesRls W xa))
    (l1 : xa.on.length = n) (l2 : xa.level.length = n) (l3 : xb.on.length = n) (l4 : xb.level.length = n)
    (h' : ∀ t11 t12 t49 t50 t51 t52 t53 wx, Gr wr wx → JV wr wx n (joinR xa xb).on (joinR xa xb).level t51 → JV wr wx n xa.on xa.level t53 → (0 < n → DJ t51 t53) → FullR wx t11 t51 → FullR wx t12 t53 → t12 ≠ t11 → BoxR wr wx true t11 → BoxR wr wx true t12 → Q .normal (rqn8A NA NB t11 t12 t49 t50 t51 t52 t53 s0 s1 s2 s3 s4 s7 s8 s9 s10 s13 s14 s15 s16 s17 s18 s19 s20 s21 s22 s23 s24 s25 s26 s27 s28 s29 s30 s31 s32 s33 s34 s35 s36 s37 s38 s39 s40 s41 s42 s43 s44 s45 s46 s47 s48 s54 s55 s56 s57 s58 s59 s60 s61 s62 s63 s64 s65 s66 s67 s68 s69 s70 s71 s72 s73 s74 s75 s76 s77 s78 s79 s80 s81 s82 s83 s84 s85 s86 s87 s88 s89 s90 s91 s92 s93 s94 s95 s96 s97 s98 s99 s100 s101 s102 s103 s104 s105 s106 s107 s108 s109 s110 s111 s112 s113 s114 s115 s116 s117 s118 s119 s120 s121 s122 s123 s124 s125 s126 s127 s128 s129 s130 s131 s132 s133 s134 s135 s136 s137 s138 s139 s140 s141 s142 s143 s144 s145 s146 s147 s148 s149 s150 s151 s152 s153 s154 s155 s156 s157) wx) :
    (Code.region 8 (regIn 8 Try.f26) true).wp Try.prog Q { tmps := #[s0, s1, s2, s3, s4, .pointer (some ⟨NA, 0, none⟩), .pointer (some ⟨NB, 0, none⟩), s7, s8, s9, s10, s11, s12, s13, s14, s15, s16, s17, s18, s19, s20, s21, s22, s23, s24, s25, s26, s27, s28, s29, s30, s31, s32, s33, s34, s35, s36, s37, s38, s39, s40, s41, s42, s43, s44, s45, s46, s47, s48, s49, s50, s51, s52, s53, s54, s55, s56, s57, s58, s59, s60, s61, s62, s63, s64, s65, s66, s67, s68, s69, s70, s71, s72, s73, s74, s75, s76, s77, s78, s79, s80, s81, s82, s83, s84, s85, s86, s87, s88, s89, s90, s91, s92, s93, s94, s95, s96, s97, s98, s99, s100, s101, s102, s103, s104, s105, s106, s107, s108, s109, s110, s111, s112, s113, s114, s115, s116, s117, s118, s119, s120, s121, s122, s123, s124, s125, s126, s127, s128, s129, s130, s131, s132, s133, s134, s135, s136, s137, s138, s139, s140, s141, s142, s143, s144, s145, s146, s147, s148, s149, s150, s151, s152, s153, s154, s155, s156, s157], defers := [] } wr := by
  have RA0 := PLift.up RA
  have RB0 := PLift.up RBb
  have JN := PLift.up hJ
  have CP := PLift.up hC
  have LA := PLift.up (And.intro l1 l2)
  have LJ : PLift ((joinR xa xb).on.length = n ∧ (joinR xa xb).level.length = n) := PLift.up ⟨by rw [joinR_on_len]; exact l3, by rw [joinR_lv_len]; exact l4⟩
  clear RA RBb hJ hC l1 l2 l3 l4
  simp only [regIn, Try.f26, regOps, Option.bind_some, Option.getD_some, Nat.beq, cond_true, cond_false]
  refine wp_region_steps (fun done a w => ∃ t11 t12 t49 t50 t51 t52 t53, a = rqn8A NA NB t11 t12 t49 t50 t51 t52 t53 s0 s1 s2 s3 s4 s7 s8 s9 s10 s13 s14 s15 s16 s17 s18 s19 s20 s21 s22 s23 s24 s25 s26 s27 s28 s29 s30 s31 s32 s33 s34 s35 s36 s37 s38 s39 s40 s41 s42 s43 s44 s45 s46 s47 s48 s54 s55 s56 s57 s58 s59 s60 s61 s62 s63 s64 s65 s66 s67 s68 s69 s70 s71 s72 s73 s74 s75 s76 s77 s78 s79 s80 s81 s82 s83 s84 s85 s86 s87 s88 s89 s90 s91 s92 s93 s94 s95 s96 s97 s98 s99 s100 s101 s102 s103 s104 s105 s106 s107 s108 s109 s110 s111 s112 s113 s114 s115 s116 s117 s118 s119 s120 s121 s122 s123 s124 s125 s126 s127 s128 s129 s130 s131 s132 s133 s134 s135 s136 s137 s138 s139 s140 s141 s142 s143 s144 s145 s146 s147 s148 s149 s150 s151 s152 s153 s154 s155 s156 s157 ∧ rqn8F NA NB n c1 c2 c3 c4 xa xb a1 a2 a3 a4 wr t11 t12 t49 t50 t51 t52 t53 done w) (by kernel_rfl) (by kernel_rfl) ?_ ⟨?_, ?_, ?_, ?_, ?_, ?_, ?_, ?_, ?_, trivial⟩ ?_
  · exact ⟨s11, s12, s49, s50, s51, s52, s53, rfl, (Gr.refl _).drew, fun q => absurd q (by decide), fun q => absurd q (by decide), fun q => absurd q (by decide), fun q => absurd q (by decide), fun q => absurd q (by decide), fun q => absurd q (by decide), fun q => absurd q (by decide), fun q => absurd q (by decide), fun q => absurd q (by decide)⟩
  · rintro done a w hsz hnot hdep ⟨t11, t12, t49, t50, t51, t52, t53, rfl, gw, f0, f1, f2, f3, f4, f5, f6, f7, f8⟩ K hK
    have hn : ¬ done.getD 0 false = true := by rw [getD_both hnot]; decide
    obtain ⟨c0, c1x, ch⟩ := pairZ (RA0.down.gr gw)
    have GW := PLift.up gw
    clear gw
    have HK := PLift.up hK
    clear hK 
    simp only [rqn8A]
    go_simp
    have gg : Gr w w := Gr.refl _
    refine HK.down _ _ ⟨_, _, _, _, _, _, _, rfl, GW.down, fun _ => rfl, kp f1, fun q => (f2 (done_old q (by decide))).gr gg, kp f3, fun q => (let h := f4 (done_old q (by decide)); ⟨done_stay h.1, h.2.1.gr gg, h.2.2⟩), fun q => (let h := f5 (done_old q (by decide)); ⟨(by rw [getD_set_ne false (by decide)]; exact h.1.gr gg), fun z => h.2 (done_old z (by decide))⟩), fun q => (let h := f6 (done_old q (by decide)); ⟨(by rw [getD_set_ne false (by decide)]; exact h.1.gr gg), fun z => h.2 (done_old z (by decide))⟩), fun q => (let h := f7 (done_old q (by decide)); ⟨⟨done_stay h.1.1, done_stay h.1.2⟩, h.2.gr gg⟩), fun q => (let h := f8 (done_old q (by decide)); ⟨⟨done_stay h.1.1, done_stay h.1.2⟩, h.2.gr gg⟩)⟩
  · rintro done a w hsz hnot hdep ⟨t11, t12, t49, t50, t51, t52, t53, rfl, gw, f0, f1, f2, f3, f4, f5, f6, f7, f8⟩ K hK
    have hn : ¬ done.getD 1 false = true := by rw [getD_both hnot]; decide
    obtain ⟨c0, c1x, ch⟩ := pairZ (RB0.down.gr gw)
    have GW := PLift.up gw
    clear gw
    have HK := PLift.up hK
    clear hK 
    simp only [rqn8A]
    go_simp
    have gg : Gr w w := Gr.refl _
    refine HK.down _ _ ⟨_, _, _, _, _, _, _, rfl, GW.down, kp f0, fun _ => rfl, fun q => (f2 (done_old q (by decide))).gr gg, kp f3, fun q => (let h := f4 (done_old q (by decide)); ⟨done_stay h.1, h.2.1.gr gg, h.2.2⟩), fun q => (let h := f5 (done_old q (by decide)); ⟨(by rw [getD_set_ne false (by decide)]; exact h.1.gr gg), fun z => h.2 (done_old z (by decide))⟩), fun q => (let h := f6 (done_old q (by decide)); ⟨(by rw [getD_set_ne false (by decide)]; exact h.1.gr gg), fun z => h.2 (done_old z (by decide))⟩), fun q => (let h := f7 (done_old q (by decide)); ⟨⟨done_stay h.1.1, done_stay h.1.2⟩, h.2.gr gg⟩), fun q => (let h := f8 (done_old q (by decide)); ⟨⟨done_stay h.1.1, done_stay h.1.2⟩, h.2.gr gg⟩)⟩
  · rintro done a w hsz hnot hdep ⟨t11, t12, t49, t50, t51, t52, t53, rfl, gw, f0, f1, f2, f3, f4, f5, f6, f7, f8⟩ K hK
    have hn : ¬ done.getD 2 false = true := by rw [getD_both hnot]; decide
    have d0 := hdep 0 (by kernel_rfl)
    have d1 := hdep 1 (by kernel_rfl)
    obtain rfl := f0 d0
    obtain rfl := f1 d1
    have GW := PLift.up gw
    clear gw
    have HK := PLift.up hK
    clear hK d0 d1
    simp only [rqn8A]
    go_simp
    refine (JN.down w GW.down).mono ?_
    rintro e w2 ⟨x1, k1, x2, k2, rfl, hk1, hk2, o1, o2, gg⟩
    rw [LJ.down.1] at hk1
    rw [LJ.down.2] at hk2
    simp only [LJ.down.1, LJ.down.2]
    (try go_simp)
    refine HK.down _ _ ⟨_, _, _, _, _, _, _, rfl, GW.down.trans gg, kp f0, kp f1, ?_, kp f3, fun q => absurd (f4 (done_old q (by decide))).1 hn, fun q => (let h := f5 (done_old q (by decide)); ⟨(by rw [getD_set_ne false (by decide)]; exact h.1.gr gg), fun z => h.2 (done_old z (by decide))⟩), fun q => (let h := f6 (done_old q (by decide)); ⟨(by rw [getD_set_ne false (by decide)]; exact h.1.gr gg), fun z => h.2 (done_old z (by decide))⟩), fun q => absurd (f7 (done_old q (by decide))).1.2 hn, fun q => absurd (f4 (f8 (done_old q (by decide))).1.2).1 hn⟩
    exact fun _ => ⟨x1, k1, x2, k2, rfl, hk1, hk2, o1.low GW.down.size, o2.low GW.down.size⟩
  · rintro done a w hsz hnot hdep ⟨t11, t12, t49, t50, t51, t52, t53, rfl, gw, f0, f1, f2, f3, f4, f5, f6, f7, f8⟩ K hK
    have hn : ¬ done.getD 3 false = true := by rw [getD_both hnot]; decide
    obtain ⟨c0, c1x, ch⟩ := pairZ (RA0.down.gr gw)
    have GW := PLift.up gw
    clear gw
    have HK := PLift.up hK
    clear hK 
    simp only [rqn8A]
    go_simp
    have gg : Gr w w := Gr.refl _
    refine HK.down _ _ ⟨_, _, _, _, _, _, _, rfl, GW.down, kp f0, kp f1, fun q => (f2 (done_old q (by decide))).gr gg, fun _ => rfl, fun q => (let h := f4 (done_old q (by decide)); ⟨done_stay h.1, h.2.1.gr gg, h.2.2⟩), fun q => (let h := f5 (done_old q (by decide)); ⟨(by rw [getD_set_ne false (by decide)]; exact h.1.gr gg), fun z => h.2 (done_old z (by decide))⟩), fun q => (let h := f6 (done_old q (by decide)); ⟨(by rw [getD_set_ne false (by decide)]; exact h.1.gr gg), fun z => h.2 (done_old z (by decide))⟩), fun q => (let h := f7 (done_old q (by decide)); ⟨⟨done_stay h.1.1, done_stay h.1.2⟩, h.2.gr gg⟩), fun q => (let h := f8 (done_old q (by decide)); ⟨⟨done_stay h.1.1, done_stay h.1.2⟩, h.2.gr gg⟩)⟩
  · rintro done a w hsz hnot hdep ⟨t11, t12, t49, t50, t51, t52, t53, rfl, gw, f0, f1, f2, f3, f4, f5, f6, f7, f8⟩ K hK
    have hn : ¬ done.getD 4 false = true := by rw [getD_both hnot]; decide
    have d3 := hdep 3 (by kernel_rfl)
    have d2 := hdep 2 (by kernel_rfl)
    obtain rfl := f3 d3
    have D2 := PLift.up d2
    have F2 := PLift.up (f2 d2)
    have GW := PLift.up gw
    clear gw d2
    have HK := PLift.up hK
    clear hK d3
    simp only [rqn8A]
    go_simp
    refine (CP.down w GW.down).mono ?_
    rintro e w2 ⟨x1, k1, x2, k2, rfl, hk1, hk2, o1, o2, gg⟩
    rw [LA.down.1] at hk1
    rw [LA.down.2] at hk2
    simp only [LA.down.1, LA.down.2]
    (try go_simp)
    refine HK.down _ _ ⟨_, _, _, _, _, _, _, rfl, GW.down.trans gg, kp f0, kp f1, fun q => (f2 (done_old q (by decide))).gr gg, kp f3, ?_, fun q => (let h := f5 (done_old q (by decide)); ⟨(by rw [getD_set_ne false (by decide)]; exact h.1.gr gg), fun z => h.2 (done_old z (by decide))⟩), fun q => (let h := f6 (done_old q (by decide)); ⟨(by rw [getD_set_ne false (by decide)]; exact h.1.gr gg), fun z => h.2 (done_old z (by decide))⟩), fun q => (let h := f7 (done_old q (by decide)); ⟨⟨done_stay h.1.1, done_stay h.1.2⟩, h.2.gr gg⟩), fun q => absurd (f8 (done_old q (by decide))).1.2 hn⟩
    have J : JV w w2 n xa.on xa.level (.agg #[.slice x1 n k1, .slice x2 n k2]) := ⟨x1, k1, x2, k2, rfl, hk1, hk2, o1, o2⟩
    exact fun _ => ⟨done_stay D2.down, J.low GW.down.size, fun h0 => F2.down.apart J h0 LJ.down.1 LJ.down.2 LA.down.1 LA.down.2⟩
  · rintro done a w hsz hnot hdep ⟨t11, t12, t49, t50, t51, t52, t53, rfl, gw, f0, f1, f2, f3, f4, f5, f6, f7, f8⟩ K hK
    have hn : ¬ done.getD 5 false = true := by rw [getD_both hnot]; decide
    have GW := PLift.up gw
    clear gw
    have HK := PLift.up hK
    clear hK 
    simp only [rqn8A]
    go_simp
    have gg : Gr w (w.alloc (.cells #[.slice none 0 0, .slice none 0 0] 31)) := (Gr.refl _).alloc _
    refine HK.down _ _ ⟨_, _, _, _, _, _, _, rfl, GW.down.trans gg, kp f0, kp f1, fun q => (f2 (done_old q (by decide))).gr gg, kp f3, fun q => (let h := f4 (done_old q (by decide)); ⟨done_stay h.1, h.2.1.gr gg, h.2.2⟩), ?_, fun q => (let h := f6 (done_old q (by decide)); ⟨(by rw [getD_set_ne false (by decide)]; exact h.1.gr gg), fun _ => by obtain ⟨B, e, _, hB, _⟩ := h.1; intro e2; rw [e] at e2; cases e2; exact Nat.lt_irrefl _ hB⟩), fun q => absurd (f7 (done_old q (by decide))).1.1 hn, fun q => (let h := f8 (done_old q (by decide)); ⟨⟨done_stay h.1.1, done_stay h.1.2⟩, h.2.gr gg⟩)⟩
    exact fun _ => ⟨⟨w.heap.size, rfl, GW.down.size, (Row.new w _ _).has, .inr (Row.new w _ _)⟩, (fun z => by obtain ⟨B, e, _, hB, _⟩ := (f6 (done_old z (by decide))).1; intro e2; rw [e] at e2; cases e2; exact Nat.lt_irrefl _ hB)⟩
  · rintro done a w hsz hnot hdep ⟨t11, t12, t49, t50, t51, t52, t53, rfl, gw, f0, f1, f2, f3, f4, f5, f6, f7, f8⟩ K hK
    have hn : ¬ done.getD 6 false = true := by rw [getD_both hnot]; decide
    have GW := PLift.up gw
    clear gw
    have HK := PLift.up hK
    clear hK 
    simp only [rqn8A]
    go_simp
    have gg : Gr w (w.alloc (.cells #[.slice none 0 0, .slice none 0 0] 31)) := (Gr.refl _).alloc _
    refine HK.down _ _ ⟨_, _, _, _, _, _, _, rfl, GW.down.trans gg, kp f0, kp f1, fun q => (f2 (done_old q (by decide))).gr gg, kp f3, fun q => (let h := f4 (done_old q (by decide)); ⟨done_stay h.1, h.2.1.gr gg, h.2.2⟩), fun q => (let h := f5 (done_old q (by decide)); ⟨(by rw [getD_set_ne false (by decide)]; exact h.1.gr gg), fun _ => by obtain ⟨B, e, _, hB, _⟩ := h.1; intro e2; rw [e] at e2; cases e2; exact Nat.lt_irrefl _ hB⟩), ?_, fun q => (let h := f7 (done_old q (by decide)); ⟨⟨done_stay h.1.1, done_stay h.1.2⟩, h.2.gr gg⟩), fun q => absurd (f8 (done_old q (by decide))).1.1 hn⟩
    exact fun _ => ⟨⟨w.heap.size, rfl, GW.down.size, (Row.new w _ _).has, .inr (Row.new w _ _)⟩, (fun z => by obtain ⟨B, e, _, hB, _⟩ := (f5 (done_old z (by decide))).1; intro e2; rw [e] at e2; cases e2; exact Nat.lt_irrefl _ hB)⟩
  · rintro done a w hsz hnot hdep ⟨t11, t12, t49, t50, t51, t52, t53, rfl, gw, f0, f1, f2, f3, f4, f5, f6, f7, f8⟩ K hK
    have hn : ¬ done.getD 7 false = true := by rw [getD_both hnot]; decide
    have d5 := hdep 5 (by kernel_rfl)
    have d2 := hdep 2 (by kernel_rfl)
    have n7 : done.getD 7 false = false := getD_both hnot
    have hb := (f5 d5).1
    rw [n7] at hb
    obtain ⟨B, rfl, hlo, hh, hr⟩ := hb
    have RW := PLift.up (hr.resolve_left (by simp))
    have HLO := PLift.up hlo
    have F2 := PLift.up (f2 d2)
    have DD := PLift.up (And.intro d5 d2)
    obtain ⟨x1, k1, x2, k2, rfl, _⟩ := F2.down
    obtain ⟨b0, b1, b2, b3, b4⟩ := boxZ RW.down
    have GW := PLift.up gw
    have HNE := PLift.up hnot
    have SZ := PLift.up hsz
    have N7 := PLift.up n7
    clear gw hr hh hlo d5 d2 n7
    have HK := PLift.up hK
    clear hK 
    simp only [rqn8A]
    go_simp
    refine HK.down _ _ ⟨_, _, _, _, _, _, _, rfl, (GW.down.setc HLO.down).setc HLO.down, kp f0, kp f1, fun q => (f2 (done_old q (by decide))).box2 RW.down, kp f3, fun q => (let h := f4 (done_old q (by decide)); ⟨done_stay h.1, h.2.1.box2 RW.down, h.2.2⟩), fun q => (let h := f5 (done_old q (by decide)); ⟨(by rw [getD_set_same (by rw [SZ.down]; decide)]; exact BoxR.same (by have := h.1; rwa [N7.down] at this)), fun z => h.2 (done_old z (by decide))⟩), fun q => (let h := f6 (done_old q (by decide)); ⟨(by rw [getD_set_ne false (by decide)]; exact h.1.oth (h.2 DD.down.1)), fun z => h.2 (done_old z (by decide))⟩), ?_, fun q => (let h := f8 (done_old q (by decide)); ⟨⟨done_stay h.1.1, done_stay h.1.2⟩, h.2.oth ((f6 h.1.1).2 DD.down.1)⟩)⟩
    exact fun _ => ⟨⟨done_stay DD.down.1, done_stay DD.down.2⟩, B, rfl, by exact (RW.down.set 0 (.slice x1 n k1)).set 1 (.slice x2 n k2)⟩
  · rintro done a w hsz hnot hdep ⟨t11, t12, t49, t50, t51, t52, t53, rfl, gw, f0, f1, f2, f3, f4, f5, f6, f7, f8⟩ K hK
    have hn : ¬ done.getD 8 false = true := by rw [getD_both hnot]; decide
    have d6 := hdep 6 (by kernel_rfl)
    have d4 := hdep 4 (by kernel_rfl)
    have n8 : done.getD 8 false = false := getD_both hnot
    have hb := (f6 d6).1
    rw [n8] at hb
    obtain ⟨B, rfl, hlo, hh, hr⟩ := hb
    have RW := PLift.up (hr.resolve_left (by simp))
    have HLO := PLift.up hlo
    have F4 := PLift.up (f4 d4)
    have DD := PLift.up (And.intro d6 d4)
    obtain ⟨x1, k1, x2, k2, rfl, _⟩ := (F4.down.2.1)
    obtain ⟨b0, b1, b2, b3, b4⟩ := boxZ RW.down
    have GW := PLift.up gw
    have HNE := PLift.up hnot
    have SZ := PLift.up hsz
    have N8 := PLift.up n8
    clear gw hr hh hlo d6 d4 n8
    have HK := PLift.up hK
    clear hK 
    simp only [rqn8A]
    go_simp
    refine HK.down _ _ ⟨_, _, _, _, _, _, _, rfl, (GW.down.setc HLO.down).setc HLO.down, kp f0, kp f1, fun q => (f2 (done_old q (by decide))).box2 RW.down, kp f3, fun q => (let h := f4 (done_old q (by decide)); ⟨done_stay h.1, h.2.1.box2 RW.down, h.2.2⟩), fun q => (let h := f5 (done_old q (by decide)); ⟨(by rw [getD_set_ne false (by decide)]; exact h.1.oth (fun e => h.2 DD.down.1 e.symm)), fun z => h.2 (done_old z (by decide))⟩), fun q => (let h := f6 (done_old q (by decide)); ⟨(by rw [getD_set_same (by rw [SZ.down]; decide)]; exact BoxR.same (by have := h.1; rwa [N8.down] at this)), fun z => h.2 (done_old z (by decide))⟩), fun q => (let h := f7 (done_old q (by decide)); ⟨⟨done_stay h.1.1, done_stay h.1.2⟩, h.2.oth (fun e => (f5 h.1.1).2 DD.down.1 e.symm)⟩), ?_⟩
    exact fun _ => ⟨⟨done_stay DD.down.1, done_stay DD.down.2⟩, B, rfl, by exact (RW.down.set 0 (.slice x1 n k1)).set 1 (.slice x2 n k2)⟩
  · rintro done a w hall ⟨t11, t12, t49, t50, t51, t52, t53, rfl, gw, f0, f1, f2, f3, f4, f5, f6, f7, f8⟩
    have q4 := f4 (hall 4 (by decide))
    have q5 := f5 (hall 5 (by decide))
    have q6 := f6 (hall 6 (by decide))
    have b5 := q5.1
    have b6 := q6.1
    rw [hall 7 (by decide)] at b5
    rw [hall 8 (by decide)] at b6
    exact h' _ _ _ _ _ _ _ w gw (f2 (hall 2 (by decide))) q4.2.1 q4.2.2 (f7 (hall 7 (by decide))).2 (f8 (hall 8 (by decide))).2 (q5.2 (hall 6 (by decide))) b5 b6
end Go.Proofs.Ytoenkcojfogmmaa
