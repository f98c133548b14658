/- Lemmas and contracts for the proof of PrintDiffers (several texts in one, printed by wip/tools/pack.py): VbL VbM VbN UfA. -/
import Derived.Test.YtgembejpiecfcaaGreatDoorPd1pj
import Derived.Test.YtgembejpiecfcaaGreatDoorPd1ph
set_option maxRecDepth 100000
set_option maxHeartbeats 16000000
set_option linter.unusedVariables false
set_option linter.unusedSimpArgs false
namespace Go.Proofs.YtgembejpiecfcaaGreatDoor
open Go.RowKit
open Classical
theorem putP_at (p : Prp) : ∀ (l : List Prp) (k : Nat) (hk : k ≤ l.length) (hlow : ∀ j (hj : j < l.length), j < k → ltS (l[j]'hj).name p.name = true) (hup : ∀ h : k < l.length, ltS (l[k]'h).name p.name = false),
    (∀ h : k < l.length, (l[k]'h).name = p.name → putP l p = l.take k ++ p :: l.drop (k + 1)) ∧ ((∀ h : k < l.length, (l[k]'h).name ≠ p.name) → putP l p = l.take k ++ p :: l.drop k) := by
  intro l
  induction l with
  | nil =>
    intro k hk _ _
    have : k = 0 := by simpa using hk
    subst this
    exact ⟨fun h => absurd h (by simp), fun _ => rfl⟩
  | cons y l ih =>
    intro k hk hlow hup
    rw [putP_cons]
    cases k with
    | zero =>
      have h0 := hup (by simp)
      rw [List.getElem_cons_zero] at h0
      rw [h0, if_neg (by simp)]
      refine ⟨fun h e => ?_, fun h => ?_⟩
      · rw [List.getElem_cons_zero] at e
        rw [if_pos e]; rfl
      · have := h (by simp)
        rw [List.getElem_cons_zero] at this
        rw [if_neg this]; rfl
    | succ k =>
      have h0 := hlow 0 (by simp) (by omega)
      rw [List.getElem_cons_zero] at h0
      rw [if_pos h0]
      have hk' : k ≤ l.length := by simpa using hk
      have h1 := ih k hk' (fun j hj hjk => by
        have := hlow (j + 1) (by simpa using hj) (by omega)
        rw [List.getElem_cons_succ] at this
        exact this) (fun h => by
        have := hup (by simpa using h)
        rw [List.getElem_cons_succ] at this
        exact this)
      refine ⟨fun h e => ?_, fun h => ?_⟩
      · rw [List.getElem_cons_succ] at e
        rw [h1.1 (by simpa using h) e]; rfl
      · rw [h1.2 (fun h2 => by
          have := h (by simpa using h2)
          rw [List.getElem_cons_succ] at this
          exact this)]; rfl
theorem prps_take {w : World} {a : Option Addr} {ps : List Prp} (h : SlOf 2 RPrp w a ps) (k : Nat) (hk : k ≤ ps.length) : Gets w a k 2 ((ps.take k).flatMap encP) := by
  have h1 : SlOf 2 RPrp w a (ps.take k) := fun i hi => by
    have hi2 : i < k ∧ i < ps.length := by rw [List.length_take] at hi; omega
    obtain ⟨b, o, e, r⟩ := h i hi2.2
    exact ⟨b, o, e, by rw [List.getElem_take]; exact r⟩
  have h2 := gets_prps h1
  rw [List.length_take, Nat.min_eq_left hk] at h2
  exact h2
theorem prps_drop {w : World} {b o : Nat} {ps : List Prp} (h : SlOf 2 RPrp w (some ⟨b, o, none⟩) ps) (m pc : Nat) (hc : ps.length ≤ pc) {ra : Option Addr} (hr : ra = if pc = m then some ⟨b, o, none⟩ else some ⟨b, o + m * 2, none⟩) : Gets w ra (ps.length - m) 2 ((ps.drop m).flatMap encP) := by
  by_cases e : ps.length ≤ m
  · have : ps.length - m = 0 := by omega
    rw [this, List.drop_eq_nil_iff.2 e]
    exact ⟨rfl, fun h => absurd rfl h⟩
  · rw [if_neg (by omega)] at hr
    subst hr
    have h1 : SlOf 2 RPrp w (some ⟨b, o + m * 2, none⟩) (ps.drop m) := fun i hi => by
      have hi2 : m + i < ps.length := by rw [List.length_drop] at hi; omega
      obtain ⟨b2, o2, e, r⟩ := h (m + i) hi2
      cases e
      refine ⟨b, o + m * 2, rfl, ?_⟩
      rw [List.getElem_drop, show o + m * 2 + i * 2 = o + (m + i) * 2 by omega]
      exact r
    have h2 := gets_prps h1
    rw [List.length_drop] at h2
    exact h2
theorem rPut_ok (ps : List Prp) (p : Prp) (pa : Option Addr) (pc : Nat) (w : World) (h : SlOf 2 RPrp w pa ps) (hl : ps.length ≤ 1000) (hs : ∀ q ∈ ps, q.name.length ≤ 1000 ∧ q.val.length ≤ 100000) (hp : p.name.length ≤ 1000) (hc : ps.length ≤ pc) :
    Calls Tryz.prog 65 #[.slice pa ps.length pc, .agg #[.string (bs p.name), .string (bs p.val)]] w fun e w' => ∃ a c, e = .returned (.slice a (putP ps p).length c) ∧ w'.ownsRow w.heap.size 59 2 (.slice a (putP ps p).length c) (putP ps p).length ((putP ps p).flatMap encP) ∧ Gr w w' := by
  have H := Lib.hid h
  have HS := Lib.hid hs
  clear h hs
  obtain ⟨j0, hj, hy0, hy1, hy2⟩ := info_parts infoPrp
  obtain ⟨P0, hP0⟩ : ∃ P : Ending → World → Prop, P = fun e w' => ∃ a c, e = .returned (.slice a (putP ps p).length c) ∧ w'.ownsRow w.heap.size 59 2 (.slice a (putP ps p).length c) (putP ps p).length ((putP ps p).flatMap encP) ∧ Gr w w' := ⟨_, rfl⟩
  rw [← hP0]
  have HP0 := Lib.hid hP0
  clear hP0
  go_enter Tryz.func65, Tryz.ntmps65
  go_upto_region 1 with (fail)
  have R1 := Lib.hid (Row.new w #[.string (bs p.name), .string (bs p.val)] 59)
  obtain ⟨W, hW⟩ : ∃ W : World, Hid (W = w.alloc (.cells #[.string (bs p.name), .string (bs p.val)] 59)) := ⟨_, Lib.hid rfl⟩
  have GW : Hid (Gr w W) := Lib.hid (by rw [hW.out]; exact (Gr.refl _).alloc _)
  rw [← hW.out] at R1 ⊢
  obtain ⟨PB, hPB⟩ : ∃ N : Nat, Hid (w.heap.size = N) := ⟨_, Lib.hid rfl⟩
  have HPB := Lib.hid hPB.out
  rw [hPB.out] at R1 ⊢
  clear hW hPB
  go_wp2_with fail
  go_loopw [5] (fun i wr => ∃ k : Nat, k ≤ ps.length ∧ i = .int .i64 k ∧ (∀ j (h : j < ps.length), j < k → ltS (ps[j]'h).name p.name = true) ∧ Gr W wr) (fun i _ => ps.length - (intOf i).toNat)
  case atStart => exact ⟨0, Nat.zero_le _, rfl, fun j _ h => absurd h (by omega), Gr.refl _⟩
  case round =>
    obtain ⟨k, hk, rfl, hlo, hg⟩ := hrel
    have LO := Lib.hid hlo
    have HG := Lib.hid hg
    have S1 := Lib.hid (R1.out.gr hg)
    clear hlo hg
    have p0 : wr.cell? ⟨PB, 0, none⟩ = some (.string (bs p.name)) := S1.out.cell 0 (by simp)
    have p1 : wr.cell? ⟨PB, 1, none⟩ = some (.string (bs p.val)) := S1.out.cell 1 (by simp)
    have hpb := has_of_cell p0
    by_cases hlt : k < ps.length
    · obtain ⟨b2, o2, rfl, d0, d1, l0, l1⟩ := prps_at (H.out.gr RPrp.mono (GW.out.trans HG.out)) k hlt
      have hh2 := has_of_cell d0
      obtain ⟨q, hq⟩ : ∃ q, ps[k]'hlt = q := ⟨_, rfl⟩
      rw [hq] at d0 d1
      have kk : (k : Int) < ps.length := by omega
      have LQ : Hid (q.name.length ≤ 1000 ∧ q.val.length ≤ 100000) := Lib.hid (by rw [← hq]; exact HS.out _ (List.getElem_mem hlt))
      clear l0 l1
      by_cases hb : ltS q.name p.name = true
      · have q1 : Op.bytesLess q.name p.name = true := hb
        have LN : Hid (ltS (ps[k]'hlt).name p.name = true) := Lib.hid (by rw [hq]; exact hb)
        clear hb hq
        go_wp2_with fail
        go_quiet (fail)
        go_wp2_with fail
        go_roundw
        case rel =>
          refine ⟨k + 1, by omega, by go_num, fun j hj hjk => ?_, HG.out.drewN _⟩
          by_cases e : j = k
          · subst e; exact LN.out
          · exact LO.out j hj (by omega)
        case measure => simp [intOf]; omega
      · rw [Bool.not_eq_true] at hb
        have q1 : Op.bytesLess q.name p.name = false := hb
        go_wp2_with fail
        go_quiet (fail)
        go_wp2_with fail
        obtain ⟨w2, hw2⟩ : ∃ W : World, Hid (wr.drewN nq = W) := ⟨_, Lib.hid rfl⟩
        have GQ : Hid (Gr wr w2) := Lib.hid (by rw [← hw2.out]; exact (Gr.refl _).drewN _)
        rw [hw2.out]
        have S2 := Lib.hid (S1.out.gr GQ.out)
        have p0' : w2.cell? ⟨PB, 0, none⟩ = some (.string (bs p.name)) := S2.out.cell 0 (by simp)
        have p1' : w2.cell? ⟨PB, 1, none⟩ = some (.string (bs p.val)) := S2.out.cell 1 (by simp)
        have hpb' := has_of_cell p0'
        have HG2 := Lib.hid (GW.out.trans (HG.out.trans GQ.out))
        obtain ⟨b3, o3, h3, d0', d1', l0', l1'⟩ := prps_at (H.out.gr RPrp.mono HG2.out) k hlt
        cases h3
        rw [hq] at d0' d1'
        have hh3 := has_of_cell d0'
        clear hw2 l0' l1' d0 d1 hh2 p0 p1 hpb
        by_cases he : q.name = p.name
        · have q2 : (q.name == p.name) = true := by rw [he]; exact beq_self_eq_true _
          go_wp2_with fail
          go_quiet (fail)
          go_upto_region 7 with (fail)
          obtain ⟨w3, hw3⟩ : ∃ W : World, Hid (w2.drewN nq = W) := ⟨_, Lib.hid rfl⟩
          have PE : Hid (putP ps p = ps.take k ++ p :: ps.drop (k + 1)) := Lib.hid ((putP_at p ps k hk LO.out (fun h => by rw [hq]; exact hb)).1 hlt (by rw [hq]; exact he))
          obtain ⟨ra, hra⟩ : ∃ ra : Option Addr, ra = if pc = k + 1 then some ⟨b2, o2, none⟩ else some ⟨b2, o2 + (k + 1) * 2, none⟩ := ⟨_, rfl⟩
          rw [← hra]
          have G3 : Hid (Gr w w3) := Lib.hid (by rw [← hw3.out]; exact HG2.out.drewN _)
          have S3 : Hid (Row w3 PB 59 [.string (bs p.name), .string (bs p.val)]) := Lib.hid (S2.out.gr (by rw [← hw3.out]; exact (Gr.refl _).drewN _))
          rw [hw3.out]
          have GP : Hid (∀ W, Gr w3 W → Gets W (some ⟨b2, o2, none⟩) k 2 ((ps.take k).flatMap encP)) := Lib.hid (fun W hg => prps_take (H.out.gr RPrp.mono (G3.out.trans hg)) k hk)
          have GR : Hid (∀ W, Gr w3 W → Gets W ra (ps.length - (k + 1)) 2 ((ps.drop (k + 1)).flatMap encP)) := Lib.hid (fun W hg => prps_drop (H.out.gr RPrp.mono (G3.out.trans hg)) (k + 1) pc hc hra)
          have bh : PB < w3.heap.size := S3.out.has
          clear hra hw3 S1 S2 HG HG2 LO p0' p1' hpb' d0' d1' hh3
          have z0 := (S3.out.alloc (.cells #[] 59)).cell 0 (by simp)
          go_upto_region 8 with (at_builtin; refine wpList_append_gets _ rfl _ _ 55 rfl w3.heap.size 59 j0 (.agg #[.string (bs []), .string (bs [])]) 2 32 Tryz.underlying55 hj hy0 hy1 hy2 rfl (by decide) (.slice (some ⟨w3.heap.size, 0, none⟩) 0 0) 0 [] rfl (World.ownsRow_made w3 #[] 0 (by omega) (by simp) rfl) (some ⟨b2, o2, none⟩) (k) (pc) ((ps.take (k)).flatMap encP) rfl (GP.out _ ((Gr.refl w3).alloc _)) (flatP_one _) (by unfold maxLen; omega) (by omega) (by simp) ?_; intro v5 w5 hown hgrow hloc; obtain ⟨x5, z5, rfl⟩ := owns_slice hown; have O5 := Lib.hid hown; have G5 : Hid (Gr w3 w5) := Lib.hid (((Gr.refl w3).alloc _).grown hgrow (fun k e => by cases e; exact Nat.le_refl _)); clear hown hgrow hloc)
          rw [Nat.zero_add] at O5
          (try rw [Nat.zero_add])
          rw [List.nil_append] at O5
          clear z0
          have S5 := Lib.hid (S3.out.gr G5.out)
          have p0 : w5.cell? ⟨PB, 0, none⟩ = some (.string (bs p.name)) := S5.out.cell 0 (by simp)
          have p1 : w5.cell? ⟨PB, 1, none⟩ = some (.string (bs p.val)) := S5.out.cell 1 (by simp)
          have hpb := has_of_cell p0
          have O6 := Lib.hid (O5.out.alloc (.cells #[.string (bs p.name), .string (bs p.val)] 59))
          have NR := Lib.hid (row_cells (Row.new w5 #[.string (bs p.name), .string (bs p.val)] 59))
          have h5 := G5.out.size
          go_wp2_with (first | (at_builtin; refine wpList_append_own _ rfl _ _ 55 rfl w3.heap.size 59 j0 (.agg #[.string (bs []), .string (bs [])]) 2 32 Tryz.underlying55 hj hy0 hy1 hy2 rfl (by decide) _ (k) ((ps.take (k)).flatMap encP) rfl O6.out ⟨w5.heap.size, 0, none⟩ 1 1 [.string (bs p.name), .string (bs p.val)] rfl rfl NR.out (by intro u hu; simp only [List.mem_cons, List.not_mem_nil, or_false] at hu; rcases hu with q | q <;> subst q <;> rfl) (by unfold maxLen; omega) (by omega) (by simp; omega) ?_; intro v6 w6 hown hgrow hloc; obtain ⟨x6, z6, rfl⟩ := owns_slice hown; have O7 := Lib.hid hown; have G6 : Hid (Gr w3 w6) := Lib.hid ((G5.out.alloc _).grown hgrow (fun k e => (owns_block O5.out k e).1)); have h6 := G6.out.size; clear hown hgrow hloc) | (at_builtin; refine wpList_append_gets _ rfl _ _ 55 rfl w3.heap.size 59 j0 (.agg #[.string (bs []), .string (bs [])]) 2 32 Tryz.underlying55 hj hy0 hy1 hy2 rfl (by decide) _ (k + 1) ((ps.take (k)).flatMap encP ++ encP p) rfl O7.out ra (ps.length - (k + 1)) (pc - (k + 1)) ((ps.drop (k + 1)).flatMap encP) rfl (GR.out _ G6.out) (flatP_one _) (by unfold maxLen; omega) (by omega) (by omega) ?_; intro v7 w7 hown hgrow hloc; obtain ⟨x7, z7, rfl⟩ := owns_slice hown; have O8 := Lib.hid hown; have G7 : Hid (Gr w3 w7) := Lib.hid (G6.out.grown hgrow (fun k e => (owns_block O7.out k e).1)); clear hown hgrow hloc))
          rw [HP0.out]
          have EL : (putP ps p).length = k + 1 + (ps.length - (k + 1)) := by rw [PE.out, List.length_append, List.length_cons, List.length_take, List.length_drop]; omega
          have EF : (putP ps p).flatMap encP = ((ps.take (k)).flatMap encP ++ encP p) ++ (ps.drop (k + 1)).flatMap encP := by rw [PE.out, List.flatMap_append, List.flatMap_cons, List.append_assoc]
          refine ⟨x7, z7, by rw [EL], ?_, G3.out.trans G7.out⟩
          rw [EL, EF, HPB.out]
          exact owns_low O8.out (by omega)
        · have q2 : (q.name == p.name) = false := by rw [beq_eq_false_iff_ne]; exact he
          go_wp2_with fail
          go_quiet (fail)
          go_upto_region 7 with (fail)
          obtain ⟨w3, hw3⟩ : ∃ W : World, Hid (w2.drewN nq = W) := ⟨_, Lib.hid rfl⟩
          have PE : Hid (putP ps p = ps.take k ++ p :: ps.drop k) := Lib.hid ((putP_at p ps k hk LO.out (fun h => by rw [hq]; exact hb)).2 (fun h => by rw [hq]; exact he))
          obtain ⟨ra, hra⟩ : ∃ ra : Option Addr, ra = some ⟨b2, o2 + k * 2, none⟩ := ⟨_, rfl⟩
          rw [← hra]
          have G3 : Hid (Gr w w3) := Lib.hid (by rw [← hw3.out]; exact HG2.out.drewN _)
          have S3 : Hid (Row w3 PB 59 [.string (bs p.name), .string (bs p.val)]) := Lib.hid (S2.out.gr (by rw [← hw3.out]; exact (Gr.refl _).drewN _))
          rw [hw3.out]
          have GP : Hid (∀ W, Gr w3 W → Gets W (some ⟨b2, o2, none⟩) k 2 ((ps.take k).flatMap encP)) := Lib.hid (fun W hg => prps_take (H.out.gr RPrp.mono (G3.out.trans hg)) k hk)
          have GR : Hid (∀ W, Gr w3 W → Gets W ra (ps.length - k) 2 ((ps.drop k).flatMap encP)) := Lib.hid (fun W hg => prps_drop (H.out.gr RPrp.mono (G3.out.trans hg)) k pc hc (by rw [hra, if_neg (by omega)]))
          have bh : PB < w3.heap.size := S3.out.has
          clear hra hw3 S1 S2 HG HG2 LO p0' p1' hpb' d0' d1' hh3
          have z0 := (S3.out.alloc (.cells #[] 59)).cell 0 (by simp)
          go_upto_region 8 with (at_builtin; refine wpList_append_gets _ rfl _ _ 55 rfl w3.heap.size 59 j0 (.agg #[.string (bs []), .string (bs [])]) 2 32 Tryz.underlying55 hj hy0 hy1 hy2 rfl (by decide) (.slice (some ⟨w3.heap.size, 0, none⟩) 0 0) 0 [] rfl (World.ownsRow_made w3 #[] 0 (by omega) (by simp) rfl) (some ⟨b2, o2, none⟩) (k) (pc) ((ps.take (k)).flatMap encP) rfl (GP.out _ ((Gr.refl w3).alloc _)) (flatP_one _) (by unfold maxLen; omega) (by omega) (by simp) ?_; intro v5 w5 hown hgrow hloc; obtain ⟨x5, z5, rfl⟩ := owns_slice hown; have O5 := Lib.hid hown; have G5 : Hid (Gr w3 w5) := Lib.hid (((Gr.refl w3).alloc _).grown hgrow (fun k e => by cases e; exact Nat.le_refl _)); clear hown hgrow hloc)
          rw [Nat.zero_add] at O5
          (try rw [Nat.zero_add])
          rw [List.nil_append] at O5
          clear z0
          have S5 := Lib.hid (S3.out.gr G5.out)
          have p0 : w5.cell? ⟨PB, 0, none⟩ = some (.string (bs p.name)) := S5.out.cell 0 (by simp)
          have p1 : w5.cell? ⟨PB, 1, none⟩ = some (.string (bs p.val)) := S5.out.cell 1 (by simp)
          have hpb := has_of_cell p0
          have O6 := Lib.hid (O5.out.alloc (.cells #[.string (bs p.name), .string (bs p.val)] 59))
          have NR := Lib.hid (row_cells (Row.new w5 #[.string (bs p.name), .string (bs p.val)] 59))
          have h5 := G5.out.size
          go_wp2_with (first | (at_builtin; refine wpList_append_own _ rfl _ _ 55 rfl w3.heap.size 59 j0 (.agg #[.string (bs []), .string (bs [])]) 2 32 Tryz.underlying55 hj hy0 hy1 hy2 rfl (by decide) _ (k) ((ps.take (k)).flatMap encP) rfl O6.out ⟨w5.heap.size, 0, none⟩ 1 1 [.string (bs p.name), .string (bs p.val)] rfl rfl NR.out (by intro u hu; simp only [List.mem_cons, List.not_mem_nil, or_false] at hu; rcases hu with q | q <;> subst q <;> rfl) (by unfold maxLen; omega) (by omega) (by simp; omega) ?_; intro v6 w6 hown hgrow hloc; obtain ⟨x6, z6, rfl⟩ := owns_slice hown; have O7 := Lib.hid hown; have G6 : Hid (Gr w3 w6) := Lib.hid ((G5.out.alloc _).grown hgrow (fun k e => (owns_block O5.out k e).1)); have h6 := G6.out.size; clear hown hgrow hloc) | (at_builtin; refine wpList_append_gets _ rfl _ _ 55 rfl w3.heap.size 59 j0 (.agg #[.string (bs []), .string (bs [])]) 2 32 Tryz.underlying55 hj hy0 hy1 hy2 rfl (by decide) _ (k + 1) ((ps.take (k)).flatMap encP ++ encP p) rfl O7.out ra (ps.length - k) (pc - k) ((ps.drop (k)).flatMap encP) rfl (GR.out _ G6.out) (flatP_one _) (by unfold maxLen; omega) (by omega) (by omega) ?_; intro v7 w7 hown hgrow hloc; obtain ⟨x7, z7, rfl⟩ := owns_slice hown; have O8 := Lib.hid hown; have G7 : Hid (Gr w3 w7) := Lib.hid (G6.out.grown hgrow (fun k e => (owns_block O7.out k e).1)); clear hown hgrow hloc))
          rw [HP0.out]
          have EL : (putP ps p).length = k + 1 + (ps.length - k) := by rw [PE.out, List.length_append, List.length_cons, List.length_take, List.length_drop]; omega
          have EF : (putP ps p).flatMap encP = ((ps.take (k)).flatMap encP ++ encP p) ++ (ps.drop (k)).flatMap encP := by rw [PE.out, List.flatMap_append, List.flatMap_cons, List.append_assoc]
          refine ⟨x7, z7, by rw [EL], ?_, G3.out.trans G7.out⟩
          rw [EL, EF, HPB.out]
          exact owns_low O8.out (by omega)
    · obtain rfl : k = ps.length := by omega
      by_cases kc : pc = ps.length
      · subst kc
        go_wp2_with fail
        go_quiet (fail)
        go_wp2_with fail
        obtain ⟨w2, hw2⟩ : ∃ W : World, Hid (wr.drewN nq = W) := ⟨_, Lib.hid rfl⟩
        have GQ : Hid (Gr wr w2) := Lib.hid (by rw [← hw2.out]; exact (Gr.refl _).drewN _)
        rw [hw2.out]
        go_quiet (fail)
        go_upto_region 7 with (fail)
        obtain ⟨w3, hw3⟩ : ∃ W : World, Hid (w2.drewN nq = W) := ⟨_, Lib.hid rfl⟩
        have PE : Hid (putP ps p = ps.take ps.length ++ p :: ps.drop ps.length) := Lib.hid ((putP_at p ps ps.length hk LO.out (fun h => absurd h (by omega))).2 (fun h => absurd h (by omega)))
        have hra := trivial
        have G3 : Hid (Gr w w3) := Lib.hid (by rw [← hw3.out]; exact (GW.out.trans (HG.out.trans GQ.out)).drewN _)
        have S3 : Hid (Row w3 PB 59 [.string (bs p.name), .string (bs p.val)]) := Lib.hid (S1.out.gr (by rw [← hw3.out]; exact GQ.out.drewN _))
        rw [hw3.out]
        have GP : Hid (∀ W, Gr w3 W → Gets W pa ps.length 2 ((ps.take ps.length).flatMap encP)) := Lib.hid (fun W hg => prps_take (H.out.gr RPrp.mono (G3.out.trans hg)) ps.length hk)
        have GR : Hid (∀ W, Gr w3 W → Gets W pa 0 2 ((ps.drop ps.length).flatMap encP)) := Lib.hid (fun W hg => by rw [List.drop_length]; exact ⟨rfl, fun h => absurd rfl h⟩)
        have bh : PB < w3.heap.size := S3.out.has
        clear hra hw3 S1 HG LO p0 p1 hpb
        have z0 := (S3.out.alloc (.cells #[] 59)).cell 0 (by simp)
        go_upto_region 8 with (at_builtin; refine wpList_append_gets _ rfl _ _ 55 rfl w3.heap.size 59 j0 (.agg #[.string (bs []), .string (bs [])]) 2 32 Tryz.underlying55 hj hy0 hy1 hy2 rfl (by decide) (.slice (some ⟨w3.heap.size, 0, none⟩) 0 0) 0 [] rfl (World.ownsRow_made w3 #[] 0 (by omega) (by simp) rfl) pa (ps.length) (ps.length) ((ps.take (ps.length)).flatMap encP) rfl (GP.out _ ((Gr.refl w3).alloc _)) (flatP_one _) (by unfold maxLen; omega) (by omega) (by simp) ?_; intro v5 w5 hown hgrow hloc; obtain ⟨x5, z5, rfl⟩ := owns_slice hown; have O5 := Lib.hid hown; have G5 : Hid (Gr w3 w5) := Lib.hid (((Gr.refl w3).alloc _).grown hgrow (fun k e => by cases e; exact Nat.le_refl _)); clear hown hgrow hloc)
        rw [Nat.zero_add] at O5
        (try rw [Nat.zero_add])
        rw [List.nil_append] at O5
        clear z0
        have S5 := Lib.hid (S3.out.gr G5.out)
        have p0 : w5.cell? ⟨PB, 0, none⟩ = some (.string (bs p.name)) := S5.out.cell 0 (by simp)
        have p1 : w5.cell? ⟨PB, 1, none⟩ = some (.string (bs p.val)) := S5.out.cell 1 (by simp)
        have hpb := has_of_cell p0
        have O6 := Lib.hid (O5.out.alloc (.cells #[.string (bs p.name), .string (bs p.val)] 59))
        have NR := Lib.hid (row_cells (Row.new w5 #[.string (bs p.name), .string (bs p.val)] 59))
        have h5 := G5.out.size
        go_wp2_with (first | (at_builtin; refine wpList_append_own _ rfl _ _ 55 rfl w3.heap.size 59 j0 (.agg #[.string (bs []), .string (bs [])]) 2 32 Tryz.underlying55 hj hy0 hy1 hy2 rfl (by decide) _ (ps.length) ((ps.take (ps.length)).flatMap encP) rfl O6.out ⟨w5.heap.size, 0, none⟩ 1 1 [.string (bs p.name), .string (bs p.val)] rfl rfl NR.out (by intro u hu; simp only [List.mem_cons, List.not_mem_nil, or_false] at hu; rcases hu with q | q <;> subst q <;> rfl) (by unfold maxLen; omega) (by omega) (by simp; omega) ?_; intro v6 w6 hown hgrow hloc; obtain ⟨x6, z6, rfl⟩ := owns_slice hown; have O7 := Lib.hid hown; have G6 : Hid (Gr w3 w6) := Lib.hid ((G5.out.alloc _).grown hgrow (fun k e => (owns_block O5.out k e).1)); have h6 := G6.out.size; clear hown hgrow hloc) | (at_builtin; refine wpList_append_gets _ rfl _ _ 55 rfl w3.heap.size 59 j0 (.agg #[.string (bs []), .string (bs [])]) 2 32 Tryz.underlying55 hj hy0 hy1 hy2 rfl (by decide) _ (ps.length + 1) ((ps.take (ps.length)).flatMap encP ++ encP p) rfl O7.out pa (0) (0) ((ps.drop (ps.length)).flatMap encP) rfl (GR.out _ G6.out) (flatP_one _) (by unfold maxLen; omega) (by omega) (by omega) ?_; intro v7 w7 hown hgrow hloc; obtain ⟨x7, z7, rfl⟩ := owns_slice hown; have O8 := Lib.hid hown; have G7 : Hid (Gr w3 w7) := Lib.hid (G6.out.grown hgrow (fun k e => (owns_block O7.out k e).1)); clear hown hgrow hloc))
        rw [HP0.out]
        have EL : (putP ps p).length = ps.length + 1 + (0) := by rw [PE.out, List.length_append, List.length_cons, List.length_take, List.length_drop]; omega
        have EF : (putP ps p).flatMap encP = ((ps.take (ps.length)).flatMap encP ++ encP p) ++ (ps.drop (ps.length)).flatMap encP := by rw [PE.out, List.flatMap_append, List.flatMap_cons, List.append_assoc]
        refine ⟨x7, z7, by rw [EL], ?_, G3.out.trans G7.out⟩
        rw [EL, EF, HPB.out]
        exact owns_low O8.out (by omega)
      · have kc2 : ps.length < pc := by omega
        go_wp2_with fail
        go_quiet (fail)
        go_wp2_with fail
        obtain ⟨w2, hw2⟩ : ∃ W : World, Hid (wr.drewN nq = W) := ⟨_, Lib.hid rfl⟩
        have GQ : Hid (Gr wr w2) := Lib.hid (by rw [← hw2.out]; exact (Gr.refl _).drewN _)
        rw [hw2.out]
        go_quiet (fail)
        go_upto_region 7 with (fail)
        obtain ⟨w3, hw3⟩ : ∃ W : World, Hid (w2.drewN nq = W) := ⟨_, Lib.hid rfl⟩
        have PE : Hid (putP ps p = ps.take ps.length ++ p :: ps.drop ps.length) := Lib.hid ((putP_at p ps ps.length hk LO.out (fun h => absurd h (by omega))).2 (fun h => absurd h (by omega)))
        obtain ⟨ra, hra⟩ : ∃ ra : Option Addr, ra = pa.map (fun x => x.add (ps.length * 2)) := ⟨_, rfl⟩
        (try rw [← hra])
        have G3 : Hid (Gr w w3) := Lib.hid (by rw [← hw3.out]; exact (GW.out.trans (HG.out.trans GQ.out)).drewN _)
        have S3 : Hid (Row w3 PB 59 [.string (bs p.name), .string (bs p.val)]) := Lib.hid (S1.out.gr (by rw [← hw3.out]; exact GQ.out.drewN _))
        rw [hw3.out]
        have GP : Hid (∀ W, Gr w3 W → Gets W pa ps.length 2 ((ps.take ps.length).flatMap encP)) := Lib.hid (fun W hg => prps_take (H.out.gr RPrp.mono (G3.out.trans hg)) ps.length hk)
        have GR : Hid (∀ W, Gr w3 W → Gets W ra 0 2 ((ps.drop ps.length).flatMap encP)) := Lib.hid (fun W hg => by rw [List.drop_length]; exact ⟨rfl, fun h => absurd rfl h⟩)
        have bh : PB < w3.heap.size := S3.out.has
        clear hra hw3 S1 HG LO p0 p1 hpb
        have z0 := (S3.out.alloc (.cells #[] 59)).cell 0 (by simp)
        go_upto_region 8 with (at_builtin; refine wpList_append_gets _ rfl _ _ 55 rfl w3.heap.size 59 j0 (.agg #[.string (bs []), .string (bs [])]) 2 32 Tryz.underlying55 hj hy0 hy1 hy2 rfl (by decide) (.slice (some ⟨w3.heap.size, 0, none⟩) 0 0) 0 [] rfl (World.ownsRow_made w3 #[] 0 (by omega) (by simp) rfl) pa (ps.length) (pc) ((ps.take (ps.length)).flatMap encP) rfl (GP.out _ ((Gr.refl w3).alloc _)) (flatP_one _) (by unfold maxLen; omega) (by omega) (by simp) ?_; intro v5 w5 hown hgrow hloc; obtain ⟨x5, z5, rfl⟩ := owns_slice hown; have O5 := Lib.hid hown; have G5 : Hid (Gr w3 w5) := Lib.hid (((Gr.refl w3).alloc _).grown hgrow (fun k e => by cases e; exact Nat.le_refl _)); clear hown hgrow hloc)
        rw [Nat.zero_add] at O5
        (try rw [Nat.zero_add])
        rw [List.nil_append] at O5
        clear z0
        have S5 := Lib.hid (S3.out.gr G5.out)
        have p0 : w5.cell? ⟨PB, 0, none⟩ = some (.string (bs p.name)) := S5.out.cell 0 (by simp)
        have p1 : w5.cell? ⟨PB, 1, none⟩ = some (.string (bs p.val)) := S5.out.cell 1 (by simp)
        have hpb := has_of_cell p0
        have O6 := Lib.hid (O5.out.alloc (.cells #[.string (bs p.name), .string (bs p.val)] 59))
        have NR := Lib.hid (row_cells (Row.new w5 #[.string (bs p.name), .string (bs p.val)] 59))
        have h5 := G5.out.size
        go_wp2_with (first | (at_builtin; refine wpList_append_own _ rfl _ _ 55 rfl w3.heap.size 59 j0 (.agg #[.string (bs []), .string (bs [])]) 2 32 Tryz.underlying55 hj hy0 hy1 hy2 rfl (by decide) _ (ps.length) ((ps.take (ps.length)).flatMap encP) rfl O6.out ⟨w5.heap.size, 0, none⟩ 1 1 [.string (bs p.name), .string (bs p.val)] rfl rfl NR.out (by intro u hu; simp only [List.mem_cons, List.not_mem_nil, or_false] at hu; rcases hu with q | q <;> subst q <;> rfl) (by unfold maxLen; omega) (by omega) (by simp; omega) ?_; intro v6 w6 hown hgrow hloc; obtain ⟨x6, z6, rfl⟩ := owns_slice hown; have O7 := Lib.hid hown; have G6 : Hid (Gr w3 w6) := Lib.hid ((G5.out.alloc _).grown hgrow (fun k e => (owns_block O5.out k e).1)); have h6 := G6.out.size; clear hown hgrow hloc) | (at_builtin; refine wpList_append_gets _ rfl _ _ 55 rfl w3.heap.size 59 j0 (.agg #[.string (bs []), .string (bs [])]) 2 32 Tryz.underlying55 hj hy0 hy1 hy2 rfl (by decide) _ (ps.length + 1) ((ps.take (ps.length)).flatMap encP ++ encP p) rfl O7.out ra (0) (pc - ps.length) ((ps.drop (ps.length)).flatMap encP) rfl (GR.out _ G6.out) (flatP_one _) (by unfold maxLen; omega) (by omega) (by omega) ?_; intro v7 w7 hown hgrow hloc; obtain ⟨x7, z7, rfl⟩ := owns_slice hown; have O8 := Lib.hid hown; have G7 : Hid (Gr w3 w7) := Lib.hid (G6.out.grown hgrow (fun k e => (owns_block O7.out k e).1)); clear hown hgrow hloc))
        rw [HP0.out]
        have EL : (putP ps p).length = ps.length + 1 + (0) := by rw [PE.out, List.length_append, List.length_cons, List.length_take, List.length_drop]; omega
        have EF : (putP ps p).flatMap encP = ((ps.take (ps.length)).flatMap encP ++ encP p) ++ (ps.drop (ps.length)).flatMap encP := by rw [PE.out, List.flatMap_append, List.flatMap_cons, List.append_assoc]
        refine ⟨x7, z7, by rw [EL], ?_, G3.out.trans G7.out⟩
        rw [EL, EF, HPB.out]
        exact owns_low O8.out (by omega)
theorem ownP_put {w : World} {base e size n g cap j : Nat} {xs : List Value} (h : w.ownsRow base e size (.slice (some ⟨g, 0, none⟩) n cap) n xs) (hj : j < n * size) (v : Value) : (w.setCell ⟨g, j, none⟩ v).ownsRow base e size (.slice (some ⟨g, 0, none⟩) n cap) n (xs.set j v) := by
  obtain ⟨h0, ⟨e1, _⟩ | ⟨g', cap', cur, e1, hb, hg, hn, hm, hs, ht⟩⟩ := h
  · cases e1
  · simp only [Value.slice.injEq, Option.some.injEq, Addr.mk.injEq, and_true, true_and] at e1
    obtain ⟨rfl, rfl⟩ := e1
    have hr : Row w g e cur.toList := hg
    have hr2 := hr.set j v
    refine ⟨by simpa using h0, .inr ⟨g, cap, (cur.toList.set j v).toArray, rfl, hb, hr2, hn, hm, by simpa using hs, ?_⟩⟩
    rw [← ht]
    simp only []
    rw [List.take_set]
theorem encM_set (ms : List NM) (ps : List Prp) (x : Option Addr) (c : Nat) : ∀ (k : Nat) (h : k < ms.length), (ms.flatMap NM.enc).set (k * 3 + 2) (.slice x ps.length c) = (ms.set k ⟨{ (ms[k]'h).n with props := ps }, x, c⟩).flatMap NM.enc := by
  induction ms with
  | nil => intro k h; simp at h
  | cons t ts ih =>
    intro k h
    cases k with
    | zero => simp [NM.enc]
    | succ k =>
      have := ih k (by simpa using h)
      rw [show (k + 1) * 3 + 2 = (NM.enc t).length + (k * 3 + 2) by rw [NM.enc_len]; omega]
      rw [List.flatMap_cons, List.set_append_right _ _ (by omega), List.set_cons_succ, List.flatMap_cons, List.getElem_cons_succ, ← this]
      simp
theorem TrAt.put {base : Nat} {w : World} {g n vc : Nat} {ms : List NM} (h : TrAt base w (.slice (some ⟨g, 0, none⟩) n vc) ms) {k : Nat} (hk : k < ms.length) {ps : List Prp} {x : Option Addr} {c : Nat}
    (ho : w.ownsRow base 59 2 (.slice x ps.length c) ps.length (ps.flatMap encP)) (hs : SmN { (ms[k]'hk).n with props := ps }) :
    TrAt base (w.setCell ⟨g, k * 3 + 2, none⟩ (.slice x ps.length c)) (.slice (some ⟨g, 0, none⟩) n vc) (ms.set k ⟨{ (ms[k]'hk).n with props := ps }, x, c⟩) := by
  obtain rfl := h.sl.1
  have g1 := grownBy_set w g (k * 3 + 2) (.slice x ps.length c)
  have h1 := ownP_put h.own (j := k * 3 + 2) (by omega) (.slice x ps.length c)
  rw [encM_set ms ps x c k hk] at h1
  refine ⟨by rw [List.length_set]; exact h1, fun m hm => ?_⟩
  rcases List.mem_or_eq_of_mem_set hm with q | q
  · exact (h.nds m q).kept g1 (owns_ne (h.nds m q).own h.own (by decide))
  · subst q
    exact ⟨ho.kept g1 (owns_ne ho h.own (by decide)), hs⟩
theorem map_putN (ms : List NM) (ps : List Prp) (x : Option Addr) (c : Nat) (k : Nat) (h : k < ms.length) : (ms.set k ⟨{ (ms[k]'h).n with props := ps }, x, c⟩).map NM.n = setN (ms.map NM.n) k ps := by
  unfold setN
  rw [List.map_set, nd_get (by rw [List.length_map]; exact h), List.getElem_map]
def Fin7 (wr : World) (g k : Nat) (ps : List Prp) (w : World) : Prop :=
  ∃ (w1 : World) (x : Option Addr) (c : Nat), w = w1.setCell ⟨g, k * 3 + 2, none⟩ (.slice x ps.length c) ∧ Gr wr w1 ∧ w1.ownsRow wr.heap.size 59 2 (.slice x ps.length c) ps.length (ps.flatMap encP)
def set7F (wr : World) (g k : Nat) (B o PB PX n vc cap : Nat) (nm val : St) (pa : Option Addr) (pc : Nat) (ps qs : List Prp) (t29 t30 t31 t32 t33 t34 t35 t36 t37 t38 t39 t40 t41 t42 t43 : Value) (d : Array Bool) (w : World) : Prop :=
  (d.getD 15 false = false → Gr wr w) ∧ (d.getD 0 false = true → t29 = .pointer (some ⟨PX, 0, none⟩)) ∧
  (d.getD 1 false = true → t30 = .slice (some ⟨g, 0, none⟩) n vc) ∧
  (d.getD 2 false = true → t31 = .int .i64 (k : Int)) ∧
  (d.getD 3 false = true → t32 = .pointer (some ⟨PB, 0, none⟩)) ∧
  (d.getD 4 false = true → t33 = .slice (some ⟨B, o, none⟩) n cap) ∧
  (d.getD 5 false = true → t34 = .int .i64 (k : Int)) ∧
  (d.getD 6 false = true → t35 = .pointer (some ⟨B, o + k * 3, none⟩)) ∧
  (d.getD 7 false = true → t36 = .pointer (some ⟨B, o + k * 3 + 2, none⟩)) ∧
  (d.getD 8 false = true → t37 = .slice pa ps.length pc) ∧
  (d.getD 9 false = true → t38 = .string (bs nm)) ∧
  (d.getD 10 false = true → t39 = .string (bs val)) ∧
  (d.getD 11 false = true → t40 = .agg #[.string (bs nm), .string (bs val)]) ∧
  (d.getD 12 false = true → (d.getD 15 false = false → (∃ x c, t41 = .slice x qs.length c ∧ w.ownsRow wr.heap.size 59 2 (.slice x qs.length c) qs.length (qs.flatMap encP)))) ∧
  (d.getD 13 false = true → t42 = .pointer (some ⟨g, k * 3, none⟩)) ∧
  (d.getD 14 false = true → t43 = .pointer (some ⟨g, k * 3 + 2, none⟩)) ∧
  (d.getD 15 false = true → ((∀ j, j < 15 → j ≠ 13 → d.getD j false = true) ∧ Fin7 wr g k qs w))
def set7A (PB PX k : Nat) (nm val : St) (t29 t30 t31 t32 t33 t34 t35 t36 t37 t38 t39 t40 t41 t42 t43 s0 s1 s5 s6 s7 s8 s9 s11 s13 s14 s15 s16 s17 s18 s19 s20 s21 s22 s23 s24 s25 s26 s27 s28 s44 s45 s46 s47 : Value) : Act := { tmps := #[s0, s1, .string (bs nm), .string (bs val), .pointer (some ⟨PB, 0, none⟩), s5, s6, s7, s8, s9, .int .i64 (k : Int), s11, .pointer (some ⟨PX, 0, none⟩), s13, s14, s15, s16, s17, s18, s19, s20, s21, s22, s23, s24, s25, s26, s27, s28, t29, t30, t31, t32, t33, t34, t35, t36, t37, t38, t39, t40, t41, t42, t43, s44, s45, s46, s47], defers := [] }
theorem set7 {Q : Exit → Act → World → Prop} {wr : World} {g k : Nat} {B o PB PX n vc cap : Nat} {nm val : St} {pa : Option Addr} {pc : Nat} {ps qs : List Prp}  {s0 s1 s5 s6 s7 s8 s9 s11 s13 s14 s15 s16 s17 s18 s19 s20 s21 s22 s23 s24 s25 s26 s27 s28 s29 s30 s31 s32 s33 s34 s35 s36 s37 s38 s39 s40 s41 s42 s43 s44 s45 s46 s47 : Value} (hpx : Row wr PX 25 [.slice (some ⟨g, 0, none⟩) n vc]) (hpb : Row wr PB 25 [.slice (some ⟨B, o, none⟩) n cap]) (hk : k < n) (hc : wr.cell? ⟨B, o + k * 3 + 2, none⟩ = some (.slice pa ps.length pc)) (hsl : SlOf 2 RPrp wr pa ps) (hq : qs = putP ps ⟨nm, val⟩) (hb : ps.length ≤ 1000 ∧ (∀ q ∈ ps, q.name.length ≤ 1000 ∧ q.val.length ≤ 100000) ∧ nm.length ≤ 1000 ∧ ps.length ≤ pc) {v0 : Value} (hgc : wr.cell? ⟨g, k * 3 + 2, none⟩ = some v0 ∧ ∀ W, Gr wr W → W.frozen? ⟨g, k * 3 + 2, none⟩ = false)
    (h' : ∀ t29 t30 t31 t32 t33 t34 t35 t36 t37 t38 t39 t40 t41 t42 t43 wx, Fin7 wr g k qs wx → Q .normal (set7A PB PX k nm val t29 t30 t31 t32 t33 t34 t35 t36 t37 t38 t39 t40 t41 t42 t43 s0 s1 s5 s6 s7 s8 s9 s11 s13 s14 s15 s16 s17 s18 s19 s20 s21 s22 s23 s24 s25 s26 s27 s28 s44 s45 s46 s47) wx) :
    (Code.region 7 (regIn 7 Tryz.f31) true).wp Tryz.prog Q { tmps := #[s0, s1, .string (bs nm), .string (bs val), .pointer (some ⟨PB, 0, none⟩), s5, s6, s7, s8, s9, .int .i64 (k : Int), s11, .pointer (some ⟨PX, 0, none⟩), s13, s14, s15, s16, s17, s18, s19, s20, s21, s22, s23, s24, s25, s26, s27, s28, s29, s30, s31, s32, s33, s34, s35, s36, s37, s38, s39, s40, s41, s42, s43, s44, s45, s46, s47], defers := [] } wr := by
  have HPX := PLift.up hpx
  have HPB := PLift.up hpb
  have HK0 := PLift.up hk
  have HC := PLift.up hc
  have HSL := PLift.up hsl
  have HQ := PLift.up hq
  have HB := PLift.up hb
  have HGC := PLift.up hgc
  clear hpx hpb hk hc hsl hq hb hgc
  simp only [regIn, Tryz.f31, regOps, Option.bind_some, Option.getD_some, Nat.beq, cond_true, cond_false]
  refine wp_region_steps (fun done a w => ∃ t29 t30 t31 t32 t33 t34 t35 t36 t37 t38 t39 t40 t41 t42 t43, a = set7A PB PX k nm val t29 t30 t31 t32 t33 t34 t35 t36 t37 t38 t39 t40 t41 t42 t43 s0 s1 s5 s6 s7 s8 s9 s11 s13 s14 s15 s16 s17 s18 s19 s20 s21 s22 s23 s24 s25 s26 s27 s28 s44 s45 s46 s47 ∧ set7F wr g k B o PB PX n vc cap nm val pa pc ps qs t29 t30 t31 t32 t33 t34 t35 t36 t37 t38 t39 t40 t41 t42 t43 done w) (by kernel_rfl) (by kernel_rfl) ?_ ⟨?_, ?_, ?_, ?_, ?_, ?_, ?_, ?_, ?_, ?_, ?_, ?_, ?_, ?_, ?_, ?_, trivial⟩ ?_
  · exact ⟨s29, s30, s31, s32, s33, s34, s35, s36, s37, s38, s39, s40, s41, s42, s43, rfl, fun _ => (Gr.refl _).drew, fun q => absurd q (by decide), fun q => absurd q (by decide), fun q => absurd q (by decide), fun q => absurd q (by decide), fun q => absurd q (by decide), fun q => absurd q (by decide), fun q => absurd q (by decide), fun q => absurd q (by decide), fun q => absurd q (by decide), fun q => absurd q (by decide), fun q => absurd q (by decide), fun q => absurd q (by decide), fun q => absurd q (by decide), fun q => absurd q (by decide), fun q => absurd q (by decide), fun q => absurd q (by decide)⟩
  · rintro done a w hsz hnot hdep ⟨t29, t30, t31, t32, t33, t34, t35, t36, t37, t38, t39, t40, t41, t42, t43, rfl, gw, f0, f1, f2, f3, f4, f5, f6, f7, f8, f9, f10, f11, f12, f13, f14, f15⟩ K hK
    have hn : ¬ done.getD 0 false = true := by rw [getD_both hnot]; decide
    have n15 : done.getD 15 false = false := by
      cases e : done.getD 15 false with
      | false => rfl
      | true => exact absurd ((f15 e).1 0 (by decide) (by decide)) hn
    replace gw := gw n15
    have HK := PLift.up hK
    clear hK 
    simp only [set7A]
    go_simp
    have gg : Gr w w := Gr.refl _
    refine HK.down _ _ ⟨_, _, _, _, _, _, _, _, _, _, _, _, _, _, _, rfl, fun _ => gw, fun _ => rfl, kp f1, kp f2, kp f3, kp f4, kp f5, kp f6, kp f7, kp f8, kp f9, kp f10, kp f11, fun q q2 => f12 (done_old q (by decide)) n15, kp f13, kp f14, fun q => absurd ((f15 (done_old q (by decide))).1 0 (by decide) (by decide)) hn⟩
  · rintro done a w hsz hnot hdep ⟨t29, t30, t31, t32, t33, t34, t35, t36, t37, t38, t39, t40, t41, t42, t43, rfl, gw, f0, f1, f2, f3, f4, f5, f6, f7, f8, f9, f10, f11, f12, f13, f14, f15⟩ K hK
    have hn : ¬ done.getD 1 false = true := by rw [getD_both hnot]; decide
    have d0 := hdep 0 (by kernel_rfl)
    obtain rfl := f0 d0
    have n15 : done.getD 15 false = false := by
      cases e : done.getD 15 false with
      | false => rfl
      | true => exact absurd ((f15 e).1 1 (by decide) (by decide)) hn
    replace gw := gw n15
    have px := HPX.down.gr gw
    have c0 : w.cell? ⟨PX, 0, none⟩ = some (.slice (some ⟨g, 0, none⟩) n vc) := px.cell 0 (by simp)
    have ch := has_of_cell c0
    clear px
    have HK := PLift.up hK
    clear hK d0
    simp only [set7A]
    go_simp
    have gg : Gr w w := Gr.refl _
    refine HK.down _ _ ⟨_, _, _, _, _, _, _, _, _, _, _, _, _, _, _, rfl, fun _ => gw, kp f0, fun _ => rfl, kp f2, kp f3, kp f4, kp f5, kp f6, kp f7, kp f8, kp f9, kp f10, kp f11, fun q q2 => f12 (done_old q (by decide)) n15, kp f13, kp f14, fun q => absurd ((f15 (done_old q (by decide))).1 1 (by decide) (by decide)) hn⟩
  · rintro done a w hsz hnot hdep ⟨t29, t30, t31, t32, t33, t34, t35, t36, t37, t38, t39, t40, t41, t42, t43, rfl, gw, f0, f1, f2, f3, f4, f5, f6, f7, f8, f9, f10, f11, f12, f13, f14, f15⟩ K hK
    have hn : ¬ done.getD 2 false = true := by rw [getD_both hnot]; decide
    have n15 : done.getD 15 false = false := by
      cases e : done.getD 15 false with
      | false => rfl
      | true => exact absurd ((f15 e).1 2 (by decide) (by decide)) hn
    replace gw := gw n15
    have HK := PLift.up hK
    clear hK 
    simp only [set7A]
    go_simp
    have gg : Gr w w := Gr.refl _
    refine HK.down _ _ ⟨_, _, _, _, _, _, _, _, _, _, _, _, _, _, _, rfl, fun _ => gw, kp f0, kp f1, fun _ => rfl, kp f3, kp f4, kp f5, kp f6, kp f7, kp f8, kp f9, kp f10, kp f11, fun q q2 => f12 (done_old q (by decide)) n15, kp f13, kp f14, fun q => absurd ((f15 (done_old q (by decide))).1 2 (by decide) (by decide)) hn⟩
  · rintro done a w hsz hnot hdep ⟨t29, t30, t31, t32, t33, t34, t35, t36, t37, t38, t39, t40, t41, t42, t43, rfl, gw, f0, f1, f2, f3, f4, f5, f6, f7, f8, f9, f10, f11, f12, f13, f14, f15⟩ K hK
    have hn : ¬ done.getD 3 false = true := by rw [getD_both hnot]; decide
    have n15 : done.getD 15 false = false := by
      cases e : done.getD 15 false with
      | false => rfl
      | true => exact absurd ((f15 e).1 3 (by decide) (by decide)) hn
    replace gw := gw n15
    have HK := PLift.up hK
    clear hK 
    simp only [set7A]
    go_simp
    have gg : Gr w w := Gr.refl _
    refine HK.down _ _ ⟨_, _, _, _, _, _, _, _, _, _, _, _, _, _, _, rfl, fun _ => gw, kp f0, kp f1, kp f2, fun _ => rfl, kp f4, kp f5, kp f6, kp f7, kp f8, kp f9, kp f10, kp f11, fun q q2 => f12 (done_old q (by decide)) n15, kp f13, kp f14, fun q => absurd ((f15 (done_old q (by decide))).1 3 (by decide) (by decide)) hn⟩
  · rintro done a w hsz hnot hdep ⟨t29, t30, t31, t32, t33, t34, t35, t36, t37, t38, t39, t40, t41, t42, t43, rfl, gw, f0, f1, f2, f3, f4, f5, f6, f7, f8, f9, f10, f11, f12, f13, f14, f15⟩ K hK
    have hn : ¬ done.getD 4 false = true := by rw [getD_both hnot]; decide
    have d3 := hdep 3 (by kernel_rfl)
    obtain rfl := f3 d3
    have n15 : done.getD 15 false = false := by
      cases e : done.getD 15 false with
      | false => rfl
      | true => exact absurd ((f15 e).1 4 (by decide) (by decide)) hn
    replace gw := gw n15
    have px := HPB.down.gr gw
    have c0 : w.cell? ⟨PB, 0, none⟩ = some (.slice (some ⟨B, o, none⟩) n cap) := px.cell 0 (by simp)
    have ch := has_of_cell c0
    clear px
    have HK := PLift.up hK
    clear hK d3
    simp only [set7A]
    go_simp
    have gg : Gr w w := Gr.refl _
    refine HK.down _ _ ⟨_, _, _, _, _, _, _, _, _, _, _, _, _, _, _, rfl, fun _ => gw, kp f0, kp f1, kp f2, kp f3, fun _ => rfl, kp f5, kp f6, kp f7, kp f8, kp f9, kp f10, kp f11, fun q q2 => f12 (done_old q (by decide)) n15, kp f13, kp f14, fun q => absurd ((f15 (done_old q (by decide))).1 4 (by decide) (by decide)) hn⟩
  · rintro done a w hsz hnot hdep ⟨t29, t30, t31, t32, t33, t34, t35, t36, t37, t38, t39, t40, t41, t42, t43, rfl, gw, f0, f1, f2, f3, f4, f5, f6, f7, f8, f9, f10, f11, f12, f13, f14, f15⟩ K hK
    have hn : ¬ done.getD 5 false = true := by rw [getD_both hnot]; decide
    have n15 : done.getD 15 false = false := by
      cases e : done.getD 15 false with
      | false => rfl
      | true => exact absurd ((f15 e).1 5 (by decide) (by decide)) hn
    replace gw := gw n15
    have HK := PLift.up hK
    clear hK 
    simp only [set7A]
    go_simp
    have gg : Gr w w := Gr.refl _
    refine HK.down _ _ ⟨_, _, _, _, _, _, _, _, _, _, _, _, _, _, _, rfl, fun _ => gw, kp f0, kp f1, kp f2, kp f3, kp f4, fun _ => rfl, kp f6, kp f7, kp f8, kp f9, kp f10, kp f11, fun q q2 => f12 (done_old q (by decide)) n15, kp f13, kp f14, fun q => absurd ((f15 (done_old q (by decide))).1 5 (by decide) (by decide)) hn⟩
  · rintro done a w hsz hnot hdep ⟨t29, t30, t31, t32, t33, t34, t35, t36, t37, t38, t39, t40, t41, t42, t43, rfl, gw, f0, f1, f2, f3, f4, f5, f6, f7, f8, f9, f10, f11, f12, f13, f14, f15⟩ K hK
    have hn : ¬ done.getD 6 false = true := by rw [getD_both hnot]; decide
    have d4 := hdep 4 (by kernel_rfl)
    have d5 := hdep 5 (by kernel_rfl)
    obtain rfl := f4 d4
    obtain rfl := f5 d5
    have n15 : done.getD 15 false = false := by
      cases e : done.getD 15 false with
      | false => rfl
      | true => exact absurd ((f15 e).1 6 (by decide) (by decide)) hn
    replace gw := gw n15
    have k1 := HK0.down
    have k2 : (k : Int) < n := by omega
    have HK := PLift.up hK
    clear hK d4 d5
    simp only [set7A]
    go_simp
    have gg : Gr w w := Gr.refl _
    refine HK.down _ _ ⟨_, _, _, _, _, _, _, _, _, _, _, _, _, _, _, rfl, fun _ => gw, kp f0, kp f1, kp f2, kp f3, kp f4, kp f5, fun _ => rfl, kp f7, kp f8, kp f9, kp f10, kp f11, fun q q2 => f12 (done_old q (by decide)) n15, kp f13, kp f14, fun q => absurd ((f15 (done_old q (by decide))).1 6 (by decide) (by decide)) hn⟩
  · rintro done a w hsz hnot hdep ⟨t29, t30, t31, t32, t33, t34, t35, t36, t37, t38, t39, t40, t41, t42, t43, rfl, gw, f0, f1, f2, f3, f4, f5, f6, f7, f8, f9, f10, f11, f12, f13, f14, f15⟩ K hK
    have hn : ¬ done.getD 7 false = true := by rw [getD_both hnot]; decide
    have d6 := hdep 6 (by kernel_rfl)
    obtain rfl := f6 d6
    have n15 : done.getD 15 false = false := by
      cases e : done.getD 15 false with
      | false => rfl
      | true => exact absurd ((f15 e).1 7 (by decide) (by decide)) hn
    replace gw := gw n15
    have c0 := cell_gr gw HC.down
    have ch := has_of_cell c0
    have HK := PLift.up hK
    clear hK d6
    simp only [set7A]
    go_simp
    have gg : Gr w w := Gr.refl _
    refine HK.down _ _ ⟨_, _, _, _, _, _, _, _, _, _, _, _, _, _, _, rfl, fun _ => gw, kp f0, kp f1, kp f2, kp f3, kp f4, kp f5, kp f6, fun _ => rfl, kp f8, kp f9, kp f10, kp f11, fun q q2 => f12 (done_old q (by decide)) n15, kp f13, kp f14, fun q => absurd ((f15 (done_old q (by decide))).1 7 (by decide) (by decide)) hn⟩
  · rintro done a w hsz hnot hdep ⟨t29, t30, t31, t32, t33, t34, t35, t36, t37, t38, t39, t40, t41, t42, t43, rfl, gw, f0, f1, f2, f3, f4, f5, f6, f7, f8, f9, f10, f11, f12, f13, f14, f15⟩ K hK
    have hn : ¬ done.getD 8 false = true := by rw [getD_both hnot]; decide
    have d7 := hdep 7 (by kernel_rfl)
    obtain rfl := f7 d7
    have n15 : done.getD 15 false = false := by
      cases e : done.getD 15 false with
      | false => rfl
      | true => exact absurd ((f15 e).1 8 (by decide) (by decide)) hn
    replace gw := gw n15
    have c0 := cell_gr gw HC.down
    have ch := has_of_cell c0
    have HK := PLift.up hK
    clear hK d7
    simp only [set7A]
    go_simp
    have gg : Gr w w := Gr.refl _
    refine HK.down _ _ ⟨_, _, _, _, _, _, _, _, _, _, _, _, _, _, _, rfl, fun _ => gw, kp f0, kp f1, kp f2, kp f3, kp f4, kp f5, kp f6, kp f7, fun _ => rfl, kp f9, kp f10, kp f11, fun q q2 => f12 (done_old q (by decide)) n15, kp f13, kp f14, fun q => absurd ((f15 (done_old q (by decide))).1 8 (by decide) (by decide)) hn⟩
  · rintro done a w hsz hnot hdep ⟨t29, t30, t31, t32, t33, t34, t35, t36, t37, t38, t39, t40, t41, t42, t43, rfl, gw, f0, f1, f2, f3, f4, f5, f6, f7, f8, f9, f10, f11, f12, f13, f14, f15⟩ K hK
    have hn : ¬ done.getD 9 false = true := by rw [getD_both hnot]; decide
    have n15 : done.getD 15 false = false := by
      cases e : done.getD 15 false with
      | false => rfl
      | true => exact absurd ((f15 e).1 9 (by decide) (by decide)) hn
    replace gw := gw n15
    have HK := PLift.up hK
    clear hK 
    simp only [set7A]
    go_simp
    have gg : Gr w w := Gr.refl _
    refine HK.down _ _ ⟨_, _, _, _, _, _, _, _, _, _, _, _, _, _, _, rfl, fun _ => gw, kp f0, kp f1, kp f2, kp f3, kp f4, kp f5, kp f6, kp f7, kp f8, fun _ => rfl, kp f10, kp f11, fun q q2 => f12 (done_old q (by decide)) n15, kp f13, kp f14, fun q => absurd ((f15 (done_old q (by decide))).1 9 (by decide) (by decide)) hn⟩
  · rintro done a w hsz hnot hdep ⟨t29, t30, t31, t32, t33, t34, t35, t36, t37, t38, t39, t40, t41, t42, t43, rfl, gw, f0, f1, f2, f3, f4, f5, f6, f7, f8, f9, f10, f11, f12, f13, f14, f15⟩ K hK
    have hn : ¬ done.getD 10 false = true := by rw [getD_both hnot]; decide
    have n15 : done.getD 15 false = false := by
      cases e : done.getD 15 false with
      | false => rfl
      | true => exact absurd ((f15 e).1 10 (by decide) (by decide)) hn
    replace gw := gw n15
    have HK := PLift.up hK
    clear hK 
    simp only [set7A]
    go_simp
    have gg : Gr w w := Gr.refl _
    refine HK.down _ _ ⟨_, _, _, _, _, _, _, _, _, _, _, _, _, _, _, rfl, fun _ => gw, kp f0, kp f1, kp f2, kp f3, kp f4, kp f5, kp f6, kp f7, kp f8, kp f9, fun _ => rfl, kp f11, fun q q2 => f12 (done_old q (by decide)) n15, kp f13, kp f14, fun q => absurd ((f15 (done_old q (by decide))).1 10 (by decide) (by decide)) hn⟩
  · rintro done a w hsz hnot hdep ⟨t29, t30, t31, t32, t33, t34, t35, t36, t37, t38, t39, t40, t41, t42, t43, rfl, gw, f0, f1, f2, f3, f4, f5, f6, f7, f8, f9, f10, f11, f12, f13, f14, f15⟩ K hK
    have hn : ¬ done.getD 11 false = true := by rw [getD_both hnot]; decide
    have d9 := hdep 9 (by kernel_rfl)
    have d10 := hdep 10 (by kernel_rfl)
    obtain rfl := f9 d9
    obtain rfl := f10 d10
    have n15 : done.getD 15 false = false := by
      cases e : done.getD 15 false with
      | false => rfl
      | true => exact absurd ((f15 e).1 11 (by decide) (by decide)) hn
    replace gw := gw n15
    have HK := PLift.up hK
    clear hK d9 d10
    simp only [set7A]
    go_simp
    have gg : Gr w w := Gr.refl _
    refine HK.down _ _ ⟨_, _, _, _, _, _, _, _, _, _, _, _, _, _, _, rfl, fun _ => gw, kp f0, kp f1, kp f2, kp f3, kp f4, kp f5, kp f6, kp f7, kp f8, kp f9, kp f10, fun _ => rfl, fun q q2 => f12 (done_old q (by decide)) n15, kp f13, kp f14, fun q => absurd ((f15 (done_old q (by decide))).1 11 (by decide) (by decide)) hn⟩
  · rintro done a w hsz hnot hdep ⟨t29, t30, t31, t32, t33, t34, t35, t36, t37, t38, t39, t40, t41, t42, t43, rfl, gw, f0, f1, f2, f3, f4, f5, f6, f7, f8, f9, f10, f11, f12, f13, f14, f15⟩ K hK
    have hn : ¬ done.getD 12 false = true := by rw [getD_both hnot]; decide
    have d8 := hdep 8 (by kernel_rfl)
    have d11 := hdep 11 (by kernel_rfl)
    obtain rfl := f8 d8
    obtain rfl := f11 d11
    have n15 : done.getD 15 false = false := by
      cases e : done.getD 15 false with
      | false => rfl
      | true => exact absurd ((f15 e).1 12 (by decide) (by decide)) hn
    replace gw := gw n15
    have GW := PLift.up gw
    have GS := PLift.up gw.size
    have HK := PLift.up hK
    clear hK d8 d11
    simp only [set7A]
    go_simp
    refine (rPut_ok ps ⟨nm, val⟩ pa pc w (HSL.down.gr RPrp.mono GW.down) HB.down.1 HB.down.2.1 HB.down.2.2.1 HB.down.2.2.2).mono ?_
    rintro e w2 ⟨x, c, rfl, ho, hg⟩
    rw [← HQ.down] at ho ⊢
    (try go_simp)
    refine HK.down _ _ ⟨_, _, _, _, _, _, _, _, _, _, _, _, _, _, _, rfl, fun _ => GW.down.trans hg, kp f0, kp f1, kp f2, kp f3, kp f4, kp f5, kp f6, kp f7, kp f8, kp f9, kp f10, kp f11, ?_, kp f13, kp f14, fun q => absurd ((f15 (done_old q (by decide))).1 12 (by decide) (by decide)) hn⟩
    exact fun _ _ => ⟨x, c, rfl, owns_low ho GS.down⟩
  · rintro done a w hsz hnot hdep ⟨t29, t30, t31, t32, t33, t34, t35, t36, t37, t38, t39, t40, t41, t42, t43, rfl, gw, f0, f1, f2, f3, f4, f5, f6, f7, f8, f9, f10, f11, f12, f13, f14, f15⟩ K hK
    have hn : ¬ done.getD 13 false = true := by rw [getD_both hnot]; decide
    have d1 := hdep 1 (by kernel_rfl)
    have d2 := hdep 2 (by kernel_rfl)
    obtain rfl := f1 d1
    obtain rfl := f2 d2
    have k1 := HK0.down
    have k2 : (k : Int) < n := by omega
    have HK := PLift.up hK
    clear hK d1 d2
    simp only [set7A]
    go_simp
    have gg : Gr w w := Gr.refl _
    refine HK.down _ _ ⟨_, _, _, _, _, _, _, _, _, _, _, _, _, _, _, rfl, fun q => gw (by rw [getD_set_ne false (by decide)] at q; exact q), kp f0, kp f1, kp f2, kp f3, kp f4, kp f5, kp f6, kp f7, kp f8, kp f9, kp f10, kp f11, fun q q2 => f12 (done_old q (by decide)) (by rw [getD_set_ne false (by decide)] at q2; exact q2), fun _ => rfl, kp f14, fun q => ⟨fun j hj hne => getD_set_true ((f15 (done_old q (by decide))).1 j hj hne), (f15 (done_old q (by decide))).2⟩⟩
  · rintro done a w hsz hnot hdep ⟨t29, t30, t31, t32, t33, t34, t35, t36, t37, t38, t39, t40, t41, t42, t43, rfl, gw, f0, f1, f2, f3, f4, f5, f6, f7, f8, f9, f10, f11, f12, f13, f14, f15⟩ K hK
    have hn : ¬ done.getD 14 false = true := by rw [getD_both hnot]; decide
    have d13 := hdep 13 (by kernel_rfl)
    obtain rfl := f13 d13
    have n15 : done.getD 15 false = false := by
      cases e : done.getD 15 false with
      | false => rfl
      | true => exact absurd ((f15 e).1 14 (by decide) (by decide)) hn
    replace gw := gw n15
    have c0 := cell_gr gw HGC.down.1
    have ch := has_of_cell c0
    have HK := PLift.up hK
    clear hK d13
    simp only [set7A]
    go_simp
    have gg : Gr w w := Gr.refl _
    refine HK.down _ _ ⟨_, _, _, _, _, _, _, _, _, _, _, _, _, _, _, rfl, fun _ => gw, kp f0, kp f1, kp f2, kp f3, kp f4, kp f5, kp f6, kp f7, kp f8, kp f9, kp f10, kp f11, fun q q2 => f12 (done_old q (by decide)) n15, kp f13, fun _ => rfl, fun q => absurd ((f15 (done_old q (by decide))).1 14 (by decide) (by decide)) hn⟩
  · rintro done a w hsz hnot hdep ⟨t29, t30, t31, t32, t33, t34, t35, t36, t37, t38, t39, t40, t41, t42, t43, rfl, gw, f0, f1, f2, f3, f4, f5, f6, f7, f8, f9, f10, f11, f12, f13, f14, f15⟩ K hK
    have hn : ¬ done.getD 15 false = true := by rw [getD_both hnot]; decide
    have d0 := hdep 0 (by kernel_rfl)
    have d1 := hdep 1 (by kernel_rfl)
    have d2 := hdep 2 (by kernel_rfl)
    have d3 := hdep 3 (by kernel_rfl)
    have d4 := hdep 4 (by kernel_rfl)
    have d5 := hdep 5 (by kernel_rfl)
    have d6 := hdep 6 (by kernel_rfl)
    have d7 := hdep 7 (by kernel_rfl)
    have d8 := hdep 8 (by kernel_rfl)
    have d9 := hdep 9 (by kernel_rfl)
    have d10 := hdep 10 (by kernel_rfl)
    have d11 := hdep 11 (by kernel_rfl)
    have d12 := hdep 12 (by kernel_rfl)
    have d14 := hdep 14 (by kernel_rfl)
    obtain rfl := f0 d0
    obtain rfl := f1 d1
    obtain rfl := f2 d2
    obtain rfl := f3 d3
    obtain rfl := f4 d4
    obtain rfl := f5 d5
    obtain rfl := f6 d6
    obtain rfl := f7 d7
    obtain rfl := f8 d8
    obtain rfl := f9 d9
    obtain rfl := f10 d10
    obtain rfl := f11 d11
    obtain rfl := f14 d14
    have n15 := getD_both hnot
    obtain ⟨x, c, rfl, ho⟩ := f12 d12 n15
    have g1 := gw n15
    have c2 := cell_gr g1 HGC.down.1
    have ch := has_of_cell c2
    have cf := HGC.down.2 w g1
    have FN := PLift.up (show Fin7 wr g k qs (w.setCell ⟨g, k * 3 + 2, none⟩ (.slice x qs.length c)) from ⟨w, x, c, rfl, g1, ho⟩)
    have DD := PLift.up (show ∀ j, j < 15 → j ≠ 13 → done.getD j false = true from by intro j hj hne; match j, hj, hne with | 0, _, _ => exact d0 | 1, _, _ => exact d1 | 2, _, _ => exact d2 | 3, _, _ => exact d3 | 4, _, _ => exact d4 | 5, _, _ => exact d5 | 6, _, _ => exact d6 | 7, _, _ => exact d7 | 8, _, _ => exact d8 | 9, _, _ => exact d9 | 10, _, _ => exact d10 | 11, _, _ => exact d11 | 12, _, _ => exact d12 | 13, _, h => exact absurd rfl h | 14, _, _ => exact d14)
    have HK := PLift.up hK
    clear hK d0 d1 d2 d3 d4 d5 d6 d7 d8 d9 d10 d11 d14
    simp only [set7A]
    go_simp
    refine HK.down _ _ ⟨_, _, _, _, _, _, _, _, _, _, _, _, _, _, _, rfl, fun q => absurd q (by rw [getD_set_same (by rw [hsz]; decide)]; decide), kp f0, kp f1, kp f2, kp f3, kp f4, kp f5, kp f6, kp f7, kp f8, kp f9, kp f10, kp f11, fun _ q2 => absurd q2 (by rw [getD_set_same (by rw [hsz]; decide)]; decide), kp f13, kp f14, ?_⟩
    exact fun _ => ⟨fun j hj hne => getD_set_true (DD.down j hj hne), FN.down⟩
  · rintro done a w hall ⟨t29, t30, t31, t32, t33, t34, t35, t36, t37, t38, t39, t40, t41, t42, t43, rfl, gw, f0, f1, f2, f3, f4, f5, f6, f7, f8, f9, f10, f11, f12, f13, f14, f15⟩
    exact h' _ _ _ _ _ _ _ _ _ _ _ _ _ _ _ w (f15 (hall 15 (by decide))).2
def GivesSet (ts : Tr) (s nm val : St) (w : World) (e : Ending) (w' : World) : Prop :=
  Gr w w' ∧ ((e = .returned (.tuple #[.agg #[.slice none 0 0], .int .i64 4]) ∧ ∀ k, k < ts.length → ¬ PathIs ts k s) ∨
    ∃ (k : Nat) (v : Value) (ms : List NM), k < ts.length ∧ PathIs ts k s ∧ e = .returned (.tuple #[.agg #[v], .int .i64 0]) ∧ TrAt w.heap.size w' v ms ∧ ms.map NM.n = setN ts k (putP (nd ts k).props ⟨nm, val⟩))
theorem rSet_ok (ts : Tr) (a : Option Addr) (cap : Nat) (s nm val : St) (w : World) (h : SlOf 3 RNod w a ts) (hv : VT ts) (hm : nm ∈ namesV) (hval : val.length ≤ 256) :
    Calls Tryz.prog 31 #[.agg #[.slice a ts.length cap], .string (bs s), .string (bs nm), .string (bs val)] w (GivesSet ts s nm val w) := by
  have H := Lib.hid h
  have HV := Lib.hid hv
  have HM := Lib.hid hm
  have l1 := hv.pos
  have l2 := hv.few
  have NOK := List.all_eq_true.1 namesV_ok _ hm
  have xlen : nm.length ≤ 31 := by simp at NOK; exact NOK.2
  have NM1 : propOk nm = true := by simp at NOK; exact NOK.1
  clear h hv hm NOK
  obtain ⟨P0, hP0⟩ : ∃ P : Ending → World → Prop, P = GivesSet ts s nm val w := ⟨_, rfl⟩
  rw [← hP0]
  have HP0 := Lib.hid hP0
  clear hP0
  go_enter Tryz.func31, Tryz.ntmps31
  go_upto_region 1 with (fail)
  have R1 := Lib.hid ((Row.new w #[.slice a ts.length cap] 25).alloc (.cells #[.slice none 0 0] 25))
  have R2 : Hid (Row ((w.alloc (.cells #[.slice a ts.length cap] 25)).alloc (.cells #[.slice none 0 0] 25)) (w.heap.size + 1) 25 [.slice none 0 0]) := Lib.hid (by
    have q := Row.new (w.alloc (.cells #[.slice a ts.length cap] 25)) #[.slice none 0 0] 25
    have e : (w.alloc (.cells #[.slice a ts.length cap] 25)).heap.size = w.heap.size + 1 := by simp
    rw [e] at q; exact q)
  obtain ⟨W, hW⟩ : ∃ W : World, Hid (W = (w.alloc (.cells #[.slice a ts.length cap] 25)).alloc (.cells #[.slice none 0 0] 25)) := ⟨_, Lib.hid rfl⟩
  have GW : Hid (Gr w W) := Lib.hid (by rw [hW.out]; exact ((Gr.refl _).alloc _).alloc _)
  rw [← hW.out] at R1 R2 ⊢
  obtain ⟨PB, hPB⟩ : ∃ N : Nat, Hid (w.heap.size = N) := ⟨_, Lib.hid rfl⟩
  have HPB := Lib.hid hPB.out
  rw [hPB.out] at R1 R2 ⊢
  clear hW hPB
  obtain ⟨P2, hP2⟩ : ∃ N : Nat, Hid (PB + 1 = N) := ⟨_, Lib.hid rfl⟩
  have HP2 := Lib.hid hP2.out
  rw [hP2.out] at R2 ⊢
  clear hP2
  have x0 := R1.out.cell 0 (by simp)
  have hxb := has_of_cell x0
  go_wp2_with fail
  refine (rBegin_ok ts a cap s W (H.out.gr RNod.mono GW.out) HV.out).mono ?_
  rintro e w1 ⟨hg1, hb⟩
  have G1 := Lib.hid (GW.out.trans hg1)
  have S1 := Lib.hid (R1.out.gr hg1)
  have S2 := Lib.hid (R2.out.gr hg1)
  clear hg1 x0 hxb R1 R2 GW
  rcases hb with ⟨rfl, hno⟩ | ⟨k, hk, rfl, hpt⟩
  · have NO := Lib.hid hno
    clear hno
    have z0 := S2.out.cell 0 (by simp)
    have zf := S2.out.free 0
    have hz := has_of_cell z0
    go_wp2_with fail
    have RF := Lib.hid (S2.out.set 0 (.slice none 0 0))
    have GF : Hid (Gr w (w1.setCell ⟨P2, 0, none⟩ (.slice none 0 0))) := Lib.hid (G1.out.setc (by have := HPB.out; have := HP2.out; omega))
    obtain ⟨W3, hW3⟩ : ∃ W : World, Hid (W = w1.setCell ⟨P2, 0, none⟩ (.slice none 0 0)) := ⟨_, Lib.hid rfl⟩
    rw [← hW3.out] at RF GF ⊢
    have e0 : W3.cell? ⟨P2, 0, none⟩ = some (.slice none 0 0) := RF.out.cell 0 (by simp)
    clear hW3
    refine bodyPost_ret (v := .tuple #[.agg #[.slice none 0 0], .int .i64 4]) (by simp [results, Tryz.results31, e0, go_sem]) rfl ?_
    rw [HP0.out]
    exact ⟨GF.out, .inl ⟨rfl, NO.out⟩⟩
  · have PT := Lib.hid hpt
    clear hpt
    have x0 := S1.out.cell 0 (by simp)
    have xf := S1.out.free 0
    have hx := has_of_cell x0
    have k0 : (0 : Int) ≤ k := by omega
    go_wp2_with (go_at_call 77; refine (refProp_ok nm NM1 _).mono ?_; rintro e w' ⟨rfl, rfl⟩)
    refine (copied_tr ts a cap w1 (H.out.gr RNod.mono G1.out) HV.out.sm (by omega)).mono ?_
    rintro e w4 ⟨v4, ms, rfl, htr, hmp, hg4⟩
    obtain ⟨va, vc, hv⟩ := owns_slice htr.own
    subst hv
    have ML0 : ms.length = ts.length := by rw [← hmp, List.length_map]
    rw [ML0] at htr ⊢
    have ML := Lib.hid ML0
    clear ML0
    have G4 := Lib.hid (G1.out.trans hg4)
    have BW : Hid (PB ≤ w1.heap.size ∧ P2 < w1.heap.size ∧ w1.heap.size ≤ w4.heap.size) := Lib.hid (by have h1 := G1.out.size; rw [HPB.out] at h1; exact ⟨h1, S2.out.has, hg4.size⟩)
    have X1 := Lib.hid (S1.out.gr hg4)
    have X2 := Lib.hid (S2.out.gr hg4)
    have TR := Lib.hid (htr.low BW.out.1)
    have MP := Lib.hid hmp
    clear htr hmp hg4 x0 xf hx S1 S2
    go_wp2_with fail
    have BX := Lib.hid (Row.new w4 #[.slice va ts.length vc] 25)
    have Y1 := Lib.hid (X1.out.alloc (.cells #[.slice va ts.length vc] 25))
    have Y2 := Lib.hid (X2.out.alloc (.cells #[.slice va ts.length vc] 25))
    have TA := Lib.hid (TR.out.gr ((Gr.refl w4).alloc (.cells #[.slice va ts.length vc] 25)))
    have GA := Lib.hid (G4.out.alloc (.cells #[.slice va ts.length vc] 25))
    obtain ⟨W5, hW5⟩ : ∃ W : World, Hid (W = w4.alloc (.cells #[.slice va ts.length vc] 25)) := ⟨_, Lib.hid rfl⟩
    rw [← hW5.out] at BX Y1 Y2 TA GA ⊢
    obtain ⟨PX, hPX⟩ : ∃ N : Nat, Hid (w4.heap.size = N) := ⟨_, Lib.hid rfl⟩
    have HPX := Lib.hid hPX.out
    rw [hPX.out] at BX ⊢
    clear hW5 hPX X1 X2 TR G4
    obtain ⟨g, hva, q0, q1, q2⟩ := tr_cells TA.out (k := k) (by have := ML.out; omega)
    subst hva
    have GPX : Hid (g ≠ PX) := Lib.hid (by
      rcases TA.out.ne_ty BX.out.ty (by decide) with q | q
      · cases q
      · exact fun e => q (by rw [e]; rfl))
    have GP2 : Hid (g ≠ P2) := Lib.hid (by
      rcases TA.out.ne_ty Y2.out.ty (by decide) with q | q
      · cases q
      · exact fun e => q (by rw [e]; rfl))
    have GPB : Hid (PB ≤ g) := Lib.hid (owns_block TA.out.own g rfl).1
    obtain ⟨B, o, e1, _, _, pa, pc, c2, hcap, hf, hs⟩ := (H.out.gr RNod.mono GA.out) k hk
    subst e1
    have PP := Lib.hid (HV.out.props hk)
    have NK : Hid (ts[k] = nd ts k) := Lib.hid (nd_get hk).symm
    obtain ⟨ps, hps⟩ : ∃ ps, ts[k].props = ps := ⟨_, rfl⟩
    rw [hps] at c2 hcap hs PP
    have PSE : Hid ((nd ts k).props = ps) := Lib.hid (by rw [← NK.out]; exact hps)
    have pl := PP.out.len
    have FR : Hid (∀ W, Gr W5 W → W.frozen? ⟨g, k * 3 + 2, none⟩ = false) := Lib.hid (fun W hg => by have q := (TA.out.gr hg).own; rw [ML.out] at q; exact q.frozenAt _)
    refine wp_code_eq (c := Code.region 7 (regIn 7 Tryz.f31) true) (by kernel_rfl) (set7 (wr := W5) (g := g) (k := k) (B := B) (o := o) (PB := PB) (PX := PX) (n := ts.length) (vc := vc) (cap := cap) (nm := nm) (val := val) (pa := pa) (pc := pc) (ps := ps) (qs := putP ps ⟨nm, val⟩) BX.out Y1.out hk c2 hs rfl ⟨by omega, fun q hq => ⟨by have := (PP.out.prop q hq).2; omega, by have := (PP.out.mem q hq).2; omega⟩, by omega, hcap⟩ ⟨q2, FR.out⟩ ?_)
    intro t29 t30 t31 t32 t33 t34 t35 t36 t37 t38 t39 t40 t41 t42 t43 wx hfin
    obtain ⟨w6, x6, c6, rfl, hg6, ho6⟩ := hfin
    have PQ := Lib.hid (PV_put PP.out (p := ⟨nm, val⟩) HM.out hval)
    have hkm : k < ms.length := by have := ML.out; omega
    have SK := Lib.hid ((TA.out.nds _ (List.getElem_mem hkm)).sm)
    have T7 := Lib.hid ((TA.out.gr hg6).put hkm (ps := putP ps ⟨nm, val⟩) (owns_low ho6 (by have := GA.out.size; have := HPB.out; omega)) ⟨SK.out.plo, SK.out.phi, SK.out.nam, by have := PQ.out.len; simp only; omega, fun q hq => ⟨by have := (PQ.out.prop q hq).2; omega, by have := (PQ.out.mem q hq).2; omega⟩⟩)
    have MQ : Hid ((ms.set k ⟨{ (ms[k]'hkm).n with props := putP ps ⟨nm, val⟩ }, x6, c6⟩).map NM.n = setN ts k (putP ps ⟨nm, val⟩)) := Lib.hid (by rw [map_putN, MP.out])
    have BX7 := Lib.hid ((BX.out.gr hg6).oth (b := g) (o := k * 3 + 2) (v := .slice x6 (putP ps ⟨nm, val⟩).length c6) GPX.out)
    have Y7 := Lib.hid ((Y2.out.gr hg6).oth (b := g) (o := k * 3 + 2) (v := .slice x6 (putP ps ⟨nm, val⟩).length c6) GP2.out)
    have G7 : Hid (Gr w (w6.setCell ⟨g, k * 3 + 2, none⟩ (.slice x6 (putP ps ⟨nm, val⟩).length c6))) := Lib.hid ((GA.out.trans hg6).setc (by have := GPB.out; have := HPB.out; omega))
    obtain ⟨W7, hW7⟩ : ∃ W : World, Hid (W = w6.setCell ⟨g, k * 3 + 2, none⟩ (.slice x6 (putP ps ⟨nm, val⟩).length c6)) := ⟨_, Lib.hid rfl⟩
    rw [← hW7.out] at T7 BX7 Y7 G7 ⊢
    obtain ⟨m7, hm7⟩ : ∃ m : List NM, m = ms.set k ⟨{ (ms[k]'hkm).n with props := putP ps ⟨nm, val⟩ }, x6, c6⟩ := ⟨_, rfl⟩
    rw [← hm7] at T7 MQ
    have L7 : Hid (m7.length = ts.length) := Lib.hid (by rw [hm7, List.length_set]; exact ML.out)
    have V7 := Lib.hid (VT_set HV.out hk PQ.out)
    have SL7 := Lib.hid T7.out.sl.2
    clear hW7 hg6 ho6 q0 q1 q2 c2 hcap hf hs hps BX Y1 Y2 TA GA hm7
    have L9 : Hid ((setN ts k (putP ps ⟨nm, val⟩)).length = ts.length) := Lib.hid (by rw [← MQ.out, List.length_map]; exact L7.out)
    rw [MQ.out] at SL7
    have b0 : W7.cell? ⟨PX, 0, none⟩ = some (.slice (some ⟨g, 0, none⟩) ts.length vc) := BX7.out.cell 0 (by simp)
    have hb := has_of_cell b0
    unfold set7A
    go_wp2_with fail
    have LK := limits_ok (setN ts k (putP ps ⟨nm, val⟩)) (some ⟨g, 0, none⟩) vc W7 SL7.out V7.out.lim
    rw [L9.out] at LK
    refine LK.mono ?_
    rintro e w8 ⟨rfl, hg8⟩
    have T8 := Lib.hid (T7.out.gr hg8)
    have B8 := Lib.hid (BX7.out.gr hg8)
    have Y8 := Lib.hid (Y7.out.gr hg8)
    have G8 := Lib.hid (G7.out.trans hg8)
    clear hg8 LK T7 BX7 Y7 G7 b0 hb
    have b0 : w8.cell? ⟨PX, 0, none⟩ = some (.slice (some ⟨g, 0, none⟩) ts.length vc) := B8.out.cell 0 (by simp)
    have hb := has_of_cell b0
    have z0 := Y8.out.cell 0 (by simp)
    have zf := Y8.out.free 0
    have hz := has_of_cell z0
    go_wp2_with fail
    have RF := Lib.hid (Y8.out.set 0 (.slice (some ⟨g, 0, none⟩) ts.length vc))
    have TF := Lib.hid (T8.out.box (o := 0) (u := .slice (some ⟨g, 0, none⟩) ts.length vc) Y8.out.ty (by decide) (T8.out.ne_ty Y8.out.ty (by decide)))
    have GF : Hid (Gr w (w8.setCell ⟨P2, 0, none⟩ (.slice (some ⟨g, 0, none⟩) ts.length vc))) := Lib.hid (G8.out.setc (by have := HPB.out; have := HP2.out; omega))
    obtain ⟨W3, hW3⟩ : ∃ W : World, Hid (W = w8.setCell ⟨P2, 0, none⟩ (.slice (some ⟨g, 0, none⟩) ts.length vc)) := ⟨_, Lib.hid rfl⟩
    rw [← hW3.out] at RF TF GF ⊢
    have e0 : W3.cell? ⟨P2, 0, none⟩ = some (.slice (some ⟨g, 0, none⟩) ts.length vc) := RF.out.cell 0 (by simp)
    clear hW3 z0 zf hz b0 hb
    refine bodyPost_ret (v := .tuple #[.agg #[.slice (some ⟨g, 0, none⟩) ts.length vc], .int .i64 0]) (by simp [results, Tryz.results31, e0, go_sem]) rfl ?_
    rw [HP0.out]
    exact ⟨GF.out, .inr ⟨k, _, m7, hk, PT.out, rfl, by rw [HPB.out]; exact TF.out, by rw [PSE.out]; exact MQ.out⟩⟩
end Go.Proofs.YtgembejpiecfcaaGreatDoor

set_option linter.unusedVariables false
namespace Go.Proofs.YtgembejpiecfcaaGreatDoor
end Go.Proofs.YtgembejpiecfcaaGreatDoor
