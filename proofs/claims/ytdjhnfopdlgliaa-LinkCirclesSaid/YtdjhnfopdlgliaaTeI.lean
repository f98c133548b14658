/- tree.property (a binary search) and tree.Value. -/
import Derived.Test.YtdjhnfopdlgliaaTeH
import Derived.Test.YtdjhnfopdlgliaaTeB
set_option linter.unusedVariables false
set_option linter.unusedSimpArgs false
namespace Go.Proofs.Ytdjhnfopdlgliaa
open Go.RowKit
open Classical

theorem lt_irr : ∀ a : St, Op.bytesLess a a = false
  | [] => rfl
  | a :: x => by simp [Op.bytesLess, lt_irr x]
theorem lt_trans : ∀ {a b c : St}, Op.bytesLess a b = true → Op.bytesLess b c = true → Op.bytesLess a c = true
  | [], [], _, h, _ => by simp [Op.bytesLess] at h
  | _ :: _, [], _, h, _ => by simp [Op.bytesLess] at h
  | _, _ :: _, [], _, h => by simp [Op.bytesLess] at h
  | [], _ :: _, _ :: _, _, _ => rfl
  | a :: x, b :: y, c :: z, h, k => by
    simp only [Op.bytesLess, Bool.or_eq_true, decide_eq_true_eq, Bool.and_eq_true, beq_iff_eq] at h k ⊢
    rcases h with h | ⟨rfl, h⟩
    · rcases k with k | ⟨rfl, k⟩
      · exact .inl (UInt8.lt_trans h k)
      · exact .inl h
    · rcases k with k | ⟨rfl, k⟩
      · exact .inl k
      · exact .inr ⟨rfl, lt_trans h k⟩
theorem lt_tot : ∀ (a b : St), Op.bytesLess a b = true ∨ a = b ∨ Op.bytesLess b a = true
  | [], [] => .inr (.inl rfl)
  | [], _ :: _ => .inl rfl
  | _ :: _, [] => .inr (.inr rfl)
  | a :: x, b :: y => by
    simp only [Op.bytesLess, Bool.or_eq_true, decide_eq_true_eq, Bool.and_eq_true, beq_iff_eq, List.cons.injEq]
    rcases Nat.lt_trichotomy a.toNat b.toNat with h | h | h
    · exact .inl (.inl (UInt8.lt_iff_toNat_lt.2 h))
    · have e : a = b := UInt8.toNat_inj.1 h
      subst e
      rcases lt_tot x y with q | q | q
      · exact .inl (.inr ⟨rfl, q⟩)
      · exact .inr (.inl ⟨rfl, q⟩)
      · exact .inr (.inr (.inr ⟨rfl, q⟩))
    · exact .inr (.inr (.inl (UInt8.lt_iff_toNat_lt.2 h)))
theorem lt_ne {a b : St} (h : Op.bytesLess a b = true) : a ≠ b := by rintro rfl; rw [lt_irr] at h; cases h
theorem lt_not {a b : St} (h : Op.bytesLess a b = true) : Op.bytesLess b a = false := by
  rw [← Bool.not_eq_true]; intro k; have := lt_trans h k; rw [lt_irr] at this; cases this
def cmpS (a b : St) : Int := if Op.bytesLess a b = true then -1 else if a = b then 0 else 1
theorem isNaNS_any (a : St) (w : World) : Calls Try.prog 64 #[.string (bs a)] w fun e w' => e = .returned (.bool false) ∧ w = w' := by
  go_enter Try.func64, Try.ntmps64
  go_wp2_with fail
  go_ret
  exact ⟨ret_bool (by simp), rfl⟩
theorem cmpS_any (a b : St) (w : World) : Calls Try.prog 46 #[.string (bs a), .string (bs b)] w fun e w' => e = .returned (.int .i64 (cmpS a b)) ∧ w = w' := by
  rcases lt_tot a b with h | h | h
  · have h2 : cmpS a b = -1 := by simp [cmpS, h]
    have H2 := Lib.hid h2
    clear h2
    go_enter Try.func46, Try.ntmps46
    go_wp2_with (go_at_call 64; refine (isNaNS_any _ _).mono ?_; rintro e w' ⟨rfl, rfl⟩)
    go_ret
    exact ⟨ret_int H2.out.symm, rfl⟩
  · subst h
    have h1 := lt_irr a
    have H2 := Lib.hid (show cmpS a a = 0 by simp [cmpS, h1])
    go_enter Try.func46, Try.ntmps46
    go_wp2_with (go_at_call 64; refine (isNaNS_any _ _).mono ?_; rintro e w' ⟨rfl, rfl⟩)
    go_ret
    exact ⟨ret_int H2.out.symm, rfl⟩
  · have h1 := lt_not h
    have h3 : (a == b) = false := by rw [beq_eq_false_iff_ne]; exact fun e => lt_ne h e.symm
    have H2 := Lib.hid (show cmpS a b = 1 by rw [cmpS, if_neg (by simp [h1]), if_neg (fun e => lt_ne h e.symm)])
    clear h
    go_enter Try.func46, Try.ntmps46
    go_wp2_with (go_at_call 64; refine (isNaNS_any _ _).mono ?_; rintro e w' ⟨rfl, rfl⟩)
    go_ret
    exact ⟨ret_int H2.out.symm, rfl⟩
theorem prop1_any (n v s : St) (w : World) :
    Calls Try.prog 45 #[.agg #[.string (bs n), .string (bs v)], .string (bs s)] w (Grows w (.int .i64 (cmpS n s))) := by
  go_enter Try.func45, Try.ntmps45
  go_wp2_with (go_at_call 46; refine (cmpS_any _ _ _).mono ?_; rintro e w' ⟨rfl, rfl⟩)
  go_ret
  exact ⟨rfl, (Gr.refl _).alloc _⟩
theorem asc_lt {ps : List Prp} (h : ascP ps = true) : ∀ {j k : Nat} (hjk : j < k) (hk : k < ps.length), Op.bytesLess ps[j].name ps[k].name = true := by
  intro j k hjk
  induction hjk with
  | refl => intro hk; exact asc_iff.1 h j hk
  | @step m hm ih => intro hk; exact lt_trans (ih (by omega)) (asc_iff.1 h m hk)
/-- Where a name is, or would be. -/
structure Lower (ps : List Prp) (s : St) (i : Nat) : Prop where
  le : i ≤ ps.length
  low : ∀ j (h : j < ps.length), j < i → Op.bytesLess ps[j].name s = true
  high : ∀ j (h : j < ps.length), i ≤ j → Op.bytesLess ps[j].name s = false
set_option maxRecDepth 100000 in
set_option maxHeartbeats 4000000 in
theorem binProp_any (ps : List Prp) (a : Option Addr) (cap : Nat) (s : St) (w : World) (h : SlOf 2 RPrp w a ps) (hf : ps.length ≤ 1000000) (ha : ascP ps = true) :
    Calls Try.prog 44 #[.slice a ps.length cap, .string (bs s), .func (.func 45) #[] #[]] w fun e w' =>
      ∃ i : Nat, e = .returned (.tuple #[.int .i64 i, .bool (decide (∃ h : i < ps.length, ps[i].name = s))]) ∧ Lower ps s i ∧ Gr w w' := by
  have H := Lib.hid h
  have HA := Lib.hid ha
  clear h ha
  go_enter Try.func44, Try.ntmps44
  go_wp2_with fail
  go_loopw [9, 10] (fun x y wr => ∃ i j : Nat, x = .int .i64 i ∧ y = .int .i64 j ∧ i ≤ j ∧ j ≤ ps.length ∧ (∀ q (h : q < ps.length), q < i → Op.bytesLess ps[q].name s = true) ∧ (∀ q (h : q < ps.length), j ≤ q → Op.bytesLess ps[q].name s = false) ∧ Gr w wr) (fun x y _ => (intOf y - intOf x).toNat)
  case atStart => exact ⟨0, ps.length, rfl, rfl, by omega, by omega, fun q h k => by omega, fun q h k => by omega, Gr.refl _⟩
  case round =>
    obtain ⟨i, j, rfl, rfl, hij, hj, hlo, hhi, hg⟩ := hrel
    have HLO := Lib.hid hlo
    have HHI := Lib.hid hhi
    have HG := Lib.hid hg
    clear hlo hhi hg
    by_cases hlt : i < j
    · have hm1 : i ≤ (i + j) / 2 ∧ (i + j) / 2 < j := by omega
      have hml : (i + j) / 2 < ps.length := by omega
      obtain ⟨b, o, rfl, c0, c1, l0, l1⟩ := prps_at (H.out.gr RPrp.mono HG.out) ((i + j) / 2) hml
      obtain ⟨p, hp⟩ : ∃ p, p = ps[(i + j) / 2] := ⟨_, rfl⟩
      have HP := Lib.hid hp
      rw [← hp] at c0 c1 l0 l1
      clear hp
      have hh := has_of_cell c0
      by_cases hv : Op.bytesLess p.name s = true
      · have hc : decide (cmpS p.name s < 0) = true := by rw [cmpS, if_pos hv]; rfl
        have V := Lib.hid hv
        clear hv
        go_wp2_with (go_at_call 45; refine (prop1_any _ _ _ _).mono ?_; rintro e w' ⟨rfl, O, d, rfl⟩)
        go_roundw
        case rel =>
          refine ⟨(i + j) / 2 + 1, j, by simp, rfl, by omega, hj, fun q hq hqi => ?_, HHI.out, HG.out.xt _ _⟩
          by_cases e : q = (i + j) / 2
          · subst e; rw [← HP.out]; exact V.out
          · exact lt_trans (asc_lt HA.out (show q < (i + j) / 2 by omega) hml) (by rw [← HP.out]; exact V.out)
        case measure => simp [intOf]; omega
      · have hc : decide (cmpS p.name s < 0) = false := by rw [cmpS, if_neg hv]; split <;> rfl
        rw [Bool.not_eq_true] at hv
        have V := Lib.hid hv
        clear hv
        go_wp2_with (go_at_call 45; refine (prop1_any _ _ _ _).mono ?_; rintro e w' ⟨rfl, O, d, rfl⟩)
        go_roundw
        case rel =>
          refine ⟨i, (i + j) / 2, rfl, by simp, by omega, by omega, HLO.out, fun q hq hqi => ?_, HG.out.xt _ _⟩
          by_cases e : q = (i + j) / 2
          · subst e; rw [← HP.out]; exact V.out
          · rw [← Bool.not_eq_true]
            intro hx
            have := lt_trans (asc_lt HA.out (show (i + j) / 2 < q by omega) hq) hx
            rw [← HP.out, V.out] at this
            cases this
        case measure => simp [intOf]; omega
    · obtain rfl : i = j := by omega
      have LW : Hid (Lower ps s i) := Lib.hid ⟨hj, HLO.out, HHI.out⟩
      clear hlt
      by_cases hil : i < ps.length
      · obtain ⟨b, o, rfl, c0, c1, l0, l1⟩ := prps_at (H.out.gr RPrp.mono HG.out) i hil
        obtain ⟨p, hp⟩ : ∃ p, p = ps[i] := ⟨_, rfl⟩
        have HP := Lib.hid hp
        rw [← hp] at c0 c1 l0 l1
        clear hp
        have hh := has_of_cell c0
        have D : Hid (decide (∃ h : i < ps.length, ps[i].name = s) = (cmpS p.name s == 0)) := Lib.hid (by
          have h2 := HHI.out i hil (Nat.le_refl _)
          rw [← HP.out] at h2
          rw [cmpS, if_neg (by simp [h2])]
          by_cases e : p.name = s
          · rw [if_pos e, decide_eq_true (by exact ⟨hil, by rw [← HP.out]; exact e⟩)]; rfl
          · rw [if_neg e, decide_eq_false (by rintro ⟨_, q⟩; exact e (by rw [HP.out]; exact q))]; rfl)
        have hd : decide (i < ps.length) = true := by simp [hil]
        go_wp2_with (go_at_call 45; refine (prop1_any _ _ _ _).mono ?_; rintro e w' ⟨rfl, O, d, rfl⟩)
        refine bodyPost_ret (v := .tuple #[.int .i64 i, .bool (cmpS p.name s == 0)]) (by simp [results, Try.results44, go_sem]) rfl ?_
        exact ⟨i, by rw [D.out], LW.out, HG.out.xt _ _⟩
      · have D : Hid (decide (∃ h : i < ps.length, ps[i].name = s) = false) := Lib.hid (decide_eq_false (by rintro ⟨h, _⟩; exact hil h))
        have hd : decide (i < ps.length) = false := by simp [hil]
        clear hil
        go_wp2_with fail
        refine bodyPost_ret (v := .tuple #[.int .i64 i, .bool false]) (by simp [results, Try.results44, go_sem]) rfl ?_
        exact ⟨i, by rw [D.out], LW.out, HG.out⟩
theorem Lower.find {ps : List Prp} {s : St} {i : Nat} (h : Lower ps s i) (ha : ascP ps = true) : valP ps s = if h2 : i < ps.length then (if ps[i].name = s then some ps[i].val else none) else none := by
  unfold valP
  by_cases hi : i < ps.length
  · rw [dif_pos hi]
    by_cases e : ps[i].name = s
    · rw [if_pos e]
      have : ps.find? (fun p => p.name == s) = some ps[i] := List.find?_eq_some_iff_getElem.2 ⟨by simpa using e, i, hi, rfl, fun j hj => by have := lt_ne (h.low j (by omega) hj); simpa using this⟩
      rw [this]; rfl
    · rw [if_neg e]
      have : ps.find? (fun p => p.name == s) = none := by
        rw [List.find?_eq_none]
        intro x hx
        obtain ⟨j, hj, rfl⟩ := List.getElem_of_mem hx
        have hs : Op.bytesLess s ps[i].name = true := by
          rcases lt_tot s ps[i].name with q | q | q
          · exact q
          · exact absurd q.symm e
          · rw [h.high i hi (Nat.le_refl _)] at q; cases q
        by_cases h1 : j < i
        · simpa using lt_ne (h.low j hj h1)
        · by_cases h2 : j = i
          · subst h2; simpa using e
          · have := lt_ne (lt_trans hs (asc_lt ha (show i < j by omega) hj))
            simpa using fun q => this q.symm
      rw [this]; rfl
  · rw [dif_neg hi]
    have : ps.find? (fun p => p.name == s) = none := by
      rw [List.find?_eq_none]
      intro x hx
      obtain ⟨j, hj, rfl⟩ := List.getElem_of_mem hx
      simpa using lt_ne (h.low j hj (by have := h.le; omega))
    rw [this]; rfl
theorem property_any (n : Nod) (a : Option Addr) (cap : Nat) (s : St) (w : World) (h : SlOf 2 RPrp w a n.props) (hf : n.props.length ≤ 1000000) (ha : ascP n.props = true) :
    Calls Try.prog 34 #[.agg #[.int .i64 n.parent, .string (bs n.name), .slice a n.props.length cap], .string (bs s)] w fun e w' =>
      ∃ i : Nat, e = .returned (.tuple #[.int .i64 i, .bool (decide (∃ h : i < n.props.length, n.props[i].name = s))]) ∧ Lower n.props s i ∧ Gr w w' := by
  have H := Lib.hid h
  clear h
  go_enter Try.func34, Try.ntmps34
  go_wp2_with fail
  refine (binProp_any n.props a cap s _ (H.out.gr RPrp.mono ((Gr.refl _).alloc _)) hf ha).mono ?_
  rintro e w' ⟨i, rfl, hl, O, d, rfl⟩
  have HL := Lib.hid hl
  clear hl
  go_wp2_with fail
  refine bodyPost_ret (v := .tuple #[.int .i64 i, .bool (decide (∃ h : i < n.props.length, n.props[i].name = s))]) (by simp [results, Try.results34, go_sem]) rfl ?_
  exact ⟨i, rfl, HL.out, ((Gr.refl _).alloc _).xt _ _⟩
/-! What a tree without an error is. -/
structure GoodT (ts : Tr) : Prop where
  len : 0 < ts.length ∧ ts.length ≤ 120
  big : ∀ j (h : j < ts.length), ts[j].props.length ≤ 24 ∧ ∀ p ∈ ts[j].props, p.val.length ≤ 256
  named : namedT ts = true
  walk : (walkN ts ts.length).isSome = true
  dup : dupT ts = false
  deep : ∀ j, j < ts.length → dep ts j ≤ 8
theorem good_of {ts : Tr} (h : chkT ts = 0) : GoodT ts := by
  by_cases h1 : ts.length = 0 ∨ 120 < ts.length
  · rw [chkT_len h1] at h; cases h
  · by_cases h2 : ts.any bigN = true
    · rw [chkT_big h1 h2] at h; cases h
    · rw [Bool.not_eq_true] at h2
      rw [chkT_rest h1 h2] at h
      by_cases h3 : namedT ts = true
      · rw [if_neg (by simp [h3])] at h
        by_cases h4 : (walkN ts ts.length).isNone = true
        · rw [if_pos h4] at h; cases h
        · rw [if_neg h4] at h
          by_cases h5 : dupT ts = true
          · rw [if_pos h5] at h; cases h
          · rw [if_neg h5] at h
            by_cases h6 : (List.range ts.length).any (fun i => decide (8 < depN ts i (i : Int))) = true
            · rw [if_pos h6] at h; cases h
            · refine ⟨by omega, fun j hj => ?_, h3, ?_, by simpa using h5, fun j hj => ?_⟩
              · have := List.any_eq_false.1 h2 ts[j] (List.getElem_mem hj)
                simp only [bigN, Bool.or_eq_true, decide_eq_true_eq, List.any_eq_true, not_or, not_exists, not_and] at this
                exact ⟨by omega, fun p hp => by have := this.2 p hp; omega⟩
              · cases hz : walkN ts ts.length with
                | none => rw [hz] at h4; exact absurd rfl h4
                | some x => rfl
              · rw [Bool.not_eq_true, List.any_eq_false] at h6
                have := h6 j (List.mem_range.2 hj)
                simp only [decide_eq_true_eq, Nat.not_lt] at this
                exact this
      · rw [if_pos (by simpa using h3)] at h; cases h
theorem walk_asc {ts : Tr} (h : (walkN ts ts.length).isSome = true) {i : Nat} (hi : i < ts.length) : ascP ts[i].props = true := by
  cases hz : walkN ts i with
  | none => rw [walkN_none (by omega) hz] at h; cases h
  | some last =>
    cases hq : ascP ts[i].props with
    | true => rfl
    | false =>
      have := walkN_asc hi hz hq
      rw [walkN_none (by omega) this] at h; cases h
theorem GoodT.asc {ts : Tr} (h : GoodT ts) {i : Nat} (hi : i < ts.length) : ascP ts[i].props = true := walk_asc h.walk hi
set_option maxRecDepth 100000 in
set_option maxHeartbeats 4000000 in
theorem treeValue_any (ts : Tr) (a : Option Addr) (cap i : Nat) (s : St) (w : World) (h : SlOf 3 RNod w a ts) (hc : chkT ts = 0) (hi : i < ts.length) :
    Calls Try.prog 18 #[.agg #[.slice a ts.length cap], .int .i64 i, .string (bs s)] w
      (Grows w (.tuple #[.string (bs ((valP ts[i].props s).getD [])), .bool (valP ts[i].props s).isSome])) := by
  have H := Lib.hid h
  have G := Lib.hid (good_of hc)
  have h120 := (good_of hc).len.2
  clear h
  go_enter Try.func18, Try.ntmps18
  go_wp2_with fail
  have RB := Lib.hid (Row.new w #[.slice a ts.length cap] 32)
  obtain ⟨W1, hW1⟩ : ∃ W : World, Hid (W = w.alloc (.cells #[.slice a ts.length cap] 32)) := ⟨_, Lib.hid rfl⟩
  rw [← hW1.out] at RB ⊢
  have G1 : Hid (Gr w W1) := Lib.hid (by rw [hW1.out]; exact (Gr.refl _).alloc _)
  obtain ⟨P0, hP0⟩ : ∃ N : Nat, Hid (w.heap.size = N) := ⟨_, Lib.hid rfl⟩
  rw [hP0.out] at RB ⊢
  clear hW1
  refine (treeCheck_any ts a cap W1 (H.out.gr RNod.mono G1.out) (by unfold Fit; omega)).mono ?_
  rintro e w1 ⟨rfl, hg1⟩
  rw [hc]
  have G2 := Lib.hid (G1.out.trans hg1)
  have b0 : w1.cell? ⟨P0, 0, none⟩ = some (.slice a ts.length cap) := (RB.out.gr hg1).cell 0 (by simp)
  clear hg1 G1 RB hc
  obtain ⟨b, o, pa, pc, rfl, c0, c1, c2, hps, hpf, hw, hnl⟩ := nods_at (H.out.gr RNod.mono G2.out) i hi
  have HPS := Lib.hid hps
  have ha := G.out.asc hi
  have hb := (G.out.big i hi).1
  obtain ⟨n, hn⟩ : ∃ n, n = ts[i] := ⟨_, rfl⟩
  have HN := Lib.hid hn
  rw [← hn] at c0 c1 c2 hw hnl HPS ha hb
  clear hn hps hpf
  have hh := has_of_cell b0
  have hh2 := has_of_cell c0
  have k1 : decide ((i : Int) < 0) = false := by simp
  have k2 : decide ((ts.length : Int) ≤ (i : Int)) = false := by simp; omega
  have k3 : decide (ts.length ≤ i) = false := by simp; omega
  go_wp2_with fail
  refine (property_any n pa pc s w1 HPS.out (by omega) ha).mono ?_
  rintro e w2 ⟨k, rfl, hl, hg2⟩
  have HL := Lib.hid hl
  have G3 := Lib.hid (G2.out.trans hg2)
  have F := Lib.hid (hl.find ha)
  obtain ⟨O, d, rfl⟩ := hg2
  clear hl
  by_cases hk : k < n.props.length
  · obtain ⟨b2, o2, rfl, d0, d1, l0, l1⟩ := prps_at HPS.out k hk
    have hh3 := has_of_cell d0
    by_cases he : n.props[k].name = s
    · have D : decide (∃ h : k < n.props.length, n.props[k].name = s) = true := decide_eq_true ⟨hk, he⟩
      have F2 : Hid (valP n.props s = some n.props[k].val) := Lib.hid (by rw [F.out, dif_pos hk, if_pos he])
      clear he
      rw [D]
      go_wp2_with fail
      refine bodyPost_ret (v := .tuple #[.string (bs n.props[k].val), .bool true]) (by simp [results, Try.results18, go_sem]) rfl ?_
      exact ⟨by rw [← HN.out, F2.out]; rfl, G3.out⟩
    · have D : decide (∃ h : k < n.props.length, n.props[k].name = s) = false := decide_eq_false (by rintro ⟨_, q⟩; exact he q)
      have F2 : Hid (valP n.props s = none) := Lib.hid (by rw [F.out, dif_pos hk, if_neg he])
      clear he
      rw [D]
      go_wp2_with fail
      refine bodyPost_ret (v := .tuple #[.string (bs []), .bool false]) (by simp [results, Try.results18, go_sem]; rfl) rfl ?_
      exact ⟨by rw [← HN.out, F2.out]; rfl, G3.out⟩
  · have D : decide (∃ h : k < n.props.length, n.props[k].name = s) = false := decide_eq_false (by rintro ⟨q, _⟩; exact hk q)
    have F2 : Hid (valP n.props s = none) := Lib.hid (by rw [F.out, dif_neg hk])
    rw [D]
    go_wp2_with fail
    refine bodyPost_ret (v := .tuple #[.string (bs []), .bool false]) (by simp [results, Try.results18, go_sem]; rfl) rfl ?_
    exact ⟨by rw [← HN.out, F2.out]; rfl, G3.out⟩
end Go.Proofs.Ytdjhnfopdlgliaa
