/- What Parse reads without an error is right, and written again it is the text. SchemaBack: the walk. -/
import Derived.Test.YtadldblpkgackaaGreatDoorUhA
import Derived.Test.YtadldblpkgackaaGreatDoorUdF
import Derived.Test.YtadldblpkgackaaGreatDoorUjE
import Derived.Test.YtadldblpkgackaaGreatDoorUiC
import Derived.Test.YtadldblpkgackaaGreatDoorUlB
import Derived.Test.YtadldblpkgackaaGreatDoorUhB
import Derived.Test.YtadldblpkgackaaGreatDoorUeC
set_option linter.unusedVariables false
set_option linter.unusedSimpArgs false
namespace Go.Proofs.YtadldblpkgackaaGreatDoor
open Go.RowKit

theorem idx_spec {c : UInt8} : ∀ s : St, 0 ≤ Lib.index s [c] → s = s.take (Lib.index s [c]).toNat ++ c :: s.drop ((Lib.index s [c]).toNat + 1)
  | [], h => by simp [Lib.index] at h
  | d :: l, h => by
    rw [Lib.index] at h ⊢
    by_cases hp : List.isPrefixOf [c] (d :: l) = true
    · rw [if_pos hp]
      simp [List.isPrefixOf] at hp
      simp [hp]
    · rw [if_neg hp] at h ⊢
      by_cases hm : (Lib.index l [c] == -1) = true
      · rw [if_pos hm] at h; omega
      · rw [if_neg hm] at h ⊢
        have h0 : 0 ≤ Lib.index l [c] := by
          have : ∀ s : St, -1 ≤ Lib.index s [c] := by
            intro s
            induction s with
            | nil => rw [Lib.index]; split <;> omega
            | cons x y ih => rw [Lib.index]; split; omega; split; omega; omega
          have h1 := this l
          have h2 : Lib.index l [c] ≠ -1 := fun e => hm (by rw [e]; rfl)
          omega
        have ih := idx_spec l h0
        rw [show (Lib.index l [c] + 1).toNat = (Lib.index l [c]).toNat + 1 by omega, List.take_succ_cons, List.drop_succ_cons, List.cons_append, ← ih]
theorem cut_text {t ln rs : St} (h : Lib.cut t [10] = (ln, rs, true)) : t = ln ++ 10 :: rs := by
  unfold Lib.cut at h
  split at h
  · rename_i h0
    have := idx_spec t h0
    injection h with h1 h2
    injection h2 with h2 h3
    rw [← h1, ← h2]
    exact this
  · injection h with h1 h2
    injection h2 with h2 h3
    cases h3
theorem ascN_snoc {l : List St} {x : St} (h : ascN l = true) (hx : ∀ h0 : 0 < l.length, ltS (l[l.length - 1]'(by omega)) x = true) : ascN (l ++ [x]) = true := by
  rw [ascN_iff] at h ⊢
  intro i hi
  rw [List.length_append, List.length_singleton] at hi
  by_cases q : i + 1 < l.length
  · rw [List.getElem_append_left (by omega), List.getElem_append_left q]
    exact h i q
  · have e : i = l.length - 1 := by omega
    subst e
    rw [List.getElem_append_left (by omega), List.getElem_append_right (by omega)]
    simpa using hx (by omega)
/-- Right schemas. -/
structure GdL (l : List Sch) : Prop where
  few : l.length ≤ 24
  ok : ∀ s ∈ l, OkS s
  rls : ∀ s ∈ l, ascN (s.rules.map Rul.name) = true
  asc : ascN (l.map Sch.comp) = true
theorem GdL.chk {l : List Sch} (h : GdL l) : chkSch l = 0 := by
  unfold chkSch
  rw [if_neg, if_neg, if_neg, if_pos h.asc]
  · rw [List.any_eq_true]
    rintro ⟨s, hs, q⟩
    rw [h.rls s hs] at q; cases q
  · rw [List.any_eq_true]
    rintro ⟨s, hs, q⟩
    rw [(h.ok s hs).comp, Bool.not_true, Bool.false_or, List.any_eq_true] at q
    obtain ⟨r, hr, q⟩ := q
    rw [(h.ok s hs).rls r hr] at q; cases q
  · rw [List.any_eq_true]
    rintro (q | ⟨s, hs, q⟩)
    · have := h.few; omega
    · have := (h.ok s hs).few
      simp at q; omega
theorem GdL.nil : GdL [] := ⟨by simp, fun s hs => (List.not_mem_nil hs).elim, fun s hs => (List.not_mem_nil hs).elim, rfl⟩
theorem last_get {l : List Sch} (h : 0 < l.length) : l.getLastD default = l[l.length - 1]'(by omega) := by
  rw [List.getLastD_eq_getLast?, List.getLast?_eq_getElem?, List.getElem?_eq_getElem (by omega)]
  rfl
theorem last_getR {l : List Rul} (h : 0 < l.length) : l.getLastD default = l[l.length - 1]'(by omega) := by
  rw [List.getLastD_eq_getLast?, List.getLast?_eq_getElem?, List.getElem?_eq_getElem (by omega)]
  rfl
theorem last_split {l : List Sch} (h : 0 < l.length) : l = l.dropLast ++ [l.getLastD default] := by
  rw [last_get h]
  conv => lhs; rw [← List.dropLast_concat_getLast (List.length_pos_iff.1 h)]
  rw [List.getLast_eq_getElem]
theorem GdL.head {l : List Sch} {s : Sch} (h : GdL l) (hl : ¬ (0 < l.length ∧ ltS (l.getLastD default).comp s.comp = false)) (h24 : l.length ≠ 24) (hc : visP s.comp = true) (hr : s.rules = []) : GdL (l ++ [s]) := by
  have hm : ∀ x ∈ l ++ [s], x ∈ l ∨ x = s := fun x hx => by simpa using hx
  refine ⟨by have := h.few; simp; omega, fun x hx => ?_, fun x hx => ?_, ?_⟩
  · rcases hm x hx with q | rfl
    · exact h.ok x q
    · exact ⟨hc, by rw [hr]; simp, fun r hr2 => by rw [hr] at hr2; cases hr2⟩
  · rcases hm x hx with q | rfl
    · exact h.rls x q
    · rw [hr]; rfl
  · rw [List.map_append]
    refine ascN_snoc h.asc (fun h0 => ?_)
    rw [List.length_map] at h0
    rw [last_get h0] at hl
    simp only [List.getElem_map, List.length_map]
    cases hz : ltS (l[l.length - 1]'(by omega)).comp s.comp with
    | true => rfl
    | false => exact absurd ⟨h0, hz⟩ hl
theorem GdL.rule {l : List Sch} {r : Rul} (h : GdL l) (h0 : 0 < l.length) (hl : ¬ (0 < (l.getLastD default).rules.length ∧ ltS ((l.getLastD default).rules.getLastD default).name r.name = false)) (h16 : (l.getLastD default).rules.length ≠ 16) (hr : ruleP r = true) :
    GdL (l.dropLast ++ [⟨(l.getLastD default).comp, (l.getLastD default).closed, (l.getLastD default).rules ++ [r]⟩]) := by
  obtain ⟨o, s, e⟩ : ∃ o s, l = o ++ [s] := ⟨_, _, last_split h0⟩
  subst e
  have e1 : (o ++ [s]).getLastD default = s := by rw [List.getLastD_eq_getLast?]; simp
  rw [e1] at hl h16 ⊢
  rw [List.dropLast_concat]
  have hs := h.ok s (by simp)
  refine ⟨by have := h.few; simpa using this, fun x hx => ?_, fun x hx => ?_, ?_⟩
  · rcases (show x ∈ o ∨ x = _ by simpa using hx) with q | q
    · exact h.ok x (List.mem_append_left _ q)
    · subst q
      refine ⟨hs.comp, by have := hs.few; simp; omega, fun y hy => ?_⟩
      rcases (show y ∈ s.rules ∨ y = r by simpa using hy) with q | q
      · exact hs.rls y q
      · rw [q]; exact hr
  · rcases (show x ∈ o ∨ x = _ by simpa using hx) with q | q
    · exact h.rls x (List.mem_append_left _ q)
    · subst q
      rw [List.map_append]
      refine ascN_snoc (h.rls s (by simp)) (fun h1 => ?_)
      rw [List.length_map] at h1
      rw [last_getR h1] at hl
      simp only [List.getElem_map, List.length_map]
      cases hz : ltS (s.rules[s.rules.length - 1]'(by omega)).name r.name with
      | true => rfl
      | false => exact absurd ⟨h1, hz⟩ hl
  · have := h.asc
    rw [List.map_append] at this ⊢
    exact this
theorem headP_ok {line : St} (h : (readHeadP line).2 = true) : headP (readHeadP line).1 = line := by
  unfold readHeadP at h ⊢
  split at h
  · cases h
  · rename_i q
    rw [if_neg q]
    simp only [Bool.and_eq_true, decide_eq_true_eq] at h
    exact h.2
theorem fmt_head (l : List Sch) {s : Sch} (hr : s.rules = []) : fmtP (l ++ [s]) = fmtP l ++ (headP s ++ [10]) := by
  unfold fmtP
  rw [List.flatMap_append, List.flatMap_cons, List.flatMap_nil, List.append_nil]
  unfold fmtS lineS
  rw [hr, List.flatMap_nil, List.append_nil]
theorem fmt_rule {l : List Sch} (h0 : 0 < l.length) (r : Rul) : fmtP (l.dropLast ++ [⟨(l.getLastD default).comp, (l.getLastD default).closed, (l.getLastD default).rules ++ [r]⟩]) = fmtP l ++ lineR r := by
  obtain ⟨o, s, e⟩ : ∃ o s, l = o ++ [s] := ⟨_, _, last_split h0⟩
  subst e
  have e1 : (o ++ [s]).getLastD default = s := by rw [List.getLastD_eq_getLast?]; simp
  rw [e1, List.dropLast_concat]
  unfold fmtP
  rw [List.flatMap_append, List.flatMap_append, List.flatMap_cons, List.flatMap_nil, List.append_nil, List.flatMap_cons, List.flatMap_nil, List.append_nil]
  have e2 : lineS ⟨s.comp, s.closed, s.rules ++ [r]⟩ = lineS s := rfl
  unfold fmtS
  rw [e2, List.flatMap_append, List.flatMap_cons, List.flatMap_nil, List.append_nil, List.append_assoc, List.append_assoc]
theorem parse_ok : ∀ (f : Nat) (text : St) (n : Nat) (out l : List Sch) (k : Int), parseF f text n out = (l, k, 0) → text.length < f → GdL out → GdL l ∧ fmtP l = fmtP out ++ text
  | 0, _, _, _, _, _, _, h, _ => by omega
  | f + 1, text, n, out, l, k, h, hf, hg => by
    by_cases hne : text = []
    · rw [parseF, if_pos hne] at h
      injection h with h1 h2
      subst h1
      rw [hne, List.append_nil]
      exact ⟨hg, rfl⟩
    · have hlt := cut_lt text hne
      obtain ⟨ln, rs, en, hc⟩ : ∃ ln rs en, Lib.cut text [10] = (ln, rs, en) := ⟨_, _, _, rfl⟩
      rw [hc] at hlt
      have hlt2 : rs.length < text.length := hlt
      by_cases hA : en = true ∧ (readHeadP ln).2 = true
      · obtain ⟨rfl, hh⟩ := hA
        obtain ⟨hd, hhd⟩ : ∃ hd, readHeadP ln = (hd, true) := ⟨(readHeadP ln).1, by rw [← hh]⟩
        have k1 := readHead_ok hh
        have k2 := headP_ok hh
        rw [hhd] at k1 k2
        by_cases hl : 0 < out.length ∧ ltS (out.getLastD default).comp hd.comp = false
        · rw [pf_ord hne hc hhd hl] at h
          injection h with h1 h2; injection h2 with h2 h3; cases h3
        · by_cases h24 : out.length = 24
          · rw [pf_lim hne hc hhd hl h24] at h
            injection h with h1 h2; injection h2 with h2 h3; cases h3
          · rw [pf_go hne hc hhd hl h24] at h
            obtain ⟨g1, g2⟩ := parse_ok f rs (n + 1) _ l k h (by omega) (hg.head hl h24 k1.1 k1.2)
            refine ⟨g1, ?_⟩
            rw [g2, fmt_head _ k1.2, cut_text hc]
            have : headP hd = ln := k2
            rw [this]
            simp
      · by_cases hr : en = false ∨ (readRuleP ln).2 = false ∨ out.length = 0
        · rw [pr_syn hne hc hA hr] at h
          injection h with h1 h2; injection h2 with h2 h3; cases h3
        · obtain ⟨he, hr2, ho⟩ : en = true ∧ (readRuleP ln).2 = true ∧ 0 < out.length := by
            refine ⟨?_, ?_, ?_⟩
            · cases en with
              | true => rfl
              | false => exact absurd (.inl rfl) hr
            · cases hz : (readRuleP ln).2 with
              | true => rfl
              | false => exact absurd (.inr (.inl hz)) hr
            · have : out.length ≠ 0 := fun q => hr (.inr (.inr q))
              omega
          subst he
          have hA2 : (readHeadP ln).2 = false := by
            cases hz : (readHeadP ln).2 with
            | false => rfl
            | true => exact absurd ⟨rfl, hz⟩ hA
          obtain ⟨ru, hru⟩ : ∃ ru, readRuleP ln = (ru, true) := ⟨(readRuleP ln).1, by rw [← hr2]⟩
          have k1 := readRule_ok hr2
          rw [hru] at k1
          by_cases hl : 0 < (out.getLastD default).rules.length ∧ ltS ((out.getLastD default).rules.getLastD default).name ru.name = false
          · rw [pr_ord hne hc hA2 hru ho hl] at h
            injection h with h1 h2; injection h2 with h2 h3; cases h3
          · by_cases h16 : (out.getLastD default).rules.length = 16
            · rw [pr_lim hne hc hA2 hru ho hl h16] at h
              injection h with h1 h2; injection h2 with h2 h3; cases h3
            · rw [pr_go hne hc hA2 hru ho hl h16] at h
              obtain ⟨g1, g2⟩ := parse_ok f rs (n + 1) _ l k h (by omega) (hg.rule ho hl h16 k1.1)
              refine ⟨g1, ?_⟩
              rw [g2, fmt_rule ho, cut_text hc]
              have : lineR ru = ln ++ [10] := by
                have := k1.2
                unfold lineR
                rw [← this]; simp
              rw [this]
              simp
/-- What Parse reads. -/
theorem parse_fmt {text : St} {l : List Sch} {k : Int} (h : parseP text = (l, k, 0)) : GdL l ∧ fmtP l = text := by
  unfold parseP at h
  split at h
  · injection h with h1 h2; injection h2 with h2 h3; cases h3
  · have := parse_ok _ _ _ _ _ _ h (by omega) GdL.nil
    simpa [fmtP] using this
theorem GdL.sml {l : List Sch} (h : GdL l) : ∀ s ∈ l, SmlS s := by
  intro s hs
  have ho := h.ok s hs
  have hv := vis_len ho.comp
  refine ⟨by omega, by have := ho.few; omega, fun r hr => ?_⟩
  have hq := ho.rls r hr
  refine ⟨by have := rule_name hq; omega, by have := words_len hq; omega, fun y hy => ?_⟩
  have hw : r.words.all visP = true := by
    unfold ruleP at hq
    simp only [Bool.and_eq_true] at hq
    exact hq.2
  have := vis_len (List.all_eq_true.1 hw y hy)
  omega
end Go.Proofs.YtadldblpkgackaaGreatDoor
set_option linter.unusedVariables false
set_option linter.unusedSimpArgs false
namespace Go.Proofs.YtadldblpkgackaaGreatDoor
open Go.RowKit
open Classical

set_option maxRecDepth 100000 in
set_option maxHeartbeats 16000000 in
theorem back_walk (a : Option Addr) (len cap : Nat) (zs : List Int) (text : ByteArray) (w : World) (h : RowIn w a len cap zs) (hl : Libs w) :
    Calls Tryz.prog 4 #[.slice a len cap, .string text] w (Grows w (.bool true)) := by
  have H := Lib.hid h
  have L := Lib.hid hl
  clear h hl
  obtain ⟨tx, htx⟩ : ∃ tx : St, text = bs tx := ⟨text.data.toList, by cases text; rfl⟩
  subst htx
  go_enter Tryz.func4, Tryz.ntmps4
  go_wp2_with fail
  refine (newTape_any w a len cap zs H.out).mono ?_
  rintro e w1 ⟨b, n0, rfl, ht, hg, hb, _⟩
  have TP := Lib.hid (show Tp w1 b n0 from ⟨0, ht⟩)
  have G1 := Lib.hid hg
  have BW := Lib.hid hb
  clear ht hg hb
  go_wp2_with fail
  refine (schemas_any w1 b n0 TP.out).mono ?_
  rintro e w2 ⟨v, out, rfl, hoa, hsub, hgo, hmv⟩
  obtain ⟨va, vc, rfl⟩ := owns_slice hoa.own
  have G2 : Hid (Gr w w2) := Lib.hid (hmv.out G1.out BW.out)
  have TP2 := Lib.hid (hmv.tp TP.out)
  obtain ⟨l, hL⟩ : ∃ l, out.map SM.sch = l := ⟨_, rfl⟩
  have LEN : Hid (out.length = l.length) := Lib.hid (by rw [← hL, List.length_map])
  have SUB : Hid ((l.map Sch.comp).Sublist compsL) := Lib.hid (by rw [← hL, comp_sch]; exact hsub)
  have GD : Hid (∀ s ∈ l, GoodD s) := Lib.hid (fun s hs => by
    rw [← hL] at hs
    obtain ⟨m, hm, rfl⟩ := List.mem_map.1 hs
    exact good_data (hgo m hm) (hoa.rls m hm))
  have SL : Hid (SlOf 3 RSch w2 va l) := Lib.hid (by rw [← hL]; exact hoa.sl.2)
  have L4 : Hid (l.length ≤ 4) := Lib.hid (by have := SUB.out.length_le; rw [List.length_map] at this; exact this)
  rw [LEN.out]
  clear hoa hsub hgo hmv hL
  have l4 := L4.out
  have SA := Lib.hid (good_sml SUB.out GD.out)
  have CA := Lib.hid (good_chk SUB.out GD.out)
  have FB := Lib.hid (fmt_le2 l4 (chk_zero CA.out).2 (fun s hm => (GD.out s hm).few))
  have PB := Lib.hid (parse_back SUB.out GD.out)
  go_wp2_with fail
  have Q1 : Calls Tryz.prog 15 #[.slice va l.length vc] w2 (Grows w2 (.tuple #[.string (bs (fmtP l)), .int .i64 0])) := by
    have q := format_any l va vc w2 SL.out (by omega) SA.out (L.out.gr G2.out)
    rw [CA.out, if_pos rfl] at q
    exact q
  refine Q1.mono ?_
  clear Q1
  rintro e w3 ⟨rfl, hg3⟩
  have TP3 := Lib.hid (TP2.out.gr hg3)
  have SL3 := Lib.hid (SL.out.gr RSch.mono hg3)
  have G3 := Lib.hid (G2.out.trans hg3)
  clear hg3 SL TP2
  obtain ⟨X, hX⟩ : ∃ X, fmtP l = X := ⟨_, rfl⟩
  rw [hX] at PB FB ⊢
  go_wp2_with fail
  refine (parse_any X w3 (L.out.gr G3.out)).mono ?_
  rw [PB.out]
  rintro e w4 ⟨hg4, v4, out4, rfl, hoa4, hm4⟩
  have hm5 : out4.map SM.sch = l := hm4
  obtain ⟨va4, vc4, rfl⟩ := owns_slice hoa4.own
  have SQ4 : Hid (SlOf 3 RSch w4 va4 l) := Lib.hid (by rw [← hm5]; exact hoa4.sl.2)
  have LEN4 : out4.length = l.length := by rw [← hm5, List.length_map]
  rw [LEN4]
  have TP4 := Lib.hid (TP3.out.gr hg4)
  have SL4 := Lib.hid (SL3.out.gr RSch.mono hg4)
  have G4 := Lib.hid (G3.out.trans hg4)
  clear hg4 hoa4 hm4 hm5 LEN4 SL3 TP3
  have SQ := Lib.hid (Same_any l l va va4 vc vc4 w4 SL4.out SQ4.out (by omega) (by omega) (fun s hs => ⟨(SA.out s hs).2.1, fun r hr => ((SA.out s hs).2.2 r hr).2.1⟩) (fun s hs => ⟨(SA.out s hs).2.1, fun r hr => ((SA.out s hs).2.2 r hr).2.1⟩))
  rw [decide_eq_true (rfl : l = l)] at SQ
  go_wp2_with fail
  refine SQ.out.mono ?_
  clear SQ
  rintro e w5 ⟨rfl, hg5⟩
  have G5 := Lib.hid (G4.out.trans hg5)
  have TP5 := Lib.hid (TP4.out.gr hg5)
  clear hg5 TP4 SL4 SQ4
  go_wp2_with fail
  obtain ⟨p5, tp5⟩ := TP5.out
  refine (spoil_any w5 b n0 p5 (bs X) (by rw [bs_size]; have := FB.out; omega) tp5).mono ?_
  rintro e w6 ⟨s6, p6, rfl, _, q0, q1, hg6⟩
  have G6 : Hid (Gr w w6) := Lib.hid ((show Mv b n0 w5 w6 from ⟨p6, q0, q1, hg6⟩).out G5.out BW.out)
  clear hg6 q0 q1 tp5 TP5
  obtain ⟨sx, hsx⟩ : ∃ sx : St, s6 = bs sx := ⟨s6.data.toList, by cases s6; rfl⟩
  subst hsx
  go_wp2_with fail
  have RN0 : Hid (Row (w6.alloc (.cells #[.string (bs tx), .string (bs sx)] 9)) w6.heap.size 9 (strV [tx, sx])) := Lib.hid (Row.new w6 #[.string (bs tx), .string (bs sx)] 9)
  obtain ⟨W7, hW7⟩ : ∃ W : World, Hid (W = w6.alloc (.cells #[.string (bs tx), .string (bs sx)] 9)) := ⟨_, Lib.hid rfl⟩
  have G67 : Hid (Gr w6 W7) := Lib.hid (by rw [hW7.out]; exact (Gr.refl _).alloc _)
  rw [← hW7.out] at RN0 ⊢
  obtain ⟨NR, hNR⟩ : ∃ N : Nat, Hid (w6.heap.size = N) := ⟨_, Lib.hid rfl⟩
  rw [hNR.out] at RN0 ⊢
  have G7 := Lib.hid (G6.out.trans G67.out)
  clear hW7 hNR PB FB SUB GD SA CA
  go_loopw [52] (fun i wr => ∃ k : Nat, k ≤ 2 ∧ i = .int .i64 k ∧ Gr W7 wr) (fun i _ => 2 - (intOf i).toNat)
  case atStart => exact ⟨0, by omega, rfl, Gr.refl _⟩
  case round =>
    obtain ⟨k, hk, rfl, hg⟩ := hrel
    have HG := Lib.hid hg
    have rn := RN0.out.gr hg
    clear hg
    by_cases hlt : k < 2
    · have hkc : k < [tx, sx].length := hlt
      have c0 := rn.cell k (by simpa [strV] using hkc)
      rw [strV_get hkc] at c0
      obtain ⟨y, hy⟩ : ∃ y, [tx, sx][k] = y := ⟨_, rfl⟩
      rw [hy] at c0
      have hh := has_of_cell c0
      have k5 : (k : Int) < 2 := by omega
      clear hy hkc rn
      go_wp2_with fail
      refine (parse_any y wr (L.out.gr (G7.out.trans HG.out))).mono ?_
      rintro e w8 ⟨hg8, v8, o8, rfl, hoa8, hm8⟩
      obtain ⟨va8, vc8, rfl⟩ := owns_slice hoa8.own
      have PF := Lib.hid (fun hz : (parseP y).2.2 = 0 => parse_fmt (show parseP y = ((parseP y).1, (parseP y).2.1, 0) by rw [← hz]))
      have SL8 : Hid (SlOf 3 RSch w8 va8 (parseP y).1) := Lib.hid (by rw [← hm8]; exact hoa8.sl.2)
      have LEN8 : o8.length = (parseP y).1.length := by rw [← hm8, List.length_map]
      have HG8 := Lib.hid (HG.out.trans hg8)
      rw [LEN8]
      clear hoa8 hm8 hg8 LEN8 c0 hh HG
      obtain ⟨er, her⟩ : ∃ er, (parseP y).2.2 = er := ⟨_, rfl⟩
      obtain ⟨pn, hpn⟩ : ∃ pn, (parseP y).2.1 = pn := ⟨_, rfl⟩
      obtain ⟨m, hm⟩ : ∃ m, (parseP y).1 = m := ⟨_, rfl⟩
      rw [her, hm] at PF
      rw [hm] at SL8
      rw [her, hpn, hm]
      clear her hpn hm
      by_cases he : er = 0
      · subst he
        obtain ⟨hgd, hfm⟩ := PF.out rfl
        have GM := Lib.hid hgd
        have FM := Lib.hid hfm
        clear PF hgd hfm
        go_wp2_with fail
        have Q1 : Calls Tryz.prog 15 #[.slice va8 m.length vc8] w8 (Grows w8 (.tuple #[.string (bs y), .int .i64 0])) := by
          have q := format_any m va8 vc8 w8 SL8.out (by have := GM.out.few; omega) GM.out.sml (L.out.gr (G7.out.trans HG8.out))
          rw [GM.out.chk, if_pos rfl, FM.out] at q
          exact q
        refine Q1.mono ?_
        clear Q1
        rintro e w9 ⟨rfl, hg9⟩
        have HG9 := Lib.hid (HG8.out.trans hg9)
        clear hg9 SL8
        go_wp2_with fail
        go_roundw
        case rel => exact ⟨k + 1, by omega, by go_num, HG9.out⟩
        case measure => simp [intOf]; omega
      · clear PF SL8
        go_wp2_with fail
        go_roundw
        case rel => exact ⟨k + 1, by omega, by go_num, HG8.out⟩
        case measure => simp [intOf]; omega
    · obtain rfl : k = 2 := by omega
      go_wp2_with fail
      refine (awake09_any _ (L.out.gr (G7.out.trans HG.out))).mono ?_
      rintro e w9 ⟨rfl, hg9⟩
      have G9 := Lib.hid ((G7.out.trans HG.out).trans hg9)
      clear hg9
      go_wp2_with fail
      go_ret
      exact ⟨rfl, G9.out⟩
end Go.Proofs.YtadldblpkgackaaGreatDoor
