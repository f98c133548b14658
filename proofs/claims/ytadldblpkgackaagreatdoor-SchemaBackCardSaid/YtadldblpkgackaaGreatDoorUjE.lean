/- Splitting a join at spaces; cutting numbers. Numbers read back; the words of a rule read back. A rule's line read back. A schema's line read back; the text of schemas read back. The text of schemas read back. -/
import Derived.Test.YtadldblpkgackaaGreatDoorUiA
import Derived.Test.YtadldblpkgackaaGreatDoorUdF
set_option linter.unusedVariables false
set_option linter.unusedSimpArgs false
namespace Go.Proofs.YtadldblpkgackaaGreatDoor
open Go.RowKit

theorem idx_no {c : UInt8} : ∀ s : St, c ∉ s → Lib.index s [c] = -1
  | [], _ => rfl
  | d :: l, h => by
    have h1 : d ≠ c := fun e => h (by rw [e]; simp)
    have h2 : c ∉ l := fun q => h (List.mem_cons_of_mem _ q)
    have h3 : List.isPrefixOf [c] (d :: l) = false := by
      simp [List.isPrefixOf]
      exact fun e => h1 e.symm
    rw [Lib.index, if_neg (by rw [h3]; decide), idx_no l h2]
    rfl
theorem idx_at {c : UInt8} : ∀ (s t : St), c ∉ s → Lib.index (s ++ c :: t) [c] = s.length
  | [], t, _ => by simp [Lib.index, List.isPrefixOf]
  | d :: l, t, h => by
    have h1 : d ≠ c := fun e => h (by rw [e]; simp)
    have h2 : c ∉ l := fun q => h (List.mem_cons_of_mem _ q)
    have h3 : List.isPrefixOf [c] (d :: (l ++ c :: t)) = false := by
      simp [List.isPrefixOf]
      exact fun e => h1 e.symm
    rw [List.cons_append, Lib.index, if_neg (by rw [h3]; decide), idx_at l t h2]
    have : ((l.length : Int) == -1) = false := by rw [beq_eq_false_iff_ne]; omega
    rw [this]
    simp
theorem join_two (a b : St) (l : List St) : Lib.join (a :: b :: l) [32] = a ++ 32 :: Lib.join (b :: l) [32] := by
  unfold Lib.join
  simp [List.intercalate, List.intersperse]
theorem splitK_join : ∀ (ws : List St) (k : Nat), ws ≠ [] → (∀ s ∈ ws, (32 : UInt8) ∉ s) → ws.length ≤ k + 1 → Lib.splitK [32] 0 k (Lib.join ws [32]) = ws
  | [], _, h, _, _ => absurd rfl h
  | [a], k, _, h, _ => by
    rw [Lib.join_one]
    have h1 := idx_no a (h a (by simp))
    cases k with
    | zero => rfl
    | succ k => rw [Lib.splitK, if_pos (by rw [h1]; decide)]
  | a :: b :: l, k, _, h, hk => by
    obtain ⟨k, rfl⟩ : ∃ k2, k = k2 + 1 := ⟨k - 1, by simp at hk; omega⟩
    have h1 := idx_at a (Lib.join (b :: l) [32]) (h a (by simp))
    have h2 : ((a.length : Int) == -1) = false := by rw [beq_eq_false_iff_ne]; omega
    rw [join_two, Lib.splitK, h1, if_neg (by rw [h2]; decide), Int.toNat_natCast, Nat.add_zero]
    rw [List.take_left, List.length_singleton]
    have e : (a ++ 32 :: Lib.join (b :: l) [32]).drop (a.length + 1) = Lib.join (b :: l) [32] := by
      rw [List.drop_append]
      simp
    rw [e, splitK_join (b :: l) k (by simp) (fun s hs => h s (List.mem_cons_of_mem _ hs)) (by simp at hk ⊢; omega)]
theorem count_join : ∀ (ws : List St) (f : Nat), (∀ s ∈ ws, (32 : UInt8) ∉ s) → ws.length ≤ f → ws.length ≤ Lib.countFrom [32] f (Lib.join ws [32]) + 1
  | [], _, _, _ => by simp
  | [a], _, _, _ => by simp
  | a :: b :: l, f, h, hf => by
    obtain ⟨f, rfl⟩ : ∃ f2, f = f2 + 1 := ⟨f - 1, by simp at hf; omega⟩
    have h1 := idx_at a (Lib.join (b :: l) [32]) (h a (by simp))
    have h2 : ((a.length : Int) == -1) = false := by rw [beq_eq_false_iff_ne]; omega
    have e : (a ++ 32 :: Lib.join (b :: l) [32]).drop (a.length + 1) = Lib.join (b :: l) [32] := by
      rw [List.drop_append]
      simp
    rw [join_two, Lib.countFrom, h1, if_neg (by rw [h2]; decide), Int.toNat_natCast, List.length_singleton, e]
    have := count_join (b :: l) f (fun s hs => h s (List.mem_cons_of_mem _ hs)) (by simp at hf ⊢; omega)
    simp only [List.length_cons] at this ⊢
    omega
theorem join_len : ∀ ws : List St, ws.length ≤ (Lib.join ws [32]).length + 1
  | [] => by simp
  | [a] => by simp
  | a :: b :: l => by
    have := join_len (b :: l)
    rw [join_two, List.length_append, List.length_cons]
    simp only [List.length_cons] at this ⊢
    omega
theorem split_join {ws : List St} (h0 : ws ≠ []) (h : ∀ s ∈ ws, (32 : UInt8) ∉ s) : Lib.split (Lib.join ws [32]) [32] = ws := by
  unfold Lib.split Lib.count
  exact splitK_join ws _ h0 h (count_join ws _ h (join_len ws))
end Go.Proofs.YtadldblpkgackaaGreatDoor
set_option linter.unusedVariables false
set_option linter.unusedSimpArgs false
namespace Go.Proofs.YtadldblpkgackaaGreatDoor
open Go.RowKit

theorem pu_app : ∀ (a b : St) (acc v : Nat), Lib.parseUint10 acc a = .ok v → Lib.parseUint10 acc (a ++ b) = Lib.parseUint10 v b
  | [], b, acc, v, h => by
    simp only [Lib.parseUint10] at h
    injection h with h
    rw [h]; rfl
  | c :: r, b, acc, v, h => by
    simp only [Lib.parseUint10, List.cons_append] at h ⊢
    split at h
    · rename_i h1
      rw [if_pos h1]
      split at h
      · cases h
      · rename_i h2
        rw [if_neg h2]
        split at h
        · cases h
        · rename_i h3
          rw [if_neg h3]
          exact pu_app r b _ v h
    · cases h
theorem dig_nat : ∀ d, d < 10 → (UInt8.ofNat (48 + d)).toNat = 48 + d := by decide
theorem pu_digits (u : Nat) : u < 18446744073709551616 → Lib.parseUint10 0 (Lib.decDigits u) = .ok u := by
  induction u using Nat.strongRecOn with
  | _ u ih =>
    intro hu
    unfold Lib.decDigits
    split
    · rename_i h
      have e := dig_nat u h
      simp only [Lib.parseUint10, e]
      rw [if_pos (by omega), if_neg (by omega), if_neg (by omega)]
      congr 1
      omega
    · rename_i h
      have h1 := ih (u / 10) (by omega) (by omega)
      rw [pu_app _ _ _ _ h1]
      have e := dig_nat (u % 10) (by omega)
      simp only [Lib.parseUint10, e]
      rw [if_pos (by omega), if_neg (by omega), if_neg (by omega)]
      congr 1
      omega
theorem digits_cons (u : Nat) : ∃ c r, Lib.decDigits u = c :: r ∧ 48 ≤ c.toNat := by
  induction u using Nat.strongRecOn with
  | _ u ih =>
    unfold Lib.decDigits
    split
    · rename_i h
      exact ⟨_, [], rfl, by rw [dig_nat u h]; omega⟩
    · obtain ⟨c, r, e, h⟩ := ih (u / 10) (by omega)
      rw [e]
      exact ⟨c, _, rfl, h⟩
theorem numV_itoa {n : Int} (h0 : 0 ≤ n) (h1 : n ≤ 4294967295) : numV (Lib.itoa n) = n := by
  obtain ⟨u, rfl⟩ := Int.eq_ofNat_of_zero_le h0
  have e : Lib.itoa (u : Int) = Lib.decDigits u := by unfold Lib.itoa; rw [if_neg (by omega)]; simp
  have hp := pu_digits u (by omega)
  obtain ⟨c, r, ec, hc⟩ := digits_cons u
  have ha : Lib.atoiAll (Lib.itoa (u : Int)) = .ok (u : Int) := by
    rw [e, ec, Lib.atoiAll]
    rw [if_neg (by omega : ¬ (c.toNat = 43 ∨ c.toNat = 45))]
    unfold Lib.parseMag
    rw [if_neg (by simp), ← ec, hp]
    simp only
    rw [if_neg (by omega), if_neg (by omega), if_neg (by omega)]
  unfold numV
  rw [ha]
end Go.Proofs.YtadldblpkgackaaGreatDoor
set_option linter.unusedVariables false
set_option linter.unusedSimpArgs false
namespace Go.Proofs.YtadldblpkgackaaGreatDoor
open Go.RowKit

theorem dot_digits (u : Nat) : (46 : UInt8) ∉ Lib.decDigits u := by
  have key : ∀ d, d < 10 → UInt8.ofNat (48 + d) ≠ 46 := by decide
  induction u using Nat.strongRecOn with
  | _ u ih =>
    unfold Lib.decDigits
    split
    · rename_i h
      intro hc
      exact key u h (List.mem_singleton.1 hc).symm
    · intro hc
      rcases List.mem_append.1 hc with q | q
      · exact ih (u / 10) (by omega) q
      · exact key (u % 10) (by omega) (List.mem_singleton.1 q).symm
theorem idx_two {c : UInt8} : ∀ (s t : St), c ∉ s → Lib.index (s ++ c :: c :: t) [c, c] = s.length
  | [], t, _ => by simp [Lib.index, List.isPrefixOf]
  | d :: l, t, h => by
    have h1 : d ≠ c := fun e => h (by rw [e]; simp)
    have h2 : c ∉ l := fun q => h (List.mem_cons_of_mem _ q)
    have h3 : List.isPrefixOf [c, c] (d :: (l ++ c :: c :: t)) = false := by
      simp only [List.isPrefixOf, Bool.and_eq_false_iff]
      left
      rw [beq_eq_false_iff_ne]
      exact fun e => h1 e.symm
    rw [List.cons_append, Lib.index, if_neg (by rw [h3]; decide), idx_two l t h2]
    have : ((l.length : Int) == -1) = false := by rw [beq_eq_false_iff_ne]; omega
    rw [this]
    simp
theorem cut_range {a : St} (b : St) (h : (46 : UInt8) ∉ a) : Lib.cut (a ++ ([46, 46] ++ b)) [46, 46] = (a, b, true) := by
  have e := idx_two a b h
  have e2 : a ++ ([46, 46] ++ b) = a ++ 46 :: 46 :: b := rfl
  unfold Lib.cut
  rw [e2, e, if_pos (by omega), Int.toNat_natCast]
  have e3 : (a ++ 46 :: 46 :: b).drop (a.length + ([46, 46] : St).length) = b := by
    rw [List.drop_append]; simp
  rw [List.take_left, e3]
theorem trim_x (s : St) : Lib.trimPrefix (120 :: s) [120] = s := by
  unfold Lib.trimPrefix Lib.hasPrefix
  rw [if_pos (by simp [List.isPrefixOf])]
  rfl
def restP (r : Rul) : List St := (if r.kind = 3 then [Lib.itoa r.low ++ ([46, 46] ++ Lib.itoa r.high)] else []) ++ (if r.count = 0 then [] else [120 :: Lib.itoa r.count]) ++ r.words
theorem words_eq (r : Rul) : wordsP r = r.name :: ((if r.req = true then [reqS] else []) ++ (kindsS.getD r.kind.toNat [] :: restP r)) := by
  unfold wordsP restP
  split <;> simp
theorem words_none {r : Rul} (h : ruleP r = true) (hk : r.kind ≠ 4) : r.words = [] := by
  unfold ruleP at h
  rw [if_neg hk] at h
  simp at h
  exact h.1.2
theorem cnt_none {r : Rul} (h : ruleP r = true) (hk : cntd r.kind = false) : r.count = 0 := by
  unfold ruleP at h
  rw [hk] at h
  simp at h
  exact h.1.1.2
theorem lo_none {r : Rul} (h : ruleP r = true) (hk : r.kind ≠ 3) : r.low = 0 ∧ r.high = 0 := by
  unfold ruleP at h
  rw [if_neg hk] at h
  simp at h
  omega
theorem rul_eta (r : Rul) : (⟨r.name, r.req, r.kind, r.low, r.high, r.count, r.words⟩ : Rul) = r := by cases r; rfl
theorem cnt_back {r : Rul} (h : ruleP r = true) : (match (if r.count = 0 then ([] : List St) else [120 :: Lib.itoa r.count]) with | [] => (0 : Int) | y :: _ => numV (Lib.trimPrefix y [120])) = r.count := by
  have hc := count_range h
  by_cases q : r.count = 0
  · rw [if_pos q]; exact q.symm
  · rw [if_neg q]
    simp only
    rw [trim_x, numV_itoa hc.1 (by omega)]
theorem ruleW_back {r : Rul} (h : ruleP r = true) : ruleW r.name r.req r.kind (restP r) = r := by
  have hcb := cnt_back h
  by_cases k3 : r.kind = 3
  · have hw := words_none h (by omega)
    obtain ⟨l0, l1, h0, h1⟩ := cells_range h k3
    unfold ruleW restP
    rw [if_pos k3, if_pos k3, hw, List.append_nil, List.singleton_append]
    simp only
    have hd : (46 : UInt8) ∉ Lib.itoa r.low := by
      unfold Lib.itoa
      rw [if_neg (by omega)]
      exact dot_digits _
    rw [cut_range _ hd]
    simp only
    rw [numV_itoa l0 l1, numV_itoa h0 h1]
    refine (congrArg (fun z => (⟨r.name, r.req, r.kind, r.low, r.high, z, []⟩ : Rul)) hcb).trans ?_
    conv => rhs; rw [← rul_eta r, hw]
  · by_cases k4 : r.kind = 4
    · have hc := cnt_none h (by rw [k4]; decide)
      obtain ⟨e1, e2⟩ := lo_none h k3
      unfold ruleW restP
      rw [if_neg k3, if_pos k4, if_neg k3, if_pos hc]
      conv => rhs; rw [← rul_eta r, e1, e2, hc]
      rfl
    · have hw := words_none h k4
      obtain ⟨e1, e2⟩ := lo_none h k3
      unfold ruleW restP
      rw [if_neg k3, if_neg k4, if_neg k3, hw, List.append_nil, List.nil_append]
      refine (congrArg (fun z => (⟨r.name, r.req, r.kind, 0, 0, z, []⟩ : Rul)) hcb).trans ?_
      conv => rhs; rw [← rul_eta r, e1, e2, hw]
theorem kind_back : ∀ k : Nat, 1 ≤ k → k ≤ 6 → kindsS.getD k [] ≠ [] ∧ kindsS.getD k [] ≠ reqS ∧ idxS (kindsS.getD k []) 0 kindsS = k := by
  intro k h1 h2
  have : k = 1 ∨ k = 2 ∨ k = 3 ∨ k = 4 ∨ k = 5 ∨ k = 6 := by omega
  rcases this with rfl | rfl | rfl | rfl | rfl | rfl <;> refine ⟨by decide, by decide, by decide⟩
theorem readRule_back {r : Rul} (h : ruleP r = true) : readRuleP (9 :: Lib.join (wordsP r) [32]) = (r, true) := by
  have hs : Lib.split (Lib.trimPrefix (9 :: Lib.join (wordsP r) [32]) [9]) [32] = wordsP r := by
    have e : Lib.trimPrefix (9 :: Lib.join (wordsP r) [32]) [9] = Lib.join (wordsP r) [32] := by
      unfold Lib.trimPrefix Lib.hasPrefix
      rw [if_pos (by simp [List.isPrefixOf])]
      rfl
    rw [e]
    exact split_join (by rw [words_eq]; simp) (fun s hs q => (sep_words h s hs 32 q).2 rfl)
  obtain ⟨kn, hkn, k1, k6⟩ := kind_nat h
  obtain ⟨b1, b2, b3⟩ := kind_back kn k1 k6
  have hp : Lib.hasPrefix (9 :: Lib.join (wordsP r) [32]) [9] = true := by unfold Lib.hasPrefix; simp [List.isPrefixOf]
  have hkt : r.kind.toNat = kn := by omega
  have hW := ruleW_back h
  have hlast : ∀ q : Rul, q = r → (q, ruleP q && decide (9 :: Lib.join (wordsP q) [32] = 9 :: Lib.join (wordsP r) [32])) = (r, true) := by
    rintro q rfl
    rw [h, decide_eq_true rfl]; rfl
  have eqw := words_eq r
  rw [hkt] at eqw
  by_cases hr : r.req = true
  · rw [if_pos hr] at eqw
    rw [readRule_req (name := r.name) (x := kindsS.getD kn []) (l := restP r) (by rw [hs, eqw]; rfl) b1 hp, b3]
    exact hlast _ (by rw [← hkn, ← hr]; exact hW)
  · rw [if_neg hr] at eqw
    rw [readRule_plain (name := r.name) (x := kindsS.getD kn []) (l := restP r) (by rw [hs, eqw]; rfl) b2 b1 hp, b3]
    have hf : r.req = false := by simpa using hr
    exact hlast _ (by rw [← hkn, ← hf]; exact hW)
end Go.Proofs.YtadldblpkgackaaGreatDoor
set_option linter.unusedVariables false
set_option linter.unusedSimpArgs false
namespace Go.Proofs.YtadldblpkgackaaGreatDoor
open Go.RowKit

def schW : St := [115, 99, 104, 101, 109, 97]
def cloW : St := [99, 108, 111, 115, 101, 100]
theorem head_join (s : Sch) : headP s = Lib.join (schW :: s.comp :: (if s.closed = true then [cloW] else [])) [32] := by
  unfold headP
  by_cases h : s.closed = true
  · rw [if_pos h, if_pos h, join_two, join_two, Lib.join_one]
    simp [schemaS, closedS, schW, cloW]
  · rw [if_neg h, if_neg h, join_two, Lib.join_one]
    simp [schemaS, schW]
theorem readHead_back {s : Sch} (h : visP s.comp = true) (hr : s.rules = []) : readHeadP (headP s) = (s, true) := by
  have h1 : (32 : UInt8) ∉ schW := by decide
  have h2 : (32 : UInt8) ∉ cloW := by decide
  have h3 : (32 : UInt8) ∉ s.comp := fun q => (sep_vis h 32 q).2 rfl
  have hs : Lib.split (headP s) [32] = schW :: s.comp :: (if s.closed = true then [cloW] else []) := by
    rw [head_join]
    refine split_join (by simp) (fun x hx => ?_)
    rcases List.mem_cons.1 hx with q | hx
    · rw [q]; exact h1
    · rcases List.mem_cons.1 hx with q | hx
      · rw [q]; exact h3
      · split at hx
        · rw [List.mem_singleton.1 hx]; exact h2
        · cases hx
  have hl : (Lib.split (headP s) [32]).length = if s.closed = true then 3 else 2 := by rw [hs]; split <;> rfl
  have hg : (Lib.split (headP s) [32]).getD 1 [] = s.comp := by rw [hs]; rfl
  have hd : decide ((Lib.split (headP s) [32]).length = 3) = s.closed := by
    rw [hl]
    cases s.closed <;> simp
  have he : (⟨s.comp, s.closed, []⟩ : Sch) = s := by rw [← hr]
  unfold readHeadP
  rw [if_neg (by rw [hl]; split <;> omega), hg, hd, he, h, decide_eq_true rfl]
  rfl
/-- A rule's line is no schema's line. -/
theorem head_first (s : Sch) : (headP s).head? = some 115 := by
  unfold headP schemaS
  split <;> rfl
theorem readHead_rule (t : St) : (readHeadP (9 :: t)).2 = false := by
  unfold readHeadP
  split
  · rfl
  · simp only [Bool.and_eq_false_iff]
    right
    rw [decide_eq_false_iff_not]
    intro e
    have := head_first ⟨(Lib.split (9 :: t) [32]).getD 1 [], decide ((Lib.split (9 :: t) [32]).length = 3), []⟩
    rw [e, List.head?_cons] at this
    exact absurd (Option.some.inj this) (by decide)
theorem cut_line {a : St} (b : St) (h : (10 : UInt8) ∉ a) : Lib.cut (a ++ 10 :: b) [10] = (a, b, true) := by
  have e := idx_at a b h
  unfold Lib.cut
  rw [e, if_pos (by omega), Int.toNat_natCast]
  have e3 : (a ++ 10 :: b).drop (a.length + ([10] : St).length) = b := by
    rw [List.drop_append]; simp
  rw [List.take_left, e3]
/-- The rules of the last schema are read. -/
theorem parse_rls : ∀ (rs : List Rul) (rest : St) (f n : Nat) (out : List Sch) (c : St) (cl : Bool) (done : List Rul),
    (∀ r ∈ rs, ruleP r = true) → ascN ((done ++ rs).map Rul.name) = true → (done ++ rs).length ≤ 16 →
    parseF (f + rs.length) (rs.flatMap lineR ++ rest) n (out ++ [⟨c, cl, done⟩]) = parseF f rest (n + rs.length) (out ++ [⟨c, cl, done ++ rs⟩])
  | [], rest, f, n, out, c, cl, done, _, _, _ => by simp
  | r :: rs, rest, f, n, out, c, cl, done, h, ha, hl => by
    have hr := h r (by simp)
    have hb := readRule_back hr
    have hc : Lib.cut (lineR r ++ (rs.flatMap lineR ++ rest)) [10] = (9 :: Lib.join (wordsP r) [32], rs.flatMap lineR ++ rest, true) := by
      have e : lineR r ++ (rs.flatMap lineR ++ rest) = (9 :: Lib.join (wordsP r) [32]) ++ 10 :: (rs.flatMap lineR ++ rest) := by unfold lineR; simp
      rw [e]
      exact cut_line _ (fun q => by
        rcases List.mem_cons.1 q with q | q
        · revert q; decide
        · exact line_nl hr q)
    have hlen : (out ++ [(⟨c, cl, done⟩ : Sch)]).length = out.length + 1 := by simp
    have hlast : (out ++ [(⟨c, cl, done⟩ : Sch)]).getLastD default = ⟨c, cl, done⟩ := by rw [List.getLastD_eq_getLast?, List.getLast?_append]; simp
    have hgo := pr_go (f := f + rs.length) (text := lineR r ++ (rs.flatMap lineR ++ rest)) (n := n) (out := out ++ [⟨c, cl, done⟩]) (by unfold lineR; simp) hc (readHead_rule _) hb (by rw [hlen]; omega)
      (by
        rw [hlast]
        rintro ⟨h0, h1⟩
        have h0' : 0 < done.length := h0
        have hi := ascN_iff ((done ++ r :: rs).map Rul.name)
        have := hi.1 ha (done.length - 1) (by rw [List.length_map, List.length_append, List.length_cons]; omega)
        simp only [List.getElem_map] at this
        rw [List.getElem_append_left (by omega)] at this
        have e2 : done.length - 1 + 1 = done.length := by omega
        simp only [e2] at this
        rw [List.getElem_append_right (Nat.le_refl _)] at this
        simp only [Nat.sub_self, List.getElem_cons_zero] at this
        have e3 : done.getLastD default = done[done.length - 1]'(by omega) := by
          rw [List.getLastD_eq_getLast?, List.getLast?_eq_getElem?, List.getElem?_eq_getElem (by omega)]
          rfl
        rw [e3, this] at h1
        cases h1)
      (by rw [hlast]; simp only; simp at hl; omega)
    rw [List.flatMap_cons, List.append_assoc, List.length_cons, ← Nat.add_assoc, hgo, hlast, List.dropLast_concat]
    have ih := parse_rls rs rest f (n + 1) out c cl (done ++ [r]) (fun x hx => h x (List.mem_cons_of_mem _ hx)) (by simpa using ha) (by simpa using hl)
    rw [show n + (rs.length + 1) = n + 1 + rs.length by omega]
    simpa using ih
end Go.Proofs.YtadldblpkgackaaGreatDoor
set_option linter.unusedVariables false
set_option linter.unusedSimpArgs false
namespace Go.Proofs.YtadldblpkgackaaGreatDoor
open Go.RowKit

theorem parse_schs : ∀ (l : List Sch) (f n : Nat) (out : List Sch), (∀ s ∈ l, OkS s ∧ ascN (s.rules.map Rul.name) = true) → ascN ((out ++ l).map Sch.comp) = true → (out ++ l).length ≤ 24 →
    parseF (f + nLines l) (fmtP l) n out = parseF f [] (n + nLines l) (out ++ l)
  | [], f, n, out, _, _, _ => by simp [nLines, fmtP]
  | s :: l, f, n, out, h, ha, hl => by
    obtain ⟨hs, hasc⟩ := h s (by simp)
    have e : fmtP (s :: l) = lineS s ++ (s.rules.flatMap lineR ++ fmtP l) := by unfold fmtP fmtS; rw [List.flatMap_cons, List.append_assoc]
    have hb := readHead_back (s := ⟨s.comp, s.closed, []⟩) hs.comp rfl
    have hh : headP ⟨s.comp, s.closed, []⟩ = headP s := rfl
    rw [hh] at hb
    have hc : Lib.cut (lineS s ++ (s.rules.flatMap lineR ++ fmtP l)) [10] = (headP s, s.rules.flatMap lineR ++ fmtP l, true) := by
      have e2 : lineS s ++ (s.rules.flatMap lineR ++ fmtP l) = headP s ++ 10 :: (s.rules.flatMap lineR ++ fmtP l) := by unfold lineS; simp
      rw [e2]
      exact cut_line _ (head_nl hs.comp)
    have hn : nLines (s :: l) = nLines l + s.rules.length + 1 := by unfold nLines; rw [List.map_cons, List.sum_cons]; omega
    have hgo := pf_go (f := f + nLines l + s.rules.length) (text := lineS s ++ (s.rules.flatMap lineR ++ fmtP l)) (n := n) (out := out) (by unfold lineS; simp) hc hb
      (by
        rintro ⟨h0, h1⟩
        have hi := ascN_iff ((out ++ s :: l).map Sch.comp)
        have := hi.1 ha (out.length - 1) (by rw [List.length_map, List.length_append, List.length_cons]; omega)
        simp only [List.getElem_map] at this
        rw [List.getElem_append_left (by omega)] at this
        have e2 : out.length - 1 + 1 = out.length := by omega
        simp only [e2] at this
        rw [List.getElem_append_right (Nat.le_refl _)] at this
        simp only [Nat.sub_self, List.getElem_cons_zero] at this
        have e3 : out.getLastD default = out[out.length - 1]'(by omega) := by
          rw [List.getLastD_eq_getLast?, List.getLast?_eq_getElem?, List.getElem?_eq_getElem (by omega)]
          rfl
        rw [e3, this] at h1
        cases h1)
      (by rw [List.length_append, List.length_cons] at hl; omega)
    have hrls := parse_rls s.rules (fmtP l) (f + nLines l) (n + 1) out s.comp s.closed [] hs.rls (by simpa using hasc) (by simpa using hs.few)
    have ih := parse_schs l f (n + 1 + s.rules.length) (out ++ [s]) (fun x hx => h x (List.mem_cons_of_mem _ hx)) (by simpa using ha) (by simpa using hl)
    have e4 : (⟨s.comp, s.closed, [] ++ s.rules⟩ : Sch) = s := by simp
    rw [e4] at hrls
    rw [e, hn, ← Nat.add_assoc, ← Nat.add_assoc, hgo, hrls, ih, show n + (nLines l + s.rules.length + 1) = n + 1 + s.rules.length + nLines l by omega]
    simp
theorem prop_len2 {s : St} (h : propOk s = true) : s.length ≤ 31 := by
  unfold propOk nameOk at h
  simp only [Bool.and_eq_true, decide_eq_true_eq] at h
  have : (undr s).length = s.length := by
    unfold undr
    split
    · cases s with
      | nil => simp at *
      | cons a b => rfl
    · rfl
  omega
theorem lineR_le2 {r : Rul} (h : ruleP r = true) : (lineR r).length ≤ 1080 := by
  obtain ⟨h1, h2, h3⟩ := words_bnd h (M := 50) (by omega) (by
    have hn : propOk r.name = true := by unfold ruleP at h; simp only [Bool.and_eq_true] at h; exact h.1.1.1.1.1.1
    have := prop_len2 hn
    omega) (fun s hs => by
    have hw : r.words.all visP = true := by
      unfold ruleP at h
      simp only [Bool.and_eq_true] at h
      exact h.2
    have := vis_len (List.all_eq_true.1 hw s hs)
    omega)
  have := join_le 50 _ h3
  have h4 := Nat.mul_le_mul_right 51 h2
  unfold lineR
  simp only [List.length_cons, List.length_append, List.length_nil]
  omega
theorem fmt_le2 {l : List Sch} (h4 : l.length ≤ 4) (h : ∀ s ∈ l, OkS s) (h3 : ∀ s ∈ l, s.rules.length ≤ 3) : (fmtP l).length ≤ 16000 := by
  have key := flat_le fmtS 3340 l (fun s hs => by
    have a1 := head_le (h s hs).comp
    have a2 := flat_le lineR 1080 s.rules (fun r hr => lineR_le2 ((h s hs).rls r hr))
    have a3 := Nat.mul_le_mul_right 1080 (h3 s hs)
    unfold fmtS
    rw [List.length_append]
    omega)
  have a4 := Nat.mul_le_mul_right 3340 h4
  unfold fmtP
  omega
/-- Parse undoes Format. -/
theorem parse_back {l : List Sch} (hs : (l.map Sch.comp).Sublist compsL) (hg : ∀ s ∈ l, GoodD s) : parseP (fmtP l) = (l, 0, 0) := by
  have hchk := good_chk hs hg
  obtain ⟨_, hok⟩ := chk_zero hchk
  have h4 : l.length ≤ 4 := by have := hs.length_le; rw [List.length_map] at this; exact this
  have hle := fmt_le2 h4 hok (fun s hm => (hg s hm).few)
  have hnl := nlC_fmt l hok
  have hnl2 : nLines l ≤ (fmtP l).length := by rw [← hnl]; exact List.count_le_length
  have h1 := List.all_eq_true.1 subs_asc _ (mem_subs hs)
  simp only [Bool.and_eq_true] at h1
  have := parse_schs l ((fmtP l).length + 1 - nLines l) 1 [] (fun s hm => ⟨hok s hm, (hg s hm).asc⟩) (by simpa using h1.1) (by simp; omega)
  unfold parseP
  rw [if_neg (by omega), show (fmtP l).length + 1 = (fmtP l).length + 1 - nLines l + nLines l by omega, this]
  have e : ∃ f, (fmtP l).length + 1 - nLines l = f + 1 := ⟨(fmtP l).length - nLines l, by omega⟩
  obtain ⟨f, e⟩ := e
  rw [e, parseF, if_pos rfl]
  rfl
/-- Different schemas have different texts. -/
theorem fmt_inj {l m : List Sch} (hs : (l.map Sch.comp).Sublist compsL) (hg : ∀ s ∈ l, GoodD s) (hs2 : (m.map Sch.comp).Sublist compsL) (hg2 : ∀ s ∈ m, GoodD s) : fmtP l = fmtP m ↔ l = m := by
  constructor
  · intro e
    have h1 := parse_back hs hg
    have h2 := parse_back hs2 hg2
    rw [e, h2] at h1
    exact (Prod.mk.inj h1).1.symm
  · rintro rfl; rfl
end Go.Proofs.YtadldblpkgackaaGreatDoor
