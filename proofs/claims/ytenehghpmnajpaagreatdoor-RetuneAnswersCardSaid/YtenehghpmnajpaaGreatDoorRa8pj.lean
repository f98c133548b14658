/- Lemmas and contracts for the proof of RetuneAnswers (several texts in one, printed by wip/tools/pack.py): Kf. -/
import Derived.Test.YtenehghpmnajpaaGreatDoorRa8pd
import Derived.ArgAppend
import Derived.RangeFuncBox
import Derived.Test.YtenehghpmnajpaaGreatDoorRa8pb
import Derived.Deep.CutBlock
set_option maxRecDepth 100000
set_option maxHeartbeats 16000000

/-! Contract of the tape's Order: it returns the numbers below n in some order, in a row of its own. -/
set_option linter.unusedVariables false
set_option linter.unusedSimpArgs false
namespace Go.Proofs.YtenehghpmnajpaaGreatDoor
open Go.RowKit
open Classical
theorem owns_new (w : World) (xs : List Int) (arr : Array Value) (ha : arr.toList = nums xs) (T : TypeId) (base B n : Nat) (hn : xs.length = n) (hB : w.heap.size = B) (hb : base ≤ B) (hm : n ≤ 1000000) :
    (w.alloc (.cells arr T)).ownsRow base T 1 (.slice (some ⟨B, 0, none⟩) n n) n (nums xs) := by
  subst hB hn
  have hl : arr.size = xs.length := by rw [← Array.length_toList, ha, nums_len]
  refine ⟨by rw [nums_len]; omega, .inr ⟨w.heap.size, xs.length, arr, rfl, hb, heap_alloc_new w _, Nat.le_refl _, by unfold maxLen; omega, by omega, ?_⟩⟩
  rw [ha, Nat.mul_one, List.take_of_length_le (by rw [nums_len]; exact Nat.le_refl _)]
def upI (n : Nat) : List Int := (List.range n).map Int.ofNat
theorem upI_succ (n : Nat) : upI (n + 1) = upI n ++ [(n : Int)] := by rw [upI, List.range_succ, List.map_append]; rfl
theorem upI_mem {n : Nat} {x : Int} (h : x ∈ upI n) : 0 ≤ x ∧ x < n := by
  simp only [upI, List.mem_map, List.mem_range] at h
  obtain ⟨k, hk, rfl⟩ := h
  simp only [Int.ofNat_eq_natCast]; omega
theorem perm_put {xs : List Int} {n : Nat} (h : xs.Perm (upI n)) (k : Nat) : (xs.take k ++ ((n : Int) :: xs.drop k)).Perm (upI (n + 1)) := by
  rw [upI_succ]
  refine (List.perm_middle).trans ?_
  rw [List.take_append_drop]
  exact (List.Perm.cons _ h).trans (List.perm_append_comm (l₁ := [(n : Int)]) (l₂ := upI n))
def GivesOrder (b len : Nat) (w : World) (n : Nat) (e : Ending) (w' : World) : Prop :=
  ∃ xs v, e = .returned v ∧ xs.Perm (upI n) ∧ w'.ownsRow w.heap.size 3 1 v n (nums xs) ∧ Mv b len w w'
theorem order_any (w : World) (b len n : Nat) (ht : Tp w b len) (hn : n ≤ 100) :
    Calls Tryz.prog 103 #[.pointer (some ⟨b, 0, none⟩), .int .i64 n] w (GivesOrder b len w n) := by
  have TT := Lib.hid ht
  have hb := ht.has
  have HB := Lib.hid hb
  clear ht hb
  obtain ⟨i0, hi, hz0, hz1, hz2⟩ := info_parts infoInt
  go_enter Tryz.func103, Tryz.ntmps103
  go_wp2
  go_loopw [5, 6] (fun s i wr => ∃ (m : Nat) (xs : List Int), m ≤ n ∧ i = .int .i64 m ∧ xs.Perm (upI m) ∧ wr.ownsRow w.heap.size 3 1 s m (nums xs) ∧ Mv b len w wr) (fun _ i _ => n - (intOf i).toNat)
  case atStart => exact ⟨0, [], Nat.zero_le _, rfl, List.Perm.refl _, World.ownsRow_nil _ _ _ _, Mv.refl TT.out⟩
  case round =>
    obtain ⟨m, xs, hm, rfl, hp, ho, hmv⟩ := hrel
    have hxl : xs.length = m := by have := hp.length_eq; simpa [upI] using this
    have HP := Lib.hid hp
    have HO := Lib.hid ho
    have HM := Lib.hid hmv
    have XL := Lib.hid hxl
    obtain ⟨a, c, rfl, hc, o1⟩ := owns_own1 ho
    have WD : Hid (∀ x ∈ xs, 0 ≤ x ∧ x < m) := Lib.hid fun x hx => upI_mem (hp.mem_iff.1 hx)
    clear hp ho hmv hxl o1
    obtain ⟨wo, rfl⟩ : ∃ wo : World, wo = wr := ⟨_, rfl⟩
    by_cases hlt : m < n
    · go_wp2_with fail
      refine (nM_any wo b len _ (HM.out.tp TT.out) (by omega) (by omega)).mono ?_
      rintro e w2 ⟨k, rfl, ⟨k0, k1⟩, hm2⟩
      obtain ⟨k, rfl⟩ := Int.eq_ofNat_of_zero_le k0
      have hk : k ≤ m := by omega
      have O2 := Lib.hid (hm2.owns HO.out HB.out)
      have M2 := Lib.hid (HM.out.trans HB.out hm2)
      clear hm2 k0 k1 HO HM
      have y1 : (k : Int) ≤ m := by omega
      have y2 : (m : Int) ≤ c := by omega
      have y3 : (k : Int) ≤ c := by omega
      have S2 : Hid (SlOf 1 RI w2 a xs) := Lib.hid (by
        obtain ⟨a', c', e', _, o1⟩ := owns_own1 O2.out
        cases e'
        exact o1.slI fun j hj => by have := WD.out _ (List.getElem_mem hj); unfold Wide; omega)
      have F2 : Hid ((a = none ∧ m = 0 ∧ c = 0) ∨ ∃ g, a = some ⟨g, 0, none⟩) := Lib.hid (by
        obtain ⟨h0, ⟨q, h1⟩ | ⟨g, cap, cur, q, _⟩⟩ := O2.out
        · cases q; exact .inl ⟨rfl, rfl, rfl⟩
        · cases q; exact .inr ⟨g, rfl⟩)
      go_upto_region 6 with (fail)
      go_cut [8] (fun v wx => wx.ownsRow w2.heap.size 3 1 v (1 + (m - k)) (nums ((m : Int) :: xs.drop k)) ∧ Gr w2 wx)
      case first =>
        rcases F2.out with ⟨rfl, rfl, rfl⟩ | ⟨g, rfl⟩
        · obtain rfl : k = 0 := by omega
          obtain rfl : xs = [] := List.eq_nil_of_length_eq_zero XL.out
          go_wp2_with fail
          go_meet
          exact ⟨owns_new w2 [0] _ rfl _ _ _ 1 rfl rfl (Nat.le_refl _) (by omega), (Gr.refl _).alloc _⟩
        · by_cases hkm : k < m
          · have hkm' : (k : Int) < m := by omega
            have S6 : Hid (Gets (w2.alloc (.cells #[.int .i64 (m : Int)] 3)) (some ⟨g, k, none⟩) (m - k) 1 (nums (xs.drop k))) := Lib.hid (by
              refine ⟨by rw [nums_len, List.length_drop, XL.out]; omega, fun _ => ⟨_, rfl, fun j u hu => ?_⟩⟩
              obtain ⟨hj, hu⟩ := List.getElem?_eq_some_iff.1 hu
              have hj' : k + j < xs.length := by have := hj; rw [nums_len, List.length_drop] at this; omega
              obtain ⟨b', o', e', q⟩ := (S2.out.giI ((Gr.refl _).alloc _)).one (k + j) hj'
              cases e'
              rw [Nat.zero_add] at q
              rw [Addr.add_lit, q.1, ← hu]; simp [nums])
            go_wp2_with (at_builtin; refine wpList_append_gets _ rfl _ _ 22 rfl w2.heap.size 3 i0 (.int .i64 0) 1 8 Tryz.underlying22 hi hz0 hz1 hz2 rfl (by decide) (.slice (some ⟨w2.heap.size, 0, none⟩) 1 1) 1 (nums [(m : Int)]) rfl (owns_new w2 [(m : Int)] _ rfl _ _ _ 1 rfl rfl (Nat.le_refl _) (by omega)) (some ⟨g, k, none⟩) (m - k) (c - k) (nums (xs.drop k)) rfl S6.out (nums_one _) (by unfold maxLen; omega) (by omega) (by simp) ?_; intro v1 w3 hown hgrow hloc; have O3 := Lib.hid hown; have G3 : Hid (Gr w2 w3) := Lib.hid (((Gr.refl w2).alloc _).grown hgrow (fun k e => by cases e; exact Nat.le_refl _)); clear hown hgrow hloc)
            go_meet
            exact ⟨by have := O3.out; simpa [nums] using this, G3.out⟩
          · obtain rfl : k = m := by omega
            have DZ : Hid (xs.drop k = []) := Lib.hid (by rw [List.drop_eq_nil_iff]; rw [XL.out]; exact Nat.le_refl _)
            by_cases hmc : k < c
            · have hmc' : (k : Int) < c := by omega
              go_wp2_with (at_builtin; refine wpList_append_gets _ rfl _ _ 22 rfl w2.heap.size 3 i0 (.int .i64 0) 1 8 Tryz.underlying22 hi hz0 hz1 hz2 rfl (by decide) (.slice (some ⟨w2.heap.size, 0, none⟩) 1 1) 1 (nums [(k : Int)]) rfl (owns_new w2 [(k : Int)] _ rfl _ _ _ 1 rfl rfl (Nat.le_refl _) (by omega)) (some ⟨g, k, none⟩) 0 (c - k) (nums []) rfl ⟨rfl, fun h => absurd rfl h⟩ (nums_one _) (by unfold maxLen; omega) (by omega) (by simp) ?_; intro v1 w3 hown hgrow hloc; have O3 := Lib.hid hown; have G3 : Hid (Gr w2 w3) := Lib.hid (((Gr.refl w2).alloc _).grown hgrow (fun k e => by cases e; exact Nat.le_refl _)); clear hown hgrow hloc)
              go_meet
              exact ⟨by have := O3.out; rw [DZ.out]; simpa [nums] using this, G3.out⟩
            · obtain rfl : c = k := by omega
              go_wp2_with (at_builtin; refine wpList_append_gets _ rfl _ _ 22 rfl w2.heap.size 3 i0 (.int .i64 0) 1 8 Tryz.underlying22 hi hz0 hz1 hz2 rfl (by decide) (.slice (some ⟨w2.heap.size, 0, none⟩) 1 1) 1 (nums [(c : Int)]) rfl (owns_new w2 [(c : Int)] _ rfl _ _ _ 1 rfl rfl (Nat.le_refl _) (by omega)) (some ⟨g, 0, none⟩) 0 0 (nums []) rfl ⟨rfl, fun h => absurd rfl h⟩ (nums_one _) (by unfold maxLen; omega) (by omega) (by simp) ?_; intro v1 w3 hown hgrow hloc; have O3 := Lib.hid hown; have G3 : Hid (Gr w2 w3) := Lib.hid (((Gr.refl w2).alloc _).grown hgrow (fun k e => by cases e; exact Nat.le_refl _)); clear hown hgrow hloc)
              go_meet
              exact ⟨by have := O3.out; rw [DZ.out]; simpa [nums] using this, G3.out⟩
      obtain ⟨ho3, hg3⟩ := hcut
      obtain ⟨g1, c1, rfl, hc1, _, hcell⟩ := owns_cell ho3 (by omega)
      have P7 : Hid (∀ bb, a = some bb → ∀ j u, (nums (xs.take k))[j]? = some u → wc.cell? (bb.add j) = some u) := Lib.hid (by
        rintro bb rfl j u hu
        obtain ⟨hj, hu⟩ := List.getElem?_eq_some_iff.1 hu
        have hj2 : j < k ∧ j < xs.length := by have := hj; rw [nums_len, List.length_take] at this; omega
        obtain ⟨b', o', e', q⟩ := (S2.out.giI hg3).one j hj2.2
        cases e'
        rw [Addr.add_lit, q.1, ← hu]; simp [nums])
      have Q7 : Hid (∀ j u, (nums ((m : Int) :: xs.drop k))[j]? = some u → wc.cell? ((⟨g1, 0, none⟩ : Addr).add j) = some u) := Lib.hid (by
        intro j u hu
        obtain ⟨hj, _⟩ := List.getElem?_eq_some_iff.1 hu
        have hj2 : j < (1 + (m - k)) * 1 := by have := hj; rw [nums_len, List.length_cons, List.length_drop, XL.out] at this; omega
        rw [Addr.add_lit, Nat.zero_add, hcell j hj2, hu])
      have A7 : Hid (a = none → k = 0 ∧ k = 0) := Lib.hid fun q => by
        rcases F2.out with ⟨_, h, _⟩ | ⟨g, h⟩
        · omega
        · rw [q] at h; cases h
      rcases F2.out with ⟨rfl, rfl, rfl⟩ | ⟨g, rfl⟩
      · obtain rfl : k = 0 := by omega
        go_wp2_with (at_builtin; refine wpList_append_grows _ rfl _ _ 22 rfl 3 i0 (.int .i64 0) 1 8 Tryz.underlying22 hi hz0 hz1 hz2 rfl (by decide) none 0 0 (nums (xs.take 0)) rfl A7.out (by rw [nums_len, List.length_take, XL.out] <;> omega) P7.out ⟨g1, 0, none⟩ 1 c1 (nums (((0 : Nat) : Int) :: xs.drop 0)) rfl (by rw [nums_len, List.length_cons, List.length_drop, XL.out] <;> omega) Q7.out (nums_one _) (by omega) (by unfold maxLen; omega) (by omega) ?_; intro v2 w4 hown hgrow; have O4 := Lib.hid hown; have G4 := Lib.hid hgrow; clear hown hgrow)
        go_roundw
        case rel =>
          refine ⟨0 + 1, xs.take 0 ++ (((0 : Nat) : Int) :: xs.drop 0), by omega, by go_num, perm_put HP.out 0, ?_, ?_⟩
          · have := owns_low O4.out (base' := w.heap.size) (by have := hg3.size; have := M2.out.size; omega)
            have e : 0 + (1 + (0 - 0)) = 0 + 1 := by omega
            rw [e] at this
            simpa [nums] using this
          · exact (M2.out.gr hg3).gr ((Gr.refl _).grown G4.out (fun k e => by cases e))
        case measure => simp [intOf]; omega
      · go_wp2_with (at_builtin; refine wpList_append_grows _ rfl _ _ 22 rfl 3 i0 (.int .i64 0) 1 8 Tryz.underlying22 hi hz0 hz1 hz2 rfl (by decide) (some ⟨g, 0, none⟩) k k (nums (xs.take k)) rfl A7.out (by rw [nums_len, List.length_take, XL.out]; omega) P7.out ⟨g1, 0, none⟩ (1 + (m - k)) c1 (nums ((m : Int) :: xs.drop k)) rfl (by rw [nums_len, List.length_cons, List.length_drop, XL.out]; omega) Q7.out (nums_one _) (by omega) (by unfold maxLen; omega) (by omega) ?_; intro v2 w4 hown hgrow; have O4 := Lib.hid hown; have G4 := Lib.hid hgrow; clear hown hgrow)
        go_roundw
        case rel =>
          refine ⟨m + 1, xs.take k ++ ((m : Int) :: xs.drop k), by omega, by go_num, perm_put HP.out k, ?_, ?_⟩
          · have := owns_low O4.out (base' := w.heap.size) (by have := hg3.size; have := M2.out.size; omega)
            have e : k + (1 + (m - k)) = m + 1 := by omega
            rw [e] at this
            simpa [nums] using this
          · exact (M2.out.gr hg3).gr ((Gr.refl _).grown G4.out (fun k e => by cases e))
        case measure => simp [intOf]; omega
    · obtain rfl : m = n := by omega
      go_wp2_with fail
      go_ret
      exact ⟨xs, _, rfl, HP.out, HO.out, HM.out⟩
end Go.Proofs.YtenehghpmnajpaaGreatDoor
/-! Contract of bringupclocks.one (printed by wip/tools/cko.py). -/
set_option linter.unusedVariables false
set_option linter.unusedSimpArgs false
namespace Go.Proofs.YtenehghpmnajpaaGreatDoor
open Go.RowKit
open Classical
def Near (x : Int) : Prop := 0 ≤ x ∧ x ≤ 1000000000
def ClkRow (base : Nat) (w : World) (B : Nat) (kd : Int) (ps cs : List Int) (lo hi : Int) : Prop :=
  ∃ ap cp ac cc, Row w B 79 [.int .i64 kd, .slice ap ps.length cp, .slice ac cs.length cc, .int .i64 lo, .int .i64 hi] ∧ Own1 base w 3 (nums ps) ap ∧ ps.length ≤ cp ∧ Own1 base w 3 (nums cs) ac ∧ cs.length ≤ cc
def OneL (ps cs : List Int) : Prop := ps.length ≤ 3 ∧ 1 ≤ cs.length ∧ cs.length ≤ 4 ∧ (∀ x ∈ ps, Near x) ∧ (∀ x ∈ cs, Near x)
def MakesClk (b len : Nat) (w : World) (e : Ending) (w' : World) : Prop :=
  ∃ kd ps cs lo hi ap cp ac cc, e = .returned (.agg #[.int .i64 kd, .slice ap ps.length cp, .slice ac cs.length cc, .int .i64 lo, .int .i64 hi]) ∧ OneL ps cs ∧ (1 ≤ kd ∧ kd ≤ 5) ∧ (0 ≤ lo ∧ lo ≤ 2000000000) ∧ (0 ≤ hi ∧ hi ≤ 2000000000) ∧
    Own1 w.heap.size w' 3 (nums ps) ap ∧ ps.length ≤ cp ∧ Own1 w.heap.size w' 3 (nums cs) ac ∧ cs.length ≤ cc ∧ Mv b len w w'
theorem own1_at (w : World) (xs : List Int) (arr : Array Value) (ha : arr.toList = nums xs) (T : TypeId) (base B : Nat) (hB : w.heap.size = B) (hb : base ≤ B) : Own1 base (w.alloc (.cells arr T)) T (nums xs) (some ⟨B, 0, none⟩) := by
  subst hB
  exact Own1.row hb (by have := Row.new w arr T; rw [ha] at this; exact this.s)
theorem Own1.grownA {base : Nat} {w w1 : World} {row : Option Nat} {T : Nat} {vs : List Value} {a : Option Addr} (h : Own1 base w T vs a) (hg : w.grownBy w1 row) (hne : ∀ B, a = some ⟨B, 0, none⟩ → some B ≠ row) : Own1 base w1 T vs a := by
  rcases h with h | ⟨B, e, hB, h⟩
  · exact .inl h
  · exact .inr ⟨B, e, hB, h.grown hg (hne B e)⟩
theorem Own1.oth2 {base b B o : Nat} {w : World} {T : Nat} {vs : List Value} {v : Value} (h : Own1 base w T vs (some ⟨B, 0, none⟩)) (hb : b ≠ B) : Own1 base (w.setCell ⟨b, o, none⟩ v) T vs (some ⟨B, 0, none⟩) := by
  rcases h with h | ⟨B', e, hB, h⟩
  · exact .inl h
  · cases e; exact .inr ⟨B, rfl, hB, h.oth hb⟩
theorem own1_take {base : Nat} {w : World} {T : Nat} {xs : List Int} {a : Option Addr} (h : Own1 base w T (nums xs) a) (k : Nat) : Own1 base w T (nums (xs.take k)) a := by
  rcases h with h | ⟨B, e, hB, r, h⟩
  · left
    have : xs = [] := by simpa [nums] using h
    simp [this, nums]
  · refine .inr ⟨B, e, hB, nums (xs.drop k) ++ r, ?_⟩
    have e2 : nums (xs.take k) ++ (nums (xs.drop k) ++ r) = nums xs ++ r := by rw [← List.append_assoc]; simp [nums, ← List.map_append]
    rw [e2]; exact h
theorem owns_own1_low {w : World} {base base' e n c : Nat} {a : Option Addr} {xs : List Value} (h : w.ownsRow base e 1 (.slice a n c) n xs) (hb : base' ≤ base) : Own1 base' w e xs a := by
  obtain ⟨a', c', e', _, o⟩ := owns_own1 h
  cases e'
  exact o.low hb
theorem own1_set {base : Nat} {w : World} {B o : Nat} {us : List Value} {xs : List Int} {a : Option Addr} {v : Value} (h : Row w B 79 us) (k : Own1 base w 3 (nums xs) a) : Own1 base (w.setCell ⟨B, o, none⟩ v) 3 (nums xs) a := by
  rcases k with k | ⟨C, e, hB, k⟩
  · exact .inl k
  · exact .inr ⟨C, e, hB, k.oth (h.s.apart k (by decide))⟩
theorem pickAt_any (W W0 : World) (b len : Nat) (h : Tp W b len) (eb : Nat) (arr : Array Value) (n : Nat) (xs : List Int) (S : Int → Prop) (he : eb = W0.heap.size) (hg : Gr (W0.alloc (.cells arr 3)) W) (hb : b < W0.heap.size) (ha : arr.toList = nums xs) (hn : xs.length = n) (hn1 : 1 ≤ n) (hn2 : n ≤ 1000) (hS : ∀ x ∈ xs, S x) :
    Calls Tryz.prog 49 #[.pointer (some ⟨b, 0, none⟩), .slice (some ⟨eb, 0, none⟩) n n] W (ReadsM b len W S) := by
  subst he
  refine pickM_any W b len h W0.heap.size n S hn1 hn2 (by omega) (fun k hk => ?_)
  have q := (Row.new W0 arr 3).gr hg
  rw [ha] at q
  exact ⟨_, q.iat k (by omega), hS _ (List.getElem_mem _)⟩
theorem nM2_any (w : World) (b len : Nat) (n : Int) (h : Tp w b len) (hn : 1 ≤ n) (hn1 : n ≤ 1000) :
    Calls Tryz.prog 12 #[.pointer (some ⟨b, 0, none⟩), .int .i64 n] w (ReadsM b len w (InTo 0 (n - 1))) := nM_any w b len n h hn (by omega)
theorem one_any (w : World) (b len : Nat) (k : Nat) (ht : Tp w b len) (hk : 1 ≤ k) (hk1 : k ≤ 16) :
    Calls Tryz.prog 50 #[.pointer (some ⟨b, 0, none⟩), .int .i64 k] w (MakesClk b len w) := by
  have TT := Lib.hid ht
  have hb := ht.has
  have HB := Lib.hid hb
  clear ht hb
  obtain ⟨i0, hi, hz0, hz1, hz2⟩ := info_parts infoInt
  go_enter Tryz.func50, Tryz.ntmps50
  go_wp2_with fail
  refine (pickNew_any (w.alloc (.cells #[.int .i64 0, .slice none 0 0, .slice none 0 0, .int .i64 0, .int .i64 0] 79)) b len (TT.out.gr ((Gr.refl _).alloc _)) _ (by simp) _ 9 [1, 2, 2, 3, 3, 4, 4, 5, 5] (InTo 1 5) rfl rfl (by omega) (by omega) (by simp [InTo])).mono ?_
  rintro e w1 ⟨kd, rfl, ⟨kd1, kd2⟩, hm1⟩
  have M1 := Lib.hid ((Mv.of_gr TT.out ((Gr.refl _).alloc _)).trans HB.out hm1)
  have rr := (Row.new w #[.int .i64 0, .slice none 0 0, .slice none 0 0, .int .i64 0, .int .i64 0] 79)
  have R4 := Lib.hid (hm1.row rr (by have := HB.out; omega))
  clear hm1 rr
  go_upto_block 0 with (fail)
  obtain ⟨W2, hW2⟩ : ∃ W2 : World, Hid (W2 = w1.alloc (.cells #[.int .i64 kd, .slice none 0 0, .slice none 0 0, .int .i64 0, .int .i64 0] 79)) := ⟨_, Lib.hid rfl⟩
  rw [← hW2.out]
  obtain ⟨B, hB⟩ : ∃ B : Nat, Hid (w1.heap.size = B) := ⟨_, Lib.hid rfl⟩
  rw [hB.out]
  have R2 : Hid (Row W2 B 79 [.int .i64 kd, .slice none 0 0, .slice none 0 0, .int .i64 0, .int .i64 0]) := Lib.hid (by rw [hW2.out, ← hB.out]; exact Row.new w1 _ _)
  have M2 : Hid (Mv b len w W2) := Lib.hid (by rw [hW2.out]; exact M1.out.alloc _)
  have T2 := Lib.hid (M2.out.tp TT.out)
  have R5 : Hid (Row W2 w.heap.size 79 [.int .i64 0, .slice none 0 0, .slice none 0 0, .int .i64 0, .int .i64 0]) := Lib.hid (by rw [hW2.out]; exact R4.out.alloc _)
  have sz : Hid (b < B ∧ w.heap.size < B ∧ W2.heap.size = B + 1) := Lib.hid (by rw [hW2.out, ← hB.out]; have := (M1.out.tp TT.out).has; exact ⟨this, R4.out.has, by simp⟩)
  clear hW2 hB R4 M1
  go_cut [] (fun wx => ∃ ps cs, OneL ps cs ∧ ClkRow B wx B kd ps cs 0 0 ∧ Row wx w.heap.size 79 [.int .i64 0, .slice none 0 0, .slice none 0 0, .int .i64 0, .int .i64 0] ∧ Mv b len w wx)
  case first =>
    rcases (show kd = 1 ∨ kd = 2 ∨ kd = 3 ∨ kd = 4 ∨ kd = 5 by omega) with rfl | rfl | rfl | rfl | rfl
    · go_wp2_with fail
      refine (pickNew_any W2 b len T2.out _ (by simp) _ 4 [10, 12, 32, 24000000] Near rfl rfl (by omega) (by omega) (by simp [Near])).mono ?_
      rintro e w3 ⟨x, rfl, hx, hm⟩
      have HX := Lib.hid hx
      have hsz : B ≤ w3.heap.size := by have := hm.size; have := sz.out; omega
      have M3 := Lib.hid (M2.out.trans HB.out hm)
      have R3 := Lib.hid (hm.row R2.out (by have := sz.out; omega))
      have R6 := Lib.hid (hm.row R5.out (by have := HB.out; omega))
      have z2 := R3.out.cell 2 (by simp)
      have zf := R3.out.free 2
      have zh := R3.out.has
      simp only [List.getElem_cons_zero, List.getElem_cons_succ] at z2
      clear hx hm
      go_wp2_with fail
      go_meet
      refine ⟨[], [x], ⟨by simp, by simp, by simp, by simp, by simpa using HX.out⟩, ⟨none, 0, some ⟨w3.heap.size, 0, none⟩, 1, ?_, .inl rfl, Nat.le_refl _, ?_, Nat.le_refl _⟩, ?_, ?_⟩
      · exact (R3.out.set 2 _).alloc _
      · exact own1_at _ [x] _ rfl _ B w3.heap.size (size_set _ _ _) hsz
      · exact (R6.out.oth (by have := sz.out; omega)).alloc _
      · exact (M3.out.setc (by have := sz.out; omega)).alloc _
    · go_wp2_with fail
      refine (nM2_any W2 b len k T2.out (by omega) (by omega)).mono ?_
      rintro e w3 ⟨p, rfl, ⟨p0, p1⟩, hm⟩
      have hsz : B + 1 ≤ w3.heap.size := by have := hm.size; have := sz.out; omega
      have M3 := Lib.hid (M2.out.trans HB.out hm)
      have R3 := Lib.hid (hm.row R2.out (by have := sz.out; omega))
      have R6 := Lib.hid (hm.row R5.out (by have := HB.out; omega))
      have z1 := R3.out.cell 1 (by simp)
      have zf := R3.out.free 1
      have zh := R3.out.has
      simp only [List.getElem_cons_zero, List.getElem_cons_succ] at z1
      clear hm
      go_upto_region 9 with (fail)
      obtain ⟨W4, hW4⟩ : ∃ W4 : World, Hid (W4 = (w3.setCell ⟨B, 1, none⟩ (.slice (some ⟨w3.heap.size, 0, none⟩) 1 1)).alloc (.cells #[.int .i64 p] 3)) := ⟨_, Lib.hid rfl⟩
      rw [← hW4.out]
      have P4 : Hid (Own1 B W4 3 (nums [p]) (some ⟨w3.heap.size, 0, none⟩)) := Lib.hid (by rw [hW4.out]; exact own1_at _ [p] _ rfl _ B w3.heap.size (size_set _ _ _) (by omega))
      have R4 : Hid (Row W4 B 79 [.int .i64 2, .slice (some ⟨w3.heap.size, 0, none⟩) 1 1, .slice none 0 0, .int .i64 0, .int .i64 0]) := Lib.hid (by rw [hW4.out]; exact (R3.out.set 1 _).alloc _)
      have R7 : Hid (Row W4 w.heap.size 79 [.int .i64 0, .slice none 0 0, .slice none 0 0, .int .i64 0, .int .i64 0]) := Lib.hid (by rw [hW4.out]; exact (R6.out.oth (by have := sz.out; omega)).alloc _)
      have M4 : Hid (Mv b len w W4) := Lib.hid (by rw [hW4.out]; exact (M3.out.setc (by have := sz.out; omega)).alloc _)
      have sz4 : Hid (w3.heap.size < W4.heap.size) := Lib.hid (by rw [hW4.out]; simp [size_set])
      have T4 := Lib.hid (M4.out.tp TT.out)
      obtain ⟨pb, hpb⟩ : ∃ pb : Nat, Hid (w3.heap.size = pb) := ⟨_, Lib.hid rfl⟩
      rw [hpb.out] at hsz P4 R4 sz4
      rw [hpb.out]
      clear hW4 M3 R3 R6 z1 zf zh hpb
      go_wp2_with fail
      refine (rangeM_any W4 b len 1 4 T4.out (by omega) (by omega) (by omega)).mono ?_
      rintro e w5 ⟨n, rfl, ⟨n0, n1⟩, hm5⟩
      obtain ⟨n, rfl⟩ := Int.eq_ofNat_of_zero_le (show 0 ≤ n by omega)
      have P5 := Lib.hid (hm5.own1 P4.out (by have := sz.out; omega))
      have R8 := Lib.hid (hm5.row R4.out (by have := sz.out; omega))
      have R9 := Lib.hid (hm5.row R7.out (by have := HB.out; omega))
      have M5 := Lib.hid (M4.out.trans HB.out hm5)
      have sz5 : Hid (pb < w5.heap.size) := Lib.hid (Nat.lt_of_lt_of_le sz4.out hm5.size)
      clear hm5 P4 R4 R7 M4 sz4 T4
      go_wp2_with fail
      go_loopw [6] (fun i wr => ∃ (m : Nat) (cs : List Int) (a c : _), i = .int .i64 m ∧ cs.length + m ≤ 4 ∧ (1 ≤ cs.length ∨ 1 ≤ m) ∧ (∀ x ∈ cs, Near x) ∧ wr.ownsRow w5.heap.size 3 1 (.slice a cs.length c) cs.length (nums cs) ∧ Row wr B 79 [.int .i64 2, .slice (some ⟨pb, 0, none⟩) 1 1, .slice a cs.length c, .int .i64 0, .int .i64 0] ∧ Own1 B wr 3 (nums [p]) (some ⟨pb, 0, none⟩) ∧ Row wr w.heap.size 79 [.int .i64 0, .slice none 0 0, .slice none 0 0, .int .i64 0, .int .i64 0] ∧ Mv b len w wr ∧ w5.heap.size ≤ wr.heap.size) (fun i _ => (intOf i).toNat)
      case atStart => exact ⟨n, [], none, 0, rfl, by simp; omega, .inr (by omega), by simp, World.ownsRow_nil _ _ _ _, R8.out, P5.out, R9.out, M5.out, Nat.le_refl _⟩
      case round =>
        clear P5 R8 R9 M5
        obtain ⟨m, cs, a, c, rfl, hle, hge, hnr, ho, hr, hp, hq, hm, hz⟩ := hrel
        have GE := Lib.hid hge
        have NR := Lib.hid hnr
        have HO := Lib.hid ho
        have HR := Lib.hid hr
        have HP := Lib.hid hp
        have HQ := Lib.hid hq
        have HM := Lib.hid hm
        clear hge hnr ho hr hp hq hm
        obtain ⟨wo, rfl⟩ : ∃ wo : World, wo = wr := ⟨_, rfl⟩
        by_cases hm0 : 0 < m
        · have g0 : (0 : Int) < m := by omega
          go_wp2_with fail
          refine (pickNew_any wo b len (HM.out.tp TT.out) _ rfl _ 7 [1, 2, 3, 4, 5, 8, 64] Near rfl rfl (by omega) (by omega) (by simp [Near])).mono ?_
          rintro e w6 ⟨x, rfl, hx, hm6⟩
          have HX := Lib.hid hx
          have bo : Hid (b < wo.heap.size) := Lib.hid (HM.out.tp TT.out).has
          have O6 := Lib.hid (hm6.owns HO.out (by have := sz.out; have := sz5.out; omega))
          have R6 := Lib.hid (hm6.row HR.out (by have := sz.out; omega))
          have P6 := Lib.hid (hm6.own1 HP.out (by have := sz.out; omega))
          have Q6 := Lib.hid (hm6.row HQ.out (by have := HB.out; omega))
          have M6 := Lib.hid (HM.out.trans HB.out hm6)
          have hz6 : w5.heap.size ≤ w6.heap.size := Nat.le_trans hz hm6.size
          clear hx hm6 HO HR HP HQ HM
          have z2 := R6.out.cell 2 (by simp)
          have zf := R6.out.free 2
          have zh := R6.out.has
          simp only [List.getElem_cons_zero, List.getElem_cons_succ] at z2
          obtain ⟨a', c', e', hc', o1⟩ := owns_own1 O6.out
          cases e'
          have S6 : Hid (SlOf 1 RI w6 a cs) := Lib.hid (o1.slI fun j hj => by have := NR.out _ (List.getElem_mem hj); unfold Near at this; unfold Wide; omega)
          clear o1
          go_wp2_with fail
          refine (in_any cs a c x _ S6.out (by unfold Fit; omega)).mono ?_
          rintro e w' ⟨rfl, rfl⟩
          by_cases hin : x ∈ cs
          · have hd : decide (x ∈ cs) = true := by simpa using hin
            rw [hd]
            have hpos : 1 ≤ cs.length := List.length_pos_of_mem hin
            clear hin hd
            obtain ⟨m', rfl⟩ : ∃ m', m = m' + 1 := ⟨m - 1, by omega⟩
            go_wp2_with fail
            go_roundw
            case rel => exact ⟨m', cs, a, c, by go_num, by omega, .inl hpos, NR.out, O6.out, R6.out, P6.out, Q6.out, M6.out, hz6⟩
            case measure => simp [intOf]
          · have hd : decide (x ∈ cs) = false := by simpa using hin
            rw [hd]
            clear hin hd
            obtain ⟨m', rfl⟩ : ∃ m', m = m' + 1 := ⟨m - 1, by omega⟩
            go_wp2_with (at_builtin; refine wpList_append_own _ rfl _ _ 22 rfl w5.heap.size 3 i0 (.int .i64 0) 1 8 Tryz.underlying22 hi hz0 hz1 hz2 rfl (by decide) (.slice a cs.length c) cs.length (nums cs) rfl (O6.out.alloc _) ⟨w6.heap.size, 0, none⟩ 1 1 (nums [x]) rfl rfl (cell_one_new _ _ _) (nums_one _) (by unfold maxLen; omega) (by omega) (by simp; omega) ?_; intro v' wz hown' hgrow hnil; have RZ := Lib.hid ((R6.out.alloc _).grown hgrow (owns_apart O6.out R6.out.s (by decide))); have PZ := Lib.hid ((P6.out.gr ((Gr.refl _).alloc _)).grownA hgrow (fun B' e q => by cases e; have := (O6.out.lt _ q.symm).1; have := sz5.out; omega)); have QZ := Lib.hid ((Q6.out.alloc _).grown hgrow (owns_apart O6.out Q6.out.s (by decide))); have MZ := Lib.hid ((M6.out.alloc _).grown hgrow (fun k e => by have := (O6.out.lt k e).1; have := M6.out.size; have := sz5.out; have := sz.out; omega)); have OZ := Lib.hid hown'; have hzz := hgrow.size; obtain ⟨g', cap', rfl⟩ := ownsRow_succ hown'; clear z2 zf zh; have z2 := RZ.out.cell 2 (by simp); have zf := RZ.out.free 2; have zh := RZ.out.has; simp only [List.getElem_cons_zero, List.getElem_cons_succ] at z2; clear hown' hgrow hnil)
            go_roundw
            case rel =>
              refine ⟨m', cs ++ [x], some ⟨g', 0, none⟩, cap', by go_num, by simp; omega, .inl (by simp), ?_, ?_, ?_, ?_, ?_, ?_, ?_⟩
              · intro y hy
                rcases List.mem_append.1 hy with q | q
                · exact NR.out y q
                · rw [List.mem_singleton.1 q]; exact HX.out
              · have := owns_set (o := 2) (x := .slice (some ⟨g', 0, none⟩) (cs.length + 1) cap') OZ.out RZ.out.s (by decide)
                rw [List.length_append]
                simpa [nums] using this
              · have := RZ.out.set 2 (.slice (some ⟨g', 0, none⟩) (cs.length + 1) cap')
                simpa using this
              · exact PZ.out.oth2 (by omega)
              · exact QZ.out.oth (by have := sz.out; omega)
              · exact MZ.out.setc (by have := sz.out; omega)
              · rw [size_set]; simp only [World.size_alloc] at hzz; omega
            case measure => simp [intOf]
        · obtain rfl : m = 0 := by omega
          obtain ⟨a', c', e', hc', o1⟩ := owns_own1 HO.out
          cases e'
          have O1 := Lib.hid (o1.low (base' := B) (by have := sz5.out; omega))
          have GE' : Hid (1 ≤ cs.length) := Lib.hid (by have := GE.out; omega)
          clear o1
          go_wp2_with fail
          go_meet
          exact ⟨[p], cs, ⟨by simp, GE'.out, by omega, by simp [Near]; omega, NR.out⟩, ⟨_, _, _, _, HR.out, HP.out, Nat.le_refl _, O1.out, hc'⟩, HQ.out, HM.out⟩
    · go_wp2_with fail
      refine (nM2_any W2 b len k T2.out (by omega) (by omega)).mono ?_
      rintro e w3 ⟨p, rfl, ⟨p0, p1⟩, hm⟩
      have hsz : B + 1 ≤ w3.heap.size := by have := hm.size; have := sz.out; omega
      have M3 := Lib.hid (M2.out.trans HB.out hm)
      have R3 := Lib.hid (hm.row R2.out (by have := sz.out; omega))
      have R6 := Lib.hid (hm.row R5.out (by have := HB.out; omega))
      have z1 := R3.out.cell 1 (by simp)
      have zf := R3.out.free 1
      have zh := R3.out.has
      simp only [List.getElem_cons_zero, List.getElem_cons_succ] at z1
      clear hm
      go_upto_region 9 with (fail)
      obtain ⟨W4, hW4⟩ : ∃ W4 : World, Hid (W4 = (w3.setCell ⟨B, 1, none⟩ (.slice (some ⟨w3.heap.size, 0, none⟩) 1 1)).alloc (.cells #[.int .i64 p] 3)) := ⟨_, Lib.hid rfl⟩
      rw [← hW4.out]
      have P4 : Hid (Own1 B W4 3 (nums [p]) (some ⟨w3.heap.size, 0, none⟩)) := Lib.hid (by rw [hW4.out]; exact own1_at _ [p] _ rfl _ B w3.heap.size (size_set _ _ _) (by omega))
      have R4 : Hid (Row W4 B 79 [.int .i64 3, .slice (some ⟨w3.heap.size, 0, none⟩) 1 1, .slice none 0 0, .int .i64 0, .int .i64 0]) := Lib.hid (by rw [hW4.out]; exact (R3.out.set 1 _).alloc _)
      have R7 : Hid (Row W4 w.heap.size 79 [.int .i64 0, .slice none 0 0, .slice none 0 0, .int .i64 0, .int .i64 0]) := Lib.hid (by rw [hW4.out]; exact (R6.out.oth (by have := sz.out; omega)).alloc _)
      have M4 : Hid (Mv b len w W4) := Lib.hid (by rw [hW4.out]; exact (M3.out.setc (by have := sz.out; omega)).alloc _)
      have sz4 : Hid (w3.heap.size < W4.heap.size) := Lib.hid (by rw [hW4.out]; simp [size_set])
      have T4 := Lib.hid (M4.out.tp TT.out)
      obtain ⟨pb, hpb⟩ : ∃ pb : Nat, Hid (w3.heap.size = pb) := ⟨_, Lib.hid rfl⟩
      rw [hpb.out] at hsz P4 R4 sz4
      rw [hpb.out]
      clear hW4 M3 R3 R6 z1 zf zh hpb
      go_wp2_with fail
      refine (rangeM_any W4 b len 1 4 T4.out (by omega) (by omega) (by omega)).mono ?_
      rintro e w5 ⟨n, rfl, ⟨n0, n1⟩, hm5⟩
      obtain ⟨n, rfl⟩ := Int.eq_ofNat_of_zero_le (show 0 ≤ n by omega)
      have P5 := Lib.hid (hm5.own1 P4.out (by have := sz.out; omega))
      have R8 := Lib.hid (hm5.row R4.out (by have := sz.out; omega))
      have R9 := Lib.hid (hm5.row R7.out (by have := HB.out; omega))
      have M5 := Lib.hid (M4.out.trans HB.out hm5)
      have sz5 : Hid (pb < w5.heap.size) := Lib.hid (Nat.lt_of_lt_of_le sz4.out hm5.size)
      clear hm5 P4 R4 R7 M4 sz4 T4
      go_wp2_with fail
      go_loopw [6] (fun i wr => ∃ (m : Nat) (cs : List Int) (a c : _), i = .int .i64 m ∧ cs.length + m ≤ 4 ∧ (1 ≤ cs.length ∨ 1 ≤ m) ∧ (∀ x ∈ cs, Near x) ∧ wr.ownsRow w5.heap.size 3 1 (.slice a cs.length c) cs.length (nums cs) ∧ Row wr B 79 [.int .i64 3, .slice (some ⟨pb, 0, none⟩) 1 1, .slice a cs.length c, .int .i64 0, .int .i64 0] ∧ Own1 B wr 3 (nums [p]) (some ⟨pb, 0, none⟩) ∧ Row wr w.heap.size 79 [.int .i64 0, .slice none 0 0, .slice none 0 0, .int .i64 0, .int .i64 0] ∧ Mv b len w wr ∧ w5.heap.size ≤ wr.heap.size) (fun i _ => (intOf i).toNat)
      case atStart => exact ⟨n, [], none, 0, rfl, by simp; omega, .inr (by omega), by simp, World.ownsRow_nil _ _ _ _, R8.out, P5.out, R9.out, M5.out, Nat.le_refl _⟩
      case round =>
        clear P5 R8 R9 M5
        obtain ⟨m, cs, a, c, rfl, hle, hge, hnr, ho, hr, hp, hq, hm, hz⟩ := hrel
        have GE := Lib.hid hge
        have NR := Lib.hid hnr
        have HO := Lib.hid ho
        have HR := Lib.hid hr
        have HP := Lib.hid hp
        have HQ := Lib.hid hq
        have HM := Lib.hid hm
        clear hge hnr ho hr hp hq hm
        obtain ⟨wo, rfl⟩ : ∃ wo : World, wo = wr := ⟨_, rfl⟩
        by_cases hm0 : 0 < m
        · have g0 : (0 : Int) < m := by omega
          go_wp2_with fail
          refine (pickNew_any wo b len (HM.out.tp TT.out) _ rfl _ 7 [1, 2, 3, 4, 5, 8, 64] Near rfl rfl (by omega) (by omega) (by simp [Near])).mono ?_
          rintro e w6 ⟨x, rfl, hx, hm6⟩
          have HX := Lib.hid hx
          have bo : Hid (b < wo.heap.size) := Lib.hid (HM.out.tp TT.out).has
          have O6 := Lib.hid (hm6.owns HO.out (by have := sz.out; have := sz5.out; omega))
          have R6 := Lib.hid (hm6.row HR.out (by have := sz.out; omega))
          have P6 := Lib.hid (hm6.own1 HP.out (by have := sz.out; omega))
          have Q6 := Lib.hid (hm6.row HQ.out (by have := HB.out; omega))
          have M6 := Lib.hid (HM.out.trans HB.out hm6)
          have hz6 : w5.heap.size ≤ w6.heap.size := Nat.le_trans hz hm6.size
          clear hx hm6 HO HR HP HQ HM
          have z2 := R6.out.cell 2 (by simp)
          have zf := R6.out.free 2
          have zh := R6.out.has
          simp only [List.getElem_cons_zero, List.getElem_cons_succ] at z2
          obtain ⟨a', c', e', hc', o1⟩ := owns_own1 O6.out
          cases e'
          have S6 : Hid (SlOf 1 RI w6 a cs) := Lib.hid (o1.slI fun j hj => by have := NR.out _ (List.getElem_mem hj); unfold Near at this; unfold Wide; omega)
          clear o1
          go_wp2_with fail
          refine (in_any cs a c x _ S6.out (by unfold Fit; omega)).mono ?_
          rintro e w' ⟨rfl, rfl⟩
          by_cases hin : x ∈ cs
          · have hd : decide (x ∈ cs) = true := by simpa using hin
            rw [hd]
            have hpos : 1 ≤ cs.length := List.length_pos_of_mem hin
            clear hin hd
            obtain ⟨m', rfl⟩ : ∃ m', m = m' + 1 := ⟨m - 1, by omega⟩
            go_wp2_with fail
            go_roundw
            case rel => exact ⟨m', cs, a, c, by go_num, by omega, .inl hpos, NR.out, O6.out, R6.out, P6.out, Q6.out, M6.out, hz6⟩
            case measure => simp [intOf]
          · have hd : decide (x ∈ cs) = false := by simpa using hin
            rw [hd]
            clear hin hd
            obtain ⟨m', rfl⟩ : ∃ m', m = m' + 1 := ⟨m - 1, by omega⟩
            go_wp2_with (at_builtin; refine wpList_append_own _ rfl _ _ 22 rfl w5.heap.size 3 i0 (.int .i64 0) 1 8 Tryz.underlying22 hi hz0 hz1 hz2 rfl (by decide) (.slice a cs.length c) cs.length (nums cs) rfl (O6.out.alloc _) ⟨w6.heap.size, 0, none⟩ 1 1 (nums [x]) rfl rfl (cell_one_new _ _ _) (nums_one _) (by unfold maxLen; omega) (by omega) (by simp; omega) ?_; intro v' wz hown' hgrow hnil; have RZ := Lib.hid ((R6.out.alloc _).grown hgrow (owns_apart O6.out R6.out.s (by decide))); have PZ := Lib.hid ((P6.out.gr ((Gr.refl _).alloc _)).grownA hgrow (fun B' e q => by cases e; have := (O6.out.lt _ q.symm).1; have := sz5.out; omega)); have QZ := Lib.hid ((Q6.out.alloc _).grown hgrow (owns_apart O6.out Q6.out.s (by decide))); have MZ := Lib.hid ((M6.out.alloc _).grown hgrow (fun k e => by have := (O6.out.lt k e).1; have := M6.out.size; have := sz5.out; have := sz.out; omega)); have OZ := Lib.hid hown'; have hzz := hgrow.size; obtain ⟨g', cap', rfl⟩ := ownsRow_succ hown'; clear z2 zf zh; have z2 := RZ.out.cell 2 (by simp); have zf := RZ.out.free 2; have zh := RZ.out.has; simp only [List.getElem_cons_zero, List.getElem_cons_succ] at z2; clear hown' hgrow hnil)
            go_roundw
            case rel =>
              refine ⟨m', cs ++ [x], some ⟨g', 0, none⟩, cap', by go_num, by simp; omega, .inl (by simp), ?_, ?_, ?_, ?_, ?_, ?_, ?_⟩
              · intro y hy
                rcases List.mem_append.1 hy with q | q
                · exact NR.out y q
                · rw [List.mem_singleton.1 q]; exact HX.out
              · have := owns_set (o := 2) (x := .slice (some ⟨g', 0, none⟩) (cs.length + 1) cap') OZ.out RZ.out.s (by decide)
                rw [List.length_append]
                simpa [nums] using this
              · have := RZ.out.set 2 (.slice (some ⟨g', 0, none⟩) (cs.length + 1) cap')
                simpa using this
              · exact PZ.out.oth2 (by omega)
              · exact QZ.out.oth (by have := sz.out; omega)
              · exact MZ.out.setc (by have := sz.out; omega)
              · rw [size_set]; simp only [World.size_alloc] at hzz; omega
            case measure => simp [intOf]
        · obtain rfl : m = 0 := by omega
          obtain ⟨a', c', e', hc', o1⟩ := owns_own1 HO.out
          cases e'
          have O1 := Lib.hid (o1.low (base' := B) (by have := sz5.out; omega))
          have GE' : Hid (1 ≤ cs.length) := Lib.hid (by have := GE.out; omega)
          clear o1
          go_wp2_with fail
          go_meet
          exact ⟨[p], cs, ⟨by simp, GE'.out, by omega, by simp [Near]; omega, NR.out⟩, ⟨_, _, _, _, HR.out, HP.out, Nat.le_refl _, O1.out, hc'⟩, HQ.out, HM.out⟩
    · go_wp2_with fail
      refine (rangeM_any W2 b len 1 3 T2.out (by omega) (by omega) (by omega)).mono ?_
      rintro e w5 ⟨n, rfl, ⟨n0, n1⟩, hm5⟩
      obtain ⟨n, rfl⟩ := Int.eq_ofNat_of_zero_le (show 0 ≤ n by omega)
      have R8 := Lib.hid (hm5.row R2.out (by have := sz.out; omega))
      have R9 := Lib.hid (hm5.row R5.out (by have := HB.out; omega))
      have M5 := Lib.hid (M2.out.trans HB.out hm5)
      have sz5 : Hid (B < w5.heap.size) := Lib.hid (by have := hm5.size; have := sz.out; omega)
      clear hm5
      go_wp2_with fail
      go_loopw [8] (fun i wr => ∃ (m : Nat) (ps : List Int) (a c : _), i = .int .i64 m ∧ ps.length + m ≤ 3 ∧ (1 ≤ ps.length ∨ 1 ≤ m) ∧ (∀ x ∈ ps, Near x) ∧ wr.ownsRow w5.heap.size 3 1 (.slice a ps.length c) ps.length (nums ps) ∧ Row wr B 79 [.int .i64 4, .slice a ps.length c, .slice none 0 0, .int .i64 0, .int .i64 0] ∧ Row wr w.heap.size 79 [.int .i64 0, .slice none 0 0, .slice none 0 0, .int .i64 0, .int .i64 0] ∧ Mv b len w wr ∧ w5.heap.size ≤ wr.heap.size) (fun i _ => (intOf i).toNat)
      case atStart => exact ⟨n, [], none, 0, rfl, by simp; omega, .inr (by omega), by simp, World.ownsRow_nil _ _ _ _, R8.out, R9.out, M5.out, Nat.le_refl _⟩
      case round =>
        clear R8 R9 M5
        obtain ⟨m, ps, a, c, rfl, hle, hge, hnr, ho, hr, hq, hm, hz⟩ := hrel
        have GE := Lib.hid hge
        have NR := Lib.hid hnr
        have HO := Lib.hid ho
        have HR := Lib.hid hr
        have HQ := Lib.hid hq
        have HM := Lib.hid hm
        clear hge hnr ho hr hq hm
        obtain ⟨wo, rfl⟩ : ∃ wo : World, wo = wr := ⟨_, rfl⟩
        have z1 := HR.out.cell 1 (by simp)
        have zf := HR.out.free 1
        have zh := HR.out.has
        simp only [List.getElem_cons_zero, List.getElem_cons_succ] at z1
        by_cases hm0 : 0 < m
        · have g0 : (0 : Int) < m := by omega
          obtain ⟨m', rfl⟩ : ∃ m', m = m' + 1 := ⟨m - 1, by omega⟩
          go_wp2_with fail
          go_region_law (first
            | (go_simp; go_at_call 12; refine (nM2_any _ b len k ((HM.out.gr grr).tp TT.out) (by omega) (by omega)).mono ?_; rintro e w6 ⟨x, rfl, ⟨x0, x1⟩, hm6⟩; have HX : Hid (Near x) := Lib.hid ⟨x0, by omega⟩; have O6 := Lib.hid (hm6.owns (Gr.owns HO.out grr) (by have := sz.out; have := sz5.out; omega)); have R6 := Lib.hid (hm6.row (HR.out.gr grr) (by have := sz.out; omega)); have Q6 := Lib.hid (hm6.row (HQ.out.gr grr) (by have := HB.out; omega)); have M6 := Lib.hid ((HM.out.gr grr).trans HB.out hm6); have hz6 : w5.heap.size ≤ w6.heap.size := Nat.le_trans hz (by have := hm6.size; simpa using this); clear hm6 x0 x1 z1 zf zh; have z1 := R6.out.cell 1 (by simp); have zf := R6.out.free 1; have zh := R6.out.has; simp only [List.getElem_cons_zero, List.getElem_cons_succ] at z1)
            | (refine step_append_lies _ (by rfl) _ _ _ (by rfl) w5.heap.size 3 i0 (.int .i64 0) 1 8 Tryz.underlying22 hi hz0 hz1 hz2 rfl (by decide) (.slice a ps.length c) ps.length (nums ps) (by simp [Act.eval, Act.put]) (O6.out.alloc _) ⟨w6.heap.size, 0, none⟩ 1 1 (nums [x]) (by simp [Act.eval, Act.put]) rfl (cell_one_new _ _ _) (nums_one _) (by omega) (by unfold maxLen; omega) (by omega) (by simp; omega) _ rfl ?_; intro g' cap' wz hown' hgrow hat hlt; have RZ := Lib.hid ((R6.out.alloc _).grown hgrow (owns_apart O6.out R6.out.s (by decide))); have QZ := Lib.hid ((Q6.out.alloc _).grown hgrow (owns_apart O6.out Q6.out.s (by decide))); have MZ := Lib.hid ((M6.out.alloc _).grown hgrow (fun k e => by have := (O6.out.lt k e).1; have := M6.out.size; have := sz5.out; have := sz.out; omega)); have OZ := Lib.hid hown'; have hzz := hgrow.size; clear z1 zf zh hown' hgrow hat hlt; have z1 := RZ.out.cell 1 (by simp); have zf := RZ.out.free 1; have zh := RZ.out.has; simp only [List.getElem_cons_zero, List.getElem_cons_succ] at z1))
          all_goals
            go_wp2_with fail
            go_roundw
            case rel =>
              refine ⟨m', ps ++ [x], some ⟨g', 0, none⟩, cap', by go_num, by simp; omega, .inl (by simp), ?_, ?_, ?_, ?_, ?_, ?_⟩
              · intro y hy
                rcases List.mem_append.1 hy with q | q
                · exact NR.out y q
                · rw [List.mem_singleton.1 q]; exact HX.out
              · have := owns_set (o := 1) (x := .slice (some ⟨g', 0, none⟩) (ps.length + 1) cap') OZ.out RZ.out.s (by decide)
                rw [List.length_append]
                simpa [nums] using this
              · have := RZ.out.set 1 (.slice (some ⟨g', 0, none⟩) (ps.length + 1) cap')
                simpa using this
              · exact QZ.out.oth (by have := sz.out; omega)
              · exact MZ.out.setc (by have := sz.out; omega)
              · rw [size_set]; simp at hzz; omega
            case measure => simp [intOf]
        · obtain rfl : m = 0 := by omega
          obtain ⟨a', c', e', hc', o1⟩ := owns_own1 HO.out
          cases e'
          have O1 := Lib.hid (o1.low (base' := B) (by have := sz5.out; omega))
          have GE' : Hid (1 ≤ ps.length) := Lib.hid (by have := GE.out; omega)
          clear o1
          go_wp2_with fail
          refine (order_any wo b len ps.length (HM.out.tp TT.out) (by omega)).mono ?_
          rintro e w7 ⟨xs, v7, rfl, hp7, ho7, hm7⟩
          have hxl : xs.length = ps.length := by have := hp7.length_eq; simpa [upI] using this
          have WX : Hid (∀ x ∈ xs, Near x) := Lib.hid fun x hx => by have := upI_mem (hp7.mem_iff.1 hx); unfold Near; omega
          obtain ⟨a7, c7, rfl⟩ := owns_slice ho7
          obtain ⟨a7', c7', e7, hc7, o7⟩ := owns_own1 ho7
          cases e7
          have XL := Lib.hid hxl
          have O7 := Lib.hid (o7.low (base' := B + 1) (by have := HM.out.size; have := sz5.out; omega))
          have P7 := Lib.hid ((hm7.own1 (O1.out) (by have := sz.out; omega)))
          have P8 := Lib.hid (hm7.own1 ((owns_own1_low HO.out (by have := sz5.out; omega) : Own1 (B + 1) wo 3 (nums ps) a)) (by have := sz.out; omega))
          have R7 := Lib.hid (hm7.row HR.out (by have := sz.out; omega))
          have Q7 := Lib.hid (hm7.row HQ.out (by have := HB.out; omega))
          have M7 := Lib.hid (HM.out.trans HB.out hm7)
          clear hp7 ho7 hm7 hxl o7 z1 zf zh HO HR HQ HM P7
          have z2 := R7.out.cell 2 (by simp)
          have zf := R7.out.free 2
          have zh := R7.out.has
          simp only [List.getElem_cons_zero, List.getElem_cons_succ] at z2
          go_upto_region 21 with (fail)
          obtain ⟨W8, hW8⟩ : ∃ W8 : World, Hid (W8 = w7.setCell ⟨B, 2, none⟩ (.slice a7 ps.length c7)) := ⟨_, Lib.hid rfl⟩
          rw [← hW8.out]
          have O8 : Hid (Own1 (B + 1) W8 3 (nums xs) a7) := Lib.hid (by rw [hW8.out]; exact O7.out.oth (by omega))
          have P9 : Hid (Own1 (B + 1) W8 3 (nums ps) a) := Lib.hid (by rw [hW8.out]; exact P8.out.oth (by omega))
          have R8 : Hid (Row W8 B 79 [.int .i64 4, .slice a ps.length c, .slice a7 ps.length c7, .int .i64 0, .int .i64 0]) := Lib.hid (by rw [hW8.out]; exact R7.out.set 2 _)
          have Q8 : Hid (Row W8 w.heap.size 79 [.int .i64 0, .slice none 0 0, .slice none 0 0, .int .i64 0, .int .i64 0]) := Lib.hid (by rw [hW8.out]; exact Q7.out.oth (by have := sz.out; omega))
          have M8 : Hid (Mv b len w W8) := Lib.hid (by rw [hW8.out]; exact M7.out.setc (by have := sz.out; omega))
          have bw : Hid (b < B + 1) := Lib.hid (by have := sz.out; omega)
          have h8 : Hid (W8.heap.size ≥ B + 1) := Lib.hid R8.out.has
          clear hW8 O7 P8 R7 Q7 M7 z2 zf zh
          have z2 := R8.out.cell 2 (by simp)
          have zf := R8.out.free 2
          have zh := R8.out.has
          simp only [List.getElem_cons_zero, List.getElem_cons_succ] at z2
          have ge1 : 1 ≤ ps.length := GE'.out
          go_region_with (go_at_call 45; refine (rangeM_any _ b len 1 (ps.length : Int) ((M8.out.gr grr).tp TT.out) (by omega) (by omega) (by omega)).mono ?_; rintro e w9 ⟨x, rfl, ⟨x0, x1⟩, hm9⟩; obtain ⟨q, rfl⟩ := Int.eq_ofNat_of_zero_le (show 0 ≤ x by omega); have O9 := Lib.hid (hm9.own1 (O8.out.gr grr) bw.out); have P10 := Lib.hid (hm9.own1 (P9.out.gr grr) bw.out); have R9 := Lib.hid (hm9.row (R8.out.gr grr) (by have := sz.out; omega)); have Q9 := Lib.hid (hm9.row (Q8.out.gr grr) (by have := HB.out; omega)); have M9 := Lib.hid ((M8.out.gr grr).trans HB.out hm9); clear hm9 z2 zf zh; have z2 := R9.out.cell 2 (by simp); have zf := R9.out.free 2; have zh := R9.out.has; simp only [List.getElem_cons_zero, List.getElem_cons_succ] at z2; have qc : (q : Int) ≤ c7 := (by omega); have qn : q ≤ ps.length := (by omega))
          all_goals (go_wp2_with fail; go_meet)
          all_goals
            have tl : (xs.take q).length = q := by rw [List.length_take, XL.out]; omega
            refine ⟨ps, xs.take q, ⟨by omega, by rw [tl]; omega, by rw [tl]; omega, NR.out, fun y hy => WX.out y (List.mem_of_mem_take hy)⟩, ⟨a, c, a7, c7, ?_, (P10.out.oth (by omega)).low (by omega), hc', (own1_take O9.out q |>.oth (by omega)).low (by omega), by rw [tl]; omega⟩, Q9.out.oth (by have := sz.out; omega), M9.out.setc (by have := sz.out; omega)⟩
            rw [tl]
            exact R9.out.set 2 _
    · go_wp2_with fail
      refine (nM2_any W2 b len k T2.out (by omega) (by omega)).mono ?_
      rintro e w3 ⟨p, rfl, ⟨p0, p1⟩, hm⟩
      have hsz : B ≤ w3.heap.size := by have := hm.size; have := sz.out; omega
      have M3 := Lib.hid (M2.out.trans HB.out hm)
      have R3 := Lib.hid (hm.row R2.out (by have := sz.out; omega))
      have R6 := Lib.hid (hm.row R5.out (by have := HB.out; omega))
      have z1 := R3.out.cell 1 (by simp)
      have z2 := R3.out.cell 2 (by simp)
      have zf := R3.out.free 1
      have zg := R3.out.free 2
      have zh := R3.out.has
      simp only [List.getElem_cons_zero, List.getElem_cons_succ] at z1 z2
      clear hm
      go_wp2_with fail
      go_meet
      refine ⟨[p], [0, 1], ⟨by simp, by simp, by simp, by simp [Near]; omega, by simp [Near]⟩, ⟨some ⟨w3.heap.size, 0, none⟩, 1, some ⟨w3.heap.size + 1, 0, none⟩, 2, ?_, ?_, Nat.le_refl _, ?_, Nat.le_refl _⟩, ?_, ?_⟩
      · exact (((R3.out.set 1 _).set 2 _).alloc _).alloc _
      · exact (own1_at _ [p] _ rfl _ B w3.heap.size (by simp [size_set]) hsz).gr ((Gr.refl _).alloc _)
      · exact own1_at _ [0, 1] _ rfl _ B (w3.heap.size + 1) (by simp [size_set]) (by omega)
      · exact (((R6.out.oth (by have := sz.out; omega)).oth (by have := sz.out; omega)).alloc _).alloc _
      · exact (((M3.out.setc (by have := sz.out; omega)).setc (by have := sz.out; omega)).alloc _).alloc _
  obtain ⟨ps, cs, hol, ⟨ap, cp, ac, cc, hr, hp, hpc, ha, hac⟩, hq, hm⟩ := hcut
  obtain ⟨WC, rfl⟩ : ∃ WC : World, WC = wc := ⟨_, rfl⟩
  have OL := Lib.hid hol
  have RC := Lib.hid hr
  have PC := Lib.hid hp
  have AC := Lib.hid ha
  have QC := Lib.hid hq
  have MC := Lib.hid hm
  have bB : Hid (b < B) := Lib.hid sz.out.1
  clear hol hr hp ha hq hm R2 R5 M2 T2
  go_wp2_with fail
  refine (nM2_any WC b len 5 (MC.out.tp TT.out) (by omega) (by omega)).mono ?_
  rintro e w3 ⟨x, rfl, ⟨x0, x1⟩, hm3⟩
  have R3 := Lib.hid (hm3.row RC.out (by have := bB.out; omega))
  have P3 := Lib.hid (hm3.own1 PC.out bB.out)
  have A3 := Lib.hid (hm3.own1 AC.out bB.out)
  have Q3 := Lib.hid (hm3.row QC.out (by have := HB.out; omega))
  have M3 := Lib.hid (MC.out.trans HB.out hm3)
  clear hm3 RC PC AC QC MC
  have r0 := R3.out.cell 0 (by simp)
  have r1 := R3.out.cell 1 (by simp)
  have r2 := R3.out.cell 2 (by simp)
  have r3 := R3.out.cell 3 (by simp)
  have r4 := R3.out.cell 4 (by simp)
  have rf := R3.out.free 3
  have rh := R3.out.has
  have q0 := Q3.out.cell 0 (by simp)
  have q1 := Q3.out.cell 1 (by simp)
  have q2 := Q3.out.cell 2 (by simp)
  have q3 := Q3.out.cell 3 (by simp)
  have q4 := Q3.out.cell 4 (by simp)
  have qf0 := Q3.out.free 0
  have qf1 := Q3.out.free 1
  have qf2 := Q3.out.free 2
  have qf3 := Q3.out.free 3
  have qf4 := Q3.out.free 4
  have qh := Q3.out.has
  simp only [List.getElem_cons_zero, List.getElem_cons_succ] at r0 r1 r2 r3 r4 q0 q1 q2 q3 q4
  by_cases hx : x = 0
  · have hxb : (x == 0) = true := by simp [hx]
    clear hx
    go_wp2_with fail
    refine (pickNew_any w3 b len (M3.out.tp TT.out) _ rfl _ 4 [0, 1, 10, 100] (InTo 0 100) rfl rfl (by omega) (by omega) (by simp [InTo])).mono ?_
    rintro e w4 ⟨lo, rfl, ⟨lo0, lo1⟩, hm4⟩
    have R4 := Lib.hid (hm4.row R3.out (by have := bB.out; omega))
    have P4 := Lib.hid (hm4.own1 P3.out bB.out)
    have A4 := Lib.hid (hm4.own1 A3.out bB.out)
    have Q4 := Lib.hid (hm4.row Q3.out (by have := HB.out; omega))
    have M4 := Lib.hid (M3.out.trans HB.out hm4)
    clear hm4 R3 P3 A3 Q3 M3 r0 r1 r2 r3 r4 rf rh q0 q1 q2 q3 q4 qf0 qf1 qf2 qf3 qf4 qh
    have r3 := R4.out.cell 3 (by simp)
    have rf := R4.out.free 3
    have rh := R4.out.has
    simp only [List.getElem_cons_zero, List.getElem_cons_succ] at r3
    go_upto_region 24 with (fail)
    obtain ⟨W5, hW5⟩ : ∃ W5 : World, Hid (W5 = w4.setCell ⟨B, 3, none⟩ (.int .i64 lo)) := ⟨_, Lib.hid rfl⟩
    rw [← hW5.out]
    have R5 : Hid (Row W5 B 79 [.int .i64 kd, .slice ap ps.length cp, .slice ac cs.length cc, .int .i64 lo, .int .i64 0]) := Lib.hid (by rw [hW5.out]; exact R4.out.set 3 _)
    have P5 : Hid (Own1 B W5 3 (nums ps) ap) := Lib.hid (by rw [hW5.out]; exact own1_set R4.out P4.out)
    have A5 : Hid (Own1 B W5 3 (nums cs) ac) := Lib.hid (by rw [hW5.out]; exact own1_set R4.out A4.out)
    have Q5 : Hid (Row W5 w.heap.size 79 [.int .i64 0, .slice none 0 0, .slice none 0 0, .int .i64 0, .int .i64 0]) := Lib.hid (by rw [hW5.out]; exact Q4.out.oth (by have := sz.out; omega))
    have M5 : Hid (Mv b len w W5) := Lib.hid (by rw [hW5.out]; exact M4.out.setc (by have := sz.out; omega))
    clear hW5 R4 P4 A4 Q4 M4 r3 rf rh
    have r3 := R5.out.cell 3 (by simp)
    have rh := R5.out.has
    simp only [List.getElem_cons_zero, List.getElem_cons_succ] at r3
    go_region_with (go_at_call 49; refine (pickAt_any _ W5 b len ((M5.out.gr grr).tp TT.out) _ #[.int .i64 0, .int .i64 20, .int .i64 200, .int .i64 1000000000] 4 [0, 20, 200, 1000000000] (InTo 0 1000000000) rfl grr (M5.out.tp TT.out).has rfl rfl (by omega) (by omega) (by simp [InTo])).mono ?_; rintro e w6 ⟨x6, rfl, ⟨x60, x61⟩, hm6⟩; have R6 := Lib.hid (hm6.row (R5.out.gr grr) (by have := bB.out; omega)); have P6 := Lib.hid (hm6.own1 (P5.out.gr grr) bB.out); have A6 := Lib.hid (hm6.own1 (A5.out.gr grr) bB.out); have Q6 := Lib.hid (hm6.row (Q5.out.gr grr) (by have := HB.out; omega)); have M6 := Lib.hid ((M5.out.gr grr).trans HB.out hm6); clear hm6 r3 rh; have r0 := R6.out.cell 0 (by simp); have r1 := R6.out.cell 1 (by simp); have r2 := R6.out.cell 2 (by simp); have r3 := R6.out.cell 3 (by simp); have r4 := R6.out.cell 4 (by simp); have rf := R6.out.free 4; have rh := R6.out.has; have q0 := Q6.out.cell 0 (by simp); have q1 := Q6.out.cell 1 (by simp); have q2 := Q6.out.cell 2 (by simp); have q3 := Q6.out.cell 3 (by simp); have q4 := Q6.out.cell 4 (by simp); have qf0 := Q6.out.free 0; have qf1 := Q6.out.free 1; have qf2 := Q6.out.free 2; have qf3 := Q6.out.free 3; have qf4 := Q6.out.free 4; have qh := Q6.out.has; simp only [List.getElem_cons_zero, List.getElem_cons_succ] at r0 r1 r2 r3 r4 q0 q1 q2 q3 q4)
    all_goals
      obtain ⟨hi, hhi⟩ : ∃ hi : Int, Hid (lo + x6 = hi) := ⟨_, Lib.hid rfl⟩
      have hi0 : 0 ≤ hi ∧ hi ≤ 2000000000 := by have := hhi.out; omega
      have hw : IntKind.i64.wrap (lo + x6) = hi := by rw [hhi.out]; simp [IntKind.wrap, IntKind.bits, IntKind.signed] <;> omega
      rw [hw]
      obtain ⟨WZ, hWZ⟩ : ∃ WZ : World, Hid (WZ = w6.setCell ⟨B, 4, none⟩ (.int .i64 hi)) := ⟨_, Lib.hid rfl⟩
      rw [← hWZ.out]
      have RZ : Hid (Row WZ B 79 [.int .i64 kd, .slice ap ps.length cp, .slice ac cs.length cc, .int .i64 lo, .int .i64 hi]) := Lib.hid (by rw [hWZ.out]; exact R6.out.set 4 _)
      have PZ : Hid (Own1 B WZ 3 (nums ps) ap) := Lib.hid (by rw [hWZ.out]; exact own1_set R6.out P6.out)
      have AZ : Hid (Own1 B WZ 3 (nums cs) ac) := Lib.hid (by rw [hWZ.out]; exact own1_set R6.out A6.out)
      have QZ : Hid (Row WZ w.heap.size 79 [.int .i64 0, .slice none 0 0, .slice none 0 0, .int .i64 0, .int .i64 0]) := Lib.hid (by rw [hWZ.out]; exact Q6.out.oth (by have := sz.out; omega))
      have MZ : Hid (Mv b len w WZ) := Lib.hid (by rw [hWZ.out]; exact M6.out.setc (by have := sz.out; omega))
      clear hWZ R6 P6 A6 Q6 M6 r0 r1 r2 r3 r4 rf rh q0 q1 q2 q3 q4 qf0 qf1 qf2 qf3 qf4 qh hw
      have r0 := RZ.out.cell 0 (by simp); have r1 := RZ.out.cell 1 (by simp); have r2 := RZ.out.cell 2 (by simp); have r3 := RZ.out.cell 3 (by simp); have r4 := RZ.out.cell 4 (by simp); have rh := RZ.out.has; have q0 := QZ.out.cell 0 (by simp); have q1 := QZ.out.cell 1 (by simp); have q2 := QZ.out.cell 2 (by simp); have q3 := QZ.out.cell 3 (by simp); have q4 := QZ.out.cell 4 (by simp); have qf0 := QZ.out.free 0; have qf1 := QZ.out.free 1; have qf2 := QZ.out.free 2; have qf3 := QZ.out.free 3; have qf4 := QZ.out.free 4; have qh := QZ.out.has; simp only [List.getElem_cons_zero, List.getElem_cons_succ] at r0 r1 r2 r3 r4 q0 q1 q2 q3 q4
      go_wp2_with fail
      obtain ⟨WF, hWF⟩ : ∃ WF : World, Hid (WF = (((((WZ.setCell ⟨w.heap.size, 0, none⟩ (.int .i64 kd)).setCell ⟨w.heap.size, 1, none⟩ (.slice ap ps.length cp)).setCell ⟨w.heap.size, 2, none⟩ (.slice ac cs.length cc)).setCell ⟨w.heap.size, 3, none⟩ (.int .i64 lo)).setCell ⟨w.heap.size, 4, none⟩ (.int .i64 hi))) := ⟨_, Lib.hid rfl⟩
      rw [← hWF.out]
      have QF : Hid (Row WF w.heap.size 79 [.int .i64 kd, .slice ap ps.length cp, .slice ac cs.length cc, .int .i64 lo, .int .i64 hi]) := Lib.hid (by rw [hWF.out]; exact ((((QZ.out.set 0 _).set 1 _).set 2 _).set 3 _).set 4 _)
      have PF : Hid (Own1 B WF 3 (nums ps) ap) := Lib.hid (by rw [hWF.out]; exact ((((PZ.out.oth (by have := sz.out; omega)).oth (by have := sz.out; omega)).oth (by have := sz.out; omega)).oth (by have := sz.out; omega)).oth (by have := sz.out; omega))
      have AF : Hid (Own1 B WF 3 (nums cs) ac) := Lib.hid (by rw [hWF.out]; exact ((((AZ.out.oth (by have := sz.out; omega)).oth (by have := sz.out; omega)).oth (by have := sz.out; omega)).oth (by have := sz.out; omega)).oth (by have := sz.out; omega))
      have MF : Hid (Mv b len w WF) := Lib.hid (by rw [hWF.out]; exact ((((MZ.out.setc (Nat.le_refl _)).setc (Nat.le_refl _)).setc (Nat.le_refl _)).setc (Nat.le_refl _)).setc (Nat.le_refl _))
      clear hWF
      have f0 := QF.out.cell 0 (by simp)
      have f1 := QF.out.cell 1 (by simp)
      have f2 := QF.out.cell 2 (by simp)
      have f3 := QF.out.cell 3 (by simp)
      have f4 := QF.out.cell 4 (by simp)
      simp only [List.getElem_cons_zero, List.getElem_cons_succ] at f0 f1 f2 f3 f4
      refine bodyPost_ret (v := .agg #[.int .i64 kd, .slice ap ps.length cp, .slice ac cs.length cc, .int .i64 lo, .int .i64 hi]) ?_ rfl ⟨kd, ps, cs, lo, hi, ap, cp, ac, cc, rfl, OL.out, ⟨kd1, kd2⟩, by omega, by omega, PF.out.low (by have := sz.out; omega), hpc, AF.out.low (by have := sz.out; omega), hac, MF.out⟩
      simp [results, Tryz.results50, go_sem, f0, f1, f2, f3, f4]
  · have hxb : (x == 0) = false := by simp [hx]
    clear hx
    go_wp2_with fail
    obtain ⟨WF, hWF⟩ : ∃ WF : World, Hid (WF = (((((w3.setCell ⟨w.heap.size, 0, none⟩ (.int .i64 kd)).setCell ⟨w.heap.size, 1, none⟩ (.slice ap ps.length cp)).setCell ⟨w.heap.size, 2, none⟩ (.slice ac cs.length cc)).setCell ⟨w.heap.size, 3, none⟩ (.int .i64 0)).setCell ⟨w.heap.size, 4, none⟩ (.int .i64 0))) := ⟨_, Lib.hid rfl⟩
    rw [← hWF.out]
    have QF : Hid (Row WF w.heap.size 79 [.int .i64 kd, .slice ap ps.length cp, .slice ac cs.length cc, .int .i64 0, .int .i64 0]) := Lib.hid (by rw [hWF.out]; exact ((((Q3.out.set 0 _).set 1 _).set 2 _).set 3 _).set 4 _)
    have PF : Hid (Own1 B WF 3 (nums ps) ap) := Lib.hid (by rw [hWF.out]; exact ((((P3.out.oth (by have := sz.out; omega)).oth (by have := sz.out; omega)).oth (by have := sz.out; omega)).oth (by have := sz.out; omega)).oth (by have := sz.out; omega))
    have AF : Hid (Own1 B WF 3 (nums cs) ac) := Lib.hid (by rw [hWF.out]; exact ((((A3.out.oth (by have := sz.out; omega)).oth (by have := sz.out; omega)).oth (by have := sz.out; omega)).oth (by have := sz.out; omega)).oth (by have := sz.out; omega))
    have MF : Hid (Mv b len w WF) := Lib.hid (by rw [hWF.out]; exact ((((M3.out.setc (Nat.le_refl _)).setc (Nat.le_refl _)).setc (Nat.le_refl _)).setc (Nat.le_refl _)).setc (Nat.le_refl _))
    clear hWF
    have f0 := QF.out.cell 0 (by simp)
    have f1 := QF.out.cell 1 (by simp)
    have f2 := QF.out.cell 2 (by simp)
    have f3 := QF.out.cell 3 (by simp)
    have f4 := QF.out.cell 4 (by simp)
    simp only [List.getElem_cons_zero, List.getElem_cons_succ] at f0 f1 f2 f3 f4
    refine bodyPost_ret (v := .agg #[.int .i64 kd, .slice ap ps.length cp, .slice ac cs.length cc, .int .i64 0, .int .i64 0]) ?_ rfl ⟨kd, ps, cs, 0, 0, ap, cp, ac, cc, rfl, OL.out, ⟨kd1, kd2⟩, by omega, by omega, PF.out.low (by have := sz.out; omega), hpc, AF.out.low (by have := sz.out; omega), hac, MF.out⟩
    simp [results, Tryz.results50, go_sem, f0, f1, f2, f3, f4]
end Go.Proofs.YtenehghpmnajpaaGreatDoor
