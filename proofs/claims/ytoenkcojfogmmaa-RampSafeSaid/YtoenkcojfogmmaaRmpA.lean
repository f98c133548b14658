/- Rows with spare room; slices.Clone of []bool and []int; ramp.copied. -/
import Derived.Test.YtoenkcojfogmmaaPrgH
import Derived.Maps.AppendAt
set_option linter.unusedVariables false
set_option linter.unusedSimpArgs false
namespace Go.Proofs.Ytoenkcojfogmmaa
open Go.RowKit
open Classical

/-- Block B begins with the cells vs, none of them frozen. -/
def RowS (w : World) (B T : Nat) (vs : List Value) : Prop := ∃ rest, Row w B T (vs ++ rest)
theorem Row.s {w : World} {B T : Nat} {vs : List Value} (h : Row w B T vs) : RowS w B T vs := ⟨[], by simpa using h⟩
theorem RowS.cell {w : World} {B T : Nat} {vs : List Value} (h : RowS w B T vs) (k : Nat) (hk : k < vs.length) : w.cell? ⟨B, k, none⟩ = some vs[k] := by
  obtain ⟨rest, h⟩ := h
  rw [h.cell k (by simp; omega), List.getElem_append_left hk]
theorem RowS.free {w : World} {B T : Nat} {vs : List Value} (h : RowS w B T vs) (k : Nat) : w.frozen? ⟨B, k, none⟩ = false := h.elim fun _ h => h.free k
theorem RowS.has {w : World} {B T : Nat} {vs : List Value} (h : RowS w B T vs) : Has w B := h.elim fun _ h => h.has
theorem RowS.set {w : World} {B T : Nat} {vs : List Value} (h : RowS w B T vs) (k : Nat) (hk : k < vs.length) (v : Value) : RowS (w.setCell ⟨B, k, none⟩ v) B T (vs.set k v) := by
  obtain ⟨rest, h⟩ := h
  refine ⟨rest, ?_⟩
  have := h.set k v
  rwa [List.set_append_left _ _ hk] at this
theorem RowS.oth {w : World} {B T b o : Nat} {vs : List Value} {v : Value} (h : RowS w B T vs) (ha : b ≠ B) : RowS (w.setCell ⟨b, o, none⟩ v) B T vs := h.elim fun r h => ⟨r, h.oth ha⟩
theorem RowS.gr {w w' : World} {B T : Nat} {vs : List Value} (h : RowS w B T vs) (hg : Gr w w') : RowS w' B T vs := h.elim fun r h => ⟨r, h.gr hg⟩
theorem RowS.alloc {w : World} {B T : Nat} {vs : List Value} (o : Obj) (h : RowS w B T vs) : RowS (w.alloc o) B T vs := h.gr ((Gr.refl w).alloc o)
theorem RowS.xt {w : World} {B T : Nat} {vs : List Value} (O : Array Obj) (d : Nat) (h : RowS w B T vs) : RowS (xt w O d) B T vs := h.gr ((Gr.refl w).xt O d)
theorem RowS.drew {w : World} {B T : Nat} {vs : List Value} (h : RowS w B T vs) : RowS w.drew B T vs := h.gr (Gr.refl w).drew
theorem RowS.bat {w : World} {B T : Nat} {vs : List Bool} (h : RowS w B T (bools vs)) (k : Nat) (hk : k < vs.length) : w.cell? ⟨B, k, none⟩ = some (.bool vs[k]) := by
  rw [h.cell k (by simpa [bools] using hk)]; simp [bools]
theorem RowS.iat {w : World} {B T : Nat} {vs : List Int} (h : RowS w B T (nums vs)) (k : Nat) (hk : k < vs.length) : w.cell? ⟨B, k, none⟩ = some (.int .i64 vs[k]) := by
  rw [h.cell k (by simpa [nums] using hk)]; simp [nums]
theorem RowS.bset {w : World} {B T : Nat} {vs : List Bool} (h : RowS w B T (bools vs)) (k : Nat) (hk : k < vs.length) (b : Bool) : RowS (w.setCell ⟨B, k, none⟩ (.bool b)) B T (bools (vs.set k b)) := by
  rw [← bools_set]; exact h.set k (by simpa [bools] using hk) _
theorem RowS.iset {w : World} {B T : Nat} {vs : List Int} (h : RowS w B T (nums vs)) (k : Nat) (hk : k < vs.length) (b : Int) : RowS (w.setCell ⟨B, k, none⟩ (.int .i64 b)) B T (nums (vs.set k b)) := by
  rw [← nums_set]; exact h.set k (by simpa [nums] using hk) _
theorem RowS.slB {w : World} {B T : Nat} {vs : List Bool} (h : RowS w B T (bools vs)) : SlOf 1 RB w (some ⟨B, 0, none⟩) vs := fun k hk => ⟨B, 0, rfl, by rw [Nat.mul_one, Nat.zero_add]; exact h.bat k hk⟩
theorem RowS.slI {w : World} {B T : Nat} {vs : List Int} (h : RowS w B T (nums vs)) (hw : ∀ k (hk : k < vs.length), Wide vs[k]) : SlOf 1 RI w (some ⟨B, 0, none⟩) vs := fun k hk => ⟨B, 0, rfl, by rw [Nat.mul_one, Nat.zero_add]; exact ⟨h.iat k hk, hw k hk⟩⟩
theorem RowS.apart {w : World} {B C T U : Nat} {vs us : List Value} (h : RowS w B T vs) (k : RowS w C U us) (hT : T ≠ U) : B ≠ C := by
  rintro rfl
  obtain ⟨r, h⟩ := h
  obtain ⟨s, k⟩ := k
  unfold Row at h k
  rw [h] at k
  injection k with k
  injection k with _ k
  exact hT k

theorem bools_one (vs : List Bool) : ∀ u ∈ bools vs, u.oneCell' = true := by
  intro u hu
  obtain ⟨x, _, rfl⟩ := List.mem_map.1 hu
  rfl
theorem nums_one (vs : List Int) : ∀ u ∈ nums vs, u.oneCell' = true := by
  intro u hu
  obtain ⟨x, _, rfl⟩ := List.mem_map.1 hu
  rfl
/-- A slice at the head of a block of its own, at or beyond base. -/
def Own1 (base : Nat) (w : World) (T : Nat) (vs : List Value) (a : Option Addr) : Prop := vs = [] ∨ ∃ B, a = some ⟨B, 0, none⟩ ∧ base ≤ B ∧ RowS w B T vs
theorem Own1.gr {base : Nat} {w w' : World} {T : Nat} {vs : List Value} {a : Option Addr} (h : Own1 base w T vs a) (hg : Gr w w') : Own1 base w' T vs a := by
  rcases h with h | ⟨B, e, hb, h⟩
  · exact .inl h
  · exact .inr ⟨B, e, hb, h.gr hg⟩
theorem Own1.low {base base' : Nat} {w : World} {T : Nat} {vs : List Value} {a : Option Addr} (h : Own1 base w T vs a) (hb : base' ≤ base) : Own1 base' w T vs a := by
  rcases h with h | ⟨B, e, hB, h⟩
  · exact .inl h
  · exact .inr ⟨B, e, by omega, h⟩
theorem Own1.slB {base : Nat} {w : World} {T : Nat} {vs : List Bool} {a : Option Addr} (h : Own1 base w T (bools vs) a) : SlOf 1 RB w a vs := by
  rcases h with h | ⟨B, rfl, hb, h⟩
  · have : vs = [] := by simpa [bools] using h
    subst this; exact SlOf.nil _ _ _ _
  · exact h.slB
theorem Own1.slI {base : Nat} {w : World} {T : Nat} {vs : List Int} {a : Option Addr} (h : Own1 base w T (nums vs) a) (hw : ∀ k (hk : k < vs.length), Wide vs[k]) : SlOf 1 RI w a vs := by
  rcases h with h | ⟨B, rfl, hb, h⟩
  · have : vs = [] := by simpa [nums] using h
    subst this; exact SlOf.nil _ _ _ _
  · exact h.slI hw
theorem Gr.grown {w W w' : World} {row : Option Nat} (h : Gr w W) (hg : W.grownBy w' row) (hrow : ∀ k, row = some k → w.heap.size ≤ k) : Gr w w' := by
  have hb := h.below
  refine .of_below ⟨hg.os.trans hb.os, hg.tape.trans hb.tape, hg.output.trans hb.output, Nat.le_trans hb.size hg.size, fun k hk => ?_⟩
  rw [hg.block k (Nat.lt_of_lt_of_le hk hb.size) (fun e => by have := hrow k e.symm; omega)]
  exact hb.block k hk
/-- What an append leaves. -/
theorem owns_own1 {w : World} {base e n : Nat} {v : Value} {xs : List Value} (h : w.ownsRow base e 1 v n xs) : ∃ a c, v = .slice a n c ∧ n ≤ c ∧ Own1 base w e xs a := by
  obtain ⟨h0, ⟨rfl, rfl⟩ | ⟨g, cap, cur, rfl, hb, hg, hn, _, hs, ht⟩⟩ := h
  · exact ⟨none, 0, rfl, Nat.le_refl _, .inl (List.eq_nil_of_length_eq_zero (by simpa using h0))⟩
  · refine ⟨_, cap, rfl, hn, .inr ⟨g, rfl, hb, cur.toList.drop (n * 1), ?_⟩⟩
    rw [← ht, List.take_append_drop]
    exact hg
theorem slB_cells {w : World} {b o : Nat} {s : Option Nat} {vs : List Bool} (h : SlOf 1 RB w (some ⟨b, o, s⟩) vs) : ∀ j u, (bools vs)[j]? = some u → w.cell? ((⟨b, o, s⟩ : Addr).add j) = some u := by
  intro j u hu
  obtain ⟨hj, hu⟩ := List.getElem?_eq_some_iff.1 hu
  have hj' : j < vs.length := by simpa [bools] using hj
  obtain ⟨b', o', e, q⟩ := h.one j hj'
  cases e
  have : (⟨b, o, none⟩ : Addr).add j = ⟨b, o + j, none⟩ := by unfold Addr.add; split <;> simp_all
  rw [this, q, ← hu]; simp [bools]
theorem slI_cells {w : World} {b o : Nat} {s : Option Nat} {vs : List Int} (h : SlOf 1 RI w (some ⟨b, o, s⟩) vs) : ∀ j u, (nums vs)[j]? = some u → w.cell? ((⟨b, o, s⟩ : Addr).add j) = some u := by
  intro j u hu
  obtain ⟨hj, hu⟩ := List.getElem?_eq_some_iff.1 hu
  have hj' : j < vs.length := by simpa [nums] using hj
  obtain ⟨b', o', e, q⟩ := h.one j hj'
  cases e
  have : (⟨b, o, none⟩ : Addr).add j = ⟨b, o + j, none⟩ := by unfold Addr.add; split <;> simp_all
  rw [this, q.1, ← hu]; simp [nums]
theorem sl_none {α : Type} {n : Nat} {R : World → Nat → Nat → α → Prop} {w : World} {xs : List α} (h : SlOf n R w none xs) : xs = [] := by
  rcases Nat.eq_zero_or_pos xs.length with e | e
  · exact List.eq_nil_of_length_eq_zero e
  · obtain ⟨b, o, e, _⟩ := h 0 e; cases e
/-- The call returns a slice of its own with the cells vs. -/
def GivesOwn (w : World) (T : Nat) (vs : List Value) (e : Ending) (w' : World) : Prop :=
  ∃ a c, e = .returned (.slice a vs.length c) ∧ vs.length ≤ c ∧ Own1 w.heap.size w' T vs a ∧ Gr w w'

set_option maxRecDepth 100000 in
set_option maxHeartbeats 1000000 in
theorem cloneB_any (vs : List Bool) (ao : Option Addr) (cap : Nat) (w : World) (h : SlOf 1 RB w ao vs) (hf : Fit vs.length) :
    Calls Try.prog 71 #[.slice ao vs.length cap] w (GivesOwn w 4 (bools vs)) := by
  unfold Fit at hf
  have H := Lib.hid h
  clear h
  obtain ⟨i0, hi, hz0, hz1, hz2⟩ := info_parts infoBool
  cases ao with
  | none =>
    have := sl_none H.out
    subst this
    have he : ∀ w : World, (binOp .eql 29 (.slice none 0 cap) (.slice none 0 0)).run Try.prog w = .ok (.bool true) w := fun _ => rfl
    simp only [List.length_nil]
    go_enter Try.func71, Try.ntmps71
    go_wp2_with fail
    go_ret
    exact ⟨none, 0, rfl, Nat.le_refl _, .inl rfl, Gr.refl _⟩
  | some a =>
    obtain ⟨b, o, s⟩ := a
    have he : ∀ w : World, (binOp .eql 29 (.slice (some ⟨b, o, s⟩) vs.length cap) (.slice none 0 0)).run Try.prog w = .ok (.bool false) w := fun _ => rfl
    go_enter Try.func71, Try.ntmps71
    go_wp2_with (at_builtin; refine wpList_append_own _ rfl _ _ 29 rfl w.heap.size 4 i0 (.bool false) 1 1 Try.underlying29 hi hz0 hz1 hz2 rfl (by decide) _ 0 [] rfl (World.ownsRow_made w #[] 0 (Nat.le_refl _) (by simp) rfl) ⟨b, o, s⟩ vs.length cap (bools vs) rfl (by simp [bools]) (slB_cells (H.out.giB ((Gr.refl _).alloc _))) (bools_one vs) (by unfold maxLen; omega) (by omega) (by simp) ?_; intro v' w1 hown' hgrow hnil)
    obtain ⟨a, c, rfl, hc, ho⟩ := owns_own1 hown'
    rw [Nat.zero_add] at hc ⊢
    rw [List.nil_append] at ho
    go_ret
    exact ⟨a, c, by rw [bools_len]; rfl, by rw [bools_len]; exact hc, ho, ((Gr.refl w).alloc _).grown hgrow (fun k e => by cases e; exact Nat.le_refl _)⟩

set_option maxRecDepth 100000 in
set_option maxHeartbeats 1000000 in
theorem cloneI_any (vs : List Int) (ao : Option Addr) (cap : Nat) (w : World) (h : SlOf 1 RI w ao vs) (hf : vs.length ≤ 1000000) :
    Calls Try.prog 72 #[.slice ao vs.length cap] w (GivesOwn w 3 (nums vs)) := by
  have H := Lib.hid h
  clear h
  obtain ⟨i0, hi, hz0, hz1, hz2⟩ := info_parts infoInt
  cases ao with
  | none =>
    have := sl_none H.out
    subst this
    have he : ∀ w : World, (binOp .eql 22 (.slice none 0 cap) (.slice none 0 0)).run Try.prog w = .ok (.bool true) w := fun _ => rfl
    simp only [List.length_nil]
    go_enter Try.func72, Try.ntmps72
    go_wp2_with fail
    go_ret
    exact ⟨none, 0, rfl, Nat.le_refl _, .inl rfl, Gr.refl _⟩
  | some a =>
    obtain ⟨b, o, s⟩ := a
    have he : ∀ w : World, (binOp .eql 22 (.slice (some ⟨b, o, s⟩) vs.length cap) (.slice none 0 0)).run Try.prog w = .ok (.bool false) w := fun _ => rfl
    go_enter Try.func72, Try.ntmps72
    go_wp2_with (at_builtin; refine wpList_append_own _ rfl _ _ 22 rfl w.heap.size 3 i0 (.int .i64 0) 1 8 Try.underlying22 hi hz0 hz1 hz2 rfl (by decide) _ 0 [] rfl (World.ownsRow_made w #[] 0 (Nat.le_refl _) (by simp) rfl) ⟨b, o, s⟩ vs.length cap (nums vs) rfl (by simp [nums]) (slI_cells (H.out.giI ((Gr.refl _).alloc _))) (nums_one vs) (by unfold maxLen; omega) (by omega) (by simp) ?_; intro v' w1 hown' hgrow hnil)
    obtain ⟨a, c, rfl, hc, ho⟩ := owns_own1 hown'
    rw [Nat.zero_add] at hc ⊢
    rw [List.nil_append] at ho
    go_ret
    exact ⟨a, c, by rw [nums_len]; rfl, by rw [nums_len]; exact hc, ho, ((Gr.refl w).alloc _).grown hgrow (fun k e => by cases e; exact Nat.le_refl _)⟩

theorem xt_swap (W : World) (o o' : Obj) (O : Array Obj) (d d' k : Nat) (hk : k ≠ W.heap.size) : (xt (W.alloc o) O d).heap[k]? = (xt (W.alloc o') O d').heap[k]? := by
  simp only [xt, World.alloc, Array.getElem?_append, Array.size_push, Array.getElem?_push, hk, if_false]
theorem RowS.swap {W : World} {o o' : Obj} {O : Array Obj} {d d' B T : Nat} {vs : List Value} (h : RowS (Ytoenkcojfogmmaa.xt (W.alloc o) O d) B T vs) (hb : B ≠ W.heap.size) : RowS (Ytoenkcojfogmmaa.xt (W.alloc o') O d') B T vs := by
  obtain ⟨r, h⟩ := h
  exact ⟨r, (xt_swap W o' o O d' d B hb).trans h⟩
theorem Own1.swap {base : Nat} {W : World} {o o' : Obj} {O : Array Obj} {d d' T : Nat} {vs : List Value} {a : Option Addr} (h : Own1 base (xt (W.alloc o) O d) T vs a) (hb : W.heap.size < base) : Own1 base (xt (W.alloc o') O d') T vs a := by
  rcases h with h | ⟨B, e, hB, h⟩
  · exact .inl h
  · exact .inr ⟨B, e, hB, h.swap (by omega)⟩
/-- The call returns rails of its own. -/
def GivesRls (w : World) (r : Rls) (e : Ending) (w' : World) : Prop :=
  ∃ a1 c1 a2 c2, e = .returned (.agg #[.slice a1 r.on.length c1, .slice a2 r.level.length c2]) ∧ r.on.length ≤ c1 ∧ r.level.length ≤ c2 ∧ Own1 w.heap.size w' 4 (bools r.on) a1 ∧ Own1 w.heap.size w' 3 (nums r.level) a2 ∧ Gr w w'

set_option maxRecDepth 100000 in
set_option maxHeartbeats 1000000 in
theorem copied_any (r : Rls) (a1 a2 : Option Addr) (c1 c2 : Nat) (w : World) (h1 : SlOf 1 RB w a1 r.on) (h2 : SlOf 1 RI w a2 r.level) (f1 : r.on.length ≤ 1000000) (f2 : r.level.length ≤ 1000000) :
    Calls Try.prog 41 #[.agg #[.slice a1 r.on.length c1, .slice a2 r.level.length c2]] w (GivesRls w r) := by
  have H1 := Lib.hid h1
  have H2 := Lib.hid h2
  clear h1 h2
  go_enter Try.func41, Try.ntmps41
  go_wp2_with fail
  go_region_with (first
    | (go_at_call 71; refine (cloneB_any r.on a1 c1 _ (H1.out.giB (by repeat (first | with_reducible exact Gr.refl _ | with_reducible refine Gr.alloc _ ?_ | with_reducible refine Gr.xt _ _ ?_ | with_reducible refine Gr.drew ?_))) (by unfold Fit; omega)).mono ?_; rintro e w' ⟨a3, c3, rfl, hc3, ho, O, d, rfl⟩; rw [bools_len] at hc3 ⊢; have O1 := Lib.hid ho; clear ho)
    | (go_at_call 72; refine (cloneI_any r.level a2 c2 _ (H2.out.giI (by repeat (first | with_reducible exact Gr.refl _ | with_reducible refine Gr.alloc _ ?_ | with_reducible refine Gr.xt _ _ ?_ | with_reducible refine Gr.drew ?_))) f2).mono ?_; rintro e w' ⟨a4, c4, rfl, hc4, ho, O', d', rfl⟩; rw [nums_len] at hc4 ⊢; have O2 := Lib.hid ho; clear ho))
  all_goals go_wp2_with fail
  all_goals
    refine bodyPost_ret (v := .agg #[.slice a3 r.on.length c3, .slice a4 r.level.length c4]) ?_ rfl ?_
    · simp [results, Try.results41, go_sem]
    · have q1 := O1.out.gr ((Gr.refl _).xt O' d')
      have q2 := O2.out
      simp only [xt_xt, xt_drew] at q1 q2
      refine ⟨a3, c3, a4, c4, rfl, hc3, hc4, (Own1.swap q1 (by simp <;> omega)).low (by simp <;> omega), (Own1.swap q2 (by simp <;> omega)).low (by simp <;> omega), by repeat (first | with_reducible exact Gr.refl _ | with_reducible refine Gr.alloc _ ?_ | with_reducible refine Gr.xt _ _ ?_ | with_reducible refine Gr.drew ?_)⟩
end Go.Proofs.Ytoenkcojfogmmaa
