/- Lemmas and contracts for the proof of RetuneAnswers (several texts in one, printed by wip/tools/pack.py): Kl5 Kl15. -/
import Derived.Test.YtenehghpmnajpaaGreatDoorRa8pv
set_option maxRecDepth 100000
set_option maxHeartbeats 16000000
set_option linter.unusedVariables false
set_option linter.unusedSimpArgs false
namespace Go.Proofs.YtenehghpmnajpaaGreatDoor
open Go.RowKit
open Classical
structure Side (base lo : Nat) (dE dA : Bool) (tE tA : Value) (L : List Int) (w : World) : Prop where
  z : dA = true → dE = true
  e : dE = true → dA = false → w.ownsRow base 3 1 tE 0 [] ∧ ∃ B, tE.ownBlock = some B ∧ lo ≤ B
  a : dA = true → w.ownsRow base 3 1 tA L.length (nums L) ∧ ∃ B, tA.ownBlock = some B ∧ lo ≤ B
def curV (dA : Bool) (tE tA : Value) : Value := if dA = true then tA else tE
theorem Side.cur {base lo : Nat} {dE dA : Bool} {tE tA : Value} {L : List Int} {w : World} (h : Side base lo dE dA tE tA L w) (hd : dE = true) : ∃ B, (curV dA tE tA).ownBlock = some B ∧ lo ≤ B ∧ B < w.heap.size := by
  unfold curV
  cases hA : dA with
  | false =>
    obtain ⟨h1, B, h2, h3⟩ := h.e hd hA
    exact ⟨B, by simpa using h2, h3, (owns_block h1 B h2).2⟩
  | true =>
    obtain ⟨h1, B, h2, h3⟩ := h.a hA
    exact ⟨B, by simpa using h2, h3, (owns_block h1 B h2).2⟩
theorem Side.kept {base lo : Nat} {dE dA : Bool} {tE tA : Value} {L : List Int} {w w' : World} {row : Option Nat} (h : Side base lo dE dA tE tA L w) (hg : w.grownBy w' row) (hne : dE = true → (curV dA tE tA).ownBlock ≠ row) : Side base lo dE dA tE tA L w' where
  z := h.z
  e := fun h1 h2 => by
    obtain ⟨h3, h4⟩ := h.e h1 h2
    refine ⟨h3.kept hg (.inr ?_), h4⟩
    have := hne h1
    unfold curV at this
    rw [h2] at this
    simpa using this
  a := fun h2 => by
    obtain ⟨h3, h4⟩ := h.a h2
    refine ⟨h3.kept hg (.inr ?_), h4⟩
    have := hne (h.z h2)
    unfold curV at this
    rw [h2] at this
    simpa using this
theorem Side.gr {base lo : Nat} {dE dA : Bool} {tE tA : Value} {L : List Int} {w w' : World} (h : Side base lo dE dA tE tA L w) (hg : Gr w w') : Side base lo dE dA tE tA L w' :=
  ⟨h.z, fun h1 h2 => ⟨Gr.owns (h.e h1 h2).1 hg, (h.e h1 h2).2⟩, fun h2 => ⟨Gr.owns (h.a h2).1 hg, (h.a h2).2⟩⟩
structure L5 (W0 wr : World) (CB : Nat) (x : Clk) (ap ac : Option Addr) (cp cc : Nat) (t15 t18 t19 t22 : Value) (d : Array Bool) (w : World) : Prop where
  gr : Gr W0 w
  sz : wr.heap.size ≤ w.heap.size
  row : Row w CB 79 [.int .i64 x.kind, if d.getD 9 false = true then t18 else .slice ap x.parents.length cp, if d.getD 11 false = true then t22 else .slice ac x.choices.length cc, .int .i64 x.low, .int .i64 x.high]
  s1 : Side W0.heap.size wr.heap.size (d.getD 0 false) (d.getD 3 false) t15 t18 x.parents w
  s2 : Side W0.heap.size wr.heap.size (d.getD 4 false) (d.getD 7 false) t19 t22 x.choices w
  ne : d.getD 0 false = true → d.getD 4 false = true → (curV (d.getD 3 false) t15 t18).ownBlock ≠ (curV (d.getD 7 false) t19 t22).ownBlock
  p9 : d.getD 9 false = true → d.getD 3 false = true
  p11 : d.getD 11 false = true → d.getD 7 false = true
section
variable {W0 wr : World} {CB : Nat} {x : Clk} {ap ac : Option Addr} {cp cc : Nat} {t15 t18 t19 t22 : Value} {d : Array Bool} {w : World}
theorem L5.neutral (h : L5 W0 wr CB x ap ac cp cc t15 t18 t19 t22 d w) {i : Nat} (h0 : i ≠ 0) (h3 : i ≠ 3) (h4 : i ≠ 4) (h7 : i ≠ 7) (h9 : i ≠ 9) (h11 : i ≠ 11) : L5 W0 wr CB x ap ac cp cc t15 t18 t19 t22 (d.setIfInBounds i true) w := by
  have e0 := (getD_set_ne (listed := d) false h0)
  have e3 := (getD_set_ne (listed := d) false h3)
  have e4 := (getD_set_ne (listed := d) false h4)
  have e7 := (getD_set_ne (listed := d) false h7)
  have e9 := (getD_set_ne (listed := d) false h9)
  have e11 := (getD_set_ne (listed := d) false h11)
  exact ⟨h.gr, h.sz, by rw [e9, e11]; exact h.row, by rw [e0, e3]; exact h.s1, by rw [e4, e7]; exact h.s2, by rw [e0, e3, e4, e7]; exact h.ne, by rw [e9, e3]; exact h.p9, by rw [e11, e7]; exact h.p11⟩
theorem L5.new1 (h : L5 W0 wr CB x ap ac cp cc t15 t18 t19 t22 d w) (hsz : d.size = 12) (hn : d.getD 0 false = false) :
    L5 W0 wr CB x ap ac cp cc (.slice (some ⟨w.heap.size, 0, none⟩) 0 0) t18 t19 t22 (d.setIfInBounds 0 true) (w.alloc (.cells #[] 3)) := by
  have n3 : d.getD 3 false = false := by
    cases e : d.getD 3 false with
    | false => rfl
    | true => have := h.s1.z e; rw [hn] at this; cases this
  have q0 : (d.setIfInBounds 0 true).getD 0 false = true := getD_set_same (by rw [hsz]; decide)
  have q3 := getD_set_ne (listed := d) (i := 0) (j := 3) false (by decide)
  have q4 := getD_set_ne (listed := d) (i := 0) (j := 4) false (by decide)
  have q7 := getD_set_ne (listed := d) (i := 0) (j := 7) false (by decide)
  have q9 := getD_set_ne (listed := d) (i := 0) (j := 9) false (by decide)
  have q11 := getD_set_ne (listed := d) (i := 0) (j := 11) false (by decide)
  have gg : Gr w (w.alloc (.cells #[] 3)) := (Gr.refl _).alloc _
  refine ⟨h.gr.trans gg, Nat.le_trans h.sz gg.size, ?_, ?_, ?_, ?_, ?_, ?_⟩
  · rw [q9, q11]; exact h.row.gr gg
  · rw [q0, q3, n3]
    exact ⟨fun q => (by cases q), fun _ _ => ⟨World.ownsRow_lit w #[] 0 h.gr.size (by unfold maxLen; omega) rfl, w.heap.size, rfl, h.sz⟩, fun q => by cases q⟩
  · rw [q4, q7]; exact h.s2.gr gg
  · intro qa qb
    rw [q3, q7, n3]
    obtain ⟨B2, hB2, _, hlt⟩ := h.s2.cur (by first | (rw [q4] at qb; exact qb) | (rw [q4] at qa; exact qa))
    rw [hB2]
    show some w.heap.size ≠ some B2
    intro e; injection e with e; omega
  · rw [q9]; first | (rw [q3]; exact h.p9) | (rw [q7]; exact h.p9)
  · rw [q11]; first | (rw [q7]; exact h.p11) | (rw [q3]; exact h.p11)
theorem L5.app1 (h : L5 W0 wr CB x ap ac cp cc t15 t18 t19 t22 d w) (hsz : d.size = 12) (h0 : d.getD 0 false = true) (hn : d.getD 3 false = false) {v : Value} {w2 : World} (hown : w2.ownsRow W0.heap.size 3 1 v x.parents.length (nums x.parents)) (hg : w.grownBy w2 t15.ownBlock) (hb : v.ownBlock = t15.ownBlock ∨ v.ownBlock = some w.heap.size) :
    L5 W0 wr CB x ap ac cp cc t15 v t19 t22 (d.setIfInBounds 3 true) w2 := by
  have n9 : d.getD 9 false = false := by
    cases e : d.getD 9 false with
    | false => rfl
    | true => have := h.p9 e; rw [hn] at this; cases this
  have q3 : (d.setIfInBounds 3 true).getD 3 false = true := getD_set_same (by rw [hsz]; decide)
  have q0 := getD_set_ne (listed := d) (i := 3) (j := 0) false (by decide)
  have q4 := getD_set_ne (listed := d) (i := 3) (j := 4) false (by decide)
  have q7 := getD_set_ne (listed := d) (i := 3) (j := 7) false (by decide)
  have q9 := getD_set_ne (listed := d) (i := 3) (j := 9) false (by decide)
  have q11 := getD_set_ne (listed := d) (i := 3) (j := 11) false (by decide)
  obtain ⟨o1, B, hB, hlo⟩ := h.s1.e h0 hn
  have bl := (owns_block o1 B hB).2
  have hvb : ∃ B', v.ownBlock = some B' ∧ wr.heap.size ≤ B' := by
    rcases hb with e | e
    · exact ⟨B, e.trans hB, hlo⟩
    · exact ⟨_, e, h.sz⟩
  have c1 : curV (d.getD 3 false) t15 t18 = t15 := by unfold curV; rw [hn]; rfl
  have hne2 : d.getD 4 false = true → (curV (d.getD 7 false) t19 t22).ownBlock ≠ t15.ownBlock := fun q => by
    have := h.ne h0 q
    rw [c1] at this
    exact fun e => this e.symm
  refine ⟨h.gr.grown hg (fun k e => (owns_block o1 k e).1), Nat.le_trans h.sz hg.size, ?_, ?_, ?_, ?_, ?_, ?_⟩
  · have r := h.row.grown hg (owns_apart o1 h.row.s (by decide))
    rw [n9] at r
    rw [q9, q11, n9]; exact r
  · rw [q0, q3, h0]
    exact ⟨fun _ => rfl, fun _ q => (by cases q), fun _ => ⟨hown, hvb⟩⟩
  · rw [q4, q7]
    exact h.s2.kept hg hne2
  · intro qa qb
    have qq : d.getD 4 false = true := by first | (rw [q4] at qb; exact qb) | (rw [q4] at qa; exact qa)
    rw [q3, q7]
    have h1 := hne2 qq
    obtain ⟨B2, hB2, _, hlt⟩ := h.s2.cur qq
    show v.ownBlock ≠ _
    rcases hb with e | e
    · rw [e]; exact fun e2 => h1 e2.symm
    · rw [e, hB2]; intro e2; injection e2 with e2; omega
  · rw [q9, q3]; exact fun _ => rfl
  · rw [q11, q7]; exact h.p11
theorem L5.put1 (h : L5 W0 wr CB x ap ac cp cc t15 t18 t19 t22 d w) (hsz : d.size = 12) (h3 : d.getD 3 false = true) (hcb : W0.heap.size ≤ CB) :
    L5 W0 wr CB x ap ac cp cc t15 t18 t19 t22 (d.setIfInBounds 9 true) (w.setCell ⟨CB, 1, none⟩ t18) := by
  have q9 : (d.setIfInBounds 9 true).getD 9 false = true := getD_set_same (by rw [hsz]; decide)
  have q0 := getD_set_ne (listed := d) (i := 9) (j := 0) false (by decide)
  have q3 := getD_set_ne (listed := d) (i := 9) (j := 3) false (by decide)
  have q4 := getD_set_ne (listed := d) (i := 9) (j := 4) false (by decide)
  have q7 := getD_set_ne (listed := d) (i := 9) (j := 7) false (by decide)
  have q11 := getD_set_ne (listed := d) (i := 9) (j := 11) false (by decide)
  have hg := grownBy_set w CB 1 t18
  have ap1 : ∀ {base n : Nat} {v : Value} {us : List Value}, w.ownsRow base 3 1 v n us → some CB ≠ v.ownBlock := fun o => Ne.symm (Ne.symm (owns_apart o h.row.s (by decide)))
  refine ⟨h.gr.setc hcb, Nat.le_trans h.sz hg.size, ?_, ?_, ?_, ?_, ?_, ?_⟩
  · have r := h.row.set 1 t18
    rw [q9, q11]
    simpa using r
  · rw [q0, q3]
    refine h.s1.kept hg (fun q e => ?_)
    cases hA : d.getD 3 false with
    | true =>
      have e2 : (curV true t15 t18).ownBlock = some CB := by rw [← hA]; exact e
      exact ap1 (h.s1.a hA).1 (Eq.symm e2)
    | false =>
      have e2 : (curV false t15 t18).ownBlock = some CB := by rw [← hA]; exact e
      exact ap1 (h.s1.e q hA).1 (Eq.symm e2)
  · rw [q4, q7]
    refine h.s2.kept hg (fun q e => ?_)
    cases hA : d.getD 7 false with
    | true =>
      have e2 : (curV true t19 t22).ownBlock = some CB := by rw [← hA]; exact e
      exact ap1 (h.s2.a hA).1 (Eq.symm e2)
    | false =>
      have e2 : (curV false t19 t22).ownBlock = some CB := by rw [← hA]; exact e
      exact ap1 (h.s2.e q hA).1 (Eq.symm e2)
  · rw [q0, q3, q4, q7]; exact h.ne
  · rw [q9, q3]; exact fun _ => h3
  · rw [q11, q7]; exact h.p11
theorem L5.new2 (h : L5 W0 wr CB x ap ac cp cc t15 t18 t19 t22 d w) (hsz : d.size = 12) (hn : d.getD 4 false = false) :
    L5 W0 wr CB x ap ac cp cc t15 t18 (.slice (some ⟨w.heap.size, 0, none⟩) 0 0) t22 (d.setIfInBounds 4 true) (w.alloc (.cells #[] 3)) := by
  have n3 : d.getD 7 false = false := by
    cases e : d.getD 7 false with
    | false => rfl
    | true => have := h.s2.z e; rw [hn] at this; cases this
  have q0 : (d.setIfInBounds 4 true).getD 4 false = true := getD_set_same (by rw [hsz]; decide)
  have q3 := getD_set_ne (listed := d) (i := 4) (j := 7) false (by decide)
  have q4 := getD_set_ne (listed := d) (i := 4) (j := 0) false (by decide)
  have q7 := getD_set_ne (listed := d) (i := 4) (j := 3) false (by decide)
  have q9 := getD_set_ne (listed := d) (i := 4) (j := 9) false (by decide)
  have q11 := getD_set_ne (listed := d) (i := 4) (j := 11) false (by decide)
  have gg : Gr w (w.alloc (.cells #[] 3)) := (Gr.refl _).alloc _
  refine ⟨h.gr.trans gg, Nat.le_trans h.sz gg.size, ?_, ?_, ?_, ?_, ?_, ?_⟩
  · rw [q9, q11]; exact h.row.gr gg
  · rw [q4, q7]; exact h.s1.gr gg
  · rw [q0, q3, n3]
    exact ⟨fun q => (by cases q), fun _ _ => ⟨World.ownsRow_lit w #[] 0 h.gr.size (by unfold maxLen; omega) rfl, w.heap.size, rfl, h.sz⟩, fun q => by cases q⟩
  · intro qa qb
    rw [q3, q7, n3]
    obtain ⟨B2, hB2, _, hlt⟩ := h.s1.cur (by first | (rw [q4] at qb; exact qb) | (rw [q4] at qa; exact qa))
    rw [hB2]
    show some B2 ≠ some w.heap.size
    intro e; injection e with e; omega
  · rw [q9]; first | (rw [q3]; exact h.p9) | (rw [q7]; exact h.p9)
  · rw [q11]; first | (rw [q7]; exact h.p11) | (rw [q3]; exact h.p11)
theorem L5.app2 (h : L5 W0 wr CB x ap ac cp cc t15 t18 t19 t22 d w) (hsz : d.size = 12) (h0 : d.getD 4 false = true) (hn : d.getD 7 false = false) {v : Value} {w2 : World} (hown : w2.ownsRow W0.heap.size 3 1 v x.choices.length (nums x.choices)) (hg : w.grownBy w2 t19.ownBlock) (hb : v.ownBlock = t19.ownBlock ∨ v.ownBlock = some w.heap.size) :
    L5 W0 wr CB x ap ac cp cc t15 t18 t19 v (d.setIfInBounds 7 true) w2 := by
  have n9 : d.getD 11 false = false := by
    cases e : d.getD 11 false with
    | false => rfl
    | true => have := h.p11 e; rw [hn] at this; cases this
  have q3 : (d.setIfInBounds 7 true).getD 7 false = true := getD_set_same (by rw [hsz]; decide)
  have q0 := getD_set_ne (listed := d) (i := 7) (j := 4) false (by decide)
  have q4 := getD_set_ne (listed := d) (i := 7) (j := 0) false (by decide)
  have q7 := getD_set_ne (listed := d) (i := 7) (j := 3) false (by decide)
  have q9 := getD_set_ne (listed := d) (i := 7) (j := 11) false (by decide)
  have q11 := getD_set_ne (listed := d) (i := 7) (j := 9) false (by decide)
  obtain ⟨o1, B, hB, hlo⟩ := h.s2.e h0 hn
  have bl := (owns_block o1 B hB).2
  have hvb : ∃ B', v.ownBlock = some B' ∧ wr.heap.size ≤ B' := by
    rcases hb with e | e
    · exact ⟨B, e.trans hB, hlo⟩
    · exact ⟨_, e, h.sz⟩
  have c1 : curV (d.getD 7 false) t19 t22 = t19 := by unfold curV; rw [hn]; rfl
  have hne2 : d.getD 0 false = true → (curV (d.getD 3 false) t15 t18).ownBlock ≠ t19.ownBlock := fun q => by
    have := h.ne q h0
    rw [c1] at this
    exact this
  refine ⟨h.gr.grown hg (fun k e => (owns_block o1 k e).1), Nat.le_trans h.sz hg.size, ?_, ?_, ?_, ?_, ?_, ?_⟩
  · have r := h.row.grown hg (owns_apart o1 h.row.s (by decide))
    rw [n9] at r
    rw [q9, q11, n9]; exact r
  · rw [q4, q7]
    exact h.s1.kept hg hne2
  · rw [q0, q3, h0]
    exact ⟨fun _ => rfl, fun _ q => (by cases q), fun _ => ⟨hown, hvb⟩⟩
  · intro qa qb
    have qq : d.getD 0 false = true := by first | (rw [q4] at qb; exact qb) | (rw [q4] at qa; exact qa)
    rw [q3, q7]
    have h1 := hne2 qq
    obtain ⟨B2, hB2, _, hlt⟩ := h.s1.cur qq
    show _ ≠ v.ownBlock
    rcases hb with e | e
    · rw [e]; exact h1
    · rw [e, hB2]; intro e2; injection e2 with e2; omega
  · rw [q11, q7]; exact h.p9
  · rw [q9, q3]; exact fun _ => rfl
theorem L5.put2 (h : L5 W0 wr CB x ap ac cp cc t15 t18 t19 t22 d w) (hsz : d.size = 12) (h3 : d.getD 7 false = true) (hcb : W0.heap.size ≤ CB) :
    L5 W0 wr CB x ap ac cp cc t15 t18 t19 t22 (d.setIfInBounds 11 true) (w.setCell ⟨CB, 2, none⟩ t22) := by
  have q9 : (d.setIfInBounds 11 true).getD 11 false = true := getD_set_same (by rw [hsz]; decide)
  have q0 := getD_set_ne (listed := d) (i := 11) (j := 0) false (by decide)
  have q3 := getD_set_ne (listed := d) (i := 11) (j := 3) false (by decide)
  have q4 := getD_set_ne (listed := d) (i := 11) (j := 4) false (by decide)
  have q7 := getD_set_ne (listed := d) (i := 11) (j := 7) false (by decide)
  have q11 := getD_set_ne (listed := d) (i := 11) (j := 9) false (by decide)
  have hg := grownBy_set w CB 2 t22
  have ap1 : ∀ {base n : Nat} {v : Value} {us : List Value}, w.ownsRow base 3 1 v n us → some CB ≠ v.ownBlock := fun o => Ne.symm (Ne.symm (owns_apart o h.row.s (by decide)))
  refine ⟨h.gr.setc hcb, Nat.le_trans h.sz hg.size, ?_, ?_, ?_, ?_, ?_, ?_⟩
  · have r := h.row.set 2 t22
    rw [q9, q11]
    simpa using r
  · rw [q0, q3]
    refine h.s1.kept hg (fun q e => ?_)
    cases hA : d.getD 3 false with
    | true =>
      have e2 : (curV true t15 t18).ownBlock = some CB := by rw [← hA]; exact e
      exact ap1 (h.s1.a hA).1 (Eq.symm e2)
    | false =>
      have e2 : (curV false t15 t18).ownBlock = some CB := by rw [← hA]; exact e
      exact ap1 (h.s1.e q hA).1 (Eq.symm e2)
  · rw [q4, q7]
    refine h.s2.kept hg (fun q e => ?_)
    cases hA : d.getD 7 false with
    | true =>
      have e2 : (curV true t19 t22).ownBlock = some CB := by rw [← hA]; exact e
      exact ap1 (h.s2.a hA).1 (Eq.symm e2)
    | false =>
      have e2 : (curV false t19 t22).ownBlock = some CB := by rw [← hA]; exact e
      exact ap1 (h.s2.e q hA).1 (Eq.symm e2)
  · rw [q0, q3, q4, q7]; exact h.ne
  · rw [q11, q3]; exact h.p9
  · rw [q9, q7]; exact fun _ => h3
end
def kl5F (W0 wr : World) (CB : Nat) (x : Clk) (ap ac : Option Addr) (cp cc : Nat) (t15 t16 t17 t18 t19 t20 t21 t22 t23 t24 : Value) (d : Array Bool) (w : World) : Prop :=
  L5 W0 wr CB x ap ac cp cc t15 t18 t19 t22 d w ∧ (d.getD 0 false = true → (∃ E : Nat, t15 = .slice (some ⟨E, 0, none⟩) 0 0)) ∧
  (d.getD 1 false = true → t16 = .pointer (some ⟨CB, 1, none⟩)) ∧
  (d.getD 2 false = true → t17 = .slice ap x.parents.length cp) ∧
  (d.getD 3 false = true → (d.getD 0 false = true ∧ d.getD 2 false = true ∧ ∃ a c, t18 = .slice a x.parents.length c)) ∧
  (d.getD 4 false = true → (∃ E : Nat, t19 = .slice (some ⟨E, 0, none⟩) 0 0)) ∧
  (d.getD 5 false = true → t20 = .pointer (some ⟨CB, 2, none⟩)) ∧
  (d.getD 6 false = true → t21 = .slice ac x.choices.length cc) ∧
  (d.getD 7 false = true → (d.getD 4 false = true ∧ d.getD 6 false = true ∧ ∃ a c, t22 = .slice a x.choices.length c)) ∧
  (d.getD 8 false = true → t23 = .pointer (some ⟨CB, 1, none⟩)) ∧
  (d.getD 9 false = true → (d.getD 8 false = true ∧ d.getD 3 false = true)) ∧
  (d.getD 10 false = true → t24 = .pointer (some ⟨CB, 2, none⟩)) ∧
  (d.getD 11 false = true → (d.getD 10 false = true ∧ d.getD 7 false = true))
def kl5A (CB : Nat) (t15 t16 t17 t18 t19 t20 t21 t22 t23 t24 s0 s1 s2 s3 s4 s5 s6 s8 s9 s10 s11 s12 s13 s14 s25 s26 s27 s28 s29 s30 s31 s32 s33 s34 s35 s36 s37 s38 s39 s40 s41 s42 s43 s44 s45 s46 s47 s48 s49 s50 s51 s52 s53 s54 s55 s56 s57 s58 s59 s60 s61 s62 s63 s64 s65 s66 s67 s68 s69 s70 s71 s72 s73 s74 s75 s76 s77 s78 s79 s80 s81 s82 s83 s84 s85 s86 s87 s88 s89 s90 s91 s92 s93 s94 s95 s96 s97 s98 s99 s100 s101 s102 s103 s104 s105 s106 s107 s108 : Value) : Act := { tmps := #[s0, s1, s2, s3, s4, s5, s6, .pointer (some ⟨CB, 0, none⟩), s8, s9, s10, s11, s12, s13, s14, t15, t16, t17, t18, t19, t20, t21, t22, t23, t24, s25, s26, s27, s28, s29, s30, s31, s32, s33, s34, s35, s36, s37, s38, s39, s40, s41, s42, s43, s44, s45, s46, s47, s48, s49, s50, s51, s52, s53, s54, s55, s56, s57, s58, s59, s60, s61, s62, s63, s64, s65, s66, s67, s68, s69, s70, s71, s72, s73, s74, s75, s76, s77, s78, s79, s80, s81, s82, s83, s84, s85, s86, s87, s88, s89, s90, s91, s92, s93, s94, s95, s96, s97, s98, s99, s100, s101, s102, s103, s104, s105, s106, s107, s108], defers := [] }
theorem kl5 {Q : Exit → Act → World → Prop} {W0 wr : World} {CB : Nat} {x : Clk} {ap ac : Option Addr} {cp cc : Nat}  {s0 s1 s2 s3 s4 s5 s6 s8 s9 s10 s11 s12 s13 s14 s15 s16 s17 s18 s19 s20 s21 s22 s23 s24 s25 s26 s27 s28 s29 s30 s31 s32 s33 s34 s35 s36 s37 s38 s39 s40 s41 s42 s43 s44 s45 s46 s47 s48 s49 s50 s51 s52 s53 s54 s55 s56 s57 s58 s59 s60 s61 s62 s63 s64 s65 s66 s67 s68 s69 s70 s71 s72 s73 s74 s75 s76 s77 s78 s79 s80 s81 s82 s83 s84 s85 s86 s87 s88 s89 s90 s91 s92 s93 s94 s95 s96 s97 s98 s99 s100 s101 s102 s103 s104 s105 s106 s107 s108 : Value} (hg0 : Gr W0 wr) (hcb : W0.heap.size ≤ CB) (hr : Row wr CB 79 [.int .i64 x.kind, .slice ap x.parents.length cp, .slice ac x.choices.length cc, .int .i64 x.low, .int .i64 x.high]) (sp : SlOf 1 RI W0 ap x.parents) (sc : SlOf 1 RI W0 ac x.choices) (hpl : x.parents.length ≤ 1000) (hcl : x.choices.length ≤ 1000)
    (h' : ∀ t15 t16 t17 t18 t19 t20 t21 t22 t23 t24 (a1 a2 : Option Addr) (c1 c2 : Nat) wx, t18 = .slice a1 x.parents.length c1 → t22 = .slice a2 x.choices.length c2 → Gr W0 wx → Row wx CB 79 [.int .i64 x.kind, t18, t22, .int .i64 x.low, .int .i64 x.high] → wx.ownsRow W0.heap.size 3 1 t18 x.parents.length (nums x.parents) → wx.ownsRow W0.heap.size 3 1 t22 x.choices.length (nums x.choices) → (∃ B, t18.ownBlock = some B ∧ wr.heap.size ≤ B) → (∃ B, t22.ownBlock = some B ∧ wr.heap.size ≤ B) → t18.ownBlock ≠ t22.ownBlock → Q .normal (kl5A CB t15 t16 t17 t18 t19 t20 t21 t22 t23 t24 s0 s1 s2 s3 s4 s5 s6 s8 s9 s10 s11 s12 s13 s14 s25 s26 s27 s28 s29 s30 s31 s32 s33 s34 s35 s36 s37 s38 s39 s40 s41 s42 s43 s44 s45 s46 s47 s48 s49 s50 s51 s52 s53 s54 s55 s56 s57 s58 s59 s60 s61 s62 s63 s64 s65 s66 s67 s68 s69 s70 s71 s72 s73 s74 s75 s76 s77 s78 s79 s80 s81 s82 s83 s84 s85 s86 s87 s88 s89 s90 s91 s92 s93 s94 s95 s96 s97 s98 s99 s100 s101 s102 s103 s104 s105 s106 s107 s108) wx) :
    (Code.region 5 (regIn 5 Tryz.f13) true).wp Tryz.prog Q { tmps := #[s0, s1, s2, s3, s4, s5, s6, .pointer (some ⟨CB, 0, none⟩), s8, s9, s10, s11, s12, s13, s14, s15, s16, s17, s18, s19, s20, s21, s22, s23, s24, s25, s26, s27, s28, s29, s30, s31, s32, s33, s34, s35, s36, s37, s38, s39, s40, s41, s42, s43, s44, s45, s46, s47, s48, s49, s50, s51, s52, s53, s54, s55, s56, s57, s58, s59, s60, s61, s62, s63, s64, s65, s66, s67, s68, s69, s70, s71, s72, s73, s74, s75, s76, s77, s78, s79, s80, s81, s82, s83, s84, s85, s86, s87, s88, s89, s90, s91, s92, s93, s94, s95, s96, s97, s98, s99, s100, s101, s102, s103, s104, s105, s106, s107, s108], defers := [] } wr := by
  have SP := PLift.up sp
  have SC := PLift.up sc
  obtain ⟨i0, hi, hz0, hz1, hz2⟩ := info_parts infoInt
  clear sp sc
  simp only [regIn, Tryz.f13, regOps, Option.bind_some, Option.getD_some, Nat.beq, cond_true, cond_false]
  refine wp_region_steps (fun done a w => ∃ t15 t16 t17 t18 t19 t20 t21 t22 t23 t24, a = kl5A CB t15 t16 t17 t18 t19 t20 t21 t22 t23 t24 s0 s1 s2 s3 s4 s5 s6 s8 s9 s10 s11 s12 s13 s14 s25 s26 s27 s28 s29 s30 s31 s32 s33 s34 s35 s36 s37 s38 s39 s40 s41 s42 s43 s44 s45 s46 s47 s48 s49 s50 s51 s52 s53 s54 s55 s56 s57 s58 s59 s60 s61 s62 s63 s64 s65 s66 s67 s68 s69 s70 s71 s72 s73 s74 s75 s76 s77 s78 s79 s80 s81 s82 s83 s84 s85 s86 s87 s88 s89 s90 s91 s92 s93 s94 s95 s96 s97 s98 s99 s100 s101 s102 s103 s104 s105 s106 s107 s108 ∧ kl5F W0 wr CB x ap ac cp cc t15 t16 t17 t18 t19 t20 t21 t22 t23 t24 done w) (by kernel_rfl) (by kernel_rfl) ?_ ⟨?_, ?_, ?_, ?_, ?_, ?_, ?_, ?_, ?_, ?_, ?_, ?_, trivial⟩ ?_
  · exact ⟨s15, s16, s17, s18, s19, s20, s21, s22, s23, s24, rfl, ⟨hg0.drew, Nat.le_refl _, hr, ⟨fun q => by simp at q, fun q => by simp at q, fun q => by simp at q⟩, ⟨fun q => by simp at q, fun q => by simp at q, fun q => by simp at q⟩, fun q => by simp at q, fun q => by simp at q, fun q => by simp at q⟩, fun q => absurd q (by decide), fun q => absurd q (by decide), fun q => absurd q (by decide), fun q => absurd q (by decide), fun q => absurd q (by decide), fun q => absurd q (by decide), fun q => absurd q (by decide), fun q => absurd q (by decide), fun q => absurd q (by decide), fun q => absurd q (by decide), fun q => absurd q (by decide), fun q => absurd q (by decide)⟩
  · rintro done a w hsz hnot hdep ⟨t15, t16, t17, t18, t19, t20, t21, t22, t23, t24, rfl, gw, f0, f1, f2, f3, f4, f5, f6, f7, f8, f9, f10, f11⟩ K hK
    have hn : ¬ done.getD 0 false = true := by rw [getD_both hnot]; decide
    have GW := PLift.up (gw.new1 hsz (getD_both hnot))
    have HK := PLift.up hK
    clear hK 
    simp only [kl5A]
    go_simp
    refine HK.down _ _ ⟨_, _, _, _, _, _, _, _, _, _, rfl, GW.down, ?_, kp f1, kp f2, fun q => absurd (f3 (done_old q (by decide))).1 hn, kp f4, kp f5, kp f6, fun q => (let ⟨h1, h2, h3⟩ := f7 (done_old q (by decide)); ⟨done_stay h1, done_stay h2, h3⟩), kp f8, fun q => (let ⟨h1, h2⟩ := f9 (done_old q (by decide)); ⟨done_stay h1, done_stay h2⟩), kp f10, fun q => (let ⟨h1, h2⟩ := f11 (done_old q (by decide)); ⟨done_stay h1, done_stay h2⟩)⟩
    exact fun _ => ⟨_, rfl⟩
  · rintro done a w hsz hnot hdep ⟨t15, t16, t17, t18, t19, t20, t21, t22, t23, t24, rfl, gw, f0, f1, f2, f3, f4, f5, f6, f7, f8, f9, f10, f11⟩ K hK
    have hn : ¬ done.getD 1 false = true := by rw [getD_both hnot]; decide
    have HK := PLift.up hK
    clear hK 
    simp only [kl5A]
    go_simp
    have gg : Gr w w := Gr.refl _
    refine HK.down _ _ ⟨_, _, _, _, _, _, _, _, _, _, rfl, gw.neutral (by decide) (by decide) (by decide) (by decide) (by decide) (by decide), kp f0, fun _ => rfl, kp f2, fun q => (let ⟨h1, h2, h3⟩ := f3 (done_old q (by decide)); ⟨done_stay h1, done_stay h2, h3⟩), kp f4, kp f5, kp f6, fun q => (let ⟨h1, h2, h3⟩ := f7 (done_old q (by decide)); ⟨done_stay h1, done_stay h2, h3⟩), kp f8, fun q => (let ⟨h1, h2⟩ := f9 (done_old q (by decide)); ⟨done_stay h1, done_stay h2⟩), kp f10, fun q => (let ⟨h1, h2⟩ := f11 (done_old q (by decide)); ⟨done_stay h1, done_stay h2⟩)⟩
  · rintro done a w hsz hnot hdep ⟨t15, t16, t17, t18, t19, t20, t21, t22, t23, t24, rfl, gw, f0, f1, f2, f3, f4, f5, f6, f7, f8, f9, f10, f11⟩ K hK
    have hn : ¬ done.getD 2 false = true := by rw [getD_both hnot]; decide
    have d1 := hdep 1 (by kernel_rfl)
    obtain rfl := f1 d1
    have n9 : done.getD 9 false = false := by
      cases e : done.getD 9 false with
      | false => rfl
      | true => exact absurd (f3 (f9 e).2).2.1 hn
    have r := gw.row
    have cc1 := r.cell 1 (by simp)
    have cc2 := r.cell 2 (by simp)
    have ch := r.has
    simp only [List.getElem_cons_zero, List.getElem_cons_succ] at cc1 cc2
    clear r
    rw [n9] at cc1
    simp only [Bool.false_eq_true, if_false] at cc1
    clear cc2 n9
    have HK := PLift.up hK
    clear hK d1
    simp only [kl5A]
    go_simp
    have gg : Gr w w := Gr.refl _
    refine HK.down _ _ ⟨_, _, _, _, _, _, _, _, _, _, rfl, gw.neutral (by decide) (by decide) (by decide) (by decide) (by decide) (by decide), kp f0, kp f1, fun _ => rfl, fun q => absurd (f3 (done_old q (by decide))).2.1 hn, kp f4, kp f5, kp f6, fun q => (let ⟨h1, h2, h3⟩ := f7 (done_old q (by decide)); ⟨done_stay h1, done_stay h2, h3⟩), kp f8, fun q => (let ⟨h1, h2⟩ := f9 (done_old q (by decide)); ⟨done_stay h1, done_stay h2⟩), kp f10, fun q => (let ⟨h1, h2⟩ := f11 (done_old q (by decide)); ⟨done_stay h1, done_stay h2⟩)⟩
  · rintro done a w hsz hnot hdep ⟨t15, t16, t17, t18, t19, t20, t21, t22, t23, t24, rfl, gw, f0, f1, f2, f3, f4, f5, f6, f7, f8, f9, f10, f11⟩ K hK
    have hn : ¬ done.getD 3 false = true := by rw [getD_both hnot]; decide
    have d0 := hdep 0 (by kernel_rfl)
    have d2 := hdep 2 (by kernel_rfl)
    obtain rfl := f2 d2
    obtain ⟨E, rfl⟩ := f0 d0
    have nn := getD_both hnot
    have o1 := (gw.s1.e d0 nn).1
    have GG := gets_slI (SP.down.giI gw.gr)
    refine step_append_gets _ rfl _ _ 22 rfl W0.heap.size 3 i0 (.int .i64 0) 1 8 Tryz.underlying22 hi hz0 hz1 hz2 rfl (by decide) (.slice (some ⟨E, 0, none⟩) 0 0) 0 [] (by simp [Act.eval, kl5A]) o1 ap x.parents.length cp (nums x.parents) (by simp [Act.eval, kl5A]) GG (nums_one _) (by unfold maxLen; omega) (by omega) gw.gr.size ?_
    intro v w2 hown hgrow hbl
    rw [Nat.zero_add, List.nil_append] at hown
    obtain ⟨a, c, rfl⟩ := owns_slice hown
    refine hK _ _ ⟨_, _, _, _, _, _, _, _, _, _, rfl, gw.app1 hsz d0 nn hown hgrow hbl, fun _ => ⟨E, rfl⟩, kp f1, fun _ => rfl, ?_, kp f4, kp f5, kp f6, fun q => (let ⟨h1, h2, h3⟩ := f7 (done_old q (by decide)); ⟨done_stay h1, done_stay h2, h3⟩), kp f8, fun q => absurd (f9 (done_old q (by decide))).2 hn, kp f10, fun q => (let ⟨h1, h2⟩ := f11 (done_old q (by decide)); ⟨done_stay h1, done_stay h2⟩)⟩
    exact fun _ => ⟨done_stay d0, done_stay (hdep 2 (by kernel_rfl)), a, c, rfl⟩
  · rintro done a w hsz hnot hdep ⟨t15, t16, t17, t18, t19, t20, t21, t22, t23, t24, rfl, gw, f0, f1, f2, f3, f4, f5, f6, f7, f8, f9, f10, f11⟩ K hK
    have hn : ¬ done.getD 4 false = true := by rw [getD_both hnot]; decide
    have GW := PLift.up (gw.new2 hsz (getD_both hnot))
    have HK := PLift.up hK
    clear hK 
    simp only [kl5A]
    go_simp
    refine HK.down _ _ ⟨_, _, _, _, _, _, _, _, _, _, rfl, GW.down, kp f0, kp f1, kp f2, fun q => (let ⟨h1, h2, h3⟩ := f3 (done_old q (by decide)); ⟨done_stay h1, done_stay h2, h3⟩), ?_, kp f5, kp f6, fun q => absurd (f7 (done_old q (by decide))).1 hn, kp f8, fun q => (let ⟨h1, h2⟩ := f9 (done_old q (by decide)); ⟨done_stay h1, done_stay h2⟩), kp f10, fun q => (let ⟨h1, h2⟩ := f11 (done_old q (by decide)); ⟨done_stay h1, done_stay h2⟩)⟩
    exact fun _ => ⟨_, rfl⟩
  · rintro done a w hsz hnot hdep ⟨t15, t16, t17, t18, t19, t20, t21, t22, t23, t24, rfl, gw, f0, f1, f2, f3, f4, f5, f6, f7, f8, f9, f10, f11⟩ K hK
    have hn : ¬ done.getD 5 false = true := by rw [getD_both hnot]; decide
    have HK := PLift.up hK
    clear hK 
    simp only [kl5A]
    go_simp
    have gg : Gr w w := Gr.refl _
    refine HK.down _ _ ⟨_, _, _, _, _, _, _, _, _, _, rfl, gw.neutral (by decide) (by decide) (by decide) (by decide) (by decide) (by decide), kp f0, kp f1, kp f2, fun q => (let ⟨h1, h2, h3⟩ := f3 (done_old q (by decide)); ⟨done_stay h1, done_stay h2, h3⟩), kp f4, fun _ => rfl, kp f6, fun q => (let ⟨h1, h2, h3⟩ := f7 (done_old q (by decide)); ⟨done_stay h1, done_stay h2, h3⟩), kp f8, fun q => (let ⟨h1, h2⟩ := f9 (done_old q (by decide)); ⟨done_stay h1, done_stay h2⟩), kp f10, fun q => (let ⟨h1, h2⟩ := f11 (done_old q (by decide)); ⟨done_stay h1, done_stay h2⟩)⟩
  · rintro done a w hsz hnot hdep ⟨t15, t16, t17, t18, t19, t20, t21, t22, t23, t24, rfl, gw, f0, f1, f2, f3, f4, f5, f6, f7, f8, f9, f10, f11⟩ K hK
    have hn : ¬ done.getD 6 false = true := by rw [getD_both hnot]; decide
    have d5 := hdep 5 (by kernel_rfl)
    obtain rfl := f5 d5
    have n11 : done.getD 11 false = false := by
      cases e : done.getD 11 false with
      | false => rfl
      | true => exact absurd (f7 (f11 e).2).2.1 hn
    have r := gw.row
    have cc1 := r.cell 1 (by simp)
    have cc2 := r.cell 2 (by simp)
    have ch := r.has
    simp only [List.getElem_cons_zero, List.getElem_cons_succ] at cc1 cc2
    clear r
    rw [n11] at cc2
    simp only [Bool.false_eq_true, if_false] at cc2
    clear cc1 n11
    have HK := PLift.up hK
    clear hK d5
    simp only [kl5A]
    go_simp
    have gg : Gr w w := Gr.refl _
    refine HK.down _ _ ⟨_, _, _, _, _, _, _, _, _, _, rfl, gw.neutral (by decide) (by decide) (by decide) (by decide) (by decide) (by decide), kp f0, kp f1, kp f2, fun q => (let ⟨h1, h2, h3⟩ := f3 (done_old q (by decide)); ⟨done_stay h1, done_stay h2, h3⟩), kp f4, kp f5, fun _ => rfl, fun q => absurd (f7 (done_old q (by decide))).2.1 hn, kp f8, fun q => (let ⟨h1, h2⟩ := f9 (done_old q (by decide)); ⟨done_stay h1, done_stay h2⟩), kp f10, fun q => (let ⟨h1, h2⟩ := f11 (done_old q (by decide)); ⟨done_stay h1, done_stay h2⟩)⟩
  · rintro done a w hsz hnot hdep ⟨t15, t16, t17, t18, t19, t20, t21, t22, t23, t24, rfl, gw, f0, f1, f2, f3, f4, f5, f6, f7, f8, f9, f10, f11⟩ K hK
    have hn : ¬ done.getD 7 false = true := by rw [getD_both hnot]; decide
    have d4 := hdep 4 (by kernel_rfl)
    have d6 := hdep 6 (by kernel_rfl)
    obtain rfl := f6 d6
    obtain ⟨E, rfl⟩ := f4 d4
    have nn := getD_both hnot
    have o1 := (gw.s2.e d4 nn).1
    have GG := gets_slI (SC.down.giI gw.gr)
    refine step_append_gets _ rfl _ _ 22 rfl W0.heap.size 3 i0 (.int .i64 0) 1 8 Tryz.underlying22 hi hz0 hz1 hz2 rfl (by decide) (.slice (some ⟨E, 0, none⟩) 0 0) 0 [] (by simp [Act.eval, kl5A]) o1 ac x.choices.length cc (nums x.choices) (by simp [Act.eval, kl5A]) GG (nums_one _) (by unfold maxLen; omega) (by omega) gw.gr.size ?_
    intro v w2 hown hgrow hbl
    rw [Nat.zero_add, List.nil_append] at hown
    obtain ⟨a, c, rfl⟩ := owns_slice hown
    refine hK _ _ ⟨_, _, _, _, _, _, _, _, _, _, rfl, gw.app2 hsz d4 nn hown hgrow hbl, kp f0, kp f1, kp f2, fun q => (let ⟨h1, h2, h3⟩ := f3 (done_old q (by decide)); ⟨done_stay h1, done_stay h2, h3⟩), fun _ => ⟨E, rfl⟩, kp f5, fun _ => rfl, ?_, kp f8, fun q => (let ⟨h1, h2⟩ := f9 (done_old q (by decide)); ⟨done_stay h1, done_stay h2⟩), kp f10, fun q => absurd (f11 (done_old q (by decide))).2 hn⟩
    exact fun _ => ⟨done_stay d4, done_stay (hdep 6 (by kernel_rfl)), a, c, rfl⟩
  · rintro done a w hsz hnot hdep ⟨t15, t16, t17, t18, t19, t20, t21, t22, t23, t24, rfl, gw, f0, f1, f2, f3, f4, f5, f6, f7, f8, f9, f10, f11⟩ K hK
    have hn : ¬ done.getD 8 false = true := by rw [getD_both hnot]; decide
    have HK := PLift.up hK
    clear hK 
    simp only [kl5A]
    go_simp
    have gg : Gr w w := Gr.refl _
    refine HK.down _ _ ⟨_, _, _, _, _, _, _, _, _, _, rfl, gw.neutral (by decide) (by decide) (by decide) (by decide) (by decide) (by decide), kp f0, kp f1, kp f2, fun q => (let ⟨h1, h2, h3⟩ := f3 (done_old q (by decide)); ⟨done_stay h1, done_stay h2, h3⟩), kp f4, kp f5, kp f6, fun q => (let ⟨h1, h2, h3⟩ := f7 (done_old q (by decide)); ⟨done_stay h1, done_stay h2, h3⟩), fun _ => rfl, fun q => absurd (f9 (done_old q (by decide))).1 hn, kp f10, fun q => (let ⟨h1, h2⟩ := f11 (done_old q (by decide)); ⟨done_stay h1, done_stay h2⟩)⟩
  · rintro done a w hsz hnot hdep ⟨t15, t16, t17, t18, t19, t20, t21, t22, t23, t24, rfl, gw, f0, f1, f2, f3, f4, f5, f6, f7, f8, f9, f10, f11⟩ K hK
    have hn : ¬ done.getD 9 false = true := by rw [getD_both hnot]; decide
    have d8 := hdep 8 (by kernel_rfl)
    have d3 := hdep 3 (by kernel_rfl)
    obtain rfl := f8 d8
    have r := gw.row
    have cc1 := r.cell 1 (by simp)
    have cf := r.free 1
    have ch := r.has
    simp only [List.getElem_cons_zero, List.getElem_cons_succ] at cc1
    clear r
    have GW := PLift.up (gw.put1 hsz d3 hcb)
    obtain ⟨z1, z2, a, c, rfl⟩ := f3 d3
    have Z := PLift.up (And.intro d8 (And.intro d3 (And.intro z1 z2)))
    clear z1 z2 d3
    have HK := PLift.up hK
    clear hK d8
    simp only [kl5A]
    go_simp
    refine HK.down _ _ ⟨_, _, _, _, _, _, _, _, _, _, rfl, GW.down, kp f0, kp f1, kp f2, fun _ => ⟨done_stay Z.down.2.2.1, done_stay Z.down.2.2.2, a, c, rfl⟩, kp f4, kp f5, kp f6, fun q => (let ⟨h1, h2, h3⟩ := f7 (done_old q (by decide)); ⟨done_stay h1, done_stay h2, h3⟩), kp f8, ?_, kp f10, fun q => (let ⟨h1, h2⟩ := f11 (done_old q (by decide)); ⟨done_stay h1, done_stay h2⟩)⟩
    exact fun _ => ⟨done_stay Z.down.1, done_stay Z.down.2.1⟩
  · rintro done a w hsz hnot hdep ⟨t15, t16, t17, t18, t19, t20, t21, t22, t23, t24, rfl, gw, f0, f1, f2, f3, f4, f5, f6, f7, f8, f9, f10, f11⟩ K hK
    have hn : ¬ done.getD 10 false = true := by rw [getD_both hnot]; decide
    have HK := PLift.up hK
    clear hK 
    simp only [kl5A]
    go_simp
    have gg : Gr w w := Gr.refl _
    refine HK.down _ _ ⟨_, _, _, _, _, _, _, _, _, _, rfl, gw.neutral (by decide) (by decide) (by decide) (by decide) (by decide) (by decide), kp f0, kp f1, kp f2, fun q => (let ⟨h1, h2, h3⟩ := f3 (done_old q (by decide)); ⟨done_stay h1, done_stay h2, h3⟩), kp f4, kp f5, kp f6, fun q => (let ⟨h1, h2, h3⟩ := f7 (done_old q (by decide)); ⟨done_stay h1, done_stay h2, h3⟩), kp f8, fun q => (let ⟨h1, h2⟩ := f9 (done_old q (by decide)); ⟨done_stay h1, done_stay h2⟩), fun _ => rfl, fun q => absurd (f11 (done_old q (by decide))).1 hn⟩
  · rintro done a w hsz hnot hdep ⟨t15, t16, t17, t18, t19, t20, t21, t22, t23, t24, rfl, gw, f0, f1, f2, f3, f4, f5, f6, f7, f8, f9, f10, f11⟩ K hK
    have hn : ¬ done.getD 11 false = true := by rw [getD_both hnot]; decide
    have d10 := hdep 10 (by kernel_rfl)
    have d7 := hdep 7 (by kernel_rfl)
    obtain rfl := f10 d10
    have r := gw.row
    have cc1 := r.cell 2 (by simp)
    have cf := r.free 2
    have ch := r.has
    simp only [List.getElem_cons_zero, List.getElem_cons_succ] at cc1
    clear r
    have GW := PLift.up (gw.put2 hsz d7 hcb)
    obtain ⟨z1, z2, a, c, rfl⟩ := f7 d7
    have Z := PLift.up (And.intro d10 (And.intro d7 (And.intro z1 z2)))
    clear z1 z2 d7
    have HK := PLift.up hK
    clear hK d10
    simp only [kl5A]
    go_simp
    refine HK.down _ _ ⟨_, _, _, _, _, _, _, _, _, _, rfl, GW.down, kp f0, kp f1, kp f2, fun q => (let ⟨h1, h2, h3⟩ := f3 (done_old q (by decide)); ⟨done_stay h1, done_stay h2, h3⟩), kp f4, kp f5, kp f6, fun _ => ⟨done_stay Z.down.2.2.1, done_stay Z.down.2.2.2, a, c, rfl⟩, kp f8, fun q => (let ⟨h1, h2⟩ := f9 (done_old q (by decide)); ⟨done_stay h1, done_stay h2⟩), kp f10, ?_⟩
    exact fun _ => ⟨done_stay Z.down.1, done_stay Z.down.2.1⟩
  · rintro done a w hall ⟨t15, t16, t17, t18, t19, t20, t21, t22, t23, t24, rfl, gw, f0, f1, f2, f3, f4, f5, f6, f7, f8, f9, f10, f11⟩
    have h9 := hall 9 (by decide)
    have h11 := hall 11 (by decide)
    have h3 := hall 3 (by decide)
    have h7 := hall 7 (by decide)
    have h0 := hall 0 (by decide)
    have h4 := hall 4 (by decide)
    obtain ⟨_, _, a1, c1, e1⟩ := f3 h3
    obtain ⟨_, _, a2, c2, e2⟩ := f7 h7
    have r := gw.row
    rw [h9, h11] at r
    simp only [if_true] at r
    have n := gw.ne h0 h4
    rw [h3, h7] at n
    exact h' _ _ _ _ _ _ _ _ _ _ a1 a2 c1 c2 w e1 e2 gw.gr r (gw.s1.a h3).1 (gw.s2.a h7).1 (gw.s1.a h3).2 (gw.s2.a h7).2 n
theorem KSt.mid15 {b len : Nat} {w W W' : World} {ts : List CT} {g cap : Nat} (h : KSt b len w ts g cap W) {k : Nat} (hk : k < ts.length) (hg : W.grownBy W' (bpK ts[k])) : W'.cell? ⟨g, k * 5 + 1, none⟩ = some (.slice ts[k].ap ts[k].c.parents.length ts[k].cp) ∧ W'.frozen? ⟨g, k * 5 + 1, none⟩ = false ∧ Has W' g := by
  have hp := h.lst.par _ (List.getElem_mem hk)
  have ho : W'.ownsRow w.heap.size 79 5 (.slice (some ⟨g, 0, none⟩) ts.length cap) ts.length (ts.flatMap encC) := h.own.kept hg (owns_two hp h.own (by decide))
  have c2 := ((ho.cellAt (k * 5 + 1) (by omega)).trans (h.own.cellAt (k * 5 + 1) (by omega)).symm).trans (h.at hk).2.1
  exact ⟨c2, ho.frozenAt _, has_of_cell c2⟩
def kl15F (wb wr : World) (b len n : Nat) (ts : List CT) (gx cap k : Nat) (t : CT) (t55 t56 t57 t58 t59 t60 t61 t62 t63 t64 t65 t66 t67 : Value) (d : Array Bool) (w : World) : Prop :=
  (d.getD 10 false = true ∨ KSt b len wb ts gx cap w) ∧ (d.getD 0 false = true → t55 = .pointer (some ⟨gx, k * 5, none⟩)) ∧
  (d.getD 1 false = true → t56 = .pointer (some ⟨gx, k * 5, none⟩)) ∧
  (d.getD 2 false = true → t57 = .pointer (some ⟨gx, k * 5, none⟩)) ∧
  (d.getD 3 false = true → t58 = .pointer (some ⟨gx, k * 5 + 1, none⟩)) ∧
  (d.getD 4 false = true → t59 = .slice t.ap t.c.parents.length t.cp) ∧
  (d.getD 5 false = true → t60 = .pointer (some ⟨b, 0, none⟩)) ∧
  (d.getD 6 false = true → t61 = .slice (some ⟨gx, 0, none⟩) n cap) ∧
  (d.getD 7 false = true → t62 = .int .i64 (n : Int)) ∧
  (d.getD 8 false = true → (∃ y : Int, t63 = .int .i64 y ∧ -1 ≤ y ∧ y ≤ 1000)) ∧
  (d.getD 9 false = true → (d.getD 8 false = true ∧ ∃ (E : Nat) (y : Int), t64 = .slice (some ⟨E, 0, none⟩) 1 1 ∧ -1 ≤ y ∧ y ≤ 1000 ∧ (d.getD 10 false = true ∨ Row w E 3 [.int .i64 y]))) ∧
  (d.getD 10 false = true → ((d.getD 4 false = true ∧ d.getD 8 false = true ∧ d.getD 9 false = true) ∧ ∃ (y : Int) (A : Option Addr) (c : Nat) (W1 : World), t65 = .slice A (t.c.parents.length + 1) c ∧ -1 ≤ y ∧ y ≤ 1000 ∧ (d.getD 13 false = true ∨ (KSt b len wb ts gx cap W1 ∧ W1.grownBy w (bpK t) ∧ w.ownsRow wb.heap.size 3 1 (.slice A (t.c.parents.length + 1) c) (t.c.parents.length + 1) (nums (t.c.parents ++ [y])))))) ∧
  (d.getD 11 false = true → t66 = .pointer (some ⟨gx, k * 5, none⟩)) ∧
  (d.getD 12 false = true → t67 = .pointer (some ⟨gx, k * 5 + 1, none⟩)) ∧
  (d.getD 13 false = true → (d.getD 10 false = true ∧ GivesClks b len wb (.returned (.slice (some ⟨gx, 0, none⟩) n cap)) w))
def kl15A (b n gx cap k : Nat) (t55 t56 t57 t58 t59 t60 t61 t62 t63 t64 t65 t66 t67 s1 s2 s3 s4 s6 s7 s9 s10 s11 s12 s13 s14 s15 s16 s17 s18 s19 s20 s21 s22 s23 s24 s25 s26 s27 s28 s29 s30 s31 s32 s33 s34 s35 s36 s37 s38 s39 s40 s41 s42 s43 s44 s45 s46 s47 s48 s49 s50 s51 s52 s53 s54 s68 s69 s70 s71 s72 s73 s74 s75 s76 s77 s78 s79 s80 s81 s82 s83 s84 s85 s86 s87 s88 s89 s90 s91 s92 s93 s94 s95 s96 s97 s98 s99 s100 s101 s102 s103 s104 s105 s106 s107 s108 : Value) : Act := { tmps := #[.pointer (some ⟨b, 0, none⟩), s1, s2, s3, s4, .slice (some ⟨gx, 0, none⟩) n cap, s6, s7, .pointer (some ⟨gx, k * 5, none⟩), s9, s10, s11, s12, s13, s14, s15, s16, s17, s18, s19, s20, s21, s22, s23, s24, s25, s26, s27, s28, s29, s30, s31, s32, s33, s34, s35, s36, s37, s38, s39, s40, s41, s42, s43, s44, s45, s46, s47, s48, s49, s50, s51, s52, s53, s54, t55, t56, t57, t58, t59, t60, t61, t62, t63, t64, t65, t66, t67, s68, s69, s70, s71, s72, s73, s74, s75, s76, s77, s78, s79, s80, s81, s82, s83, s84, s85, s86, s87, s88, s89, s90, s91, s92, s93, s94, s95, s96, s97, s98, s99, s100, s101, s102, s103, s104, s105, s106, s107, s108], defers := [] }
theorem kl15 {Q : Exit → Act → World → Prop} {wb wr : World} {b len n : Nat} {ts : List CT} {gx cap k : Nat} {t : CT}  {s1 s2 s3 s4 s6 s7 s9 s10 s11 s12 s13 s14 s15 s16 s17 s18 s19 s20 s21 s22 s23 s24 s25 s26 s27 s28 s29 s30 s31 s32 s33 s34 s35 s36 s37 s38 s39 s40 s41 s42 s43 s44 s45 s46 s47 s48 s49 s50 s51 s52 s53 s54 s55 s56 s57 s58 s59 s60 s61 s62 s63 s64 s65 s66 s67 s68 s69 s70 s71 s72 s73 s74 s75 s76 s77 s78 s79 s80 s81 s82 s83 s84 s85 s86 s87 s88 s89 s90 s91 s92 s93 s94 s95 s96 s97 s98 s99 s100 s101 s102 s103 s104 s105 s106 s107 s108 : Value} (TP0 : Tp wb b len) (HB0 : KSt b len wb ts gx cap wr) (hk : k < ts.length) (hx : ts[k] = t) (hl : ts.length = n) (hn1 : 1 ≤ n) (hl2 : ts.length ≤ 1000) (hnl : t.c.parents.length ≤ 900)
    (h' : ∀ t55 t56 t57 t58 t59 t60 t61 t62 t63 t64 t65 t66 t67 wx, GivesClks b len wb (.returned (.slice (some ⟨gx, 0, none⟩) n cap)) wx → Q .normal (kl15A b n gx cap k t55 t56 t57 t58 t59 t60 t61 t62 t63 t64 t65 t66 t67 s1 s2 s3 s4 s6 s7 s9 s10 s11 s12 s13 s14 s15 s16 s17 s18 s19 s20 s21 s22 s23 s24 s25 s26 s27 s28 s29 s30 s31 s32 s33 s34 s35 s36 s37 s38 s39 s40 s41 s42 s43 s44 s45 s46 s47 s48 s49 s50 s51 s52 s53 s54 s68 s69 s70 s71 s72 s73 s74 s75 s76 s77 s78 s79 s80 s81 s82 s83 s84 s85 s86 s87 s88 s89 s90 s91 s92 s93 s94 s95 s96 s97 s98 s99 s100 s101 s102 s103 s104 s105 s106 s107 s108) wx) :
    (Code.region 15 (regIn 15 Tryz.f13) true).wp Tryz.prog Q { tmps := #[.pointer (some ⟨b, 0, none⟩), s1, s2, s3, s4, .slice (some ⟨gx, 0, none⟩) n cap, s6, s7, .pointer (some ⟨gx, k * 5, none⟩), s9, s10, s11, s12, s13, s14, s15, s16, s17, s18, s19, s20, s21, s22, s23, s24, s25, s26, s27, s28, s29, s30, s31, s32, s33, s34, s35, s36, s37, s38, s39, s40, s41, s42, s43, s44, s45, s46, s47, s48, s49, s50, s51, s52, s53, s54, s55, s56, s57, s58, s59, s60, s61, s62, s63, s64, s65, s66, s67, s68, s69, s70, s71, s72, s73, s74, s75, s76, s77, s78, s79, s80, s81, s82, s83, s84, s85, s86, s87, s88, s89, s90, s91, s92, s93, s94, s95, s96, s97, s98, s99, s100, s101, s102, s103, s104, s105, s106, s107, s108], defers := [] } wr := by
  have TP := PLift.up TP0
  have HBW := PLift.up TP0.has
  have HK0 := PLift.up hk
  have HX : PLift (ts[k]'hk = t) := PLift.up hx
  have HL := PLift.up hl
  have WX : PLift (∀ z ∈ t.c.parents, Wide z) := PLift.up (by have := (HB0.wd _ (List.getElem_mem hk)).2.2.2.1; rw [hx] at this; exact this)
  obtain ⟨j0, hj, hy0, hy1, hy2⟩ := info_parts infoInt
  clear TP0
  simp only [regIn, Tryz.f13, regOps, Option.bind_some, Option.getD_some, Nat.beq, cond_true, cond_false]
  refine wp_region_steps (fun done a w => ∃ t55 t56 t57 t58 t59 t60 t61 t62 t63 t64 t65 t66 t67, a = kl15A b n gx cap k t55 t56 t57 t58 t59 t60 t61 t62 t63 t64 t65 t66 t67 s1 s2 s3 s4 s6 s7 s9 s10 s11 s12 s13 s14 s15 s16 s17 s18 s19 s20 s21 s22 s23 s24 s25 s26 s27 s28 s29 s30 s31 s32 s33 s34 s35 s36 s37 s38 s39 s40 s41 s42 s43 s44 s45 s46 s47 s48 s49 s50 s51 s52 s53 s54 s68 s69 s70 s71 s72 s73 s74 s75 s76 s77 s78 s79 s80 s81 s82 s83 s84 s85 s86 s87 s88 s89 s90 s91 s92 s93 s94 s95 s96 s97 s98 s99 s100 s101 s102 s103 s104 s105 s106 s107 s108 ∧ kl15F wb wr b len n ts gx cap k t t55 t56 t57 t58 t59 t60 t61 t62 t63 t64 t65 t66 t67 done w) (by kernel_rfl) (by kernel_rfl) ?_ ⟨?_, ?_, ?_, ?_, ?_, ?_, ?_, ?_, ?_, ?_, ?_, ?_, ?_, ?_, trivial⟩ ?_
  · exact ⟨s55, s56, s57, s58, s59, s60, s61, s62, s63, s64, s65, s66, s67, rfl, .inr (HB0.gr (Gr.refl _).drew), fun q => absurd q (by decide), fun q => absurd q (by decide), fun q => absurd q (by decide), fun q => absurd q (by decide), fun q => absurd q (by decide), fun q => absurd q (by decide), fun q => absurd q (by decide), fun q => absurd q (by decide), fun q => absurd q (by decide), fun q => absurd q (by decide), fun q => absurd q (by decide), fun q => absurd q (by decide), fun q => absurd q (by decide), fun q => absurd q (by decide)⟩
  · rintro done a w hsz hnot hdep ⟨t55, t56, t57, t58, t59, t60, t61, t62, t63, t64, t65, t66, t67, rfl, gw, f0, f1, f2, f3, f4, f5, f6, f7, f8, f9, f10, f11, f12, f13⟩ K hK
    have hn : ¬ done.getD 0 false = true := by rw [getD_both hnot]; decide
    have HK := PLift.up hK
    clear hK 
    simp only [kl15A]
    go_simp
    have gg : Gr w w := Gr.refl _
    refine HK.down _ _ ⟨_, _, _, _, _, _, _, _, _, _, _, _, _, rfl, gw.imp done_stay id, fun _ => rfl, kp f1, kp f2, kp f3, kp f4, kp f5, kp f6, kp f7, kp f8, fun q => (let ⟨h9, E, y, e, y0, y1, h⟩ := f9 (done_old q (by decide)); ⟨done_stay h9, E, y, e, y0, y1, h.imp done_stay id⟩), fun q => (let ⟨⟨h4, h9, h10⟩, y, A, c, W1, e, y0, y1, h⟩ := f10 (done_old q (by decide)); ⟨⟨done_stay h4, done_stay h9, done_stay h10⟩, y, A, c, W1, e, y0, y1, h.imp done_stay id⟩), kp f11, kp f12, fun q => (let h := f13 (done_old q (by decide)); ⟨done_stay h.1, h.2⟩)⟩
  · rintro done a w hsz hnot hdep ⟨t55, t56, t57, t58, t59, t60, t61, t62, t63, t64, t65, t66, t67, rfl, gw, f0, f1, f2, f3, f4, f5, f6, f7, f8, f9, f10, f11, f12, f13⟩ K hK
    have hn : ¬ done.getD 1 false = true := by rw [getD_both hnot]; decide
    have HK := PLift.up hK
    clear hK 
    simp only [kl15A]
    go_simp
    have gg : Gr w w := Gr.refl _
    refine HK.down _ _ ⟨_, _, _, _, _, _, _, _, _, _, _, _, _, rfl, gw.imp done_stay id, kp f0, fun _ => rfl, kp f2, kp f3, kp f4, kp f5, kp f6, kp f7, kp f8, fun q => (let ⟨h9, E, y, e, y0, y1, h⟩ := f9 (done_old q (by decide)); ⟨done_stay h9, E, y, e, y0, y1, h.imp done_stay id⟩), fun q => (let ⟨⟨h4, h9, h10⟩, y, A, c, W1, e, y0, y1, h⟩ := f10 (done_old q (by decide)); ⟨⟨done_stay h4, done_stay h9, done_stay h10⟩, y, A, c, W1, e, y0, y1, h.imp done_stay id⟩), kp f11, kp f12, fun q => (let h := f13 (done_old q (by decide)); ⟨done_stay h.1, h.2⟩)⟩
  · rintro done a w hsz hnot hdep ⟨t55, t56, t57, t58, t59, t60, t61, t62, t63, t64, t65, t66, t67, rfl, gw, f0, f1, f2, f3, f4, f5, f6, f7, f8, f9, f10, f11, f12, f13⟩ K hK
    have hn : ¬ done.getD 2 false = true := by rw [getD_both hnot]; decide
    have d1 := hdep 1 (by kernel_rfl)
    obtain rfl := f1 d1
    have HK := PLift.up hK
    clear hK d1
    simp only [kl15A]
    go_simp
    have gg : Gr w w := Gr.refl _
    refine HK.down _ _ ⟨_, _, _, _, _, _, _, _, _, _, _, _, _, rfl, gw.imp done_stay id, kp f0, kp f1, fun _ => rfl, kp f3, kp f4, kp f5, kp f6, kp f7, kp f8, fun q => (let ⟨h9, E, y, e, y0, y1, h⟩ := f9 (done_old q (by decide)); ⟨done_stay h9, E, y, e, y0, y1, h.imp done_stay id⟩), fun q => (let ⟨⟨h4, h9, h10⟩, y, A, c, W1, e, y0, y1, h⟩ := f10 (done_old q (by decide)); ⟨⟨done_stay h4, done_stay h9, done_stay h10⟩, y, A, c, W1, e, y0, y1, h.imp done_stay id⟩), kp f11, kp f12, fun q => (let h := f13 (done_old q (by decide)); ⟨done_stay h.1, h.2⟩)⟩
  · rintro done a w hsz hnot hdep ⟨t55, t56, t57, t58, t59, t60, t61, t62, t63, t64, t65, t66, t67, rfl, gw, f0, f1, f2, f3, f4, f5, f6, f7, f8, f9, f10, f11, f12, f13⟩ K hK
    have hn : ¬ done.getD 3 false = true := by rw [getD_both hnot]; decide
    have d2 := hdep 2 (by kernel_rfl)
    obtain rfl := f2 d2
    have HK := PLift.up hK
    clear hK d2
    simp only [kl15A]
    go_simp
    have gg : Gr w w := Gr.refl _
    refine HK.down _ _ ⟨_, _, _, _, _, _, _, _, _, _, _, _, _, rfl, gw.imp done_stay id, kp f0, kp f1, kp f2, fun _ => rfl, kp f4, kp f5, kp f6, kp f7, kp f8, fun q => (let ⟨h9, E, y, e, y0, y1, h⟩ := f9 (done_old q (by decide)); ⟨done_stay h9, E, y, e, y0, y1, h.imp done_stay id⟩), fun q => (let ⟨⟨h4, h9, h10⟩, y, A, c, W1, e, y0, y1, h⟩ := f10 (done_old q (by decide)); ⟨⟨done_stay h4, done_stay h9, done_stay h10⟩, y, A, c, W1, e, y0, y1, h.imp done_stay id⟩), kp f11, kp f12, fun q => (let h := f13 (done_old q (by decide)); ⟨done_stay h.1, h.2⟩)⟩
  · rintro done a w hsz hnot hdep ⟨t55, t56, t57, t58, t59, t60, t61, t62, t63, t64, t65, t66, t67, rfl, gw, f0, f1, f2, f3, f4, f5, f6, f7, f8, f9, f10, f11, f12, f13⟩ K hK
    have hn : ¬ done.getD 4 false = true := by rw [getD_both hnot]; decide
    have d3 := hdep 3 (by kernel_rfl)
    obtain rfl := f3 d3
    have nA : ¬ done.getD 10 false = true := fun h => hn (f10 h).1.1
    have HB := PLift.up (gw.resolve_left nA)
    obtain ⟨_, c1, c2, _, _, ch, cf⟩ := HB.down.at HK0.down
    rw [HX.down] at c1 c2
    clear cf nA
    have HK := PLift.up hK
    clear hK d3
    simp only [kl15A]
    go_simp
    have gg : Gr w w := Gr.refl _
    refine HK.down _ _ ⟨_, _, _, _, _, _, _, _, _, _, _, _, _, rfl, gw.imp done_stay id, kp f0, kp f1, kp f2, kp f3, fun _ => rfl, kp f5, kp f6, kp f7, kp f8, fun q => (let ⟨h9, E, y, e, y0, y1, h⟩ := f9 (done_old q (by decide)); ⟨done_stay h9, E, y, e, y0, y1, h.imp done_stay id⟩), fun q => absurd (f10 (done_old q (by decide))).1.1 hn, kp f11, kp f12, fun q => absurd (f10 (f13 (done_old q (by decide))).1).1.1 hn⟩
  · rintro done a w hsz hnot hdep ⟨t55, t56, t57, t58, t59, t60, t61, t62, t63, t64, t65, t66, t67, rfl, gw, f0, f1, f2, f3, f4, f5, f6, f7, f8, f9, f10, f11, f12, f13⟩ K hK
    have hn : ¬ done.getD 5 false = true := by rw [getD_both hnot]; decide
    have HK := PLift.up hK
    clear hK 
    simp only [kl15A]
    go_simp
    have gg : Gr w w := Gr.refl _
    refine HK.down _ _ ⟨_, _, _, _, _, _, _, _, _, _, _, _, _, rfl, gw.imp done_stay id, kp f0, kp f1, kp f2, kp f3, kp f4, fun _ => rfl, kp f6, kp f7, kp f8, fun q => (let ⟨h9, E, y, e, y0, y1, h⟩ := f9 (done_old q (by decide)); ⟨done_stay h9, E, y, e, y0, y1, h.imp done_stay id⟩), fun q => (let ⟨⟨h4, h9, h10⟩, y, A, c, W1, e, y0, y1, h⟩ := f10 (done_old q (by decide)); ⟨⟨done_stay h4, done_stay h9, done_stay h10⟩, y, A, c, W1, e, y0, y1, h.imp done_stay id⟩), kp f11, kp f12, fun q => (let h := f13 (done_old q (by decide)); ⟨done_stay h.1, h.2⟩)⟩
  · rintro done a w hsz hnot hdep ⟨t55, t56, t57, t58, t59, t60, t61, t62, t63, t64, t65, t66, t67, rfl, gw, f0, f1, f2, f3, f4, f5, f6, f7, f8, f9, f10, f11, f12, f13⟩ K hK
    have hn : ¬ done.getD 6 false = true := by rw [getD_both hnot]; decide
    have HK := PLift.up hK
    clear hK 
    simp only [kl15A]
    go_simp
    have gg : Gr w w := Gr.refl _
    refine HK.down _ _ ⟨_, _, _, _, _, _, _, _, _, _, _, _, _, rfl, gw.imp done_stay id, kp f0, kp f1, kp f2, kp f3, kp f4, kp f5, fun _ => rfl, kp f7, kp f8, fun q => (let ⟨h9, E, y, e, y0, y1, h⟩ := f9 (done_old q (by decide)); ⟨done_stay h9, E, y, e, y0, y1, h.imp done_stay id⟩), fun q => (let ⟨⟨h4, h9, h10⟩, y, A, c, W1, e, y0, y1, h⟩ := f10 (done_old q (by decide)); ⟨⟨done_stay h4, done_stay h9, done_stay h10⟩, y, A, c, W1, e, y0, y1, h.imp done_stay id⟩), kp f11, kp f12, fun q => (let h := f13 (done_old q (by decide)); ⟨done_stay h.1, h.2⟩)⟩
  · rintro done a w hsz hnot hdep ⟨t55, t56, t57, t58, t59, t60, t61, t62, t63, t64, t65, t66, t67, rfl, gw, f0, f1, f2, f3, f4, f5, f6, f7, f8, f9, f10, f11, f12, f13⟩ K hK
    have hn : ¬ done.getD 7 false = true := by rw [getD_both hnot]; decide
    have d6 := hdep 6 (by kernel_rfl)
    obtain rfl := f6 d6
    have HK := PLift.up hK
    clear hK d6
    simp only [kl15A]
    go_simp
    have gg : Gr w w := Gr.refl _
    refine HK.down _ _ ⟨_, _, _, _, _, _, _, _, _, _, _, _, _, rfl, gw.imp done_stay id, kp f0, kp f1, kp f2, kp f3, kp f4, kp f5, kp f6, fun _ => rfl, kp f8, fun q => (let ⟨h9, E, y, e, y0, y1, h⟩ := f9 (done_old q (by decide)); ⟨done_stay h9, E, y, e, y0, y1, h.imp done_stay id⟩), fun q => (let ⟨⟨h4, h9, h10⟩, y, A, c, W1, e, y0, y1, h⟩ := f10 (done_old q (by decide)); ⟨⟨done_stay h4, done_stay h9, done_stay h10⟩, y, A, c, W1, e, y0, y1, h.imp done_stay id⟩), kp f11, kp f12, fun q => (let h := f13 (done_old q (by decide)); ⟨done_stay h.1, h.2⟩)⟩
  · rintro done a w hsz hnot hdep ⟨t55, t56, t57, t58, t59, t60, t61, t62, t63, t64, t65, t66, t67, rfl, gw, f0, f1, f2, f3, f4, f5, f6, f7, f8, f9, f10, f11, f12, f13⟩ K hK
    have hn : ¬ done.getD 8 false = true := by rw [getD_both hnot]; decide
    have d5 := hdep 5 (by kernel_rfl)
    have d7 := hdep 7 (by kernel_rfl)
    obtain rfl := f5 d5
    obtain rfl := f7 d7
    have nA : ¬ done.getD 10 false = true := fun h => hn (f10 h).1.2.1
    have HB := PLift.up (gw.resolve_left nA)
    clear nA
    have HK := PLift.up hK
    clear hK d5 d7
    simp only [kl15A]
    go_simp
    refine (rangeM_any w b len (-1) (n : Int) (HB.down.mv.tp TP.down) (by omega) (by omega) (by omega)).mono ?_
    rintro e w2 ⟨y, rfl, ⟨y0, y1⟩, hm⟩
    (try go_simp)
    refine HK.down _ _ ⟨_, _, _, _, _, _, _, _, _, _, _, _, _, rfl, .inr (HB.down.mvd HBW.down hm), kp f0, kp f1, kp f2, kp f3, kp f4, kp f5, kp f6, kp f7, ?_, fun q => absurd (f9 (done_old q (by decide))).1 hn, fun q => absurd (f10 (done_old q (by decide))).1.2.1 hn, kp f11, kp f12, fun q => absurd (f10 (f13 (done_old q (by decide))).1).1.2.1 hn⟩
    exact fun _ => ⟨y, rfl, by omega, by omega⟩
  · rintro done a w hsz hnot hdep ⟨t55, t56, t57, t58, t59, t60, t61, t62, t63, t64, t65, t66, t67, rfl, gw, f0, f1, f2, f3, f4, f5, f6, f7, f8, f9, f10, f11, f12, f13⟩ K hK
    have hn : ¬ done.getD 9 false = true := by rw [getD_both hnot]; decide
    have d8 := hdep 8 (by kernel_rfl)
    have nA : ¬ done.getD 10 false = true := fun h => hn (f10 h).1.2.2
    have HB := PLift.up (gw.resolve_left nA)
    obtain ⟨y, rfl, y0, y1⟩ := f8 d8
    have D9 := PLift.up d8
    clear d8 nA
    have HK := PLift.up hK
    clear hK 
    simp only [kl15A]
    go_simp
    have gg : Gr w (w.alloc (.cells #[.int .i64 y] 3)) := (Gr.refl _).alloc _
    refine HK.down _ _ ⟨_, _, _, _, _, _, _, _, _, _, _, _, _, rfl, .inr (HB.down.gr gg), kp f0, kp f1, kp f2, kp f3, kp f4, kp f5, kp f6, kp f7, fun _ => ⟨y, rfl, y0, y1⟩, ?_, fun q => absurd (f10 (done_old q (by decide))).1.2.2 hn, kp f11, kp f12, fun q => absurd (f10 (f13 (done_old q (by decide))).1).1.2.2 hn⟩
    exact fun _ => ⟨done_stay D9.down, w.heap.size, y, rfl, y0, y1, .inr (Row.new w #[.int .i64 y] 3)⟩
  · rintro done a w hsz hnot hdep ⟨t55, t56, t57, t58, t59, t60, t61, t62, t63, t64, t65, t66, t67, rfl, gw, f0, f1, f2, f3, f4, f5, f6, f7, f8, f9, f10, f11, f12, f13⟩ K hK
    have hn : ¬ done.getD 10 false = true := by rw [getD_both hnot]; decide
    have d4 := hdep 4 (by kernel_rfl)
    have d9 := hdep 9 (by kernel_rfl)
    obtain rfl := f4 d4
    obtain ⟨h9, E, y, rfl, y0, y1, hE⟩ := f9 d9
    have hE2 := hE.resolve_left hn
    have HB := gw.resolve_left hn
    have on := HB.lst.par _ (List.getElem_mem HK0.down)
    rw [HX.down] at on
    unfold ParO at on
    refine step_append_gets _ rfl _ _ 22 rfl wb.heap.size 3 j0 (.int .i64 0) 1 8 Tryz.underlying22 hj hy0 hy1 hy2 rfl (by decide) (.slice t.ap t.c.parents.length t.cp) t.c.parents.length (nums t.c.parents) (by simp [Act.eval, kl15A]) on (some ⟨E, 0, none⟩) 1 1 [.int .i64 y] (by simp [Act.eval, kl15A]) ⟨rfl, fun _ => ⟨_, rfl, row_cells hE2⟩⟩ (fun u hu => by rw [List.mem_singleton.1 hu]; rfl) (by unfold maxLen; omega) (by omega) HB.mv.size ?_
    intro v w2 hown hgrow _
    obtain ⟨A, c, rfl⟩ := owns_slice hown
    have e : nums (t.c.parents ++ [y]) = nums t.c.parents ++ [.int .i64 y] := by simp [nums]
    refine hK _ _ ⟨_, _, _, _, _, _, _, _, _, _, _, _, _, rfl, .inl (getD_set_same (by rw [hsz]; decide)), kp f0, kp f1, kp f2, kp f3, fun _ => rfl, kp f5, kp f6, kp f7, kp f8, fun _ => ⟨done_stay h9, E, y, rfl, y0, y1, .inl (getD_set_same (by rw [hsz]; decide))⟩, ?_, kp f11, kp f12, fun q => absurd (f13 (done_old q (by decide))).1 hn⟩
    exact fun _ => ⟨⟨done_stay (hdep 4 (by kernel_rfl)), done_stay h9, done_stay d9⟩, y, A, c, w, rfl, y0, y1, .inr ⟨HB, hgrow, e ▸ hown⟩⟩
  · rintro done a w hsz hnot hdep ⟨t55, t56, t57, t58, t59, t60, t61, t62, t63, t64, t65, t66, t67, rfl, gw, f0, f1, f2, f3, f4, f5, f6, f7, f8, f9, f10, f11, f12, f13⟩ K hK
    have hn : ¬ done.getD 11 false = true := by rw [getD_both hnot]; decide
    have d0 := hdep 0 (by kernel_rfl)
    obtain rfl := f0 d0
    have HK := PLift.up hK
    clear hK d0
    simp only [kl15A]
    go_simp
    have gg : Gr w w := Gr.refl _
    refine HK.down _ _ ⟨_, _, _, _, _, _, _, _, _, _, _, _, _, rfl, gw.imp done_stay id, kp f0, kp f1, kp f2, kp f3, kp f4, kp f5, kp f6, kp f7, kp f8, fun q => (let ⟨h9, E, y, e, y0, y1, h⟩ := f9 (done_old q (by decide)); ⟨done_stay h9, E, y, e, y0, y1, h.imp done_stay id⟩), fun q => (let ⟨⟨h4, h9, h10⟩, y, A, c, W1, e, y0, y1, h⟩ := f10 (done_old q (by decide)); ⟨⟨done_stay h4, done_stay h9, done_stay h10⟩, y, A, c, W1, e, y0, y1, h.imp done_stay id⟩), fun _ => rfl, kp f12, fun q => (let h := f13 (done_old q (by decide)); ⟨done_stay h.1, h.2⟩)⟩
  · rintro done a w hsz hnot hdep ⟨t55, t56, t57, t58, t59, t60, t61, t62, t63, t64, t65, t66, t67, rfl, gw, f0, f1, f2, f3, f4, f5, f6, f7, f8, f9, f10, f11, f12, f13⟩ K hK
    have hn : ¬ done.getD 12 false = true := by rw [getD_both hnot]; decide
    have d11 := hdep 11 (by kernel_rfl)
    obtain rfl := f11 d11
    have HK := PLift.up hK
    clear hK d11
    simp only [kl15A]
    go_simp
    have gg : Gr w w := Gr.refl _
    refine HK.down _ _ ⟨_, _, _, _, _, _, _, _, _, _, _, _, _, rfl, gw.imp done_stay id, kp f0, kp f1, kp f2, kp f3, kp f4, kp f5, kp f6, kp f7, kp f8, fun q => (let ⟨h9, E, y, e, y0, y1, h⟩ := f9 (done_old q (by decide)); ⟨done_stay h9, E, y, e, y0, y1, h.imp done_stay id⟩), fun q => (let ⟨⟨h4, h9, h10⟩, y, A, c, W1, e, y0, y1, h⟩ := f10 (done_old q (by decide)); ⟨⟨done_stay h4, done_stay h9, done_stay h10⟩, y, A, c, W1, e, y0, y1, h.imp done_stay id⟩), kp f11, fun _ => rfl, fun q => (let h := f13 (done_old q (by decide)); ⟨done_stay h.1, h.2⟩)⟩
  · rintro done a w hsz hnot hdep ⟨t55, t56, t57, t58, t59, t60, t61, t62, t63, t64, t65, t66, t67, rfl, gw, f0, f1, f2, f3, f4, f5, f6, f7, f8, f9, f10, f11, f12, f13⟩ K hK
    have hn : ¬ done.getD 13 false = true := by rw [getD_both hnot]; decide
    have d12 := hdep 12 (by kernel_rfl)
    have d10 := hdep 10 (by kernel_rfl)
    obtain rfl := f12 d12
    obtain ⟨⟨h4, h9, h10⟩, y, A, c, W1, rfl, y0, y1, h⟩ := f10 d10
    have HH := PLift.up (h.resolve_left hn)
    have D := PLift.up (And.intro d10 (And.intro h4 (And.intro h9 h10)))
    clear d10 h4 h9 h10 h
    have hg := HH.down.2.1
    rw [← HX.down] at hg
    obtain ⟨c2, cf2, ch⟩ := HH.down.1.mid15 HK0.down hg
    have HG := PLift.up hg
    clear hg
    rw [HX.down] at c2
    have HK := PLift.up hK
    clear hK d12
    simp only [kl15A]
    go_simp
    refine HK.down _ _ ⟨_, _, _, _, _, _, _, _, _, _, _, _, _, rfl, .inl (done_stay D.down.1), kp f0, kp f1, kp f2, kp f3, kp f4, kp f5, kp f6, kp f7, kp f8, fun q => (let ⟨h9, E, y, e, y0, y1, h⟩ := f9 (done_old q (by decide)); ⟨done_stay h9, E, y, e, y0, y1, .inl (done_stay D.down.1)⟩), fun _ => ⟨⟨done_stay D.down.2.1, done_stay D.down.2.2.1, done_stay D.down.2.2.2⟩, y, A, c, W1, rfl, y0, y1, .inl (getD_set_same (by rw [hsz]; decide))⟩, kp f11, kp f12, ?_⟩
    have g := HH.down.1.pars hl2 HK0.down (ns := t.c.parents ++ [y]) (by simp; omega) (fun z hz => ?_) (by simp) HH.down.2.2 HG.down HL.down
    · exact fun _ => ⟨done_stay D.down.1, g⟩
    · rcases List.mem_append.1 hz with hz | hz
      · exact WX.down z hz
      · rw [List.mem_singleton.1 hz]; unfold Wide; omega
  · rintro done a w hall ⟨t55, t56, t57, t58, t59, t60, t61, t62, t63, t64, t65, t66, t67, rfl, gw, f0, f1, f2, f3, f4, f5, f6, f7, f8, f9, f10, f11, f12, f13⟩
    exact h' _ _ _ _ _ _ _ _ _ _ _ _ _ w (f13 (hall 13 (by decide))).2
end Go.Proofs.YtenehghpmnajpaaGreatDoor
