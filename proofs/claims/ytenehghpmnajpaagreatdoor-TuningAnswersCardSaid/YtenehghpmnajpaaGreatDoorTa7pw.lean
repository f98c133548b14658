/- Lemmas and contracts for the proof of TuningAnswers (several texts in one, printed by wip/tools/pack.py): BnE KlA Kl5. -/
import Derived.Test.YtenehghpmnajpaaGreatDoorTa7pv
import Derived.Test.YtenehghpmnajpaaGreatDoorTa7pu
set_option linter.unusedVariables false
set_option linter.unusedSimpArgs false
namespace Go.Proofs.YtenehghpmnajpaaGreatDoor
open Go.RowKit
open Classical
set_option maxRecDepth 100000 in
set_option maxHeartbeats 1000000 in
theorem bent0_any (w : World) (b len c : Nat) (a : Option Addr) (ht : Tp w b len) :
    Calls Tryz.prog 25 #[.pointer (some ⟨b, 0, none⟩), .slice a 0 c] w (GivesBent b len w) := by
  have HW := Lib.hid ht.has
  have TP := Lib.hid ht
  clear ht
  go_enter Tryz.func25, Tryz.ntmps25
  go_wp2_with fail
  refine wp_loop_rounds 1 ?_
  rw [rounds_succ]
  go_wp2_with fail
  refine (rangeM_any w b len (-1) 2 TP.out (by omega) (by omega) (by omega)).mono ?_
  rintro e w3 ⟨y, rfl, ⟨y0, y1⟩, hm3⟩
  have M3 := Lib.hid hm3
  clear hm3
  go_wp2_with fail
  go_ret
  have r := Row.new w3 #[.int .i64 y, .int .i64 0, .slice none 0 0] 81
  refine ⟨[⟨y, 0, []⟩], some ⟨w3.heap.size, 0, none⟩, 1, rfl, fun k hk => ?_, by simp, M3.out.gr ((Gr.refl _).alloc _)⟩
  have : k = 0 := by simpa using hk
  subst this
  have c0 := r.cell 0 (by simp)
  have c1 := r.cell 1 (by simp)
  have c2 := r.cell 2 (by simp)
  exact ⟨w3.heap.size, 0, rfl, ⟨c0, by show Wide y; unfold Wide; omega⟩, ⟨c1, by show Wide 0; unfold Wide; omega⟩, ⟨none, 0, c2, Nat.le_refl _, by unfold Fit; simp, SlOf.nil _ _ _ _⟩⟩
theorem bentG_any (w : World) (b len c : Nat) (a : Option Addr) (bs : List Brn) (ht : Tp w b len) (hs : SlOf 3 RBrn w a bs) (hl : bs.length ≤ 90000) (hn : ∀ x ∈ bs, x.next.length ≤ 900) :
    Calls Tryz.prog 25 #[.pointer (some ⟨b, 0, none⟩), .slice a bs.length c] w (GivesBent b len w) := by
  rcases Nat.eq_zero_or_pos bs.length with e | e
  · rw [e]; exact bent0_any w b len c a ht
  · exact bent_any w b len c a bs ht hs e hl hn
end Go.Proofs.YtenehghpmnajpaaGreatDoor

set_option linter.unusedVariables false
set_option linter.unusedSimpArgs false
namespace Go.Proofs.YtenehghpmnajpaaGreatDoor
open Go.RowKit
open Classical
def bpK (t : CT) : Option Nat := (Value.slice t.ap t.c.parents.length t.cp).ownBlock
def bcK (t : CT) : Option Nat := (Value.slice t.ac t.c.choices.length t.cc).ownBlock
def ParO (base : Nat) (w : World) (t : CT) : Prop := w.ownsRow base 3 1 (.slice t.ap t.c.parents.length t.cp) t.c.parents.length (nums t.c.parents)
def ChoO' (base : Nat) (w : World) (t : CT) : Prop := w.ownsRow base 3 1 (.slice t.ac t.c.choices.length t.cc) t.c.choices.length (nums t.c.choices)
/-- The lists of clocks lie in rows of the call's own, no two in one block. -/
structure KOwn (base : Nat) (w : World) (ts : List CT) : Prop where
  par : ∀ t ∈ ts, ParO base w t
  cho : ∀ t ∈ ts, ChoO' base w t
  two : ts.Pairwise fun x y => bpK x ≠ bpK y ∧ bcK x ≠ bcK y ∧ bpK x ≠ bcK y ∧ bcK x ≠ bpK y
  one : ∀ t ∈ ts, bpK t ≠ bcK t
def ClkWd (c : Clk) : Prop := (Wide c.kind ∧ Wide c.low ∧ Wide c.high) ∧ c.parents.length ≤ 1000 ∧ c.choices.length ≤ 1000 ∧ (∀ y ∈ c.parents, Wide y) ∧ ∀ y ∈ c.choices, Wide y
theorem clk_read {base base' : Nat} {w : World} {A : Option Addr} {cap n : Nat} {ts : List CT} (hn : ts.length = n) (h : w.ownsRow base 79 5 (.slice A n cap) n (ts.flatMap encC)) (hp : ∀ t ∈ ts, ParO base' w t) (hc : ∀ t ∈ ts, ChoO' base' w t) (hw : ∀ t ∈ ts, ClkWd t.c) : SlOf 5 RClk w A (ts.map (·.c)) := by
  intro k hk
  have hk' : k < ts.length := by simpa using hk
  obtain ⟨g, cap', e, _, _, hcl⟩ := owns_cell h (by omega)
  cases e
  refine ⟨g, 0, rfl, ?_⟩
  have hf := fun j (hj : j < 5) => flat_at encC 5 encC_len ts k j hk' hj
  have h2 : ∀ j, j < 5 → w.cell? ⟨g, k * 5 + j, none⟩ = (encC ts[k])[j]? := fun j hj => by
    rw [hcl (k * 5 + j) (by omega), hf j hj]
  rw [Nat.zero_add]
  obtain ⟨⟨a0, a3, a4⟩, l1, l2, w1, w2⟩ := hw ts[k] (List.getElem_mem hk')
  obtain ⟨p1, c1, e1, hcc1, o1⟩ := owns_own1 (hp ts[k] (List.getElem_mem hk'))
  obtain ⟨p2, c2, e2, hcc2, o2⟩ := owns_own1 (hc ts[k] (List.getElem_mem hk'))
  rw [List.getElem_map]
  have q1 : ts[k].ap = p1 ∧ ts[k].cp = c1 := by injection e1 with x1 _ x3; exact ⟨x1, x3⟩
  have q2 : ts[k].ac = p2 ∧ ts[k].cc = c2 := by injection e2 with x1 _ x3; exact ⟨x1, x3⟩
  exact ⟨⟨h2 0 (by omega), a0⟩, ⟨_, _, h2 1 (by omega), by rw [q1.2]; exact hcc1, by unfold Fit; omega, by rw [q1.1]; exact o1.slI fun j hj => w1 _ (List.getElem_mem hj)⟩,
    ⟨_, _, h2 2 (by omega), by rw [q2.2]; exact hcc2, by unfold Fit; omega, by rw [q2.1]; exact o2.slI fun j hj => w2 _ (List.getElem_mem hj)⟩, ⟨h2 3 (by omega), a3⟩, ⟨h2 4 (by omega), a4⟩⟩
section
variable {base : Nat} {w w' : World} {ts : List CT}
theorem KOwn.gr (h : KOwn base w ts) (hg : Gr w w') : KOwn base w' ts := ⟨fun t ht => Gr.owns (h.par t ht) hg, fun t ht => Gr.owns (h.cho t ht) hg, h.two, h.one⟩
theorem KOwn.mv {b len : Nat} (h : KOwn base w ts) (hm : Mv b len w w') (hb : b < base) : KOwn base w' ts := ⟨fun t ht => hm.owns (h.par t ht) hb, fun t ht => hm.owns (h.cho t ht) hb, h.two, h.one⟩
/-- A row of something else changed. -/
theorem KOwn.oth {base' e size n : Nat} {v : Value} {us : List Value} (h : KOwn base w ts) (o : w.ownsRow base' e size v n us) (he : e ≠ 3) (hg : w.grownBy w' v.ownBlock) : KOwn base w' ts :=
  ⟨fun t ht => World.ownsRow.kept (h.par t ht) hg (owns_two o (h.par t ht) he), fun t ht => World.ownsRow.kept (h.cho t ht) hg (owns_two o (h.cho t ht) he), h.two, h.one⟩
theorem KOwn.snoc {t : CT} (h : KOwn base w ts) (hp : ParO base w t) (hc : ChoO' base w t) (h1 : bpK t ≠ bcK t) (hn : ∀ y ∈ ts, bpK y ≠ bpK t ∧ bcK y ≠ bcK t ∧ bpK y ≠ bcK t ∧ bcK y ≠ bpK t) : KOwn base w (ts ++ [t]) := by
  refine ⟨fun y hy => ?_, fun y hy => ?_, ?_, fun y hy => ?_⟩
  · rcases List.mem_append.1 hy with hy | hy
    · exact h.par y hy
    · rw [List.mem_singleton.1 hy]; exact hp
  · rcases List.mem_append.1 hy with hy | hy
    · exact h.cho y hy
    · rw [List.mem_singleton.1 hy]; exact hc
  · rw [List.pairwise_append]
    exact ⟨h.two, by simp, fun y hy z hz => by rw [List.mem_singleton.1 hz]; exact hn y hy⟩
  · rcases List.mem_append.1 hy with hy | hy
    · exact h.one y hy
    · rw [List.mem_singleton.1 hy]; exact h1
end
/-- What stays while clocks are added. -/
structure KPl (b len : Nat) (w : World) (ts : List CT) (A : Option Addr) (cap : Nat) (W : World) : Prop where
  own : W.ownsRow w.heap.size 79 5 (.slice A ts.length cap) ts.length (ts.flatMap encC)
  par : ∀ t ∈ ts, ParO w.heap.size W t
  cho : ∀ t ∈ ts, ChoO' w.heap.size W t
  wd : ∀ t ∈ ts, ClkWd t.c
  mv : Mv b len w W
theorem KPl.read {b len : Nat} {w W : World} {ts : List CT} {A : Option Addr} {cap : Nat} (h : KPl b len w ts A cap W) : SlOf 5 RClk W A (ts.map (·.c)) := clk_read rfl h.own h.par h.cho h.wd
theorem KPl.mvd {b len : Nat} {w W W' : World} {ts : List CT} {A : Option Addr} {cap : Nat} (h : KPl b len w ts A cap W) (hb : b < w.heap.size) (m : Mv b len W W') : KPl b len w ts A cap W' :=
  ⟨m.owns h.own hb, fun t ht => m.owns (h.par t ht) hb, fun t ht => m.owns (h.cho t ht) hb, h.wd, h.mv.trans hb m⟩
/-- What Bent gives: some clocks. -/
def GivesClks (b len : Nat) (w : World) (e : Ending) (w' : World) : Prop :=
  ∃ (ts : List CT) (A : Option Addr) (cap : Nat), e = .returned (.slice A ts.length cap) ∧ ts.length ≤ 1000 ∧ KPl b len w ts A cap w'
theorem KPl.gives {b len : Nat} {w W : World} {ts : List CT} {A : Option Addr} {cap : Nat} (h : KPl b len w ts A cap W) (hl : ts.length ≤ 1000) : GivesClks b len w (.returned (.slice A ts.length cap)) W := ⟨ts, A, cap, rfl, hl, h⟩
/-- What stays while clocks are bent. -/
structure KSt (b len : Nat) (w : World) (ts : List CT) (g cap : Nat) (W : World) : Prop where
  own : W.ownsRow w.heap.size 79 5 (.slice (some ⟨g, 0, none⟩) ts.length cap) ts.length (ts.flatMap encC)
  lst : KOwn w.heap.size W ts
  wd : ∀ t ∈ ts, ClkWd t.c
  mv : Mv b len w W
section
variable {b len : Nat} {w W W' : World} {ts : List CT} {g cap : Nat}
theorem KSt.gr (h : KSt b len w ts g cap W) (hg : Gr W W') : KSt b len w ts g cap W' := ⟨Gr.owns h.own hg, h.lst.gr hg, h.wd, h.mv.gr hg⟩
theorem KSt.mvd (h : KSt b len w ts g cap W) (hb : b < w.heap.size) (m : Mv b len W W') : KSt b len w ts g cap W' := ⟨m.owns h.own hb, h.lst.mv m hb, h.wd, h.mv.trans hb m⟩
theorem KSt.gives (h : KSt b len w ts g cap W) (hl : ts.length ≤ 1000) : GivesClks b len w (.returned (.slice (some ⟨g, 0, none⟩) ts.length cap)) W :=
  ⟨ts, some ⟨g, 0, none⟩, cap, rfl, hl, h.own, h.lst.par, h.lst.cho, h.wd, h.mv⟩
theorem KSt.low (h : KSt b len w ts g cap W) : w.heap.size ≤ g := (h.own.lt g rfl).1
theorem KSt.at (h : KSt b len w ts g cap W) {k : Nat} (hk : k < ts.length) : W.cell? ⟨g, k * 5, none⟩ = some (.int .i64 ts[k].c.kind) ∧ W.cell? ⟨g, k * 5 + 1, none⟩ = some (.slice ts[k].ap ts[k].c.parents.length ts[k].cp) ∧ W.cell? ⟨g, k * 5 + 2, none⟩ = some (.slice ts[k].ac ts[k].c.choices.length ts[k].cc) ∧
    W.cell? ⟨g, k * 5 + 3, none⟩ = some (.int .i64 ts[k].c.low) ∧ W.cell? ⟨g, k * 5 + 4, none⟩ = some (.int .i64 ts[k].c.high) ∧ Has W g ∧ ∀ j, W.frozen? ⟨g, j, none⟩ = false := by
  have hf := fun j (hj : j < 5) => flat_at encC 5 encC_len ts k j hk hj
  have h0 : W.cell? ⟨g, k * 5, none⟩ = some (.int .i64 ts[k].c.kind) := by rw [h.own.cellAt (k * 5) (by omega)]; exact (hf 0 (by omega)).trans rfl
  have hj : ∀ j, j < 5 → W.cell? ⟨g, k * 5 + j, none⟩ = (encC ts[k])[j]? := fun j hj => by rw [h.own.cellAt (k * 5 + j) (by omega), hf j hj]
  exact ⟨h0, (hj 1 (by omega)).trans rfl, (hj 2 (by omega)).trans rfl, (hj 3 (by omega)).trans rfl, (hj 4 (by omega)).trans rfl, has_of_cell h0, fun j => h.own.frozenAt j⟩
theorem encC_put (ts : List CT) (i : Nat) (hi : i < ts.length) (j : Nat) (hj : j < 5) (v : Value) (t : CT) (he : encC t = (encC ts[i]).set j v) : (ts.flatMap encC).set (i * 5 + j) v = (ts.set i t).flatMap encC := by
  induction ts generalizing i with
  | nil => simp at hi
  | cons x xs ih =>
    cases i with
    | zero =>
      simp only [List.getElem_cons_zero] at he
      simp only [List.flatMap_cons, List.set_cons_zero, Nat.zero_mul, Nat.zero_add]
      rw [List.set_append_left _ _ (by rw [encC_len]; exact hj), he]
    | succ i =>
      have := ih i (by simpa using hi) (by simpa using he)
      simp only [List.flatMap_cons, List.set_cons_succ]
      rw [List.set_append_right _ _ (by rw [encC_len]; omega), encC_len, show (i + 1) * 5 + j - 5 = i * 5 + j by omega, this]
/-- One cell of a clock is another; the lists are read where they lie now. -/
theorem KSt.put (h : KSt b len w ts g cap W) (hl : ts.length ≤ 1000) {k : Nat} (hk : k < ts.length) {W1 : World} (ho : W1.ownsRow w.heap.size 79 5 (.slice (some ⟨g, 0, none⟩) ts.length cap) ts.length (ts.flatMap encC)) (hm : Mv b len w W1) {j : Nat} (hj : j < 5) (t : CT) (v : Value) (he : encC t = (encC ts[k]).set j v) (hw : ClkWd t.c)
    (hp : ParO w.heap.size W1 t) (hc : ChoO' w.heap.size W1 t) (hq : ∀ i (hi : i < ts.length), i ≠ k → ParO w.heap.size W1 ts[i] ∧ ChoO' w.heap.size W1 ts[i]) {n : Nat} (hn : ts.length = n) : GivesClks b len w (.returned (.slice (some ⟨g, 0, none⟩) n cap)) (W1.setCell ⟨g, k * 5 + j, none⟩ v) := by
  subst hn
  have hs := grownBy_set W1 g (k * 5 + j) v
  have hput := owns_put ho (j := k * 5 + j) (by omega) v
  rw [encC_put ts k hk j hj v t he] at hput
  have keep : ∀ {q : CT}, ParO w.heap.size W1 q → ParO w.heap.size (W1.setCell ⟨g, k * 5 + j, none⟩ v) q := fun {q} h1 => World.ownsRow.kept h1 hs (owns_two ho h1 (by decide))
  have keep2 : ∀ {q : CT}, ChoO' w.heap.size W1 q → ChoO' w.heap.size (W1.setCell ⟨g, k * 5 + j, none⟩ v) q := fun {q} h1 => World.ownsRow.kept h1 hs (owns_two ho h1 (by decide))
  refine ⟨ts.set k t, some ⟨g, 0, none⟩, cap, by rw [List.length_set], by simpa using hl, by simpa using hput,
    (fun q hq2 => by
      obtain ⟨i, hi, rfl⟩ := List.getElem_of_mem hq2
      have hi' : i < ts.length := by simpa using hi
      rw [List.getElem_set]
      split
      · exact keep hp
      · rename_i hne; exact keep (hq i hi' (fun e => hne e.symm)).1),
    (fun q hq2 => by
      obtain ⟨i, hi, rfl⟩ := List.getElem_of_mem hq2
      have hi' : i < ts.length := by simpa using hi
      rw [List.getElem_set]
      split
      · exact keep2 hc
      · rename_i hne; exact keep2 (hq i hi' (fun e => hne e.symm)).2),
    (fun q hq2 => by
      rcases mem_set_or hq2 with rfl | hq2
      · exact hw
      · exact h.wd _ hq2), hm.setc h.low⟩
/-- A number of a clock is another. -/
theorem KSt.num (h : KSt b len w ts g cap W) (hl : ts.length ≤ 1000) {k : Nat} (hk : k < ts.length) {j : Nat} (hj : j < 5) (t : CT) (v : Value) (he : encC t = (encC ts[k]).set j v) (hw : ClkWd t.c) (h1 : t.ap = ts[k].ap ∧ t.cp = ts[k].cp ∧ t.ac = ts[k].ac ∧ t.cc = ts[k].cc ∧ t.c.parents = ts[k].c.parents ∧ t.c.choices = ts[k].c.choices) {n : Nat} (hn : ts.length = n) : GivesClks b len w (.returned (.slice (some ⟨g, 0, none⟩) n cap)) (W.setCell ⟨g, k * 5 + j, none⟩ v) := by
  refine h.put hl hk h.own h.mv hj t v he hw ?_ ?_ (fun i hi _ => ⟨h.lst.par _ (List.getElem_mem hi), h.lst.cho _ (List.getElem_mem hi)⟩) hn
  · have := h.lst.par _ (List.getElem_mem hk)
    unfold ParO at this ⊢
    rw [h1.1, h1.2.1, h1.2.2.2.2.1]; exact this
  · have := h.lst.cho _ (List.getElem_mem hk)
    unfold ChoO' at this ⊢
    rw [h1.2.2.1, h1.2.2.2.1, h1.2.2.2.2.2]; exact this
/-- A clock has no choices now. -/
theorem KSt.nochoice (h : KSt b len w ts g cap W) (hl : ts.length ≤ 1000) {k : Nat} (hk : k < ts.length) {n : Nat} (hn : ts.length = n) : GivesClks b len w (.returned (.slice (some ⟨g, 0, none⟩) n cap)) (W.setCell ⟨g, k * 5 + 2, none⟩ (.slice none 0 0)) := by
  obtain ⟨a, b1, c1, d1, e1⟩ := h.wd _ (List.getElem_mem hk)
  refine h.put hl hk h.own h.mv (j := 2) (by omega) ⟨⟨ts[k].c.kind, ts[k].c.parents, [], ts[k].c.low, ts[k].c.high⟩, ts[k].ap, ts[k].cp, Option.none, 0⟩ (.slice Option.none 0 0) rfl ⟨a, b1, by simp, d1, by simp⟩ (by have := h.lst.par _ (List.getElem_mem hk); exact this) (World.ownsRow_nil _ w.heap.size _ _) (fun i hi _ => ⟨h.lst.par _ (List.getElem_mem hi), h.lst.cho _ (List.getElem_mem hi)⟩) hn
theorem two_at {α : Type} {R : α → α → Prop} {xs : List α} (h : xs.Pairwise R) {i k : Nat} (hi : i < xs.length) (hk : k < xs.length) (hne : i ≠ k) : R xs[i] xs[k] ∨ R xs[k] xs[i] := by
  have p := List.pairwise_iff_getElem.1 h
  rcases Nat.lt_or_gt_of_ne hne with q | q
  · exact .inl (p i k hi hk q)
  · exact .inr (p k i hk hi q)
/-- A clock's parents are others. -/
theorem KSt.pars (h : KSt b len w ts g cap W) (hl : ts.length ≤ 1000) {k : Nat} (hk : k < ts.length) {ns : List Int} (hns : ns.length ≤ 1000) (hw : ∀ y ∈ ns, Wide y) {W1 : World} {A : Option Addr} {m c : Nat} (hm : ns.length = m) (ho : W1.ownsRow w.heap.size 3 1 (.slice A m c) m (nums ns)) (hg : W.grownBy W1 (bpK ts[k])) {n : Nat} (hn : ts.length = n) :
    GivesClks b len w (.returned (.slice (some ⟨g, 0, none⟩) n cap)) (W1.setCell ⟨g, k * 5 + 1, none⟩ (.slice A m c)) := by
  subst hm
  have hpk := h.lst.par _ (List.getElem_mem hk)
  have hown : W1.ownsRow w.heap.size 79 5 (.slice (some ⟨g, 0, none⟩) ts.length cap) ts.length (ts.flatMap encC) := h.own.kept hg (owns_two hpk h.own (by decide))
  obtain ⟨a, b1, c1, d1, e1⟩ := h.wd _ (List.getElem_mem hk)
  refine h.put hl hk hown (h.mv.grown hg (fun B e => (World.ownsRow.lt hpk B e).1)) (j := 1) (by omega) ⟨⟨ts[k].c.kind, ns, ts[k].c.choices, ts[k].c.low, ts[k].c.high⟩, A, c, ts[k].ac, ts[k].cc⟩ (.slice A ns.length c) rfl ⟨a, hns, c1, hw, e1⟩ ho ?_ (fun i hi hne => ⟨?_, ?_⟩) hn
  · have q := World.ownsRow.kept (h.lst.cho _ (List.getElem_mem hk)) hg (.inr (fun e => h.lst.one _ (List.getElem_mem hk) e.symm))
    exact q
  · refine World.ownsRow.kept (h.lst.par _ (List.getElem_mem hi)) hg (.inr ?_)
    rcases two_at h.lst.two hi hk hne with q | q
    · exact q.1
    · exact fun e => q.1 e.symm
  · refine World.ownsRow.kept (h.lst.cho _ (List.getElem_mem hi)) hg (.inr ?_)
    rcases two_at h.lst.two hi hk hne with q | q
    · exact q.2.2.2
    · exact fun e => q.2.2.1 e.symm
/-- A clock's choices are others. -/
theorem KSt.chos (h : KSt b len w ts g cap W) (hl : ts.length ≤ 1000) {k : Nat} (hk : k < ts.length) {ns : List Int} (hns : ns.length ≤ 1000) (hw : ∀ y ∈ ns, Wide y) {W1 : World} {A : Option Addr} {m c : Nat} (hm : ns.length = m) (ho : W1.ownsRow w.heap.size 3 1 (.slice A m c) m (nums ns)) (hg : W.grownBy W1 (bcK ts[k])) {n : Nat} (hn : ts.length = n) :
    GivesClks b len w (.returned (.slice (some ⟨g, 0, none⟩) n cap)) (W1.setCell ⟨g, k * 5 + 2, none⟩ (.slice A m c)) := by
  subst hm
  have hpk := h.lst.cho _ (List.getElem_mem hk)
  have hown : W1.ownsRow w.heap.size 79 5 (.slice (some ⟨g, 0, none⟩) ts.length cap) ts.length (ts.flatMap encC) := h.own.kept hg (owns_two hpk h.own (by decide))
  obtain ⟨a, b1, c1, d1, e1⟩ := h.wd _ (List.getElem_mem hk)
  refine h.put hl hk hown (h.mv.grown hg (fun B e => (World.ownsRow.lt hpk B e).1)) (j := 2) (by omega) ⟨⟨ts[k].c.kind, ts[k].c.parents, ns, ts[k].c.low, ts[k].c.high⟩, ts[k].ap, ts[k].cp, A, c⟩ (.slice A ns.length c) rfl ⟨a, b1, hns, d1, hw⟩ ?_ ho (fun i hi hne => ⟨?_, ?_⟩) hn
  · have q := World.ownsRow.kept (h.lst.par _ (List.getElem_mem hk)) hg (.inr (h.lst.one _ (List.getElem_mem hk)))
    exact q
  · refine World.ownsRow.kept (h.lst.par _ (List.getElem_mem hi)) hg (.inr ?_)
    rcases two_at h.lst.two hi hk hne with q | q
    · exact q.2.2.1
    · exact fun e => q.2.2.2 e.symm
  · refine World.ownsRow.kept (h.lst.cho _ (List.getElem_mem hi)) hg (.inr ?_)
    rcases two_at h.lst.two hi hk hne with q | q
    · exact q.2.1
    · exact fun e => q.2.1 e.symm
end
end Go.Proofs.YtenehghpmnajpaaGreatDoor

set_option linter.unusedVariables false
set_option linter.unusedSimpArgs false
namespace Go.Proofs.YtenehghpmnajpaaGreatDoor
open Go.RowKit
open Classical
/-- A list that is copied: the empty one (made: dE), then the copy (dA). -/
structure Side (base lo : Nat) (dE dA : Bool) (tE tA : Value) (L : List Int) (w : World) : Prop where
  z : dA = true → dE = true
  e : dE = true → dA = false → w.ownsRow base 3 1 tE 0 [] ∧ ∃ B, tE.ownBlock = some B ∧ lo ≤ B
  a : dA = true → w.ownsRow base 3 1 tA L.length (nums L) ∧ ∃ B, tA.ownBlock = some B ∧ lo ≤ B
def curV (dA : Bool) (tE tA : Value) : Value := if dA = true then tA else tE
theorem Side.cur {base lo : Nat} {dE dA : Bool} {tE tA : Value} {L : List Int} {w : World} (h : Side base lo dE dA tE tA L w) (hd : dE = true) : ∃ B, (curV dA tE tA).ownBlock = some B ∧ lo ≤ B ∧ B < w.heap.size := by
  unfold curV
  cases hA : dA with
  | false =>
    obtain ⟨h1, B, h2, h3⟩ := h.e hd hA
    exact ⟨B, by simpa using h2, h3, (owns_block h1 B h2).2⟩
  | true =>
    obtain ⟨h1, B, h2, h3⟩ := h.a hA
    exact ⟨B, by simpa using h2, h3, (owns_block h1 B h2).2⟩
theorem Side.kept {base lo : Nat} {dE dA : Bool} {tE tA : Value} {L : List Int} {w w' : World} {row : Option Nat} (h : Side base lo dE dA tE tA L w) (hg : w.grownBy w' row) (hne : dE = true → (curV dA tE tA).ownBlock ≠ row) : Side base lo dE dA tE tA L w' where
  z := h.z
  e := fun h1 h2 => by
    obtain ⟨h3, h4⟩ := h.e h1 h2
    refine ⟨h3.kept hg (.inr ?_), h4⟩
    have := hne h1
    unfold curV at this
    rw [h2] at this
    simpa using this
  a := fun h2 => by
    obtain ⟨h3, h4⟩ := h.a h2
    refine ⟨h3.kept hg (.inr ?_), h4⟩
    have := hne (h.z h2)
    unfold curV at this
    rw [h2] at this
    simpa using this
theorem Side.gr {base lo : Nat} {dE dA : Bool} {tE tA : Value} {L : List Int} {w w' : World} (h : Side base lo dE dA tE tA L w) (hg : Gr w w') : Side base lo dE dA tE tA L w' :=
  ⟨h.z, fun h1 h2 => ⟨Gr.owns (h.e h1 h2).1 hg, (h.e h1 h2).2⟩, fun h2 => ⟨Gr.owns (h.a h2).1 hg, (h.a h2).2⟩⟩
/-- What every operation keeps. -/
structure L5 (W0 wr : World) (CB : Nat) (x : Clk) (ap ac : Option Addr) (cp cc : Nat) (t15 t18 t19 t22 : Value) (d : Array Bool) (w : World) : Prop where
  gr : Gr W0 w
  sz : wr.heap.size ≤ w.heap.size
  row : Row w CB 79 [.int .i64 x.kind, if d.getD 9 false = true then t18 else .slice ap x.parents.length cp, if d.getD 11 false = true then t22 else .slice ac x.choices.length cc, .int .i64 x.low, .int .i64 x.high]
  s1 : Side W0.heap.size wr.heap.size (d.getD 0 false) (d.getD 3 false) t15 t18 x.parents w
  s2 : Side W0.heap.size wr.heap.size (d.getD 4 false) (d.getD 7 false) t19 t22 x.choices w
  ne : d.getD 0 false = true → d.getD 4 false = true → (curV (d.getD 3 false) t15 t18).ownBlock ≠ (curV (d.getD 7 false) t19 t22).ownBlock
  p9 : d.getD 9 false = true → d.getD 3 false = true
  p11 : d.getD 11 false = true → d.getD 7 false = true
section
variable {W0 wr : World} {CB : Nat} {x : Clk} {ap ac : Option Addr} {cp cc : Nat} {t15 t18 t19 t22 : Value} {d : Array Bool} {w : World}
theorem L5.neutral (h : L5 W0 wr CB x ap ac cp cc t15 t18 t19 t22 d w) {i : Nat} (h0 : i ≠ 0) (h3 : i ≠ 3) (h4 : i ≠ 4) (h7 : i ≠ 7) (h9 : i ≠ 9) (h11 : i ≠ 11) : L5 W0 wr CB x ap ac cp cc t15 t18 t19 t22 (d.setIfInBounds i true) w := by
  have e0 := (getD_set_ne (listed := d) false h0)
  have e3 := (getD_set_ne (listed := d) false h3)
  have e4 := (getD_set_ne (listed := d) false h4)
  have e7 := (getD_set_ne (listed := d) false h7)
  have e9 := (getD_set_ne (listed := d) false h9)
  have e11 := (getD_set_ne (listed := d) false h11)
  exact ⟨h.gr, h.sz, by rw [e9, e11]; exact h.row, by rw [e0, e3]; exact h.s1, by rw [e4, e7]; exact h.s2, by rw [e0, e3, e4, e7]; exact h.ne, by rw [e9, e3]; exact h.p9, by rw [e11, e7]; exact h.p11⟩
theorem L5.new1 (h : L5 W0 wr CB x ap ac cp cc t15 t18 t19 t22 d w) (hsz : d.size = 12) (hn : d.getD 0 false = false) :
    L5 W0 wr CB x ap ac cp cc (.slice (some ⟨w.heap.size, 0, none⟩) 0 0) t18 t19 t22 (d.setIfInBounds 0 true) (w.alloc (.cells #[] 3)) := by
  have n3 : d.getD 3 false = false := by
    cases e : d.getD 3 false with
    | false => rfl
    | true => have := h.s1.z e; rw [hn] at this; cases this
  have q0 : (d.setIfInBounds 0 true).getD 0 false = true := getD_set_same (by rw [hsz]; decide)
  have q3 := getD_set_ne (listed := d) (i := 0) (j := 3) false (by decide)
  have q4 := getD_set_ne (listed := d) (i := 0) (j := 4) false (by decide)
  have q7 := getD_set_ne (listed := d) (i := 0) (j := 7) false (by decide)
  have q9 := getD_set_ne (listed := d) (i := 0) (j := 9) false (by decide)
  have q11 := getD_set_ne (listed := d) (i := 0) (j := 11) false (by decide)
  have gg : Gr w (w.alloc (.cells #[] 3)) := (Gr.refl _).alloc _
  refine ⟨h.gr.trans gg, Nat.le_trans h.sz gg.size, ?_, ?_, ?_, ?_, ?_, ?_⟩
  · rw [q9, q11]; exact h.row.gr gg
  · rw [q0, q3, n3]
    exact ⟨fun q => (by cases q), fun _ _ => ⟨World.ownsRow_lit w #[] 0 h.gr.size (by unfold maxLen; omega) rfl, w.heap.size, rfl, h.sz⟩, fun q => by cases q⟩
  · rw [q4, q7]; exact h.s2.gr gg
  · intro qa qb
    rw [q3, q7, n3]
    obtain ⟨B2, hB2, _, hlt⟩ := h.s2.cur (by first | (rw [q4] at qb; exact qb) | (rw [q4] at qa; exact qa))
    rw [hB2]
    show some w.heap.size ≠ some B2
    intro e; injection e with e; omega
  · rw [q9]; first | (rw [q3]; exact h.p9) | (rw [q7]; exact h.p9)
  · rw [q11]; first | (rw [q7]; exact h.p11) | (rw [q3]; exact h.p11)
theorem L5.app1 (h : L5 W0 wr CB x ap ac cp cc t15 t18 t19 t22 d w) (hsz : d.size = 12) (h0 : d.getD 0 false = true) (hn : d.getD 3 false = false) {v : Value} {w2 : World} (hown : w2.ownsRow W0.heap.size 3 1 v x.parents.length (nums x.parents)) (hg : w.grownBy w2 t15.ownBlock) (hb : v.ownBlock = t15.ownBlock ∨ v.ownBlock = some w.heap.size) :
    L5 W0 wr CB x ap ac cp cc t15 v t19 t22 (d.setIfInBounds 3 true) w2 := by
  have n9 : d.getD 9 false = false := by
    cases e : d.getD 9 false with
    | false => rfl
    | true => have := h.p9 e; rw [hn] at this; cases this
  have q3 : (d.setIfInBounds 3 true).getD 3 false = true := getD_set_same (by rw [hsz]; decide)
  have q0 := getD_set_ne (listed := d) (i := 3) (j := 0) false (by decide)
  have q4 := getD_set_ne (listed := d) (i := 3) (j := 4) false (by decide)
  have q7 := getD_set_ne (listed := d) (i := 3) (j := 7) false (by decide)
  have q9 := getD_set_ne (listed := d) (i := 3) (j := 9) false (by decide)
  have q11 := getD_set_ne (listed := d) (i := 3) (j := 11) false (by decide)
  obtain ⟨o1, B, hB, hlo⟩ := h.s1.e h0 hn
  have bl := (owns_block o1 B hB).2
  have hvb : ∃ B', v.ownBlock = some B' ∧ wr.heap.size ≤ B' := by
    rcases hb with e | e
    · exact ⟨B, e.trans hB, hlo⟩
    · exact ⟨_, e, h.sz⟩
  have c1 : curV (d.getD 3 false) t15 t18 = t15 := by unfold curV; rw [hn]; rfl
  have hne2 : d.getD 4 false = true → (curV (d.getD 7 false) t19 t22).ownBlock ≠ t15.ownBlock := fun q => by
    have := h.ne h0 q
    rw [c1] at this
    exact fun e => this e.symm
  refine ⟨h.gr.grown hg (fun k e => (owns_block o1 k e).1), Nat.le_trans h.sz hg.size, ?_, ?_, ?_, ?_, ?_, ?_⟩
  · have r := h.row.grown hg (owns_apart o1 h.row.s (by decide))
    rw [n9] at r
    rw [q9, q11, n9]; exact r
  · rw [q0, q3, h0]
    exact ⟨fun _ => rfl, fun _ q => (by cases q), fun _ => ⟨hown, hvb⟩⟩
  · rw [q4, q7]
    exact h.s2.kept hg hne2
  · intro qa qb
    have qq : d.getD 4 false = true := by first | (rw [q4] at qb; exact qb) | (rw [q4] at qa; exact qa)
    rw [q3, q7]
    have h1 := hne2 qq
    obtain ⟨B2, hB2, _, hlt⟩ := h.s2.cur qq
    show v.ownBlock ≠ _
    rcases hb with e | e
    · rw [e]; exact fun e2 => h1 e2.symm
    · rw [e, hB2]; intro e2; injection e2 with e2; omega
  · rw [q9, q3]; exact fun _ => rfl
  · rw [q11, q7]; exact h.p11
theorem L5.put1 (h : L5 W0 wr CB x ap ac cp cc t15 t18 t19 t22 d w) (hsz : d.size = 12) (h3 : d.getD 3 false = true) (hcb : W0.heap.size ≤ CB) :
    L5 W0 wr CB x ap ac cp cc t15 t18 t19 t22 (d.setIfInBounds 9 true) (w.setCell ⟨CB, 1, none⟩ t18) := by
  have q9 : (d.setIfInBounds 9 true).getD 9 false = true := getD_set_same (by rw [hsz]; decide)
  have q0 := getD_set_ne (listed := d) (i := 9) (j := 0) false (by decide)
  have q3 := getD_set_ne (listed := d) (i := 9) (j := 3) false (by decide)
  have q4 := getD_set_ne (listed := d) (i := 9) (j := 4) false (by decide)
  have q7 := getD_set_ne (listed := d) (i := 9) (j := 7) false (by decide)
  have q11 := getD_set_ne (listed := d) (i := 9) (j := 11) false (by decide)
  have hg := grownBy_set w CB 1 t18
  have ap1 : ∀ {base n : Nat} {v : Value} {us : List Value}, w.ownsRow base 3 1 v n us → some CB ≠ v.ownBlock := fun o => Ne.symm (Ne.symm (owns_apart o h.row.s (by decide)))
  refine ⟨h.gr.setc hcb, Nat.le_trans h.sz hg.size, ?_, ?_, ?_, ?_, ?_, ?_⟩
  · have r := h.row.set 1 t18
    rw [q9, q11]
    simpa using r
  · rw [q0, q3]
    refine h.s1.kept hg (fun q e => ?_)
    cases hA : d.getD 3 false with
    | true =>
      have e2 : (curV true t15 t18).ownBlock = some CB := by rw [← hA]; exact e
      exact ap1 (h.s1.a hA).1 (Eq.symm e2)
    | false =>
      have e2 : (curV false t15 t18).ownBlock = some CB := by rw [← hA]; exact e
      exact ap1 (h.s1.e q hA).1 (Eq.symm e2)
  · rw [q4, q7]
    refine h.s2.kept hg (fun q e => ?_)
    cases hA : d.getD 7 false with
    | true =>
      have e2 : (curV true t19 t22).ownBlock = some CB := by rw [← hA]; exact e
      exact ap1 (h.s2.a hA).1 (Eq.symm e2)
    | false =>
      have e2 : (curV false t19 t22).ownBlock = some CB := by rw [← hA]; exact e
      exact ap1 (h.s2.e q hA).1 (Eq.symm e2)
  · rw [q0, q3, q4, q7]; exact h.ne
  · rw [q9, q3]; exact fun _ => h3
  · rw [q11, q7]; exact h.p11
theorem L5.new2 (h : L5 W0 wr CB x ap ac cp cc t15 t18 t19 t22 d w) (hsz : d.size = 12) (hn : d.getD 4 false = false) :
    L5 W0 wr CB x ap ac cp cc t15 t18 (.slice (some ⟨w.heap.size, 0, none⟩) 0 0) t22 (d.setIfInBounds 4 true) (w.alloc (.cells #[] 3)) := by
  have n3 : d.getD 7 false = false := by
    cases e : d.getD 7 false with
    | false => rfl
    | true => have := h.s2.z e; rw [hn] at this; cases this
  have q0 : (d.setIfInBounds 4 true).getD 4 false = true := getD_set_same (by rw [hsz]; decide)
  have q3 := getD_set_ne (listed := d) (i := 4) (j := 7) false (by decide)
  have q4 := getD_set_ne (listed := d) (i := 4) (j := 0) false (by decide)
  have q7 := getD_set_ne (listed := d) (i := 4) (j := 3) false (by decide)
  have q9 := getD_set_ne (listed := d) (i := 4) (j := 9) false (by decide)
  have q11 := getD_set_ne (listed := d) (i := 4) (j := 11) false (by decide)
  have gg : Gr w (w.alloc (.cells #[] 3)) := (Gr.refl _).alloc _
  refine ⟨h.gr.trans gg, Nat.le_trans h.sz gg.size, ?_, ?_, ?_, ?_, ?_, ?_⟩
  · rw [q9, q11]; exact h.row.gr gg
  · rw [q4, q7]; exact h.s1.gr gg
  · rw [q0, q3, n3]
    exact ⟨fun q => (by cases q), fun _ _ => ⟨World.ownsRow_lit w #[] 0 h.gr.size (by unfold maxLen; omega) rfl, w.heap.size, rfl, h.sz⟩, fun q => by cases q⟩
  · intro qa qb
    rw [q3, q7, n3]
    obtain ⟨B2, hB2, _, hlt⟩ := h.s1.cur (by first | (rw [q4] at qb; exact qb) | (rw [q4] at qa; exact qa))
    rw [hB2]
    show some B2 ≠ some w.heap.size
    intro e; injection e with e; omega
  · rw [q9]; first | (rw [q3]; exact h.p9) | (rw [q7]; exact h.p9)
  · rw [q11]; first | (rw [q7]; exact h.p11) | (rw [q3]; exact h.p11)
theorem L5.app2 (h : L5 W0 wr CB x ap ac cp cc t15 t18 t19 t22 d w) (hsz : d.size = 12) (h0 : d.getD 4 false = true) (hn : d.getD 7 false = false) {v : Value} {w2 : World} (hown : w2.ownsRow W0.heap.size 3 1 v x.choices.length (nums x.choices)) (hg : w.grownBy w2 t19.ownBlock) (hb : v.ownBlock = t19.ownBlock ∨ v.ownBlock = some w.heap.size) :
    L5 W0 wr CB x ap ac cp cc t15 t18 t19 v (d.setIfInBounds 7 true) w2 := by
  have n9 : d.getD 11 false = false := by
    cases e : d.getD 11 false with
    | false => rfl
    | true => have := h.p11 e; rw [hn] at this; cases this
  have q3 : (d.setIfInBounds 7 true).getD 7 false = true := getD_set_same (by rw [hsz]; decide)
  have q0 := getD_set_ne (listed := d) (i := 7) (j := 4) false (by decide)
  have q4 := getD_set_ne (listed := d) (i := 7) (j := 0) false (by decide)
  have q7 := getD_set_ne (listed := d) (i := 7) (j := 3) false (by decide)
  have q9 := getD_set_ne (listed := d) (i := 7) (j := 11) false (by decide)
  have q11 := getD_set_ne (listed := d) (i := 7) (j := 9) false (by decide)
  obtain ⟨o1, B, hB, hlo⟩ := h.s2.e h0 hn
  have bl := (owns_block o1 B hB).2
  have hvb : ∃ B', v.ownBlock = some B' ∧ wr.heap.size ≤ B' := by
    rcases hb with e | e
    · exact ⟨B, e.trans hB, hlo⟩
    · exact ⟨_, e, h.sz⟩
  have c1 : curV (d.getD 7 false) t19 t22 = t19 := by unfold curV; rw [hn]; rfl
  have hne2 : d.getD 0 false = true → (curV (d.getD 3 false) t15 t18).ownBlock ≠ t19.ownBlock := fun q => by
    have := h.ne q h0
    rw [c1] at this
    exact this
  refine ⟨h.gr.grown hg (fun k e => (owns_block o1 k e).1), Nat.le_trans h.sz hg.size, ?_, ?_, ?_, ?_, ?_, ?_⟩
  · have r := h.row.grown hg (owns_apart o1 h.row.s (by decide))
    rw [n9] at r
    rw [q9, q11, n9]; exact r
  · rw [q4, q7]
    exact h.s1.kept hg hne2
  · rw [q0, q3, h0]
    exact ⟨fun _ => rfl, fun _ q => (by cases q), fun _ => ⟨hown, hvb⟩⟩
  · intro qa qb
    have qq : d.getD 0 false = true := by first | (rw [q4] at qb; exact qb) | (rw [q4] at qa; exact qa)
    rw [q3, q7]
    have h1 := hne2 qq
    obtain ⟨B2, hB2, _, hlt⟩ := h.s1.cur qq
    show _ ≠ v.ownBlock
    rcases hb with e | e
    · rw [e]; exact h1
    · rw [e, hB2]; intro e2; injection e2 with e2; omega
  · rw [q11, q7]; exact h.p9
  · rw [q9, q3]; exact fun _ => rfl
theorem L5.put2 (h : L5 W0 wr CB x ap ac cp cc t15 t18 t19 t22 d w) (hsz : d.size = 12) (h3 : d.getD 7 false = true) (hcb : W0.heap.size ≤ CB) :
    L5 W0 wr CB x ap ac cp cc t15 t18 t19 t22 (d.setIfInBounds 11 true) (w.setCell ⟨CB, 2, none⟩ t22) := by
  have q9 : (d.setIfInBounds 11 true).getD 11 false = true := getD_set_same (by rw [hsz]; decide)
  have q0 := getD_set_ne (listed := d) (i := 11) (j := 0) false (by decide)
  have q3 := getD_set_ne (listed := d) (i := 11) (j := 3) false (by decide)
  have q4 := getD_set_ne (listed := d) (i := 11) (j := 4) false (by decide)
  have q7 := getD_set_ne (listed := d) (i := 11) (j := 7) false (by decide)
  have q11 := getD_set_ne (listed := d) (i := 11) (j := 9) false (by decide)
  have hg := grownBy_set w CB 2 t22
  have ap1 : ∀ {base n : Nat} {v : Value} {us : List Value}, w.ownsRow base 3 1 v n us → some CB ≠ v.ownBlock := fun o => Ne.symm (Ne.symm (owns_apart o h.row.s (by decide)))
  refine ⟨h.gr.setc hcb, Nat.le_trans h.sz hg.size, ?_, ?_, ?_, ?_, ?_, ?_⟩
  · have r := h.row.set 2 t22
    rw [q9, q11]
    simpa using r
  · rw [q0, q3]
    refine h.s1.kept hg (fun q e => ?_)
    cases hA : d.getD 3 false with
    | true =>
      have e2 : (curV true t15 t18).ownBlock = some CB := by rw [← hA]; exact e
      exact ap1 (h.s1.a hA).1 (Eq.symm e2)
    | false =>
      have e2 : (curV false t15 t18).ownBlock = some CB := by rw [← hA]; exact e
      exact ap1 (h.s1.e q hA).1 (Eq.symm e2)
  · rw [q4, q7]
    refine h.s2.kept hg (fun q e => ?_)
    cases hA : d.getD 7 false with
    | true =>
      have e2 : (curV true t19 t22).ownBlock = some CB := by rw [← hA]; exact e
      exact ap1 (h.s2.a hA).1 (Eq.symm e2)
    | false =>
      have e2 : (curV false t19 t22).ownBlock = some CB := by rw [← hA]; exact e
      exact ap1 (h.s2.e q hA).1 (Eq.symm e2)
  · rw [q0, q3, q4, q7]; exact h.ne
  · rw [q11, q3]; exact h.p9
  · rw [q9, q7]; exact fun _ => h3
end
/-- What is known of each slot as soon as its operation is done. -/
def kl5F (W0 wr : World) (CB : Nat) (x : Clk) (ap ac : Option Addr) (cp cc : Nat) (t15 t16 t17 t18 t19 t20 t21 t22 t23 t24 : Value) (d : Array Bool) (w : World) : Prop :=
  L5 W0 wr CB x ap ac cp cc t15 t18 t19 t22 d w ∧ (d.getD 0 false = true → (∃ E : Nat, t15 = .slice (some ⟨E, 0, none⟩) 0 0)) ∧
  (d.getD 1 false = true → t16 = .pointer (some ⟨CB, 1, none⟩)) ∧
  (d.getD 2 false = true → t17 = .slice ap x.parents.length cp) ∧
  (d.getD 3 false = true → (d.getD 0 false = true ∧ d.getD 2 false = true ∧ ∃ a c, t18 = .slice a x.parents.length c)) ∧
  (d.getD 4 false = true → (∃ E : Nat, t19 = .slice (some ⟨E, 0, none⟩) 0 0)) ∧
  (d.getD 5 false = true → t20 = .pointer (some ⟨CB, 2, none⟩)) ∧
  (d.getD 6 false = true → t21 = .slice ac x.choices.length cc) ∧
  (d.getD 7 false = true → (d.getD 4 false = true ∧ d.getD 6 false = true ∧ ∃ a c, t22 = .slice a x.choices.length c)) ∧
  (d.getD 8 false = true → t23 = .pointer (some ⟨CB, 1, none⟩)) ∧
  (d.getD 9 false = true → (d.getD 8 false = true ∧ d.getD 3 false = true)) ∧
  (d.getD 10 false = true → t24 = .pointer (some ⟨CB, 2, none⟩)) ∧
  (d.getD 11 false = true → (d.getD 10 false = true ∧ d.getD 7 false = true))
/-- The frame. -/
def kl5A (CB : Nat) (t15 t16 t17 t18 t19 t20 t21 t22 t23 t24 s0 s1 s2 s3 s4 s5 s6 s8 s9 s10 s11 s12 s13 s14 s25 s26 s27 s28 s29 s30 s31 s32 s33 s34 s35 s36 s37 s38 s39 s40 s41 s42 s43 s44 s45 s46 s47 s48 s49 s50 s51 s52 s53 s54 s55 s56 s57 s58 s59 s60 s61 s62 s63 s64 s65 s66 s67 s68 s69 s70 s71 s72 s73 s74 s75 s76 s77 s78 s79 s80 s81 s82 s83 s84 s85 s86 s87 s88 s89 s90 s91 s92 s93 s94 s95 s96 s97 s98 s99 s100 s101 s102 s103 s104 s105 s106 s107 s108 : Value) : Act := { tmps := #[s0, s1, s2, s3, s4, s5, s6, .pointer (some ⟨CB, 0, none⟩), s8, s9, s10, s11, s12, s13, s14, t15, t16, t17, t18, t19, t20, t21, t22, t23, t24, s25, s26, s27, s28, s29, s30, s31, s32, s33, s34, s35, s36, s37, s38, s39, s40, s41, s42, s43, s44, s45, s46, s47, s48, s49, s50, s51, s52, s53, s54, s55, s56, s57, s58, s59, s60, s61, s62, s63, s64, s65, s66, s67, s68, s69, s70, s71, s72, s73, s74, s75, s76, s77, s78, s79, s80, s81, s82, s83, s84, s85, s86, s87, s88, s89, s90, s91, s92, s93, s94, s95, s96, s97, s98, s99, s100, s101, s102, s103, s104, s105, s106, s107, s108], defers := [] }
set_option maxRecDepth 100000 in
set_option maxHeartbeats 4000000 in
theorem kl5 {Q : Exit → Act → World → Prop} {W0 wr : World} {CB : Nat} {x : Clk} {ap ac : Option Addr} {cp cc : Nat}  {s0 s1 s2 s3 s4 s5 s6 s8 s9 s10 s11 s12 s13 s14 s15 s16 s17 s18 s19 s20 s21 s22 s23 s24 s25 s26 s27 s28 s29 s30 s31 s32 s33 s34 s35 s36 s37 s38 s39 s40 s41 s42 s43 s44 s45 s46 s47 s48 s49 s50 s51 s52 s53 s54 s55 s56 s57 s58 s59 s60 s61 s62 s63 s64 s65 s66 s67 s68 s69 s70 s71 s72 s73 s74 s75 s76 s77 s78 s79 s80 s81 s82 s83 s84 s85 s86 s87 s88 s89 s90 s91 s92 s93 s94 s95 s96 s97 s98 s99 s100 s101 s102 s103 s104 s105 s106 s107 s108 : Value} (hg0 : Gr W0 wr) (hcb : W0.heap.size ≤ CB) (hr : Row wr CB 79 [.int .i64 x.kind, .slice ap x.parents.length cp, .slice ac x.choices.length cc, .int .i64 x.low, .int .i64 x.high]) (sp : SlOf 1 RI W0 ap x.parents) (sc : SlOf 1 RI W0 ac x.choices) (hpl : x.parents.length ≤ 1000) (hcl : x.choices.length ≤ 1000)
    (h' : ∀ t15 t16 t17 t18 t19 t20 t21 t22 t23 t24 (a1 a2 : Option Addr) (c1 c2 : Nat) wx, t18 = .slice a1 x.parents.length c1 → t22 = .slice a2 x.choices.length c2 → Gr W0 wx → Row wx CB 79 [.int .i64 x.kind, t18, t22, .int .i64 x.low, .int .i64 x.high] → wx.ownsRow W0.heap.size 3 1 t18 x.parents.length (nums x.parents) → wx.ownsRow W0.heap.size 3 1 t22 x.choices.length (nums x.choices) → (∃ B, t18.ownBlock = some B ∧ wr.heap.size ≤ B) → (∃ B, t22.ownBlock = some B ∧ wr.heap.size ≤ B) → t18.ownBlock ≠ t22.ownBlock → Q .normal (kl5A CB t15 t16 t17 t18 t19 t20 t21 t22 t23 t24 s0 s1 s2 s3 s4 s5 s6 s8 s9 s10 s11 s12 s13 s14 s25 s26 s27 s28 s29 s30 s31 s32 s33 s34 s35 s36 s37 s38 s39 s40 s41 s42 s43 s44 s45 s46 s47 s48 s49 s50 s51 s52 s53 s54 s55 s56 s57 s58 s59 s60 s61 s62 s63 s64 s65 s66 s67 s68 s69 s70 s71 s72 s73 s74 s75 s76 s77 s78 s79 s80 s81 s82 s83 s84 s85 s86 s87 s88 s89 s90 s91 s92 s93 s94 s95 s96 s97 s98 s99 s100 s101 s102 s103 s104 s105 s106 s107 s108) wx) :
    (Code.region 5 (regIn 5 Tryz.f13) true).wp Tryz.prog Q { tmps := #[s0, s1, s2, s3, s4, s5, s6, .pointer (some ⟨CB, 0, none⟩), s8, s9, s10, s11, s12, s13, s14, s15, s16, s17, s18, s19, s20, s21, s22, s23, s24, s25, s26, s27, s28, s29, s30, s31, s32, s33, s34, s35, s36, s37, s38, s39, s40, s41, s42, s43, s44, s45, s46, s47, s48, s49, s50, s51, s52, s53, s54, s55, s56, s57, s58, s59, s60, s61, s62, s63, s64, s65, s66, s67, s68, s69, s70, s71, s72, s73, s74, s75, s76, s77, s78, s79, s80, s81, s82, s83, s84, s85, s86, s87, s88, s89, s90, s91, s92, s93, s94, s95, s96, s97, s98, s99, s100, s101, s102, s103, s104, s105, s106, s107, s108], defers := [] } wr := by
  have SP := PLift.up sp
  have SC := PLift.up sc
  obtain ⟨i0, hi, hz0, hz1, hz2⟩ := info_parts infoInt
  clear sp sc
  simp only [regIn, Tryz.f13, regOps, Option.bind_some, Option.getD_some, Nat.beq, cond_true, cond_false]
  refine wp_region_steps (fun done a w => ∃ t15 t16 t17 t18 t19 t20 t21 t22 t23 t24, a = kl5A CB t15 t16 t17 t18 t19 t20 t21 t22 t23 t24 s0 s1 s2 s3 s4 s5 s6 s8 s9 s10 s11 s12 s13 s14 s25 s26 s27 s28 s29 s30 s31 s32 s33 s34 s35 s36 s37 s38 s39 s40 s41 s42 s43 s44 s45 s46 s47 s48 s49 s50 s51 s52 s53 s54 s55 s56 s57 s58 s59 s60 s61 s62 s63 s64 s65 s66 s67 s68 s69 s70 s71 s72 s73 s74 s75 s76 s77 s78 s79 s80 s81 s82 s83 s84 s85 s86 s87 s88 s89 s90 s91 s92 s93 s94 s95 s96 s97 s98 s99 s100 s101 s102 s103 s104 s105 s106 s107 s108 ∧ kl5F W0 wr CB x ap ac cp cc t15 t16 t17 t18 t19 t20 t21 t22 t23 t24 done w) (by kernel_rfl) (by kernel_rfl) ?_ ⟨?_, ?_, ?_, ?_, ?_, ?_, ?_, ?_, ?_, ?_, ?_, ?_, trivial⟩ ?_
  · exact ⟨s15, s16, s17, s18, s19, s20, s21, s22, s23, s24, rfl, ⟨hg0.drew, Nat.le_refl _, hr, ⟨fun q => by simp at q, fun q => by simp at q, fun q => by simp at q⟩, ⟨fun q => by simp at q, fun q => by simp at q, fun q => by simp at q⟩, fun q => by simp at q, fun q => by simp at q, fun q => by simp at q⟩, fun q => absurd q (by decide), fun q => absurd q (by decide), fun q => absurd q (by decide), fun q => absurd q (by decide), fun q => absurd q (by decide), fun q => absurd q (by decide), fun q => absurd q (by decide), fun q => absurd q (by decide), fun q => absurd q (by decide), fun q => absurd q (by decide), fun q => absurd q (by decide), fun q => absurd q (by decide)⟩
  · rintro done a w hsz hnot hdep ⟨t15, t16, t17, t18, t19, t20, t21, t22, t23, t24, rfl, gw, f0, f1, f2, f3, f4, f5, f6, f7, f8, f9, f10, f11⟩ K hK
    have hn : ¬ done.getD 0 false = true := by rw [getD_both hnot]; decide
    have GW := PLift.up (gw.new1 hsz (getD_both hnot))
    have HK := PLift.up hK
    clear hK 
    simp only [kl5A]
    go_simp
    refine HK.down _ _ ⟨_, _, _, _, _, _, _, _, _, _, rfl, GW.down, ?_, kp f1, kp f2, fun q => absurd (f3 (done_old q (by decide))).1 hn, kp f4, kp f5, kp f6, fun q => (let ⟨h1, h2, h3⟩ := f7 (done_old q (by decide)); ⟨done_stay h1, done_stay h2, h3⟩), kp f8, fun q => (let ⟨h1, h2⟩ := f9 (done_old q (by decide)); ⟨done_stay h1, done_stay h2⟩), kp f10, fun q => (let ⟨h1, h2⟩ := f11 (done_old q (by decide)); ⟨done_stay h1, done_stay h2⟩)⟩
    exact fun _ => ⟨_, rfl⟩
  · rintro done a w hsz hnot hdep ⟨t15, t16, t17, t18, t19, t20, t21, t22, t23, t24, rfl, gw, f0, f1, f2, f3, f4, f5, f6, f7, f8, f9, f10, f11⟩ K hK
    have hn : ¬ done.getD 1 false = true := by rw [getD_both hnot]; decide
    have HK := PLift.up hK
    clear hK 
    simp only [kl5A]
    go_simp
    have gg : Gr w w := Gr.refl _
    refine HK.down _ _ ⟨_, _, _, _, _, _, _, _, _, _, rfl, gw.neutral (by decide) (by decide) (by decide) (by decide) (by decide) (by decide), kp f0, fun _ => rfl, kp f2, fun q => (let ⟨h1, h2, h3⟩ := f3 (done_old q (by decide)); ⟨done_stay h1, done_stay h2, h3⟩), kp f4, kp f5, kp f6, fun q => (let ⟨h1, h2, h3⟩ := f7 (done_old q (by decide)); ⟨done_stay h1, done_stay h2, h3⟩), kp f8, fun q => (let ⟨h1, h2⟩ := f9 (done_old q (by decide)); ⟨done_stay h1, done_stay h2⟩), kp f10, fun q => (let ⟨h1, h2⟩ := f11 (done_old q (by decide)); ⟨done_stay h1, done_stay h2⟩)⟩
  · rintro done a w hsz hnot hdep ⟨t15, t16, t17, t18, t19, t20, t21, t22, t23, t24, rfl, gw, f0, f1, f2, f3, f4, f5, f6, f7, f8, f9, f10, f11⟩ K hK
    have hn : ¬ done.getD 2 false = true := by rw [getD_both hnot]; decide
    have d1 := hdep 1 (by kernel_rfl)
    obtain rfl := f1 d1
    have n9 : done.getD 9 false = false := by
      cases e : done.getD 9 false with
      | false => rfl
      | true => exact absurd (f3 (f9 e).2).2.1 hn
    have r := gw.row
    have cc1 := r.cell 1 (by simp)
    have cc2 := r.cell 2 (by simp)
    have ch := r.has
    simp only [List.getElem_cons_zero, List.getElem_cons_succ] at cc1 cc2
    clear r
    rw [n9] at cc1
    simp only [Bool.false_eq_true, if_false] at cc1
    clear cc2 n9
    have HK := PLift.up hK
    clear hK d1
    simp only [kl5A]
    go_simp
    have gg : Gr w w := Gr.refl _
    refine HK.down _ _ ⟨_, _, _, _, _, _, _, _, _, _, rfl, gw.neutral (by decide) (by decide) (by decide) (by decide) (by decide) (by decide), kp f0, kp f1, fun _ => rfl, fun q => absurd (f3 (done_old q (by decide))).2.1 hn, kp f4, kp f5, kp f6, fun q => (let ⟨h1, h2, h3⟩ := f7 (done_old q (by decide)); ⟨done_stay h1, done_stay h2, h3⟩), kp f8, fun q => (let ⟨h1, h2⟩ := f9 (done_old q (by decide)); ⟨done_stay h1, done_stay h2⟩), kp f10, fun q => (let ⟨h1, h2⟩ := f11 (done_old q (by decide)); ⟨done_stay h1, done_stay h2⟩)⟩
  · rintro done a w hsz hnot hdep ⟨t15, t16, t17, t18, t19, t20, t21, t22, t23, t24, rfl, gw, f0, f1, f2, f3, f4, f5, f6, f7, f8, f9, f10, f11⟩ K hK
    have hn : ¬ done.getD 3 false = true := by rw [getD_both hnot]; decide
    have d0 := hdep 0 (by kernel_rfl)
    have d2 := hdep 2 (by kernel_rfl)
    obtain rfl := f2 d2
    obtain ⟨E, rfl⟩ := f0 d0
    have nn := getD_both hnot
    have o1 := (gw.s1.e d0 nn).1
    have GG := gets_slI (SP.down.giI gw.gr)
    refine step_append_gets _ rfl _ _ 22 rfl W0.heap.size 3 i0 (.int .i64 0) 1 8 Tryz.underlying22 hi hz0 hz1 hz2 rfl (by decide) (.slice (some ⟨E, 0, none⟩) 0 0) 0 [] (by simp [Act.eval, kl5A]) o1 ap x.parents.length cp (nums x.parents) (by simp [Act.eval, kl5A]) GG (nums_one _) (by unfold maxLen; omega) (by omega) gw.gr.size ?_
    intro v w2 hown hgrow hbl
    rw [Nat.zero_add, List.nil_append] at hown
    obtain ⟨a, c, rfl⟩ := owns_slice hown
    refine hK _ _ ⟨_, _, _, _, _, _, _, _, _, _, rfl, gw.app1 hsz d0 nn hown hgrow hbl, fun _ => ⟨E, rfl⟩, kp f1, fun _ => rfl, ?_, kp f4, kp f5, kp f6, fun q => (let ⟨h1, h2, h3⟩ := f7 (done_old q (by decide)); ⟨done_stay h1, done_stay h2, h3⟩), kp f8, fun q => absurd (f9 (done_old q (by decide))).2 hn, kp f10, fun q => (let ⟨h1, h2⟩ := f11 (done_old q (by decide)); ⟨done_stay h1, done_stay h2⟩)⟩
    exact fun _ => ⟨done_stay d0, done_stay (hdep 2 (by kernel_rfl)), a, c, rfl⟩
  · rintro done a w hsz hnot hdep ⟨t15, t16, t17, t18, t19, t20, t21, t22, t23, t24, rfl, gw, f0, f1, f2, f3, f4, f5, f6, f7, f8, f9, f10, f11⟩ K hK
    have hn : ¬ done.getD 4 false = true := by rw [getD_both hnot]; decide
    have GW := PLift.up (gw.new2 hsz (getD_both hnot))
    have HK := PLift.up hK
    clear hK 
    simp only [kl5A]
    go_simp
    refine HK.down _ _ ⟨_, _, _, _, _, _, _, _, _, _, rfl, GW.down, kp f0, kp f1, kp f2, fun q => (let ⟨h1, h2, h3⟩ := f3 (done_old q (by decide)); ⟨done_stay h1, done_stay h2, h3⟩), ?_, kp f5, kp f6, fun q => absurd (f7 (done_old q (by decide))).1 hn, kp f8, fun q => (let ⟨h1, h2⟩ := f9 (done_old q (by decide)); ⟨done_stay h1, done_stay h2⟩), kp f10, fun q => (let ⟨h1, h2⟩ := f11 (done_old q (by decide)); ⟨done_stay h1, done_stay h2⟩)⟩
    exact fun _ => ⟨_, rfl⟩
  · rintro done a w hsz hnot hdep ⟨t15, t16, t17, t18, t19, t20, t21, t22, t23, t24, rfl, gw, f0, f1, f2, f3, f4, f5, f6, f7, f8, f9, f10, f11⟩ K hK
    have hn : ¬ done.getD 5 false = true := by rw [getD_both hnot]; decide
    have HK := PLift.up hK
    clear hK 
    simp only [kl5A]
    go_simp
    have gg : Gr w w := Gr.refl _
    refine HK.down _ _ ⟨_, _, _, _, _, _, _, _, _, _, rfl, gw.neutral (by decide) (by decide) (by decide) (by decide) (by decide) (by decide), kp f0, kp f1, kp f2, fun q => (let ⟨h1, h2, h3⟩ := f3 (done_old q (by decide)); ⟨done_stay h1, done_stay h2, h3⟩), kp f4, fun _ => rfl, kp f6, fun q => (let ⟨h1, h2, h3⟩ := f7 (done_old q (by decide)); ⟨done_stay h1, done_stay h2, h3⟩), kp f8, fun q => (let ⟨h1, h2⟩ := f9 (done_old q (by decide)); ⟨done_stay h1, done_stay h2⟩), kp f10, fun q => (let ⟨h1, h2⟩ := f11 (done_old q (by decide)); ⟨done_stay h1, done_stay h2⟩)⟩
  · rintro done a w hsz hnot hdep ⟨t15, t16, t17, t18, t19, t20, t21, t22, t23, t24, rfl, gw, f0, f1, f2, f3, f4, f5, f6, f7, f8, f9, f10, f11⟩ K hK
    have hn : ¬ done.getD 6 false = true := by rw [getD_both hnot]; decide
    have d5 := hdep 5 (by kernel_rfl)
    obtain rfl := f5 d5
    have n11 : done.getD 11 false = false := by
      cases e : done.getD 11 false with
      | false => rfl
      | true => exact absurd (f7 (f11 e).2).2.1 hn
    have r := gw.row
    have cc1 := r.cell 1 (by simp)
    have cc2 := r.cell 2 (by simp)
    have ch := r.has
    simp only [List.getElem_cons_zero, List.getElem_cons_succ] at cc1 cc2
    clear r
    rw [n11] at cc2
    simp only [Bool.false_eq_true, if_false] at cc2
    clear cc1 n11
    have HK := PLift.up hK
    clear hK d5
    simp only [kl5A]
    go_simp
    have gg : Gr w w := Gr.refl _
    refine HK.down _ _ ⟨_, _, _, _, _, _, _, _, _, _, rfl, gw.neutral (by decide) (by decide) (by decide) (by decide) (by decide) (by decide), kp f0, kp f1, kp f2, fun q => (let ⟨h1, h2, h3⟩ := f3 (done_old q (by decide)); ⟨done_stay h1, done_stay h2, h3⟩), kp f4, kp f5, fun _ => rfl, fun q => absurd (f7 (done_old q (by decide))).2.1 hn, kp f8, fun q => (let ⟨h1, h2⟩ := f9 (done_old q (by decide)); ⟨done_stay h1, done_stay h2⟩), kp f10, fun q => (let ⟨h1, h2⟩ := f11 (done_old q (by decide)); ⟨done_stay h1, done_stay h2⟩)⟩
  · rintro done a w hsz hnot hdep ⟨t15, t16, t17, t18, t19, t20, t21, t22, t23, t24, rfl, gw, f0, f1, f2, f3, f4, f5, f6, f7, f8, f9, f10, f11⟩ K hK
    have hn : ¬ done.getD 7 false = true := by rw [getD_both hnot]; decide
    have d4 := hdep 4 (by kernel_rfl)
    have d6 := hdep 6 (by kernel_rfl)
    obtain rfl := f6 d6
    obtain ⟨E, rfl⟩ := f4 d4
    have nn := getD_both hnot
    have o1 := (gw.s2.e d4 nn).1
    have GG := gets_slI (SC.down.giI gw.gr)
    refine step_append_gets _ rfl _ _ 22 rfl W0.heap.size 3 i0 (.int .i64 0) 1 8 Tryz.underlying22 hi hz0 hz1 hz2 rfl (by decide) (.slice (some ⟨E, 0, none⟩) 0 0) 0 [] (by simp [Act.eval, kl5A]) o1 ac x.choices.length cc (nums x.choices) (by simp [Act.eval, kl5A]) GG (nums_one _) (by unfold maxLen; omega) (by omega) gw.gr.size ?_
    intro v w2 hown hgrow hbl
    rw [Nat.zero_add, List.nil_append] at hown
    obtain ⟨a, c, rfl⟩ := owns_slice hown
    refine hK _ _ ⟨_, _, _, _, _, _, _, _, _, _, rfl, gw.app2 hsz d4 nn hown hgrow hbl, kp f0, kp f1, kp f2, fun q => (let ⟨h1, h2, h3⟩ := f3 (done_old q (by decide)); ⟨done_stay h1, done_stay h2, h3⟩), fun _ => ⟨E, rfl⟩, kp f5, fun _ => rfl, ?_, kp f8, fun q => (let ⟨h1, h2⟩ := f9 (done_old q (by decide)); ⟨done_stay h1, done_stay h2⟩), kp f10, fun q => absurd (f11 (done_old q (by decide))).2 hn⟩
    exact fun _ => ⟨done_stay d4, done_stay (hdep 6 (by kernel_rfl)), a, c, rfl⟩
  · rintro done a w hsz hnot hdep ⟨t15, t16, t17, t18, t19, t20, t21, t22, t23, t24, rfl, gw, f0, f1, f2, f3, f4, f5, f6, f7, f8, f9, f10, f11⟩ K hK
    have hn : ¬ done.getD 8 false = true := by rw [getD_both hnot]; decide
    have HK := PLift.up hK
    clear hK 
    simp only [kl5A]
    go_simp
    have gg : Gr w w := Gr.refl _
    refine HK.down _ _ ⟨_, _, _, _, _, _, _, _, _, _, rfl, gw.neutral (by decide) (by decide) (by decide) (by decide) (by decide) (by decide), kp f0, kp f1, kp f2, fun q => (let ⟨h1, h2, h3⟩ := f3 (done_old q (by decide)); ⟨done_stay h1, done_stay h2, h3⟩), kp f4, kp f5, kp f6, fun q => (let ⟨h1, h2, h3⟩ := f7 (done_old q (by decide)); ⟨done_stay h1, done_stay h2, h3⟩), fun _ => rfl, fun q => absurd (f9 (done_old q (by decide))).1 hn, kp f10, fun q => (let ⟨h1, h2⟩ := f11 (done_old q (by decide)); ⟨done_stay h1, done_stay h2⟩)⟩
  · rintro done a w hsz hnot hdep ⟨t15, t16, t17, t18, t19, t20, t21, t22, t23, t24, rfl, gw, f0, f1, f2, f3, f4, f5, f6, f7, f8, f9, f10, f11⟩ K hK
    have hn : ¬ done.getD 9 false = true := by rw [getD_both hnot]; decide
    have d8 := hdep 8 (by kernel_rfl)
    have d3 := hdep 3 (by kernel_rfl)
    obtain rfl := f8 d8
    have r := gw.row
    have cc1 := r.cell 1 (by simp)
    have cf := r.free 1
    have ch := r.has
    simp only [List.getElem_cons_zero, List.getElem_cons_succ] at cc1
    clear r
    have GW := PLift.up (gw.put1 hsz d3 hcb)
    obtain ⟨z1, z2, a, c, rfl⟩ := f3 d3
    have Z := PLift.up (And.intro d8 (And.intro d3 (And.intro z1 z2)))
    clear z1 z2 d3
    have HK := PLift.up hK
    clear hK d8
    simp only [kl5A]
    go_simp
    refine HK.down _ _ ⟨_, _, _, _, _, _, _, _, _, _, rfl, GW.down, kp f0, kp f1, kp f2, fun _ => ⟨done_stay Z.down.2.2.1, done_stay Z.down.2.2.2, a, c, rfl⟩, kp f4, kp f5, kp f6, fun q => (let ⟨h1, h2, h3⟩ := f7 (done_old q (by decide)); ⟨done_stay h1, done_stay h2, h3⟩), kp f8, ?_, kp f10, fun q => (let ⟨h1, h2⟩ := f11 (done_old q (by decide)); ⟨done_stay h1, done_stay h2⟩)⟩
    exact fun _ => ⟨done_stay Z.down.1, done_stay Z.down.2.1⟩
  · rintro done a w hsz hnot hdep ⟨t15, t16, t17, t18, t19, t20, t21, t22, t23, t24, rfl, gw, f0, f1, f2, f3, f4, f5, f6, f7, f8, f9, f10, f11⟩ K hK
    have hn : ¬ done.getD 10 false = true := by rw [getD_both hnot]; decide
    have HK := PLift.up hK
    clear hK 
    simp only [kl5A]
    go_simp
    have gg : Gr w w := Gr.refl _
    refine HK.down _ _ ⟨_, _, _, _, _, _, _, _, _, _, rfl, gw.neutral (by decide) (by decide) (by decide) (by decide) (by decide) (by decide), kp f0, kp f1, kp f2, fun q => (let ⟨h1, h2, h3⟩ := f3 (done_old q (by decide)); ⟨done_stay h1, done_stay h2, h3⟩), kp f4, kp f5, kp f6, fun q => (let ⟨h1, h2, h3⟩ := f7 (done_old q (by decide)); ⟨done_stay h1, done_stay h2, h3⟩), kp f8, fun q => (let ⟨h1, h2⟩ := f9 (done_old q (by decide)); ⟨done_stay h1, done_stay h2⟩), fun _ => rfl, fun q => absurd (f11 (done_old q (by decide))).1 hn⟩
  · rintro done a w hsz hnot hdep ⟨t15, t16, t17, t18, t19, t20, t21, t22, t23, t24, rfl, gw, f0, f1, f2, f3, f4, f5, f6, f7, f8, f9, f10, f11⟩ K hK
    have hn : ¬ done.getD 11 false = true := by rw [getD_both hnot]; decide
    have d10 := hdep 10 (by kernel_rfl)
    have d7 := hdep 7 (by kernel_rfl)
    obtain rfl := f10 d10
    have r := gw.row
    have cc1 := r.cell 2 (by simp)
    have cf := r.free 2
    have ch := r.has
    simp only [List.getElem_cons_zero, List.getElem_cons_succ] at cc1
    clear r
    have GW := PLift.up (gw.put2 hsz d7 hcb)
    obtain ⟨z1, z2, a, c, rfl⟩ := f7 d7
    have Z := PLift.up (And.intro d10 (And.intro d7 (And.intro z1 z2)))
    clear z1 z2 d7
    have HK := PLift.up hK
    clear hK d10
    simp only [kl5A]
    go_simp
    refine HK.down _ _ ⟨_, _, _, _, _, _, _, _, _, _, rfl, GW.down, kp f0, kp f1, kp f2, fun q => (let ⟨h1, h2, h3⟩ := f3 (done_old q (by decide)); ⟨done_stay h1, done_stay h2, h3⟩), kp f4, kp f5, kp f6, fun _ => ⟨done_stay Z.down.2.2.1, done_stay Z.down.2.2.2, a, c, rfl⟩, kp f8, fun q => (let ⟨h1, h2⟩ := f9 (done_old q (by decide)); ⟨done_stay h1, done_stay h2⟩), kp f10, ?_⟩
    exact fun _ => ⟨done_stay Z.down.1, done_stay Z.down.2.1⟩
  · rintro done a w hall ⟨t15, t16, t17, t18, t19, t20, t21, t22, t23, t24, rfl, gw, f0, f1, f2, f3, f4, f5, f6, f7, f8, f9, f10, f11⟩
    have h9 := hall 9 (by decide)
    have h11 := hall 11 (by decide)
    have h3 := hall 3 (by decide)
    have h7 := hall 7 (by decide)
    have h0 := hall 0 (by decide)
    have h4 := hall 4 (by decide)
    obtain ⟨_, _, a1, c1, e1⟩ := f3 h3
    obtain ⟨_, _, a2, c2, e2⟩ := f7 h7
    have r := gw.row
    rw [h9, h11] at r
    simp only [if_true] at r
    have n := gw.ne h0 h4
    rw [h3, h7] at n
    exact h' _ _ _ _ _ _ _ _ _ _ a1 a2 c1 c2 w e1 e2 gw.gr r (gw.s1.a h3).1 (gw.s2.a h7).1 (gw.s1.a h3).2 (gw.s2.a h7).2 n
end Go.Proofs.YtenehghpmnajpaaGreatDoor
