/- The writer of ramp.Plan: level, supply. -/
import Derived.Test.YtoenkcojfogmmaaRmpC
set_option linter.unusedVariables false
set_option linter.unusedSimpArgs false
namespace Go.Proofs.Ytoenkcojfogmmaa
open Go.RowKit
open Classical

theorem infoWri : (Try.prog.info? 46).map (fun i => (i.zero, i.size, i.bytes)) = some (some (.agg #[.int .i64 0, .int .i64 0, .int .i64 0]), 3, 24) := by kernel_rfl
def encW (x : Wri) : List Value := [.int .i64 x.kind, .int .i64 x.unit, .int .i64 x.value]
def encWs (ps : List Wri) : List Value := ps.flatMap encW
theorem encWs_snoc (ps : List Wri) (x : Wri) : encWs (ps ++ [x]) = encWs ps ++ encW x := by simp [encWs]
theorem encWs_len (ps : List Wri) : (encWs ps).length = ps.length * 3 := by
  induction ps with
  | nil => rfl
  | cons x ps ih =>
    have : encWs (x :: ps) = encW x ++ encWs ps := rfl
    rw [this, List.length_append, ih]
    simp [encW]
    omega
theorem grownBy_set (w : World) (B o : Nat) (v : Value) : w.grownBy (w.setCell ⟨B, o, none⟩ v) (some B) :=
  ⟨rfl, rfl, rfl, by simp [World.setCell], fun k _ hk => by simp only [World.setCell]; rw [Array.getElem?_modify, if_neg (fun e => hk (by rw [e]))]⟩
theorem RowS.grown {w w' : World} {row : Option Nat} {B T : Nat} {vs : List Value} (h : RowS w B T vs) (hg : w.grownBy w' row) (hne : some B ≠ row) : RowS w' B T vs :=
  h.elim fun r h => ⟨r, (hg.block B h.has hne).trans h⟩
theorem Row.grown {w w' : World} {row : Option Nat} {B T : Nat} {vs : List Value} (h : Row w B T vs) (hg : w.grownBy w' row) (hne : some B ≠ row) : Row w' B T vs := (hg.block B h.has hne).trans h
theorem owns_apart {w : World} {base e size n : Nat} {v : Value} {xs : List Value} (ho : w.ownsRow base e size v n xs) {B T : Nat} {vs : List Value} (h : RowS w B T vs) (hT : T ≠ e) : some B ≠ v.ownBlock := by
  intro q
  obtain ⟨_, ⟨rfl, _⟩ | ⟨g, cap, cur, rfl, _, hg, _⟩⟩ := ho
  · cases q
  · injection q with q
    obtain ⟨r, h⟩ := h
    unfold Row at h
    rw [q] at h
    simp only at h
    rw [h] at hg
    injection hg with hg
    injection hg with _ hg
    exact hT hg
theorem owns_set {w : World} {base e size n : Nat} {v : Value} {xs : List Value} (ho : w.ownsRow base e size v n xs) {B T o : Nat} {vs : List Value} {x : Value} (h : RowS w B T vs) (hT : T ≠ e) : (w.setCell ⟨B, o, none⟩ x).ownsRow base e size v n xs :=
  ho.kept (grownBy_set w B o x) (.inr (Ne.symm (owns_apart ho h hT)))

/-- A writer in memory: its record at Bw, its own rows B1, B2, and the plan so far. -/
structure WrAt (base : Nat) (w : World) (Bw n B1 c1 B2 c2 : Nat) (v : Value) (r : Rls) (ps : List Wri) : Prop where
  box : Row w Bw 81 [.slice (some ⟨B1, 0, none⟩) n c1, .slice (some ⟨B2, 0, none⟩) n c2, v]
  on : RowS w B1 4 (bools r.on)
  lv : RowS w B2 3 (nums r.level)
  pl : w.ownsRow base 46 3 v ps.length (encWs ps)
  b0 : base ≤ Bw
  b1 : base ≤ B1
  b2 : base ≤ B2
  n1 : r.on.length = n
  n2 : r.level.length = n
/-- The call ends with the writer at this. -/
def Writes (W0 : World) (Bw n B1 c1 B2 c2 : Nat) (s : Rls × List Wri) (e : Ending) (w' : World) : Prop :=
  ∃ x v, e = .returned x ∧ WrAt W0.heap.size w' Bw n B1 c1 B2 c2 v s.1 s.2 ∧ Gr W0 w'
noncomputable def wLevel (s : Rls × List Wri) (k : Nat) (x : Int) : Rls × List Wri := (⟨s.1.on, s.1.level.set k x⟩, if lvAt s.1 k = x then s.2 else s.2 ++ [⟨2, k, x⟩])
noncomputable def wSupply (s : Rls × List Wri) (k : Nat) (b : Bool) : Rls × List Wri := (⟨s.1.on.set k b, s.1.level⟩, if onAt s.1 k = b then s.2 else s.2 ++ [⟨3, k, if b = true then 1 else 0⟩])

theorem WrAt.setLv {base : Nat} {w : World} {Bw n B1 c1 B2 c2 : Nat} {v : Value} {r : Rls} {ps : List Wri} (h : WrAt base w Bw n B1 c1 B2 c2 v r ps) (k : Nat) (hk : k < n) (x : Int) : WrAt base (w.setCell ⟨B2, k, none⟩ (.int .i64 x)) Bw n B1 c1 B2 c2 v ⟨r.on, r.level.set k x⟩ ps where
  box := h.box.oth (h.lv.apart h.box.s (by decide))
  on := h.on.oth (h.lv.apart h.on (by decide))
  lv := h.lv.iset k (by have := h.n2; omega) x
  pl := owns_set h.pl h.lv (by decide)
  b0 := h.b0
  b1 := h.b1
  b2 := h.b2
  n1 := h.n1
  n2 := by simpa using h.n2
theorem WrAt.setOn {base : Nat} {w : World} {Bw n B1 c1 B2 c2 : Nat} {v : Value} {r : Rls} {ps : List Wri} (h : WrAt base w Bw n B1 c1 B2 c2 v r ps) (k : Nat) (hk : k < n) (x : Bool) : WrAt base (w.setCell ⟨B1, k, none⟩ (.bool x)) Bw n B1 c1 B2 c2 v ⟨r.on.set k x, r.level⟩ ps where
  box := h.box.oth (h.on.apart h.box.s (by decide))
  on := h.on.bset k (by have := h.n1; omega) x
  lv := h.lv.oth (h.on.apart h.lv (by decide))
  pl := owns_set h.pl h.on (by decide)
  b0 := h.b0
  b1 := h.b1
  b2 := h.b2
  n1 := by simpa using h.n1
  n2 := h.n2
theorem WrAt.push {base : Nat} {w : World} {Bw n B1 c1 B2 c2 : Nat} {v v' : Value} {r : Rls} {ps : List Wri} {o : Obj} {w1 : World} {p : Wri} (h : WrAt base w Bw n B1 c1 B2 c2 v r ps) (hg : (w.alloc o).grownBy w1 v.ownBlock)
    (ho : w1.ownsRow base 46 3 v' (ps.length + 1) (encWs ps ++ encW p)) : Row w1 Bw 81 [.slice (some ⟨B1, 0, none⟩) n c1, .slice (some ⟨B2, 0, none⟩) n c2, v] ∧ WrAt base (w1.setCell ⟨Bw, 2, none⟩ v') Bw n B1 c1 B2 c2 v' r (ps ++ [p]) := by
  have q0 := (h.box.alloc o).grown hg (owns_apart h.pl h.box.s (by decide))
  have q1 := (h.on.alloc o).grown hg (owns_apart h.pl h.on (by decide))
  have q2 := (h.lv.alloc o).grown hg (owns_apart h.pl h.lv (by decide))
  refine ⟨q0, ⟨?_, q1.oth (q0.s.apart q1 (by decide)), q2.oth (q0.s.apart q2 (by decide)), ?_, h.b0, h.b1, h.b2, h.n1, h.n2⟩⟩
  · exact q0.set 2 v'
  · have := owns_set (o := 2) (x := v') ho q0.s (by decide)
    rw [← encWs_snoc] at this
    simpa using this
theorem WrAt.gr {W0 : World} {w : World} {Bw n B1 c1 B2 c2 : Nat} {v : Value} {r : Rls} {ps : List Wri} {o : Obj} {w1 : World} (h : WrAt W0.heap.size w Bw n B1 c1 B2 c2 v r ps) (hw : Gr W0 w) (hg : (w.alloc o).grownBy w1 v.ownBlock) : Gr W0 w1 :=
  (hw.alloc o).grown hg (fun k e => (h.pl.lt k e).1)
theorem cell_three (w : World) (x y z : Value) (t : TypeId) : ∀ j u, [x, y, z][j]? = some u → (w.alloc (.cells #[x, y, z] t)).cell? ((⟨w.heap.size, 0, none⟩ : Addr).add j) = some u := by
  intro j u hu
  obtain ⟨hj, hu⟩ := List.getElem?_eq_some_iff.1 hu
  have : (⟨w.heap.size, 0, none⟩ : Addr).add j = ⟨w.heap.size, j, none⟩ := by unfold Addr.add; split <;> simp_all
  rw [this, (Row.new w #[x, y, z] t).cell j hj, ← hu]
theorem encW_one (p : Wri) : ∀ u ∈ encW p, u.oneCell' = true := by
  intro u hu
  simp only [encW, List.mem_cons, List.not_mem_nil, or_false] at hu
  rcases hu with rfl | rfl | rfl <;> rfl

set_option maxRecDepth 100000 in
set_option maxHeartbeats 2000000 in
theorem level_any (W0 : World) (Bw n B1 c1 B2 c2 : Nat) (v : Value) (r : Rls) (ps : List Wri) (k : Nat) (x : Int) (w : World) (hk : k < n) (h : WrAt W0.heap.size w Bw n B1 c1 B2 c2 v r ps) (hg : Gr W0 w) (hps : ps.length ≤ 1000) :
    Calls Try.prog 42 #[.pointer (some ⟨Bw, 0, none⟩), .int .i64 k, .int .i64 x] w (Writes W0 Bw n B1 c1 B2 c2 (wLevel (r, ps) k x)) := by
  have HH := Lib.hid h
  have HG := Lib.hid hg
  have e0 := h.box.cell 0 (by simp)
  have e1 := h.box.cell 1 (by simp)
  have e2 := h.box.cell 2 (by simp)
  simp only [List.getElem_cons_zero, List.getElem_cons_succ] at e0 e1 e2
  have e3 := h.box.free 2
  have hkl : k < r.level.length := by have := h.n2; omega
  have l0 := h.lv.iat k hkl
  rw [← lvAt_eq hkl] at l0
  have l1 := h.lv.free k
  have x0 := h.box.has
  have x1 := h.lv.has
  have t0 : Bw ≠ B2 := h.box.s.apart h.lv (by decide)
  have t1 : B1 ≠ B2 := h.on.apart h.lv (by decide)
  have t2 : Bw ≠ B1 := h.box.s.apart h.on (by decide)
  have g0 : (0 : Int) ≤ k := by omega
  have g1 : (k : Int) < n := by omega
  clear h hg
  by_cases hx : lvAt r k = x
  · have hxb : (lvAt r k != x) = false := by simpa using hx
    have HX := Lib.hid hx
    clear hx
    go_enter Try.func42, Try.ntmps42
    go_wp2_with fail
    refine bodyPost_end (v := .tuple #[]) ?_ rfl ?_
    · simp [results, Try.results42, go_sem]
    · have := HH.out
      refine ⟨_, v, rfl, ?_, HG.out⟩
      show WrAt W0.heap.size w Bw n B1 c1 B2 c2 v ⟨r.on, r.level.set k x⟩ (if lvAt r k = x then ps else _)
      rw [if_pos HX.out, set_same r.level k hkl x (by rw [← lvAt_eq hkl]; exact HX.out)]
      exact this
  · have hxb : (lvAt r k != x) = true := by simpa using hx
    have HX := Lib.hid hx
    clear hx
    obtain ⟨i0, hi, hz0, hz1, hz2⟩ := info_parts infoWri
    have H2 := Lib.hid (HH.out.setLv k hk x)
    have G2 : Hid (Gr W0 (w.setCell ⟨B2, k, none⟩ (.int .i64 x))) := Lib.hid (HG.out.setc HH.out.b2)
    go_enter Try.func42, Try.ntmps42
    go_wp2_with (at_builtin; refine wpList_append_own _ rfl _ _ 35 rfl W0.heap.size 46 i0 (.agg #[.int .i64 0, .int .i64 0, .int .i64 0]) 3 24 Try.underlying35 hi hz0 hz1 hz2 rfl (by decide) v ps.length (encWs ps) rfl (H2.out.pl.alloc _) ⟨w.heap.size, 0, none⟩ 1 1 (encW ⟨2, k, x⟩) rfl rfl (by have := cell_three (w.setCell ⟨B2, k, none⟩ (.int .i64 x)) (.int .i64 2) (.int .i64 k) (.int .i64 x) 46; simpa [encW] using this) (encW_one _) (by unfold maxLen; omega) (by omega) (by have := G2.out.size; simp at this ⊢; omega) ?_; intro v' w1 hown' hgrow hnil; have PU := Lib.hid (H2.out.push hgrow hown'); have GU := Lib.hid (H2.out.gr G2.out hgrow); obtain ⟨g', cap', rfl⟩ := ownsRow_succ hown'; have f0 := PU.out.1.free 2; have f1 := PU.out.1.cell 2 (by simp); have f2 := PU.out.1.has; clear hown' hgrow hnil)
    refine bodyPost_end (v := .tuple #[]) ?_ rfl ?_
    · simp [results, Try.results42, go_sem]
    · refine ⟨_, .slice (some ⟨g', 0, none⟩) (ps.length + 1) cap', rfl, ?_, GU.out.setc HH.out.b0⟩
      have := PU.out.2
      show WrAt W0.heap.size _ Bw n B1 c1 B2 c2 _ ⟨r.on, r.level.set k x⟩ (if lvAt r k = x then _ else ps ++ [⟨2, k, x⟩])
      rw [if_neg HX.out]
      exact this
set_option maxRecDepth 100000 in
set_option maxHeartbeats 2000000 in
theorem supply_any (W0 : World) (Bw n B1 c1 B2 c2 : Nat) (v : Value) (r : Rls) (ps : List Wri) (k : Nat) (x : Bool) (w : World) (hk : k < n) (h : WrAt W0.heap.size w Bw n B1 c1 B2 c2 v r ps) (hg : Gr W0 w) (hps : ps.length ≤ 1000) :
    Calls Try.prog 43 #[.pointer (some ⟨Bw, 0, none⟩), .int .i64 k, .bool x] w (Writes W0 Bw n B1 c1 B2 c2 (wSupply (r, ps) k x)) := by
  have HH := Lib.hid h
  have HG := Lib.hid hg
  have e0 := h.box.cell 0 (by simp)
  have e1 := h.box.cell 1 (by simp)
  have e2 := h.box.cell 2 (by simp)
  simp only [List.getElem_cons_zero, List.getElem_cons_succ] at e0 e1 e2
  have e3 := h.box.free 2
  have hkl : k < r.on.length := by have := h.n1; omega
  have l0 := h.on.bat k hkl
  rw [← onAt_eq hkl] at l0
  have l1 := h.on.free k
  have x0 := h.box.has
  have x1 := h.on.has
  have t0 : Bw ≠ B2 := h.box.s.apart h.lv (by decide)
  have t1 : B1 ≠ B2 := h.on.apart h.lv (by decide)
  have t2 : Bw ≠ B1 := h.box.s.apart h.on (by decide)
  have g0 : (0 : Int) ≤ k := by omega
  have g1 : (k : Int) < n := by omega
  clear h hg
  by_cases hx : onAt r k = x
  · have hxb : (onAt r k == x) = true := by simpa using hx
    have HX := Lib.hid hx
    clear hx
    go_enter Try.func43, Try.ntmps43
    go_wp2_with fail
    refine bodyPost_ret (v := .tuple #[]) ?_ rfl ?_
    · simp [results, Try.results43, go_sem]
    · have := HH.out
      refine ⟨_, v, rfl, ?_, HG.out⟩
      show WrAt W0.heap.size w Bw n B1 c1 B2 c2 v ⟨r.on.set k x, r.level⟩ (if onAt r k = x then ps else _)
      rw [if_pos HX.out, set_same r.on k hkl x (by rw [← onAt_eq hkl]; exact HX.out)]
      exact this
  · have hxb : (onAt r k == x) = false := by simpa using hx
    have HX := Lib.hid hx
    clear hx
    obtain ⟨i0, hi, hz0, hz1, hz2⟩ := info_parts infoWri
    have H2 := Lib.hid (HH.out.setOn k hk x)
    have G2 : Hid (Gr W0 (w.setCell ⟨B1, k, none⟩ (.bool x))) := Lib.hid (HG.out.setc HH.out.b1)
    cases x with
    | true =>
      go_enter Try.func43, Try.ntmps43
      go_wp2_with (at_builtin; refine wpList_append_own _ rfl _ _ 35 rfl W0.heap.size 46 i0 (.agg #[.int .i64 0, .int .i64 0, .int .i64 0]) 3 24 Try.underlying35 hi hz0 hz1 hz2 rfl (by decide) v ps.length (encWs ps) rfl (H2.out.pl.alloc _) ⟨w.heap.size, 0, none⟩ 1 1 (encW ⟨3, k, 1⟩) rfl rfl (by have := cell_three (w.setCell ⟨B1, k, none⟩ (.bool true)) (.int .i64 3) (.int .i64 k) (.int .i64 1) 46; simpa [encW] using this) (encW_one _) (by unfold maxLen; omega) (by omega) (by have := G2.out.size; simp at this ⊢; omega) ?_; intro v' w1 hown' hgrow hnil; have PU := Lib.hid (H2.out.push hgrow hown'); have GU := Lib.hid (H2.out.gr G2.out hgrow); obtain ⟨g', cap', rfl⟩ := ownsRow_succ hown'; have f0 := PU.out.1.free 2; have f1 := PU.out.1.cell 2 (by simp); have f2 := PU.out.1.has; clear hown' hgrow hnil)
      refine bodyPost_end (v := .tuple #[]) ?_ rfl ?_
      · simp [results, Try.results43, go_sem]
      · refine ⟨_, .slice (some ⟨g', 0, none⟩) (ps.length + 1) cap', rfl, ?_, GU.out.setc HH.out.b0⟩
        have := PU.out.2
        show WrAt W0.heap.size _ Bw n B1 c1 B2 c2 _ ⟨r.on.set k true, r.level⟩ (if onAt r k = true then _ else ps ++ [⟨3, k, if true = true then 1 else 0⟩])
        rw [if_neg HX.out]
        simpa using this
    | false =>
      go_enter Try.func43, Try.ntmps43
      go_wp2_with (at_builtin; refine wpList_append_own _ rfl _ _ 35 rfl W0.heap.size 46 i0 (.agg #[.int .i64 0, .int .i64 0, .int .i64 0]) 3 24 Try.underlying35 hi hz0 hz1 hz2 rfl (by decide) v ps.length (encWs ps) rfl (H2.out.pl.alloc _) ⟨w.heap.size, 0, none⟩ 1 1 (encW ⟨3, k, 0⟩) rfl rfl (by have := cell_three (w.setCell ⟨B1, k, none⟩ (.bool false)) (.int .i64 3) (.int .i64 k) (.int .i64 0) 46; simpa [encW] using this) (encW_one _) (by unfold maxLen; omega) (by omega) (by have := G2.out.size; simp at this ⊢; omega) ?_; intro v' w1 hown' hgrow hnil; have PU := Lib.hid (H2.out.push hgrow hown'); have GU := Lib.hid (H2.out.gr G2.out hgrow); obtain ⟨g', cap', rfl⟩ := ownsRow_succ hown'; have f0 := PU.out.1.free 2; have f1 := PU.out.1.cell 2 (by simp); have f2 := PU.out.1.has; clear hown' hgrow hnil)
      refine bodyPost_end (v := .tuple #[]) ?_ rfl ?_
      · simp [results, Try.results43, go_sem]
      · refine ⟨_, .slice (some ⟨g', 0, none⟩) (ps.length + 1) cap', rfl, ?_, GU.out.setc HH.out.b0⟩
        have := PU.out.2
        show WrAt W0.heap.size _ Bw n B1 c1 B2 c2 _ ⟨r.on.set k false, r.level⟩ (if onAt r k = false then _ else ps ++ [⟨3, k, if false = true then 1 else 0⟩])
        rw [if_neg HX.out]
        simpa using this
end Go.Proofs.Ytoenkcojfogmmaa
