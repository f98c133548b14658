/- The source of numbers of the second half (bringupboard.Src): what its functions return, as far as the statements need it, and that they move its place and nothing else. -/
import Derived.Test.YthpgoldahffbcaaRow
import Derived.OpenShut
set_option linter.unusedVariables false
set_option linter.unusedSimpArgs false
namespace Go.Proofs.Ythpgoldahffbcaa
open Go.RowKit

/-- The elements of a list of numbers that came in. -/
def IntsIn (w : World) (b : Nat) (ao : Option Addr) (len : Nat) : Prop :=
  ∀ k, k < len → ∃ eb eo x, ao = some ⟨eb, eo, none⟩ ∧ eb ≠ b ∧ w.cell? ⟨eb, eo + k, none⟩ = some (.int .i64 x) ∧ -9223372036854775808 ≤ x ∧ x ≤ 9223372036854775807
/-- Block b is a tape of len numbers at place p. -/
def Tape (w : World) (b : Nat) (p : Int) (len : Nat) : Prop :=
  ∃ ao cap, w.cell? ⟨b, 0, none⟩ = some (.slice ao len cap) ∧ w.cell? ⟨b, 1, none⟩ = some (.int .i64 p) ∧ w.frozen? ⟨b, 1, none⟩ = false ∧ 0 ≤ p ∧ p ≤ len ∧ len ≤ 600 ∧ IntsIn w b ao len
theorem Tape.has {w : World} {b : Nat} {p : Int} {len : Nat} (h : Tape w b p len) : Has w b := by
  obtain ⟨ao, cap, h1, _⟩ := h; exact has_of_cell h1
theorem IntsIn.gr {w w' : World} {b : Nat} {ao : Option Addr} {len : Nat} (h : IntsIn w b ao len) (hg : Gr w w') : IntsIn w' b ao len := by
  intro k hk
  obtain ⟨eb, eo, x, h1, h2, h3, h4⟩ := h k hk
  obtain ⟨O, d, rfl⟩ := hg
  exact ⟨eb, eo, x, h1, h2, by rw [cell?_xt (has_of_cell h3)]; exact h3, h4⟩
theorem Tape.gr {w w' : World} {b : Nat} {p : Int} {len : Nat} (h : Tape w b p len) (hg : Gr w w') : Tape w' b p len := by
  have hb := h.has
  obtain ⟨ao, cap, h1, h2, h3, h4, h5, h6, h7⟩ := h
  have h7' := h7.gr hg
  obtain ⟨O, d, rfl⟩ := hg
  exact ⟨ao, cap, by rw [cell?_xt hb]; exact h1, by rw [cell?_xt hb]; exact h2, by rw [frozen?_xt hb]; exact h3, h4, h5, h6, h7'⟩
theorem Tape.alloc {w : World} {b : Nat} {p : Int} {len : Nat} (o : Obj) (h : Tape w b p len) : Tape (w.alloc o) b p len := h.gr ((Gr.refl w).alloc o)
theorem Tape.xt {w : World} {b : Nat} {p : Int} {len : Nat} (O : Array Obj) (d : Nat) (h : Tape w b p len) : Tape (xt w O d) b p len := h.gr ⟨O, d, rfl⟩
theorem Tape.drew {w : World} {b : Nat} {p : Int} {len : Nat} (h : Tape w b p len) : Tape w.drew b p len := h.gr (Gr.refl w).drew
theorem Tape.drewN {w : World} {b : Nat} {p : Int} {len : Nat} (n : Nat) (h : Tape w b p len) : Tape (w.drewN n) b p len := h.gr ((Gr.refl w).drewN n)
theorem Tape.set {w : World} {b : Nat} {p : Int} {len : Nat} (h : Tape w b p len) {p' : Int} (h0 : 0 ≤ p') (h1 : p' ≤ len) : Tape (w.setCell ⟨b, 1, none⟩ (.int .i64 p')) b p' len := by
  obtain ⟨ao, cap, c0, c1, c2, c3, c4, c5, c6⟩ := h
  refine ⟨ao, cap, ?_, ?_, ?_, h0, h1, c5, ?_⟩
  · rw [World.cell?_setCell_other _ _ _ _ (by simp)]; exact c0
  · exact World.cell?_setCell_same _ _ _ c1
  · rw [World.frozen?_setCell]; exact c2
  · intro k hk
    obtain ⟨eb, eo, x, d1, d2, d3, d4⟩ := c6 k hk
    exact ⟨eb, eo, x, d1, d2, by rw [World.cell?_setCell_other _ _ _ _ (by simp)]; exact d3, d4⟩
/-- A number is read off the tape in block b. -/
def Reads (w : World) (b len : Nat) (S : Int → Prop) (e : Ending) (w' : World) : Prop :=
  ∃ x p', e = .returned (.int .i64 x) ∧ S x ∧ 0 ≤ p' ∧ p' ≤ (len : Int) ∧ Gr (w.setCell ⟨b, 1, none⟩ (.int .i64 p')) w'
def InTo (lo hi x : Int) : Prop := lo ≤ x ∧ x ≤ hi
theorem tmod_fix (x n : Int) (hn : 1 ≤ n) : (x.tmod n < 0 → x.tmod n + n = x % n) ∧ (0 ≤ x.tmod n → x.tmod n = x % n) := by
  have h := @Int.tmod_eq_emod x n
  have h1 := Int.emod_nonneg x (show n ≠ 0 by omega)
  have h2 := Int.emod_lt_of_pos x (show 0 < n by omega)
  have h3 : (n.natAbs : Int) = n := by omega
  split at h <;> constructor <;> intro h4 <;> omega
set_option maxHeartbeats 400000 in
theorem mod_any (x n : Int) (w : World) (hx : Wide x) (hn : 1 ≤ n) (hn1 : n ≤ 1000000000) :
    Calls Try.prog 34 #[.int .i64 x, .int .i64 n] w fun e w' => e = .returned (.int .i64 (x % n)) ∧ w = w' := by
  obtain ⟨hx0, hx1⟩ := hx
  have h := tmod_fix x n hn
  have h1 := Int.emod_nonneg x (show n ≠ 0 by omega)
  have h2 := Int.emod_lt_of_pos x (show 0 < n by omega)
  have h3 := Int.tmod_lt_of_pos x (show 0 < n by omega)
  have h4 : -n ≤ x.tmod n := by
    rcases Int.lt_or_le (x.tmod n) 0 with q | q
    · have := h.1 q; omega
    · omega
  have H := Lib.hid h
  clear h
  have T : Hid ((x.tmod n + n) % n = x % n) := Lib.hid (by
    by_cases hs : x.tmod n < 0
    · rw [H.out.1 hs, Int.emod_emod]
    · rw [H.out.2 (by omega), Int.add_emod_right, Int.emod_emod])
  have q2 : 0 ≤ x.tmod n + n := by omega
  go_enter Try.func34, Try.ntmps34
  go_wp2
  go_ret
  exact ⟨ret_int T.out, rfl⟩

set_option maxHeartbeats 400000 in
theorem n_any (w : World) (b len : Nat) (p n : Int) (h : Tape w b p len) (hn : 1 ≤ n) (hn1 : n ≤ 1000000000) :
    Calls Try.prog 16 #[.pointer (some ⟨b, 0, none⟩), .int .i64 n] w (Reads w b len (InTo 0 (n - 1))) := by
  have hb := h.has
  obtain ⟨ao, cap, c0, c1, c2, c3, c4, c5, c6⟩ := h
  by_cases hp : p < len
  · obtain ⟨k, rfl⟩ := Int.eq_ofNat_of_zero_le c3
    obtain ⟨eb, eo, x, d1, d2, d3, d4, d5⟩ := c6 k (by omega)
    subst d1
    have d6 := has_of_cell d3
    have d7 : (w.setCell ⟨b, 1, none⟩ (.int .i64 (k + 1))).cell? ⟨eb, eo + k, none⟩ = some (.int .i64 x) := by
      rw [World.cell?_setCell_other _ _ _ _ (by simp)]; exact d3
    clear c6
    have hwx : Hid (Wide x) := Lib.hid ⟨d4, d5⟩
    go_enter Try.func16, Try.ntmps16
    go_wp2_with fail
    refine wp_region_grows (by kernel_rfl) (by kernel_rfl) ?_
    repeat (go_big_quiet_step (fail))
    refine wpQuiet_nil ?_
    rintro _ ⟨⟨O1, e1⟩, rfl⟩
    go_wp2_with fail
    have i1 : (k : Int) + 1 - 1 = k := by omega
    have i2 : IntKind.i64.wrap (k : Int) = k := by rw [IntKind.wrap_i64]; omega
    have i3 : (0 : Int) ≤ k := by omega
    have s0 : (w.setCell ⟨b, 1, none⟩ (.int .i64 (k + 1))).cell? ⟨b, 0, none⟩ = some (.slice (some ⟨eb, eo, none⟩) len cap) := by
      rw [World.cell?_setCell_other _ _ _ _ (by simp)]; exact c0
    have s1 : (w.setCell ⟨b, 1, none⟩ (.int .i64 (k + 1))).cell? ⟨b, 1, none⟩ = some (.int .i64 (k + 1)) := World.cell?_setCell_same _ _ _ c1
    refine wp_region_growsx (by kernel_rfl) (by kernel_rfl) ?_
    repeat (go_big_quiet_step ((go_at_call 34; exact calls_same (mod_any x n _ hwx.out hn hn1))))
    refine wpQuiet_nil ?_
    rintro _ ⟨⟨O2, e2⟩, rfl⟩
    clear i1 i2
    go_wp2_with fail
    go_ret
    exact ⟨x % n, (k : Int) + 1, rfl, ⟨Int.emod_nonneg x (show n ≠ 0 by omega), by have := Int.emod_lt_of_pos x (show 0 < n by omega); omega⟩, by omega, by omega, (Gr.refl _).xt _ _⟩
  · have hp' : (len : Int) ≤ p := by omega
    clear c6
    go_enter Try.func16, Try.ntmps16
    go_wp2_with fail
    go_quiet (fail)
    go_wp2_with fail
    go_ret
    exact ⟨0, p, rfl, ⟨by omega, by omega⟩, c3, c4, by rw [setCell_id c1]; exact (Gr.refl w).drewN _⟩

set_option maxHeartbeats 400000 in
theorem pick_any (w : World) (b len : Nat) (p : Int) (h : Tape w b p len) (eb n : Nat) (S : Int → Prop) (hn : 1 ≤ n) (hn1 : n ≤ 1000) (hne : eb ≠ b) (hel : ∀ k, k < n → ∃ x, w.cell? ⟨eb, k, none⟩ = some (.int .i64 x) ∧ S x) :
    Calls Try.prog 36 #[.pointer (some ⟨b, 0, none⟩), .slice (some ⟨eb, 0, none⟩) n n] w (Reads w b len S) := by
  have H := Lib.hid h
  have HE := Lib.hid hel
  clear h hel
  go_enter Try.func36, Try.ntmps36
  go_wp2_with fail
  refine (n_any _ b len p _ H.out (by omega) (by omega)).mono ?_
  rintro e w' ⟨y, p', rfl, hy, q0, q1, O, d, rfl⟩
  have hy0 := hy.1
  have hy1 := hy.2
  obtain ⟨k, rfl⟩ := Int.eq_ofNat_of_zero_le hy0
  obtain ⟨x, hx, hS⟩ := HE.out k (by omega)
  have hHas := has_of_cell hx
  have hx' : (w.setCell ⟨b, 1, none⟩ (.int .i64 p')).cell? ⟨eb, k, none⟩ = some (.int .i64 x) := by
    rw [World.cell?_setCell_other _ _ _ _ (by simp)]; exact hx
  have hk : (k : Int) < n := by omega
  have hS' := Lib.hid hS
  clear hS
  go_wp2_with fail
  go_ret
  exact ⟨x, p', rfl, hS'.out, q0, q1, O, d, rfl⟩
def Tp (w : World) (b len : Nat) : Prop := ∃ p, Tape w b p len
/-- The tape in block b has moved, and memory has grown. -/
def Mv (b len : Nat) (w w' : World) : Prop := ∃ p : Int, 0 ≤ p ∧ p ≤ (len : Int) ∧ Gr (w.setCell ⟨b, 1, none⟩ (.int .i64 p)) w'
theorem Tp.has {w : World} {b len : Nat} (h : Tp w b len) : b < w.heap.size := h.elim fun _ h => h.has
theorem Mv.tp {w w' : World} {b len : Nat} (h : Mv b len w w') (ht : Tp w b len) : Tp w' b len := by
  obtain ⟨p, h0, h1, hg⟩ := h
  obtain ⟨q, ht⟩ := ht
  exact ⟨p, (ht.set h0 h1).gr hg⟩
theorem Tp.gr {w w' : World} {b len : Nat} (h : Tp w b len) (hg : Gr w w') : Tp w' b len := h.elim fun p h => ⟨p, h.gr hg⟩
theorem Mv.of_gr {w w' : World} {b len : Nat} (ht : Tp w b len) (hg : Gr w w') : Mv b len w w' := by
  obtain ⟨p, ht⟩ := ht
  obtain ⟨ao, cap, c0, c1, c2, c3, c4, c5, c6⟩ := ht
  exact ⟨p, c3, c4, by rw [setCell_id c1]; exact hg⟩
theorem Mv.refl {w : World} {b len : Nat} (ht : Tp w b len) : Mv b len w w := .of_gr ht (Gr.refl w)
theorem gr_setCell {w w' : World} {b : Nat} (hg : Gr w w') (hb : b < w.heap.size) (v : Value) : Gr (w.setCell ⟨b, 1, none⟩ v) (w'.setCell ⟨b, 1, none⟩ v) := by
  have h := hg.below
  refine .of_below ⟨h.os, h.tape, h.output, by rw [size_set, size_set]; exact h.size, fun k hk => ?_⟩
  rw [size_set] at hk
  have := h.block k hk
  simp only [World.setCell, Array.getElem?_modify, this]
theorem Mv.trans {w w1 w2 : World} {b len : Nat} (h : Mv b len w w1) (hb : b < w.heap.size) (k : Mv b len w1 w2) : Mv b len w w2 := by
  obtain ⟨p, h0, h1, hg⟩ := h
  obtain ⟨q, k0, k1, kg⟩ := k
  refine ⟨q, k0, k1, ?_⟩
  have := gr_setCell hg (by rw [size_set]; exact hb) (.int .i64 q)
  rw [setCell_setCell] at this
  exact this.trans kg
theorem Mv.gr {w w1 w2 : World} {b len : Nat} (h : Mv b len w w1) (k : Gr w1 w2) : Mv b len w w2 := by
  obtain ⟨p, h0, h1, hg⟩ := h
  exact ⟨p, h0, h1, hg.trans k⟩
theorem Mv.alloc {w w1 : World} {b len : Nat} (o : Obj) (h : Mv b len w w1) : Mv b len w (w1.alloc o) := h.gr ((Gr.refl _).alloc o)
theorem Mv.setc {w w1 : World} {b len B o : Nat} {v : Value} (h : Mv b len w w1) (hB : w.heap.size ≤ B) : Mv b len w (w1.setCell ⟨B, o, none⟩ v) := by
  obtain ⟨p, h0, h1, hg⟩ := h
  exact ⟨p, h0, h1, hg.setc (by rw [size_set]; exact hB)⟩
theorem Mv.size {w w1 : World} {b len : Nat} (h : Mv b len w w1) : w.heap.size ≤ w1.heap.size := by
  obtain ⟨p, h0, h1, hg⟩ := h
  have := hg.size; rwa [size_set] at this
theorem Mv.block {w w1 : World} {b len k : Nat} (h : Mv b len w w1) (hk : k < w.heap.size) (hb : k ≠ b) : w1.heap[k]? = w.heap[k]? := by
  obtain ⟨p, h0, h1, hg⟩ := h
  rw [hg.below.block k (by rw [size_set]; exact hk)]
  simp [World.setCell, Array.getElem?_modify, Ne.symm hb]
theorem Mv.cell {w w1 : World} {b len k o : Nat} {s : Option Nat} {v : Value} (h : Mv b len w w1) (hb : k ≠ b) (c : w.cell? ⟨k, o, s⟩ = some v) : w1.cell? ⟨k, o, s⟩ = some v :=
  (World.cell?_of_block (w := w) (h.block (has_of_cell c) hb)).trans c
theorem Mv.row {w w1 : World} {b len B T : Nat} {vs : List Value} (h : Mv b len w w1) (r : Row w B T vs) (hb : B ≠ b) : Row w1 B T vs := (h.block r.has hb).trans r
theorem Mv.rowS {w w1 : World} {b len B T : Nat} {vs : List Value} (h : Mv b len w w1) (r : RowS w B T vs) (hb : B ≠ b) : RowS w1 B T vs := r.elim fun x r => ⟨x, h.row r hb⟩
theorem Mv.own1 {w w1 : World} {b len base T : Nat} {vs : List Value} {a : Option Addr} (h : Mv b len w w1) (r : Own1 base w T vs a) (hb : b < base) : Own1 base w1 T vs a := by
  rcases r with r | ⟨B, e, hB, r⟩
  · exact .inl r
  · exact .inr ⟨B, e, hB, h.rowS r (by omega)⟩
theorem Mv.owns {w w1 : World} {b len base e size n : Nat} {v : Value} {xs : List Value} (h : Mv b len w w1) (r : w.ownsRow base e size v n xs) (hb : b < base) : w1.ownsRow base e size v n xs := by
  refine ⟨r.1, ?_⟩
  rcases r.2 with r | ⟨g, cap, cur, e, h1, h2, h3⟩
  · exact .inl r
  · exact .inr ⟨g, cap, cur, e, h1, (h.block (Array.getElem?_eq_some_iff.1 h2).1 (by omega)).trans h2, h3⟩
/-- It holds wherever the tape stands. -/
def Hold (b : Nat) (w : World) (Q : World → Prop) : Prop := ∀ p : Int, Q (w.setCell ⟨b, 1, none⟩ (.int .i64 p))
def GrMono (Q : World → Prop) : Prop := ∀ w w', Gr w w' → Q w → Q w'
theorem Hold.mv {w w1 : World} {b len : Nat} {Q : World → Prop} (h : Hold b w Q) (hb : b < w.heap.size) (m : Mv b len w w1) (hQ : GrMono Q) : Hold b w1 Q := by
  intro q
  obtain ⟨p, h0, h1, hg⟩ := m
  have := gr_setCell hg (by rw [size_set]; exact hb) (.int .i64 q)
  rw [setCell_setCell] at this
  exact hQ _ _ this (h q)
theorem Hold.now {w : World} {b len : Nat} {Q : World → Prop} (h : Hold b w Q) (ht : Tp w b len) : Q w := by
  obtain ⟨p, ht⟩ := ht
  obtain ⟨ao, cap, c0, c1, _⟩ := ht
  have := h p
  rwa [setCell_id c1] at this
theorem Hold.gr {w w1 : World} {b : Nat} {Q : World → Prop} (h : Hold b w Q) (hb : b < w.heap.size) (hg : Gr w w1) (hQ : GrMono Q) : Hold b w1 Q := fun q => hQ _ _ (gr_setCell hg hb _) (h q)
/-- A number is read. -/
def ReadsM (b len : Nat) (w : World) (S : Int → Prop) (e : Ending) (w' : World) : Prop := ∃ x, e = .returned (.int .i64 x) ∧ S x ∧ Mv b len w w'
theorem Reads.m {b len : Nat} {w : World} {S : Int → Prop} {e : Ending} {w' : World} (h : Reads w b len S e w') : ReadsM b len w S e w' := by
  obtain ⟨x, p, e, hs, h0, h1, hg⟩ := h
  exact ⟨x, e, hs, p, h0, h1, hg⟩
theorem nM_any (w : World) (b len : Nat) (n : Int) (h : Tp w b len) (hn : 1 ≤ n) (hn1 : n ≤ 1000000000) :
    Calls Try.prog 16 #[.pointer (some ⟨b, 0, none⟩), .int .i64 n] w (ReadsM b len w (InTo 0 (n - 1))) :=
  h.elim fun p h => (n_any w b len p n h hn hn1).mono fun _ _ q => q.m
theorem pickM_any (w : World) (b len : Nat) (h : Tp w b len) (eb n : Nat) (S : Int → Prop) (hn : 1 ≤ n) (hn1 : n ≤ 1000) (hne : eb ≠ b) (hel : ∀ k, k < n → ∃ x, w.cell? ⟨eb, k, none⟩ = some (.int .i64 x) ∧ S x) :
    Calls Try.prog 36 #[.pointer (some ⟨b, 0, none⟩), .slice (some ⟨eb, 0, none⟩) n n] w (ReadsM b len w S) :=
  h.elim fun p h => (pick_any w b len p h eb n S hn hn1 hne hel).mono fun _ _ q => q.m
theorem Mv.grown {w W w1 : World} {b len : Nat} {row : Option Nat} (h : Mv b len w W) (hg : W.grownBy w1 row) (hrow : ∀ k, row = some k → w.heap.size ≤ k) : Mv b len w w1 := by
  obtain ⟨p, h0, h1, g⟩ := h
  exact ⟨p, h0, h1, g.grown hg (fun k e => by rw [size_set]; exact hrow k e)⟩
theorem pickNew_any (w : World) (b len : Nat) (h : Tp w b len) (eb : Nat) (heb : eb = w.heap.size) (arr : Array Value) (n : Nat) (xs : List Int) (S : Int → Prop) (ha : arr.toList = nums xs) (hn : xs.length = n) (hn1 : 1 ≤ n) (hn2 : n ≤ 1000) (hS : ∀ x ∈ xs, S x) :
    Calls Try.prog 36 #[.pointer (some ⟨b, 0, none⟩), .slice (some ⟨eb, 0, none⟩) n n] (w.alloc (.cells arr 3)) (ReadsM b len w S) := by
  subst heb
  refine (pickM_any (w.alloc (.cells arr 3)) b len (h.gr ((Gr.refl _).alloc _)) w.heap.size n S hn1 hn2 (by have := h.has; omega) (fun k hk => ?_)).mono ?_
  · have q := Row.new w arr 3
    rw [ha] at q
    exact ⟨_, q.iat k (by omega), hS _ (List.getElem_mem _)⟩
  · rintro e w' ⟨x, rfl, hs, hm⟩
    exact ⟨x, rfl, hs, (Mv.of_gr h ((Gr.refl _).alloc _)).trans h.has hm⟩
/-- A list of numbers that came in: nil, or a row of cap cells that hold the numbers zs. -/
def RowIn (w : World) (a : Option Addr) (len cap : Nat) (zs : List Int) : Prop :=
  (a = none ∧ len = 0 ∧ cap = 0 ∧ zs = []) ∨
  ∃ x, a = some x ∧ len ≤ cap ∧ cap ≤ maxLen ∧ zs.length = cap ∧ (∀ i, i < zs.length → w.cell? (x.add i) = some (.int .i64 (zs.getD i 0))) ∧ ∀ n ∈ zs, (Lit.int .i64 n).wf = true
theorem addr_of_cell {w : World} {x : Addr} {v : Value} (h : w.cell? x = some v) : x = ⟨x.block, x.off, none⟩ := by
  cases x with
  | mk b o s =>
    cases s with
    | none => rfl
    | some k => simp only [World.cell?] at h; split at h <;> simp at h
theorem RowIn.ints {w : World} {a : Option Addr} {len cap : Nat} {zs : List Int} (h : RowIn w a len cap zs) (b : Nat) (hb : w.heap.size ≤ b) (n : Nat) (hn : n ≤ len) : IntsIn w b a n := by
  intro k hk
  rcases h with ⟨_, h2, _⟩ | ⟨x, rfl, h1, h2, h3, h4, h5⟩
  · omega
  · have c0 := h4 0 (by omega)
    have ck := h4 k (by omega)
    simp only [Addr.add, if_true] at c0
    have hx := addr_of_cell c0
    refine ⟨x.block, x.off, zs.getD k 0, by rw [← hx], ?_, ?_, ?_⟩
    · rw [hx] at c0; have : x.block < w.heap.size := has_of_cell c0; omega
    · simp only [Addr.add] at ck
      split at ck
      · rename_i e; subst e; rw [hx] at ck; simpa using ck
      · exact ck
    · have hmem : zs.getD k 0 ∈ zs := by
        rw [List.getD_eq_getElem?_getD, List.getElem?_eq_getElem (by omega)]; simp
      have := h5 _ hmem
      have := bounds_i64 this
      omega
/-- The tape is new, and nothing that was there has turned. -/
def NewTape (w : World) (len : Nat) (e : Ending) (w' : World) : Prop :=
  ∃ b n, e = .returned (.pointer (some ⟨b, 0, none⟩)) ∧ Tape w' b 0 n ∧ Gr w w' ∧ w.heap.size ≤ b ∧ n ≤ len
set_option maxHeartbeats 400000 in
theorem newTape_any (w : World) (a : Option Addr) (len cap : Nat) (zs : List Int) (h : RowIn w a len cap zs) :
    Calls Try.prog 9 #[.slice a len cap] w (NewTape w len) := by
  have hi := h.ints
  have H := Lib.hid h
  rcases h with ⟨rfl, rfl, rfl, rfl⟩ | ⟨x, rfl, h1, h2, h3, _, _⟩
  · clear hi
    go_enter Try.func9, Try.ntmps9
    go_wp2
    go_ret
    refine ⟨w.heap.size, 0, rfl, ⟨none, 0, by simp [go_sem], by simp [go_sem], by simp [go_sem], by omega, by omega, by omega, fun k hk => by omega⟩, (Gr.refl w).alloc _, Nat.le_refl _, by omega⟩
  · unfold maxLen at h2
    have HI := Lib.hid hi
    clear hi h3
    by_cases hl : len ≤ 600
    · go_enter Try.func9, Try.ntmps9
      go_wp2
      go_ret
      refine ⟨w.heap.size, len, rfl, ⟨some x, cap, by simp [go_sem], by simp [go_sem], by simp [go_sem], by omega, by omega, by omega, ?_⟩, (Gr.refl w).alloc _, Nat.le_refl _, by omega⟩
      exact (HI.out w.heap.size (Nat.le_refl _) len (Nat.le_refl _)).gr ((Gr.refl w).alloc _)
    · go_enter Try.func9, Try.ntmps9
      go_wp2
      go_ret
      refine ⟨w.heap.size, 600, rfl, ⟨some x, cap, by simp [go_sem], by simp [go_sem], by simp [go_sem], by omega, by omega, by omega, ?_⟩, (Gr.refl w).alloc _, Nat.le_refl _, by omega⟩
      exact (HI.out w.heap.size (Nat.le_refl _) 600 (by omega)).gr ((Gr.refl w).alloc _)
theorem Mv.out {w W w' : World} {b len : Nat} (hg : Gr w W) (h : Mv b len W w') (hb : w.heap.size ≤ b) : Gr w w' := by
  obtain ⟨p, h0, h1, g⟩ := h
  exact (hg.setc hb).trans g
end Go.Proofs.Ythpgoldahffbcaa
