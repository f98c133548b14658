/- Rows of cells of the call's own, with spare room, and worlds in which one of them has grown; append onto an empty slice. Nothing of one program. -/
import Derived.Test.YthpgoldahffbcaaMem
import Derived.Maps.AppendAt
import Derived.Deep.RegionLaw
import Derived.Deep.AppendLies
import Derived.Deep.DeepCutAuto
set_option linter.unusedVariables false
set_option linter.unusedSimpArgs false
namespace Go.Proofs.Ythpgoldahffbcaa
open Go.RowKit

def bools (vs : List Bool) : List Value := vs.map Value.bool
def nums (vs : List Int) : List Value := vs.map (Value.int .i64)
theorem bools_len (vs : List Bool) : (bools vs).length = vs.length := by simp [bools]
theorem nums_len (vs : List Int) : (nums vs).length = vs.length := by simp [nums]
theorem bools_set (vs : List Bool) (k : Nat) (b : Bool) : (bools vs).set k (.bool b) = bools (vs.set k b) := by simp [bools, List.map_set]
theorem nums_set (vs : List Int) (k : Nat) (b : Int) : (nums vs).set k (.int .i64 b) = nums (vs.set k b) := by simp [nums, List.map_set]
theorem Row.bat {w : World} {B T : Nat} {vs : List Bool} (h : Row w B T (bools vs)) (k : Nat) (hk : k < vs.length) : w.cell? ⟨B, k, none⟩ = some (.bool vs[k]) := by
  rw [h.cell k (by simpa [bools] using hk)]; simp [bools]
theorem Row.iat {w : World} {B T : Nat} {vs : List Int} (h : Row w B T (nums vs)) (k : Nat) (hk : k < vs.length) : w.cell? ⟨B, k, none⟩ = some (.int .i64 vs[k]) := by
  rw [h.cell k (by simpa [nums] using hk)]; simp [nums]
theorem Row.bset {w : World} {B T : Nat} {vs : List Bool} (h : Row w B T (bools vs)) (k : Nat) (b : Bool) : Row (w.setCell ⟨B, k, none⟩ (.bool b)) B T (bools (vs.set k b)) := by
  rw [← bools_set]; exact h.set k _
theorem Row.iset {w : World} {B T : Nat} {vs : List Int} (h : Row w B T (nums vs)) (k : Nat) (b : Int) : Row (w.setCell ⟨B, k, none⟩ (.int .i64 b)) B T (nums (vs.set k b)) := by
  rw [← nums_set]; exact h.set k _
def RowS (w : World) (B T : Nat) (vs : List Value) : Prop := ∃ rest, Row w B T (vs ++ rest)
theorem Row.s {w : World} {B T : Nat} {vs : List Value} (h : Row w B T vs) : RowS w B T vs := ⟨[], by simpa using h⟩
theorem RowS.cell {w : World} {B T : Nat} {vs : List Value} (h : RowS w B T vs) (k : Nat) (hk : k < vs.length) : w.cell? ⟨B, k, none⟩ = some vs[k] := by
  obtain ⟨rest, h⟩ := h
  rw [h.cell k (by simp; omega), List.getElem_append_left hk]
theorem RowS.free {w : World} {B T : Nat} {vs : List Value} (h : RowS w B T vs) (k : Nat) : w.frozen? ⟨B, k, none⟩ = false := h.elim fun _ h => h.free k
theorem RowS.has {w : World} {B T : Nat} {vs : List Value} (h : RowS w B T vs) : Has w B := h.elim fun _ h => h.has
theorem RowS.set {w : World} {B T : Nat} {vs : List Value} (h : RowS w B T vs) (k : Nat) (hk : k < vs.length) (v : Value) : RowS (w.setCell ⟨B, k, none⟩ v) B T (vs.set k v) := by
  obtain ⟨rest, h⟩ := h
  refine ⟨rest, ?_⟩
  have := h.set k v
  rwa [List.set_append_left _ _ hk] at this
theorem RowS.oth {w : World} {B T b o : Nat} {vs : List Value} {v : Value} (h : RowS w B T vs) (ha : b ≠ B) : RowS (w.setCell ⟨b, o, none⟩ v) B T vs := h.elim fun r h => ⟨r, h.oth ha⟩
theorem RowS.gr {w w' : World} {B T : Nat} {vs : List Value} (h : RowS w B T vs) (hg : Gr w w') : RowS w' B T vs := h.elim fun r h => ⟨r, h.gr hg⟩
theorem RowS.alloc {w : World} {B T : Nat} {vs : List Value} (o : Obj) (h : RowS w B T vs) : RowS (w.alloc o) B T vs := h.gr ((Gr.refl w).alloc o)
theorem RowS.xt {w : World} {B T : Nat} {vs : List Value} (O : Array Obj) (d : Nat) (h : RowS w B T vs) : RowS (xt w O d) B T vs := h.gr ((Gr.refl w).xt O d)
theorem RowS.drew {w : World} {B T : Nat} {vs : List Value} (h : RowS w B T vs) : RowS w.drew B T vs := h.gr (Gr.refl w).drew
theorem RowS.bat {w : World} {B T : Nat} {vs : List Bool} (h : RowS w B T (bools vs)) (k : Nat) (hk : k < vs.length) : w.cell? ⟨B, k, none⟩ = some (.bool vs[k]) := by
  rw [h.cell k (by simpa [bools] using hk)]; simp [bools]
theorem RowS.iat {w : World} {B T : Nat} {vs : List Int} (h : RowS w B T (nums vs)) (k : Nat) (hk : k < vs.length) : w.cell? ⟨B, k, none⟩ = some (.int .i64 vs[k]) := by
  rw [h.cell k (by simpa [nums] using hk)]; simp [nums]
theorem RowS.bset {w : World} {B T : Nat} {vs : List Bool} (h : RowS w B T (bools vs)) (k : Nat) (hk : k < vs.length) (b : Bool) : RowS (w.setCell ⟨B, k, none⟩ (.bool b)) B T (bools (vs.set k b)) := by
  rw [← bools_set]; exact h.set k (by simpa [bools] using hk) _
theorem RowS.iset {w : World} {B T : Nat} {vs : List Int} (h : RowS w B T (nums vs)) (k : Nat) (hk : k < vs.length) (b : Int) : RowS (w.setCell ⟨B, k, none⟩ (.int .i64 b)) B T (nums (vs.set k b)) := by
  rw [← nums_set]; exact h.set k (by simpa [nums] using hk) _
theorem RowS.slB {w : World} {B T : Nat} {vs : List Bool} (h : RowS w B T (bools vs)) : SlOf 1 RB w (some ⟨B, 0, none⟩) vs := fun k hk => ⟨B, 0, rfl, by rw [Nat.mul_one, Nat.zero_add]; exact h.bat k hk⟩
theorem RowS.slI {w : World} {B T : Nat} {vs : List Int} (h : RowS w B T (nums vs)) (hw : ∀ k (hk : k < vs.length), Wide vs[k]) : SlOf 1 RI w (some ⟨B, 0, none⟩) vs := fun k hk => ⟨B, 0, rfl, by rw [Nat.mul_one, Nat.zero_add]; exact ⟨h.iat k hk, hw k hk⟩⟩
theorem RowS.apart {w : World} {B C T U : Nat} {vs us : List Value} (h : RowS w B T vs) (k : RowS w C U us) (hT : T ≠ U) : B ≠ C := by
  rintro rfl
  obtain ⟨r, h⟩ := h
  obtain ⟨s, k⟩ := k
  unfold Row at h k
  rw [h] at k
  injection k with k
  injection k with _ k
  exact hT k
theorem bools_one (vs : List Bool) : ∀ u ∈ bools vs, u.oneCell' = true := by
  intro u hu
  obtain ⟨x, _, rfl⟩ := List.mem_map.1 hu
  rfl
theorem nums_one (vs : List Int) : ∀ u ∈ nums vs, u.oneCell' = true := by
  intro u hu
  obtain ⟨x, _, rfl⟩ := List.mem_map.1 hu
  rfl
def Own1 (base : Nat) (w : World) (T : Nat) (vs : List Value) (a : Option Addr) : Prop := vs = [] ∨ ∃ B, a = some ⟨B, 0, none⟩ ∧ base ≤ B ∧ RowS w B T vs
theorem Own1.gr {base : Nat} {w w' : World} {T : Nat} {vs : List Value} {a : Option Addr} (h : Own1 base w T vs a) (hg : Gr w w') : Own1 base w' T vs a := by
  rcases h with h | ⟨B, e, hb, h⟩
  · exact .inl h
  · exact .inr ⟨B, e, hb, h.gr hg⟩
theorem Own1.low {base base' : Nat} {w : World} {T : Nat} {vs : List Value} {a : Option Addr} (h : Own1 base w T vs a) (hb : base' ≤ base) : Own1 base' w T vs a := by
  rcases h with h | ⟨B, e, hB, h⟩
  · exact .inl h
  · exact .inr ⟨B, e, by omega, h⟩
theorem Own1.slB {base : Nat} {w : World} {T : Nat} {vs : List Bool} {a : Option Addr} (h : Own1 base w T (bools vs) a) : SlOf 1 RB w a vs := by
  rcases h with h | ⟨B, rfl, hb, h⟩
  · have : vs = [] := by simpa [bools] using h
    subst this; exact SlOf.nil _ _ _ _
  · exact h.slB
theorem Own1.slI {base : Nat} {w : World} {T : Nat} {vs : List Int} {a : Option Addr} (h : Own1 base w T (nums vs) a) (hw : ∀ k (hk : k < vs.length), Wide vs[k]) : SlOf 1 RI w a vs := by
  rcases h with h | ⟨B, rfl, hb, h⟩
  · have : vs = [] := by simpa [nums] using h
    subst this; exact SlOf.nil _ _ _ _
  · exact h.slI hw
theorem Gr.grown {w W w' : World} {row : Option Nat} (h : Gr w W) (hg : W.grownBy w' row) (hrow : ∀ k, row = some k → w.heap.size ≤ k) : Gr w w' := by
  have hb := h.below
  refine .of_below ⟨hg.os.trans hb.os, hg.tape.trans hb.tape, hg.output.trans hb.output, Nat.le_trans hb.size hg.size, fun k hk => ?_⟩
  rw [hg.block k (Nat.lt_of_lt_of_le hk hb.size) (fun e => by have := hrow k e.symm; omega)]
  exact hb.block k hk
theorem owns_own1 {w : World} {base e n : Nat} {v : Value} {xs : List Value} (h : w.ownsRow base e 1 v n xs) : ∃ a c, v = .slice a n c ∧ n ≤ c ∧ Own1 base w e xs a := by
  obtain ⟨h0, ⟨rfl, rfl⟩ | ⟨g, cap, cur, rfl, hb, hg, hn, _, hs, ht⟩⟩ := h
  · exact ⟨none, 0, rfl, Nat.le_refl _, .inl (List.eq_nil_of_length_eq_zero (by simpa using h0))⟩
  · refine ⟨_, cap, rfl, hn, .inr ⟨g, rfl, hb, cur.toList.drop (n * 1), ?_⟩⟩
    rw [← ht, List.take_append_drop]
    exact hg
theorem slB_cells {w : World} {b o : Nat} {s : Option Nat} {vs : List Bool} (h : SlOf 1 RB w (some ⟨b, o, s⟩) vs) : ∀ j u, (bools vs)[j]? = some u → w.cell? ((⟨b, o, s⟩ : Addr).add j) = some u := by
  intro j u hu
  obtain ⟨hj, hu⟩ := List.getElem?_eq_some_iff.1 hu
  have hj' : j < vs.length := by simpa [bools] using hj
  obtain ⟨b', o', e, q⟩ := h.one j hj'
  cases e
  have : (⟨b, o, none⟩ : Addr).add j = ⟨b, o + j, none⟩ := by unfold Addr.add; split <;> simp_all
  rw [this, q, ← hu]; simp [bools]
theorem slI_cells {w : World} {b o : Nat} {s : Option Nat} {vs : List Int} (h : SlOf 1 RI w (some ⟨b, o, s⟩) vs) : ∀ j u, (nums vs)[j]? = some u → w.cell? ((⟨b, o, s⟩ : Addr).add j) = some u := by
  intro j u hu
  obtain ⟨hj, hu⟩ := List.getElem?_eq_some_iff.1 hu
  have hj' : j < vs.length := by simpa [nums] using hj
  obtain ⟨b', o', e, q⟩ := h.one j hj'
  cases e
  have : (⟨b, o, none⟩ : Addr).add j = ⟨b, o + j, none⟩ := by unfold Addr.add; split <;> simp_all
  rw [this, q.1, ← hu]; simp [nums]
theorem sl_none {α : Type} {n : Nat} {R : World → Nat → Nat → α → Prop} {w : World} {xs : List α} (h : SlOf n R w none xs) : xs = [] := by
  rcases Nat.eq_zero_or_pos xs.length with e | e
  · exact List.eq_nil_of_length_eq_zero e
  · obtain ⟨b, o, e, _⟩ := h 0 e; cases e
def GivesOwn (w : World) (T : Nat) (vs : List Value) (e : Ending) (w' : World) : Prop :=
  ∃ a c, e = .returned (.slice a vs.length c) ∧ vs.length ≤ c ∧ Own1 w.heap.size w' T vs a ∧ Gr w w'
theorem getD_set {α : Type} (vs : List α) (k j : Nat) (x z : α) (hk : k < vs.length) : (vs.set k x).getD j z = if j = k then x else vs.getD j z := by
  by_cases e : j = k
  · subst e; simp [List.getD_eq_getElem?_getD, hk]
  · rw [if_neg e, List.getD_eq_getElem?_getD, List.getElem?_set_ne (Ne.symm e), ← List.getD_eq_getElem?_getD]
theorem set_same {α : Type} (vs : List α) (k : Nat) (hk : k < vs.length) (x : α) (h : vs[k] = x) : vs.set k x = vs := by rw [← h]; simp
theorem Own1.oth {base b o : Nat} {w : World} {T : Nat} {vs : List Value} {a : Option Addr} {v : Value} (h : Own1 base w T vs a) (hb : b < base) : Own1 base (w.setCell ⟨b, o, none⟩ v) T vs a := by
  rcases h with h | ⟨B, e, hB, h⟩
  · exact .inl h
  · exact .inr ⟨B, e, hB, h.oth (by omega)⟩
theorem Own1.at {base : Nat} {w : World} {T : Nat} {vs : List Value} {a : Option Addr} (h : Own1 base w T vs a) (hv : 0 < vs.length) : ∃ B, a = some ⟨B, 0, none⟩ ∧ base ≤ B ∧ RowS w B T vs := by
  rcases h with h | h
  · rw [h] at hv; cases hv
  · exact h
theorem Own1.row {base B : Nat} {w : World} {T : Nat} {vs : List Value} (hB : base ≤ B) (h : RowS w B T vs) : Own1 base w T vs (some ⟨B, 0, none⟩) := .inr ⟨B, rfl, hB, h⟩
theorem grownBy_set (w : World) (B o : Nat) (v : Value) : w.grownBy (w.setCell ⟨B, o, none⟩ v) (some B) :=
  ⟨rfl, rfl, rfl, by simp [World.setCell], fun k _ hk => by simp only [World.setCell]; rw [Array.getElem?_modify, if_neg (fun e => hk (by rw [e]))]⟩
theorem RowS.grown {w w' : World} {row : Option Nat} {B T : Nat} {vs : List Value} (h : RowS w B T vs) (hg : w.grownBy w' row) (hne : some B ≠ row) : RowS w' B T vs :=
  h.elim fun r h => ⟨r, (hg.block B h.has hne).trans h⟩
theorem Row.grown {w w' : World} {row : Option Nat} {B T : Nat} {vs : List Value} (h : Row w B T vs) (hg : w.grownBy w' row) (hne : some B ≠ row) : Row w' B T vs := (hg.block B h.has hne).trans h
theorem owns_apart {w : World} {base e size n : Nat} {v : Value} {xs : List Value} (ho : w.ownsRow base e size v n xs) {B T : Nat} {vs : List Value} (h : RowS w B T vs) (hT : T ≠ e) : some B ≠ v.ownBlock := by
  intro q
  obtain ⟨_, ⟨rfl, _⟩ | ⟨g, cap, cur, rfl, _, hg, _⟩⟩ := ho
  · cases q
  · injection q with q
    obtain ⟨r, h⟩ := h
    unfold Row at h
    rw [q] at h
    simp only at h
    rw [h] at hg
    injection hg with hg
    injection hg with _ hg
    exact hT hg
theorem owns_set {w : World} {base e size n : Nat} {v : Value} {xs : List Value} (ho : w.ownsRow base e size v n xs) {B T o : Nat} {vs : List Value} {x : Value} (h : RowS w B T vs) (hT : T ≠ e) : (w.setCell ⟨B, o, none⟩ x).ownsRow base e size v n xs :=
  ho.kept (grownBy_set w B o x) (.inr (Ne.symm (owns_apart ho h hT)))
theorem flat_at {α : Type} (f : α → List Value) (n : Nat) (hf : ∀ x, (f x).length = n) (ts : List α) (k j : Nat) (hk : k < ts.length) (hj : j < n) : (ts.flatMap f)[k * n + j]? = (f ts[k])[j]? := by
  induction ts generalizing k with
  | nil => simp at hk
  | cons x ts ih =>
    rw [List.flatMap_cons]
    cases k with
    | zero => rw [List.getElem?_append_left (by rw [hf]; omega)]; simp
    | succ k =>
      rw [List.getElem?_append_right (by rw [hf, Nat.add_mul]; omega), hf, show (k + 1) * n + j - n = k * n + j by rw [Nat.add_mul]; omega, ih k (by simpa using hk)]
      simp
theorem flat_len {α : Type} (f : α → List Value) (n : Nat) (hf : ∀ x, (f x).length = n) (ts : List α) : (ts.flatMap f).length = ts.length * n := by
  induction ts with
  | nil => simp
  | cons x ts ih => rw [List.flatMap_cons, List.length_append, hf, ih, List.length_cons, Nat.add_mul]; omega
theorem owns_cell {w : World} {base e size n : Nat} {v : Value} {xs : List Value} (h : w.ownsRow base e size v n xs) (hn : 0 < n) : ∃ g cap, v = .slice (some ⟨g, 0, none⟩) n cap ∧ n ≤ cap ∧ base ≤ g ∧ ∀ j, j < n * size → w.cell? ⟨g, j, none⟩ = xs[j]? := by
  obtain ⟨h0, ⟨rfl, h1⟩ | ⟨g, cap, cur, rfl, hb, hg, hn', _, hs, ht⟩⟩ := h
  · omega
  · refine ⟨g, cap, rfl, hn', hb, fun j hj => ?_⟩
    rw [← ht, List.getElem?_take, if_pos hj]
    simp [World.cell?, hg]
theorem Own1.grown {base : Nat} {w w1 : World} {row : Option Nat} {T : Nat} {vs : List Value} {a : Option Addr} (h : Own1 base w T vs a) (hg : w.grownBy w1 row) (hne : ∀ B, RowS w B T vs → some B ≠ row) : Own1 base w1 T vs a := by
  rcases h with h | ⟨B, e, hB, h⟩
  · exact .inl h
  · exact .inr ⟨B, e, hB, h.grown hg (hne B h)⟩
theorem owns_slice {w : World} {base e size n : Nat} {v : Value} {xs : List Value} (h : w.ownsRow base e size v n xs) : ∃ a c, v = .slice a n c := by
  rcases h.2 with ⟨rfl, rfl⟩ | ⟨g, cap, cur, rfl, _⟩
  · exact ⟨none, 0, rfl⟩
  · exact ⟨_, cap, rfl⟩
theorem new_cell (w : World) (arr : Array Value) (T j : Nat) (hj : j < arr.toList.length) : (w.alloc (.cells arr T)).cell? ⟨w.heap.size, j, none⟩ = some arr.toList[j] := (Row.new w arr T).cell j hj
theorem Gr.owns {w w1 : World} {base e size n : Nat} {v : Value} {xs : List Value} (r : w.ownsRow base e size v n xs) (hg : Gr w w1) : w1.ownsRow base e size v n xs := by
  refine ⟨r.1, ?_⟩
  rcases r.2 with r | ⟨g, cap, cur, e, h1, h2, h3⟩
  · exact .inl r
  · exact .inr ⟨g, cap, cur, e, h1, (hg.below.block g (Array.getElem?_eq_some_iff.1 h2).1).trans h2, h3⟩
theorem run_append_fresh {P : Program} (w : World) (t ty e : TypeId) (i : TypeInfo) (z : Value) (bytes : Nat) (ht : P.underlying t = some (.slice e)) (hi : P.info? e = some i) (hz : i.zero = some z) (hs : i.size = 1) (hb : i.bytes = bytes)
    (b ad : Addr) (m c : Nat) (news : List Value) (hl : news.length = m) (hnews : ∀ j u, news[j]? = some u → w.cell? (ad.add j) = some u) (hm : 0 < m) (h63 : m ≤ 1000000) (hbytes : bytes ≤ 8) :
    ∃ cap Z, m ≤ cap ∧ (Builtin.append_ #[t, t] ty #[.slice (some b) 0 0, .slice (some ad) m c]).run P w = .ok (.slice (some ⟨w.heap.size, 0, none⟩) m cap) (w.drew.alloc (.cells (news.toArray ++ Z) e)) := by
  subst hb
  have := run_append_grow (P := P) w t ty e i z ht hi hz b 0 0 [] (by simp) (fun j v h => by simp at h) ad m c news (by rw [hs]; omega) hnews (by omega) (by omega) (growslice_fits (by omega) (by rw [Nat.zero_add]; exact Nat.le_trans (Nat.mul_le_mul h63 hbytes) (by decide)))
  simp only [Nat.zero_add, Array.empty_append] at this
  exact ⟨_, _, by have := grownCap_ge w m 0 e; exact this, this⟩
theorem step_append_fresh {P : Program} (w : World) {ops : Array Oper} {o : Oper} {a : Act} {K : Act → World → Prop} {Q : Exit → Act → World → Prop} {E : Prop} (hgd : o.guard = none) (s x : Operand) (t : TypeId)
    (ho : o.op = .call { callee := .builtin .append, args := #[s, x], argTypes := #[t, t] }) (e : TypeId) (i : TypeInfo) (z : Value) (bytes : Nat) (ht : P.underlying t = some (.slice e)) (hi : P.info? e = some i) (hz : i.zero = some z) (hs : i.size = 1) (hb : i.bytes = bytes)
    (b ad : Addr) (m c : Nat) (news : List Value) (hv : a.eval s = .slice (some b) 0 0) (hx : a.eval x = .slice (some ad) m c) (hl : news.length = m) (hnews : ∀ j u, news[j]? = some u → w.cell? (ad.add j) = some u) (hm : 0 < m) (h63 : m ≤ 1000000) (hbytes : bytes ≤ 8) (H : Nat) (hH : w.heap.size = H)
    (h : ∀ cap Z, m ≤ cap → K (a.put o.dst (.slice (some ⟨H, 0, none⟩) m cap)) (w.drew.alloc (.cells (news.toArray ++ Z) e))) :
    if Region.wanted o (yielded ops a.tmps) = true then Oper.wp P o a w K Q else E := by
  subst hH
  have hw : Region.wanted o (yielded ops a.tmps) = true := by simp [Region.wanted, hgd]
  rw [if_pos hw]
  obtain ⟨cap, Z, hc, hr⟩ := run_append_fresh (P := P) w t o.type e i z bytes ht hi hz hs hb b ad m c news hl hnews hm h63 hbytes
  unfold Oper.wp execOp
  simp only [ho, resolve, invoke, builtin, Sem.run_bind, Sem.run_pure, Result.andThen_ok, List.map_toArray, List.map_cons, List.map_nil, hv, hx, hr]
  exact h cap Z hc
theorem row_fresh (w : World) (vs : List Value) (Z : Array Value) (T : Nat) : RowS (w.alloc (.cells (vs.toArray ++ Z) T)) w.heap.size T vs := ⟨Z.toList, by have := Row.new w (vs.toArray ++ Z) T; simpa using this⟩
theorem row_fresh' (w : World) (vs : List Value) (Z : Array Value) (T B : Nat) (hB : B = w.heap.size) : RowS (w.alloc (.cells (vs.toArray ++ Z) T)) B T vs := by subst hB; exact row_fresh w vs Z T
theorem RowS.drewN {w : World} {B T : Nat} {vs : List Value} (n : Nat) (h : RowS w B T vs) : RowS (w.drewN n) B T vs := h.gr ((Gr.refl w).drewN n)
theorem SlOf.keepB {w : World} {ao : Option Addr} {xs : List Bool} {a : Addr} {v v' : Value} (h : SlOf 1 RB w ao xs) (c : w.cell? a = some v) (hv : ∀ x, v ≠ .bool x) : SlOf 1 RB (w.setCell a v') ao xs := fun k hk => by
  obtain ⟨b, o, rfl, q⟩ := h k hk
  refine ⟨b, o, rfl, ?_⟩
  unfold RB at q ⊢
  rw [World.cell?_setCell_other, q]
  intro e
  rw [e, q] at c
  cases c
  exact hv _ rfl
theorem SlOf.keepI {w : World} {ao : Option Addr} {xs : List Int} {a : Addr} {v v' : Value} (h : SlOf 1 RI w ao xs) (c : w.cell? a = some v) (hv : ∀ k x, v ≠ .int k x) : SlOf 1 RI (w.setCell a v') ao xs := fun k hk => by
  obtain ⟨b, o, rfl, q⟩ := h k hk
  refine ⟨b, o, rfl, ?_, q.2⟩
  rw [World.cell?_setCell_other, q.1]
  intro e
  rw [e, q.1] at c
  cases c
  exact hv _ _ rfl
theorem setCell_id {w : World} {a : Addr} {v : Value} (h : w.cell? a = some v) : w.setCell a v = w := by
  unfold World.setCell
  unfold World.cell? at h
  cases w with
  | mk heap tape drawn os output =>
  simp only [World.mk.injEq, and_true] at *
  apply Array.ext_getElem?
  intro i
  rw [Array.getElem?_modify]
  split
  · rename_i e
    subst e
    cases hb : heap[a.block]? with
    | none => simp
    | some o =>
      simp only [hb] at h
      cases o with
      | cells c t f =>
        simp only at h
        split at h
        · cases h
        · rename_i hs
          simp only [Option.map_some, Option.some.injEq, hs]
          congr 1
          apply Array.ext_getElem?
          intro j
          simp only [Bool.false_eq_true, if_false]
          rw [Array.getElem?_setIfInBounds]
          split
          · rename_i e; subst e; split
            · exact h.symm
            · rename_i hn; rw [Array.getElem?_eq_none (by omega)] at h; cases h
          · rfl
      | _ => cases h
  · rfl
@[simp, go_sem] theorem setCell_setCell (w : World) (a : Addr) (u v : Value) : (w.setCell a u).setCell a v = w.setCell a v := by
  unfold World.setCell
  congr 1
  apply Array.ext_getElem?
  intro i
  simp only [Array.getElem?_modify]
  split
  · cases w.heap[i]? with
    | none => rfl
    | some o =>
      cases o with
      | cells c t f =>
        simp only [Option.map_some, Option.some.injEq]
        congr 1
        split
        · rfl
        · apply Array.ext_getElem?
          intro j
          simp only [Array.getElem?_setIfInBounds, Array.size_setIfInBounds]
          split <;> rfl
      | _ => rfl
  · rfl
theorem size_set (w : World) (a : Addr) (v : Value) : (w.setCell a v).heap.size = w.heap.size := by simp [World.setCell]
end Go.Proofs.Ythpgoldahffbcaa
