/- bringuprails.Supplies. -/
import Derived.Test.YtoenkcojfogmmaaMk
set_option linter.unusedVariables false
set_option linter.unusedSimpArgs false
namespace Go.Proofs.Ytoenkcojfogmmaa
open Go.RowKit
open Classical

theorem infoSup : (Try.prog.info? 70).map (fun i => (i.zero, i.size, i.bytes)) = some (some (.agg #[.int .i64 0, .slice none 0 0, .int .i64 0, .int .i64 0, .bool false]), 5, 56) := by kernel_rfl
theorem flat_at {α : Type} (f : α → List Value) (n : Nat) (hf : ∀ x, (f x).length = n) (ts : List α) (k j : Nat) (hk : k < ts.length) (hj : j < n) : (ts.flatMap f)[k * n + j]? = (f ts[k])[j]? := by
  induction ts generalizing k with
  | nil => simp at hk
  | cons x ts ih =>
    rw [List.flatMap_cons]
    cases k with
    | zero => rw [List.getElem?_append_left (by rw [hf]; omega)]; simp
    | succ k =>
      rw [List.getElem?_append_right (by rw [hf, Nat.add_mul]; omega), hf, show (k + 1) * n + j - n = k * n + j by rw [Nat.add_mul]; omega, ih k (by simpa using hk)]
      simp
theorem flat_len {α : Type} (f : α → List Value) (n : Nat) (hf : ∀ x, (f x).length = n) (ts : List α) : (ts.flatMap f).length = ts.length * n := by
  induction ts with
  | nil => simp
  | cons x ts ih => rw [List.flatMap_cons, List.length_append, hf, ih, List.length_cons, Nat.add_mul]; omega
/-- The cells of an owned row. -/
theorem owns_cell {w : World} {base e size n : Nat} {v : Value} {xs : List Value} (h : w.ownsRow base e size v n xs) (hn : 0 < n) : ∃ g cap, v = .slice (some ⟨g, 0, none⟩) n cap ∧ n ≤ cap ∧ base ≤ g ∧ ∀ j, j < n * size → w.cell? ⟨g, j, none⟩ = xs[j]? := by
  obtain ⟨h0, ⟨rfl, h1⟩ | ⟨g, cap, cur, rfl, hb, hg, hn', _, hs, ht⟩⟩ := h
  · omega
  · refine ⟨g, cap, rfl, hn', hb, fun j hj => ?_⟩
    rw [← ht, List.getElem?_take, if_pos hj]
    simp [World.cell?, hg]
theorem Mv.grown {w W w1 : World} {b len : Nat} {row : Option Nat} (h : Mv b len w W) (hg : W.grownBy w1 row) (hrow : ∀ k, row = some k → w.heap.size ≤ k) : Mv b len w w1 := by
  obtain ⟨p, h0, h1, g⟩ := h
  exact ⟨p, h0, h1, g.grown hg (fun k e => by rw [size_set]; exact hrow k e)⟩
theorem Own1.grown {base : Nat} {w w1 : World} {row : Option Nat} {T : Nat} {vs : List Value} {a : Option Addr} (h : Own1 base w T vs a) (hg : w.grownBy w1 row) (hne : ∀ B, RowS w B T vs → some B ≠ row) : Own1 base w1 T vs a := by
  rcases h with h | ⟨B, e, hB, h⟩
  · exact .inl h
  · exact .inr ⟨B, e, hB, h.grown hg (hne B h)⟩
abbrev ST := Sup × Option Addr × Nat
def encT (t : ST) : List Value := [.int .i64 t.1.parent, .slice t.2.1 t.1.levels.length t.2.2, .int .i64 t.1.dropout, .int .i64 t.1.capacity, .bool t.1.always]
theorem encT_len (t : ST) : (encT t).length = 5 := rfl
theorem encT_one (t : ST) : ∀ u ∈ encT t, u.oneCell' = true := by
  intro u hu
  simp only [encT, List.mem_cons, List.not_mem_nil, or_false] at hu
  rcases hu with rfl | rfl | rfl | rfl | rfl <;> rfl
def sups (ts : List ST) : List Sup := ts.map fun t => t.1
/-- Every supply has levels in a row of its own. -/
def LvRows (base : Nat) (w : World) (ts : List ST) : Prop := ∀ t ∈ ts, Own1 base w 3 (nums t.1.levels) t.2.1 ∧ t.1.levels.length ≤ t.2.2
theorem small_sups {ts : List ST} (h : AllOk (sups ts)) (hl : ∀ t ∈ ts, t.1.levels.length ≤ 16) (hn : ts.length ≤ 16) : chk (sups ts) = 0 := by
  refine chk_ok ?_ h
  rintro (q | ⟨k, hk, q⟩)
  · simp [sups] at q; omega
  · have hk' : k < ts.length := by simpa [sups] using hk
    have := hl ts[k] (List.getElem_mem hk')
    simp [sups] at q
    omega
theorem allOk_snoc {ts : List ST} {t : ST} (h : AllOk (sups ts)) (ht : SupOk t.1 ts.length) : AllOk (sups (ts ++ [t])) := by
  intro k hk
  have hk' : k < ts.length + 1 := by simpa [sups] using hk
  by_cases e : k < ts.length
  · obtain ⟨q, h'⟩ := h k (by simpa [sups] using e)
    refine ⟨hk, ?_⟩
    have : (sups (ts ++ [t]))[k] = (sups ts)[k] := by simp [sups, List.getElem_append, e]
    rw [this]; exact h'
  · have e : k = ts.length := by omega
    subst e
    refine ⟨hk, ?_⟩
    have : (sups (ts ++ [t]))[ts.length] = t.1 := by simp [sups]
    rw [this]; exact ht
theorem allOk_lv {l : List Sup} (h : AllOk l) (k : Nat) (hk : k < l.length) (j : Nat) (hj : j < l[k].levels.length) : 1 ≤ l[k].levels[j] ∧ l[k].levels[j] ≤ 5000 := by
  obtain ⟨q, h'⟩ := h k hk
  obtain ⟨q', h1, h2, _⟩ := h'.2 j hj
  exact ⟨h1, h2⟩
/-- Supplies in a row of their own, each with its levels. -/
theorem sups_at {base : Nat} {w : World} {v : Value} {ts : List ST} (h : w.ownsRow base 70 5 v ts.length (ts.flatMap encT)) (hr : LvRows base w ts) (hok : AllOk (sups ts)) (hl : ∀ t ∈ ts, t.1.levels.length ≤ 16) (hn : 0 < ts.length) (hn1 : ts.length ≤ 16) :
    ∃ a c, v = .slice a ts.length c ∧ ts.length ≤ c ∧ SlOf 5 RSup w a (sups ts) := by
  obtain ⟨g, cap, rfl, hc, hb, hcell⟩ := owns_cell h hn
  refine ⟨_, cap, rfl, hc, fun k hk => ⟨g, 0, rfl, ?_⟩⟩
  have hk' : k < ts.length := by simpa [sups] using hk
  have key : ∀ j, (hj : j < 5) → w.cell? ⟨g, 0 + k * 5 + j, none⟩ = (encT ts[k])[j]? := fun j hj => by
    rw [← flat_at encT 5 encT_len ts k j hk' hj, Nat.zero_add]
    exact hcell _ (by omega)
  have hs : (sups ts)[k] = ts[k].1 := by simp [sups]
  obtain ⟨q, hso⟩ := hok k hk
  obtain ⟨r1, r2⟩ := hr ts[k] (List.getElem_mem hk')
  have hll := hl ts[k] (List.getElem_mem hk')
  rw [hs]
  rw [hs] at hso
  have hd := hso.1
  unfold HeadOk at hd
  refine ⟨⟨key 0 (by omega), by unfold Wide; omega⟩, ⟨ts[k].2.1, ts[k].2.2, key 1 (by omega), r2, by unfold Fit; omega, ?_⟩, ⟨key 2 (by omega), by unfold Wide; omega⟩, ⟨key 3 (by omega), by unfold Wide; omega⟩, key 4 (by omega)⟩
  refine r1.slI fun j hj => ?_
  have := allOk_lv hok k hk j (by rw [hs]; exact hj)
  simp only [hs] at this
  unfold Wide; omega

/-- The levels so far; the next one is x. -/
def LvInv (lv : List Int) (x : Int) : Prop := (∀ j, j < lv.length → LvOk lv j) ∧ (∀ y ∈ lv, y < x) ∧ 600 ≤ x ∧ x ≤ 5700
theorem LvInv.snoc {lv : List Int} {x : Int} (h : LvInv lv x) (hx : x ≤ 5000) (dx : Int) (h1 : 50 ≤ dx) (h2 : dx ≤ 700) : LvInv (lv ++ [x]) (x + dx) := by
  obtain ⟨h3, h4, h5, h6⟩ := h
  refine ⟨fun j hj => ?_, fun y hy => ?_, by omega, by omega⟩
  · have hj' : j < lv.length + 1 := by simpa using hj
    by_cases e : j < lv.length
    · obtain ⟨q, q1, q2, q3⟩ := h3 j e
      refine ⟨hj, by rw [List.getElem_append_left e]; exact q1, by rw [List.getElem_append_left e]; exact q2, fun h0 => ?_⟩
      rw [List.getElem_append_left (by omega), List.getElem_append_left e]
      exact q3 h0
    · have e : j = lv.length := by omega
      subst e
      refine ⟨hj, by simp; omega, by simp; omega, fun h0 => ?_⟩
      rw [List.getElem_append_left (by omega)]
      simp only [List.getElem_append_right (Nat.le_refl _), Nat.sub_self, List.getElem_cons_zero]
      exact h4 _ (List.getElem_mem _)
  · rcases List.mem_append.1 hy with q | q
    · have := h4 y q; omega
    · rw [List.mem_singleton.1 q]; omega
def MakesSups (w : World) (b len n : Nat) (e : Ending) (w' : World) : Prop :=
  ∃ l ao cap, e = .returned (.slice ao l.length cap) ∧ chk l = 0 ∧ 1 ≤ l.length ∧ l.length ≤ n ∧ l.length ≤ cap ∧ Hold b w' (fun W => SlOf 5 RSup W ao l) ∧ Mv b len w w'
theorem owns_slice {w : World} {base e size n : Nat} {v : Value} {xs : List Value} (h : w.ownsRow base e size v n xs) : ∃ a c, v = .slice a n c := by
  rcases h.2 with ⟨rfl, rfl⟩ | ⟨g, cap, cur, rfl, _⟩
  · exact ⟨none, 0, rfl⟩
  · exact ⟨_, cap, rfl⟩
theorem lvRows_mv {b len base : Nat} {w w1 : World} {ts : List ST} (h : LvRows base w ts) (m : Mv b len w w1) (hb : b < base) : LvRows base w1 ts := fun t ht => ⟨m.own1 (h t ht).1 hb, (h t ht).2⟩
/-- The cells of a new row. -/
theorem new_cell (w : World) (arr : Array Value) (T j : Nat) (hj : j < arr.toList.length) : (w.alloc (.cells arr T)).cell? ⟨w.heap.size, j, none⟩ = some arr.toList[j] := (Row.new w arr T).cell j hj

theorem pickNew_any (w : World) (b len : Nat) (h : Tp w b len) (eb : Nat) (heb : eb = w.heap.size) (arr : Array Value) (n : Nat) (xs : List Int) (S : Int → Prop) (ha : arr.toList = nums xs) (hn : xs.length = n) (hn1 : 1 ≤ n) (hn2 : n ≤ 1000) (hS : ∀ x ∈ xs, S x) :
    Calls Try.prog 33 #[.pointer (some ⟨b, 0, none⟩), .slice (some ⟨eb, 0, none⟩) n n] (w.alloc (.cells arr 3)) (ReadsM b len w S) := by
  subst heb
  refine (pickM_any (w.alloc (.cells arr 3)) b len (h.gr ((Gr.refl _).alloc _)) w.heap.size n S hn1 hn2 (by have := h.has; omega) (fun k hk => ?_)).mono ?_
  · have q := Row.new w arr 3
    rw [ha] at q
    exact ⟨_, q.iat k (by omega), hS _ (List.getElem_mem _)⟩
  · rintro e w' ⟨x, rfl, hs, hm⟩
    exact ⟨x, rfl, hs, (Mv.of_gr h ((Gr.refl _).alloc _)).trans h.has hm⟩
theorem cell_five (w : World) (x0 x1 x2 x3 x4 : Value) (t : TypeId) : ∀ j u, [x0, x1, x2, x3, x4][j]? = some u → (w.alloc (.cells #[x0, x1, x2, x3, x4] t)).cell? ((⟨w.heap.size, 0, none⟩ : Addr).add j) = some u := by
  intro j u hu
  obtain ⟨hj, hu⟩ := List.getElem?_eq_some_iff.1 hu
  have : (⟨w.heap.size, 0, none⟩ : Addr).add j = ⟨w.heap.size, j, none⟩ := by unfold Addr.add; split <;> simp_all
  rw [this, (Row.new w #[x0, x1, x2, x3, x4] t).cell j hj, ← hu]

set_option maxRecDepth 100000 in
set_option maxHeartbeats 4000000 in
theorem supplies_any (w : World) (b len n : Nat) (ht : Tp w b len) (hn : 1 ≤ n) (hn1 : n ≤ 16) :
    Calls Try.prog 9 #[.pointer (some ⟨b, 0, none⟩), .int .i64 n] w (MakesSups w b len n) := by
  have TT := Lib.hid ht
  have hb := ht.has
  have HB := Lib.hid hb
  clear ht hb
  obtain ⟨i0, hi, hz0, hz1, hz2⟩ := info_parts infoInt
  obtain ⟨j0, hj, hy0, hy1, hy2⟩ := info_parts infoSup
  go_enter Try.func9, Try.ntmps9
  go_wp2_with fail
  refine (rangeM_any _ b len _ _ TT.out (by omega) (by omega) (by omega)).mono ?_
  rintro e w1 ⟨x, rfl, ⟨hx1, hx2⟩, hm⟩
  obtain ⟨m, rfl⟩ := Int.eq_ofNat_of_zero_le (show 0 ≤ x by omega)
  have M1 := Lib.hid hm
  clear hm
  go_wp2_with fail
  go_loopw [5, 6] (fun s5 s6 wr => ∃ (ts : List ST) (m : Nat), s6 = .int .i64 m ∧ Mv b len w wr ∧ wr.ownsRow w.heap.size 70 5 s5 ts.length (ts.flatMap encT) ∧ LvRows w.heap.size wr ts ∧ AllOk (sups ts) ∧ (∀ t ∈ ts, t.1.levels.length ≤ 16) ∧ ts.length + m ≤ n ∧ 1 ≤ ts.length + m) (fun _ s6 _ => (intOf s6).toNat)
  case atStart => exact ⟨[], m, rfl, M1.out, World.ownsRow_nil _ _ _ _, fun t h => absurd h List.not_mem_nil, fun k h => absurd h (by simp [sups]), fun t h => absurd h List.not_mem_nil, by simp; omega, by simp; omega⟩
  case round =>
    clear M1
    obtain ⟨ts, m, rfl, hm, ho, hr, hok, hsm, hle, hge⟩ := hrel
    have HM := Lib.hid hm
    have HO := Lib.hid ho
    have HR := Lib.hid hr
    have OK := Lib.hid hok
    have SM := Lib.hid hsm
    obtain ⟨a5, c5, rfl⟩ := owns_slice ho
    clear hm ho hr hok hsm
    by_cases h0 : 0 < m
    · have g0 : (0 : Int) < m := by omega
      go_wp2_with fail
      refine (rangeM_any _ b len _ _ (HM.out.tp TT.out) (by omega) (by omega) (by omega)).mono ?_
      rintro e w2 ⟨par, rfl, ⟨hp1, hp2⟩, hm2⟩
      have M2 := Lib.hid (HM.out.trans HB.out hm2)
      have MW2 := Lib.hid hm2
      clear hm2
      go_wp2_with fail
      refine (pickNew_any w2 b len (M2.out.tp TT.out) _ rfl _ 5 [0, 100, 500, 1000, 10000] (InTo 0 10000) rfl rfl (by omega) (by omega) (by simp [InTo])).mono ?_
      rintro e w3 ⟨cp, rfl, ⟨hcp1, hcp2⟩, hm3⟩
      have M3 := Lib.hid (M2.out.trans HB.out hm3)
      have MW3 := Lib.hid (MW2.out.trans (by have := HM.out.size; have := HB.out; omega) hm3)
      clear hm3
      go_wp2_with fail
      refine (nM_any w3 b len _ (M3.out.tp TT.out) (by omega) (by omega)).mono ?_
      rintro e w4 ⟨al, rfl, ⟨hal1, hal2⟩, hm4⟩
      have M4 := Lib.hid (M3.out.trans HB.out hm4)
      have MW4 := Lib.hid (MW3.out.trans (by have := HM.out.size; have := HB.out; omega) hm4)
      clear hm4 M2 M3 MW2 MW3 hal1 hal2
      obtain ⟨alw, halw⟩ : ∃ alw : Bool, (al == 0) = alw := ⟨_, rfl⟩
      go_wp2_with fail
      try rw [halw]
      clear halw
      refine (pickNew_any (w4.alloc (.cells #[.int .i64 par, .slice none 0 0, .int .i64 0, .int .i64 cp, .bool alw] 70)) b len ((M4.out.tp TT.out).gr ((Gr.refl _).alloc _)) _ (by simp) _ 5 [600, 800, 1100, 1800, 3000] (InTo 600 3000) rfl rfl (by omega) (by omega) (by simp [InTo])).mono ?_
      rintro e w5 ⟨x0, rfl, ⟨hx01, hx02⟩, hm5⟩
      have M5 := Lib.hid ((Mv.of_gr (M4.out.tp TT.out) ((Gr.refl w4).alloc _)).trans (M4.out.tp TT.out).has hm5)
      have R5 := Lib.hid (hm5.row (Row.new w4 _ _) (by have := (M4.out.tp TT.out).has; omega))
      clear hm5
      go_wp2_with fail
      refine (rangeM_any w5 b len _ _ (M5.out.tp (M4.out.tp TT.out)) (by omega) (by omega) (by omega)).mono ?_
      rintro e w6 ⟨k0, rfl, ⟨hk01, hk02⟩, hm6⟩
      have M6 := Lib.hid (M5.out.trans (M4.out.tp TT.out).has hm6)
      have R6 := Lib.hid (hm6.row R5.out (by have := (M4.out.tp TT.out).has; omega))
      clear hm6 M5 R5
      obtain ⟨k1, rfl⟩ := Int.eq_ofNat_of_zero_le (show 0 ≤ k0 by omega)
      obtain ⟨m', rfl⟩ : ∃ m', m = m' + 1 := ⟨m - 1, by omega⟩
      obtain ⟨wa, rfl⟩ : ∃ wa : World, wa = wr := ⟨_, rfl⟩
      go_wp2_with fail
      go_loopw [8, 9] (fun s8 s9 wr => ∃ (lv : List Int) (vL : Value) (x : Int) (k : Nat), s8 = .int .i64 x ∧ s9 = .int .i64 k ∧ Mv b len w4 wr ∧ Row wr w4.heap.size 70 [.int .i64 par, vL, .int .i64 0, .int .i64 cp, .bool alw] ∧ wr.ownsRow w4.heap.size 3 1 vL lv.length (nums lv) ∧ LvInv lv x ∧ lv.length + k ≤ 5 ∧ (lv.length = 0 → 1 ≤ k ∧ x ≤ 5000)) (fun _ s9 _ => (intOf s9).toNat)
      case atStart => exact ⟨[], .slice none 0 0, x0, k1, rfl, rfl, M6.out, R6.out, World.ownsRow_nil _ _ _ _, ⟨fun j h => absurd h (by simp), fun y h => absurd h List.not_mem_nil, by omega, by omega⟩, by simp; omega, fun _ => ⟨by omega, by omega⟩⟩
      case round =>
        clear M6 R6
        obtain ⟨lv, vL, x, k, rfl, rfl, hm, hr, ho, hli, hlk, hne⟩ := hrel
        have MI := Lib.hid hm
        have RI' := Lib.hid hr
        have OI := Lib.hid ho
        have LI := Lib.hid hli
        have lx1 := hli.2.2.1
        have lx2 := hli.2.2.2
        have r1 := hr.cell 1 (by simp)
        have r0 := hr.cell 0 (by simp)
        simp only [List.getElem_cons_zero, List.getElem_cons_succ] at r0 r1
        have r2 := hr.free 1
        have r3 := hr.free 2
        have rh := hr.has
        have bw := (M4.out.tp TT.out).has
        clear hm hr ho hli
        by_cases hc : 0 < k ∧ x ≤ 5000
        · have gk : (0 : Int) < k := by omega
          have gx : x ≤ 5000 := hc.2
          clear hne
          obtain ⟨k', rfl⟩ : ∃ k', k = k' + 1 := ⟨k - 1, by omega⟩
          clear hc
          go_wp2_with (at_builtin; refine wpList_append_own _ rfl _ _ 22 rfl w4.heap.size 3 i0 (.int .i64 0) 1 8 Try.underlying22 hi hz0 hz1 hz2 rfl (by decide) vL lv.length (nums lv) rfl (OI.out.alloc _) ⟨wr.heap.size, 0, none⟩ 1 1 (nums [x]) rfl rfl (cell_one_new _ _ _) (nums_one _) (by unfold maxLen; omega) (by omega) (by have := MI.out.size; simp; omega) ?_; intro v' wy hown' hgrow hnil; have RY := Lib.hid ((RI'.out.alloc _).grown hgrow (owns_apart OI.out RI'.out.s (by decide))); have MY := Lib.hid ((MI.out.alloc _).grown hgrow (fun k e => (OI.out.lt k e).1)); have OY := Lib.hid hown'; obtain ⟨g', cap', rfl⟩ := ownsRow_succ hown'; have y1 := RY.out.cell 1 (by simp); have y2 := RY.out.free 1; have yh := RY.out.has; clear hown' hgrow hnil)
          have RZ := Lib.hid (RY.out.set 1 (.slice (some ⟨g', 0, none⟩) (lv.length + 1) cap'))
          have MZ : Hid (Mv b len w4 (wy.setCell ⟨w4.heap.size, 1, none⟩ (.slice (some ⟨g', 0, none⟩) (lv.length + 1) cap'))) := Lib.hid (MY.out.setc (Nat.le_refl _))
          have OZ := Lib.hid (owns_set (o := 1) (x := .slice (some ⟨g', 0, none⟩) (lv.length + 1) cap') OY.out RY.out.s (by decide))
          refine (pickNew_any (wy.setCell ⟨w4.heap.size, 1, none⟩ (.slice (some ⟨g', 0, none⟩) (lv.length + 1) cap')) b len (MZ.out.tp (M4.out.tp TT.out)) _ (by rw [size_set]) _ 4 [50, 100, 300, 700] (InTo 50 700) rfl rfl (by omega) (by omega) (by simp [InTo])).mono ?_
          rintro e wq ⟨dx, rfl, ⟨hd1, hd2⟩, hmq⟩
          have MQ := Lib.hid (MZ.out.trans bw hmq)
          have RQ := Lib.hid (hmq.row RZ.out (by omega))
          have OQ := Lib.hid (hmq.owns OZ.out bw)
          clear hmq y1 y2 yh
          go_wp2_with fail
          go_roundw
          case rel =>
            refine ⟨lv ++ [x], _, x + dx, k', rfl, by go_num, MQ.out, RQ.out, ?_, LI.out.snoc gx dx hd1 hd2, by simp; omega, fun q => absurd q (by simp)⟩
            have := OQ.out
            rw [List.length_append]
            simpa [nums] using this
          case measure => simp [intOf]
        · have hlv : 1 ≤ lv.length := by
            rcases Nat.eq_zero_or_pos lv.length with q | q
            · have := hne q; exact absurd ⟨by omega, this.2⟩ hc
            · exact q
          have hcb : (decide (0 < (k : Int)) && decide (x ≤ 5000)) = false := by
            rw [Bool.and_eq_false_iff, decide_eq_false_iff_not, decide_eq_false_iff_not]
            by_cases q : 0 < k
            · exact .inr (fun q2 => hc ⟨q, q2⟩)
            · exact .inl (by omega)
          clear hne
          by_cases hp : 0 ≤ par
          · have gp := hp
            rcases Nat.eq_zero_or_pos k with hk0 | hk0
            · subst hk0
              go_wp2_with fail
              refine (pickNew_any wr b len (MI.out.tp (M4.out.tp TT.out)) _ rfl _ 4 [0, 0, 100, 300] (InTo 0 300) rfl rfl (by omega) (by omega) (by simp [InTo])).mono ?_
              rintro e wq ⟨dr, rfl, ⟨hd1, hd2⟩, hmq⟩
              have MQ := Lib.hid (MI.out.trans bw hmq)
              have RQ := Lib.hid (hmq.row RI'.out (by omega))
              have OQ := Lib.hid (hmq.owns OI.out bw)
              have z2 := RQ.out.cell 2 (by simp)
              have z3 := RQ.out.free 2
              have zh := RQ.out.has
              clear hmq r0 r1 r2 r3 rh
              obtain ⟨aL, cL, rfl, hcL, oL⟩ := owns_own1 (owns_set (o := 2) (x := .int .i64 dr) OQ.out RQ.out.s (by decide))
              have OL := Lib.hid oL
              have RX := Lib.hid (show Row (wq.setCell ⟨w4.heap.size, 2, none⟩ (.int .i64 dr)) w4.heap.size 70 [.int .i64 par, .slice aL lv.length cL, .int .i64 dr, .int .i64 cp, .bool alw] from RQ.out.set 2 (.int .i64 dr))
              have MX := Lib.hid (MQ.out.setc (o := 2) (v := .int .i64 dr) (Nat.le_refl _))
              have OX := Lib.hid ((Mv.owns (MW4.out.trans (by have := HM.out.size; have := HB.out; omega) MX.out) HO.out HB.out))
              have f0 := RX.out.cell 0 (by simp)
              have f1 := RX.out.cell 1 (by simp)
              have f2 := RX.out.cell 2 (by simp)
              have f3 := RX.out.cell 3 (by simp)
              have f4 := RX.out.cell 4 (by simp)
              simp only [List.getElem_cons_zero, List.getElem_cons_succ] at f0 f1 f2 f3 f4
              have fh := RX.out.has
              have SOK : Hid (SupOk ⟨par, lv, dr, cp, alw⟩ ts.length) := Lib.hid ⟨⟨hp1, hp2, by show 1 ≤ lv.length; omega, hd1, by show dr ≤ 5000; omega, by show par < 0 → dr = 0; intro q; omega, hcp1, hcp2⟩, LI.out.1⟩
              clear oL
              go_wp2_with (at_builtin; refine wpList_append_own _ rfl _ _ 25 rfl w.heap.size 70 j0 (.agg #[.int .i64 0, .slice none 0 0, .int .i64 0, .int .i64 0, .bool false]) 5 56 Try.underlying25 hj hy0 hy1 hy2 rfl (by decide) (.slice a5 ts.length c5) ts.length (ts.flatMap encT) rfl (OX.out.alloc _) ⟨wq.heap.size, 0, none⟩ 1 1 (encT (⟨par, lv, dr, cp, alw⟩, aL, cL)) rfl rfl (by have := cell_five (wq.setCell ⟨w4.heap.size, 2, none⟩ (.int .i64 dr)) (.int .i64 par) (.slice aL lv.length cL) (.int .i64 dr) (.int .i64 cp) (.bool alw) 70; simpa [encT, size_set] using this) (encT_one _) (by unfold maxLen; omega) (by omega) (by have := MX.out.size; have := M4.out.size; simp only [World.size_alloc, size_set] at *; omega) ?_; intro v' wz hown' hgrow hnil; have HOz := Lib.hid hown'; have HGz := Lib.hid hgrow; clear hown' hgrow hnil)
              go_roundw
              case rel =>
                refine ⟨ts ++ [(⟨par, lv, dr, cp, alw⟩, aL, cL)], m', by go_num, ?_, ?_, ?_, allOk_snoc OK.out SOK.out, ?_, by simp; omega, by simp; omega⟩
                · exact ((M4.out.trans HB.out MX.out).alloc _).grown HGz.out (fun k e => (OX.out.lt k e).1)
                · have := HOz.out
                  rw [List.length_append, List.flatMap_append]
                  simpa using this
                · intro t ht
                  rcases List.mem_append.1 ht with q | q
                  · obtain ⟨r1, r2⟩ := HR.out t q
                    refine ⟨Own1.grown (((MW4.out.trans (by have := HM.out.size; have := HB.out; omega) MX.out).own1 r1 HB.out).gr ((Gr.refl _).alloc _)) HGz.out (fun B hB => owns_apart (OX.out.alloc _) hB (by decide)), r2⟩
                  · rw [List.mem_singleton.1 q]
                    refine ⟨(Own1.grown (OL.out.gr ((Gr.refl _).alloc _)) HGz.out (fun B hB => owns_apart (OX.out.alloc _) hB (by decide))).low (by have := M4.out.size; omega), hcL⟩
                · intro t ht
                  rcases List.mem_append.1 ht with q | q
                  · exact SM.out t q
                  · rw [List.mem_singleton.1 q]; show lv.length ≤ 16; omega
              case measure => simp [intOf]
            · have gk : (0 : Int) < k := by omega
              have gx : ¬ x ≤ 5000 := fun q => hc ⟨hk0, q⟩
              have gxb : decide (x ≤ 5000) = false := by simpa using gx
              clear gx
              go_wp2_with fail
              refine (pickNew_any wr b len (MI.out.tp (M4.out.tp TT.out)) _ rfl _ 4 [0, 0, 100, 300] (InTo 0 300) rfl rfl (by omega) (by omega) (by simp [InTo])).mono ?_
              rintro e wq ⟨dr, rfl, ⟨hd1, hd2⟩, hmq⟩
              have MQ := Lib.hid (MI.out.trans bw hmq)
              have RQ := Lib.hid (hmq.row RI'.out (by omega))
              have OQ := Lib.hid (hmq.owns OI.out bw)
              have z2 := RQ.out.cell 2 (by simp)
              have z3 := RQ.out.free 2
              have zh := RQ.out.has
              clear hmq r0 r1 r2 r3 rh
              obtain ⟨aL, cL, rfl, hcL, oL⟩ := owns_own1 (owns_set (o := 2) (x := .int .i64 dr) OQ.out RQ.out.s (by decide))
              have OL := Lib.hid oL
              have RX := Lib.hid (show Row (wq.setCell ⟨w4.heap.size, 2, none⟩ (.int .i64 dr)) w4.heap.size 70 [.int .i64 par, .slice aL lv.length cL, .int .i64 dr, .int .i64 cp, .bool alw] from RQ.out.set 2 (.int .i64 dr))
              have MX := Lib.hid (MQ.out.setc (o := 2) (v := .int .i64 dr) (Nat.le_refl _))
              have OX := Lib.hid ((Mv.owns (MW4.out.trans (by have := HM.out.size; have := HB.out; omega) MX.out) HO.out HB.out))
              have f0 := RX.out.cell 0 (by simp)
              have f1 := RX.out.cell 1 (by simp)
              have f2 := RX.out.cell 2 (by simp)
              have f3 := RX.out.cell 3 (by simp)
              have f4 := RX.out.cell 4 (by simp)
              simp only [List.getElem_cons_zero, List.getElem_cons_succ] at f0 f1 f2 f3 f4
              have fh := RX.out.has
              have SOK : Hid (SupOk ⟨par, lv, dr, cp, alw⟩ ts.length) := Lib.hid ⟨⟨hp1, hp2, by show 1 ≤ lv.length; omega, hd1, by show dr ≤ 5000; omega, by show par < 0 → dr = 0; intro q; omega, hcp1, hcp2⟩, LI.out.1⟩
              clear oL
              go_wp2_with (at_builtin; refine wpList_append_own _ rfl _ _ 25 rfl w.heap.size 70 j0 (.agg #[.int .i64 0, .slice none 0 0, .int .i64 0, .int .i64 0, .bool false]) 5 56 Try.underlying25 hj hy0 hy1 hy2 rfl (by decide) (.slice a5 ts.length c5) ts.length (ts.flatMap encT) rfl (OX.out.alloc _) ⟨wq.heap.size, 0, none⟩ 1 1 (encT (⟨par, lv, dr, cp, alw⟩, aL, cL)) rfl rfl (by have := cell_five (wq.setCell ⟨w4.heap.size, 2, none⟩ (.int .i64 dr)) (.int .i64 par) (.slice aL lv.length cL) (.int .i64 dr) (.int .i64 cp) (.bool alw) 70; simpa [encT, size_set] using this) (encT_one _) (by unfold maxLen; omega) (by omega) (by have := MX.out.size; have := M4.out.size; simp only [World.size_alloc, size_set] at *; omega) ?_; intro v' wz hown' hgrow hnil; have HOz := Lib.hid hown'; have HGz := Lib.hid hgrow; clear hown' hgrow hnil)
              go_roundw
              case rel =>
                refine ⟨ts ++ [(⟨par, lv, dr, cp, alw⟩, aL, cL)], m', by go_num, ?_, ?_, ?_, allOk_snoc OK.out SOK.out, ?_, by simp; omega, by simp; omega⟩
                · exact ((M4.out.trans HB.out MX.out).alloc _).grown HGz.out (fun k e => (OX.out.lt k e).1)
                · have := HOz.out
                  rw [List.length_append, List.flatMap_append]
                  simpa using this
                · intro t ht
                  rcases List.mem_append.1 ht with q | q
                  · obtain ⟨r1, r2⟩ := HR.out t q
                    refine ⟨Own1.grown (((MW4.out.trans (by have := HM.out.size; have := HB.out; omega) MX.out).own1 r1 HB.out).gr ((Gr.refl _).alloc _)) HGz.out (fun B hB => owns_apart (OX.out.alloc _) hB (by decide)), r2⟩
                  · rw [List.mem_singleton.1 q]
                    refine ⟨(Own1.grown (OL.out.gr ((Gr.refl _).alloc _)) HGz.out (fun B hB => owns_apart (OX.out.alloc _) hB (by decide))).low (by have := M4.out.size; omega), hcL⟩
                · intro t ht
                  rcases List.mem_append.1 ht with q | q
                  · exact SM.out t q
                  · rw [List.mem_singleton.1 q]; show lv.length ≤ 16; omega
              case measure => simp [intOf]
          · have gp : par < 0 := by omega
            clear hp
            rcases Nat.eq_zero_or_pos k with hk0 | hk0
            · subst hk0
              obtain ⟨aL, cL, rfl, hcL, oL⟩ := owns_own1 (OI.out)
              have OL := Lib.hid oL
              have RX := Lib.hid (RI'.out)
              have MX := Lib.hid (MI.out)
              have OX := Lib.hid ((Mv.owns (MW4.out.trans (by have := HM.out.size; have := HB.out; omega) MX.out) HO.out HB.out))
              have f0 := RX.out.cell 0 (by simp)
              have f1 := RX.out.cell 1 (by simp)
              have f2 := RX.out.cell 2 (by simp)
              have f3 := RX.out.cell 3 (by simp)
              have f4 := RX.out.cell 4 (by simp)
              simp only [List.getElem_cons_zero, List.getElem_cons_succ] at f0 f1 f2 f3 f4
              have fh := RX.out.has
              have SOK : Hid (SupOk ⟨par, lv, 0, cp, alw⟩ ts.length) := Lib.hid ⟨⟨hp1, hp2, by show 1 ≤ lv.length; omega, by simp, by simp, fun _ => rfl, hcp1, hcp2⟩, LI.out.1⟩
              clear oL
              go_wp2_with (at_builtin; refine wpList_append_own _ rfl _ _ 25 rfl w.heap.size 70 j0 (.agg #[.int .i64 0, .slice none 0 0, .int .i64 0, .int .i64 0, .bool false]) 5 56 Try.underlying25 hj hy0 hy1 hy2 rfl (by decide) (.slice a5 ts.length c5) ts.length (ts.flatMap encT) rfl (OX.out.alloc _) ⟨wr.heap.size, 0, none⟩ 1 1 (encT (⟨par, lv, 0, cp, alw⟩, aL, cL)) rfl rfl (by have := cell_five wr (.int .i64 par) (.slice aL lv.length cL) (.int .i64 0) (.int .i64 cp) (.bool alw) 70; simpa [encT, size_set] using this) (encT_one _) (by unfold maxLen; omega) (by omega) (by have := MX.out.size; have := M4.out.size; simp only [World.size_alloc, size_set] at *; omega) ?_; intro v' wz hown' hgrow hnil; have HOz := Lib.hid hown'; have HGz := Lib.hid hgrow; clear hown' hgrow hnil)
              go_roundw
              case rel =>
                refine ⟨ts ++ [(⟨par, lv, 0, cp, alw⟩, aL, cL)], m', by go_num, ?_, ?_, ?_, allOk_snoc OK.out SOK.out, ?_, by simp; omega, by simp; omega⟩
                · exact ((M4.out.trans HB.out MX.out).alloc _).grown HGz.out (fun k e => (OX.out.lt k e).1)
                · have := HOz.out
                  rw [List.length_append, List.flatMap_append]
                  simpa using this
                · intro t ht
                  rcases List.mem_append.1 ht with q | q
                  · obtain ⟨r1, r2⟩ := HR.out t q
                    refine ⟨Own1.grown (((MW4.out.trans (by have := HM.out.size; have := HB.out; omega) MX.out).own1 r1 HB.out).gr ((Gr.refl _).alloc _)) HGz.out (fun B hB => owns_apart (OX.out.alloc _) hB (by decide)), r2⟩
                  · rw [List.mem_singleton.1 q]
                    refine ⟨(Own1.grown (OL.out.gr ((Gr.refl _).alloc _)) HGz.out (fun B hB => owns_apart (OX.out.alloc _) hB (by decide))).low (by have := M4.out.size; omega), hcL⟩
                · intro t ht
                  rcases List.mem_append.1 ht with q | q
                  · exact SM.out t q
                  · rw [List.mem_singleton.1 q]; show lv.length ≤ 16; omega
              case measure => simp [intOf]
            · have gk : (0 : Int) < k := by omega
              have gx : ¬ x ≤ 5000 := fun q => hc ⟨hk0, q⟩
              have gxb : decide (x ≤ 5000) = false := by simpa using gx
              clear gx
              obtain ⟨aL, cL, rfl, hcL, oL⟩ := owns_own1 (OI.out)
              have OL := Lib.hid oL
              have RX := Lib.hid (RI'.out)
              have MX := Lib.hid (MI.out)
              have OX := Lib.hid ((Mv.owns (MW4.out.trans (by have := HM.out.size; have := HB.out; omega) MX.out) HO.out HB.out))
              have f0 := RX.out.cell 0 (by simp)
              have f1 := RX.out.cell 1 (by simp)
              have f2 := RX.out.cell 2 (by simp)
              have f3 := RX.out.cell 3 (by simp)
              have f4 := RX.out.cell 4 (by simp)
              simp only [List.getElem_cons_zero, List.getElem_cons_succ] at f0 f1 f2 f3 f4
              have fh := RX.out.has
              have SOK : Hid (SupOk ⟨par, lv, 0, cp, alw⟩ ts.length) := Lib.hid ⟨⟨hp1, hp2, by show 1 ≤ lv.length; omega, by simp, by simp, fun _ => rfl, hcp1, hcp2⟩, LI.out.1⟩
              clear oL
              go_wp2_with (at_builtin; refine wpList_append_own _ rfl _ _ 25 rfl w.heap.size 70 j0 (.agg #[.int .i64 0, .slice none 0 0, .int .i64 0, .int .i64 0, .bool false]) 5 56 Try.underlying25 hj hy0 hy1 hy2 rfl (by decide) (.slice a5 ts.length c5) ts.length (ts.flatMap encT) rfl (OX.out.alloc _) ⟨wr.heap.size, 0, none⟩ 1 1 (encT (⟨par, lv, 0, cp, alw⟩, aL, cL)) rfl rfl (by have := cell_five wr (.int .i64 par) (.slice aL lv.length cL) (.int .i64 0) (.int .i64 cp) (.bool alw) 70; simpa [encT, size_set] using this) (encT_one _) (by unfold maxLen; omega) (by omega) (by have := MX.out.size; have := M4.out.size; simp only [World.size_alloc, size_set] at *; omega) ?_; intro v' wz hown' hgrow hnil; have HOz := Lib.hid hown'; have HGz := Lib.hid hgrow; clear hown' hgrow hnil)
              go_roundw
              case rel =>
                refine ⟨ts ++ [(⟨par, lv, 0, cp, alw⟩, aL, cL)], m', by go_num, ?_, ?_, ?_, allOk_snoc OK.out SOK.out, ?_, by simp; omega, by simp; omega⟩
                · exact ((M4.out.trans HB.out MX.out).alloc _).grown HGz.out (fun k e => (OX.out.lt k e).1)
                · have := HOz.out
                  rw [List.length_append, List.flatMap_append]
                  simpa using this
                · intro t ht
                  rcases List.mem_append.1 ht with q | q
                  · obtain ⟨r1, r2⟩ := HR.out t q
                    refine ⟨Own1.grown (((MW4.out.trans (by have := HM.out.size; have := HB.out; omega) MX.out).own1 r1 HB.out).gr ((Gr.refl _).alloc _)) HGz.out (fun B hB => owns_apart (OX.out.alloc _) hB (by decide)), r2⟩
                  · rw [List.mem_singleton.1 q]
                    refine ⟨(Own1.grown (OL.out.gr ((Gr.refl _).alloc _)) HGz.out (fun B hB => owns_apart (OX.out.alloc _) hB (by decide))).low (by have := M4.out.size; omega), hcL⟩
                · intro t ht
                  rcases List.mem_append.1 ht with q | q
                  · exact SM.out t q
                  · rw [List.mem_singleton.1 q]; show lv.length ≤ 16; omega
              case measure => simp [intOf]
    · have hm0 : m = 0 := by omega
      subst hm0
      go_wp2_with fail
      go_ret
      have hpos : 0 < ts.length := by omega
      refine ⟨sups ts, a5, c5, by simp [sups], small_sups OK.out SM.out (by omega), by simp [sups]; omega, by simp [sups]; omega, ?_, fun p => ?_, HM.out⟩
      · obtain ⟨a', c', e', h1, h2⟩ := sups_at HO.out HR.out OK.out SM.out hpos (by omega)
        cases e'; simpa [sups] using h1
      · obtain ⟨a', c', e', h1, h2⟩ := sups_at (ownsRow_setCell_below HO.out (a := ⟨b, 1, none⟩) HB.out (.int .i64 p)) (fun t ht => ⟨(HR.out t ht).1.oth HB.out, (HR.out t ht).2⟩) OK.out SM.out hpos (by omega)
        cases e'; exact h2
end Go.Proofs.Ytoenkcojfogmmaa
