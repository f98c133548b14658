/- Lemmas and contracts for the proof of RampAnswers (several texts in one, printed by wip/tools/pack.py): RxO. -/
import Derived.Test.YtoenkcojfogmmaaRm8pj
import Derived.Deep.Slices
import Derived.Deep.Strs
import Derived.WalkKit
import Derived.ProofKit
import Derived.SizedLaws
set_option maxRecDepth 100000
set_option maxHeartbeats 16000000
set_option linter.unusedVariables false
set_option linter.unusedSimpArgs false
namespace Go.Proofs.Ytoenkcojfogmmaa
open Go.RowKit Go.ChangeShapes Go.WideShapes
theorem add_of {a : Addr} {w : World} {v : Value} {n : Nat} (h0 : a = ⟨a.block, a.off, none⟩) (h : w.cell? (a.add n) = some v) : w.cell? ⟨a.block, a.off + n, none⟩ = some v := by
  simp only [Addr.add] at h
  split at h
  · rename_i e; subst e; rw [h0] at h; simpa using h
  · exact h
def Light {H : Type} (t : TypeId) (d : DataW H) : Prop := ∀ n ∈ d.weights Try.prog t, n ≤ reachBytes
theorem all_light {H : Type} {e : TypeId} : ∀ {l : List (DataW H)} {d : DataW H}, d ∈ l → ∀ n ∈ d.weights Try.prog e, n ∈ DataW.weightsAll Try.prog e l
  | d' :: r, d, hd, n, hn => by
    simp only [DataW.weightsAll, List.mem_append]
    rcases List.mem_cons.1 hd with rfl | h
    · exact Or.inl hn
    · exact Or.inr (all_light h n hn)
theorem Light.elem {H : Type} {t e : TypeId} {elems spare : List (DataW H)} (h : Light t (DataW.slice elems spare)) (hu : Try.prog.underlying t = some (.slice e)) : (elems.length + spare.length) * Try.prog.bytesOf e ≤ reachBytes ∧ ∀ d ∈ elems, Light e d := by
  refine ⟨h _ (by simp [DataW.weights, hu]), fun d hd n hn => h n ?_⟩
  simp only [DataW.weights, hu, List.mem_cons, List.mem_append]
  exact Or.inr (Or.inl (all_light hd n hn))
theorem Light.part {H : Type} {t : TypeId} {fs : Array Field} {parts : List (DataW H)} (h : Light t (DataW.agg parts)) (hu : Try.prog.underlying t = some (.struct fs)) {j : Nat} {u : TypeId} {d : DataW H} (ht : (fs.toList.map (·.type))[j]? = some u) (hd : parts[j]? = some d) : Light u d := fun n hn => h n (by
  simp only [DataW.weights, hu]
  exact DataW.weights_mem_each ht hd n hn)
theorem reach_eq : reachBytes = 140737488351232 := rfl
-- A slice of whole numbers.
theorem open_nums {H : Type} {enc : TypeId × Value → H} {W : World} {fuel : Nat} {cs : List Value} {x : DataW H × List MemPlace} (h : DataW.trod enc Try.prog W 0 (fun _ => true) true fuel 22 cs = some x) (hl : Light 22 x.1) :
    ∃ (a : Option Addr) (xs : List Int) (cap : Nat), cs = [.slice a xs.length cap] ∧ xs.length ≤ cap ∧ Fit xs.length ∧ SlOf 1 RI W a xs := by
  rcases open_ints Try.underlying22 Try.underlying3 (by kernel_rfl) h with ⟨rfl, -⟩ | ⟨a, len, cap, zs, rfl, hb, hle, hm, hz, rfl, hcell, hwz⟩
  · exact ⟨none, [], 0, rfl, Nat.le_refl _, by unfold Fit; simp, SlOf.nil _ _ _ _⟩
  · have hzc : zs.length = cap := by simpa using hz
    have ht : (zs.take len).length = len := by rw [List.length_take]; omega
    refine ⟨some a, zs.take len, cap, by rw [ht], by omega, ?_, fun k hk => ?_⟩
    · have := (hl.elem Try.underlying22).1
      rw [reach_eq, show Try.prog.bytesOf 3 = 8 by kernel_rfl] at this
      simp [lits] at this
      unfold Fit; omega
    · have hk' : k < len := by omega
      have q := hcell 0 (by omega)
      have z : a = ⟨a.block, a.off, none⟩ := addr_of_cell (by simpa [Addr.add] using q)
      have c := hcell k (by omega)
      refine ⟨a.block, a.off, by rw [← z], add_of z (n := k * 1) ?_, ?_⟩
      · rw [Nat.mul_one, c, List.getElem_take, List.getD_eq_getElem?_getD, List.getElem?_eq_getElem (by omega)]; rfl
      · rw [List.getElem_take]
        have := bounds_i64 (hwz _ (List.getElem_mem (show k < zs.length by omega)))
        unfold Wide; omega
theorem open_num {H : Type} {enc : TypeId × Value → H} {W : World} {n : Nat} {v : Value} {y : DataW H × List MemPlace} (h : DataW.trod enc Try.prog W 0 (fun _ => true) true n 3 [v] = some y) : ∃ x, v = .int .i64 x ∧ Wide x := by
  obtain ⟨n0, e0, -, w0⟩ := DataW.trod_int Try.underlying3 h
  have b0 := bounds_i64 w0
  exact ⟨n0, by simpa using e0, by unfold Wide; omega⟩
theorem open_blns {H : Type} {enc : TypeId × Value → H} {W : World} {fuel : Nat} {cs : List Value} {x : DataW H × List MemPlace} (h : DataW.trod enc Try.prog W 0 (fun _ => true) true fuel 29 cs = some x) (hl : Light 29 x.1) :
    ∃ (a : Option Addr) (xs : List Bool) (cap : Nat), cs = [.slice a xs.length cap] ∧ xs.length ≤ cap ∧ Fit xs.length ∧ SlOf 1 RB W a xs := by
  rcases Go.Deep.open_slice1 Try.underlying29 (by kernel_rfl) h with ⟨rfl, -⟩ | ⟨a, len, cap, m, n, V, D, Pl, rfl, hb, hle, hm, hmm, rfl, hx⟩
  · exact ⟨none, [], 0, rfl, Nat.le_refl _, by unfold Fit; simp, fun k hk => absurd hk (by simp)⟩
  · have hmc : m = cap := by simpa using hmm
    obtain ⟨hsz, _⟩ := hl.elem Try.underlying29
    have each : ∀ i, i < len → ∃ c : Bool, W.cell? (a.add i) = some (.bool c) := by
      intro i hi
      obtain ⟨h1, h2⟩ := hx i (by omega)
      obtain ⟨c, e, _⟩ := DataW.trod_bool Try.underlying4 h2
      have e' : V i = .bool c := by simpa using e
      exact ⟨c, by rw [h1, e']⟩
    obtain ⟨f, hf⟩ := Go.Deep.choose_lt each
    refine ⟨some a, (List.range len).map f, cap, by simp, by simpa using hle, ?_, fun k hk => ?_⟩
    · rw [reach_eq, show Try.prog.bytesOf 4 = 1 by kernel_rfl] at hsz
      simp at hsz
      simp only [List.length_map, List.length_range]
      unfold Fit; omega
    have hk' : k < len := by simpa using hk
    have z : a = ⟨a.block, a.off, none⟩ := addr_of_cell (by simpa [Addr.add] using hf 0 (by omega))
    refine ⟨a.block, a.off, by rw [← z], ?_⟩
    rw [List.getElem_map, List.getElem_range, Nat.mul_one]
    exact add_of z (hf k hk')
theorem open_bln {H : Type} {enc : TypeId × Value → H} {W : World} {n : Nat} {v : Value} {y : DataW H × List MemPlace} (h : DataW.trod enc Try.prog W 0 (fun _ => true) true n 4 [v] = some y) : ∃ x, v = .bool x := by
  obtain ⟨n0, e0, -⟩ := DataW.trod_bool Try.underlying4 h
  exact ⟨n0, by simpa using e0⟩
def SupIn (W : World) (c : Sup) (cs : List Value) : Prop := ∃ alevels clevels, cs = [.int .i64 c.parent, .slice alevels c.levels.length clevels, .int .i64 c.dropout, .int .i64 c.capacity, .bool c.always] ∧ Wide c.parent ∧ c.levels.length ≤ clevels ∧ Fit c.levels.length ∧ SlOf 1 RI W alevels c.levels ∧ Wide c.dropout ∧ Wide c.capacity
theorem open_sup {H : Type} {enc : TypeId × Value → H} {W : World} {n : Nat} {cs : List Value} {x : DataW H × List MemPlace} (h : DataW.trod enc Try.prog W 0 (fun _ => true) true n 70 cs = some x) (hl : Light 70 x.1) : ∃ c : Sup, SupIn W c cs := by
  obtain ⟨xs, m, _, rfl, hlen, hxs, hf⟩ := DataW.trod_struct Try.underlying70 h
  have hl5 : cs.length = 5 := hlen
  match cs, hl5, xs, hxs with
  | [v0, v1, v2, v3, v4], _, [y0, y1, y2, y3, y4], _ =>
    have g0 : DataW.trod enc Try.prog W 0 (fun _ => true) true m 3 [v0] = some y0 := hf 0 _ rfl
    have g1 : DataW.trod enc Try.prog W 0 (fun _ => true) true m 22 [v1] = some y1 := hf 1 _ rfl
    have g2 : DataW.trod enc Try.prog W 0 (fun _ => true) true m 3 [v2] = some y2 := hf 2 _ rfl
    have g3 : DataW.trod enc Try.prog W 0 (fun _ => true) true m 3 [v3] = some y3 := hf 3 _ rfl
    have g4 : DataW.trod enc Try.prog W 0 (fun _ => true) true m 4 [v4] = some y4 := hf 4 _ rfl
    have l1 : Light 22 y1.1 := Light.part (j := 1) hl Try.underlying70 rfl rfl
    obtain ⟨x0, rfl, w0⟩ := open_num g0
    obtain ⟨a1, x1, c1, e1, p1, q1, r1⟩ := open_nums g1 l1
    injection e1 with e1 _
    subst e1
    obtain ⟨x2, rfl, w2⟩ := open_num g2
    obtain ⟨x3, rfl, w3⟩ := open_num g3
    obtain ⟨x4, rfl⟩ := open_bln g4
    exact ⟨⟨x0, x1, x2, x3, x4⟩, a1, c1, rfl, w0, p1, q1, r1, w2, w3⟩
instance : Inhabited Sup := ⟨⟨0, [], 0, 0, false⟩⟩
theorem open_sups {H : Type} {enc : TypeId × Value → H} {W : World} {fuel : Nat} {cs : List Value} {x : DataW H × List MemPlace} (h : DataW.trod enc Try.prog W 0 (fun _ => true) true fuel 25 cs = some x) (hl : Light 25 x.1) :
    ∃ (a : Option Addr) (raw : List Sup) (cap : Nat), cs = [.slice a raw.length cap] ∧ raw.length ≤ cap ∧ Fit raw.length ∧ SlOf 5 RSup W a raw := by
  rcases Go.Deep.open_slice Try.underlying25 h with ⟨rfl, -⟩ | ⟨a, len, cap, m, n, D, Pl, rfl, hb, hle, hm, hmm, rfl, hx⟩
  · exact ⟨none, [], 0, rfl, Nat.le_refl _, by unfold Fit; simp, fun k hk => absurd hk (by simp)⟩
  · have hmc : m = cap := by simpa using hmm
    obtain ⟨hsz, hel⟩ := hl.elem Try.underlying25
    have each : ∀ i, i < len → ∃ c : Sup, ∃ ds, SupIn W c ds ∧ ∀ j, j < 5 → W.cell? ((a.add (i * 5)).add j) = ds[j]? := by
      intro i hi
      obtain ⟨cs', h1, h2⟩ := hx i (by omega)
      obtain ⟨c, hc⟩ := open_sup h2 (hel _ (List.mem_map.2 ⟨i, List.mem_range.2 hi, rfl⟩))
      have h1' : W.cells? 0 (a.add (i * 5)) 5 = some cs' := h1
      obtain ⟨_, -, hc'⟩ := World.cells?_some h1'
      exact ⟨c, cs', hc, hc'⟩
    obtain ⟨f, hf⟩ := Go.Deep.choose_lt each
    refine ⟨some a, (List.range len).map f, cap, by simp, by simpa using hle, ?_, fun k hk => ?_⟩
    · rw [reach_eq, show Try.prog.bytesOf 70 = 56 by kernel_rfl] at hsz
      simp at hsz
      simp only [List.length_map, List.length_range]
      unfold Fit; omega
    have hk' : k < len := by simpa using hk
    obtain ⟨ds, ⟨blevels, klevels, rfl, wparent, plevels, qlevels, rlevels, wdropout, wcapacity⟩, hc⟩ := hf k hk'
    have c0 := hc 0 (by omega)
    have c1 := hc 1 (by omega)
    have c2 := hc 2 (by omega)
    have c3 := hc 3 (by omega)
    have c4 := hc 4 (by omega)
    rw [Go.Deep.add_add] at c0 c1 c2 c3 c4
    have z : a = ⟨a.block, a.off, none⟩ := by
      obtain ⟨ds', ⟨_, _, rfl, _⟩, hc'⟩ := hf 0 (by omega)
      have q := hc' 0 (by omega)
      rw [Go.Deep.add_add] at q
      have q' : W.cell? a = some (.int .i64 (f 0).parent) := by simpa [Addr.add] using q
      exact addr_of_cell q'
    refine ⟨a.block, a.off, by rw [← z], ?_⟩
    rw [List.getElem_map, List.getElem_range]
    refine ⟨⟨?_, wparent⟩, ⟨blevels, klevels, ?_, plevels, qlevels, rlevels⟩, ⟨?_, wdropout⟩, ⟨?_, wcapacity⟩, ?_⟩
    · exact add_of z (by simpa using c0)
    · exact add_of z (by simpa using c1)
    · exact add_of z (by simpa using c2)
    · exact add_of z (by simpa using c3)
    · exact add_of z (by simpa using c4)
def DrwIn (W : World) (c : Drw) (cs : List Value) : Prop := cs = [.int .i64 c.supply, .int .i64 c.low, .int .i64 c.high, .int .i64 c.load] ∧ Wide c.supply ∧ Wide c.low ∧ Wide c.high ∧ Wide c.load
theorem open_drw {H : Type} {enc : TypeId × Value → H} {W : World} {n : Nat} {cs : List Value} {x : DataW H × List MemPlace} (h : DataW.trod enc Try.prog W 0 (fun _ => true) true n 72 cs = some x) (hl : Light 72 x.1) : ∃ c : Drw, DrwIn W c cs := by
  obtain ⟨xs, m, _, rfl, hlen, hxs, hf⟩ := DataW.trod_struct Try.underlying72 h
  have hl5 : cs.length = 4 := hlen
  match cs, hl5, xs, hxs with
  | [v0, v1, v2, v3], _, [y0, y1, y2, y3], _ =>
    have g0 : DataW.trod enc Try.prog W 0 (fun _ => true) true m 3 [v0] = some y0 := hf 0 _ rfl
    have g1 : DataW.trod enc Try.prog W 0 (fun _ => true) true m 3 [v1] = some y1 := hf 1 _ rfl
    have g2 : DataW.trod enc Try.prog W 0 (fun _ => true) true m 3 [v2] = some y2 := hf 2 _ rfl
    have g3 : DataW.trod enc Try.prog W 0 (fun _ => true) true m 3 [v3] = some y3 := hf 3 _ rfl
    obtain ⟨x0, rfl, w0⟩ := open_num g0
    obtain ⟨x1, rfl, w1⟩ := open_num g1
    obtain ⟨x2, rfl, w2⟩ := open_num g2
    obtain ⟨x3, rfl, w3⟩ := open_num g3
    exact ⟨⟨x0, x1, x2, x3⟩, rfl, w0, w1, w2, w3⟩
instance : Inhabited Drw := ⟨⟨0, 0, 0, 0⟩⟩
theorem open_drws {H : Type} {enc : TypeId × Value → H} {W : World} {fuel : Nat} {cs : List Value} {x : DataW H × List MemPlace} (h : DataW.trod enc Try.prog W 0 (fun _ => true) true fuel 27 cs = some x) (hl : Light 27 x.1) :
    ∃ (a : Option Addr) (raw : List Drw) (cap : Nat), cs = [.slice a raw.length cap] ∧ raw.length ≤ cap ∧ Fit raw.length ∧ SlOf 4 RDrw W a raw := by
  rcases Go.Deep.open_slice Try.underlying27 h with ⟨rfl, -⟩ | ⟨a, len, cap, m, n, D, Pl, rfl, hb, hle, hm, hmm, rfl, hx⟩
  · exact ⟨none, [], 0, rfl, Nat.le_refl _, by unfold Fit; simp, fun k hk => absurd hk (by simp)⟩
  · have hmc : m = cap := by simpa using hmm
    obtain ⟨hsz, hel⟩ := hl.elem Try.underlying27
    have each : ∀ i, i < len → ∃ c : Drw, ∃ ds, DrwIn W c ds ∧ ∀ j, j < 4 → W.cell? ((a.add (i * 4)).add j) = ds[j]? := by
      intro i hi
      obtain ⟨cs', h1, h2⟩ := hx i (by omega)
      obtain ⟨c, hc⟩ := open_drw h2 (hel _ (List.mem_map.2 ⟨i, List.mem_range.2 hi, rfl⟩))
      have h1' : W.cells? 0 (a.add (i * 4)) 4 = some cs' := h1
      obtain ⟨_, -, hc'⟩ := World.cells?_some h1'
      exact ⟨c, cs', hc, hc'⟩
    obtain ⟨f, hf⟩ := Go.Deep.choose_lt each
    refine ⟨some a, (List.range len).map f, cap, by simp, by simpa using hle, ?_, fun k hk => ?_⟩
    · rw [reach_eq, show Try.prog.bytesOf 72 = 32 by kernel_rfl] at hsz
      simp at hsz
      simp only [List.length_map, List.length_range]
      unfold Fit; omega
    have hk' : k < len := by simpa using hk
    obtain ⟨ds, ⟨rfl, wsupply, wlow, whigh, wload⟩, hc⟩ := hf k hk'
    have c0 := hc 0 (by omega)
    have c1 := hc 1 (by omega)
    have c2 := hc 2 (by omega)
    have c3 := hc 3 (by omega)
    rw [Go.Deep.add_add] at c0 c1 c2 c3
    have z : a = ⟨a.block, a.off, none⟩ := by
      obtain ⟨ds', ⟨rfl, _⟩, hc'⟩ := hf 0 (by omega)
      have q := hc' 0 (by omega)
      rw [Go.Deep.add_add] at q
      have q' : W.cell? a = some (.int .i64 (f 0).supply) := by simpa [Addr.add] using q
      exact addr_of_cell q'
    refine ⟨a.block, a.off, by rw [← z], ?_⟩
    rw [List.getElem_map, List.getElem_range]
    refine ⟨⟨?_, wsupply⟩, ⟨?_, wlow⟩, ⟨?_, whigh⟩, ⟨?_, wload⟩⟩
    · exact add_of z (by simpa using c0)
    · exact add_of z (by simpa using c1)
    · exact add_of z (by simpa using c2)
    · exact add_of z (by simpa using c3)
def WriIn (W : World) (c : Wri) (cs : List Value) : Prop := cs = [.int .i64 c.kind, .int .i64 c.unit, .int .i64 c.value] ∧ Wide c.kind ∧ Wide c.unit ∧ Wide c.value
theorem open_wri {H : Type} {enc : TypeId × Value → H} {W : World} {n : Nat} {cs : List Value} {x : DataW H × List MemPlace} (h : DataW.trod enc Try.prog W 0 (fun _ => true) true n 46 cs = some x) (hl : Light 46 x.1) : ∃ c : Wri, WriIn W c cs := by
  obtain ⟨xs, m, _, rfl, hlen, hxs, hf⟩ := DataW.trod_struct Try.underlying46 h
  have hl5 : cs.length = 3 := hlen
  match cs, hl5, xs, hxs with
  | [v0, v1, v2], _, [y0, y1, y2], _ =>
    have g0 : DataW.trod enc Try.prog W 0 (fun _ => true) true m 3 [v0] = some y0 := hf 0 _ rfl
    have g1 : DataW.trod enc Try.prog W 0 (fun _ => true) true m 3 [v1] = some y1 := hf 1 _ rfl
    have g2 : DataW.trod enc Try.prog W 0 (fun _ => true) true m 3 [v2] = some y2 := hf 2 _ rfl
    obtain ⟨x0, rfl, w0⟩ := open_num g0
    obtain ⟨x1, rfl, w1⟩ := open_num g1
    obtain ⟨x2, rfl, w2⟩ := open_num g2
    exact ⟨⟨x0, x1, x2⟩, rfl, w0, w1, w2⟩
instance : Inhabited Wri := ⟨⟨0, 0, 0⟩⟩
theorem open_wris {H : Type} {enc : TypeId × Value → H} {W : World} {fuel : Nat} {cs : List Value} {x : DataW H × List MemPlace} (h : DataW.trod enc Try.prog W 0 (fun _ => true) true fuel 35 cs = some x) (hl : Light 35 x.1) :
    ∃ (a : Option Addr) (raw : List Wri) (cap : Nat), cs = [.slice a raw.length cap] ∧ raw.length ≤ cap ∧ Fit raw.length ∧ SlOf 3 RWri W a raw := by
  rcases Go.Deep.open_slice Try.underlying35 h with ⟨rfl, -⟩ | ⟨a, len, cap, m, n, D, Pl, rfl, hb, hle, hm, hmm, rfl, hx⟩
  · exact ⟨none, [], 0, rfl, Nat.le_refl _, by unfold Fit; simp, fun k hk => absurd hk (by simp)⟩
  · have hmc : m = cap := by simpa using hmm
    obtain ⟨hsz, hel⟩ := hl.elem Try.underlying35
    have each : ∀ i, i < len → ∃ c : Wri, ∃ ds, WriIn W c ds ∧ ∀ j, j < 3 → W.cell? ((a.add (i * 3)).add j) = ds[j]? := by
      intro i hi
      obtain ⟨cs', h1, h2⟩ := hx i (by omega)
      obtain ⟨c, hc⟩ := open_wri h2 (hel _ (List.mem_map.2 ⟨i, List.mem_range.2 hi, rfl⟩))
      have h1' : W.cells? 0 (a.add (i * 3)) 3 = some cs' := h1
      obtain ⟨_, -, hc'⟩ := World.cells?_some h1'
      exact ⟨c, cs', hc, hc'⟩
    obtain ⟨f, hf⟩ := Go.Deep.choose_lt each
    refine ⟨some a, (List.range len).map f, cap, by simp, by simpa using hle, ?_, fun k hk => ?_⟩
    · rw [reach_eq, show Try.prog.bytesOf 46 = 24 by kernel_rfl] at hsz
      simp at hsz
      simp only [List.length_map, List.length_range]
      unfold Fit; omega
    have hk' : k < len := by simpa using hk
    obtain ⟨ds, ⟨rfl, wkind, wunit, wvalue⟩, hc⟩ := hf k hk'
    have c0 := hc 0 (by omega)
    have c1 := hc 1 (by omega)
    have c2 := hc 2 (by omega)
    rw [Go.Deep.add_add] at c0 c1 c2
    have z : a = ⟨a.block, a.off, none⟩ := by
      obtain ⟨ds', ⟨rfl, _⟩, hc'⟩ := hf 0 (by omega)
      have q := hc' 0 (by omega)
      rw [Go.Deep.add_add] at q
      have q' : W.cell? a = some (.int .i64 (f 0).kind) := by simpa [Addr.add] using q
      exact addr_of_cell q'
    refine ⟨a.block, a.off, by rw [← z], ?_⟩
    rw [List.getElem_map, List.getElem_range]
    refine ⟨⟨?_, wkind⟩, ⟨?_, wunit⟩, ⟨?_, wvalue⟩⟩
    · exact add_of z (by simpa using c0)
    · exact add_of z (by simpa using c1)
    · exact add_of z (by simpa using c2)
theorem open_rls {H : Type} {enc : TypeId × Value → H} {W : World} {n : Nat} {cs : List Value} {x : DataW H × List MemPlace} (h : DataW.trod enc Try.prog W 0 (fun _ => true) true n 31 cs = some x) (hl : Light 31 x.1) :
    ∃ (r : Rls) (a1 a2 : Option Addr) (c1 c2 : Nat), cs = [.slice a1 r.on.length c1, .slice a2 r.level.length c2] ∧ RlA W a1 a2 c1 c2 r := by
  obtain ⟨xs, m, _, rfl, hlen, hxs, hf⟩ := DataW.trod_struct Try.underlying31 h
  have hl2 : cs.length = 2 := hlen
  match cs, hl2, xs, hxs with
  | [v0, v1], _, [y0, y1], _ =>
    have g0 : DataW.trod enc Try.prog W 0 (fun _ => true) true m 29 [v0] = some y0 := hf 0 _ rfl
    have g1 : DataW.trod enc Try.prog W 0 (fun _ => true) true m 22 [v1] = some y1 := hf 1 _ rfl
    have l0 : Light 29 y0.1 := Light.part (j := 0) hl Try.underlying31 rfl rfl
    have l1 : Light 22 y1.1 := Light.part (j := 1) hl Try.underlying31 rfl rfl
    obtain ⟨a0, x0, c0, e0, p0, q0, r0⟩ := open_blns g0 l0
    obtain ⟨a1, x1, c1, e1, p1, q1, r1⟩ := open_nums g1 l1
    injection e0 with e0 _
    injection e1 with e1 _
    subst e0; subst e1
    exact ⟨⟨x0, x1⟩, a0, a1, c0, c1, rfl, r0, r1, p0, p1, q0, q1⟩
end Go.Proofs.Ytoenkcojfogmmaa
