/- Lemmas and contracts for the proof of TuningAnswers (several texts in one, printed by wip/tools/pack.py): Kv. -/
import Derived.Test.YtenehghpmnajpaaGreatDoorTa7pj
import Derived.Lib.SliceRun
import Derived.Lib.LazyBuf
import Derived.Deep.LoopGhost
/-! Bounds of limits and of clocks, plain and in memory; contracts of tuning.broken and tuning.all. -/
set_option linter.unusedVariables false
set_option linter.unusedSimpArgs false
namespace Go.Proofs.YtenehghpmnajpaaGreatDoor
open Go.RowKit
open Classical
structure Bnd where
  index : Int
  clock : Int
  low : Int
  high : Int
  idle : Bool
def encB (b : Bnd) : List Value := [.int .i64 b.index, .int .i64 b.clock, .int .i64 b.low, .int .i64 b.high, .bool b.idle]
def RBnd (w : World) (b o : Nat) (x : Bnd) : Prop := w.cell? ⟨b, o, none⟩ = some (.int .i64 x.index) ∧ w.cell? ⟨b, o + 1, none⟩ = some (.int .i64 x.clock) ∧ w.cell? ⟨b, o + 2, none⟩ = some (.int .i64 x.low) ∧ w.cell? ⟨b, o + 3, none⟩ = some (.int .i64 x.high) ∧ w.cell? ⟨b, o + 4, none⟩ = some (.bool x.idle)
theorem RBnd.mono : Mono RBnd := fun _ _ _ _ _ hg ⟨h0, h1, h2, h3, h4⟩ => ⟨cell_gr hg h0, cell_gr hg h1, cell_gr hg h2, cell_gr hg h3, cell_gr hg h4⟩
theorem infoBnd : (Tryz.prog.info? 116).map (fun i => (i.zero, i.size, i.bytes)) = some (some (.agg #[.int .i64 0, .int .i64 0, .int .i64 0, .int .i64 0, .bool false]), 5, 40) := by kernel_rfl
def limB (j : Nat) (x : Lmt) : Bnd := ⟨j, x.clock, x.low, x.high, false⟩
def limsB (ms : List Lmt) : List Bnd := ms.mapIdx limB
noncomputable def ownOne (n i : Nat) (c : Clk) : List Bnd := if c.high = 0 then [] else [⟨((n + i : Nat) : Int), i, c.low, c.high, true⟩]
noncomputable def ownB (n : Nat) (l : List Clk) : List Bnd := (l.mapIdx (ownOne n)).flatten
/-- All bounds, those of limits first. -/
noncomputable def allB (l : List Clk) (ms : List Lmt) : List Bnd := limsB ms ++ ownB ms.length l
theorem limsB_len (ms : List Lmt) : (limsB ms).length = ms.length := by simp [limsB]
theorem limsB_take (ms : List Lmt) (k : Nat) (h : k < ms.length) : limsB (ms.take (k + 1)) = limsB (ms.take k) ++ [limB k ms[k]] := by
  have ht : ms.take (k + 1) = ms.take k ++ [ms[k]] := by rw [List.take_add_one, List.getElem?_eq_getElem h]; rfl
  unfold limsB
  rw [ht, List.mapIdx_concat, List.length_take, Nat.min_eq_left (by omega)]
theorem ownB_take (n : Nat) (l : List Clk) (k : Nat) (h : k < l.length) : ownB n (l.take (k + 1)) = ownB n (l.take k) ++ ownOne n k l[k] := by
  have ht : l.take (k + 1) = l.take k ++ [l[k]] := by rw [List.take_add_one, List.getElem?_eq_getElem h]; rfl
  unfold ownB
  rw [ht, List.mapIdx_concat, List.flatten_append, List.length_take, Nat.min_eq_left (by omega)]
  simp
theorem ownB_len (n : Nat) (l : List Clk) : (ownB n l).length ≤ l.length := by
  have : ∀ k, k ≤ l.length → (ownB n (l.take k)).length ≤ k := by
    intro k
    induction k with
    | zero => intro _; simp [ownB]
    | succ k ih =>
      intro h
      rw [ownB_take n l k (by omega), List.length_append]
      have := ih (by omega)
      have h1 : (ownOne n k l[k]).length ≤ 1 := by unfold ownOne; split <;> simp
      omega
  have := this l.length (Nat.le_refl _)
  rwa [List.take_length] at this
theorem allB_len (l : List Clk) (ms : List Lmt) : (allB l ms).length ≤ ms.length + l.length := by
  have := ownB_len ms.length l
  unfold allB
  rw [List.length_append, limsB_len]; omega
/-- What the bounds of right limits and clocks are. -/
def BndOk (l : List Clk) (b : Bnd) : Prop := 0 ≤ b.clock ∧ b.clock < l.length
theorem mem_ownB {n : Nat} {l : List Clk} {b : Bnd} : b ∈ ownB n l ↔ ∃ i, ∃ h : i < l.length, l[i].high ≠ 0 ∧ b = ⟨((n + i : Nat) : Int), i, l[i].low, l[i].high, true⟩ := by
  unfold ownB
  simp only [List.mem_flatten, List.mem_mapIdx]
  constructor
  · rintro ⟨_, ⟨i, hi, rfl⟩, h⟩
    unfold ownOne at h
    split at h
    · cases h
    · rename_i hh; exact ⟨i, hi, hh, by simpa using h⟩
  · rintro ⟨i, hi, hh, rfl⟩
    exact ⟨_, ⟨i, hi, rfl⟩, by unfold ownOne; rw [if_neg hh]; simp⟩
theorem mem_limsB {ms : List Lmt} {b : Bnd} : b ∈ limsB ms ↔ ∃ j, ∃ h : j < ms.length, b = limB j ms[j] := by
  unfold limsB
  rw [List.mem_mapIdx]
  constructor
  · rintro ⟨i, hi, e⟩; exact ⟨i, hi, e.symm⟩
  · rintro ⟨i, hi, e⟩; exact ⟨i, hi, e.symm⟩
theorem allB_ok {l : List Clk} {ms : List Lmt} (hm : LsOk l ms) : ∀ b ∈ allB l ms, BndOk l b := by
  intro b hb
  rcases List.mem_append.1 hb with hb | hb
  · obtain ⟨j, hj, rfl⟩ := mem_limsB.1 hb
    obtain ⟨q0, q1, _⟩ := hm.2 j hj
    exact ⟨q0, q1⟩
  · obtain ⟨i, hi, _, rfl⟩ := mem_ownB.1 hb
    exact ⟨by simp only; omega, by simp only; omega⟩
def brokB (b : Bnd) (r : Rt) : Bool := match r with | none => !b.idle | some (n, d) => !withinB n d b.low b.high
/-- A setting meets limits. -/
noncomputable def meetS (l : List Clk) (ms : List Lmt) (s : List Int) : Bool := decide (∀ b ∈ allB l ms, brokB b (rtAt (rts l s) b.clock.toNat) = false)
def MeetR (R : List Rt) (l : List Clk) (ms : List Lmt) : Prop := OwnR R l ∧ ∀ j (h : j < ms.length), okIn (rtAt R ms[j].clock.toNat) ms[j].low ms[j].high = true
theorem meet_iff (R : List Rt) (l : List Clk) (ms : List Lmt) : (∀ b ∈ allB l ms, brokB b (rtAt R b.clock.toNat) = false) ↔ MeetR R l ms := by
  have e1 : ∀ j (h : j < ms.length), brokB (limB j ms[j]) (rtAt R ms[j].clock.toNat) = !okIn (rtAt R ms[j].clock.toNat) ms[j].low ms[j].high := by
    intro j h
    cases e : rtAt R ms[j].clock.toNat <;> simp [brokB, limB, okIn]
  constructor
  · intro h
    refine ⟨fun i hi => ?_, fun j hj => ?_⟩
    · by_cases hh : l[i].high = 0
      · unfold ownOk; split <;> simp [hh]
      · have := h _ (List.mem_append_right _ (mem_ownB.2 ⟨i, hi, hh, rfl⟩))
        simp only [Int.toNat_natCast] at this
        unfold ownOk
        cases e : rtAt R i <;> simp_all [brokB]
    · have := h _ (List.mem_append_left _ (mem_limsB.2 ⟨j, hj, rfl⟩))
      have e2 := e1 j hj
      simp only [limB] at this e2
      rw [e2] at this
      simpa using this
  · rintro ⟨h1, h2⟩ b hb
    rcases List.mem_append.1 hb with hb | hb
    · obtain ⟨j, hj, rfl⟩ := mem_limsB.1 hb
      have e2 := e1 j hj
      have := h2 j hj
      show brokB (limB j ms[j]) (rtAt R ms[j].clock.toNat) = false
      rw [e2, this]; rfl
    · obtain ⟨i, hi, hh, rfl⟩ := mem_ownB.1 hb
      have := h1 i hi
      simp only [Int.toNat_natCast]
      unfold ownOk at this
      cases e : rtAt R i <;> simp_all [brokB]
theorem meetS_eq (l : List Clk) (ms : List Lmt) (s : List Int) : meetS l ms s = decide (MeetR (rts l s) l ms) := by
  unfold meetS
  rw [decide_eq_decide]; exact meet_iff _ _ _
def GoodR (r : Rt) : Prop := ∀ n d, r = some (n, d) → validB n d = true ∧ 1 ≤ n
set_option maxRecDepth 100000 in
set_option maxHeartbeats 1000000 in
theorem broken_any (x : Bnd) (r : Rt) (w : World) (hr : GoodR r) :
    Calls Tryz.prog 74 #[.agg #[.int .i64 x.index, .int .i64 x.clock, .int .i64 x.low, .int .i64 x.high, .bool x.idle], .agg #[.int .i64 (numR r), .int .i64 (denR r)]] w (Grows w (.bool (brokB x r))) := by
  obtain ⟨i, c, lo, hi, id⟩ := x
  cases r with
  | none =>
    simp only [numR, denR, brokB]
    go_enter Tryz.func74, Tryz.ntmps74
    go_wp2_with fail
    go_ret
    exact ⟨rfl, ((Gr.refl _).alloc _).alloc _⟩
  | some nd =>
    obtain ⟨n, d⟩ := nd
    obtain ⟨hv, hn1⟩ := hr n d rfl
    obtain ⟨v1, v2, v3, v4, v5⟩ := valid_parts hv
    have n0 : (n == 0) = false := by simp; omega
    have W1 := fun w => within_any n d lo hi w (by omega) (by omega) (by omega) (by omega)
    simp only [numR, denR, brokB]
    clear hv v5 hr
    go_enter Tryz.func74, Tryz.ntmps74
    go_wp2_with fail
    refine (W1 _).mono ?_
    rintro e w1 ⟨rfl, hg1⟩
    go_wp2_with fail
    go_ret
    exact ⟨rfl, (((Gr.refl _).alloc _).alloc _).trans hg1⟩
/-- The bounds in a row of the call's own. -/
def GivesAll (w : World) (l : List Clk) (ms : List Lmt) (e : Ending) (w' : World) : Prop :=
  ∃ v, e = .returned v ∧ w'.ownsRow w.heap.size 116 5 v (allB l ms).length ((allB l ms).flatMap encB) ∧ Gr w w'
theorem bnds_of_owns {w : World} {base : Nat} {v : Value} {bs : List Bnd} (h : w.ownsRow base 116 5 v bs.length (bs.flatMap encB)) : ∃ a c, v = .slice a bs.length c ∧ SlOf 5 RBnd w a bs := by
  rcases Nat.eq_zero_or_pos bs.length with e | e
  · have : bs = [] := List.eq_nil_of_length_eq_zero e
    subst this
    obtain ⟨a, c, e⟩ := owns_slice h
    exact ⟨a, c, e, SlOf.nil _ _ _ _⟩
  · obtain ⟨g, cap, e1, h1, _, hc⟩ := owns_cell h e
    refine ⟨_, cap, e1, fun k hk => ⟨g, 0, rfl, ?_⟩⟩
    have hf := fun j (hj : j < 5) => flat_at encB 5 (fun _ => rfl) bs k j hk hj
    have h2 : ∀ j, j < 5 → w.cell? ⟨g, k * 5 + j, none⟩ = (encB bs[k])[j]? := fun j hj => by
      rw [hc (k * 5 + j) (by omega), hf j hj]
    rw [Nat.zero_add]
    exact ⟨h2 0 (by omega), h2 1 (by omega), h2 2 (by omega), h2 3 (by omega), h2 4 (by omega)⟩
set_option maxRecDepth 100000 in
set_option maxHeartbeats 2000000 in
theorem all_any (l : List Clk) (ms : List Lmt) (al am : Option Addr) (cl cm : Nat) (w : World) (h : SlOf 5 RClk w al l) (hm : SlOf 3 RLmt w am ms) (hl : l.length ≤ 16) (hml : ms.length ≤ 32) :
    Calls Tryz.prog 67 #[.slice al l.length cl, .slice am ms.length cm] w (GivesAll w l ms) := by
  obtain ⟨i0, hi, hz0, hz1, hz2⟩ := info_parts infoBnd
  have H := Lib.hid h
  have HM := Lib.hid hm
  clear h hm
  go_enter Tryz.func67, Tryz.ntmps67
  go_wp2_with fail
  go_loopw [5, 12] (fun s5 s12 wr => ∃ (k : Nat) (a : Option Addr) (c : Nat), k ≤ ms.length ∧ s12 = .int .i64 (k : Int) ∧ s5 = .slice a k c ∧ wr.ownsRow w.heap.size 116 5 (.slice a k c) k ((limsB (ms.take k)).flatMap encB) ∧ Gr w wr) (fun _ s12 _ => ms.length - (intOf s12).toNat)
  case atStart => exact ⟨0, none, 0, Nat.zero_le _, rfl, rfl, World.ownsRow_nil _ _ _ _, Gr.refl _⟩
  case round =>
    obtain ⟨k, a, c, hk, rfl, rfl, ho, hg⟩ := hrel
    have HO := Lib.hid ho
    have HG := Lib.hid hg
    by_cases hlt : k < ms.length
    · obtain ⟨b, o, rfl, ⟨d0, _⟩, ⟨d1, _⟩, ⟨d2, _⟩⟩ := lmts_gr HM.out hg k hlt
      have k2 : (k : Int) < ms.length := by omega
      have hh := has_of_cell d0
      clear ho hg
      obtain ⟨W3, hW3⟩ : ∃ W3 : World, Hid (W3 = (wr.alloc (.cells #[.int .i64 ms[k].clock, .int .i64 ms[k].low, .int .i64 ms[k].high] 35)).alloc (.cells #[.int .i64 (k : Int), .int .i64 ms[k].clock, .int .i64 ms[k].low, .int .i64 ms[k].high, .bool false] 116)) := ⟨_, Lib.hid rfl⟩
      have g3 : Hid (Gr wr W3) := Lib.hid (by rw [hW3.out]; exact ((Gr.refl _).alloc _).alloc _)
      have O3 := Lib.hid (Gr.owns HO.out g3.out)
      have G3 := Lib.hid (HG.out.trans g3.out)
      have CC : Hid (∀ j u, ([.int .i64 (k : Int), .int .i64 ms[k].clock, .int .i64 ms[k].low, .int .i64 ms[k].high, .bool false] : List Value)[j]? = some u → W3.cell? ((⟨wr.heap.size + 1, 0, none⟩ : Addr).add j) = some u) := Lib.hid (by
        have := row_cells (Row.new (wr.alloc (.cells #[.int .i64 ms[k].clock, .int .i64 ms[k].low, .int .i64 ms[k].high] 35)) #[.int .i64 (k : Int), .int .i64 ms[k].clock, .int .i64 ms[k].low, .int .i64 ms[k].high, .bool false] 116)
        rw [← hW3.out] at this
        have e : (wr.alloc (.cells #[.int .i64 ms[k].clock, .int .i64 ms[k].low, .int .i64 ms[k].high] 35)).heap.size = wr.heap.size + 1 := by simp
        rw [e] at this
        exact this)
      have one : Hid (∀ u ∈ ([.int .i64 (k : Int), .int .i64 ms[k].clock, .int .i64 ms[k].low, .int .i64 ms[k].high, .bool false] : List Value), u.oneCell' = true) := Lib.hid (by
        intro u hu
        simp only [List.mem_cons, List.not_mem_nil, or_false] at hu
        rcases hu with rfl | rfl | rfl | rfl | rfl <;> rfl)
      have base := Lib.hid G3.out.size
      clear HO g3
      go_wp2_with (first
        | (at_builtin; rw [← hW3.out]; refine wpList_append_own _ rfl _ _ 107 rfl w.heap.size 116 i0 (.agg #[.int .i64 0, .int .i64 0, .int .i64 0, .int .i64 0, .bool false]) 5 40 Tryz.underlying107 hi hz0 hz1 hz2 rfl (by decide) (.slice a k c) k ((limsB (ms.take k)).flatMap encB) rfl O3.out ⟨wr.heap.size + 1, 0, none⟩ 1 1 [.int .i64 (k : Int), .int .i64 ms[k].clock, .int .i64 ms[k].low, .int .i64 ms[k].high, .bool false] rfl rfl CC.out one.out (by unfold maxLen; omega) (by omega) base.out ?_; intro v' W4 hown hgrow hnil; obtain ⟨a4, c4, rfl⟩ := owns_slice hown; have O4 := Lib.hid hown; have G4 := Lib.hid (G3.out.grown hgrow (fun k e => (O3.out.lt k e).1)); clear hown hgrow hnil)
        | fail)
      go_roundw
      case rel =>
        refine ⟨k + 1, a4, c4, by omega, by go_num, rfl, ?_, G4.out⟩
        have := O4.out
        rw [limsB_take ms k hlt, List.flatMap_append]
        exact this
      case measure => simp [intOf]; omega
    · have hk' : k = ms.length := by omega
      subst hk'
      rw [List.take_length] at ho
      have O2 : Hid (∃ bs : List Bnd, bs = limsB ms ++ ownB ms.length (l.take 0) ∧ wr.ownsRow w.heap.size 116 5 (.slice a bs.length c) bs.length (bs.flatMap encB)) := Lib.hid ⟨limsB ms, by simp [ownB], by rw [limsB_len]; exact ho⟩
      have AL : Hid (ms.length = (limsB ms).length) := Lib.hid (limsB_len ms).symm
      clear ho hg HO
      go_wp2_with fail
      obtain ⟨wo, hwo⟩ : ∃ wo : World, wo = wr := ⟨_, rfl⟩
      rw [← hwo] at HG O2 ⊢
      clear hwo
      go_loopw [5, 31] (fun s5 s31 wr => ∃ (k : Nat) (bs : List Bnd) (a : Option Addr) (c : Nat), k ≤ l.length ∧ s31 = .int .i64 (k : Int) ∧ bs = limsB ms ++ ownB ms.length (l.take k) ∧ s5 = .slice a bs.length c ∧ wr.ownsRow w.heap.size 116 5 (.slice a bs.length c) bs.length (bs.flatMap encB) ∧ Gr w wr) (fun _ s31 _ => l.length - (intOf s31).toNat)
      case atStart =>
        obtain ⟨bs, e, h⟩ := O2.out
        have el : bs.length = ms.length := by rw [e]; simp [ownB, limsB_len]
        exact ⟨0, bs, a, c, Nat.zero_le _, rfl, e, by rw [el], h, HG.out⟩
      case round =>
        clear O2
        obtain ⟨k, bs, a, c, hk, rfl, hbs, rfl, ho, hg⟩ := hrel
        have HO := Lib.hid ho
        have HG := Lib.hid hg
        have HBS := Lib.hid hbs
        have hbl : bs.length ≤ 48 := by
          have h1 := ownB_len ms.length (l.take k)
          rw [List.length_take] at h1
          rw [hbs, List.length_append, limsB_len]; omega
        clear hbs
        by_cases hlt : k < l.length
        · obtain ⟨b, o, rfl, ⟨d0, _⟩, ⟨ap, cp, d1, _⟩, ⟨ac, cc, d2, _, d2f, _⟩, ⟨d3, _⟩, ⟨d4, _⟩⟩ := clks_gr H.out hg k hlt
          have k2 : (k : Int) < l.length := by omega
          have hh := has_of_cell d0
          clear ho hg
          by_cases h0 : l[k].high = 0
          · have hb : (l[k].high != 0) = false := by simp [h0]
            have B2 : Hid (bs = limsB ms ++ ownB ms.length (l.take (k + 1))) := Lib.hid (by rw [ownB_take ms.length l k hlt, HBS.out]; simp [ownOne, h0])
            clear h0
            go_wp2_with fail
            go_roundw
            case rel => exact ⟨k + 1, bs, a, c, by omega, by go_num, B2.out, rfl, Gr.owns HO.out ((Gr.refl _).alloc _), HG.out.alloc _⟩
            case measure => simp [intOf]; omega
          · have hb : (l[k].high != 0) = true := by simp [h0]
            have B2 : Hid (bs ++ [⟨((ms.length + k : Nat) : Int), k, l[k].low, l[k].high, true⟩] = limsB ms ++ ownB ms.length (l.take (k + 1))) := Lib.hid (by rw [ownB_take ms.length l k hlt, HBS.out]; simp [ownOne, h0])
            have hw : IntKind.i64.wrap ((ms.length : Int) + (k : Int)) = (ms.length : Int) + (k : Int) := by rw [IntKind.wrap_i64]; omega
            clear h0
            obtain ⟨W3, hW3⟩ : ∃ W3 : World, Hid (W3 = (wr.alloc (.cells #[.int .i64 l[k].kind, .slice ap l[k].parents.length cp, .slice ac l[k].choices.length cc, .int .i64 l[k].low, .int .i64 l[k].high] 79)).alloc (.cells #[.int .i64 ((ms.length : Int) + (k : Int)), .int .i64 (k : Int), .int .i64 l[k].low, .int .i64 l[k].high, .bool true] 116)) := ⟨_, Lib.hid rfl⟩
            have g3 : Hid (Gr wr W3) := Lib.hid (by rw [hW3.out]; exact ((Gr.refl _).alloc _).alloc _)
            have O3 := Lib.hid (Gr.owns HO.out g3.out)
            have G3 := Lib.hid (HG.out.trans g3.out)
            have CC : Hid (∀ j u, ([.int .i64 ((ms.length : Int) + (k : Int)), .int .i64 (k : Int), .int .i64 l[k].low, .int .i64 l[k].high, .bool true] : List Value)[j]? = some u → W3.cell? ((⟨wr.heap.size + 1, 0, none⟩ : Addr).add j) = some u) := Lib.hid (by
              have := row_cells (Row.new (wr.alloc (.cells #[.int .i64 l[k].kind, .slice ap l[k].parents.length cp, .slice ac l[k].choices.length cc, .int .i64 l[k].low, .int .i64 l[k].high] 79)) #[.int .i64 ((ms.length : Int) + (k : Int)), .int .i64 (k : Int), .int .i64 l[k].low, .int .i64 l[k].high, .bool true] 116)
              rw [← hW3.out] at this
              have e : (wr.alloc (.cells #[.int .i64 l[k].kind, .slice ap l[k].parents.length cp, .slice ac l[k].choices.length cc, .int .i64 l[k].low, .int .i64 l[k].high] 79)).heap.size = wr.heap.size + 1 := by simp
              rw [e] at this
              exact this)
            have one : Hid (∀ u ∈ ([.int .i64 ((ms.length : Int) + (k : Int)), .int .i64 (k : Int), .int .i64 l[k].low, .int .i64 l[k].high, .bool true] : List Value), u.oneCell' = true) := Lib.hid (by
              intro u hu
              simp only [List.mem_cons, List.not_mem_nil, or_false] at hu
              rcases hu with rfl | rfl | rfl | rfl | rfl <;> rfl)
            have base := Lib.hid G3.out.size
            clear HO g3
            go_wp2_with (first
              | (at_builtin; rw [← hW3.out]; refine wpList_append_own _ rfl _ _ 107 rfl w.heap.size 116 i0 (.agg #[.int .i64 0, .int .i64 0, .int .i64 0, .int .i64 0, .bool false]) 5 40 Tryz.underlying107 hi hz0 hz1 hz2 rfl (by decide) (.slice a bs.length c) bs.length (bs.flatMap encB) rfl O3.out ⟨wr.heap.size + 1, 0, none⟩ 1 1 [.int .i64 ((ms.length : Int) + (k : Int)), .int .i64 (k : Int), .int .i64 l[k].low, .int .i64 l[k].high, .bool true] rfl rfl CC.out one.out (by unfold maxLen; omega) (by omega) base.out ?_; intro v' W4 hown hgrow hnil; obtain ⟨a4, c4, rfl⟩ := owns_slice hown; have O4 := Lib.hid hown; have G4 := Lib.hid (G3.out.grown hgrow (fun k e => (O3.out.lt k e).1)); clear hown hgrow hnil)
              | fail)
            go_roundw
            case rel =>
              refine ⟨k + 1, bs ++ [⟨((ms.length + k : Nat) : Int), k, l[k].low, l[k].high, true⟩], a4, c4, by omega, by go_num, B2.out, by simp, ?_, G4.out⟩
              have := O4.out
              rw [List.flatMap_append, List.length_append]
              simpa [encB] using this
            case measure => simp [intOf]; omega
        · have hk' : k = l.length := by omega
          subst hk'
          have E : Hid (bs = allB l ms) := Lib.hid (by have := HBS.out; rw [List.take_length] at this; exact this)
          rw [E.out] at ho
          clear HBS
          go_wp2_with fail
          go_ret
          exact ⟨_, by rw [E.out]; rfl, ho, hg⟩
end Go.Proofs.YtenehghpmnajpaaGreatDoor
/-! Plain: bits of what a setting breaks; visiting settings in order; what the loops of visit keep. -/
set_option linter.unusedVariables false
set_option linter.unusedSimpArgs false
namespace Go.Proofs.YtenehghpmnajpaaGreatDoor
open Go.RowKit
open Classical
def bitAcc (p : Nat → Bool) : Nat → BitVec 64
  | 0 => 0
  | k + 1 => if p k = true then bitAcc p k ||| BitVec.twoPow 64 k else bitAcc p k
theorem bitAcc_get (p : Nat → Bool) (k : Nat) (hk : k ≤ 64) (i : Nat) : (bitAcc p k).getLsbD i = (decide (i < k) && p i) := by
  induction k with
  | zero => simp [bitAcc]
  | succ k ih =>
    have h1 := ih (by omega)
    simp only [bitAcc]
    by_cases hp : p k = true
    · rw [if_pos hp, BitVec.getLsbD_or, h1, BitVec.getLsbD_twoPow]
      by_cases e : i = k
      · subst e; simp [hp]; omega
      · by_cases h : i < k
        · simp [h, show i < k + 1 by omega]; intro _ e'; omega
        · simp [h, show ¬ i < k + 1 by omega]; intro _ e'; omega
    · rw [if_neg hp, h1]
      by_cases e : i = k
      · subst e; simp [hp]
      · by_cases h : i < k
        · simp [h, show i < k + 1 by omega]
        · simp [h, show ¬ i < k + 1 by omega]
theorem bitAcc_zero (p : Nat → Bool) (k : Nat) (hk : k ≤ 64) : bitAcc p k = 0 ↔ ∀ i, i < k → p i = false := by
  constructor
  · intro h i hi
    have := bitAcc_get p k hk i
    rw [h] at this
    simpa [hi] using this
  · intro h
    apply BitVec.eq_of_getLsbD_eq
    intro i hi
    rw [bitAcc_get p k hk i]
    by_cases e : i < k
    · simp [h i e]
    · simp [e]
/-- Whether a setting breaks the bound with an index. -/
noncomputable def brk (l : List Clk) (ms : List Lmt) (s : List Int) (i : Nat) : Bool := match (allB l ms)[i]? with | some b => brokB b (rtAt (rts l s) b.clock.toNat) | none => false
theorem brk_at {l : List Clk} {ms : List Lmt} {s : List Int} {i : Nat} (h : i < (allB l ms).length) : brk l ms s i = brokB (allB l ms)[i] (rtAt (rts l s) (allB l ms)[i].clock.toNat) := by simp [brk, List.getElem?_eq_getElem h]
noncomputable def bitsS (l : List Clk) (ms : List Lmt) (s : List Int) : BitVec 64 := bitAcc (brk l ms s) (allB l ms).length
theorem meetS_bits (l : List Clk) (ms : List Lmt) (s : List Int) (h : (allB l ms).length ≤ 64) : meetS l ms s = decide (bitsS l ms s = 0) := by
  unfold meetS bitsS
  rw [decide_eq_decide, bitAcc_zero _ _ h]
  constructor
  · intro q i hi
    rw [brk_at hi]; exact q _ (List.getElem_mem hi)
  · intro q b hb
    obtain ⟨i, hi, rfl⟩ := List.getElem_of_mem hb
    rw [← brk_at hi]; exact q i hi
def vU64 (b : BitVec 64) : Value := .int .u64 (b.toNat : Int)
theorem wrap_u64 (x : Int) (h0 : 0 ≤ x) (h1 : x < 18446744073709551616) : IntKind.u64.wrap x = x := by
  simp [IntKind.wrap, IntKind.bits, IntKind.signed]; omega
theorem or_bits (A : BitVec 64) (i : Nat) (hi : i < 64) : Value.int IntKind.u64 (bits BinOp.or IntKind.u64 (A.toNat : Int) (IntKind.u64.wrap (2 ^ i))) = vU64 (A ||| BitVec.twoPow 64 i) := by
  obtain ⟨p, h1, h2, h3⟩ : ∃ p : Nat, (2 : Int) ^ i = (p : Int) ∧ p < 18446744073709551616 ∧ (BitVec.twoPow 64 i).toNat = p := by
    have hp : (2 : Nat) ^ i < 2 ^ 64 := Nat.pow_lt_pow_right (by omega) hi
    exact ⟨2 ^ i, by push_cast; rfl, hp, by rw [BitVec.toNat_twoPow]; exact Nat.mod_eq_of_lt hp⟩
  rw [h1, wrap_u64 _ (by omega) (by omega)]
  obtain ⟨B, hB⟩ : ∃ B, BitVec.twoPow 64 i = B := ⟨_, rfl⟩
  rw [hB] at h3 ⊢
  have e1 : BitVec.ofInt IntKind.u64.bits (A.toNat : Int) = A := by
    apply BitVec.eq_of_toNat_eq
    rw [BitVec.toNat_ofInt]
    show ((A.toNat : Int) % ((2 ^ 64 : Nat) : Int)).toNat = A.toNat
    have := A.isLt
    omega
  have e3 : BitVec.ofInt IntKind.u64.bits (p : Int) = B := by
    apply BitVec.eq_of_toNat_eq
    rw [BitVec.toNat_ofInt]
    show ((p : Int) % ((2 ^ 64 : Nat) : Int)).toNat = B.toNat
    omega
  unfold bits vU64
  simp only [e1, e3]
  congr 1
  obtain ⟨C, hC⟩ : ∃ C : BitVec 64, A ||| B = C := ⟨_, rfl⟩
  have hl := C.isLt
  show IntKind.u64.wrap ((A ||| B).toNat : Int) = ((A ||| B).toNat : Int)
  rw [hC]
  exact wrap_u64 _ (by omega) (by omega)
/-! Settings in order -/
/-- The setting with a number. -/
noncomputable def setN (l : List Clk) (n : Nat) : List Int := if h : ∃ s, SetOk l s ∧ num l s = (n : Int) then Classical.choose h else []
theorem setN_eq {l : List Clk} {s : List Int} {n : Nat} (hs : SetOk l s) (h : num l s = (n : Int)) : setN l n = s := by
  have hx : ∃ s, SetOk l s ∧ num l s = (n : Int) := ⟨s, hs, h⟩
  unfold setN
  rw [dif_pos hx]
  have := Classical.choose_spec hx
  exact num_inj this.1 hs (by rw [this.2, h])
/-- The state after the settings with numbers less than k. -/
noncomputable def stN {σ : Type} (step : σ → List Int → σ) (st : σ) (l : List Clk) (k : Nat) : σ := (List.range k).foldl (fun st i => step st (setN l i)) st
theorem stN_succ {σ : Type} (step : σ → List Int → σ) (st : σ) (l : List Clk) (k : Nat) : stN step st l (k + 1) = step (stN step st l k) (setN l k) := by
  unfold stN
  rw [List.range_succ, List.foldl_append]; rfl
/-! What the loops keep -/
/-- How a state lies in a world, away from some blocks. -/
abbrev Lie (σ : Type) := σ → World → List Nat → Prop
structure LieOk {σ : Type} (I : Lie σ) : Prop where
  keep : ∀ st w w' L row, I st w L → w.grownBy w' row → (∀ b, row = some b → b ∈ L) → I st w' L
  sub : ∀ st w L L', I st w L → (∀ b ∈ L', b ∈ L) → I st w L'
structure VI {σ : Type} (I : Lie σ) (w0 w : World) (bs : List Bnd) (ab : Option Addr) (SB : Nat) (GL L0 : List Nat) (st : σ) (wr : World) (u : List Int) : Prop where
  row : Row wr SB 3 (nums u)
  lst : SlOf 5 RBnd wr ab bs
  lblk : ∀ x, 0 < bs.length → ab = some x → x.block ∈ GL
  has : ∀ b ∈ GL, Has wr b
  ne : SB ∉ GL
  st : I st wr (SB :: (GL ++ L0))
  gr : Gr w0 wr
  keep : ∀ b ∈ L0, wr.heap[b]? = w.heap[b]?
  size : w.heap.size ≤ wr.heap.size
section
variable {σ : Type} {I : Lie σ} {w0 w : World} {bs : List Bnd} {ab : Option Addr} {SB : Nat} {GL L0 : List Nat} {st : σ} {wr w' : World} {u : List Int}
theorem VI.grow (h : VI I w0 w bs ab SB GL L0 st wr u) (hI : LieOk I) (hL : ∀ b ∈ L0, Has w b) (hg : Gr wr w') : VI I w0 w bs ab SB GL L0 st w' u where
  row := h.row.gr hg
  lst := h.lst.gr RBnd.mono hg
  lblk := h.lblk
  has := fun b hb => Nat.lt_of_lt_of_le (h.has b hb) hg.size
  ne := h.ne
  st := hI.keep _ _ _ _ none h.st (hg.by none) (fun b e => by cases e)
  gr := h.gr.trans hg
  keep := fun b hb => (hg.below.block b (Nat.lt_of_lt_of_le (hL b hb) h.size)).trans (h.keep b hb)
  size := Nat.le_trans h.size hg.size
theorem bnd_block {B : Nat} {w w' : World} (hb : ∀ x, 0 < bs.length → ab = some x → w'.heap[x.block]? = w.heap[x.block]?) (h : SlOf 5 RBnd w ab bs) : SlOf 5 RBnd w' ab bs := fun k hk => by
  obtain ⟨b, o, e, h0, h1, h2, h3, h4⟩ := h k hk
  have hh := hb ⟨b, o, none⟩ (by omega) e
  have hc : ∀ j, w'.cell? ⟨b, j, none⟩ = w.cell? ⟨b, j, none⟩ := fun j => by simp only [World.cell?, hh]
  exact ⟨b, o, e, by rw [hc]; exact h0, by rw [hc]; exact h1, by rw [hc]; exact h2, by rw [hc]; exact h3, by rw [hc]; exact h4⟩
/-- The row of the setting is written. -/
theorem VI.put (h : VI I w0 w bs ab SB GL L0 st wr u) (hI : LieOk I) (hL : ∀ b ∈ L0, Has w b) (hs : w.heap.size ≤ SB) (h0 : w0.heap.size ≤ SB) (hg : wr.grownBy w' (some SB)) {u' : List Int} (hr : Row w' SB 3 (nums u')) : VI I w0 w bs ab SB GL L0 st w' u' where
  row := hr
  lst := bnd_block (B := SB) (fun x hx e => hg.block x.block (h.has _ (h.lblk x hx e)) (fun q => h.ne (by injection q with q; rw [← q]; exact h.lblk x hx e))) h.lst
  lblk := h.lblk
  has := fun b hb => Nat.lt_of_lt_of_le (h.has b hb) hg.size
  ne := h.ne
  st := hI.keep _ _ _ _ _ h.st hg (fun b e => by injection e with e; subst e; simp)
  gr := h.gr.grown hg (fun k e => by injection e with e; omega)
  keep := fun b hb => (hg.block b (Nat.lt_of_lt_of_le (hL b hb) h.size) (fun e => by have := hL b hb; unfold Has at this; injection e with e; omega)).trans (h.keep b hb)
  size := Nat.le_trans h.size hg.size
/-- The function was called. -/
theorem VI.call {st' : σ} (h : VI I w0 w bs ab SB GL L0 st wr u) (h1 : I st' w' (SB :: (GL ++ L0))) (h2 : Gr w0 w') (h3 : ∀ b ∈ SB :: (GL ++ L0), w'.heap[b]? = wr.heap[b]?) (h4 : wr.heap.size ≤ w'.heap.size) : VI I w0 w bs ab SB GL L0 st' w' u where
  row := by have := h.row; unfold Row at this ⊢; rw [h3 SB (by simp)]; exact this
  lst := bnd_block (B := SB) (fun x hx e => h3 x.block (by simp [h.lblk x hx e])) h.lst
  lblk := h.lblk
  has := fun b hb => Nat.lt_of_lt_of_le (h.has b hb) h4
  ne := h.ne
  st := h1
  gr := h2
  keep := fun b hb => (h3 b (by simp [hb])).trans (h.keep b hb)
  size := Nat.le_trans h.size h4
theorem VI.hasL (h : VI I w0 w bs ab SB GL L0 st wr u) (hL : ∀ b ∈ L0, Has w b) : ∀ b ∈ SB :: (GL ++ L0), Has wr b := by
  intro b hb
  rcases List.mem_cons.1 hb with e | hb
  · subst e; exact h.row.has
  · rcases List.mem_append.1 hb with hb | hb
    · exact h.has b hb
    · exact Nat.lt_of_lt_of_le (hL b hb) h.size
end
theorem row_setCells {B : Nat} : ∀ (k o : Nat) (w : World) (u : List Int), Row w B 3 (nums u) → o + k ≤ u.length → Row (w.setCells B o (List.replicate k (.int .i64 0))) B 3 (nums (u.take o ++ List.replicate k 0 ++ u.drop (o + k))) := by
  intro k
  induction k with
  | zero => intro o w u h ho; simpa [World.setCells] using h
  | succ k ih =>
    intro o w u h ho
    rw [List.replicate_succ, World.setCells]
    have := ih (o + 1) _ _ (h.iset o 0) (by rw [List.length_set]; omega)
    have e : (u.set o 0).take (o + 1) ++ List.replicate k 0 ++ (u.set o 0).drop (o + 1 + k) = u.take o ++ List.replicate (k + 1) 0 ++ u.drop (o + (k + 1)) := by
      rw [List.drop_set_of_lt (by omega), List.take_set]
      have e2 : u.take (o + 1) = u.take o ++ [u[o]] := by rw [List.take_add_one, List.getElem?_eq_getElem (by omega)]; rfl
      rw [e2, List.set_append_right _ _ (by simp; omega)]
      have e3 : (u.take o).length = o := by rw [List.length_take]; omega
      simp only [e3, Nat.sub_self, List.set_cons_zero, List.append_assoc, List.cons_append, List.nil_append, List.replicate_succ]
      rw [show o + 1 + k = o + (k + 1) by omega]
    rw [← e]; exact this
theorem grown_setCells (B : Nat) : ∀ (vs : List Value) (o : Nat) (w : World), w.grownBy (w.setCells B o vs) (some B) := by
  intro vs
  induction vs with
  | nil => intro o w; exact (Gr.refl w).by _
  | cons v vs ih =>
    intro o w
    rw [World.setCells]
    have h1 := grownBy_set w B o v
    have h2 := ih (o + 1) (w.setCell ⟨B, o, none⟩ v)
    exact ⟨h2.os.trans h1.os, h2.tape.trans h1.tape, h2.output.trans h1.output, Nat.le_trans h1.size h2.size, fun k hk hne => (h2.block k (Nat.lt_of_lt_of_le hk h1.size) hne).trans (h1.block k hk hne)⟩
end Go.Proofs.YtenehghpmnajpaaGreatDoor
/-! Contract of tuning.visit with Count's function, for whatever that does (printed by wip/tools/visit.py). -/
set_option linter.unusedVariables false
set_option linter.unusedSimpArgs false
namespace Go.Proofs.YtenehghpmnajpaaGreatDoor
open Go.RowKit
open Classical
/-- What the function does at a setting. -/
def SeeC {σ : Type} (I : Lie σ) (step : σ → List Int → σ) (more : σ → Bool) (l : List Clk) (ms : List Lmt) (c1 : Nat) (w0 : World) : Prop :=
  ∀ (s : List Int) (st : σ) (w : World) (L : List Nat) (B c : Nat), SetOk l s → Gr w0 w → I st w L → (∀ b ∈ L, Has w b) → Row w B 3 (nums s) → B ∈ L →
    Calls Tryz.prog 63 #[.slice (some ⟨B, 0, none⟩) l.length c, vU64 (bitsS l ms s), .pointer (some ⟨c1, 0, none⟩)] w fun e w' => e = .returned (.bool (more (step st s))) ∧ I (step st s) w' L ∧ Gr w0 w' ∧ (∀ b ∈ L, w'.heap[b]? = w.heap[b]?) ∧ w.heap.size ≤ w'.heap.size
set_option maxRecDepth 100000 in
set_option maxHeartbeats 2000000 in
theorem visitC_any {σ : Type} (I : Lie σ) (step : σ → List Int → σ) (more : σ → Bool) (l : List Clk) (ms : List Lmt) (al am : Option Addr) (cl cm c1 : Nat) (L0 : List Nat) (w0 w : World) (st : σ)
    (henv : Env w0 l ms al am) (hg0 : Gr w0 w) (hL : ∀ b ∈ L0, Has w b) (hI : LieOk I)
    (hst : ∀ w1 L, Gr w w1 → (∀ b ∈ L, b ∈ L0 ∨ w.heap.size ≤ b) → I st w1 L) (hv : SeeC I step more l ms c1 w0) :
    Calls Tryz.prog 58 #[.slice al l.length cl, .slice am ms.length cm, .func (.func 63) #[] #[.pointer (some ⟨c1, 0, none⟩)]] w fun e w' =>
      e = .returned (.tuple #[]) ∧ ∃ k : Nat, 1 ≤ k ∧ k ≤ prodC l ∧ I (stN step st l k) w' L0 ∧ (k = prodC l ∨ more (stN step st l k) = false) ∧ (∀ j, 1 ≤ j → j < k → more (stN step st l j) = true) ∧ Gr w0 w' ∧ (∀ b ∈ L0, w'.heap[b]? = w.heap[b]?) ∧ w.heap.size ≤ w'.heap.size := by
  obtain ⟨nb, okC, prC, _⟩ := cchk_zero henv.chk
  have hl := small_len nb
  have hml := henv.lims.1
  have NB := Lib.hid nb
  have HE := Lib.hid henv
  have HG0 := Lib.hid hg0
  have HL := Lib.hid hL
  have HI := Lib.hid hI
  have HS := Lib.hid hst
  have HV := Lib.hid hv
  have HC1 := Lib.hid (allOk_cho okC)
  have AL := all_any l ms al am cl cm w (clks_gr henv.clks hg0) (lmts_gr henv.lmts hg0) hl hml
  have AL' := Lib.hid AL
  have BL : Hid ((allB l ms).length ≤ 48) := Lib.hid (by have := allB_len l ms; omega)
  have BO := Lib.hid (allB_ok (l := l) (ms := ms) henv.lims)
  have hmk := run_make_row' (P := Tryz.prog) 22 3 (.int .i64 0) 8 Tryz.underlying22 infoInt rfl .i64 .i64 l.length (by omega) (by omega)
  have Z : Hid (SetOk l (List.replicate l.length 0) ∧ num l (List.replicate l.length 0) = 0) := Lib.hid (by
    have hz : ∀ i, sOf (List.replicate l.length 0) i = 0 := fun i => by
      unfold sOf
      rw [List.getD_eq_getElem?_getD, List.getElem?_replicate]; split <;> rfl
    refine ⟨setOk_of (by rw [List.length_replicate]) (fun i hi => ?_), ?_⟩
    · rw [hz, kOf_at hi]
      have := HC1.out _ (List.getElem_mem hi); omega
    · have : ∀ j, numU (kOf l) (sOf (List.replicate l.length 0)) j = 0 := by
        intro j
        induction j with
        | zero => rfl
        | succ j ih => simp only [numU]; rw [ih, hz]; simp
      exact this _)
  have PC : Hid (1 ≤ prodC l) := Lib.hid (prodC_pos HC1.out)
  clear nb henv hg0 hL hI hst hv AL okC
  go_enter Tryz.func58, Tryz.ntmps58
  go_wp2_with fail
  refine AL'.out.mono ?_
  rintro e w1 ⟨v, rfl, ho, hg1⟩
  obtain ⟨ab, cb, rfl, hbs⟩ := bnds_of_owns ho
  obtain ⟨GL, hGL⟩ : ∃ GL : List Nat, Hid ((∀ x, 0 < (allB l ms).length → ab = some x → x.block ∈ GL) ∧ (∀ b ∈ GL, Has w1 b ∧ w.heap.size ≤ b)) := by
    by_cases h0 : 0 < (allB l ms).length
    · obtain ⟨g, cap, e, _, hb, hc⟩ := owns_cell ho h0
      cases e
      obtain ⟨b', o', e', q, _⟩ := hbs 0 h0
      cases e'
      exact ⟨[g], Lib.hid ⟨fun x _ e => by cases e; simp, fun b hb' => by
        have : b = g := by simpa using hb'
        subst this
        exact ⟨has_of_cell q, hb⟩⟩⟩
    · exact ⟨[], Lib.hid ⟨fun x h _ => absurd h h0, fun b hb => by cases hb⟩⟩
  have BS := Lib.hid hbs
  have G1 := Lib.hid hg1
  clear ho hbs hg1 AL'
  go_wp2_with fail
  obtain ⟨W2, hW2⟩ : ∃ W2 : World, Hid (W2 = w1.alloc (.cells (madeCells #[.int .i64 0] l.length) 3)) := ⟨_, Lib.hid rfl⟩
  rw [← hW2.out]
  obtain ⟨SB, hSB⟩ : ∃ SB : Nat, Hid (w1.heap.size = SB) := ⟨_, Lib.hid rfl⟩
  rw [hSB.out]
  have g2 : Hid (Gr w1 W2) := Lib.hid (by rw [hW2.out]; exact (Gr.refl _).alloc _)
  have sb : Hid (w.heap.size ≤ SB) := Lib.hid (by have := G1.out.size; have := hSB.out; omega)
  have s0 : Hid (w0.heap.size ≤ SB) := Lib.hid (Nat.le_trans HG0.out.size sb.out)
  have V2 : Hid (VI I w0 w (allB l ms) ab SB GL L0 st W2 (List.replicate l.length 0)) := Lib.hid
    { row := by
        rw [hW2.out, ← hSB.out]
        have := Row.new w1 (madeCells #[.int .i64 0] l.length) 3
        rw [made_zero] at this
        have e : nums (List.replicate l.length 0) = List.replicate l.length (.int .i64 0) := by simp [nums]
        rw [e]; exact this
      lst := BS.out.gr RBnd.mono g2.out
      lblk := hGL.out.1
      has := fun b hb => Nat.lt_of_lt_of_le (hGL.out.2 b hb).1 g2.out.size
      ne := fun q => by have := (hGL.out.2 _ q).1; have := hSB.out; unfold Has at *; omega
      st := HS.out _ _ (G1.out.trans g2.out) (fun b hb => by
        rcases List.mem_cons.1 hb with e | hb
        · subst e; exact .inr sb.out
        · rcases List.mem_append.1 hb with hb | hb
          · exact .inr (hGL.out.2 b hb).2
          · exact .inl hb)
      gr := HG0.out.trans (G1.out.trans g2.out)
      keep := fun b hb => (G1.out.trans g2.out).below.block b (HL.out b hb)
      size := (G1.out.trans g2.out).size }
  clear hW2 BS G1 g2 hGL hSB hmk HS
  go_loopg [10] (prodC l) (fun gg s10 wx => ∃ (u : List Int) (k : Nat), SetOk l u ∧ num l u = (k : Int) ∧ gg + k = prodC l ∧ VI I w0 w (allB l ms) ab SB GL L0 (stN step st l k) wx u ∧ ∀ j, 1 ≤ j → j ≤ k → more (stN step st l j) = true)
  case atStart => exact ⟨_, 0, Z.out.1, Z.out.2, by simp, V2.out, fun j h1 h2 => by omega⟩
  case round =>
    clear V2 Z
    obtain ⟨u, k, hu, hnum, hgk, hvi, hmore⟩ := hrel
    have HU := Lib.hid hu
    have HN := Lib.hid hnum
    have GK := Lib.hid hgk
    have V3 := Lib.hid hvi
    have MO := Lib.hid hmore
    have UL := Lib.hid hu.1
    have RT := pRates_any l u al (some ⟨SB, 0, none⟩) cl l.length wr (clks_gr HE.out.clks hvi.gr) (hvi.row.s.slI (setOk_wide HE.out.chk hu)) HE.out.chk hu (HE.out.off.gr hvi.gr)
    rw [hu.1] at RT
    have RT' := Lib.hid RT
    clear hu hnum hgk hvi hmore RT
    go_wp2_with fail
    refine RT'.out.mono ?_
    rintro e w3 ⟨RB, rfl, hrr, hrb, hg3⟩
    have V4 := Lib.hid (V3.out.grow HI.out HL.out hg3)
    have RR := Lib.hid hrr
    have RL : Hid ((rts l u).length = l.length) := Lib.hid (by rw [rts_len _ _ UL.out.symm])
    have RG := Lib.hid (rts_good HE.out.chk HU.out)
    clear hrr hrb hg3 RT' V3
    obtain ⟨R, eR⟩ : ∃ R, Hid (rts l u = R) := ⟨_, Lib.hid rfl⟩
    rw [eR.out] at RR RL RG
    obtain ⟨acc0, hacc0⟩ : ∃ acc0 : Int, Hid (acc0 = ((bitAcc (brk l ms u) 0).toNat : Int)) := ⟨_, Lib.hid rfl⟩
    go_wp2_with fail
    obtain ⟨wo, hwo⟩ : ∃ wo : World, wo = w3 := ⟨_, rfl⟩
    rw [← hwo] at V4 RR ⊢
    clear hwo
    go_loopw [10, 28] (fun s10 s28 wr => ∃ i : Nat, i ≤ (allB l ms).length ∧ s28 = .int .i64 (i : Int) ∧ s10 = vU64 (bitAcc (brk l ms u) i) ∧ Gr wo wr) (fun _ s28 _ => (allB l ms).length - (intOf s28).toNat)
    case atStart => exact ⟨0, Nat.zero_le _, rfl, rfl, Gr.refl _⟩
    case round =>
      obtain ⟨i, hi, rfl, rfl, hg⟩ := hrel
      have G5 := Lib.hid hg
      by_cases hlt : i < (allB l ms).length
      · have i2 : (i : Int) < (allB l ms).length := by omega
        obtain ⟨b, o, eab, d0, d1, d2, d3, d4⟩ := (V4.out.lst.gr RBnd.mono hg) i hlt
        subst eab
        obtain ⟨q0, q1⟩ := BO.out _ (List.getElem_mem hlt)
        obtain ⟨x, hx⟩ : ∃ x, (allB l ms)[i] = x := ⟨_, rfl⟩
        have BK := brk_at (s := u) hlt
        rw [eR.out] at BK
        rw [hx] at d0 d1 d2 d3 d4 q0 q1 BK
        obtain ⟨q, hq⟩ : ∃ q : Nat, x.clock = q := ⟨_, (Int.toNat_of_nonneg q0).symm⟩
        have hqR : q < R.length := by have := RL.out; omega
        have eq : x.clock.toNat = q := by omega
        rw [eq] at BK
        have e := rtAt_eq hqR
        have hgd : GoodR (rtAt R q) := by rw [e]; exact RG.out q hqR
        have r0 := (RR.out.gr hg).cell (q * 2) (by rw [encP_len, List.length_map]; omega)
        have r1 := (RR.out.gr hg).cell (q * 2 + 1) (by rw [encP_len, List.length_map]; omega)
        have hat := encP_at (R.map prR) q (by rw [List.length_map]; exact hqR)
        rw [hat.1] at r0
        rw [hat.2] at r1
        simp only [List.getElem_map, prR] at r0 r1
        rw [← e] at r0 r1
        obtain ⟨r, hr⟩ : ∃ r, rtAt R q = r := ⟨_, rfl⟩
        rw [hr] at r0 r1 hgd BK
        have BR := Lib.hid (fun W => broken_any x r W hgd)
        have hh := has_of_cell d0
        have h0 := has_of_cell r0
        have q2 : (q : Int) < l.length := by omega
        rw [hq] at d1 BR
        have HB := Lib.hid BK
        have accS : Hid (bitAcc (brk l ms u) (i + 1) = if brk l ms u i = true then bitAcc (brk l ms u) i ||| BitVec.twoPow 64 i else bitAcc (brk l ms u) i) := Lib.hid rfl
        have i64 : i < 64 := by have := BL.out; omega
        obtain ⟨A, hA⟩ : ∃ A, bitAcc (brk l ms u) i = A := ⟨_, rfl⟩
        rw [hA] at accS ⊢
        clear hg hat e hr hgd BK hq eq q0 q1 hx hA
        cases hb : brokB x r with
        | false =>
          rw [hb] at BR HB
          have S1 : Hid (bitAcc (brk l ms u) (i + 1) = A) := Lib.hid (by rw [accS.out, HB.out]; simp)
          clear hb accS
          go_wp2_with fail
          refine wp_region_grows (by kernel_rfl) (by kernel_rfl) ?_
          repeat (go_big_quiet_step (first | (go_at_call 74; exact calls_grows (BR.out _))))
          refine wpQuiet_nil ?_
          rintro _ ⟨⟨O, d⟩, rfl⟩
          go_wp2_with fail
          go_roundw
          case rel => exact ⟨i + 1, by omega, by go_num, by rw [S1.out], (G5.out.alloc _).xt _ _⟩
          case measure => simp [intOf]; omega
        | true =>
          rw [hb] at BR HB
          have S1 : Hid (bitAcc (brk l ms u) (i + 1) = A ||| BitVec.twoPow 64 i) := Lib.hid (by rw [accS.out, HB.out]; simp)
          have OB := Lib.hid (or_bits A i i64)
          clear hb accS
          unfold vU64
          go_wp2_with fail
          refine wp_region_grows (by kernel_rfl) (by kernel_rfl) ?_
          repeat (go_big_quiet_step (first | (go_at_call 74; exact calls_grows (BR.out _))))
          refine wpQuiet_nil ?_
          rintro _ ⟨⟨O, d⟩, rfl⟩
          go_wp2_with fail
          go_roundw
          case rel => exact ⟨i + 1, by omega, by go_num, by rw [S1.out]; exact OB.out, (G5.out.alloc _).xt _ _⟩
          case measure => simp [intOf]; omega
      · have hi' : i = (allB l ms).length := by omega
        subst hi'
        have V6' := V4.out.grow HI.out HL.out hg
        have V6 := Lib.hid V6'
        have CV := HV.out u (stN step st l k) wr _ SB l.length HU.out V6'.gr V6'.st (V6'.hasL HL.out) V6'.row (by simp)
        have CV' := Lib.hid CV
        have ES : Hid (stN step st l (k + 1) = step (stN step st l k) u) := Lib.hid (by rw [stN_succ, setN_eq HU.out HN.out])
        have BB : Hid (bitAcc (brk l ms u) (allB l ms).length = bitsS l ms u) := Lib.hid rfl
        rw [BB.out]
        rw [← ES.out] at CV'
        clear hg V6' CV V4 RR G5 hacc0
        obtain ⟨X, hX⟩ : ∃ X, vU64 (bitsS l ms u) = X := ⟨_, rfl⟩
        rw [hX] at CV' ⊢
        clear hX
        go_wp2_with fail
        refine CV'.out.mono ?_
        rintro e w7 ⟨rfl, hs1, hs2, hs3, hs4⟩
        have V7 := Lib.hid (V6.out.call hs1 hs2 hs3 hs4)
        clear hs1 hs2 hs3 hs4 V6 CV'
        cases hm : more (stN step st l (k + 1)) with
        | false =>
          have HM := Lib.hid hm
          clear hm
          go_wp2_with fail
          refine bodyPost_ret (results_none rfl _ _ _) rfl ?_
          refine ⟨rfl, ?_⟩
          exact ⟨k + 1, by omega, by have := (num_bound HU.out).2; have := HN.out; omega, HI.out.sub _ _ _ _ V7.out.st (fun b hb => by simp [hb]), .inr HM.out, fun j h1 h2 => MO.out j h1 (by omega), V7.out.gr, V7.out.keep, V7.out.size⟩
        | true =>
          have HM := Lib.hid hm
          clear hm
          go_wp2_with fail
          have MO2 : Hid (∀ j, 1 ≤ j → j ≤ k + 1 → more (stN step st l j) = true) := Lib.hid (fun j h1 h2 => by
            by_cases e : j = k + 1
            · subst e; exact HM.out
            · exact MO.out j h1 (by omega))
          have wq : IntKind.i64.wrap ((l.length : Int) - 1) = (l.length : Int) - 1 := by rw [IntKind.wrap_i64]; omega
          obtain ⟨wo, hwo⟩ : ∃ wo : World, wo = w7 := ⟨_, rfl⟩
          rw [← hwo] at V7 ⊢
          clear hwo
          go_loopw [13] (fun s13 wr => ∃ j : Nat, j ≤ l.length ∧ s13 = .int .i64 ((j : Int) - 1) ∧ AllLast l u j ∧ Gr wo wr) (fun s13 _ => (intOf s13 + 1).toNat)
          case atStart => exact ⟨l.length, Nat.le_refl _, rfl, fun i h1 h2 => by omega, Gr.refl _⟩
          case round =>
            obtain ⟨j, hj, rfl, hla, hg⟩ := hrel
            have LA := Lib.hid hla
            have G8 := Lib.hid hg
            have V8 := Lib.hid (V7.out.grow HI.out HL.out hg)
            clear hla hg
            cases j with
            | zero =>
              have e0 : (((0 : Nat) : Int) - 1) = -1 := by omega
              rw [e0]
              go_wp2_with fail
              go_quiet (fail)
              go_wp2_with fail
              refine bodyPost_ret (results_none rfl _ _ _) rfl ?_
              refine ⟨rfl, ?_⟩
              have nl := num_last LA.out
              exact ⟨k + 1, by omega, by have := HN.out; omega, HI.out.sub _ _ _ _ (V8.out.grow HI.out HL.out ((Gr.refl _).drewN _)).st (fun b hb => by simp [hb]), .inl (by have := HN.out; omega), fun j h1 h2 => MO.out j h1 (by omega), V8.out.gr.drewN _, V8.out.keep, V8.out.size⟩
            | succ j =>
              rw [show (((j + 1 : Nat) : Int) - 1) = (j : Int) by omega]
              have hjl : j < l.length := by omega
              have hju : j < u.length := by rw [UL.out]; exact hjl
              obtain ⟨k0, k1⟩ := HU.out.2 j hjl hju
              obtain ⟨fp, fc⟩ := small_at NB.out hjl
              obtain ⟨b, o, eal, ⟨d0, _⟩, ⟨ap, cp, d1, _⟩, ⟨ac, cc, d2, _, d2f, _⟩, ⟨d3, _⟩, ⟨d4, _⟩⟩ := clks_gr HE.out.clks V8.out.gr j hjl
              subst eal
              have e0 := V8.out.row.iat j hju
              have rh := V8.out.row.has
              have hh := has_of_cell d0
              have j2 : (j : Int) < l.length := by omega
              have EK : Hid (kOf l j = (l[j].choices.length : Int)) := Lib.hid (kOf_at hjl)
              have ES' : Hid (sOf u j = u[j]) := Lib.hid (sOf_at hju)
              have ww : IntKind.i64.wrap ((l[j].choices.length : Int) - 1) = (l[j].choices.length : Int) - 1 := by rw [IntKind.wrap_i64]; omega
              unfold Fit at d2f
              by_cases hlast : u[j] = (l[j].choices.length : Int) - 1
              · have hb : (u[j] == (l[j].choices.length : Int) - 1) = true := by simp [hlast]
                have LA2 : Hid (AllLast l u j) := Lib.hid (fun i h1 h2 => by
                  by_cases e : i = j
                  · subst e; rw [EK.out, ES'.out]; exact hlast
                  · exact LA.out i (by omega) h2)
                clear hlast
                go_wp2_with fail
                go_quiet (fail)
                go_wp2_with fail
                go_roundw
                case rel => exact ⟨j, by omega, by go_num, LA2.out, G8.out.drewN _⟩
                case measure => simp [intOf]
              · have hb : (u[j] == (l[j].choices.length : Int) - 1) = false := by simp [hlast]
                have hlt2 : sOf u j + 1 < kOf l j := by rw [EK.out, ES'.out]; omega
                have NX := Lib.hid (nxS_ok HU.out hjl hlt2 (fun i hi => by
                  rw [kOf_at hi]
                  have := HC1.out _ (List.getElem_mem hi)
                  omega))
                have NM := Lib.hid (num_nxS HU.out hjl LA.out)
                have u1 : IntKind.i64.wrap (u[j] + 1) = u[j] + 1 := by rw [IntKind.wrap_i64]; omega
                have f0 := V8.out.row.free j
                clear hlast
                have NXe : Hid (nxS u j = (u.set j (u[j] + 1)).take (j + 1) ++ List.replicate (l.length - (j + 1)) 0 ++ (u.set j (u[j] + 1)).drop (j + 1 + (l.length - (j + 1)))) := Lib.hid (by
                  unfold nxS nxV
                  rw [ES'.out, UL.out, List.drop_of_length_le (by rw [List.length_set, UL.out]; omega), List.append_nil, List.set_append_left _ _ (by rw [List.length_take]; omega), List.take_set])
                have SN : Hid (stN step st l (k + 1) = stN step st l (k + 1)) := Lib.hid rfl
                go_wp2_with fail
                go_quiet (fail)
                obtain ⟨W9, hW9⟩ : ∃ W9 : World, wr.drewN nq = W9 := ⟨_, rfl⟩
                have V9 : Hid (VI I w0 w (allB l ms) ab SB GL L0 (stN step st l (k + 1)) W9 u) := Lib.hid (by rw [← hW9]; exact V8.out.grow HI.out HL.out ((Gr.refl _).drewN _))
                rw [hW9]
                clear hW9 e0 f0 rh d0 d1 d2 d3 d4 hh
                have e0 := V9.out.row.iat j hju
                have rh := V9.out.row.has
                have f0 := V9.out.row.free j
                obtain ⟨W10, hW10⟩ : ∃ W10 : World, W10 = W9.setCell ⟨SB, j, none⟩ (.int .i64 (u[j] + 1)) := ⟨_, rfl⟩
                have R10 : Hid (Row W10 SB 3 (nums (u.set j (u[j] + 1)))) := Lib.hid (by rw [hW10]; exact V9.out.row.iset j _)
                have g10 : Hid (W9.grownBy W10 (some SB)) := Lib.hid (by rw [hW10]; exact grownBy_set _ _ _ _)
                have ul2 : (u.set j (u[j] + 1)).length = l.length := by rw [List.length_set, UL.out]
                by_cases hj2 : l.length = j + 1
                · have hq : (l.length = j + 1) = True := eq_true hj2
                  have hc0 : ∀ w, (Builtin.clear_ #[22] 0 #[.slice (some ⟨SB, 0, none⟩) 0 0]).run Tryz.prog w = .ok (.tuple #[]) w := fun w => by
                    simp [Builtin.clear_, run_underlying Tryz.underlying22]
                  have R11 : Hid (Row W10 SB 3 (nums (nxS u j))) := Lib.hid (by
                    rw [NXe.out, show l.length - (j + 1) = 0 by omega, List.replicate_zero, List.append_nil, Nat.add_zero, List.take_append_drop]; exact R10.out)
                  have V11 := Lib.hid (V9.out.put HI.out HL.out sb.out s0.out g10.out R11.out)
                  have jz : l.length - (j + 1) = 0 := by omega
                  clear hj2 R10 NXe
                  go_wp2_with fail
                  rw [← hW10]
                  go_roundg (gk - 1)
                  case measure => have := (num_bound NX.out).2; have := NM.out; have := HN.out; have := GK.out; omega
                  case rel => exact ⟨nxS u j, k + 1, NX.out, by rw [NM.out, HN.out]; simp, by have := (num_bound NX.out).2; have := NM.out; have := HN.out; have := GK.out; omega, V11.out, MO2.out⟩
                · have hq : (l.length = j + 1) = False := eq_false hj2
                  obtain ⟨W11, hW11⟩ : ∃ W11 : World, W11 = W10.setCells SB (j + 1) (List.replicate (l.length - (j + 1)) (.int .i64 0)) := ⟨_, rfl⟩
                  have R11 : Hid (Row W11 SB 3 (nums (nxS u j))) := Lib.hid (by
                    rw [NXe.out, hW11]
                    exact row_setCells _ _ _ _ R10.out (by rw [ul2]; omega))
                  have g11 : Hid (W9.grownBy W11 (some SB)) := Lib.hid (by
                    have h2 := grown_setCells SB (List.replicate (l.length - (j + 1)) (.int .i64 0)) (j + 1) W10
                    rw [← hW11] at h2
                    have h1 := g10.out
                    exact ⟨h2.os.trans h1.os, h2.tape.trans h1.tape, h2.output.trans h1.output, Nat.le_trans h1.size h2.size, fun k hk hne => (h2.block k (Nat.lt_of_lt_of_le hk h1.size) hne).trans (h1.block k hk hne)⟩)
                  have V11 := Lib.hid (V9.out.put HI.out HL.out sb.out s0.out g11.out R11.out)
                  have hcl : (Builtin.clear_ #[22] 0 #[.slice (some ⟨SB, j + 1, none⟩) (l.length - (j + 1)) (l.length - (j + 1))]).run Tryz.prog (W9.setCell ⟨SB, j, none⟩ (.int .i64 (u[j] + 1))) = .ok (.tuple #[]) W11 := by
                    rw [hW11, ← hW10]
                    obtain ⟨i0, hi0, hz0, hz1, hz2⟩ := info_parts infoInt
                    exact Lib.run_clear_slice W10 22 3 0 (.int .i64 0) Tryz.underlying22 (fun w => by simp [zeroValue, typeInfo, hi0, hz0]) rfl rfl SB (j + 1) (l.length - (j + 1)) (l.length - (j + 1)) (by omega) (fun q hq => by
                      have := R10.out.iat (j + 1 + q) (by rw [ul2]; omega)
                      rw [this]; rfl) (fun q hq => R10.out.free _)
                  clear hj2 R10 NXe hW11 hW10
                  go_wp2_with fail
                  go_roundg (gk - 1)
                  case measure => have := (num_bound NX.out).2; have := NM.out; have := HN.out; have := GK.out; omega
                  case rel => exact ⟨nxS u j, k + 1, NX.out, by rw [NM.out, HN.out]; simp, by have := (num_bound NX.out).2; have := NM.out; have := HN.out; have := GK.out; omega, V11.out, MO2.out⟩
end Go.Proofs.YtenehghpmnajpaaGreatDoor
/-! Contract of tuning.visit with Solve's function, for whatever that does (printed by wip/tools/visit.py). -/
set_option linter.unusedVariables false
set_option linter.unusedSimpArgs false
namespace Go.Proofs.YtenehghpmnajpaaGreatDoor
open Go.RowKit
open Classical
/-- What the function does at a setting. -/
def SeeS {σ : Type} (I : Lie σ) (step : σ → List Int → σ) (more : σ → Bool) (l : List Clk) (ms : List Lmt) (c1 c2 : Nat) (w0 : World) : Prop :=
  ∀ (s : List Int) (st : σ) (w : World) (L : List Nat) (B c : Nat), SetOk l s → Gr w0 w → I st w L → (∀ b ∈ L, Has w b) → Row w B 3 (nums s) → B ∈ L →
    Calls Tryz.prog 59 #[.slice (some ⟨B, 0, none⟩) l.length c, vU64 (bitsS l ms s), .pointer (some ⟨c1, 0, none⟩), .pointer (some ⟨c2, 0, none⟩)] w fun e w' => e = .returned (.bool (more (step st s))) ∧ I (step st s) w' L ∧ Gr w0 w' ∧ (∀ b ∈ L, w'.heap[b]? = w.heap[b]?) ∧ w.heap.size ≤ w'.heap.size
set_option maxRecDepth 100000 in
set_option maxHeartbeats 2000000 in
theorem visitS_any {σ : Type} (I : Lie σ) (step : σ → List Int → σ) (more : σ → Bool) (l : List Clk) (ms : List Lmt) (al am : Option Addr) (cl cm c1 c2 : Nat) (L0 : List Nat) (w0 w : World) (st : σ)
    (henv : Env w0 l ms al am) (hg0 : Gr w0 w) (hL : ∀ b ∈ L0, Has w b) (hI : LieOk I)
    (hst : ∀ w1 L, Gr w w1 → (∀ b ∈ L, b ∈ L0 ∨ w.heap.size ≤ b) → I st w1 L) (hv : SeeS I step more l ms c1 c2 w0) :
    Calls Tryz.prog 58 #[.slice al l.length cl, .slice am ms.length cm, .func (.func 59) #[] #[.pointer (some ⟨c1, 0, none⟩), .pointer (some ⟨c2, 0, none⟩)]] w fun e w' =>
      e = .returned (.tuple #[]) ∧ ∃ k : Nat, 1 ≤ k ∧ k ≤ prodC l ∧ I (stN step st l k) w' L0 ∧ (k = prodC l ∨ more (stN step st l k) = false) ∧ (∀ j, 1 ≤ j → j < k → more (stN step st l j) = true) ∧ Gr w0 w' ∧ (∀ b ∈ L0, w'.heap[b]? = w.heap[b]?) ∧ w.heap.size ≤ w'.heap.size := by
  obtain ⟨nb, okC, prC, _⟩ := cchk_zero henv.chk
  have hl := small_len nb
  have hml := henv.lims.1
  have NB := Lib.hid nb
  have HE := Lib.hid henv
  have HG0 := Lib.hid hg0
  have HL := Lib.hid hL
  have HI := Lib.hid hI
  have HS := Lib.hid hst
  have HV := Lib.hid hv
  have HC1 := Lib.hid (allOk_cho okC)
  have AL := all_any l ms al am cl cm w (clks_gr henv.clks hg0) (lmts_gr henv.lmts hg0) hl hml
  have AL' := Lib.hid AL
  have BL : Hid ((allB l ms).length ≤ 48) := Lib.hid (by have := allB_len l ms; omega)
  have BO := Lib.hid (allB_ok (l := l) (ms := ms) henv.lims)
  have hmk := run_make_row' (P := Tryz.prog) 22 3 (.int .i64 0) 8 Tryz.underlying22 infoInt rfl .i64 .i64 l.length (by omega) (by omega)
  have Z : Hid (SetOk l (List.replicate l.length 0) ∧ num l (List.replicate l.length 0) = 0) := Lib.hid (by
    have hz : ∀ i, sOf (List.replicate l.length 0) i = 0 := fun i => by
      unfold sOf
      rw [List.getD_eq_getElem?_getD, List.getElem?_replicate]; split <;> rfl
    refine ⟨setOk_of (by rw [List.length_replicate]) (fun i hi => ?_), ?_⟩
    · rw [hz, kOf_at hi]
      have := HC1.out _ (List.getElem_mem hi); omega
    · have : ∀ j, numU (kOf l) (sOf (List.replicate l.length 0)) j = 0 := by
        intro j
        induction j with
        | zero => rfl
        | succ j ih => simp only [numU]; rw [ih, hz]; simp
      exact this _)
  have PC : Hid (1 ≤ prodC l) := Lib.hid (prodC_pos HC1.out)
  clear nb henv hg0 hL hI hst hv AL okC
  go_enter Tryz.func58, Tryz.ntmps58
  go_wp2_with fail
  refine AL'.out.mono ?_
  rintro e w1 ⟨v, rfl, ho, hg1⟩
  obtain ⟨ab, cb, rfl, hbs⟩ := bnds_of_owns ho
  obtain ⟨GL, hGL⟩ : ∃ GL : List Nat, Hid ((∀ x, 0 < (allB l ms).length → ab = some x → x.block ∈ GL) ∧ (∀ b ∈ GL, Has w1 b ∧ w.heap.size ≤ b)) := by
    by_cases h0 : 0 < (allB l ms).length
    · obtain ⟨g, cap, e, _, hb, hc⟩ := owns_cell ho h0
      cases e
      obtain ⟨b', o', e', q, _⟩ := hbs 0 h0
      cases e'
      exact ⟨[g], Lib.hid ⟨fun x _ e => by cases e; simp, fun b hb' => by
        have : b = g := by simpa using hb'
        subst this
        exact ⟨has_of_cell q, hb⟩⟩⟩
    · exact ⟨[], Lib.hid ⟨fun x h _ => absurd h h0, fun b hb => by cases hb⟩⟩
  have BS := Lib.hid hbs
  have G1 := Lib.hid hg1
  clear ho hbs hg1 AL'
  go_wp2_with fail
  obtain ⟨W2, hW2⟩ : ∃ W2 : World, Hid (W2 = w1.alloc (.cells (madeCells #[.int .i64 0] l.length) 3)) := ⟨_, Lib.hid rfl⟩
  rw [← hW2.out]
  obtain ⟨SB, hSB⟩ : ∃ SB : Nat, Hid (w1.heap.size = SB) := ⟨_, Lib.hid rfl⟩
  rw [hSB.out]
  have g2 : Hid (Gr w1 W2) := Lib.hid (by rw [hW2.out]; exact (Gr.refl _).alloc _)
  have sb : Hid (w.heap.size ≤ SB) := Lib.hid (by have := G1.out.size; have := hSB.out; omega)
  have s0 : Hid (w0.heap.size ≤ SB) := Lib.hid (Nat.le_trans HG0.out.size sb.out)
  have V2 : Hid (VI I w0 w (allB l ms) ab SB GL L0 st W2 (List.replicate l.length 0)) := Lib.hid
    { row := by
        rw [hW2.out, ← hSB.out]
        have := Row.new w1 (madeCells #[.int .i64 0] l.length) 3
        rw [made_zero] at this
        have e : nums (List.replicate l.length 0) = List.replicate l.length (.int .i64 0) := by simp [nums]
        rw [e]; exact this
      lst := BS.out.gr RBnd.mono g2.out
      lblk := hGL.out.1
      has := fun b hb => Nat.lt_of_lt_of_le (hGL.out.2 b hb).1 g2.out.size
      ne := fun q => by have := (hGL.out.2 _ q).1; have := hSB.out; unfold Has at *; omega
      st := HS.out _ _ (G1.out.trans g2.out) (fun b hb => by
        rcases List.mem_cons.1 hb with e | hb
        · subst e; exact .inr sb.out
        · rcases List.mem_append.1 hb with hb | hb
          · exact .inr (hGL.out.2 b hb).2
          · exact .inl hb)
      gr := HG0.out.trans (G1.out.trans g2.out)
      keep := fun b hb => (G1.out.trans g2.out).below.block b (HL.out b hb)
      size := (G1.out.trans g2.out).size }
  clear hW2 BS G1 g2 hGL hSB hmk HS
  go_loopg [10] (prodC l) (fun gg s10 wx => ∃ (u : List Int) (k : Nat), SetOk l u ∧ num l u = (k : Int) ∧ gg + k = prodC l ∧ VI I w0 w (allB l ms) ab SB GL L0 (stN step st l k) wx u ∧ ∀ j, 1 ≤ j → j ≤ k → more (stN step st l j) = true)
  case atStart => exact ⟨_, 0, Z.out.1, Z.out.2, by simp, V2.out, fun j h1 h2 => by omega⟩
  case round =>
    clear V2 Z
    obtain ⟨u, k, hu, hnum, hgk, hvi, hmore⟩ := hrel
    have HU := Lib.hid hu
    have HN := Lib.hid hnum
    have GK := Lib.hid hgk
    have V3 := Lib.hid hvi
    have MO := Lib.hid hmore
    have UL := Lib.hid hu.1
    have RT := pRates_any l u al (some ⟨SB, 0, none⟩) cl l.length wr (clks_gr HE.out.clks hvi.gr) (hvi.row.s.slI (setOk_wide HE.out.chk hu)) HE.out.chk hu (HE.out.off.gr hvi.gr)
    rw [hu.1] at RT
    have RT' := Lib.hid RT
    clear hu hnum hgk hvi hmore RT
    go_wp2_with fail
    refine RT'.out.mono ?_
    rintro e w3 ⟨RB, rfl, hrr, hrb, hg3⟩
    have V4 := Lib.hid (V3.out.grow HI.out HL.out hg3)
    have RR := Lib.hid hrr
    have RL : Hid ((rts l u).length = l.length) := Lib.hid (by rw [rts_len _ _ UL.out.symm])
    have RG := Lib.hid (rts_good HE.out.chk HU.out)
    clear hrr hrb hg3 RT' V3
    obtain ⟨R, eR⟩ : ∃ R, Hid (rts l u = R) := ⟨_, Lib.hid rfl⟩
    rw [eR.out] at RR RL RG
    obtain ⟨acc0, hacc0⟩ : ∃ acc0 : Int, Hid (acc0 = ((bitAcc (brk l ms u) 0).toNat : Int)) := ⟨_, Lib.hid rfl⟩
    go_wp2_with fail
    obtain ⟨wo, hwo⟩ : ∃ wo : World, wo = w3 := ⟨_, rfl⟩
    rw [← hwo] at V4 RR ⊢
    clear hwo
    go_loopw [10, 28] (fun s10 s28 wr => ∃ i : Nat, i ≤ (allB l ms).length ∧ s28 = .int .i64 (i : Int) ∧ s10 = vU64 (bitAcc (brk l ms u) i) ∧ Gr wo wr) (fun _ s28 _ => (allB l ms).length - (intOf s28).toNat)
    case atStart => exact ⟨0, Nat.zero_le _, rfl, rfl, Gr.refl _⟩
    case round =>
      obtain ⟨i, hi, rfl, rfl, hg⟩ := hrel
      have G5 := Lib.hid hg
      by_cases hlt : i < (allB l ms).length
      · have i2 : (i : Int) < (allB l ms).length := by omega
        obtain ⟨b, o, eab, d0, d1, d2, d3, d4⟩ := (V4.out.lst.gr RBnd.mono hg) i hlt
        subst eab
        obtain ⟨q0, q1⟩ := BO.out _ (List.getElem_mem hlt)
        obtain ⟨x, hx⟩ : ∃ x, (allB l ms)[i] = x := ⟨_, rfl⟩
        have BK := brk_at (s := u) hlt
        rw [eR.out] at BK
        rw [hx] at d0 d1 d2 d3 d4 q0 q1 BK
        obtain ⟨q, hq⟩ : ∃ q : Nat, x.clock = q := ⟨_, (Int.toNat_of_nonneg q0).symm⟩
        have hqR : q < R.length := by have := RL.out; omega
        have eq : x.clock.toNat = q := by omega
        rw [eq] at BK
        have e := rtAt_eq hqR
        have hgd : GoodR (rtAt R q) := by rw [e]; exact RG.out q hqR
        have r0 := (RR.out.gr hg).cell (q * 2) (by rw [encP_len, List.length_map]; omega)
        have r1 := (RR.out.gr hg).cell (q * 2 + 1) (by rw [encP_len, List.length_map]; omega)
        have hat := encP_at (R.map prR) q (by rw [List.length_map]; exact hqR)
        rw [hat.1] at r0
        rw [hat.2] at r1
        simp only [List.getElem_map, prR] at r0 r1
        rw [← e] at r0 r1
        obtain ⟨r, hr⟩ : ∃ r, rtAt R q = r := ⟨_, rfl⟩
        rw [hr] at r0 r1 hgd BK
        have BR := Lib.hid (fun W => broken_any x r W hgd)
        have hh := has_of_cell d0
        have h0 := has_of_cell r0
        have q2 : (q : Int) < l.length := by omega
        rw [hq] at d1 BR
        have HB := Lib.hid BK
        have accS : Hid (bitAcc (brk l ms u) (i + 1) = if brk l ms u i = true then bitAcc (brk l ms u) i ||| BitVec.twoPow 64 i else bitAcc (brk l ms u) i) := Lib.hid rfl
        have i64 : i < 64 := by have := BL.out; omega
        obtain ⟨A, hA⟩ : ∃ A, bitAcc (brk l ms u) i = A := ⟨_, rfl⟩
        rw [hA] at accS ⊢
        clear hg hat e hr hgd BK hq eq q0 q1 hx hA
        cases hb : brokB x r with
        | false =>
          rw [hb] at BR HB
          have S1 : Hid (bitAcc (brk l ms u) (i + 1) = A) := Lib.hid (by rw [accS.out, HB.out]; simp)
          clear hb accS
          go_wp2_with fail
          refine wp_region_grows (by kernel_rfl) (by kernel_rfl) ?_
          repeat (go_big_quiet_step (first | (go_at_call 74; exact calls_grows (BR.out _))))
          refine wpQuiet_nil ?_
          rintro _ ⟨⟨O, d⟩, rfl⟩
          go_wp2_with fail
          go_roundw
          case rel => exact ⟨i + 1, by omega, by go_num, by rw [S1.out], (G5.out.alloc _).xt _ _⟩
          case measure => simp [intOf]; omega
        | true =>
          rw [hb] at BR HB
          have S1 : Hid (bitAcc (brk l ms u) (i + 1) = A ||| BitVec.twoPow 64 i) := Lib.hid (by rw [accS.out, HB.out]; simp)
          have OB := Lib.hid (or_bits A i i64)
          clear hb accS
          unfold vU64
          go_wp2_with fail
          refine wp_region_grows (by kernel_rfl) (by kernel_rfl) ?_
          repeat (go_big_quiet_step (first | (go_at_call 74; exact calls_grows (BR.out _))))
          refine wpQuiet_nil ?_
          rintro _ ⟨⟨O, d⟩, rfl⟩
          go_wp2_with fail
          go_roundw
          case rel => exact ⟨i + 1, by omega, by go_num, by rw [S1.out]; exact OB.out, (G5.out.alloc _).xt _ _⟩
          case measure => simp [intOf]; omega
      · have hi' : i = (allB l ms).length := by omega
        subst hi'
        have V6' := V4.out.grow HI.out HL.out hg
        have V6 := Lib.hid V6'
        have CV := HV.out u (stN step st l k) wr _ SB l.length HU.out V6'.gr V6'.st (V6'.hasL HL.out) V6'.row (by simp)
        have CV' := Lib.hid CV
        have ES : Hid (stN step st l (k + 1) = step (stN step st l k) u) := Lib.hid (by rw [stN_succ, setN_eq HU.out HN.out])
        have BB : Hid (bitAcc (brk l ms u) (allB l ms).length = bitsS l ms u) := Lib.hid rfl
        rw [BB.out]
        rw [← ES.out] at CV'
        clear hg V6' CV V4 RR G5 hacc0
        obtain ⟨X, hX⟩ : ∃ X, vU64 (bitsS l ms u) = X := ⟨_, rfl⟩
        rw [hX] at CV' ⊢
        clear hX
        go_wp2_with fail
        refine CV'.out.mono ?_
        rintro e w7 ⟨rfl, hs1, hs2, hs3, hs4⟩
        have V7 := Lib.hid (V6.out.call hs1 hs2 hs3 hs4)
        clear hs1 hs2 hs3 hs4 V6 CV'
        cases hm : more (stN step st l (k + 1)) with
        | false =>
          have HM := Lib.hid hm
          clear hm
          go_wp2_with fail
          refine bodyPost_ret (results_none rfl _ _ _) rfl ?_
          refine ⟨rfl, ?_⟩
          exact ⟨k + 1, by omega, by have := (num_bound HU.out).2; have := HN.out; omega, HI.out.sub _ _ _ _ V7.out.st (fun b hb => by simp [hb]), .inr HM.out, fun j h1 h2 => MO.out j h1 (by omega), V7.out.gr, V7.out.keep, V7.out.size⟩
        | true =>
          have HM := Lib.hid hm
          clear hm
          go_wp2_with fail
          have MO2 : Hid (∀ j, 1 ≤ j → j ≤ k + 1 → more (stN step st l j) = true) := Lib.hid (fun j h1 h2 => by
            by_cases e : j = k + 1
            · subst e; exact HM.out
            · exact MO.out j h1 (by omega))
          have wq : IntKind.i64.wrap ((l.length : Int) - 1) = (l.length : Int) - 1 := by rw [IntKind.wrap_i64]; omega
          obtain ⟨wo, hwo⟩ : ∃ wo : World, wo = w7 := ⟨_, rfl⟩
          rw [← hwo] at V7 ⊢
          clear hwo
          go_loopw [13] (fun s13 wr => ∃ j : Nat, j ≤ l.length ∧ s13 = .int .i64 ((j : Int) - 1) ∧ AllLast l u j ∧ Gr wo wr) (fun s13 _ => (intOf s13 + 1).toNat)
          case atStart => exact ⟨l.length, Nat.le_refl _, rfl, fun i h1 h2 => by omega, Gr.refl _⟩
          case round =>
            obtain ⟨j, hj, rfl, hla, hg⟩ := hrel
            have LA := Lib.hid hla
            have G8 := Lib.hid hg
            have V8 := Lib.hid (V7.out.grow HI.out HL.out hg)
            clear hla hg
            cases j with
            | zero =>
              have e0 : (((0 : Nat) : Int) - 1) = -1 := by omega
              rw [e0]
              go_wp2_with fail
              go_quiet (fail)
              go_wp2_with fail
              refine bodyPost_ret (results_none rfl _ _ _) rfl ?_
              refine ⟨rfl, ?_⟩
              have nl := num_last LA.out
              exact ⟨k + 1, by omega, by have := HN.out; omega, HI.out.sub _ _ _ _ (V8.out.grow HI.out HL.out ((Gr.refl _).drewN _)).st (fun b hb => by simp [hb]), .inl (by have := HN.out; omega), fun j h1 h2 => MO.out j h1 (by omega), V8.out.gr.drewN _, V8.out.keep, V8.out.size⟩
            | succ j =>
              rw [show (((j + 1 : Nat) : Int) - 1) = (j : Int) by omega]
              have hjl : j < l.length := by omega
              have hju : j < u.length := by rw [UL.out]; exact hjl
              obtain ⟨k0, k1⟩ := HU.out.2 j hjl hju
              obtain ⟨fp, fc⟩ := small_at NB.out hjl
              obtain ⟨b, o, eal, ⟨d0, _⟩, ⟨ap, cp, d1, _⟩, ⟨ac, cc, d2, _, d2f, _⟩, ⟨d3, _⟩, ⟨d4, _⟩⟩ := clks_gr HE.out.clks V8.out.gr j hjl
              subst eal
              have e0 := V8.out.row.iat j hju
              have rh := V8.out.row.has
              have hh := has_of_cell d0
              have j2 : (j : Int) < l.length := by omega
              have EK : Hid (kOf l j = (l[j].choices.length : Int)) := Lib.hid (kOf_at hjl)
              have ES' : Hid (sOf u j = u[j]) := Lib.hid (sOf_at hju)
              have ww : IntKind.i64.wrap ((l[j].choices.length : Int) - 1) = (l[j].choices.length : Int) - 1 := by rw [IntKind.wrap_i64]; omega
              unfold Fit at d2f
              by_cases hlast : u[j] = (l[j].choices.length : Int) - 1
              · have hb : (u[j] == (l[j].choices.length : Int) - 1) = true := by simp [hlast]
                have LA2 : Hid (AllLast l u j) := Lib.hid (fun i h1 h2 => by
                  by_cases e : i = j
                  · subst e; rw [EK.out, ES'.out]; exact hlast
                  · exact LA.out i (by omega) h2)
                clear hlast
                go_wp2_with fail
                go_quiet (fail)
                go_wp2_with fail
                go_roundw
                case rel => exact ⟨j, by omega, by go_num, LA2.out, G8.out.drewN _⟩
                case measure => simp [intOf]
              · have hb : (u[j] == (l[j].choices.length : Int) - 1) = false := by simp [hlast]
                have hlt2 : sOf u j + 1 < kOf l j := by rw [EK.out, ES'.out]; omega
                have NX := Lib.hid (nxS_ok HU.out hjl hlt2 (fun i hi => by
                  rw [kOf_at hi]
                  have := HC1.out _ (List.getElem_mem hi)
                  omega))
                have NM := Lib.hid (num_nxS HU.out hjl LA.out)
                have u1 : IntKind.i64.wrap (u[j] + 1) = u[j] + 1 := by rw [IntKind.wrap_i64]; omega
                have f0 := V8.out.row.free j
                clear hlast
                have NXe : Hid (nxS u j = (u.set j (u[j] + 1)).take (j + 1) ++ List.replicate (l.length - (j + 1)) 0 ++ (u.set j (u[j] + 1)).drop (j + 1 + (l.length - (j + 1)))) := Lib.hid (by
                  unfold nxS nxV
                  rw [ES'.out, UL.out, List.drop_of_length_le (by rw [List.length_set, UL.out]; omega), List.append_nil, List.set_append_left _ _ (by rw [List.length_take]; omega), List.take_set])
                have SN : Hid (stN step st l (k + 1) = stN step st l (k + 1)) := Lib.hid rfl
                go_wp2_with fail
                go_quiet (fail)
                obtain ⟨W9, hW9⟩ : ∃ W9 : World, wr.drewN nq = W9 := ⟨_, rfl⟩
                have V9 : Hid (VI I w0 w (allB l ms) ab SB GL L0 (stN step st l (k + 1)) W9 u) := Lib.hid (by rw [← hW9]; exact V8.out.grow HI.out HL.out ((Gr.refl _).drewN _))
                rw [hW9]
                clear hW9 e0 f0 rh d0 d1 d2 d3 d4 hh
                have e0 := V9.out.row.iat j hju
                have rh := V9.out.row.has
                have f0 := V9.out.row.free j
                obtain ⟨W10, hW10⟩ : ∃ W10 : World, W10 = W9.setCell ⟨SB, j, none⟩ (.int .i64 (u[j] + 1)) := ⟨_, rfl⟩
                have R10 : Hid (Row W10 SB 3 (nums (u.set j (u[j] + 1)))) := Lib.hid (by rw [hW10]; exact V9.out.row.iset j _)
                have g10 : Hid (W9.grownBy W10 (some SB)) := Lib.hid (by rw [hW10]; exact grownBy_set _ _ _ _)
                have ul2 : (u.set j (u[j] + 1)).length = l.length := by rw [List.length_set, UL.out]
                by_cases hj2 : l.length = j + 1
                · have hq : (l.length = j + 1) = True := eq_true hj2
                  have hc0 : ∀ w, (Builtin.clear_ #[22] 0 #[.slice (some ⟨SB, 0, none⟩) 0 0]).run Tryz.prog w = .ok (.tuple #[]) w := fun w => by
                    simp [Builtin.clear_, run_underlying Tryz.underlying22]
                  have R11 : Hid (Row W10 SB 3 (nums (nxS u j))) := Lib.hid (by
                    rw [NXe.out, show l.length - (j + 1) = 0 by omega, List.replicate_zero, List.append_nil, Nat.add_zero, List.take_append_drop]; exact R10.out)
                  have V11 := Lib.hid (V9.out.put HI.out HL.out sb.out s0.out g10.out R11.out)
                  have jz : l.length - (j + 1) = 0 := by omega
                  clear hj2 R10 NXe
                  go_wp2_with fail
                  rw [← hW10]
                  go_roundg (gk - 1)
                  case measure => have := (num_bound NX.out).2; have := NM.out; have := HN.out; have := GK.out; omega
                  case rel => exact ⟨nxS u j, k + 1, NX.out, by rw [NM.out, HN.out]; simp, by have := (num_bound NX.out).2; have := NM.out; have := HN.out; have := GK.out; omega, V11.out, MO2.out⟩
                · have hq : (l.length = j + 1) = False := eq_false hj2
                  obtain ⟨W11, hW11⟩ : ∃ W11 : World, W11 = W10.setCells SB (j + 1) (List.replicate (l.length - (j + 1)) (.int .i64 0)) := ⟨_, rfl⟩
                  have R11 : Hid (Row W11 SB 3 (nums (nxS u j))) := Lib.hid (by
                    rw [NXe.out, hW11]
                    exact row_setCells _ _ _ _ R10.out (by rw [ul2]; omega))
                  have g11 : Hid (W9.grownBy W11 (some SB)) := Lib.hid (by
                    have h2 := grown_setCells SB (List.replicate (l.length - (j + 1)) (.int .i64 0)) (j + 1) W10
                    rw [← hW11] at h2
                    have h1 := g10.out
                    exact ⟨h2.os.trans h1.os, h2.tape.trans h1.tape, h2.output.trans h1.output, Nat.le_trans h1.size h2.size, fun k hk hne => (h2.block k (Nat.lt_of_lt_of_le hk h1.size) hne).trans (h1.block k hk hne)⟩)
                  have V11 := Lib.hid (V9.out.put HI.out HL.out sb.out s0.out g11.out R11.out)
                  have hcl : (Builtin.clear_ #[22] 0 #[.slice (some ⟨SB, j + 1, none⟩) (l.length - (j + 1)) (l.length - (j + 1))]).run Tryz.prog (W9.setCell ⟨SB, j, none⟩ (.int .i64 (u[j] + 1))) = .ok (.tuple #[]) W11 := by
                    rw [hW11, ← hW10]
                    obtain ⟨i0, hi0, hz0, hz1, hz2⟩ := info_parts infoInt
                    exact Lib.run_clear_slice W10 22 3 0 (.int .i64 0) Tryz.underlying22 (fun w => by simp [zeroValue, typeInfo, hi0, hz0]) rfl rfl SB (j + 1) (l.length - (j + 1)) (l.length - (j + 1)) (by omega) (fun q hq => by
                      have := R10.out.iat (j + 1 + q) (by rw [ul2]; omega)
                      rw [this]; rfl) (fun q hq => R10.out.free _)
                  clear hj2 R10 NXe hW11 hW10
                  go_wp2_with fail
                  go_roundg (gk - 1)
                  case measure => have := (num_bound NX.out).2; have := NM.out; have := HN.out; have := GK.out; omega
                  case rel => exact ⟨nxS u j, k + 1, NX.out, by rw [NM.out, HN.out]; simp, by have := (num_bound NX.out).2; have := NM.out; have := HN.out; have := GK.out; omega, V11.out, MO2.out⟩
end Go.Proofs.YtenehghpmnajpaaGreatDoor
