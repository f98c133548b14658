/- Contract of tuning.Least. -/
import Derived.Test.YtenehghpmnajpaaDoorLsP
set_option linter.unusedVariables false
set_option linter.unusedSimpArgs false
namespace Go.Proofs.YtenehghpmnajpaaDoor
open Go.RowKit
open Classical

def RU (w : World) (b o : Nat) (x : BitVec 64) : Prop := w.cell? ⟨b, o, none⟩ = some (vU64 x)
theorem RU.mono : Mono RU := fun _ _ _ _ _ hg h => cell_gr hg h
theorem ru_of_owns {w : World} {base : Nat} {v : Value} {st : List (BitVec 64)} (h : w.ownsRow base 102 1 v st.length (st.map vU64)) : ∃ a c, v = .slice a st.length c ∧ SlOf 1 RU w a st := by
  rcases Nat.eq_zero_or_pos st.length with e | e
  · have : st = [] := List.eq_nil_of_length_eq_zero e
    subst this
    obtain ⟨a, c, e⟩ := owns_slice h
    exact ⟨a, c, e, SlOf.nil _ _ _ _⟩
  · obtain ⟨g, cap, e1, h1, _, hc⟩ := owns_cell h e
    refine ⟨_, cap, e1, fun k hk => ⟨g, 0, rfl, ?_⟩⟩
    unfold RU
    rw [Nat.zero_add, Nat.mul_one, hc k (by omega), List.getElem?_map, List.getElem?_eq_getElem hk]; rfl
theorem ofInt64 (A : BitVec 64) : BitVec.ofInt IntKind.u64.bits (A.toNat : Int) = A := by
  apply BitVec.eq_of_toNat_eq
  rw [BitVec.toNat_ofInt]
  show ((A.toNat : Int) % ((2 ^ 64 : Nat) : Int)).toNat = A.toNat
  have := A.isLt
  omega
theorem andNot_bits (A : BitVec 64) (i : Nat) (hi : i < 64) : bits BinOp.andNot IntKind.u64 (A.toNat : Int) (IntKind.u64.wrap (2 ^ i)) = ((lessM A i).toNat : Int) := by
  obtain ⟨p, h1, h2, h3⟩ : ∃ p : Nat, (2 : Int) ^ i = (p : Int) ∧ p < 18446744073709551616 ∧ (BitVec.twoPow 64 i).toNat = p := by
    have hp : (2 : Nat) ^ i < 2 ^ 64 := Nat.pow_lt_pow_right (by omega) hi
    exact ⟨2 ^ i, by push_cast; rfl, hp, by rw [BitVec.toNat_twoPow]; exact Nat.mod_eq_of_lt hp⟩
  rw [h1, wrap_u64 _ (by omega) (by omega)]
  unfold lessM
  obtain ⟨B, hB⟩ : ∃ B, BitVec.twoPow 64 i = B := ⟨_, rfl⟩
  rw [hB] at h3 ⊢
  have e3 : BitVec.ofInt IntKind.u64.bits (p : Int) = B := by rw [← h3]; exact ofInt64 B
  unfold bits
  simp only [ofInt64, e3]
  obtain ⟨C, hC⟩ : ∃ C : BitVec 64, A &&& ~~~B = C := ⟨_, rfl⟩
  have hl := C.isLt
  show IntKind.u64.wrap ((A &&& ~~~B).toNat : Int) = ((A &&& ~~~B).toNat : Int)
  rw [hC]
  exact wrap_u64 _ (by omega) (by omega)
theorem and_bits (A B : BitVec 64) : bits BinOp.and IntKind.u64 (A.toNat : Int) (B.toNat : Int) = ((A &&& B).toNat : Int) := by
  unfold bits
  simp only [ofInt64]
  obtain ⟨C, hC⟩ : ∃ C : BitVec 64, A &&& B = C := ⟨_, rfl⟩
  have hl := C.isLt
  show IntKind.u64.wrap ((A &&& B).toNat : Int) = ((A &&& B).toNat : Int)
  rw [hC]
  exact wrap_u64 _ (by omega) (by omega)
set_option maxHeartbeats 1000000 in
theorem least2_any (x m : BitVec 64) (O : Nat) (w : World) (c : w.cell? ⟨O, 0, none⟩ = some (vU64 m)) :
    Calls Tryd.prog 88 #[vU64 x, .pointer (some ⟨O, 0, none⟩)] w (Grows w (.bool (decide (x &&& m = 0)))) := by
  have hh := has_of_cell c
  have AB := Lib.hid (and_bits x m)
  have ZB := Lib.hid (bits_eq0 (x &&& m))
  unfold vU64 at c ⊢
  obtain ⟨X, hX⟩ : ∃ X : Int, (x.toNat : Int) = X := ⟨_, rfl⟩
  obtain ⟨M, hM⟩ : ∃ M : Int, (m.toNat : Int) = M := ⟨_, rfl⟩
  rw [hX] at AB ⊢
  rw [hM] at c AB
  obtain ⟨Y, hY⟩ : ∃ Y : Int, bits BinOp.and IntKind.u64 X M = Y := ⟨_, rfl⟩
  have EY : Hid ((Y == 0) = decide (x &&& m = 0)) := Lib.hid (by rw [← hY, AB.out, ZB.out])
  clear AB ZB hX hM
  go_enter Tryd.func88, Tryd.ntmps88
  go_wp2_with fail
  go_ret
  exact ⟨ret_bool EY.out, Gr.refl _⟩
set_option maxHeartbeats 1000000 in
theorem indexU_any (st : List (BitVec 64)) (a : Option Addr) (cap : Nat) (m : BitVec 64) (O : Nat) (w : World) (hx : SlOf 1 RU w a st) (fx : st.length ≤ 100000) (c : w.cell? ⟨O, 0, none⟩ = some (vU64 m)) :
    Calls Tryd.prog 115 #[.slice a st.length cap, .func (.func 88) #[] #[.pointer (some ⟨O, 0, none⟩)]] w fun e w' => ∃ y : Int, e = .returned (.int .i64 y) ∧ (0 ≤ y ↔ ∃ x ∈ st, x &&& m = 0) ∧ Gr w w' := by
  have HX := Lib.hid hx
  have HC := Lib.hid c
  clear hx c
  go_enter Tryd.func115, Tryd.ntmps115
  go_wp2
  go_loopw [8] (fun i wr => ∃ k : Nat, k ≤ st.length ∧ i = .int .i64 k ∧ (∀ j (h : j < st.length), j < k → ¬ st[j] &&& m = 0) ∧ Gr w wr) (fun i _ => st.length - (intOf i).toNat)
  case atStart => exact ⟨0, Nat.zero_le _, rfl, fun j _ h => absurd h (by omega), Gr.refl _⟩
  case round =>
    obtain ⟨k, hk, rfl, hall, hg⟩ := hrel
    have HA := Lib.hid hall
    have HG := Lib.hid hg
    clear hall hg
    obtain ⟨wo, rfl⟩ : ∃ wo : World, wo = wr := ⟨_, rfl⟩
    by_cases hlt : k < st.length
    · obtain ⟨b, o, rfl, d0⟩ := (HX.out.gr RU.mono HG.out).one k hlt
      unfold RU at d0
      have hcall := Lib.hid (least2_any st[k] m O wo (cell_gr HG.out HC.out))
      have hh := has_of_cell d0
      have k2 : (k : Int) < st.length := by omega
      unfold vU64 at d0 hcall
      by_cases hq : st[k] &&& m = 0
      · have hcall' := Lib.hid hcall.out
        rw [decide_eq_true hq] at hcall'
        have Q := Lib.hid hq
        clear hq hcall
        go_wp2_with fail
        refine hcall'.out.mono ?_
        rintro e w' ⟨rfl, hg'⟩
        have G' := Lib.hid (HG.out.trans hg')
        clear hg'
        go_wp2_with fail
        go_ret
        exact ⟨k, rfl, ⟨fun _ => ⟨_, List.getElem_mem hlt, Q.out⟩, fun _ => by omega⟩, G'.out⟩
      · have hcall' := Lib.hid hcall.out
        rw [decide_eq_false hq] at hcall'
        have Q := Lib.hid hq
        clear hq hcall
        go_wp2_with fail
        refine hcall'.out.mono ?_
        rintro e w' ⟨rfl, hg'⟩
        have G' := Lib.hid (HG.out.trans hg')
        clear hg'
        go_wp2_with fail
        go_roundw
        case rel =>
          refine ⟨k + 1, by omega, by go_num, fun j h1 hj => ?_, G'.out⟩
          by_cases e : j = k
          · subst e; exact Q.out
          · exact HA.out j h1 (by omega)
        case measure => simp [intOf]; omega
    · go_wp2_with fail
      go_ret
      refine ⟨-1, rfl, ⟨fun h => by omega, ?_⟩, HG.out⟩
      rintro ⟨x, hx, hz⟩
      obtain ⟨j, hj, rfl⟩ := List.getElem_of_mem hx
      exact absurd hz (HA.out j hj (by omega))
theorem containsU_any (st : List (BitVec 64)) (a : Option Addr) (cap : Nat) (m : BitVec 64) (O : Nat) (w : World) (hx : SlOf 1 RU w a st) (fx : st.length ≤ 100000) (c : w.cell? ⟨O, 0, none⟩ = some (vU64 m)) :
    Calls Tryd.prog 87 #[.slice a st.length cap, .func (.func 88) #[] #[.pointer (some ⟨O, 0, none⟩)]] w (Grows w (.bool (decide (∃ x ∈ st, x &&& m = 0)))) := by
  have IX := Lib.hid (indexU_any st a cap m O w hx fx c)
  clear hx c
  go_enter Tryd.func87, Tryd.ntmps87
  go_wp2_with fail
  refine IX.out.mono ?_
  rintro e w' ⟨y, rfl, hy, hg⟩
  have HY := Lib.hid hy
  have G := Lib.hid hg
  clear hy hg IX
  go_wp2_with fail
  go_ret
  exact ⟨ret_bool (by rw [decide_eq_decide]; exact HY.out), G.out⟩
/-- What is seen of all settings. -/
noncomputable def seenL (l : List Clk) (ms : List Lmt) : List (BitVec 64) := (List.range (prodC l)).map fun j => bitsS l ms (setN l j)
theorem seen_can {l : List Clk} {ms : List Lmt} (h1 : ∀ c ∈ l, 1 ≤ c.choices.length) (m : BitVec 64) : decide (∃ x ∈ seenL l ms, x &&& m = 0) = canL l ms m := by
  unfold canL
  rw [decide_eq_decide]
  constructor
  · rintro ⟨x, hx, hz⟩
    obtain ⟨j, hj, rfl⟩ := List.mem_map.1 hx
    exact ⟨setN l j, (setN_ok h1 (List.mem_range.1 hj)).1, hz⟩
  · rintro ⟨s, hs, hz⟩
    have hb := num_bound hs
    refine ⟨bitsS l ms s, List.mem_map.2 ⟨(num l s).toNat, List.mem_range.2 (by omega), ?_⟩, hz⟩
    rw [setN_eq hs (by omega)]
theorem seen_free {l : List Clk} {ms : List Lmt} (h1 : ∀ c ∈ l, 1 ≤ c.choices.length) (hb : (allB l ms).length ≤ 64) : freeL (seenL l ms) = decide (∃ s, SetOk l s ∧ meetS l ms s = true) := by
  unfold freeL
  rw [Bool.eq_iff_iff, List.any_eq_true, decide_eq_true_iff]
  constructor
  · rintro ⟨x, hx, hz⟩
    obtain ⟨j, hj, rfl⟩ := List.mem_map.1 hx
    exact ⟨setN l j, (setN_ok h1 (List.mem_range.1 hj)).1, by rw [meetS_bits l ms _ hb]; exact hz⟩
  · rintro ⟨s, hs, hz⟩
    have hbn := num_bound hs
    refine ⟨bitsS l ms s, List.mem_map.2 ⟨(num l s).toNat, List.mem_range.2 (by omega), ?_⟩, by rw [meetS_bits l ms s hb] at hz; exact hz⟩
    rw [setN_eq hs (by omega)]
theorem leastGo_len (l : List Clk) (ms : List Lmt) (i : Nat) : (leastGo l ms i).2.length ≤ i := by
  induction i with
  | zero => simp [leastGo]
  | succ i ih =>
    simp only [leastGo]
    split
    · rw [List.length_append]; simp; omega
    · simp only; omega
/-- Limits that cannot be met together, or that there are none. -/
def GivesLeast (w : World) (l : List Clk) (ms : List Lmt) (e : Ending) (w' : World) : Prop :=
  Gr w w' ∧ (((∃ s, SetOk l s ∧ meetS l ms s = true) ∧ e = .returned (.tuple #[.slice none 0 0, .int .i64 8])) ∨
    ((∀ s, SetOk l s → meetS l ms s = false) ∧ ∃ a c, e = .returned (.tuple #[.slice a (leastGo l ms ms.length).2.length c, .int .i64 0]) ∧ w'.ownsRow w.heap.size 3 1 (.slice a (leastGo l ms ms.length).2.length c) (leastGo l ms ms.length).2.length (nums (leastGo l ms ms.length).2)))
set_option maxRecDepth 100000 in
set_option maxHeartbeats 2000000 in
theorem pLeast_any (l : List Clk) (ms : List Lmt) (al am : Option Addr) (cl cm : Nat) (w : World) (henv : Env w l ms al am) (h1 : 1 ≤ l.length) :
    Calls Tryd.prog 43 #[.slice al l.length cl, .slice am ms.length cm] w (GivesLeast w l ms) := by
  obtain ⟨_, okC, prC, _⟩ := cchk_zero henv.chk
  have hl := small_len (cchk_zero henv.chk).1
  have hml := henv.lims.1
  have hb : (allB l ms).length ≤ 64 := by have := allB_len l ms; omega
  have BG := Lib.hid (begin17_any l ms al am cl cm w henv)
  have HE := Lib.hid henv
  have HC1 := Lib.hid (allOk_cho okC)
  obtain ⟨i0, hi, hz0, hz1, hz2⟩ := info_parts infoInt
  clear henv okC
  go_enter Tryd.func43, Tryd.ntmps43
  go_wp2_with fail
  refine BG.out.mono ?_
  rintro e w1 ⟨rfl, hg1⟩
  have G1 := Lib.hid hg1
  clear hg1 BG
  go_wp2_with fail
  obtain ⟨BS, hBS⟩ : ∃ BS : Nat, Hid (w1.heap.size = BS) := ⟨_, Lib.hid rfl⟩
  obtain ⟨W2, hW2⟩ : ∃ W2 : World, Hid (W2 = ((w1.alloc (.cells #[.slice none 0 0] 123)).alloc (.cells #[.bool false] 4))) := ⟨_, Lib.hid rfl⟩
  have RS : Hid (Row W2 BS 123 [.slice none 0 0]) := Lib.hid (by rw [hW2.out, ← hBS.out]; exact (Row.new w1 #[.slice none 0 0] _).gr ((Gr.refl _).alloc _))
  have RF : Hid (Row W2 (BS + 1) 4 [.bool false]) := Lib.hid (by
    rw [hW2.out, ← hBS.out]
    exact row_new' (w1.alloc (.cells #[.slice none 0 0] 123)) #[.bool false] 4 _ (by simp))
  have G2 : Hid (Gr w W2) := Lib.hid (by rw [hW2.out]; exact (G1.out.alloc _).alloc _)
  have z2 : Hid (W2.heap.size = BS + 2) := Lib.hid (by rw [hW2.out, ← hBS.out]; simp)
  have wb : Hid (w.heap.size ≤ BS) := Lib.hid (by have := hBS.out; have := G1.out.size; omega)
  have CV := Lib.hid (visitM_any (LieL BS (BS + 1) w) (stepL l ms) (fun _ => true) l ms al am cl cm BS (BS + 1) [] w W2 [] HE.out G2.out h1 (fun b hb => by cases hb) (lieL_ok BS (BS + 1) w)
    (fun w' L hg hL => ⟨(fun q => by
      rcases hL BS q with h | h
      · cases h
      · have := z2.out; omega), (fun q => by
      rcases hL (BS + 1) q with h | h
      · cases h
      · have := z2.out; omega), wb.out, by have := wb.out; omega, by omega, RF.out.gr hg, none, 0, RS.out.gr hg, World.ownsRow_nil _ _ _ _, fun g hg => by cases hg⟩) (seeM l ms BS (BS + 1) w HE.out.chk))
  rw [hBS.out]
  rw [hW2.out] at CV
  clear RS RF
  refine CV.out.mono ?_
  rintro e w3 ⟨rfl, k, hk1, hk2, hI, hend, _, hg3, _, _⟩
  have hk : k = prodC l := by
    rcases hend with h | h
    · exact h
    · cases h
  subst hk
  rw [stN_stepL] at hI
  obtain ⟨_, _, _, _, hne, rf, a, c, rs, os, _⟩ := hI
  obtain ⟨st, hst⟩ : ∃ st, seenL l ms = st := ⟨_, rfl⟩
  have hst' : (List.range (prodC l)).map (fun j => bitsS l ms (setN l j)) = st := hst
  rw [hst'] at rf rs os
  have SL : Hid (st.length ≤ 100000) := Lib.hid (by rw [← hst', List.length_map, List.length_range]; omega)
  have CAN : Hid (∀ m, decide (∃ x ∈ st, x &&& m = 0) = canL l ms m) := Lib.hid (fun m => by rw [← hst]; exact seen_can HC1.out m)
  have FRE : Hid (freeL st = decide (∃ s, SetOk l s ∧ meetS l ms s = true)) := Lib.hid (by rw [← hst]; exact seen_free HC1.out hb)
  have G3 := Lib.hid hg3
  have f0 := rf.cell 0 (by simp)
  have fh := rf.has
  simp only [List.getElem_cons_zero] at f0
  clear hst hst' hend CV hg3
  by_cases hex : ∃ s, SetOk l s ∧ meetS l ms s = true
  · have EX := Lib.hid hex
    rw [FRE.out, decide_eq_true hex] at f0
    clear hex rf rs os
    go_wp2_with fail
    go_ret2
    exact ⟨G3.out, .inl ⟨EX.out, rfl⟩⟩
  · have NO : Hid (∀ s, SetOk l s → meetS l ms s = false) := Lib.hid (fun s hs => by
      cases hm : meetS l ms s with
      | false => rfl
      | true => exact absurd ⟨s, hs, hm⟩ hex)
    rw [FRE.out, decide_eq_false hex] at f0
    have RSW := Lib.hid rs
    obtain ⟨_, _, ea, sr⟩ := ru_of_owns os
    cases ea
    have SR := Lib.hid sr
    clear hex rf rs os sr
    go_wp2_with fail
    go_loopw [9, 10, 26] (fun s9 s10 s26 wr => ∃ (i : Nat) (ao : Option Addr) (co : Nat), i ≤ ms.length ∧ s26 = .int .i64 (i : Int) ∧ s9 = vU64 (leastGo l ms i).1 ∧ s10 = .slice ao (leastGo l ms i).2.length co ∧ wr.ownsRow w3.heap.size 3 1 (.slice ao (leastGo l ms i).2.length co) (leastGo l ms i).2.length (nums (leastGo l ms i).2) ∧ Gr w3 wr) (fun _ _ s26 _ => ms.length - (intOf s26).toNat)
    case atStart => exact ⟨0, none, 0, Nat.zero_le _, rfl, rfl, rfl, World.ownsRow_nil _ _ _ _, Gr.refl _⟩
    case round =>
      obtain ⟨i, ao, co, hil, rfl, rfl, rfl, hoo, hg⟩ := hrel
      have OO := Lib.hid hoo
      have GG := Lib.hid hg
      clear hoo hg
      by_cases hlt : i < ms.length
      · have i2 : (i : Int) < ms.length := by omega
        have LG := Lib.hid (show leastGo l ms (i + 1) = if canL l ms (lessM (leastGo l ms i).1 i) = true then ((leastGo l ms i).1, (leastGo l ms i).2 ++ [(i : Int)]) else (lessM (leastGo l ms i).1 i, (leastGo l ms i).2) from rfl)
        have ol := leastGo_len l ms i
        obtain ⟨m, hm⟩ : ∃ m, (leastGo l ms i).1 = m := ⟨_, rfl⟩
        obtain ⟨out, ho⟩ : ∃ out, (leastGo l ms i).2 = out := ⟨_, rfl⟩
        rw [hm, ho] at LG
        rw [ho] at OO ol
        have AB := Lib.hid (andNot_bits m i (by omega))
        have MV := Lib.hid (show vU64 m = .int .u64 (m.toNat : Int) from rfl)
        rw [hm, ho]
        unfold vU64
        obtain ⟨MT, hMT⟩ : ∃ MT : Int, (m.toNat : Int) = MT := ⟨_, rfl⟩
        rw [hMT] at AB MV ⊢
        obtain ⟨Y, hY⟩ : ∃ Y : Int, bits BinOp.andNot IntKind.u64 MT (IntKind.u64.wrap (2 ^ i)) = Y := ⟨_, rfl⟩
        have VY : Hid (vU64 (lessM m i) = .int .u64 Y) := Lib.hid (by unfold vU64; rw [← AB.out, hY])
        obtain ⟨O9, hO9⟩ : ∃ O9 : Nat, Hid (wr.heap.size = O9) := ⟨_, Lib.hid rfl⟩
        obtain ⟨WA, hWA⟩ : ∃ WA : World, Hid (WA = wr.alloc (.cells #[.int .u64 Y] 102)) := ⟨_, Lib.hid rfl⟩
        have gA : Hid (Gr w3 WA) := Lib.hid (by rw [hWA.out]; exact GG.out.alloc _)
        have ga : Hid (Gr wr WA) := Lib.hid (by rw [hWA.out]; exact (Gr.refl _).alloc _)
        have CO : Hid (WA.cell? ⟨O9, 0, none⟩ = some (vU64 (lessM m i))) := Lib.hid (by
          rw [VY.out]
          have := (Row.new wr #[.int .u64 Y] 102).cell 0 (by simp)
          rw [← hWA.out, hO9.out] at this
          exact this)
        have s0 := (RSW.out.gr GG.out).cell 0 (by simp)
        have sh := has_of_cell s0
        simp only [List.getElem_cons_zero] at s0
        have CT := Lib.hid (containsU_any st a c (lessM m i) O9 WA (SR.out.gr RU.mono gA.out) SL.out CO.out)
        rw [CAN.out] at CT
        have OOA := Lib.hid (Gr.owns OO.out ga.out)
        clear hm ho AB hMT
        cases hc : canL l ms (lessM m i) with
        | true =>
          rw [hc] at CT LG
          have LG1 : Hid (leastGo l ms (i + 1) = (m, out ++ [(i : Int)])) := Lib.hid (by rw [LG.out]; simp)
          clear hc LG
          go_wp2_with fail
          rw [← hWA.out, hO9.out]
          refine CT.out.mono ?_
          rintro e w5 ⟨rfl, hg5⟩
          have G5 := Lib.hid (gA.out.trans hg5)
          have O5 := Lib.hid (Gr.owns OOA.out hg5)
          obtain ⟨N9, hN9⟩ : ∃ N9 : Nat, Hid (w5.heap.size = N9) := ⟨_, Lib.hid rfl⟩
          obtain ⟨W6, hW6⟩ : ∃ W6 : World, Hid (W6 = w5.alloc (.cells #[.int .i64 (i : Int)] 3)) := ⟨_, Lib.hid rfl⟩
          have g6 : Hid (Gr w5 W6) := Lib.hid (by rw [hW6.out]; exact (Gr.refl _).alloc _)
          have O6 := Lib.hid (Gr.owns O5.out g6.out)
          have CC : Hid (∀ j u, ([.int .i64 (i : Int)] : List Value)[j]? = some u → W6.cell? ((⟨N9, 0, none⟩ : Addr).add j) = some u) := Lib.hid (by
            have := row_cells (Row.new w5 #[.int .i64 (i : Int)] 3)
            rw [← hW6.out, hN9.out] at this
            exact this)
          have one : Hid (∀ u ∈ ([.int .i64 (i : Int)] : List Value), u.oneCell' = true) := Lib.hid (fun u hu => by rw [List.mem_singleton.1 hu]; rfl)
          have base := Lib.hid (G5.out.trans g6.out).size
          clear hg5 CT s0 sh
          go_wp2_with (first
            | (at_builtin; rw [← hW6.out, hN9.out]; refine wpList_append_gets _ rfl _ _ 22 rfl w3.heap.size 3 i0 (.int .i64 0) 1 8 Tryd.underlying22 hi hz0 hz1 hz2 rfl (by decide) (.slice ao out.length co) out.length (nums out) rfl O6.out (some ⟨N9, 0, none⟩) 1 1 [.int .i64 (i : Int)] rfl ⟨rfl, fun _ => ⟨_, rfl, CC.out⟩⟩ one.out (by unfold maxLen; omega) (by omega) base.out ?_; intro v' W7 hown hgrow hblk; obtain ⟨a7, c7, rfl⟩ := owns_slice hown; have O7 := Lib.hid hown; have G7 := Lib.hid ((G5.out.trans g6.out).grown hgrow (fun k e => (O6.out.lt k e).1)); clear hown hgrow hblk)
            | fail)
          go_roundw
          case rel =>
            refine ⟨i + 1, a7, c7, by omega, by go_num, ?_, ?_, ?_, G7.out⟩
            · rw [LG1.out]; exact MV.out.symm
            · rw [LG1.out]; simp
            · rw [LG1.out]
              have := O7.out
              simpa [nums] using this
          case measure => simp [intOf]; omega
        | false =>
          rw [hc] at CT LG
          have LG1 : Hid (leastGo l ms (i + 1) = (lessM m i, out)) := Lib.hid (by rw [LG.out]; simp)
          clear hc LG
          go_wp2_with fail
          rw [← hWA.out, hO9.out]
          refine CT.out.mono ?_
          rintro e w5 ⟨rfl, hg5⟩
          have G5 := Lib.hid (gA.out.trans hg5)
          have O5 := Lib.hid (Gr.owns OOA.out hg5)
          have c5 := cell_gr hg5 CO.out
          rw [VY.out] at c5
          have h5 := has_of_cell c5
          clear hg5 CT s0 sh
          go_wp2_with fail
          go_roundw
          case rel =>
            refine ⟨i + 1, ao, co, by omega, by go_num, ?_, ?_, ?_, G5.out⟩
            · rw [LG1.out]; exact VY.out.symm
            · rw [LG1.out]
            · rw [LG1.out]; exact O5.out
          case measure => simp [intOf]; omega
      · have hi' : i = ms.length := by omega
        subst hi'
        have OF := Lib.hid (owns_low OO.out G3.out.size)
        have GF := Lib.hid (G3.out.trans GG.out)
        clear OO GG
        go_wp2_with fail
        go_ret2
        exact ⟨GF.out, .inr ⟨NO.out, ao, co, rfl, OF.out⟩⟩
end Go.Proofs.YtenehghpmnajpaaDoor
