/- Lemmas and contracts for the proof of PrintDiffers (several texts in one, printed by wip/tools/pack.py): VcA VcB PzF PzG PzH PzC. -/
import Derived.Test.YtgembejpiecfcaaGreatDoorPd1pk
import Derived.Test.YtgembejpiecfcaaGreatDoorPd1pi
import Derived.Test.YtgembejpiecfcaaGreatDoorPd1pc
import Derived.Lib.ConvBytes
import Derived.Test.YtgembejpiecfcaaGreatDoorPd1pe
import Derived.Shelf.Strings.BuilderK
import Derived.Shelf.Strings.BuilderF
set_option maxRecDepth 100000
set_option maxHeartbeats 16000000
set_option linter.unusedVariables false
set_option linter.unusedSimpArgs false
namespace Go.Proofs.YtgembejpiecfcaaGreatDoor
open Go.RowKit
open Classical
theorem tName_any (w : World) (b len : Nat) (h : Tp w b len) :
    Calls Tryz.prog 75 #[.pointer (some ⟨b, 0, none⟩)] w fun e w' => ∃ s, s ∈ nodesV ∧ e = .returned (.string (bs s)) ∧ Mv b len w w' := by
  have H := Lib.hid h
  have hb := h.has
  clear h
  go_enter Tryz.func75, Tryz.ntmps75
  go_wp2_with fail
  have RX : Hid (Row (w.alloc (.cells #[.string ⟨#[97]⟩, .string ⟨#[98]⟩, .string ⟨#[99]⟩, .string ⟨#[99, 112, 117]⟩, .string ⟨#[99, 108, 107]⟩, .string ⟨#[98, 117, 115, 64, 49, 48]⟩, .string ⟨#[100, 101, 118, 64, 50]⟩, .string ⟨#[120, 95, 49]⟩, .string ⟨#[122]⟩] 9)) w.heap.size 9 (strV nodesV)) := Lib.hid (Row.new w #[.string ⟨#[97]⟩, .string ⟨#[98]⟩, .string ⟨#[99]⟩, .string ⟨#[99, 112, 117]⟩, .string ⟨#[99, 108, 107]⟩, .string ⟨#[98, 117, 115, 64, 49, 48]⟩, .string ⟨#[100, 101, 118, 64, 50]⟩, .string ⟨#[120, 95, 49]⟩, .string ⟨#[122]⟩] 9)
  obtain ⟨W, hW⟩ : ∃ W : World, Hid (W = w.alloc (.cells #[.string ⟨#[97]⟩, .string ⟨#[98]⟩, .string ⟨#[99]⟩, .string ⟨#[99, 112, 117]⟩, .string ⟨#[99, 108, 107]⟩, .string ⟨#[98, 117, 115, 64, 49, 48]⟩, .string ⟨#[100, 101, 118, 64, 50]⟩, .string ⟨#[120, 95, 49]⟩, .string ⟨#[122]⟩] 9)) := ⟨_, Lib.hid rfl⟩
  have GW : Hid (Gr w W) := Lib.hid (by rw [hW.out]; exact (Gr.refl _).alloc _)
  rw [← hW.out] at RX ⊢
  clear hW
  refine (nM_any W b len 9 (H.out.gr GW.out) (by omega) (by omega)).mono ?_
  rintro e w1 ⟨x, rfl, ⟨x0, x1⟩, hm⟩
  have MV := Lib.hid ((Mv.of_gr H.out GW.out).trans H.out.has hm)
  have RY := Lib.hid (hm.row RX.out (by omega))
  obtain ⟨k, rfl⟩ := Int.eq_ofNat_of_zero_le x0
  have hk : k < nodesV.length := by simp [nodesV]; omega
  have c0 := RY.out.cell k (by simpa [strV] using hk)
  rw [strV_get hk] at c0
  have hh := has_of_cell c0
  have k9 : (k : Int) < 9 := by omega
  have MEM := Lib.hid (List.getElem_mem hk)
  obtain ⟨s, hs⟩ : ∃ s, nodesV[k] = s := ⟨_, rfl⟩
  rw [hs] at c0 MEM
  clear hm hs x0 x1
  go_wp2_with fail
  go_ret
  exact ⟨s, MEM.out, rfl, MV.out⟩
theorem rangeW_any (w : World) (b len : Nat) (lo hi : Int) (h : Tp w b len) (hl : 0 ≤ lo) (hh : lo ≤ hi) (hh1 : hi ≤ 9223372036854775806) :
    Calls Tryz.prog 43 #[.pointer (some ⟨b, 0, none⟩), .int .i64 lo, .int .i64 hi] w (ReadsM b len w (InTo lo hi)) :=
  h.elim fun p h => (range_any w b len p lo hi h hl hh hh1).mono fun _ _ q => q.m
theorem tNumber_any (w : World) (b len : Nat) (h : Tp w b len) :
    Calls Tryz.prog 44 #[.pointer (some ⟨b, 0, none⟩)] w fun e w' => ∃ n : Nat, n < 4294967296 ∧ e = .returned (.int .i64 n) ∧ Mv b len w w' := by
  have H := Lib.hid h
  have hb := h.has
  clear h
  go_enter Tryz.func44, Tryz.ntmps44
  go_wp2_with fail
  refine (rangeW_any w b len 0 300 H.out (by omega) (by omega) (by omega)).mono ?_
  rintro e w1 ⟨x, rfl, ⟨x0, x1⟩, hm1⟩
  have M1 := Lib.hid hm1
  have T1 := Lib.hid (hm1.tp H.out)
  clear hm1
  go_wp2_with fail
  refine (rangeW_any w1 b len 0 4294967295 T1.out (by omega) (by omega) (by omega)).mono ?_
  rintro e w2 ⟨y, rfl, ⟨y0, y1⟩, hm2⟩
  have M2 := Lib.hid (M1.out.trans H.out.has hm2)
  have T2 := Lib.hid (hm2.tp T1.out)
  have B2 := Lib.hid (M2.out.size)
  clear hm2
  go_wp2_with fail
  have RX : Hid (Row (w2.alloc (.cells #[.int .i64 0, .int .i64 1, .int .i64 2, .int .i64 3, .int .i64 5, .int .i64 31, .int .i64 32, .int .i64 x, .int .i64 4294967295, .int .i64 2147483648, .int .i64 y] 3)) w2.heap.size 3 (nums [0, 1, 2, 3, 5, 31, 32, x, 4294967295, 2147483648, y])) := Lib.hid (Row.new w2 #[.int .i64 0, .int .i64 1, .int .i64 2, .int .i64 3, .int .i64 5, .int .i64 31, .int .i64 32, .int .i64 x, .int .i64 4294967295, .int .i64 2147483648, .int .i64 y] 3)
  have TA := Lib.hid (T2.out.gr ((Gr.refl w2).alloc (.cells #[.int .i64 0, .int .i64 1, .int .i64 2, .int .i64 3, .int .i64 5, .int .i64 31, .int .i64 32, .int .i64 x, .int .i64 4294967295, .int .i64 2147483648, .int .i64 y] 3)))
  have ALL : ∀ z ∈ [0, 1, 2, 3, 5, 31, 32, x, 4294967295, 2147483648, y], 0 ≤ z ∧ z ≤ 4294967295 := by
    intro z hz
    simp only [List.mem_cons, List.not_mem_nil, or_false] at hz
    omega
  refine (pickM_any _ b len TA.out w2.heap.size 11 (fun x => 0 ≤ x ∧ x ≤ 4294967295) (by omega) (by omega) (by have := T2.out.has; omega) (fun k hk => ?_)).mono ?_
  · have hk2 : k < [0, 1, 2, 3, 5, 31, 32, x, 4294967295, 2147483648, y].length := hk
    refine ⟨_, RX.out.iat k hk2, ALL _ (List.getElem_mem hk2)⟩
  rintro e w3 ⟨z, rfl, ⟨z0, z1⟩, hm3⟩
  have M3 := Lib.hid ((M2.out.gr ((Gr.refl w2).alloc (.cells #[.int .i64 0, .int .i64 1, .int .i64 2, .int .i64 3, .int .i64 5, .int .i64 31, .int .i64 32, .int .i64 x, .int .i64 4294967295, .int .i64 2147483648, .int .i64 y] 3))).trans H.out.has hm3)
  clear hm3
  obtain ⟨n, rfl⟩ := Int.eq_ofNat_of_zero_le z0
  go_wp2_with fail
  go_ret
  exact ⟨n, by omega, rfl, M3.out⟩
def b4 (n : Nat) : List Int := [(n : Int) / 16777216, (n : Int) / 65536 % 256, (n : Int) / 256 % 256, (n : Int) % 256]
def u8s (l : List Int) : List Value := l.map (Value.int .u8)
theorem infoU8 : (Tryz.prog.info? 5).map (fun i => (i.zero, i.size, i.bytes)) = some (some (.int .u8 0), 1, 1) := by kernel_rfl
theorem strs_b4 (ns : List Nat) : strOfNums (ns.flatMap b4) = bs (cellsS ns) := by
  have h : ∀ n, (b4 n).map (fun x => UInt8.ofNat x.toNat) = cell4 n := fun n => by
    have := str4 n
    unfold strOfNums bs at this
    have := congrArg (fun b => b.data.toList) this
    simpa [b4] using this
  unfold strOfNums bs cellsS
  rw [List.map_flatMap]
  simp only [h]
theorem b4_len (ns : List Nat) : (ns.flatMap b4).length = 4 * ns.length := by
  induction ns with
  | nil => rfl
  | cons n ns ih => rw [List.flatMap_cons, List.length_append, ih]; simp [b4]; omega
theorem growCells_any (ns : List Nat) (a : Option Addr) (cap : Nat) (w : World) (h : SlOf 1 RI w a (ns.map (fun n : Nat => (n : Int)))) (hn : ∀ n ∈ ns, n < 4294967296) (h0 : 0 < ns.length) (hf : ns.length ≤ 1000) :
    Calls Tryz.prog 27 #[.slice a ns.length cap] w (Grows w (.string (bs (cellsS ns)))) := by
  have H := Lib.hid h
  have HN := Lib.hid hn
  obtain ⟨i0, hi, hz0, hz1, hz2⟩ := info_parts infoU8
  clear h hn
  go_enter Tryz.func27, Tryz.ntmps27
  go_wp2_with fail
  go_loopw [3, 8] (fun x i wr => ∃ k : Nat, k ≤ ns.length ∧ i = .int .i64 k ∧ wr.ownsRow w.heap.size 5 1 x (k * 4) (u8s ((ns.take k).flatMap b4)) ∧ Gr w wr) (fun _ i _ => ns.length - (intOf i).toNat)
  case atStart => exact ⟨0, Nat.zero_le _, rfl, World.ownsRow_nil _ _ _ _, Gr.refl _⟩
  case round =>
    obtain ⟨k, hk, rfl, ho, hg⟩ := hrel
    obtain ⟨va, vc, rfl⟩ := owns_slice ho
    have OW := Lib.hid ho
    have HG := Lib.hid hg
    clear ho hg
    by_cases hlt : k < ns.length
    · obtain ⟨b, o, rfl, c0, _⟩ := (H.out.giI HG.out).one k (by simpa using hlt)
      have hnk := HN.out ns[k] (List.getElem_mem hlt)
      obtain ⟨n, hn⟩ : ∃ n, n = ns[k] := ⟨_, rfl⟩
      have HNK := Lib.hid hn
      rw [List.getElem_map, ← hn] at c0
      rw [← hn] at hnk
      clear hn
      have hh := has_of_cell c0
      have NR := Lib.hid (row_cells (Row.new wr #[.int .u8 ((n : Int) / 16777216), .int .u8 ((n : Int) / 65536 % 256), .int .u8 ((n : Int) / 256 % 256), .int .u8 ((n : Int) % 256)] 5))
      go_wp2_with (at_builtin; refine wpList_append_own _ rfl _ _ 79 rfl w.heap.size 5 i0 (.int .u8 0) 1 1 Tryz.underlying79 hi hz0 hz1 hz2 rfl (by decide) (.slice va (k * 4) vc) (k * 4) (u8s ((ns.take k).flatMap b4)) rfl (OW.out.alloc _) ⟨wr.heap.size, 0, none⟩ 4 4 [.int .u8 ((n : Int) / 16777216), .int .u8 ((n : Int) / 65536 % 256), .int .u8 ((n : Int) / 256 % 256), .int .u8 ((n : Int) % 256)] rfl rfl NR.out (by intro u hu; simp at hu; rcases hu with rfl | rfl | rfl | rfl <;> rfl) (by unfold maxLen; omega) (by omega) (by have := HG.out.size; simp; omega) ?_; intro v' wz hown' hgrow hnil; have HOz := Lib.hid hown'; have HGz := Lib.hid hgrow; clear hown' hgrow hnil)
      go_roundw
      case rel =>
        refine ⟨k + 1, by omega, by go_num, ?_, (HG.out.alloc _).grown HGz.out (fun j e => (OW.out.lt j e).1)⟩
        have := HOz.out
        rw [List.take_succ_eq_append_getElem hlt, List.flatMap_append, ← HNK.out, show (k + 1) * 4 = k * 4 + 4 by omega]
        simpa [u8s, b4] using this
      case measure => simp [intOf]; omega
    · obtain rfl : k = ns.length := by omega
      have OW2 : Hid (wr.ownsRow w.heap.size 5 1 (.slice va (ns.length * 4) vc) (ns.length * 4) (u8s (ns.flatMap b4))) := Lib.hid (by have := OW.out; rwa [List.take_length] at this)
      obtain ⟨g, cp, e1, _, _, hc⟩ := owns_cell OW2.out (by omega)
      cases e1
      have hcv := run_convert_bytes_arg (P := Tryz.prog) wr 79 5 Tryz.underlying79 Tryz.underlying5 g 0 (ns.length * 4) vc (ns.flatMap b4) (by rw [b4_len]; omega)
        (fun i hi => by
          rw [Nat.zero_add, hc i (by omega)]
          have hl : i < (ns.flatMap b4).length := by rw [b4_len]; omega
          unfold u8s
          rw [List.getElem?_map, List.getElem?_eq_getElem hl, List.getD_eq_getElem?_getD, List.getElem?_eq_getElem hl]
          rfl) 9 Tryz.underlying9
      rw [strs_b4] at hcv
      clear hc OW
      go_wp2_with fail
      go_ret
      exact ⟨rfl, HG.out⟩
def MaxV (w : World) : Prop := ∃ m, w.cell? ⟨0, 0, none⟩ = some (.int .i64 m)
theorem MaxV.gr {w w' : World} (h : MaxV w) (hg : Gr w w') : MaxV w' := let ⟨m, h2⟩ := h; ⟨m, cell_gr hg h2⟩
/-! Replacing one byte. -/
theorem replK_one (c : UInt8) (new : St) : ∀ (s : St) (k : Nat), s.count c ≤ k → Lib.replaceK [c] new k s = s.flatMap (fun x => if x = c then new else [x]) := by
  intro s
  induction s with
  | nil =>
    intro k _
    cases k with
    | zero => rfl
    | succ k => rfl
  | cons x s ih =>
    intro k hk
    by_cases hx : x = c
    · subst hx
      rw [List.count_cons_self] at hk
      obtain ⟨k, rfl⟩ : ∃ z, k = z + 1 := ⟨k - 1, by omega⟩
      have h0 : Lib.index (x :: s) [x] = ((0 : Nat) : Int) := idx_at [] s (by simp)
      rw [Lib.replaceK_hit [x] new k (x :: s) 0 h0]
      simp only [List.take_zero, List.nil_append, List.length_singleton, Nat.zero_add, List.drop_succ_cons, List.drop_zero, List.flatMap_cons, if_true]
      rw [ih k (by omega)]
    · have hk2 : s.count c ≤ k := by rw [List.count_cons_of_ne (by simpa using hx)] at hk; exact hk
      rw [List.flatMap_cons, if_neg hx]
      have ih2 := ih k hk2
      cases k with
      | zero =>
        rw [Lib.replaceK] at ih2 ⊢
        rw [← ih2]; rfl
      | succ k =>
        by_cases hm : c ∈ s
        · obtain ⟨a, b, rfl, ha⟩ : ∃ a b, s = a ++ c :: b ∧ c ∉ a := by
            clear ih ih2 hk hk2
            induction s with
            | nil => simp at hm
            | cons y s ihs =>
              by_cases hy : y = c
              · exact ⟨[], s, by rw [hy]; rfl, by simp⟩
              · rcases List.mem_cons.1 hm with e | hm
                · exact absurd e.symm hy
                · obtain ⟨a, b, rfl, ha⟩ := ihs hm
                  exact ⟨y :: a, b, rfl, by simp; exact ⟨fun e => hy e.symm, ha⟩⟩
          have h1 : Lib.index (a ++ c :: b) [c] = (a.length : Nat) := idx_at a b ha
          have h2 : Lib.index (x :: (a ++ c :: b)) [c] = ((a.length + 1 : Nat) : Int) := idx_at (x :: a) b (by simp; exact ⟨fun e => hx e.symm, ha⟩)
          rw [Lib.replaceK_hit _ _ _ _ _ h1] at ih2
          rw [Lib.replaceK_hit _ _ _ _ _ h2, ← ih2]
          simp [List.take_succ_cons, List.drop_succ_cons, Nat.add_right_comm]
        · have h1 : Lib.index s [c] = -1 := idx_no s hm
          have h2 : Lib.index (x :: s) [c] = -1 := idx_no (x :: s) (by simp; exact ⟨fun e => hx e.symm, hm⟩)
          rw [Lib.replaceK, if_pos (by rw [h1]; decide)] at ih2
          rw [Lib.replaceK, if_pos (by rw [h2]; decide), ← ih2]; rfl
theorem repl_one (c : UInt8) (new s : St) (hne : [c] ≠ new) : Lib.replaceAll s [c] new = s.flatMap (fun x => if x = c then new else [x]) := by
  unfold Lib.replaceAll Lib.replace
  rw [if_neg (by simpa using hne)]
  unfold Lib.replaceNum
  rw [if_pos (.inl (by omega))]
  exact replK_one c new s _ (by rw [Lib.count_one]; exact Nat.le_refl _)
theorem esc_two (s : St) : (s.flatMap (fun x => if x = 92 then [92, 92] else [x])).flatMap (fun x => if x = 34 then [92, 34] else [x]) = s.flatMap escC := by
  induction s with
  | nil => rfl
  | cons x s ih =>
    rw [List.flatMap_cons, List.flatMap_append, ih, List.flatMap_cons]
    congr 1
    unfold escC
    by_cases h1 : x = 92
    · subst h1; simp
    · by_cases h2 : x = 34
      · subst h2; simp
      · simp [h1, h2]
theorem flat2_le (f : UInt8 → St) (hf : ∀ x, (f x).length ≤ 2) : ∀ s : St, (s.flatMap f).length ≤ 2 * s.length
  | [] => by simp
  | x :: s => by
    have h1 := hf x
    have h2 := flat2_le f hf s
    rw [List.flatMap_cons, List.length_append, List.length_cons]; omega
theorem esc_le (x : UInt8) : (escC x).length ≤ 2 := by unfold escC; split <;> simp
theorem repl_any (s new : St) (c : UInt8) (w : World) (h : MaxV w) (hs : s.length ≤ 1000000) (hne : [c] ≠ new) (hn : new.length ≤ 2) :
    Calls Tryz.prog 98 #[.string (bs s), .string (bs [c]), .string (bs new)] w fun e w' => e = .returned (.string (bs (s.flatMap (fun x => if x = c then new else [x])))) ∧ Gr w w' := by
  obtain ⟨m, hm⟩ := h
  refine (Tryz.strings_ReplaceAll (bs s) (bs [c]) (bs new) m w (by rw [bs_size]; omega) hm (by rw [bs_size]; simp) ?_).mono ?_
  · rw [bs_size, bs_size]
    have h1 : Lib.countB (bs s) (bs [c]) ≤ s.length := by
      unfold Lib.countB
      rw [bs_data, bs_data, Lib.count_one]
      exact List.count_le_length
    have := Nat.mul_le_mul h1 hn
    omega
  · rintro e w' ⟨he, hb⟩
    refine ⟨?_, Gr.of_below hb⟩
    rw [he, bs_data, bs_data, bs_data, repl_one c new s hne]
    rfl
theorem escaped_any (s : St) (w : World) (h : MaxV w) (hs : s.length ≤ 100000) :
    Calls Tryz.prog 51 #[.string (bs s)] w fun e w' => e = .returned (.string (bs (s.flatMap escC))) ∧ Gr w w' := by
  have H := Lib.hid h
  clear h
  go_enter Tryz.func51, Tryz.ntmps51
  go_wp2_with fail
  refine (repl_any s [92, 92] 92 w H.out (by omega) (by simp) (by simp)).mono ?_
  rintro e w1 ⟨rfl, hg⟩
  have G := Lib.hid hg
  clear hg
  have l1 := flat2_le (fun x => if x = 92 then [92, 92] else [x]) (fun x => by split <;> simp) s
  go_wp2_with fail
  refine (repl_any (s.flatMap (fun x => if x = 92 then [92, 92] else [x])) [92, 34] 34 w1 (H.out.gr G.out) (by omega) (by simp) (by simp)).mono ?_
  rintro e w2 ⟨rfl, hg⟩
  have G2 := Lib.hid (G.out.trans hg)
  clear hg
  rw [esc_two]
  go_wp2_with fail
  go_ret
  exact ⟨rfl, G2.out⟩
theorem quo_any (s : St) (w : World) (h : MaxV w) (hs : s.length ≤ 100000) :
    Calls Tryz.prog 50 #[.string (bs s)] w fun e w' => e = .returned (.string (bs (quoS s))) ∧ Gr w w' := by
  have C := escaped_any s w h hs
  have l1 := flat2_le escC esc_le s
  have l2 : (s.flatMap escC).length ≤ 200000 := by omega
  clear l1
  have hQ : Hid (quoS s = 34 :: (s.flatMap escC ++ [34])) := Lib.hid rfl
  obtain ⟨E, hE⟩ : ∃ E, s.flatMap escC = E := ⟨_, rfl⟩
  rw [hE] at C l2 hQ
  rw [hQ.out]
  have HC := Lib.hid C
  clear hE C hQ
  go_enter Tryz.func50, Tryz.ntmps50
  go_wp2_with fail
  refine HC.out.mono ?_
  rintro e w1 ⟨rfl, hg⟩
  have G := Lib.hid hg
  clear hg
  go_wp2_with fail
  go_ret
  exact ⟨rfl, G.out⟩
def bytF (c : UInt8) : St := fmtN c.toNat
theorem byte_any (c : UInt8) (w : World) (h : TabV w) :
    Calls Tryz.prog 55 #[.int .u8 (c.toNat : Int)] w fun e w' => e = .returned (.string (bs (bytF c))) ∧ Gr w w' := by
  have hc := c.toNat_lt
  go_enter Tryz.func55, Tryz.ntmps55
  go_wp2_with fail
  refine (pfmt_any c.toNat w (by omega) h).mono ?_
  rintro e w1 ⟨rfl, hg⟩
  have G := Lib.hid hg
  clear hg
  go_wp2_with fail
  go_ret
  exact ⟨rfl, G.out⟩
theorem map_bs (l : List St) : (l.map bs).map (fun s => s.data.toList) = l := by
  rw [List.map_map]
  conv => rhs; rw [← List.map_id l]
  apply List.map_congr_left
  intro s _
  exact bs_data s
theorem join_any (l : List St) (bk o c : Nat) (sep : St) (w : World) (hcells : ∀ j (h : j < l.length), w.cell? ⟨bk, o + j, none⟩ = some (.string (bs l[j]))) (hbk : bk < w.heap.size) (hN : l.length ≤ 1000) (hcap : l.length ≤ c) (hlen : (Lib.join l sep).length ≤ 1000000) :
    Calls Tryz.prog 97 #[.slice (some ⟨bk, o, none⟩) l.length c, .string (bs sep)] w (Grows w (.string (bs (Lib.join l sep)))) := by
  have h := Tryz.strings_Join bk o c (l.map bs) (bs sep) w (fun j x hx => by
    obtain ⟨hj, e⟩ := List.getElem?_eq_some_iff.1 hx
    rw [List.getElem_map] at e
    rw [← e]
    exact hcells j (by simpa using hj)) hbk (by rw [List.length_map]; omega) (by rw [List.length_map]; exact hcap) (by rw [map_bs, bs_data]; omega)
  rw [List.length_map, map_bs, bs_data] at h
  exact h.mono fun e w' ⟨he, hb⟩ => ⟨he, Gr.of_below hb⟩
theorem joinO_any (l : List St) (v : Value) (base : Nat) (sep : St) (w : World) (ho : w.ownsRow base 9 1 v l.length (strV l)) (h0 : 0 < l.length) (hN : l.length ≤ 1000) (hlen : (Lib.join l sep).length ≤ 1000000) :
    Calls Tryz.prog 97 #[v, .string (bs sep)] w (Grows w (.string (bs (Lib.join l sep)))) := by
  obtain ⟨g, cap, rfl, hc, _, hcell⟩ := owns_cell ho h0
  refine join_any l g 0 cap sep w (fun j hj => ?_) ?_ hN hc hlen
  · rw [Nat.zero_add, hcell j (by omega)]
    simp [strV, hj]
  · exact (ho.lt g rfl).2
theorem infoStJ : (Tryz.prog.info? 9).map (fun i => (i.zero, i.size, i.bytes)) = some (some (.string (bs [])), 1, 16) := by kernel_rfl
theorem joinedS_any (l : List St) (B cap : Nat) (sep : St) (w : World) (hM : MaxV w) (hS : ∀ s ∈ l, s.length ≤ 100000) (hcell : ∀ k (h : k < l.length), w.cell? ⟨B, k, none⟩ = some (.string (bs l[k]))) (h0 : 0 < l.length) (hl : l.length ≤ 1000) (hcap : l.length ≤ cap) (hlen : (Lib.join (l.map quoS) sep).length ≤ 1000000) :
    Calls Tryz.prog 49 #[.slice (some ⟨B, 0, none⟩) l.length cap, .string (bs sep), .func (.func 50) #[] #[]] w fun e w' => e = .returned (.string (bs (Lib.join (l.map quoS) sep))) ∧ Gr w w' := by
  obtain ⟨i0, hi, hz0, hz1, hz2⟩ := info_parts infoStJ
  obtain ⟨P0, hP0⟩ : ∃ P : Ending → World → Prop, P = fun e w' => e = .returned (.string (bs (Lib.join (l.map quoS) sep))) ∧ Gr w w' := ⟨_, rfl⟩
  rw [← hP0]
  have HP0 := Lib.hid hP0
  clear hP0
  have HL := Lib.hid hlen
  have HC := Lib.hid hcell
  have HM := Lib.hid hM
  have HS := Lib.hid hS
  clear hM hS
  clear hlen hcell
  go_enter Tryz.func49, Tryz.ntmps49
  go_wp2_with fail
  go_loopw [7, 12] (fun v i wr => ∃ k : Nat, k ≤ l.length ∧ i = .int .i64 (k : Int) ∧ wr.ownsRow w.heap.size 9 1 v k (strV ((l.take k).map quoS)) ∧ Gr w wr) (fun _ i _ => l.length - (intOf i).toNat)
  case atStart => exact ⟨0, Nat.zero_le _, rfl, World.ownsRow_nil _ _ _ _, Gr.refl _⟩
  case round =>
    obtain ⟨k, hk, rfl, ho, hg⟩ := hrel
    obtain ⟨va, vc, rfl⟩ := owns_slice ho
    have OW := Lib.hid ho
    have HG := Lib.hid hg
    clear ho hg
    by_cases hlt : k < l.length
    · have hlti : (k : Int) < l.length := by omega
      have x0 := cell_gr HG.out (HC.out k hlt)
      have hx := has_of_cell x0
      have TK : Hid (strV ((l.take (k + 1)).map quoS) = strV ((l.take k).map quoS) ++ [.string (bs (quoS l[k]))]) := Lib.hid (by rw [List.take_succ_eq_append_getElem hlt, List.map_append]; unfold strV; rw [List.map_append]; rfl)
      have CL := Lib.hid (quo_any l[k] _ (HM.out.gr HG.out) (HS.out _ (List.getElem_mem hlt)))
      obtain ⟨X, hX⟩ : ∃ X, quoS l[k] = X := ⟨_, rfl⟩
      rw [hX] at TK CL
      clear hX
      go_upto_region 5 with fail
      go_wp2_with (first
        | (go_at_call 50; refine CL.out.mono ?_; rintro e w1 ⟨rfl, hg1⟩; have G1 := Lib.hid (HG.out.trans hg1); have OW1 := Lib.hid (Gr.owns OW.out hg1); have sz1 := Lib.hid G1.out.size; have NR := Lib.hid (row_cells (Row.new w1 #[.string (bs X)] 9)); clear hg1)
        | (at_builtin; refine wpList_append_own _ rfl _ _ 38 rfl w.heap.size 9 i0 (.string (bs [])) 1 16 Tryz.underlying38 hi hz0 hz1 hz2 rfl (by decide) (.slice va k vc) k (strV ((l.take k).map quoS)) rfl (OW1.out.alloc _) ⟨w1.heap.size, 0, none⟩ 1 1 [.string (bs X)] rfl rfl NR.out (by intro u hu; rw [List.mem_singleton.1 hu]; rfl) (by unfold maxLen; omega) (by omega) (by have := sz1.out; simp; omega) ?_; intro v' wz hown' hgrow hnil; have HOz := Lib.hid hown'; have HGz := Lib.hid hgrow; clear hown' hgrow hnil)
        | fail)
      go_roundw
      case rel => exact ⟨k + 1, by omega, by go_num, by rw [TK.out]; exact HOz.out, (G1.out.alloc _).grown HGz.out (fun j e => (OW1.out.lt j e).1)⟩
      case measure => simp [intOf]; omega
    · obtain rfl : k = l.length := by omega
      have O2 : Hid (wr.ownsRow w.heap.size 9 1 (.slice va l.length vc) (l.map quoS).length (strV (l.map quoS))) := Lib.hid (by have := OW.out; rw [List.take_length] at this; rw [List.length_map]; exact this)
      have J := joinO_any (l.map quoS) (.slice va l.length vc) w.heap.size sep wr O2.out (by rw [List.length_map]; exact h0) (by rw [List.length_map]; exact hl) HL.out
      have HJ := Lib.hid J
      clear J
      obtain ⟨R, hR⟩ : ∃ R, Lib.join (l.map quoS) sep = R := ⟨_, rfl⟩
      rw [hR] at HJ
      have HR := Lib.hid hR
      clear hR
      go_wp2_with fail
      refine HJ.out.mono ?_
      rintro e w2 ⟨rfl, hg2⟩
      have G2 := Lib.hid (HG.out.trans hg2)
      clear hg2
      go_wp2_with fail
      rw [HP0.out, HR.out]
      exact ⟨rfl, G2.out⟩
theorem joinedI_any (l : List Nat) (B cap : Nat) (sep : St) (w : World) (hT : TabV w) (hS : ∀ n ∈ l, n < 4294967296) (hcell : ∀ k (h : k < l.length), w.cell? ⟨B, k, none⟩ = some (.int .i64 (l[k] : Int))) (h0 : 0 < l.length) (hl : l.length ≤ 1000) (hcap : l.length ≤ cap) (hlen : (Lib.join (l.map fmtN) sep).length ≤ 1000000) :
    Calls Tryz.prog 52 #[.slice (some ⟨B, 0, none⟩) l.length cap, .string (bs sep), .func (.func 53) #[] #[]] w fun e w' => e = .returned (.string (bs (Lib.join (l.map fmtN) sep))) ∧ Gr w w' := by
  obtain ⟨i0, hi, hz0, hz1, hz2⟩ := info_parts infoStJ
  obtain ⟨P0, hP0⟩ : ∃ P : Ending → World → Prop, P = fun e w' => e = .returned (.string (bs (Lib.join (l.map fmtN) sep))) ∧ Gr w w' := ⟨_, rfl⟩
  rw [← hP0]
  have HP0 := Lib.hid hP0
  clear hP0
  have HL := Lib.hid hlen
  have HC := Lib.hid hcell
  have HT := Lib.hid hT
  have HS := Lib.hid hS
  clear hT hS
  clear hlen hcell
  go_enter Tryz.func52, Tryz.ntmps52
  go_wp2_with fail
  go_loopw [7, 12] (fun v i wr => ∃ k : Nat, k ≤ l.length ∧ i = .int .i64 (k : Int) ∧ wr.ownsRow w.heap.size 9 1 v k (strV ((l.take k).map fmtN)) ∧ Gr w wr) (fun _ i _ => l.length - (intOf i).toNat)
  case atStart => exact ⟨0, Nat.zero_le _, rfl, World.ownsRow_nil _ _ _ _, Gr.refl _⟩
  case round =>
    obtain ⟨k, hk, rfl, ho, hg⟩ := hrel
    obtain ⟨va, vc, rfl⟩ := owns_slice ho
    have OW := Lib.hid ho
    have HG := Lib.hid hg
    clear ho hg
    by_cases hlt : k < l.length
    · have hlti : (k : Int) < l.length := by omega
      have x0 := cell_gr HG.out (HC.out k hlt)
      have hx := has_of_cell x0
      have TK : Hid (strV ((l.take (k + 1)).map fmtN) = strV ((l.take k).map fmtN) ++ [.string (bs (fmtN l[k]))]) := Lib.hid (by rw [List.take_succ_eq_append_getElem hlt, List.map_append]; unfold strV; rw [List.map_append]; rfl)
      have CL := Lib.hid (pfmt_any l[k] _ (HS.out _ (List.getElem_mem hlt)) (HT.out.gr HG.out))
      obtain ⟨X, hX⟩ : ∃ X, fmtN l[k] = X := ⟨_, rfl⟩
      rw [hX] at TK CL
      clear hX
      go_upto_region 5 with fail
      go_wp2_with (first
        | (go_at_call 53; refine CL.out.mono ?_; rintro e w1 ⟨rfl, hg1⟩; have G1 := Lib.hid (HG.out.trans hg1); have OW1 := Lib.hid (Gr.owns OW.out hg1); have sz1 := Lib.hid G1.out.size; have NR := Lib.hid (row_cells (Row.new w1 #[.string (bs X)] 9)); clear hg1)
        | (at_builtin; refine wpList_append_own _ rfl _ _ 38 rfl w.heap.size 9 i0 (.string (bs [])) 1 16 Tryz.underlying38 hi hz0 hz1 hz2 rfl (by decide) (.slice va k vc) k (strV ((l.take k).map fmtN)) rfl (OW1.out.alloc _) ⟨w1.heap.size, 0, none⟩ 1 1 [.string (bs X)] rfl rfl NR.out (by intro u hu; rw [List.mem_singleton.1 hu]; rfl) (by unfold maxLen; omega) (by omega) (by have := sz1.out; simp; omega) ?_; intro v' wz hown' hgrow hnil; have HOz := Lib.hid hown'; have HGz := Lib.hid hgrow; clear hown' hgrow hnil)
        | fail)
      go_roundw
      case rel => exact ⟨k + 1, by omega, by go_num, by rw [TK.out]; exact HOz.out, (G1.out.alloc _).grown HGz.out (fun j e => (OW1.out.lt j e).1)⟩
      case measure => simp [intOf]; omega
    · obtain rfl : k = l.length := by omega
      have O2 : Hid (wr.ownsRow w.heap.size 9 1 (.slice va l.length vc) (l.map fmtN).length (strV (l.map fmtN))) := Lib.hid (by have := OW.out; rw [List.take_length] at this; rw [List.length_map]; exact this)
      have J := joinO_any (l.map fmtN) (.slice va l.length vc) w.heap.size sep wr O2.out (by rw [List.length_map]; exact h0) (by rw [List.length_map]; exact hl) HL.out
      have HJ := Lib.hid J
      clear J
      obtain ⟨R, hR⟩ : ∃ R, Lib.join (l.map fmtN) sep = R := ⟨_, rfl⟩
      rw [hR] at HJ
      have HR := Lib.hid hR
      clear hR
      go_wp2_with fail
      refine HJ.out.mono ?_
      rintro e w2 ⟨rfl, hg2⟩
      have G2 := Lib.hid (HG.out.trans hg2)
      clear hg2
      go_wp2_with fail
      rw [HP0.out, HR.out]
      exact ⟨rfl, G2.out⟩
theorem joinedB_any (l : List UInt8) (B cap : Nat) (sep : St) (w : World) (hT : TabV w) (hcell : ∀ k (h : k < l.length), w.cell? ⟨B, k, none⟩ = some (.int .u8 (l[k].toNat : Int))) (h0 : 0 < l.length) (hl : l.length ≤ 1000) (hcap : l.length ≤ cap) (hlen : (Lib.join (l.map bytF) sep).length ≤ 1000000) :
    Calls Tryz.prog 54 #[.slice (some ⟨B, 0, none⟩) l.length cap, .string (bs sep), .func (.func 55) #[] #[]] w fun e w' => e = .returned (.string (bs (Lib.join (l.map bytF) sep))) ∧ Gr w w' := by
  obtain ⟨i0, hi, hz0, hz1, hz2⟩ := info_parts infoStJ
  obtain ⟨P0, hP0⟩ : ∃ P : Ending → World → Prop, P = fun e w' => e = .returned (.string (bs (Lib.join (l.map bytF) sep))) ∧ Gr w w' := ⟨_, rfl⟩
  rw [← hP0]
  have HP0 := Lib.hid hP0
  clear hP0
  have HL := Lib.hid hlen
  have HC := Lib.hid hcell
  have HT := Lib.hid hT
  clear hT
  clear hlen hcell
  go_enter Tryz.func54, Tryz.ntmps54
  go_wp2_with fail
  go_loopw [7, 12] (fun v i wr => ∃ k : Nat, k ≤ l.length ∧ i = .int .i64 (k : Int) ∧ wr.ownsRow w.heap.size 9 1 v k (strV ((l.take k).map bytF)) ∧ Gr w wr) (fun _ i _ => l.length - (intOf i).toNat)
  case atStart => exact ⟨0, Nat.zero_le _, rfl, World.ownsRow_nil _ _ _ _, Gr.refl _⟩
  case round =>
    obtain ⟨k, hk, rfl, ho, hg⟩ := hrel
    obtain ⟨va, vc, rfl⟩ := owns_slice ho
    have OW := Lib.hid ho
    have HG := Lib.hid hg
    clear ho hg
    by_cases hlt : k < l.length
    · have hlti : (k : Int) < l.length := by omega
      have x0 := cell_gr HG.out (HC.out k hlt)
      have hx := has_of_cell x0
      have TK : Hid (strV ((l.take (k + 1)).map bytF) = strV ((l.take k).map bytF) ++ [.string (bs (bytF l[k]))]) := Lib.hid (by rw [List.take_succ_eq_append_getElem hlt, List.map_append]; unfold strV; rw [List.map_append]; rfl)
      have CL := Lib.hid (byte_any l[k] _ (HT.out.gr HG.out))
      obtain ⟨X, hX⟩ : ∃ X, bytF l[k] = X := ⟨_, rfl⟩
      rw [hX] at TK CL
      clear hX
      go_upto_region 5 with fail
      go_wp2_with (first
        | (go_at_call 55; refine CL.out.mono ?_; rintro e w1 ⟨rfl, hg1⟩; have G1 := Lib.hid (HG.out.trans hg1); have OW1 := Lib.hid (Gr.owns OW.out hg1); have sz1 := Lib.hid G1.out.size; have NR := Lib.hid (row_cells (Row.new w1 #[.string (bs X)] 9)); clear hg1)
        | (at_builtin; refine wpList_append_own _ rfl _ _ 38 rfl w.heap.size 9 i0 (.string (bs [])) 1 16 Tryz.underlying38 hi hz0 hz1 hz2 rfl (by decide) (.slice va k vc) k (strV ((l.take k).map bytF)) rfl (OW1.out.alloc _) ⟨w1.heap.size, 0, none⟩ 1 1 [.string (bs X)] rfl rfl NR.out (by intro u hu; rw [List.mem_singleton.1 hu]; rfl) (by unfold maxLen; omega) (by omega) (by have := sz1.out; simp; omega) ?_; intro v' wz hown' hgrow hnil; have HOz := Lib.hid hown'; have HGz := Lib.hid hgrow; clear hown' hgrow hnil)
        | fail)
      go_roundw
      case rel => exact ⟨k + 1, by omega, by go_num, by rw [TK.out]; exact HOz.out, (G1.out.alloc _).grown HGz.out (fun j e => (OW1.out.lt j e).1)⟩
      case measure => simp [intOf]; omega
    · obtain rfl : k = l.length := by omega
      have O2 : Hid (wr.ownsRow w.heap.size 9 1 (.slice va l.length vc) (l.map bytF).length (strV (l.map bytF))) := Lib.hid (by have := OW.out; rw [List.take_length] at this; rw [List.length_map]; exact this)
      have J := joinO_any (l.map bytF) (.slice va l.length vc) w.heap.size sep wr O2.out (by rw [List.length_map]; exact h0) (by rw [List.length_map]; exact hl) HL.out
      have HJ := Lib.hid J
      clear J
      obtain ⟨R, hR⟩ : ∃ R, Lib.join (l.map bytF) sep = R := ⟨_, rfl⟩
      rw [hR] at HJ
      have HR := Lib.hid hR
      clear hR
      go_wp2_with fail
      refine HJ.out.mono ?_
      rintro e w2 ⟨rfl, hg2⟩
      have G2 := Lib.hid (HG.out.trans hg2)
      clear hg2
      go_wp2_with fail
      rw [HP0.out, HR.out]
      exact ⟨rfl, G2.out⟩
theorem bs_map (l : List ByteArray) : strV (l.map (fun s => s.data.toList)) = l.map Value.string := by
  unfold strV
  rw [List.map_map]
  apply List.map_congr_left
  intro s _
  show Value.string (bs s.data.toList) = _
  rw [← bs_of]
theorem countB_len (l sep : St) (h : 1 ≤ sep.length) : Lib.countB (bs l) (bs sep) + 1 = (Lib.split l sep).length := by
  have e := Lib.splitB_data (bs sep) 0 (Lib.countB (bs l) (bs sep)) (bs l)
  have e2 := Lib.splitB_all (bs sep) (by rw [bs_size]; exact h) 0 _ (bs l) rfl
  have e3 := congrArg List.length e
  rw [List.length_map, e2, bs_data, bs_data] at e3
  rw [e3]
  unfold Lib.split Lib.countB
  rw [bs_data, bs_data]
theorem splitK_le (sep : St) (save : Nat) (hs : save = 0) : ∀ (k : Nat) (l : St), ∀ s ∈ Lib.splitK sep save k l, s.length ≤ l.length
  | 0, l, s, h => by simp [Lib.splitK] at h; rw [h]; exact Nat.le_refl _
  | k + 1, l, s, h => by
    unfold Lib.splitK at h
    split at h
    · simp at h; rw [h]; exact Nat.le_refl _
    · rcases List.mem_cons.1 h with q | q
      · rw [q, List.length_take]; exact Nat.min_le_right _ _
      · have := splitK_le sep save hs k _ s q
        rw [List.length_drop] at this; omega
theorem split_le (l sep : St) : ∀ s ∈ Lib.split l sep, s.length ≤ l.length := splitK_le sep 0 rfl _ l
theorem split_len (l sep : St) (h : 1 ≤ sep.length) : (Lib.split l sep).length ≤ l.length + 1 := by
  rw [← countB_len l sep h]
  have := Lib.countB_le (bs sep) (by rw [bs_size]; exact h) _ (bs l) (Nat.le_refl _)
  rw [bs_size] at this
  omega
theorem bytes_gr (w : World) (e : TypeId) (s : ByteArray) : Gr w (Lib.bytesWorld w e s) := by
  refine Gr.of_below ⟨?_, ?_, ?_, by rw [Lib.bytesWorld_size]; omega, fun k hk => Lib.bytesWorld_at_old w e s k hk⟩ <;> simp [Lib.bytesWorld, World.freeze, World.alloc, World.drew, -World.alloc_eq, -World.drew_eq]
theorem cutSuf_any (l p : St) (w : World) (hl : l.length ≤ 1000000) :
    Calls Tryz.prog 47 #[.string (bs l), .string (bs p)] w fun e w' => e = .returned (.tuple #[.string (bs (Lib.trimSuffix l p)), .bool (Lib.hasSuffix l p)]) ∧ w = w' :=
  (Tryz.strings_CutSuffix (bs l) (bs p) w (by rw [bs_size]; omega)).mono fun e w' ⟨he, hw⟩ => ⟨by rw [he, bs_data, bs_data]; rfl, hw.symm⟩
theorem split_any (l sep : St) (w : World) (hl : l.length ≤ 1000000) (h1 : 1 ≤ sep.length) (h : MaxV w) :
    Calls Tryz.prog 48 #[.string (bs l), .string (bs sep)] w fun e w' => ∃ B, e = .returned (.slice (some ⟨B, 0, none⟩) (Lib.split l sep).length (Lib.split l sep).length) ∧ Row w' B 9 (strV (Lib.split l sep)) ∧ w.heap.size ≤ B ∧ Gr w w' := by
  obtain ⟨m, hm⟩ := h
  refine (Tryz.strings_Split (bs l) (bs sep) m w (by rw [bs_size]; omega) hm (by rw [bs_size]; exact h1)).mono ?_
  rintro e w' ⟨he, rfl⟩
  rw [countB_len l sep h1] at he
  refine ⟨w.heap.size, he, ?_, Nat.le_refl _, (Gr.refl _).alloc _⟩
  have R := Row.new w ((Lib.splitB (bs sep) 0 (Lib.countB (bs l) (bs sep)) (bs l)).map Value.string).toArray 9
  have e : ((Lib.splitB (bs sep) 0 (Lib.countB (bs l) (bs sep)) (bs l)).map Value.string).toArray.toList = strV (Lib.split l sep) := by
    rw [List.toList_toArray, ← bs_map, Lib.splitB_data, bs_data, bs_data]
    unfold Lib.split Lib.countB
    rw [bs_data, bs_data]
  rw [e] at R
  exact R
def chrOk (c : UInt8) : Bool := decide (32 ≤ c.toNat) && decide (c.toNat ≤ 126)
theorem txtOk_eq (s : St) : txtOk s = (!s.isEmpty && s.all chrOk) := rfl
def GivesStrs (o : Option (List St)) (w : World) (e : Ending) (w' : World) : Prop := Gr w w' ∧ match o with
  | none => e = .returned (.tuple #[.slice none 0 0, .bool false])
  | some l => ∃ B, e = .returned (.tuple #[.slice (some ⟨B, 0, none⟩) l.length l.length, .bool true]) ∧ Row w' B 9 (strV l) ∧ w.heap.size ≤ B
theorem strings_any (v : St) (w : World) (hf : v.length ≤ 1000000) (hM : MaxV w) :
    Calls Tryz.prog 17 #[.string (bs v)] w (GivesStrs (strsP v) w) := by
  obtain ⟨P0, hP0⟩ : ∃ P : Ending → World → Prop, P = GivesStrs (strsP v) w := ⟨_, rfl⟩
  rw [← hP0]
  have HP0 := Lib.hid hP0
  clear hP0
  by_cases hs : Lib.hasSuffix v [0] = true
  · go_enter Tryz.func17, Tryz.ntmps17
    go_wp2_with fail
    refine (cutSuf_any v [0] w hf).mono ?_
    rintro e w' ⟨rfl, rfl⟩
    rw [hs]
    obtain ⟨body, hbody⟩ : ∃ body, Lib.trimSuffix v [0] = body := ⟨_, rfl⟩
    have BL : body.length ≤ 1000000 := by
      rw [← hbody]; unfold Lib.trimSuffix; split <;> simp only [List.length_take] <;> omega
    have SP : Hid (strsP v = if (Lib.split body [0]).all txtOk = true then some (Lib.split body [0]) else none) := Lib.hid (by
      unfold strsP; rw [hbody, hs]; simp)
    rw [hbody]
    clear hbody
    go_wp2_with fail
    refine (split_any body [0] w BL (by simp) hM).mono ?_
    rintro e w1 ⟨B, rfl, hr, hB, hg⟩
    have R1 := Lib.hid hr
    have G1 := Lib.hid hg
    have SB := Lib.hid hB
    have LL : Hid (∀ s ∈ Lib.split body [0], s.length ≤ 1000000) := Lib.hid (fun s hs2 => Nat.le_trans (split_le body [0] s hs2) BL)
    have LN : Hid ((Lib.split body [0]).length ≤ 2000000) := Lib.hid (by have := split_len body [0] (by simp); omega)
    obtain ⟨L, hL⟩ : ∃ L, Lib.split body [0] = L := ⟨_, rfl⟩
    rw [hL] at R1 SP LL LN ⊢
    clear hr hg hB hL
    have ln := LN.out
    go_wp2_with fail
    go_loopw [21] (fun i wr => ∃ k : Nat, k ≤ L.length ∧ i = .int .i64 (k : Int) ∧ (L.take k).all txtOk = true ∧ Gr w1 wr) (fun i _ => L.length - (intOf i).toNat)
    case atStart => exact ⟨0, Nat.zero_le _, rfl, rfl, Gr.refl _⟩
    case round =>
      obtain ⟨k, hk, rfl, hall, hg⟩ := hrel
      have HA := Lib.hid hall
      have HG := Lib.hid hg
      clear hall hg
      by_cases hlt : k < L.length
      · have c0 := (R1.out.gr HG.out).cell k (by simpa [strV] using hlt)
        rw [strV_get hlt] at c0
        have hh := has_of_cell c0
        have SL : L[k].length ≤ 1000000 := LL.out _ (List.getElem_mem hlt)
        obtain ⟨s, hs2⟩ : ∃ s, L[k] = s := ⟨_, rfl⟩
        have HS := Lib.hid hs2
        rw [hs2] at c0 SL
        clear hs2
        by_cases he : s = []
        · have OUT : Hid (strsP v = none) := Lib.hid (by
            rw [SP.out, if_neg]
            rw [Bool.not_eq_true, List.all_eq_false]
            exact ⟨_, List.getElem_mem hlt, by rw [HS.out, he]; simp [txtOk]⟩)
          have h0 : s.isEmpty = true := by rw [he]; rfl
          clear he
          go_wp2_with fail
          rw [HP0.out, OUT.out]
          exact ⟨G1.out.trans HG.out, rfl⟩
        · have h0 : s.isEmpty = false := by simpa using he
          have HE := Lib.hid he
          clear he
          go_wp2_with fail
          go_loop [29] (fun i => ∃ m : Nat, m ≤ s.length ∧ i = .int .i64 (m : Int) ∧ (s.take m).all chrOk = true) (fun i => s.length - (intOf i).toNat)
          case atStart => exact ⟨0, Nat.zero_le _, rfl, rfl⟩
          case round =>
            obtain ⟨m, hm, rfl, hc⟩ := hrel
            have HC := Lib.hid hc
            clear hc
            by_cases hlm : m < s.length
            · obtain ⟨c, hcc⟩ : ∃ c, s[m] = c := ⟨_, rfl⟩
              have HCC := Lib.hid hcc
              have hb := s[m].toNat_lt
              by_cases h1 : (s[m].toNat : Int) < 32
              · have BAD : Hid (strsP v = none) := Lib.hid (by
                  rw [SP.out, if_neg]
                  rw [Bool.not_eq_true, List.all_eq_false]
                  refine ⟨_, List.getElem_mem hlt, ?_⟩
                  rw [HS.out, txtOk_eq, Bool.and_eq_true, not_and]
                  intro _ q
                  have := List.all_eq_true.1 q _ (List.getElem_mem hlm)
                  unfold chrOk at this
                  simp at this
                  omega)
                clear hcc
                go_wp2_with fail
                rw [HP0.out, BAD.out]
                exact ⟨G1.out.trans HG.out, rfl⟩
              · by_cases h2 : (126 : Int) < (s[m].toNat : Int)
                · have BAD : Hid (strsP v = none) := Lib.hid (by
                    rw [SP.out, if_neg]
                    rw [Bool.not_eq_true, List.all_eq_false]
                    refine ⟨_, List.getElem_mem hlt, ?_⟩
                    rw [HS.out, txtOk_eq, Bool.and_eq_true, not_and]
                    intro _ q
                    have := List.all_eq_true.1 q _ (List.getElem_mem hlm)
                    unfold chrOk at this
                    simp at this
                    omega)
                  clear hcc
                  go_wp2_with fail
                  rw [HP0.out, BAD.out]
                  exact ⟨G1.out.trans HG.out, rfl⟩
                · have OKC : Hid (chrOk s[m] = true) := Lib.hid (by unfold chrOk; simp; omega)
                  clear hcc
                  go_wp2_with fail
                  go_round
                  case rel => exact ⟨m + 1, by omega, by go_num, by rw [List.take_succ_eq_append_getElem hlm, List.all_append, HC.out]; simp [OKC.out]⟩
                  case measure => simp [intOf]; omega
            · have TOK : Hid (txtOk s = true) := Lib.hid (by
                rw [txtOk_eq]
                have h3 : s.all chrOk = true := by rw [← HC.out, List.take_of_length_le (by omega)]
                rw [h3]; simp [HE.out])
              go_wp2_with fail
              go_roundw
              case rel => exact ⟨k + 1, by omega, by go_num, by rw [List.take_succ_eq_append_getElem hlt, List.all_append, HA.out, HS.out]; simp [TOK.out], HG.out⟩
              case measure => simp [intOf]; omega
      · obtain rfl : k = L.length := by omega
        have OUT : Hid (strsP v = some L) := Lib.hid (by rw [SP.out, if_pos]; rw [← HA.out, List.take_length])
        clear HA
        go_wp2_with fail
        rw [HP0.out, OUT.out]
        exact ⟨G1.out.trans HG.out, B, rfl, R1.out.gr HG.out, SB.out⟩
  · rw [Bool.not_eq_true] at hs
    have OUT : Hid (strsP v = none) := Lib.hid (by unfold strsP; rw [hs]; simp)
    go_enter Tryz.func17, Tryz.ntmps17
    go_wp2_with fail
    refine (cutSuf_any v [0] w hf).mono ?_
    rintro e w' ⟨rfl, rfl⟩
    rw [hs]
    go_wp2_with fail
    rw [HP0.out, OUT.out]
    exact ⟨Gr.refl _, rfl⟩
/-! Value. -/
theorem numS_len : ∀ l : List Nat, (numS l).length ≤ 11 * l.length := by
  have tj : ∀ l : List Nat, (tailJ [32] (l.map fmtN)).length ≤ 11 * l.length := by
    intro l
    induction l with
    | nil => simp [tailJ]
    | cons x l ih =>
      have := fmtN_len x
      simp only [tailJ, List.map_cons, List.flatMap_cons, List.length_append, List.length_cons, List.length_nil] at ih ⊢
      omega
  intro l
  cases l with
  | nil => simp [numS, Lib.join, List.intercalate]
  | cons x l =>
    have h1 := fmtN_len x
    have h2 := tj l
    unfold numS
    rw [List.map_cons, join_cons, List.length_append, List.length_cons]
    omega
theorem cellsL_len : ∀ v : St, (cellsL v).length ≤ v.length
  | [] => by simp [cellsL]
  | [_] => by simp [cellsL]
  | [_, _] => by simp [cellsL]
  | [_, _, _] => by simp [cellsL]
  | _ :: _ :: _ :: _ :: r => by have := cellsL_len r; simp only [cellsL, List.length_cons]; omega
theorem cells_nonneg : ∀ (v : St), ∀ x ∈ cellsL v, 0 ≤ x
  | [], x, h => by simp [cellsL] at h
  | [_], x, h => by simp [cellsL] at h
  | [_, _], x, h => by simp [cellsL] at h
  | [_, _, _], x, h => by simp [cellsL] at h
  | _ :: _ :: _ :: _ :: r, x, h => by
    rw [cellsL] at h
    rcases List.mem_cons.1 h with rfl | h
    · omega
    · exact cells_nonneg r x h
theorem cellsL_pos {v : St} (h : cellsOk v = true) : 0 < (cellsL v).length := by
  unfold cellsOk at h
  simp only [Bool.and_eq_true] at h
  match v, h with
  | [], h => simp at h
  | [_], h => simp at h
  | [_, _], h => simp at h
  | [_, _, _], h => simp at h
  | _ :: _ :: _ :: _ :: r, _ => simp [cellsL]
theorem quoJ_len {v : St} {l : List St} (h : strsP v = some l) : (Lib.join (l.map quoS) [44, 32]).length ≤ 4 * v.length ∧ l.length ≤ v.length ∧ (∀ s ∈ l, s.length ≤ v.length) ∧ 0 < l.length := by
  obtain ⟨h1, h2, h3⟩ := strsP_some h
  have key : ∀ l : List St, (tailJ [44, 32] (l.map quoS)).length ≤ 4 * (tailJ [0] l).length ∧ l.length ≤ (tailJ [0] l).length ∧ ∀ s ∈ l, s.length ≤ (tailJ [0] l).length := by
    intro l
    induction l with
    | nil => simp [tailJ]
    | cons x l ih =>
      have hx := flat2_le escC esc_le x
      obtain ⟨i1, i2, i3⟩ := ih
      simp only [tailJ, List.map_cons, List.flatMap_cons, List.length_append, List.length_cons, List.length_nil, quoS] at i1 i2 i3 ⊢
      refine ⟨by omega, by omega, fun s hs => ?_⟩
      rcases List.mem_cons.1 hs with rfl | hs
      · omega
      · have := i3 s hs; omega
  cases l with
  | nil => exact absurd rfl h2
  | cons x l =>
    obtain ⟨i1, i2, i3⟩ := key l
    have hx := flat2_le escC esc_le x
    rw [List.map_cons, join_cons]
    rw [join_cons] at h1
    have hv : v.length = x.length + (tailJ [0] l).length + 1 := by rw [h1]; simp; omega
    have hxt := h3 x (by simp)
    have hx1 : 1 ≤ x.length := by
      unfold txtOk at hxt
      rw [Bool.and_eq_true] at hxt
      cases x with
      | nil => simp at hxt
      | cons _ _ => simp
    simp only [quoS, List.length_append, List.length_cons, List.length_nil]
    refine ⟨by omega, by omega, fun s hs => ?_, by omega⟩
    rcases List.mem_cons.1 hs with rfl | hs
    · omega
    · have := i3 s hs; omega
theorem pval_any (v : St) (w : World) (hf : v.length ≤ 1000) (hM : MaxV w) (hT : TabV w) :
    Calls Tryz.prog 21 #[.string (bs v)] w fun e w' => e = .returned (.string (bs (valT v))) ∧ Gr w w' := by
  have HM := Lib.hid hM
  have HT := Lib.hid hT
  obtain ⟨P0, hP0⟩ : ∃ P : Ending → World → Prop, P = fun e w' => e = .returned (.string (bs (valT v))) ∧ Gr w w' := ⟨_, rfl⟩
  rw [← hP0]
  have HP0 := Lib.hid hP0
  clear hP0 hM hT
  by_cases hv : v = []
  · subst hv
    go_enter Tryz.func21, Tryz.ntmps21
    go_wp2_with fail
    rw [HP0.out]
    exact ⟨rfl, Gr.refl _⟩
  have hS := strings_any v w (by omega) HM.out
  have hb : v.isEmpty = false := by cases v with | nil => exact absurd rfl hv | cons _ _ => rfl
  cases hs : strsP v with
  | some l =>
    rw [hs] at hS
    have HS := Lib.hid hS
    have VE : Hid (valT v = Lib.join (l.map quoS) [44, 32]) := Lib.hid (by unfold valT; rw [if_neg hv, hs])
    obtain ⟨q1, q2, q3, q4⟩ := quoJ_len hs
    clear hS
    go_enter Tryz.func21, Tryz.ntmps21
    go_wp2_with fail
    refine HS.out.mono ?_
    rintro e w1 ⟨hg, B, rfl, hr, hB⟩
    have G1 := Lib.hid hg
    have R1 := Lib.hid hr
    clear hg hr hB HS
    have J := joinedS_any l B l.length [44, 32] w1 (HM.out.gr G1.out) (fun s hs => by have := q3 s hs; omega) (fun k hk => by
      have h := R1.out.cell k (by simp [strV]; exact hk)
      rw [h]; simp [strV]) q4 (by omega) (Nat.le_refl _) (by omega)
    obtain ⟨R, hR⟩ : ∃ R, Lib.join (l.map quoS) [44, 32] = R := ⟨_, rfl⟩
    rw [hR] at J VE
    have HJ := Lib.hid J
    clear J hR q1 q3
    go_wp2_with fail
    refine HJ.out.mono ?_
    rintro e w2 ⟨rfl, hg⟩
    have G2 := Lib.hid (G1.out.trans hg)
    clear hg
    go_wp2_with fail
    rw [HP0.out, VE.out]
    exact ⟨rfl, G2.out⟩
  | none =>
    rw [hs] at hS
    have HS := Lib.hid hS
    clear hS
    have hC := cells_any v
    by_cases h4 : v.length % 4 = 0
    · have hok : cellsOk v = true := by unfold cellsOk; rw [hb]; simp [h4]
      have VE : Hid (valT v = 60 :: (numS ((cellsL v).map Int.toNat) ++ [62])) := Lib.hid (by unfold valT; rw [if_neg hv, hs]; simp only; rw [if_pos h4])
      have cl := cellsL_len v
      have cp := cellsL_pos hok
      obtain ⟨cn1, cn2⟩ := cells_num v h4
      have NL := numS_len ((cellsL v).map Int.toNat)
      rw [List.length_map] at NL
      have EQ : Hid (cellsL v = ((cellsL v).map Int.toNat).map (fun n : Nat => (n : Int))) := Lib.hid (by
        rw [List.map_map]
        conv => lhs; rw [← List.map_id (cellsL v)]
        apply List.map_congr_left
        intro x hx
        have := cells_nonneg v x hx
        simp; omega)
      obtain ⟨ns, hns⟩ : ∃ ns, (cellsL v).map Int.toNat = ns := ⟨_, rfl⟩
      rw [hns] at VE cn2 NL EQ
      have nsl : ns.length = (cellsL v).length := by rw [← hns, List.length_map]
      have HC : Hid (∀ W, Calls Tryz.prog 19 #[.string (bs v)] W fun e w' => ∃ x, e = .returned (.tuple #[x, .bool true]) ∧ w'.ownsRow W.heap.size 3 1 x ns.length (nums (ns.map (fun n : Nat => (n : Int)))) ∧ Gr W w') := Lib.hid (fun W => by
        refine (cells_any v W (by omega)).mono fun e w' q => ?_
        unfold GivesCells at q
        rw [if_pos hok] at q
        rw [← EQ.out, nsl]; exact q)
      have CN := Lib.hid cn2
      have nl : ns.length ≤ 1000 := by omega
      have np : 0 < ns.length := by omega
      have NL2 : (numS ns).length ≤ 100000 := by omega
      clear hC hns nsl cn1 cn2 NL EQ cl cp h4 hok
      go_enter Tryz.func21, Tryz.ntmps21
      go_wp2_with fail
      refine HS.out.mono ?_
      rintro e w1 ⟨hg, rfl⟩
      have G1 := Lib.hid hg
      clear hg HS
      go_wp2_with fail
      refine (HC.out w1).mono ?_
      rintro e w2 ⟨x, rfl, ho, hg⟩
      have G2 := Lib.hid (G1.out.trans hg)
      obtain ⟨g, cap, rfl, hcap, _, hcell⟩ := owns_cell ho (by omega)
      have J := joinedI_any ns g cap [32] w2 (HT.out.gr G2.out) CN.out (fun k hk => by
        rw [hcell k (by omega)]
        simp [nums, hk]) np nl hcap (by have := NL2; unfold numS at this; omega)
      have NE : Hid (Lib.join (ns.map fmtN) [32] = numS ns) := Lib.hid rfl
      rw [NE.out] at J
      obtain ⟨R, hR⟩ : ∃ R, numS ns = R := ⟨_, rfl⟩
      rw [hR] at J VE NL2
      have HJ := Lib.hid J
      clear J hR hg ho hcell hcap HC CN NE
      go_wp2_with fail
      refine HJ.out.mono ?_
      rintro e w3 ⟨rfl, hg⟩
      have G3 := Lib.hid (G2.out.trans hg)
      clear hg
      go_wp2_with fail
      rw [HP0.out, VE.out]
      exact ⟨rfl, G3.out⟩
    · have hok : cellsOk v = false := by unfold cellsOk; rw [hb]; simp [h4]
      have VE : Hid (valT v = 91 :: (numS (v.map UInt8.toNat) ++ [93])) := Lib.hid (by unfold valT; rw [if_neg hv, hs]; simp only; rw [if_neg h4])
      have NL := numS_len (v.map UInt8.toNat)
      rw [List.length_map] at NL
      have HC : Hid (∀ W, Calls Tryz.prog 19 #[.string (bs v)] W fun e w' => e = .returned (.tuple #[.slice none 0 0, .bool false]) ∧ Gr W w') := Lib.hid (fun W => by
        refine (cells_any v W (by omega)).mono fun e w' q => ?_
        unfold GivesCells at q
        rw [if_neg (by rw [hok]; decide)] at q
        exact q)
      have NL2 : (numS (v.map UInt8.toNat)).length ≤ 100000 := by omega
      have vp : 0 < v.length := by cases v with | nil => exact absurd rfl hv | cons _ _ => simp
      clear hC NL hok h4
      go_enter Tryz.func21, Tryz.ntmps21
      go_wp2_with fail
      refine HS.out.mono ?_
      rintro e w1 ⟨hg, rfl⟩
      have G1 := Lib.hid hg
      clear hg HS
      go_wp2_with fail
      refine (HC.out w1).mono ?_
      rintro e w2 ⟨rfl, hg⟩
      have G2 := Lib.hid (G1.out.trans hg)
      clear hg HC
      have hcv := Lib.run_convert_string_bytes (P := Tryz.prog) w2 9 79 5 (bs v) Tryz.underlying9 Tryz.underlying79 Tryz.underlying5
      rw [bs_size] at hcv
      obtain ⟨cap, hcap⟩ : ∃ cap, grownCap w2 v.length 0 5 = cap := ⟨_, rfl⟩
      have hcl : v.length ≤ cap := by rw [← hcap]; exact grownCap_ge _ _ _ _
      have RC : Hid (∀ k (hk : k < v.length), (Lib.bytesWorld w2 5 (bs v)).cell? ⟨w2.heap.size, k, none⟩ = some (.int .u8 (v[k].toNat : Int))) := Lib.hid (fun k hk => by
        rw [Lib.bytesWorld_cell _ _ _ _ (by rw [bs_size]; exact hk), bs_data, List.getD_eq_getElem?_getD, List.getElem?_eq_getElem hk]; rfl)
      have G3 : Hid (Gr w (Lib.bytesWorld w2 5 (bs v))) := Lib.hid (G2.out.trans (bytes_gr w2 _ _))
      rw [hcap] at hcv
      obtain ⟨w3, hw3⟩ : ∃ W, Lib.bytesWorld w2 5 (bs v) = W := ⟨_, rfl⟩
      obtain ⟨BB, hBB⟩ : ∃ BB, w2.heap.size = BB := ⟨_, rfl⟩
      rw [hw3, hBB] at hcv RC
      rw [hw3] at G3
      clear hw3 hBB hcap
      have J := joinedB_any v BB cap [32] w3 (HT.out.gr G3.out) RC.out vp (by omega) hcl (by have := NL2; unfold numS at this; rw [List.map_map] at this; exact Nat.le_trans this (by omega))
      have NE : Hid (Lib.join (v.map bytF) [32] = numS (v.map UInt8.toNat)) := Lib.hid (by unfold numS; rw [List.map_map]; rfl)
      rw [NE.out] at J
      obtain ⟨R, hR⟩ : ∃ R, numS (v.map UInt8.toNat) = R := ⟨_, rfl⟩
      rw [hR] at J VE NL2
      have HJ := Lib.hid J
      clear J hR NE RC
      go_wp2_with fail
      refine HJ.out.mono ?_
      rintro e w4 ⟨rfl, hg⟩
      have G4 := Lib.hid (G3.out.trans hg)
      clear hg
      go_wp2_with fail
      rw [HP0.out, VE.out]
      exact ⟨rfl, G4.out⟩
def Bld (B b : Nat) (l : St) (w : World) : Prop := Lib.IsBuilderF 83 5 B b (Lib.byteCells l) w
theorem Bld.gr {B b : Nat} {l : St} {w w' : World} (h : Bld B b l w) (hg : Gr w w') : Bld B b l w' := by
  have key : ∀ {p : Value}, Lib.BuilderAtF 83 5 B b p (Lib.byteCells l) w → Lib.BuilderAtF 83 5 B b p (Lib.byteCells l) w' := by
    rintro p ⟨h1, v, h2, h3, h4⟩
    have hb := hg.below
    have hlt := (Array.getElem?_eq_some_iff.1 h2).1
    have gb : w.grownBy w' none := ⟨hb.os, hb.tape, hb.output, hb.size, fun k hk _ => hb.block k hk⟩
    exact ⟨h1, v, by rw [hb.block b hlt]; exact h2, h3.kept gb (by cases v.ownBlock <;> simp), h4⟩
  exact h.imp key key
theorem Bld.new (w : World) (B : Nat) (hB : B ≤ w.heap.size) : Bld B w.heap.size [] (w.alloc (.cells #[.pointer none, .slice none 0 0] 83)) :=
  .inl ⟨hB, .slice none 0 0, Row.new w #[.pointer none, .slice none 0 0] 83, World.ownsRowF_nil _ _ _ _, by simp [Value.ownBlock]⟩
theorem Bld.ty {B b : Nat} {l : St} {w : World} (h : Bld B b l w) : Ty w b 83 := by
  rcases h with ⟨_, v, h, _⟩ | ⟨_, v, h, _⟩ <;> exact ⟨_, _, h⟩
theorem Row.others {w w' : World} {b B T : Nat} {vs : List Value} (h : Row w B T vs) (ho : Lib.OthersKept 5 (some b) w w') (hb : B ≠ b) (hT : T ≠ 5) : Row w' B T vs :=
  ho B _ h (by simpa using hb) (fun c fz e => by injection e with _ e2; exact hT e2)
theorem strCells_bs (s : St) : Lib.strCells (bs s) = Lib.byteCells s := by unfold Lib.strCells Lib.byteCells; rw [bs_data]
theorem byteCells_app (a b : St) : Lib.byteCells a ++ Lib.byteCells b = Lib.byteCells (a ++ b) := by unfold Lib.byteCells; rw [List.map_append]
theorem byteCells_len (a : St) : (Lib.byteCells a).length = a.length := by unfold Lib.byteCells; rw [List.length_map]
theorem write_any (B b : Nat) (l s : St) (w : World) (h : Bld B b l w) (hl : l.length + s.length ≤ 140737488355328) (hB : B ≤ w.heap.size) :
    Calls Tryz.prog 37 #[.pointer (some ⟨b, 0, none⟩), .string (bs s)] w fun e w' => (∃ v, e = .returned v) ∧ Bld B b (l ++ s) w' ∧ Below B w w' ∧ Lib.OthersKept 5 (some b) w w' := by
  refine (Any.Builder_WriteString_k { Tryz.lays156 with } Tryz.Builder_Extra_156 B b (Lib.byteCells l) (bs s) w h (by rw [byteCells_len, bs_size]; exact hl) hB).mono ?_
  rintro e w' ⟨he, h1, h2, h3⟩
  refine ⟨⟨_, he⟩, ?_, h2, h3⟩
  rw [strCells_bs, byteCells_app] at h1
  exact .inr h1
theorem bstr_any (B b : Nat) (l : St) (w : World) (h : Bld B b l w) (hB : B ≤ w.heap.size) :
    Calls Tryz.prog 40 #[.pointer (some ⟨b, 0, none⟩)] w fun e w' => e = .returned (.string (bs l)) ∧ Below B w w' := by
  refine (Any.Builder_String_any_f { Tryz.lays156 with } Tryz.Builder_Extra_156 B b l w h hB).mono ?_
  rintro e w' ⟨he, _, h2⟩
  exact ⟨he, h2⟩
end Go.Proofs.YtgembejpiecfcaaGreatDoor
