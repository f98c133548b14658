/- print.Cells, label.word. -/
import Derived.Test.YtdjhnfopdlgliaaTeK
set_option linter.unusedVariables false
set_option linter.unusedSimpArgs false
namespace Go.Proofs.Ytdjhnfopdlgliaa
open Go.RowKit
open Classical

def strLen : Value → Nat
  | .string s => s.size
  | _ => 0
def GivesCells (w : World) (v : St) (e : Ending) (w' : World) : Prop :=
  if cellsOk v = true then ∃ x, e = .returned (.tuple #[x, .bool true]) ∧ w'.ownsRow w.heap.size 3 1 x (cellsL v).length (nums (cellsL v)) ∧ Gr w w'
  else e = .returned (.tuple #[.slice none 0 0, .bool false]) ∧ Gr w w'
theorem cells_step (v : St) (h : v.length % 4 = 0) (k : Nat) (hk : k * 4 < v.length) : ∃ c0 c1 c2 c3 r, v.drop (k * 4) = c0 :: c1 :: c2 :: c3 :: r ∧ r = v.drop ((k + 1) * 4) ∧ (cellsL v).take (k + 1) = (cellsL v).take k ++ [((num4 c0 c1 c2 c3 : Nat) : Int)] := by
  induction k generalizing v with
  | zero =>
    match v, h, hk with
    | [], _, hk => simp at hk
    | [_], h, _ => simp at h
    | [_, _], h, _ => simp at h
    | [_, _, _], h, _ => simp at h
    | a :: b :: c :: d :: r, _, _ => exact ⟨a, b, c, d, r, rfl, by simp, by simp [cellsL]⟩
  | succ k ih =>
    match v, h, hk with
    | [], _, hk => simp at hk
    | [_], h, _ => simp at h
    | [_, _], h, _ => simp at h
    | [_, _, _], h, _ => simp at h
    | a :: b :: c :: d :: r, h, hk =>
      obtain ⟨c0, c1, c2, c3, r', e1, e2, e3⟩ := ih r (by simp only [List.length_cons] at h; omega) (by simp only [List.length_cons] at hk; omega)
      refine ⟨c0, c1, c2, c3, r', ?_, ?_, ?_⟩
      · rw [← e1, show (k + 1) * 4 = k * 4 + 4 by omega]; simp
      · rw [e2, show (k + 1 + 1) * 4 = (k + 1) * 4 + 4 by omega]; simp
      · rw [cellsL, List.take_succ_cons, e3, List.take_succ_cons]; rfl
set_option maxRecDepth 100000 in
set_option maxHeartbeats 4000000 in
theorem cells_any (v : St) (w : World) (hf : v.length ≤ 1000000) : Calls Try.prog 19 #[.string (bs v)] w (GivesCells w v) := by
  obtain ⟨i0, hi, hz0, hz1, hz2⟩ := info_parts infoInt
  by_cases hok : cellsOk v = true
  · have h1 : v.isEmpty = false := by simp [cellsOk] at hok; simpa using hok.1
    have h2' : v.length % 4 = 0 := by simp [cellsOk] at hok; exact hok.2
    have h2 : (v.length : Int).tmod 4 = 0 := by rw [Int.tmod_eq_emod_of_nonneg (by omega)]; omega
    have H2 := Lib.hid h2'
    have hll : (cellsL v).length * 4 = v.length := by rw [cellsL_length]; omega
    have HLL := Lib.hid hll
    have GC : Hid (∀ x w', w'.ownsRow w.heap.size 3 1 x (cellsL v).length (nums (cellsL v)) → Gr w w' → GivesCells w v (.returned (.tuple #[x, .bool true])) w') := Lib.hid fun x w' o g => by unfold GivesCells; rw [if_pos hok]; exact ⟨x, rfl, o, g⟩
    clear hok h2' hll
    go_enter Try.func19, Try.ntmps19
    go_wp2_with fail
    go_loopw [0, 4] (fun s x wr => ∃ k : Nat, k ≤ (cellsL v).length ∧ s = .string (bs (v.drop (k * 4))) ∧ wr.ownsRow w.heap.size 3 1 x ((cellsL v).take k).length (nums ((cellsL v).take k)) ∧ Gr w wr) (fun s _ _ => strLen s)
    case atStart => exact ⟨0, Nat.zero_le _, by simp, World.ownsRow_nil _ _ _ _, Gr.refl _⟩
    case round =>
      obtain ⟨k, hk, rfl, ho, hg⟩ := hrel
      have HO := Lib.hid ho
      have HG := Lib.hid hg
      clear ho hg
      by_cases hlt : k < (cellsL v).length
      · obtain ⟨c0, c1, c2, c3, r, e1, e2, e3⟩ := cells_step v H2.out k (by have := HLL.out; omega)
        have E2 := Lib.hid e2
        have E3 := Lib.hid e3
        rw [e1]
        have RL : r.length ≤ 1000000 := by rw [e2]; simp; omega
        clear e1 e2 e3
        go_wp2_with fail
        refine wp_code_eq (c := Code.region 6 (regIn 6 Try.f19) true) (by kernel_rfl) (cl6 (wb := w) (zs := (cellsL v).take k) HO.out HG.out (by rw [List.length_take]; have := HLL.out; omega) RL ?_)
        intro t4 t17 t18 t19 t20 t21 t22 t23 t24 t25 t26 t27 t28 t29 t30 t31 t32 t33 t34 t35 t36 t37 wx ho2 hg2
        have HO2 := Lib.hid ho2
        have HG2 := Lib.hid hg2
        unfold cl6A
        clear ho2 hg2
        have l4 : (4 : Int) ≤ (r.length : Int) + 1 + 1 + 1 + 1 := by omega
        go_wp2_with fail
        go_roundw
        case rel =>
          refine ⟨k + 1, by omega, ?_, ?_, HG2.out⟩
          · rw [E2.out]
          · rw [E3.out, List.length_append]; exact HO2.out
        case measure => simp [strLen]; omega
      · obtain rfl : k = (cellsL v).length := by omega
        have e : v.drop ((cellsL v).length * 4) = [] := by rw [HLL.out]; simp
        rw [e]
        have HO3 : Hid (wr.ownsRow w.heap.size 3 1 u4 (cellsL v).length (nums (cellsL v))) := Lib.hid (by have := HO.out; rwa [List.take_length] at this)
        clear HO e
        go_wp2_with fail
        refine bodyPost_ret (v := .tuple #[u4, .bool true]) (by simp [results, Try.results19, go_sem]) rfl ?_
        exact GC.out _ _ HO3.out HG.out
  · have GC : Hid (∀ w', Gr w w' → GivesCells w v (.returned (.tuple #[.slice none 0 0, .bool false])) w') := Lib.hid fun w' g => by unfold GivesCells; rw [if_neg hok]; exact ⟨rfl, g⟩
    by_cases h0 : v = []
    · have h1 : v.isEmpty = true := by simp [h0]
      clear hok h0
      go_enter Try.func19, Try.ntmps19
      go_wp2_with fail
      refine bodyPost_ret (v := .tuple #[.slice none 0 0, .bool false]) (by simp [results, Try.results19, go_sem]) rfl ?_
      exact GC.out _ (Gr.refl _)
    · have h1 : v.isEmpty = false := by simpa using h0
      have h2' : v.length % 4 ≠ 0 := by simp [cellsOk] at hok; exact hok h0
      have h2 : ((v.length : Int).tmod 4 == 0) = false := by rw [beq_eq_false_iff_ne, Int.tmod_eq_emod_of_nonneg (by omega)]; omega
      have h3 : ((v.length : Int).tmod 4 != 0) = true := by rw [bne, h2]; rfl
      clear hok h0
      go_enter Try.func19, Try.ntmps19
      go_wp2_with fail
      refine bodyPost_ret (v := .tuple #[.slice none 0 0, .bool false]) (by simp [results, Try.results19, go_sem]) rfl ?_
      exact GC.out _ (Gr.refl _)
theorem str4 (n : Nat) : strOfNums [(n : Int) / 16777216, (n : Int) / 65536 % 256, (n : Int) / 256 % 256, (n : Int) % 256] = bs (cell4 n) := by
  have e1 : ((n : Int) / 16777216).toNat = n / 16777216 := by omega
  have e2 : ((n : Int) / 65536 % 256).toNat = n / 65536 % 256 := by omega
  have e3 : ((n : Int) / 256 % 256).toNat = n / 256 % 256 := by omega
  have e4 : ((n : Int) % 256).toNat = n % 256 := by omega
  have m2 : UInt8.ofNat (n / 65536 % 256) = UInt8.ofNat (n / 65536) := UInt8.toNat_inj.1 (by simp)
  have m3 : UInt8.ofNat (n / 256 % 256) = UInt8.ofNat (n / 256) := UInt8.toNat_inj.1 (by simp)
  have m4 : UInt8.ofNat (n % 256) = UInt8.ofNat n := UInt8.toNat_inj.1 (by simp)
  unfold strOfNums bs cell4
  simp only [List.map_cons, List.map_nil, e1, e2, e3, e4, m2, m3, m4]
set_option maxRecDepth 100000 in
set_option maxHeartbeats 4000000 in
theorem word4_any (n : Nat) (w : World) (hn : n < 4294967296) : Calls Try.prog 38 #[.int .i64 n] w (Grows w (.string (bs (cell4 n)))) := by
  have hc := run_convert_bytes_arg (P := Try.prog) (w.alloc (.cells #[.int .u8 ((n : Int) / 16777216), .int .u8 ((n : Int) / 65536 % 256), .int .u8 ((n : Int) / 256 % 256), .int .u8 ((n : Int) % 256)] 5)) 42 5 Try.underlying42 Try.underlying5 w.heap.size 0 4 4 [(n : Int) / 16777216, (n : Int) / 65536 % 256, (n : Int) / 256 % 256, (n : Int) % 256] rfl
    (fun i hi => by
      have := (Row.new w #[.int .u8 ((n : Int) / 16777216), .int .u8 ((n : Int) / 65536 % 256), .int .u8 ((n : Int) / 256 % 256), .int .u8 ((n : Int) % 256)] 5).cell i (by simpa using hi)
      rw [Nat.zero_add, this]
      match i, hi with
      | 0, _ => rfl
      | 1, _ => rfl
      | 2, _ => rfl
      | 3, _ => rfl) 9 Try.underlying9
  rw [str4] at hc
  go_enter Try.func38, Try.ntmps38
  go_wp2_with fail
  go_ret
  exact ⟨rfl, (Gr.refl _).alloc _⟩
end Go.Proofs.Ytdjhnfopdlgliaa
