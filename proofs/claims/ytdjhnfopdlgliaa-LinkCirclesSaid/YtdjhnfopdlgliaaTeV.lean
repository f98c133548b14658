/- grow.Cells. -/
import Derived.Test.YtdjhnfopdlgliaaTeU
set_option linter.unusedVariables false
set_option linter.unusedSimpArgs false
namespace Go.Proofs.Ytdjhnfopdlgliaa
open Go.RowKit
open Classical

def b4 (n : Nat) : List Int := [(n : Int) / 16777216, (n : Int) / 65536 % 256, (n : Int) / 256 % 256, (n : Int) % 256]
def u8s (l : List Int) : List Value := l.map (Value.int .u8)
theorem infoU8 : (Try.prog.info? 5).map (fun i => (i.zero, i.size, i.bytes)) = some (some (.int .u8 0), 1, 1) := by kernel_rfl
theorem strs_b4 (ns : List Nat) : strOfNums (ns.flatMap b4) = bs (cellsS ns) := by
  have h : ∀ n, (b4 n).map (fun x => UInt8.ofNat x.toNat) = cell4 n := fun n => by
    have := str4 n
    unfold strOfNums bs at this
    have := congrArg (fun b => b.data.toList) this
    simpa [b4] using this
  unfold strOfNums bs cellsS
  rw [List.map_flatMap]
  simp only [h]
theorem b4_len (ns : List Nat) : (ns.flatMap b4).length = 4 * ns.length := by
  induction ns with
  | nil => rfl
  | cons n ns ih => rw [List.flatMap_cons, List.length_append, ih]; simp [b4]; omega
set_option maxRecDepth 100000 in
set_option maxHeartbeats 8000000 in
theorem growCells_any (ns : List Nat) (a : Option Addr) (cap : Nat) (w : World) (h : SlOf 1 RI w a (ns.map (fun n : Nat => (n : Int)))) (hn : ∀ n ∈ ns, n < 4294967296) (h0 : 0 < ns.length) (hf : ns.length ≤ 1000) :
    Calls Try.prog 6 #[.slice a ns.length cap] w (Grows w (.string (bs (cellsS ns)))) := by
  have H := Lib.hid h
  have HN := Lib.hid hn
  obtain ⟨i0, hi, hz0, hz1, hz2⟩ := info_parts infoU8
  clear h hn
  go_enter Try.func6, Try.ntmps6
  go_wp2_with fail
  go_loopw [3, 8] (fun x i wr => ∃ k : Nat, k ≤ ns.length ∧ i = .int .i64 k ∧ wr.ownsRow w.heap.size 5 1 x (k * 4) (u8s ((ns.take k).flatMap b4)) ∧ Gr w wr) (fun _ i _ => ns.length - (intOf i).toNat)
  case atStart => exact ⟨0, Nat.zero_le _, rfl, World.ownsRow_nil _ _ _ _, Gr.refl _⟩
  case round =>
    obtain ⟨k, hk, rfl, ho, hg⟩ := hrel
    obtain ⟨va, vc, rfl⟩ := owns_slice ho
    have OW := Lib.hid ho
    have HG := Lib.hid hg
    clear ho hg
    by_cases hlt : k < ns.length
    · obtain ⟨b, o, rfl, c0, _⟩ := (H.out.giI HG.out).one k (by simpa using hlt)
      have hnk := HN.out ns[k] (List.getElem_mem hlt)
      obtain ⟨n, hn⟩ : ∃ n, n = ns[k] := ⟨_, rfl⟩
      have HNK := Lib.hid hn
      rw [List.getElem_map, ← hn] at c0
      rw [← hn] at hnk
      clear hn
      have hh := has_of_cell c0
      have NR := Lib.hid (row_cells (Row.new wr #[.int .u8 ((n : Int) / 16777216), .int .u8 ((n : Int) / 65536 % 256), .int .u8 ((n : Int) / 256 % 256), .int .u8 ((n : Int) % 256)] 5))
      go_wp2_with (at_builtin; refine wpList_append_own _ rfl _ _ 42 rfl w.heap.size 5 i0 (.int .u8 0) 1 1 Try.underlying42 hi hz0 hz1 hz2 rfl (by decide) (.slice va (k * 4) vc) (k * 4) (u8s ((ns.take k).flatMap b4)) rfl (OW.out.alloc _) ⟨wr.heap.size, 0, none⟩ 4 4 [.int .u8 ((n : Int) / 16777216), .int .u8 ((n : Int) / 65536 % 256), .int .u8 ((n : Int) / 256 % 256), .int .u8 ((n : Int) % 256)] rfl rfl NR.out (by intro u hu; simp at hu; rcases hu with rfl | rfl | rfl | rfl <;> rfl) (by unfold maxLen; omega) (by omega) (by have := HG.out.size; simp; omega) ?_; intro v' wz hown' hgrow hnil; have HOz := Lib.hid hown'; have HGz := Lib.hid hgrow; clear hown' hgrow hnil)
      go_roundw
      case rel =>
        refine ⟨k + 1, by omega, by go_num, ?_, (HG.out.alloc _).grown HGz.out (fun j e => (OW.out.lt j e).1)⟩
        have := HOz.out
        rw [List.take_succ_eq_append_getElem hlt, List.flatMap_append, ← HNK.out, show (k + 1) * 4 = k * 4 + 4 by omega]
        simpa [u8s, b4] using this
      case measure => simp [intOf]; omega
    · obtain rfl : k = ns.length := by omega
      have OW2 : Hid (wr.ownsRow w.heap.size 5 1 (.slice va (ns.length * 4) vc) (ns.length * 4) (u8s (ns.flatMap b4))) := Lib.hid (by have := OW.out; rwa [List.take_length] at this)
      obtain ⟨g, cp, e1, _, _, hc⟩ := owns_cell OW2.out (by omega)
      cases e1
      have hcv := run_convert_bytes_arg (P := Try.prog) wr 42 5 Try.underlying42 Try.underlying5 g 0 (ns.length * 4) vc (ns.flatMap b4) (by rw [b4_len]; omega)
        (fun i hi => by
          rw [Nat.zero_add, hc i (by omega)]
          have hl : i < (ns.flatMap b4).length := by rw [b4_len]; omega
          unfold u8s
          rw [List.getElem?_map, List.getElem?_eq_getElem hl, List.getD_eq_getElem?_getD, List.getElem?_eq_getElem hl]
          rfl) 9 Try.underlying9
      rw [strs_b4] at hcv
      clear hc OW
      go_wp2_with fail
      go_ret
      exact ⟨rfl, HG.out⟩
end Go.Proofs.Ytdjhnfopdlgliaa
