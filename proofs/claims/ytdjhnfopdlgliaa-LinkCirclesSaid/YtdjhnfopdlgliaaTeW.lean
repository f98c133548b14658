/- mk.Ints; rows that read as properties and nodes; the chapter's example. -/
import Derived.Test.YtdjhnfopdlgliaaTeV
set_option linter.unusedVariables false
set_option linter.unusedSimpArgs false
namespace Go.Proofs.Ytdjhnfopdlgliaa
open Go.RowKit

def sC : St := [99, 108, 111, 99, 107, 115]
def sCC : St := [35, 99, 108, 111, 99, 107, 45, 99, 101, 108, 108, 115]
/-- The tree of the example. -/
def exT : Tr := [⟨-1, [], []⟩, ⟨0, [97], [⟨sC, cellsS [1, 5, 2]⟩]⟩, ⟨0, [98], [⟨sCC, cellsS [1]⟩, ⟨phS, cellsS [1]⟩]⟩, ⟨0, [99], [⟨phS, cellsS [2]⟩]⟩]
theorem exT_chk : chkT exT = 0 := by decide +kernel
theorem exT_of : ofT exT 1 sC sCC = .ok [⟨1, 2, sC, 0, [5]⟩, ⟨1, 3, sC, 1, []⟩] := by kernel_rfl
theorem exT_all : allT exT sC sCC 4 = .ok [⟨1, 2, sC, 0, [5]⟩, ⟨1, 3, sC, 1, []⟩] := by kernel_rfl
theorem srt_sorted {l : List Int} (h : l.Pairwise (fun x y => x ≤ y)) : srt l = l := by
  unfold srt
  exact List.mergeSort_of_pairwise (by simpa using h)
theorem exT_graph : graphT exT sC sCC = .ok [[], [2, 3], [], []] := by
  unfold graphT
  rw [show exT.length = 4 from rfl, exT_all]
  have e : rawG 4 [⟨1, 2, sC, 0, [5]⟩, ⟨1, 3, sC, 1, []⟩] = [[], [2, 3], [], []] := by decide +kernel
  simp only [e, List.map_cons, List.map_nil, normG, srt_sorted (show ([] : List Int).Pairwise (fun x y => x ≤ y) from .nil), srt_sorted (show ([2, 3] : List Int).Pairwise (fun x y => x ≤ y) by simp)]
  have e2 : ([Lib.compact [], Lib.compact [2, 3], Lib.compact [], Lib.compact []] : List (List Int)) = [[], [2, 3], [], []] := by kernel_rfl
  rw [e2]
theorem exT_order : orderT exT sC sCC = .ok [0, 2, 3, 1] := by
  unfold orderT
  rw [exT_graph]
  kernel_rfl
open Classical
theorem ne_at {α : Type} {xs ys : List α} (k : Nat) (hx : k < xs.length) (hy : k < ys.length) (h : xs[k] ≠ ys[k]) : xs ≠ ys := by
  rintro rfl; exact h rfl
theorem eq_all {α : Type} {xs ys : List α} (hl : xs.length = ys.length) (h : ∀ j (hx : j < xs.length) (hy : j < ys.length), xs[j] = ys[j]) : xs = ys :=
  List.ext_getElem hl fun i h1 h2 => h i h1 h2

set_option maxHeartbeats 400000 in
theorem ints_any (xs ys : List Int) (ax ay : Option Addr) (cx cy : Nat) (w : World) (hx : SlOf 1 RI w ax xs) (hy : SlOf 1 RI w ay ys) (fx : Fit xs.length) (_fy : Fit ys.length) :
    Calls Try.prog 10 #[.slice ax xs.length cx, .slice ay ys.length cy] w (Grows w (.bool (decide (xs = ys)))) := by
  unfold Fit at fx
  have HX := Lib.hid hx
  have HY := Lib.hid hy
  clear hx hy
  by_cases hl : xs.length = ys.length
  · have hlb : ((xs.length : Int) != (ys.length : Int)) = false := by simp [hl]
    have HL := Lib.hid hl
    clear hl
    go_enter Try.func10, Try.ntmps10
    go_wp2
    go_loopw [5] (fun i wr => ∃ k : Nat, k ≤ xs.length ∧ i = .int .i64 k ∧ (∀ j (h1 : j < xs.length) (h2 : j < ys.length), j < k → xs[j] = ys[j]) ∧ ∃ n, wr = w.drewN n) (fun i _ => xs.length - (intOf i).toNat)
    case atStart => exact ⟨0, Nat.zero_le _, rfl, fun j _ _ h => absurd h (by omega), 0, rfl⟩
    case round =>
      obtain ⟨k, hk, rfl, hall, n, rfl⟩ := hrel
      have HA := Lib.hid hall
      clear hall
      by_cases hlt : k < xs.length
      · have hlt2 : k < ys.length := by have := HL.out; omega
        obtain ⟨bx, ox, rfl, ⟨c1, _⟩⟩ := HX.out.one k hlt
        obtain ⟨by', oy, rfl, ⟨c2, _⟩⟩ := HY.out.one k hlt2
        by_cases he : xs[k] = ys[k]
        · have heb : (xs[k] != ys[k]) = false := by simp [he]
          have HE := Lib.hid he
          clear he
          go_wp2
          go_quiet (fail)
          go_wp2
          go_roundw
          case rel =>
            refine ⟨k + 1, by omega, by go_num, fun j h1 h2 hj => ?_, n + nq, by simp⟩
            by_cases e : j = k
            · subst e; exact HE.out
            · exact HA.out j h1 h2 (by omega)
          case measure => simp [intOf]; omega
        · have heb : (xs[k] != ys[k]) = true := by simp [he]
          have HE := Lib.hid he
          clear he
          go_wp2
          go_quiet (fail)
          go_wp2
          go_ret
          exact ⟨ret_bool (by simp [ne_at k hlt hlt2 HE.out]), by repeat (first | with_reducible exact Gr.refl _ | with_reducible refine Gr.drewN _ ?_)⟩
      · go_wp2
        go_ret
        exact ⟨ret_bool (by simp [eq_all HL.out (fun j h1 h2 => HA.out j h1 h2 (by omega))]), by repeat (first | with_reducible exact Gr.refl _ | with_reducible refine Gr.drewN _ ?_)⟩
  · have hlb : ((xs.length : Int) != (ys.length : Int)) = true := by simp; omega
    go_enter Try.func10, Try.ntmps10
    go_wp2
    go_ret
    exact ⟨ret_bool (by simp; intro h; exact hl (by rw [h])), Gr.refl _⟩

def encPr (p : Prp) : List Value := [.string (bs p.name), .string (bs p.val)]
theorem prps_of_row {w : World} {B T : Nat} {ps : List Prp} (h : Row w B T (ps.flatMap encPr)) (hs : ∀ p ∈ ps, p.name.length ≤ 1000 ∧ p.val.length ≤ 1000) : SlOf 2 RPrp w (some ⟨B, 0, none⟩) ps := fun k hk => by
  have hf := fun j (hj : j < 2) => flat_at encPr 2 (fun _ => rfl) ps k j hk hj
  have h2 : ∀ j, j < 2 → w.cell? ⟨B, k * 2 + j, none⟩ = (encPr ps[k])[j]? := fun j hj => by
    have e := hf j hj
    have hl : k * 2 + j < (ps.flatMap encPr).length := by rw [flat_len encPr 2 (fun _ => rfl)]; omega
    rw [h.cell _ hl, ← e, List.getElem?_eq_getElem hl]
  have hb := hs _ (List.getElem_mem hk)
  refine ⟨B, 0, rfl, ⟨?_, by omega⟩, ⟨?_, by omega⟩⟩
  · rw [Nat.zero_add]; exact h2 0 (by omega)
  · rw [Nat.zero_add]; exact h2 1 (by omega)
structure NT where
  n : Nod
  a : Option Addr
  c : Nat
def encNd (t : NT) : List Value := [.int .i64 t.n.parent, .string (bs t.n.name), .slice t.a t.n.props.length t.c]
theorem nods_of_row {w : World} {B T : Nat} {ts : List NT} (h : Row w B T (ts.flatMap encNd)) (hs : ∀ t ∈ ts, Wide t.n.parent ∧ t.n.name.length ≤ 1000 ∧ t.n.props.length ≤ t.c ∧ Fit t.n.props.length ∧ SlOf 2 RPrp w t.a t.n.props) : SlOf 3 RNod w (some ⟨B, 0, none⟩) (ts.map NT.n) := fun k hk => by
  have hk' : k < ts.length := by simpa using hk
  have hf := fun j (hj : j < 3) => flat_at encNd 3 (fun _ => rfl) ts k j hk' hj
  have h2 : ∀ j, j < 3 → w.cell? ⟨B, k * 3 + j, none⟩ = (encNd ts[k])[j]? := fun j hj => by
    have e := hf j hj
    have hl : k * 3 + j < (ts.flatMap encNd).length := by rw [flat_len encNd 3 (fun _ => rfl)]; omega
    rw [h.cell _ hl, ← e, List.getElem?_eq_getElem hl]
  obtain ⟨q1, q2, q3, q4, q5⟩ := hs _ (List.getElem_mem hk')
  rw [List.getElem_map]
  refine ⟨B, 0, rfl, ⟨?_, q1⟩, ⟨?_, by omega⟩, ⟨ts[k].a, ts[k].c, ?_, q3, q4, q5⟩⟩
  · rw [Nat.zero_add]; exact h2 0 (by omega)
  · rw [Nat.zero_add]; exact h2 1 (by omega)
  · rw [Nat.zero_add]; exact h2 2 (by omega)
theorem ints_row {w : World} {B T : Nat} {ns : List Nat} (h : Row w B T (nums (ns.map (fun n : Nat => (n : Int))))) (hs : ∀ n ∈ ns, n < 4294967296) : SlOf 1 RI w (some ⟨B, 0, none⟩) (ns.map (fun n : Nat => (n : Int))) :=
  h.s.slI (fun j hj => by
    rw [List.getElem_map]
    have := hs _ (List.getElem_mem (by simpa using hj : j < ns.length))
    unfold Wide; omega)
end Go.Proofs.Ytdjhnfopdlgliaa
