/- LinkArguments in plain lists. -/
import Derived.Test.YtdjhnfopdlgliaaTeX
set_option linter.unusedVariables false
set_option linter.unusedSimpArgs false
namespace Go.Proofs.Ytdjhnfopdlgliaa
open Go.RowKit

def sK : St := [35, 99, 101, 108, 108, 115]
/-- The reference: the numbers of the property. -/
def flatR (n : Nat) : Nat → List Nat → List Nat
  | 0, _ => []
  | w + 1, l => 77 :: (l.take n ++ flatR n w (l.drop n))
def linksR (n : Nat) : Nat → List Nat → Nat → List Lnk
  | 0, _, _ => []
  | w + 1, l, k => ⟨1, 2, sC, (k : Int), (l.take n).map (fun m : Nat => (m : Int))⟩ :: linksR n w (l.drop n) (k + 1)
def laT (n : Nat) (V : St) : Tr := [⟨-1, [], []⟩, ⟨0, [97], [⟨sC, V⟩]⟩, ⟨0, [98], [⟨sK, cellsS [n]⟩, ⟨phS, cellsS [77]⟩]⟩]

theorem flatR_snoc (n : Nat) : ∀ (w : Nat) (l : List Nat), flatR n (w + 1) l = flatR n w l ++ 77 :: (l.drop (w * n)).take n
  | 0, l => by simp [flatR]
  | w + 1, l => by
    rw [flatR, flatR_snoc n w (l.drop n), flatR, List.drop_drop]
    simp only [List.cons_append, List.append_assoc]
    rw [show n + w * n = (w + 1) * n by rw [Nat.add_mul, Nat.one_mul, Nat.add_comm]]
theorem flatR_len (n : Nat) : ∀ (w : Nat) (l : List Nat), w * n ≤ l.length → (flatR n w l).length = w * (n + 1)
  | 0, l, _ => by simp [flatR]
  | w + 1, l, h => by
    rw [Nat.add_mul, Nat.one_mul] at h
    rw [flatR, List.length_cons, List.length_append, List.length_take, flatR_len n w (l.drop n) (by rw [List.length_drop]; omega), Nat.add_mul, Nat.one_mul, Nat.min_eq_left (by omega)]
    omega
theorem flatR_ne (n w : Nat) (l : List Nat) (h : 0 < w) : flatR n w l ≠ [] := by
  cases w with
  | zero => omega
  | succ w => simp [flatR]
theorem flatR_lt (n : Nat) : ∀ (w : Nat) (l : List Nat), (∀ m ∈ l, m < 65536) → ∀ m ∈ flatR n w l, m < 4294967296
  | 0, l, _ => by simp [flatR]
  | w + 1, l, h => by
    intro m hm
    rw [flatR, List.mem_cons, List.mem_append] at hm
    rcases hm with rfl | hm | hm
    · omega
    · exact Nat.lt_trans (h m (List.mem_of_mem_take hm)) (by omega)
    · exact flatR_lt n w (l.drop n) (fun m hm => h m (List.mem_of_mem_drop hm)) m hm
theorem linksR_len (n : Nat) : ∀ (w : Nat) (l : List Nat) (k : Nat), (linksR n w l k).length = w
  | 0, _, _ => rfl
  | w + 1, l, k => by rw [linksR, List.length_cons, linksR_len n w]
theorem linksR_get (n : Nat) : ∀ (w : Nat) (l : List Nat) (k i : Nat) (h : i < (linksR n w l k).length), (linksR n w l k)[i] = ⟨1, 2, sC, ((k + i : Nat) : Int), ((l.drop (i * n)).take n).map (fun m : Nat => (m : Int))⟩
  | 0, _, _, i, h => by simp [linksR] at h
  | w + 1, l, k, 0, h => by simp [linksR]
  | w + 1, l, k, i + 1, h => by
    have h' : i < (linksR n w (l.drop n) (k + 1)).length := by simpa [linksR] using h
    have := linksR_get n w (l.drop n) (k + 1) i h'
    simp only [linksR, List.getElem_cons_succ]
    rw [this, List.drop_drop, show n + i * n = (i + 1) * n by rw [Nat.add_mul, Nat.one_mul, Nat.add_comm], show k + 1 + i = k + (i + 1) by omega]

theorem laT_phan (n : Nat) (V : St) : phan (laT n V) 77 = some 2 := by kernel_rfl
theorem laT_args (n : Nat) (V : St) (h : n ≤ 8) : argsN (laT n V) 2 sK = some (n : Int) := by
  have e : valP ((laT n V).getD 2 default).props sK = some (cellsS [n]) := by kernel_rfl
  have e2 : cellsL (cellsS [n]) = [(n : Int)] := by rw [cellsL_cellsS [n] (by simp; omega)]; rfl
  have e3 : cellsOk (cellsS [n]) = true := by simp [cellsOk, cellsS, cell4]
  unfold argsN
  rw [e]
  simp only [e2, e3]
  rw [if_pos ⟨trivial, rfl, by simp; omega⟩]
  rfl
theorem laT_chk (n : Nat) (V : St) (h : V.length ≤ 256) : chkT (laT n V) = 0 := by
  have e1 : (laT n V).any bigN = false := by
    simp [laT, bigN, cellsS_length]
    omega
  have e2 : namedT (laT n V) = true := by kernel_rfl
  have e3 : (walkN (laT n V) (laT n V).length).isNone = false := by kernel_rfl
  have e4 : dupT (laT n V) = false := by kernel_rfl
  have e5 : (List.range (laT n V).length).any (fun i => decide (8 < depN (laT n V) i (i : Int))) = false := by kernel_rfl
  unfold chkT
  rw [e1, e2, e3, e4, e5]
  simp [laT]
theorem ofF_cons (ts : Tr) (node : Int) (pn cn : St) (f : Nat) (p : Int) (l : List Int) (out : List Lnk) (k : Nat) (n : Int) (h1 : phan ts p = some k) (h2 : argsN ts k cn = some n) :
    ofF ts node pn cn (f + 1) (p :: l) out = if (l.length : Int) < n then .error 26 else ofF ts node pn cn f (l.drop n.toNat) (out ++ [⟨node, k, pn, out.length, l.take n.toNat⟩]) := by
  rw [ofF]
  simp only [h1, h2]
theorem ofF_step (n : Nat) (V : St) (h : n ≤ 8) (f : Nat) (a r : List Int) (ha : a.length = n) (out : List Lnk) :
    ofF (laT n V) 1 sC sK (f + 1) ((77 : Int) :: (a ++ r)) out = ofF (laT n V) 1 sC sK f r (out ++ [⟨1, 2, sC, (out.length : Int), a⟩]) := by
  rw [ofF_cons _ _ _ _ _ _ _ _ 2 n (laT_phan n V) (laT_args n V h)]
  rw [if_neg (by rw [List.length_append, ha]; omega), Int.toNat_natCast, List.drop_left' ha, List.take_left' ha]
  rfl
theorem ofF_short (n : Nat) (V : St) (h : n ≤ 8) (f : Nat) (a : List Int) (ha : a.length < n) (out : List Lnk) :
    ofF (laT n V) 1 sC sK (f + 1) ((77 : Int) :: a) out = .error 26 := by
  rw [ofF_cons _ _ _ _ _ _ _ _ 2 n (laT_phan n V) (laT_args n V h), if_pos (by omega)]
theorem ofF_nil (n : Nat) (V : St) (f : Nat) (out : List Lnk) : ofF (laT n V) 1 sC sK f [] out = .ok out := by cases f <;> rfl
abbrev ci (l : List Nat) : List Int := l.map (fun m : Nat => (m : Int))
theorem ofF_ok (n : Nat) (V : St) (h : n ≤ 8) (w : Nat) : ∀ (f : Nat) (l : List Nat) (out : List Lnk), w * n ≤ l.length → w ≤ f →
    ofF (laT n V) 1 sC sK f (ci (flatR n w l)) out = .ok (out ++ linksR n w l out.length) := by
  induction w with
  | zero => intro f l out _ _; rw [show ci (flatR n 0 l) = [] from rfl, ofF_nil, show linksR n 0 l out.length = [] from rfl, List.append_nil]
  | succ w ih =>
    intro f l out hl hf
    obtain ⟨g, rfl⟩ : ∃ g, f = g + 1 := ⟨f - 1, by omega⟩
    rw [Nat.add_mul, Nat.one_mul] at hl
    have ht : (ci (l.take n)).length = n := by rw [List.length_map, List.length_take]; omega
    have e : ci (flatR n (w + 1) l) = (77 : Int) :: (ci (l.take n) ++ ci (flatR n w (l.drop n))) := by rw [flatR, ci, List.map_cons, List.map_append]; rfl
    rw [e, ofF_step n V h g _ _ ht, ih g (l.drop n) _ (by rw [List.length_drop]; omega) (by omega), List.length_append, List.append_assoc]
    rfl
theorem dropLast_cons_app {α : Type} (a : α) (b c : List α) (h : c ≠ []) : (a :: (b ++ c)).dropLast = a :: (b ++ c.dropLast) := by
  rw [← List.cons_append, List.dropLast_append_of_ne_nil h, List.cons_append]
theorem ofF_cut (n : Nat) (V : St) (h : n ≤ 8) (h0 : 0 < n) (w : Nat) : ∀ (f : Nat) (l : List Nat) (out : List Lnk), (w + 1) * n ≤ l.length → w + 1 ≤ f →
    ofF (laT n V) 1 sC sK f (ci (flatR n (w + 1) l).dropLast) out = .error 26 := by
  induction w with
  | zero =>
    intro f l out hl hf
    obtain ⟨g, rfl⟩ : ∃ g, f = g + 1 := ⟨f - 1, by omega⟩
    have ht : (l.take n).length = n := by rw [List.length_take]; omega
    have hn : l.take n ≠ [] := fun e => by rw [e] at ht; simp at ht; omega
    have e : ci (flatR n (0 + 1) l).dropLast = (77 : Int) :: ci (l.take n).dropLast := by
      rw [show flatR n (0 + 1) l = 77 :: (l.take n ++ []) from rfl, List.append_nil, List.dropLast_cons_of_ne_nil hn]; rfl
    rw [e, ofF_short n V h g _ (by rw [List.length_map, List.length_dropLast, ht]; omega)]
  | succ w ih =>
    intro f l out hl hf
    obtain ⟨g, rfl⟩ : ∃ g, f = g + 1 := ⟨f - 1, by omega⟩
    rw [Nat.add_mul, Nat.one_mul] at hl
    have ht : (ci (l.take n)).length = n := by rw [List.length_map, List.length_take]; omega
    have e : ci (flatR n (w + 1 + 1) l).dropLast = (77 : Int) :: (ci (l.take n) ++ ci (flatR n (w + 1) (l.drop n)).dropLast) := by
      rw [flatR, dropLast_cons_app _ _ _ (flatR_ne n (w + 1) _ (by omega)), ci, List.map_cons, List.map_append]; rfl
    rw [e, ofF_step n V h g _ _ ht, ih g (l.drop n) _ (by rw [List.length_drop]; omega) (by omega)]
theorem cellsOk_cells (l : List Nat) (h : l ≠ []) : cellsOk (cellsS l) = true := by
  cases l with
  | nil => exact absurd rfl h
  | cons a r =>
    have e : (cellsS (a :: r)).length = 4 * (r.length + 1) := cellsS_length (a :: r)
    unfold cellsOk
    rw [e, show (cellsS (a :: r)).isEmpty = false from rfl]
    simp
theorem laT_of (n w : Nat) (l : List Nat) (h : n ≤ 8) (hl : w * n ≤ l.length) (hv : ∀ m ∈ l, m < 65536) : ofT (laT n (cellsS (flatR n w l))) 1 sC sK = .ok (linksR n w l 0) := by
  have e : valP ((laT n (cellsS (flatR n w l))).getD 1 default).props sC = some (cellsS (flatR n w l)) := by kernel_rfl
  unfold ofT
  rw [e]
  by_cases h0 : w = 0
  · subst h0; rfl
  · have hne := flatR_ne n w l (by omega)
    simp only
    rw [if_neg (fun q => by have := congrArg List.length q; rw [cellsS_length, List.length_nil] at this; exact hne (List.eq_nil_of_length_eq_zero (by omega))), if_pos (cellsOk_cells _ hne), cellsL_cellsS _ (flatR_lt n w l hv), show ((1 : Nat) : Int) = 1 from rfl]
    exact ofF_ok n _ h w _ l [] hl (by rw [List.length_map, flatR_len n w l hl, Nat.mul_add]; omega)
theorem laT_cut (n w : Nat) (l : List Nat) (h : n ≤ 8) (h0 : 0 < n) (hw : 0 < w) (hl : w * n ≤ l.length) (hv : ∀ m ∈ l, m < 65536) : ofT (laT n (cellsS (flatR n w l).dropLast)) 1 sC sK = .error 26 := by
  obtain ⟨u, rfl⟩ : ∃ u, w = u + 1 := ⟨w - 1, by omega⟩
  have e : valP ((laT n (cellsS (flatR n (u + 1) l).dropLast)).getD 1 default).props sC = some (cellsS (flatR n (u + 1) l).dropLast) := by kernel_rfl
  have hlen : (flatR n (u + 1) l).dropLast.length = (u + 1) * (n + 1) - 1 := by rw [List.length_dropLast, flatR_len n _ l hl]
  have hp : u + 1 ≤ (u + 1) * (n + 1) - 1 := by
    have : (u + 1) * 1 ≤ (u + 1) * n := Nat.mul_le_mul_left _ h0
    rw [Nat.mul_add]; omega
  have hne : (flatR n (u + 1) l).dropLast ≠ [] := fun q => by rw [q] at hlen; simp at hlen; omega
  unfold ofT
  rw [e]
  simp only
  rw [if_neg (fun q => by have := congrArg List.length q; rw [cellsS_length, hlen, List.length_nil] at this; omega), if_pos (cellsOk_cells _ hne), cellsL_cellsS _ (fun m hm => flatR_lt n _ l hv m (List.dropLast_subset _ hm)), show ((1 : Nat) : Int) = 1 from rfl]
  exact ofF_cut n _ h h0 u _ l [] hl (by rw [List.length_map, hlen]; exact hp)
theorem cells_take (l : List Nat) : (cellsS l).take ((cellsS l).length - 4) = cellsS l.dropLast := by
  rcases List.eq_nil_or_concat l with rfl | ⟨r, a, rfl⟩
  · rfl
  · rw [List.concat_eq_append, List.dropLast_concat]
    have e : cellsS (r ++ [a]) = cellsS r ++ cell4 a := by simp [cellsS]
    rw [e, List.length_append, cell4_length, Nat.add_sub_cancel, List.take_left]
end Go.Proofs.Ytdjhnfopdlgliaa
