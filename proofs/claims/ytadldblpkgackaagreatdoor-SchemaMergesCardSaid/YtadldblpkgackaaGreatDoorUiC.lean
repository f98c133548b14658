/- For SchemaLines: parts of a slice of schemas, counts. -/
import Derived.Test.YtadldblpkgackaaGreatDoorUiA
import Derived.Test.YtadldblpkgackaaGreatDoorUiB
set_option linter.unusedVariables false
set_option linter.unusedSimpArgs false
namespace Go.Proofs.YtadldblpkgackaaGreatDoor
open Go.RowKit
open Classical

theorem flatS_len (l : List SM) : (l.flatMap SM.enc).length = l.length * 3 := by
  induction l with
  | nil => rfl
  | cons x xs ih => rw [List.flatMap_cons, List.length_append, ih, SM.enc_len, List.length_cons]; omega
theorem flatS_split (l : List SM) (k : Nat) : l.flatMap SM.enc = (l.take k).flatMap SM.enc ++ (l.drop k).flatMap SM.enc := by
  rw [← List.flatMap_append, List.take_append_drop]
theorem getsS_drop {w : World} {base g m c k : Nat} {l : List SM} (h : w.ownsRow base 24 3 (.slice (some ⟨g, 0, none⟩) m c) m (l.flatMap SM.enc)) (hl : l.length = m) (hk : k ≤ m) :
    Gets w (some ⟨g, k * 3, none⟩) (m - k) 3 ((l.drop k).flatMap SM.enc) := by
  refine ⟨by rw [flatS_len, List.length_drop, hl], fun h0 => ⟨_, rfl, fun j u hu => ?_⟩⟩
  obtain ⟨g', cap, e, _, _, hc⟩ := owns_cell h (by omega)
  cases e
  obtain ⟨hj, _⟩ := List.getElem?_eq_some_iff.1 hu
  rw [flatS_len, List.length_drop, hl] at hj
  have hj2 : k * 3 + j < m * 3 := by have := Nat.sub_mul m k 3; omega
  rw [Addr.add_lit, hc (k * 3 + j) hj2, flatS_split l k, List.getElem?_append_right (by rw [flatS_len, List.length_take]; omega)]
  rw [flatS_len, List.length_take, hl, Nat.min_eq_left hk, Nat.add_sub_cancel_left, hu]
theorem getsS_take {w : World} {base g m c k : Nat} {l : List SM} (h : w.ownsRow base 24 3 (.slice (some ⟨g, 0, none⟩) m c) m (l.flatMap SM.enc)) (hl : l.length = m) (hk : k ≤ m) :
    Gets w (some ⟨g, 0, none⟩) k 3 ((l.take k).flatMap SM.enc) := by
  refine ⟨by rw [flatS_len, List.length_take, hl, Nat.min_eq_left hk], fun h0 => ⟨_, rfl, fun j u hu => ?_⟩⟩
  obtain ⟨g', cap, e, _, _, hc⟩ := owns_cell h (by omega)
  cases e
  obtain ⟨hj, _⟩ := List.getElem?_eq_some_iff.1 hu
  rw [flatS_len, List.length_take, hl, Nat.min_eq_left hk] at hj
  rw [Addr.add_lit, Nat.zero_add, hc j (by have := Nat.mul_le_mul_right 3 hk; omega), flatS_split l k, List.getElem?_append_left (by rw [flatS_len, List.length_take, hl, Nat.min_eq_left hk]; exact hj), hu]
/-- A row of schemas as data, whatever other rows hold the same rules. -/
theorem outs_sl {base base2 : Nat} {w : World} {out : List SM} {a : Option Addr} {n c : Nat} (how : w.ownsRow base 24 3 (.slice a n c) out.length (out.flatMap SM.enc)) (hrls : ∀ s ∈ out, RlsAt base2 w s) : SlOf 3 RSch w a (out.map SM.sch) := by
  intro k hk
  rw [List.length_map] at hk
  obtain ⟨g, cap, e1, h1, _, hc⟩ := owns_cell how (by omega)
  cases e1
  have hf := fun j (hj : j < 3) => flat_at SM.enc 3 (fun _ => rfl) out k j hk hj
  have h2 : ∀ j, j < 3 → w.cell? ⟨g, k * 3 + j, none⟩ = (SM.enc out[k])[j]? := fun j hj => by
    rw [hc (k * 3 + j) (by omega)]; exact hf j hj
  have hr := hrls out[k] (List.getElem_mem hk)
  obtain ⟨ra, rc, hv⟩ := owns_slice hr.own
  obtain ⟨_, hsl⟩ := hr.sl hv
  obtain ⟨g2, cap2, e2⟩ : ∃ g2 : Option Addr, ∃ cap2, out[k].v = .slice g2 out[k].rs.length cap2 ∧ out[k].rs.length ≤ cap2 := by
    rcases hr.own.2 with ⟨e, z⟩ | ⟨g, cap, cur, e, _, _, z, _⟩
    · exact ⟨none, 0, by rw [e, z], by omega⟩
    · exact ⟨_, _, e, z⟩
  rw [hv] at e2
  obtain ⟨e2, e3⟩ := e2
  cases e2
  rw [List.getElem_map]
  refine ⟨g, 0, rfl, ?_, ?_, ?_⟩
  all_goals rw [Nat.zero_add]
  · exact ⟨by rw [show k * 3 = k * 3 + 0 from rfl, h2 0 (by omega)]; rfl, by have := hr.cl; simp only [SM.sch]; omega⟩
  · show w.cell? _ = _; rw [h2 1 (by omega)]; rfl
  · refine ⟨_, _, by rw [h2 2 (by omega)]; simp only [SM.enc, SM.sch, List.length_map]; rw [hv]; rfl, by simpa [SM.sch] using e3, by have := hr.len; unfold Fit; simp only [SM.sch, List.length_map]; omega, hsl⟩
theorem sl_take {w : World} {g o k : Nat} {l : List Sch} (h : SlOf 3 RSch w (some ⟨g, o, none⟩) l) : SlOf 3 RSch w (some ⟨g, o, none⟩) (l.take k) := by
  intro j hj
  rw [List.length_take] at hj
  obtain ⟨b, o2, e, q⟩ := h j (by omega)
  refine ⟨b, o2, e, ?_⟩
  rw [List.getElem_take]; exact q
theorem sl_one {w : World} {g k : Nat} {l : List Sch} (h : SlOf 3 RSch w (some ⟨g, 0, none⟩) l) (hk : k < l.length) : SlOf 3 RSch w (some ⟨g, k * 3, none⟩) [l[k]] := by
  intro j hj
  obtain rfl : j = 0 := by simp at hj; omega
  obtain ⟨b, o2, e, q⟩ := h k hk
  cases e
  refine ⟨g, k * 3, rfl, ?_⟩
  simpa using q
theorem good_sml {l : List Sch} (hs : (l.map Sch.comp).Sublist compsL) (hg : ∀ s ∈ l, GoodD s) : ∀ s ∈ l, SmlS s := by
  intro s hm
  have hv : visP s.comp = true := List.all_eq_true.1 comps_vis _ (hs.subset (List.mem_map_of_mem hm))
  have hvl := vis_len hv
  refine ⟨by omega, by have := (hg s hm).few; omega, fun r hr => ?_⟩
  have h := (hg s hm).rls r hr
  have hn := rule_name h
  have hwl := words_len h
  have hw : r.words.all visP = true := by unfold ruleP at h; simp only [Bool.and_eq_true] at h; exact h.2
  exact ⟨by omega, by omega, fun y hy => by have := vis_len (List.all_eq_true.1 hw y hy); omega⟩
theorem nlC_take (t : St) (i : Nat) (h : i < t.length) : nlC (t.take (i + 1)) = nlC (t.take i) + (if t[i] = 10 then 1 else 0) := by
  rw [List.take_succ_eq_append_getElem h, nlC_app]
  unfold nlC
  by_cases q : t[i] = 10
  · rw [q, if_pos rfl]; rfl
  · have e : List.count 10 [t[i]] = 0 := List.count_eq_zero.2 (fun z => q (List.mem_singleton.1 z).symm)
    rw [if_neg q, e]
theorem nLines_take (l : List Sch) (j : Nat) (h : j < l.length) : nLines (l.take (j + 1)) = nLines (l.take j) + (1 + l[j].rules.length) := by
  unfold nLines
  rw [List.take_succ_eq_append_getElem h, List.map_append, List.sum_append]
  simp
theorem nLines_le (l : List Sch) (j : Nat) : nLines (l.take j) ≤ nLines l := by
  have : nLines l = nLines (l.take j) + nLines (l.drop j) := by
    unfold nLines
    rw [← List.sum_append, ← List.map_append, List.take_append_drop]
  omega
theorem nlC_le (t : St) (i : Nat) : nlC (t.take i) ≤ t.length := Nat.le_trans List.count_le_length (by rw [List.length_take]; omega)
end Go.Proofs.YtadldblpkgackaaGreatDoor
