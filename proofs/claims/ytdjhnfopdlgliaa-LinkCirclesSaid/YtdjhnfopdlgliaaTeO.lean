/- link.All. -/
import Derived.Test.YtdjhnfopdlgliaaTeN
set_option linter.unusedVariables false
set_option linter.unusedSimpArgs false
namespace Go.Proofs.Ytdjhnfopdlgliaa
open Go.RowKit
open Classical

/-- The elements of the lists of the first k nodes, or an error. -/
def allT (ts : Tr) (pn cn : St) : Nat → Except Int (List Lnk)
  | 0 => .ok []
  | k + 1 => match allT ts pn cn k with
    | .error e => .error e
    | .ok out => match ofT ts k pn cn with
      | .error e => .error e
      | .ok l => .ok (out ++ l)
theorem allT_err {ts : Tr} {pn cn : St} {e : Int} : ∀ {k m : Nat}, k ≤ m → allT ts pn cn k = .error e → allT ts pn cn m = .error e := by
  intro k m h
  induction h with
  | refl => exact id
  | step _ ih => intro q; rw [allT, ih q]
theorem ofF_len (ts : Tr) (node : Int) (pn cn : St) : ∀ (f : Nat) (l : List Int) (out ls : List Lnk), ofF ts node pn cn f l out = .ok ls → ls.length ≤ out.length + l.length := by
  intro f
  induction f with
  | zero => intro l out ls h; injection h with h; subst h; omega
  | succ f ih =>
    intro l out ls h
    cases l with
    | nil => injection h with h; subst h; omega
    | cons p l =>
      unfold ofF at h
      split at h
      · cases h
      · split at h
        · cases h
        · split at h
          · cases h
          · have := ih _ _ _ h
            rw [List.length_append, List.length_drop] at this
            simp only [List.length_cons, List.length_nil] at this ⊢
            omega
theorem ofF_err (ts : Tr) (node : Int) (pn cn : St) : ∀ (f : Nat) (l : List Int) (out : List Lnk) (e : Int), ofF ts node pn cn f l out = .error e → e = 25 ∨ e = 26 := by
  intro f
  induction f with
  | zero => intro l out e h; cases h
  | succ f ih =>
    intro l out e h
    cases l with
    | nil => cases h
    | cons p l =>
      unfold ofF at h
      split at h
      · injection h with h; exact .inl h.symm
      · split at h
        · injection h with h; exact .inr h.symm
        · split at h
          · injection h with h; exact .inr h.symm
          · exact ih _ _ _ h
theorem ofT_err {ts : Tr} {k : Nat} {pn cn : St} {e : Int} (h : ofT ts k pn cn = .error e) : e = 25 ∨ e = 26 := by
  unfold ofT at h
  split at h
  · cases h
  · split at h
    · cases h
    · split at h
      · exact ofF_err _ _ _ _ _ _ _ _ h
      · injection h with h; exact .inr h.symm
theorem ofT_len {ts : Tr} (hg : GoodT ts) {k : Nat} (hk : k < ts.length) {pn cn : St} {ls : List Lnk} (h : ofT ts k pn cn = .ok ls) : ls.length ≤ 64 := by
  unfold ofT at h
  rw [List.getD_eq_getElem?_getD, List.getElem?_eq_getElem hk, Option.getD_some] at h
  split at h
  · injection h with h; subst h; simp
  · rename_i v hv
    split at h
    · injection h with h; subst h; simp
    · split at h
      · have hl : v.length ≤ 256 := by
          unfold valP at hv
          cases hz : ts[k].props.find? (fun p => p.name == pn) with
          | none => rw [hz] at hv; cases hv
          | some p => rw [hz] at hv; cases hv; exact (hg.big k hk).2 p (List.mem_of_find?_eq_some hz)
        have := ofF_len ts k pn cn _ _ _ _ h
        rw [cellsL_length] at this
        simp only [List.length_nil] at this
        omega
      · cases h
theorem gets_owns {w : World} {base e size n c : Nat} {a : Option Addr} {xs : List Value} (h : w.ownsRow base e size (.slice a n c) n xs) : Gets w a n size xs := by
  refine ⟨h.1, fun hn => ?_⟩
  rcases h.2 with ⟨_, e2⟩ | ⟨g, cap, cur, e1, _⟩
  · exact absurd e2 hn
  · cases e1
    exact ⟨_, rfl, h.cells rfl⟩
theorem LRows.append {w : World} {base : Nat} {ts us : List LT} (h : LRows w base ts) (k : LRows w base us) : LRows w base (ts ++ us) := fun x hx => by
  rcases List.mem_append.1 hx with q | q
  · exact h x q
  · exact k x q
set_option maxRecDepth 100000 in
set_option maxHeartbeats 8000000 in
theorem all_any (ts : Tr) (a : Option Addr) (cap : Nat) (pn cn : St) (w : World) (h : SlOf 3 RNod w a ts) (hc : chkT ts = 0) :
    Calls Try.prog 23 #[.agg #[.slice a ts.length cap], .string (bs pn), .string (bs cn)] w (GivesLks w (allT ts pn cn ts.length)) := by
  have H := Lib.hid h
  have C := Lib.hid hc
  have G := Lib.hid (good_of hc)
  have h120 := (good_of hc).len.2
  obtain ⟨j0, hj, hy0, hy1, hy2⟩ := info_parts infoLnk
  clear h hc
  go_enter Try.func23, Try.ntmps23
  go_wp2_with fail
  have RB := Lib.hid (Row.new w #[.slice a ts.length cap] 32)
  obtain ⟨W1, hW1⟩ : ∃ W : World, Hid (W = w.alloc (.cells #[.slice a ts.length cap] 32)) := ⟨_, Lib.hid rfl⟩
  rw [← hW1.out] at RB ⊢
  have G1 : Hid (Gr w W1) := Lib.hid (by rw [hW1.out]; exact (Gr.refl _).alloc _)
  obtain ⟨P0, hP0⟩ : ∃ N : Nat, Hid (w.heap.size = N) := ⟨_, Lib.hid rfl⟩
  rw [hP0.out] at RB ⊢
  clear hW1 hP0
  refine (treeCheck_any ts a cap W1 (H.out.gr RNod.mono G1.out) (by unfold Fit; omega)).mono ?_
  rintro e w1 ⟨rfl, hg1⟩
  rw [C.out]
  have G2 := Lib.hid (G1.out.trans hg1)
  have RB2 := Lib.hid (RB.out.gr hg1)
  have b0 : w1.cell? ⟨P0, 0, none⟩ = some (.slice a ts.length cap) := RB2.out.cell 0 (by simp)
  clear hg1 RB G1
  go_wp2_with fail
  go_loopw [9, 21] (fun x i wr => ∃ (k : Nat) (ls : List LT), k ≤ ts.length ∧ i = .int .i64 k ∧ allT ts pn cn k = .ok (lks ls) ∧ ls.length ≤ k * 64 ∧ wr.ownsRow w.heap.size 40 5 x ls.length (encLks ls) ∧ LRows wr w.heap.size ls ∧ Row wr P0 32 [.slice a ts.length cap] ∧ Gr w wr) (fun _ i _ => ts.length - (intOf i).toNat)
  case atStart => exact ⟨0, [], Nat.zero_le _, rfl, rfl, by simp, World.ownsRow_nil _ _ _ _, LRows.nil _ _, RB2.out, G2.out⟩
  case round =>
    clear b0 RB2 G2
    obtain ⟨k, ls, hk, rfl, hal, hln, ho, hlr, hrb, hg⟩ := hrel
    obtain ⟨va, vc, rfl⟩ := owns_slice ho
    have AL := Lib.hid hal
    have OW := Lib.hid ho
    have LR := Lib.hid hlr
    have HRB := Lib.hid hrb
    have HG := Lib.hid hg
    have b0 : wr.cell? ⟨P0, 0, none⟩ = some (.slice a ts.length cap) := hrb.cell 0 (by simp)
    clear hal ho hlr hrb hg
    by_cases hlt : k < ts.length
    · go_wp2_with fail
      refine (of_any ts a cap k pn cn wr (H.out.gr RNod.mono HG.out) C.out hlt).mono ?_
      intro e w2 hgv
      cases hz : ofT ts k pn cn with
      | error er =>
        rw [hz] at hgv
        have A2 : Hid (allT ts pn cn ts.length = .error er) := Lib.hid (allT_err (k := k + 1) (by omega) (by rw [allT, AL.out]; simp only [hz]))
        obtain ⟨rfl, hg⟩ := hgv
        have G3 := Lib.hid (HG.out.trans hg)
        have ern : Hid (er = 25 ∨ er = 26) := Lib.hid (ofT_err hz)
        have eb : (er != 0) = true := by rw [bne_iff_ne]; have := ern.out; omega
        clear hg hz
        go_wp2_with fail
        refine bodyPost_ret (v := .tuple #[.slice none 0 0, .int .i64 er]) (by simp [results, Try.results23, go_sem]) rfl ?_
        rw [A2.out]
        exact ⟨rfl, G3.out⟩
      | ok l2 =>
        rw [hz] at hgv
        have A2 : Hid (allT ts pn cn (k + 1) = .ok (lks ls ++ l2)) := Lib.hid (by rw [allT, AL.out]; simp only [hz])
        have L2 := ofT_len G.out hlt hz
        obtain ⟨v, ls2, rfl, h1, h2, h3, hg⟩ := hgv
        obtain ⟨va2, vc2, rfl⟩ := owns_slice h2
        have hl2 : ls2.length ≤ 64 := by rw [← h1] at L2; simpa [lks] using L2
        have G3 := Lib.hid (HG.out.trans hg)
        have OW3 := Lib.hid (Gr.owns OW.out hg)
        have LR3 := Lib.hid (LR.out.gr hg)
        have HRB3 := Lib.hid (HRB.out.gr hg)
        have H1 := Lib.hid h1
        have GT : Hid (Gets w2 va2 ls2.length 5 (encLks ls2)) := Lib.hid (gets_owns h2)
        have LR2 : Hid (LRows w2 w.heap.size ls2) := Lib.hid fun t ht => ⟨owns_low (h3 t ht).1 HG.out.size, (h3 t ht).2⟩
        clear hg hz h1 h2 h3 L2 b0
        have ON : Hid (∀ u ∈ encLks ls2, u.oneCell' = true) := Lib.hid (fun u hu => by obtain ⟨t, _, h⟩ := List.mem_flatMap.1 hu; exact encLk_one t u h)
        go_wp2_with (at_builtin; refine wpList_append_gets _ rfl _ _ 34 rfl w.heap.size 40 j0 (.agg #[.int .i64 0, .int .i64 0, .string (bs []), .int .i64 0, .slice none 0 0]) 5 64 Try.underlying34 hj hy0 hy1 hy2 rfl (by decide) (.slice va ls.length vc) ls.length (encLks ls) rfl OW3.out va2 ls2.length vc2 (encLks ls2) rfl GT.out ON.out (by unfold maxLen; omega) (by omega) G3.out.size ?_; intro v' wz hown' hgrow hnil; have HOz := Lib.hid hown'; have HGz := Lib.hid hgrow; clear hown' hgrow hnil)
        go_roundw
        case rel =>
          refine ⟨k + 1, ls ++ ls2, by omega, by go_num, by rw [A2.out, ← H1.out]; simp [lks], by rw [List.length_append]; omega, ?_, ?_, ?_, ?_⟩
          · have := HOz.out
            rw [List.length_append]
            unfold encLks at this ⊢
            rw [List.flatMap_append]
            exact this
          · exact (LR3.out.kept OW3.out (by decide) HGz.out).append (LR2.out.kept OW3.out (by decide) HGz.out)
          · exact HRB3.out.kept HGz.out (HRB3.out.ty.ne OW3.out (by decide))
          · exact G3.out.grown HGz.out (fun j e => (OW3.out.lt j e).1)
        case measure => simp [intOf]; omega
    · obtain rfl : k = ts.length := by omega
      go_wp2_with fail
      refine bodyPost_ret (v := .tuple #[.slice va ls.length vc, .int .i64 0]) (by simp [results, Try.results23, go_sem]) rfl ?_
      rw [AL.out]
      exact ⟨_, ls, rfl, rfl, OW.out, LR.out, HG.out⟩
end Go.Proofs.Ytdjhnfopdlgliaa
