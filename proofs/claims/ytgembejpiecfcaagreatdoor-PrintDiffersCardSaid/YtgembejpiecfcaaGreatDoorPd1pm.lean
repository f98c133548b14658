/- Lemmas and contracts for the proof of PrintDiffers (several texts in one, printed by wip/tools/pack.py): PzI PzJ PzM TeL TeM. -/
import Derived.Test.YtgembejpiecfcaaGreatDoorPd1pl
import Derived.Test.YtgembejpiecfcaaGreatDoorPd1pd
import Derived.Test.YtgembejpiecfcaaGreatDoorPd1pf
import Derived.Laws.EntriesVeiled
import Derived.Test.YtgembejpiecfcaaGreatDoorPd1pi
set_option maxRecDepth 100000
set_option maxHeartbeats 16000000
set_option linter.unusedVariables false
set_option linter.unusedSimpArgs false
namespace Go.Proofs.YtgembejpiecfcaaGreatDoor
open Go.RowKit
open Classical
theorem owns_others {w w' : World} {base e size n b : Nat} {v : Value} {xs : List Value} (h : w.ownsRow base e size v n xs) (ho : Lib.OthersKept 5 (some b) w w') (hb : v.ownBlock ≠ some b) (hT : e ≠ 5) : w'.ownsRow base e size v n xs := by
  obtain ⟨h1, h2⟩ := h
  refine ⟨h1, ?_⟩
  rcases h2 with h2 | ⟨g, cap, cur, rfl, a1, a2, a3, a4, a5, a6⟩
  · exact .inl h2
  · refine .inr ⟨g, cap, cur, rfl, a1, ho g _ a2 (fun e2 => hb (by rw [← e2]; rfl)) (fun c fz e2 => ?_), a3, a4, a5, a6⟩
    injection e2 with _ e3
    exact hT e3
theorem rep_tabs (n : Nat) : Lib.repeatL [9] n = List.replicate n (9 : UInt8) := by
  induction n with
  | zero => rfl
  | succ n ih => rw [Lib.repeatL, ih, List.replicate_succ]; rfl
theorem Bld.kept {B b : Nat} {l : St} {w w' : World} {row : Option Nat} (h : Bld B b l w) (gb : w.grownBy w' row) (n1 : some b ≠ row) (n2 : ∀ g, row = some g → ∀ cur fz, w.heap[g]? ≠ some (.cells cur 5 fz)) : Bld B b l w' := by
  have key : ∀ {p : Value}, Lib.BuilderAtF 83 5 B b p (Lib.byteCells l) w → Lib.BuilderAtF 83 5 B b p (Lib.byteCells l) w' := by
    rintro p ⟨h1, v2, h2, h3, h4⟩
    have hlt := (Array.getElem?_eq_some_iff.1 h2).1
    refine ⟨h1, v2, by rw [gb.block b hlt n1]; exact h2, h3.kept gb ?_, h4⟩
    cases hv : v2.ownBlock with
    | none => exact .inl rfl
    | some g =>
      refine .inr fun e => ?_
      obtain ⟨_, q⟩ := h3
      rcases q with ⟨q, _⟩ | ⟨g2, cap, cur, fz, q, _, q2, _⟩
      · rw [q] at hv; cases hv
      · rw [q] at hv
        have : g2 = g := Option.some.inj hv
        subst this
        exact n2 g2 e.symm _ _ q2
  exact h.imp key key
theorem Bld.stc {B b ob T : Nat} {l : St} {w : World} {vs : List Value} {v : Value} (h : Bld B b l w) (r : Row w ob T vs) (hT : T ≠ 5) (hb : ob ≠ b) : Bld B b l (w.setCell ⟨ob, 0, none⟩ v) := by
  refine h.kept (grownBy_set w ob 0 v) (fun e => hb (Option.some.inj e).symm) (fun g e cur fz q => ?_)
  obtain rfl : ob = g := Option.some.inj e
  unfold Row at r
  rw [r] at q
  injection q with q
  injection q with _ q3
  exact hT q3
def KpR (bb ob : Nat) (w w' : World) : Prop := ∀ X T vs, X ≠ bb → X ≠ ob → T ≠ 5 → T ≠ 3 → Row w X T vs → Row w' X T vs
theorem KpR.refl (bb ob : Nat) (w : World) : KpR bb ob w w := fun _ _ _ _ _ _ _ h => h
theorem KpR.trans {bb ob : Nat} {a b c : World} (h : KpR bb ob a b) (k : KpR bb ob b c) : KpR bb ob a c := fun X T vs h1 h2 h3 h4 r => k X T vs h1 h2 h3 h4 (h X T vs h1 h2 h3 h4 r)
theorem KpR.of {bb ob : Nat} {a b : World} (h : Gr a b) : KpR bb ob a b := fun _ _ _ _ _ _ _ r => r.gr h
theorem KpR.stc (bb ob : Nat) (w : World) (v : Value) : KpR bb ob w (w.setCell ⟨ob, 0, none⟩ v) := fun X T vs _ h2 _ _ r => r.grown (grownBy_set w ob 0 v) (fun e => h2 (Option.some.inj e))
structure PSt (B bb ob lb : Nat) (st : List Nat) (l : St) (w : World) : Prop where
  bld : Bld B bb l w
  opn : ∃ a c, Row w ob 22 [.slice a st.length c] ∧ w.ownsRow B 3 1 (.slice a st.length c) st.length (nums (st.reverse.map (fun k : Nat => (k : Int))))
  lin : Row w lb 89 [.func (.func 36) #[] #[.pointer (some ⟨bb, 0, none⟩), .pointer (some ⟨ob, 0, none⟩)]]
  few : st.length ≤ 130
  lo : B ≤ bb ∧ B ≤ ob ∧ B ≤ lb ∧ B ≤ w.heap.size
theorem PSt.nob {B bb ob lb : Nat} {st : List Nat} {l : St} {w : World} (h : PSt B bb ob lb st l w) : ob ≠ bb ∧ lb ≠ bb ∧ lb ≠ ob := by
  have t := h.bld.ty
  obtain ⟨a, c, r, _⟩ := h.opn
  refine ⟨fun e => ?_, fun e => ?_, fun e => ?_⟩
  · subst e; exact t.apart r.ty (by decide) rfl
  · subst e; exact t.apart h.lin.ty (by decide) rfl
  · subst e; exact h.lin.ty.apart r.ty (by decide) rfl
theorem PSt.gr {B bb ob lb : Nat} {st : List Nat} {l : St} {w w' : World} (h : PSt B bb ob lb st l w) (hg : Gr w w') : PSt B bb ob lb st l w' := by
  obtain ⟨a, c, r, o⟩ := h.opn
  exact ⟨h.bld.gr hg, ⟨a, c, r.gr hg, Gr.owns o hg⟩, h.lin.gr hg, h.few, h.lo.1, h.lo.2.1, h.lo.2.2.1, Nat.le_trans h.lo.2.2.2 hg.size⟩
theorem PSt.put {B bb ob lb : Nat} {st : List Nat} {l l' : St} {w w' : World} (h : PSt B bb ob lb st l w) (hb : Bld B bb l' w') (hB : Below B w w') (ho : Lib.OthersKept 5 (some bb) w w') : PSt B bb ob lb st l' w' := by
  obtain ⟨a, c, r, o⟩ := h.opn
  obtain ⟨n1, n2, _⟩ := h.nob
  refine ⟨hb, ⟨a, c, r.others ho n1 (by decide), owns_others o ho (fun e => ?_) (by decide)⟩, h.lin.others ho n2 (by decide), h.few, h.lo.1, h.lo.2.1, h.lo.2.2.1, Nat.le_trans h.lo.2.2.2 hB.size⟩
  exact (owns_ty o e).apart h.bld.ty (by decide) rfl
theorem line_any (B bb ob lb : Nat) (st : List Nat) (l s : St) (w : World) (h : PSt B bb ob lb st l w) (hs : s.length ≤ 100000) (hl : l.length ≤ 2000000000) :
    Calls Tryz.prog 36 #[.string (bs s), .pointer (some ⟨bb, 0, none⟩), .pointer (some ⟨ob, 0, none⟩)] w fun e w' => e = .returned (.tuple #[]) ∧ PSt B bb ob lb st (l ++ (List.replicate st.length 9 ++ s ++ [10])) w' ∧ Below B w w' ∧ KpR bb ob w w' := by
  have H := Lib.hid h
  obtain ⟨oa, oc, hr, ho⟩ := h.opn
  have RO := Lib.hid hr
  have OO := Lib.hid ho
  have x0 := hr.cell 0 (by simp)
  have hx := has_of_cell x0
  have n130 := h.few
  obtain ⟨n, hn⟩ : ∃ n, st.length = n := ⟨_, rfl⟩
  have HN := Lib.hid hn
  rw [hn] at x0 n130 ⊢
  have RP := Tryz.strings_Repeat (bs [9]) n w (by omega) (by rw [bs_size]; simp; omega)
  rw [bs_data, rep_tabs] at RP
  have HRP := Lib.hid RP
  clear h hr ho hn RP
  go_enter Tryz.func36, Tryz.ntmps36
  go_wp2_with fail
  refine HRP.out.mono ?_
  rintro e w1 ⟨rfl, hb⟩
  have G1 := Lib.hid (Gr.of_below hb)
  have H1 := Lib.hid (H.out.gr G1.out)
  have B1 : Hid (Below B w w1) := Lib.hid (hb.mono H.out.lo.2.2.2)
  obtain ⟨tb, htb⟩ : ∃ tb, List.replicate n (9 : UInt8) = tb := ⟨_, rfl⟩
  have tl : tb.length ≤ 130 := by rw [← htb, List.length_replicate]; exact n130
  rw [htb, show (⟨tb.toArray⟩ : ByteArray) = bs tb from rfl]
  have HT := Lib.hid htb
  clear hb htb x0 hx RO OO
  go_wp2_with fail
  refine (write_any B bb l (tb ++ s ++ [10]) w1 H1.out.bld (by simp; omega) H1.out.lo.2.2.2).mono ?_
  rintro e w2 ⟨⟨v, rfl⟩, hb, hB, ho⟩
  have H2 := Lib.hid (H1.out.put hb hB ho)
  have B2 := Lib.hid (B1.out.trans hB)
  have K2 : Hid (KpR bb ob w w2) := Lib.hid (fun X T vs h1 _ h3 _ r => (r.gr G1.out).others ho h1 h3)
  clear hb hB ho
  go_wp2_with fail
  go_end0
  refine ⟨rfl, ?_, B2.out, K2.out⟩
  rw [HT.out]
  exact H2.out
def opM (ob : Nat) (W : World) : Nat := match W.cell? ⟨ob, 0, none⟩ with | some (.slice _ n _) => n | _ => 0
theorem PSt.opM {B bb ob lb : Nat} {st : List Nat} {l : St} {w : World} (h : PSt B bb ob lb st l w) : opM ob w = st.length := by
  obtain ⟨a, c, r, _⟩ := h.opn
  have x := r.cell 0 (by simp)
  unfold Go.Proofs.YtgembejpiecfcaaGreatDoor.opM
  rw [x]; rfl
theorem rowS_cls (d : Nat) : rowS (d, .cls) = List.replicate d 9 ++ [125, 59] ++ [10] := by unfold rowS lnS; simp
theorem lv_len (p : Int) : ∀ st, (lvS p st).length ≤ st.length
  | [] => by simp [lvS]
  | k :: st => by
    rw [lvS]
    split
    · exact Nat.le_refl _
    · have := lv_len p st; simp; omega
theorem lvT_len (p : Int) : ∀ st : List Nat, st.length ≤ 130 → (textL (lvL p st)).length ≤ 140 * st.length
  | [], _ => by simp [lvL, textL]
  | k :: st, h => by
    rw [lvL]
    split
    · simp [textL]
    · have := lvT_len p st (by simp at h; omega)
      unfold textL at this ⊢
      rw [List.flatMap_cons, List.length_append, rowS_cls]
      simp only [List.length_append, List.length_replicate, List.length_cons, List.length_nil] at h ⊢
      omega
theorem leave_any (B bb ob lb : Nat) (p : Int) (st : List Nat) (l : St) (w : World) (h : PSt B bb ob lb st l w) (hl : l.length ≤ 1900000000) :
    Calls Tryz.prog 39 #[.int .i64 p, .pointer (some ⟨ob, 0, none⟩), .pointer (some ⟨lb, 0, none⟩)] w fun e w' => e = .returned (.tuple #[]) ∧ PSt B bb ob lb (lvS p st) (l ++ textL (lvL p st)) w' ∧ Below B w w' ∧ KpR bb ob w w' := by
  have H := Lib.hid h
  obtain ⟨P0, hP0⟩ : ∃ P : Ending → World → Prop, P = fun e w' => e = .returned (.tuple #[]) ∧ PSt B bb ob lb (lvS p st) (l ++ textL (lvL p st)) w' ∧ Below B w w' ∧ KpR bb ob w w' := ⟨_, rfl⟩
  rw [← hP0]
  have HP0 := Lib.hid hP0
  have TL := Lib.hid (lvT_len p st h.few)
  have SL := Lib.hid h.few
  clear hP0 h
  go_enter Tryz.func39, Tryz.ntmps39
  go_wp2_with fail
  go_loopw [] (fun wr => ∃ (s2 : List Nat) (l2 : St), lvS p st = lvS p s2 ∧ l ++ textL (lvL p st) = l2 ++ textL (lvL p s2) ∧ PSt B bb ob lb s2 l2 wr ∧ Below B w wr ∧ KpR bb ob w wr) (fun wr => opM ob wr)
  case atStart => exact ⟨st, l, rfl, rfl, H.out, Below.refl _ _, KpR.refl _ _ _⟩
  case round =>
    obtain ⟨s2, l2, e1, e2, hp, hb, hkp⟩ := hrel
    have KP := Lib.hid hkp
    have HP := Lib.hid hp
    have HB := Lib.hid hb
    have E1 := Lib.hid e1
    have E2 := Lib.hid e2
    obtain ⟨oa, oc, hr, ho⟩ := hp.opn
    have RO := Lib.hid hr
    have OO := Lib.hid ho
    have x0 := hr.cell 0 (by simp)
    have hx := has_of_cell x0
    have LL : Hid (l2.length ≤ 1900100000) := Lib.hid (by
      have h1 := congrArg List.length e2
      have h2 := TL.out
      have h3 := SL.out
      rw [List.length_append, List.length_append] at h1
      have h4 : 140 * st.length ≤ 140 * 130 := Nat.mul_le_mul_left _ h3
      omega)
    clear e1 e2 hp hb hr ho hkp
    cases s2 with
    | nil =>
      go_wp2_with fail
      go_end0
      rw [HP0.out]
      refine ⟨rfl, ?_, HB.out, KP.out⟩
      rw [E1.out, E2.out]
      simpa [lvS, lvL, textL] using HP.out
    | cons k r =>
      obtain ⟨g, cap, e3, hcap, _, hcell⟩ := owns_cell OO.out (by simp)
      cases e3
      obtain ⟨n, hn⟩ : ∃ n, r.length = n := ⟨_, rfl⟩
      have hn1 : (k :: r).length = n + 1 := by rw [List.length_cons, hn]
      have HN := Lib.hid hn
      rw [hn1] at x0 hcell hcap
      have n130 : n ≤ 130 := by have := HP.out.few; rw [hn1] at this; omega
      have tops : wr.cell? ⟨g, n, none⟩ = some (.int .i64 (k : Int)) := by
        rw [hcell n (by omega)]
        simp [nums, hn]
      have hg := has_of_cell tops
      have n0 : (0 : Int) < (n : Int) + 1 := by omega
      clear hcell hn
      by_cases hk : (k : Int) = p
      · have hkb : ((k : Int) == p) = true := by simp [hk]
        subst hk
        go_wp2_with fail
        go_end0
        rw [HP0.out]
        refine ⟨rfl, ?_, HB.out, KP.out⟩
        rw [E1.out, E2.out]
        simpa [lvS, lvL, textL] using HP.out
      · have hkb : ((k : Int) == p) = false := by simp [hk]
        have zf := RO.out.free 0
        have HK := Lib.hid hk
        clear hk
        go_upto_region 2 with fail
        have lo := HP.out.lo
        obtain ⟨nb1, nb2, nb3⟩ := HP.out.nob
        have H1 : Hid (PSt B bb ob lb r l2 (wr.setCell ⟨ob, 0, none⟩ (.slice (some ⟨g, 0, none⟩) n oc))) := Lib.hid (by
          have ho := OO.out
          rw [hn1] at ho
          have e4 : nums ((k :: r).reverse.map (fun k : Nat => (k : Int))) = nums (r.reverse.map (fun k : Nat => (k : Int))) ++ [.int .i64 (k : Int)] := by simp [nums]
          rw [e4] at ho
          have hp := ownsRow_pop (by simp [nums, HN.out]) ho
          refine ⟨HP.out.bld.stc RO.out (by decide) nb1, ⟨some ⟨g, 0, none⟩, oc, ?_, ?_⟩, ?_, by rw [HN.out]; exact n130, lo.1, lo.2.1, lo.2.2.1, by simpa using lo.2.2.2⟩
          · have := RO.out.set 0 (.slice (some ⟨g, 0, none⟩) n oc)
            rw [HN.out]
            exact this
          · rw [HN.out]
            exact owns_stc hp (owns_ne_ty hp RO.out.ty (by decide))
          · exact HP.out.lin.grown (grownBy_set wr ob 0 _) (fun e => nb3 (Option.some.inj e)))
        have B1 : Hid (Below B w (wr.setCell ⟨ob, 0, none⟩ (.slice (some ⟨g, 0, none⟩) n oc))) := Lib.hid (HB.out.trans (by
          have gb := grownBy_set wr ob 0 (.slice (some ⟨g, 0, none⟩) n oc)
          refine ⟨gb.os, gb.tape, gb.output, gb.size, fun j hj => ?_⟩
          have hj2 : j < wr.heap.size := by omega
          exact gb.block j hj2 (fun e => by have := Option.some.inj e; omega)))
        obtain ⟨w1, hw1⟩ : ∃ W : World, wr.setCell ⟨ob, 0, none⟩ (.slice (some ⟨g, 0, none⟩) n oc) = W := ⟨_, rfl⟩
        have K1 : Hid (KpR bb ob w w1) := Lib.hid (by rw [← hw1]; exact KP.out.trans (KpR.stc bb ob wr _))
        rw [hw1] at H1 B1 ⊢
        have lc := H1.out.lin.cell 0 (by simp)
        simp only [List.getElem_cons_zero] at lc
        have hlc := has_of_cell lc
        have LA := Lib.hid (line_any B bb ob lb r l2 [125, 59] w1 H1.out (by simp) (by have := LL.out; omega))
        clear x0 hx tops hg zf hw1 RO OO nb1 nb2 nb3 lo
        go_wp2_with fail
        refine LA.out.mono ?_
        rintro e w2 ⟨rfl, hp, hb, hkp⟩
        have H2 := Lib.hid hp
        have B2 := Lib.hid (B1.out.trans hb)
        have K2 := Lib.hid (K1.out.trans hkp)
        clear hp hb hkp
        go_wp2_with fail
        have e5 : lvS p (k :: r) = lvS p r := by rw [lvS, if_neg HK.out]
        have e6 : lvL p (k :: r) = (r.length, .cls) :: lvL p r := by rw [lvL, if_neg HK.out]
        refine ⟨⟨r, l2 ++ (List.replicate r.length 9 ++ [125, 59] ++ [10]), by rw [E1.out, e5], ?_, H2.out, B2.out, K2.out⟩, ?_⟩
        · rw [E2.out, e6]
          unfold textL
          rw [List.flatMap_cons, rowS_cls, List.append_assoc, List.append_assoc, List.append_assoc, List.append_assoc]
          simp
        · rw [H2.out.opM, HP.out.opM]
          simp
theorem PSt.push {B bb ob lb : Nat} {st : List Nat} {l : St} {w w2 : World} {m : Nat} (h : PSt B bb ob lb st l w) (hm : st.length = m) {a a2 : Option Addr} {c c2 k : Nat} (hr : Row w ob 22 [.slice a m c]) (ho : w.ownsRow B 3 1 (.slice a m c) m (nums (st.reverse.map (fun k : Nat => (k : Int)))))
    (hown : w2.ownsRow B 3 1 (.slice a2 (m + 1) c2) (m + 1) (nums (st.reverse.map (fun k : Nat => (k : Int))) ++ [.int .i64 (k : Int)])) (hg : w.grownBy w2 (Value.slice a m c).ownBlock) (hf : m ≤ 120) :
    PSt B bb ob lb (k :: st) l (w2.setCell ⟨ob, 0, none⟩ (.slice a2 (m + 1) c2)) ∧ Row w2 ob 22 [.slice a m c] ∧ KpR bb ob w w2 ∧ (∀ g, (Value.slice a m c).ownBlock = some g → B ≤ g) := by
  subst hm
  obtain ⟨nb1, nb2, nb3⟩ := h.nob
  have hty : ∀ g, (Value.slice a st.length c).ownBlock = some g → Ty w g 3 := fun g e => owns_ty ho e
  have neR : ∀ X T vs, T ≠ 3 → Row w X T vs → some X ≠ (Value.slice a st.length c).ownBlock := fun X T vs hT r e => (hty X e.symm).apart r.ty (fun q => hT q.symm) rfl
  have rob := hr.grown hg (neR ob _ _ (by decide) hr)
  have bld2 : Bld B bb l w2 := h.bld.kept hg (fun e => (hty bb e.symm).apart h.bld.ty (by decide) rfl) (fun g e cur fz q => by
    obtain ⟨_, _, q2⟩ := hty g e
    rw [q2] at q
    injection q with q
    injection q with _ q3
    exact absurd q3 (by decide))
  refine ⟨⟨bld2.stc rob (by decide) nb1, ⟨a2, c2, rob.set 0 _, ?_⟩, ?_, by simp; omega, h.lo.1, h.lo.2.1, h.lo.2.2.1, by have := hg.size; have := h.lo.2.2.2; simp; omega⟩, rob, fun X T vs _ _ _ h4 r => r.grown hg (neR X T vs h4 r), fun g e => (owns_block ho g e).1⟩
  · have e4 : nums ((k :: st).reverse.map (fun k : Nat => (k : Int))) = nums (st.reverse.map (fun k : Nat => (k : Int))) ++ [.int .i64 (k : Int)] := by simp [nums]
    rw [e4]
    exact owns_stc hown (owns_ne_ty hown rob.ty (by decide))
  · exact (h.lin.grown hg (neR lb _ _ (by decide) h.lin)).grown (grownBy_set w2 ob 0 _) (fun e => nb3 (Option.some.inj e))
theorem infoIntJ : (Tryz.prog.info? 3).map (fun i => (i.zero, i.size, i.bytes)) = some (some (.int .i64 0), 1, 8) := by kernel_rfl
def treeP (ts : Tr) : St := if chkT ts = 0 then treeT ts else []
theorem valT_len (v : St) : (valT v).length ≤ 20 * v.length + 10 := by
  unfold valT
  split
  · simp
  · split
    · rename_i l hl
      have := (quoJ_len hl).1
      omega
    · split
      · have h1 := numS_len ((cellsL v).map Int.toNat)
        have h2 := cellsL_len v
        rw [List.length_map] at h1
        simp only [List.length_cons, List.length_append, List.length_nil]
        omega
      · have h1 := numS_len (v.map UInt8.toNat)
        rw [List.length_map] at h1
        simp only [List.length_cons, List.length_append, List.length_nil]
        omega
theorem flatL_le {α : Type} (f : α → St) (M : Nat) : ∀ l : List α, (∀ x ∈ l, (f x).length ≤ M) → (l.flatMap f).length ≤ l.length * M
  | [], _ => by simp
  | a :: l, h => by
    have h1 := h a (by simp)
    have h2 := flatL_le f M l (fun x hx => h x (List.mem_cons_of_mem _ hx))
    rw [List.flatMap_cons, List.length_append, List.length_cons, Nat.add_mul]
    omega
theorem name_len {s : St} (h : nameOk s = true) : s.length ≤ 31 := by
  unfold nameOk at h
  simp only [Bool.and_eq_true] at h
  simpa using h.1.1.2
theorem prop_len {s : St} (h : propOk s = true) : s.length ≤ 32 := by
  unfold propOk at h
  rw [Bool.and_eq_true] at h
  have := name_len h.1
  unfold undr at this
  split at this
  · cases s with
    | nil => simp
    | cons c s => simp at this ⊢; omega
  · omega
def nmN (ts : Tr) (i : Nat) : St := if i = 0 then [47] else (nodT ts i).name
theorem nmN_len {ts : Tr} (h : Acc ts) {i : Nat} (hi : i < ts.length) : (nmN ts i).length ≤ 31 := by
  unfold nmN
  split
  · simp
  · exact name_len (h.par i (by omega) hi).2.2
def plN (d : Nat) (p : Prp) : Nat × Ln := (d + 1, .prop p.name p.val)
theorem plN_len {p : Prp} (h : propOk p.name = true ∧ p.val.length ≤ 256) {d : Nat} (hd : d ≤ 130) : (rowS (plN d p)).length ≤ 5400 := by
  have h1 := prop_len h.1
  have h2 := valT_len p.val
  unfold rowS plN lnS
  simp only
  split <;> simp only [List.length_append, List.length_replicate, List.length_cons, List.length_nil] <;> omega
theorem textL_app (a b : List (Nat × Ln)) : textL (a ++ b) = textL a ++ textL b := by unfold textL; rw [List.flatMap_append]
theorem plT_len {ts : Tr} (h : Acc ts) {i : Nat} (hi : i < ts.length) {d : Nat} (hd : d ≤ 130) (j : Nat) : (textL (((nodT ts i).props.take j).map (plN d))).length ≤ 130000 := by
  obtain ⟨h1, h2⟩ := h.prp i hi
  have := flatL_le rowS 5400 (((nodT ts i).props.take j).map (plN d)) (fun x hx => by
    obtain ⟨p, hp, rfl⟩ := List.mem_map.1 hx
    exact plN_len (h2 p (List.mem_of_mem_take hp)) hd)
  rw [List.length_map, List.length_take] at this
  have h3 : min j (nodT ts i).props.length * 5400 ≤ 24 * 5400 := Nat.mul_le_mul_right _ (by omega)
  unfold textL
  omega
theorem ndL_eq {ts : Tr} (i d : Nat) : ndL i (nodT ts i) d = (d, .opn (nmN ts i)) :: (nodT ts i).props.map (plN d) := rfl
theorem prS_len (ts : Tr) : ∀ k, (prS ts k).length ≤ k
  | 0 => by simp [prS]
  | k + 1 => by
    have h1 := prS_len ts k
    have h2 := lv_len (nodT ts k).parent (prS ts k)
    rw [prS_succ, List.length_cons]
    omega
theorem prT_len {ts : Tr} (h : Acc ts) : ∀ k, k ≤ ts.length → (textL (prL ts k)).length ≤ k * 200000
  | 0, _ => by simp [prL, textL]
  | k + 1, hk => by
    have h1 := prT_len h k (by omega)
    have h2 := prS_len ts k
    have h3 := h.few
    have h4 := lvT_len (nodT ts k).parent (prS ts k) (by omega)
    have h5 := lv_len (nodT ts k).parent (prS ts k)
    have h6 := plT_len h (show k < ts.length by omega) (d := (lvS (nodT ts k).parent (prS ts k)).length) (by omega) (nodT ts k).props.length
    have h7 := nmN_len h (show k < ts.length by omega)
    rw [List.take_length] at h6
    rw [prL_succ, textL_app, textL_app, ndL_eq, List.length_append, List.length_append]
    have e : textL (((lvS (nodT ts k).parent (prS ts k)).length, Ln.opn (nmN ts k)) :: (nodT ts k).props.map (plN (lvS (nodT ts k).parent (prS ts k)).length)) = rowS ((lvS (nodT ts k).parent (prS ts k)).length, Ln.opn (nmN ts k)) ++ textL ((nodT ts k).props.map (plN (lvS (nodT ts k).parent (prS ts k)).length)) := by unfold textL; rw [List.flatMap_cons]
    rw [e, List.length_append]
    have e2 : (rowS ((lvS (nodT ts k).parent (prS ts k)).length, Ln.opn (nmN ts k))).length ≤ 300 := by
      unfold rowS lnS
      simp only [List.length_append, List.length_replicate, List.length_cons, List.length_nil]
      omega
    have h8 : 140 * (prS ts k).length ≤ 140 * 120 := Nat.mul_le_mul_left _ (by omega)
    rw [Nat.add_mul]
    omega
theorem ptree_any (ts : Tr) (a : Option Addr) (cap : Nat) (w : World) (h : SlOf 3 RNod w a ts) (hf : Fit ts.length) (hM : MaxV w) (hT : TabV w) :
    Calls Tryz.prog 13 #[.agg #[.slice a ts.length cap]] w (Grows w (.tuple #[.string (bs (treeP ts)), .int .i64 (chkT ts)])) := by
  have H := Lib.hid h
  have HM := Lib.hid hM
  have HT := Lib.hid hT
  obtain ⟨i0, hi, hz0, hz1, hz2⟩ := info_parts infoIntJ
  obtain ⟨P0, hP0⟩ : ∃ P : Ending → World → Prop, P = Grows w (.tuple #[.string (bs (treeP ts)), .int .i64 (chkT ts)]) := ⟨_, rfl⟩
  rw [← hP0]
  have HP0 := Lib.hid hP0
  clear hP0 h hM hT
  by_cases hz : chkT ts = 0
  · have AC := Lib.hid (acc_of hz)
    have TC := Lib.hid (treeCheck_any ts a cap (w.alloc (.cells #[.slice a ts.length cap] 25)) (H.out.gr RNod.mono ((Gr.refl w).alloc _)) hf)
    rw [hz] at TC
    have HZ := Lib.hid hz
    clear hz
    obtain ⟨w0, hw0⟩ : ∃ W : World, Hid (w.alloc (.cells #[.slice a ts.length cap] 25) = W) := ⟨_, Lib.hid rfl⟩
    obtain ⟨TB, hTB⟩ : ∃ TB, w.heap.size = TB := ⟨_, rfl⟩
    have R0 : Hid (Row w0 TB 25 [.slice a ts.length cap]) := Lib.hid (by rw [← hw0.out, ← hTB]; exact Row.new w _ _)
    have G0 : Hid (Gr w w0) := Lib.hid (by rw [← hw0.out]; exact (Gr.refl w).alloc _)
    rw [hw0.out] at TC
    go_enter Tryz.func13, Tryz.ntmps13
    go_upto_region 1 with fail
    rw [hw0.out]
    clear hw0 hTB
    have x0 := R0.out.cell 0 (by simp)
    simp only [List.getElem_cons_zero] at x0
    have hx := has_of_cell x0
    go_wp2_with fail
    refine TC.out.mono ?_
    rintro e w1 ⟨rfl, hg⟩
    have G1 := Lib.hid (G0.out.trans hg)
    have R1 := Lib.hid (R0.out.gr hg)
    clear hg x0 hx TC R0 G0
    have x0 := R1.out.cell 0 (by simp)
    simp only [List.getElem_cons_zero] at x0
    have hx := has_of_cell x0
    go_upto_region 8 with fail
    obtain ⟨bb, hbb⟩ : ∃ bb, w1.heap.size = bb := ⟨_, rfl⟩
    obtain ⟨ob, hob⟩ : ∃ ob, bb + 1 = ob := ⟨_, rfl⟩
    obtain ⟨lb, hlb⟩ : ∃ lb, ob + 1 = lb := ⟨_, rfl⟩
    have HBB := Lib.hid hbb
    have HOB := Lib.hid hob
    have HLB := Lib.hid hlb
    rw [hbb, hob, hlb]
    obtain ⟨w2, hw2⟩ : ∃ W : World, Hid (((w1.alloc (.cells #[.pointer none, .slice none 0 0] 83)).alloc (.cells #[.slice none 0 0] 22)).alloc (.cells #[.func (.func 36) #[] #[.pointer (some ⟨bb, 0, none⟩), .pointer (some ⟨ob, 0, none⟩)]] 89) = W) := ⟨_, Lib.hid rfl⟩
    rw [hw2.out]
    have g2 : Hid (Gr w1 w2) := Lib.hid (by rw [← hw2.out]; exact (((Gr.refl w1).alloc _).alloc _).alloc _)
    have PS2 : Hid (PSt bb bb ob lb [] [] w2) := Lib.hid (by
      rw [← hw2.out]
      have b1 := Bld.new w1 bb (by omega)
      rw [hbb] at b1
      have s1 : (w1.alloc (.cells #[.pointer none, .slice none 0 0] 83)).heap.size = ob := by rw [World.size_alloc]; omega
      have s2 : ((w1.alloc (.cells #[.pointer none, .slice none 0 0] 83)).alloc (.cells #[.slice none 0 0] 22)).heap.size = lb := by rw [World.size_alloc, World.size_alloc]; omega
      have r1 := Row.new (w1.alloc (.cells #[.pointer none, .slice none 0 0] 83)) #[.slice none 0 0] 22
      have r2 := Row.new ((w1.alloc (.cells #[.pointer none, .slice none 0 0] 83)).alloc (.cells #[.slice none 0 0] 22)) #[.func (.func 36) #[] #[.pointer (some ⟨bb, 0, none⟩), .pointer (some ⟨ob, 0, none⟩)]] 89
      rw [s1] at r1
      rw [s2] at r2
      refine ⟨(b1.gr ((Gr.refl _).alloc _)).gr ((Gr.refl _).alloc _), ⟨none, 0, r1.gr ((Gr.refl _).alloc _), World.ownsRow_nil _ _ _ _⟩, r2, by simp, by omega, by omega, by omega, ?_⟩
      rw [World.size_alloc, World.size_alloc, World.size_alloc]; omega)
    have B2 : Hid (Below bb w1 w2) := Lib.hid (by rw [← hbb]; exact g2.out.below)
    have R2 := Lib.hid (R1.out.gr g2.out)
    clear hw2 hbb hob hlb x0 hx
    have x0 := R2.out.cell 0 (by simp)
    simp only [List.getElem_cons_zero] at x0
    have hx := has_of_cell x0
    go_wp2_with fail
    clear x0 hx
    go_loopw [24] (fun i wr => ∃ k : Nat, k ≤ ts.length ∧ i = .int .i64 (k : Int) ∧ PSt bb bb ob lb (prS ts k) (textL (prL ts k)) wr ∧ Below bb w1 wr) (fun i _ => ts.length - (intOf i).toNat)
    case atStart => exact ⟨0, Nat.zero_le _, rfl, PS2.out, B2.out⟩
    case round =>
      obtain ⟨k, hk, rfl, hps, hbl⟩ := hrel
      have PS := Lib.hid hps
      have BL := Lib.hid hbl
      have GR : Hid (Gr w1 wr) := Lib.hid (Gr.of_below (by rw [HBB.out]; exact hbl))
      have HG := Lib.hid (G1.out.trans GR.out)
      clear hps hbl
      by_cases hlt : k < ts.length
      · have hlti : (k : Int) < ts.length := by omega
        obtain ⟨nb, no, rfl, ⟨p0, _⟩, ⟨p1, p1b⟩, pa, pc, p2, ppc, ppf, pps⟩ := H.out.gr RNod.mono G1.out k hlt
        obtain ⟨nd0, hnd⟩ : ∃ nd0, ts[k] = nd0 := ⟨_, rfl⟩
        rw [hnd] at p0 p1 p1b p2 ppc ppf pps
        have ND : Hid (nodT ts k = nd0) := Lib.hid (by unfold nodT; rw [List.getD_eq_getElem?_getD, List.getElem?_eq_getElem hlt, ← hnd]; rfl)
        have PPS := Lib.hid pps
        have p0 := cell_gr GR.out p0
        have p1 := cell_gr GR.out p1
        have p2 := cell_gr GR.out p2
        have hx := has_of_cell p0
        obtain ⟨nbx, hnbx⟩ : ∃ nbx, wr.heap.size = nbx := ⟨_, rfl⟩
        obtain ⟨w3, hw3⟩ : ∃ W : World, Hid (wr.alloc (.cells #[.int .i64 nd0.parent, .string (bs nd0.name), .slice pa nd0.props.length pc] 57) = W) := ⟨_, Lib.hid rfl⟩
        have RN : Hid (Row w3 nbx 57 [.int .i64 nd0.parent, .string (bs nd0.name), .slice pa nd0.props.length pc]) := Lib.hid (by rw [← hw3.out, ← hnbx]; exact Row.new wr _ _)
        have g3 : Hid (Gr wr w3) := Lib.hid (by rw [← hw3.out]; exact (Gr.refl wr).alloc _)
        have PS3 := Lib.hid (PS.out.gr g3.out)
        have BL3 : Hid (Below bb w1 w3) := Lib.hid (BL.out.trans (g3.out.below.mono (by have := PS.out.lo; omega)))
        have nlo : Hid (nbx ≠ bb ∧ nbx ≠ ob ∧ w1.heap.size ≤ nbx) := Lib.hid (by
          have h1 : bb < wr.heap.size := by obtain ⟨_, _, q⟩ := PS.out.bld.ty; exact (Array.getElem?_eq_some_iff.1 q).1
          obtain ⟨_, _, h2, _⟩ := PS.out.opn
          have h3 := h2.has
          have h4 := GR.out.size
          unfold Has at h3
          omega)
        have LPR := Lib.hid (prT_len AC.out k hk)
        have LST := Lib.hid (prS_len ts k)
        have few := AC.out.few
        have ppl : nd0.props.length ≤ 24 := by have := (AC.out.prp k hlt).1; rw [ND.out] at this; exact this
        have PRP : Hid (∀ j, (hj : j < nd0.props.length) → propOk nd0.props[j].name = true ∧ nd0.props[j].val.length ≤ 256) := Lib.hid (fun j hj => by have := (AC.out.prp k hlt).2 nd0.props[j] (by rw [ND.out]; exact List.getElem_mem hj); exact this)
        obtain ⟨nm, hnm⟩ : ∃ nm, nmN ts k = nm := ⟨_, rfl⟩
        have NM := Lib.hid hnm
        have nml : nm.length ≤ 31 := by rw [← hnm]; exact nmN_len AC.out hlt
        have hk120 : k ≤ 120 := by omega
        clear hnd pps ppc ppf p1b hnm few
        go_upto_region 11 with fail
        rw [hw3.out]
        clear hw3 hnbx p0 p1 p2 hx GR HG PS BL g3
        have q0 := RN.out.cell 0 (by simp)
        simp only [List.getElem_cons_zero] at q0
        have hq := has_of_cell q0
        have LV := Lib.hid (leave_any bb bb ob lb nd0.parent (prS ts k) (textL (prL ts k)) w3 PS3.out (by have := LPR.out; have : k * 200000 ≤ 120 * 200000 := Nat.mul_le_mul_right _ hk120; omega))
        go_upto_region 12 with (go_at_call 39; refine LV.out.mono ?_; rintro e w4 ⟨rfl, hp4, hb4, hk4⟩; have PS4 := Lib.hid hp4; have BL4 := Lib.hid (BL3.out.trans hb4); have RN4 := Lib.hid (hk4 _ _ _ nlo.out.1 nlo.out.2.1 (by decide) (by decide) RN.out); clear hp4 hb4 hk4)
        clear q0 hq LV PS3 BL3 RN
        obtain ⟨st1, hst1⟩ : ∃ st1, lvS nd0.parent (prS ts k) = st1 := ⟨_, rfl⟩
        have ES : Hid (prS ts (k + 1) = k :: st1) := Lib.hid (by rw [prS_succ, ND.out, hst1])
        obtain ⟨m, hm⟩ : ∃ m, st1.length = m := ⟨_, rfl⟩
        have HM1 := Lib.hid hm
        have m120 : m ≤ 120 := by have := lv_len nd0.parent (prS ts k); rw [hst1, hm] at this; have := LST.out; omega
        obtain ⟨L1, hL1⟩ : ∃ L1, textL (prL ts k) ++ textL (lvL nd0.parent (prS ts k)) = L1 := ⟨_, rfl⟩
        have EL : Hid (textL (prL ts (k + 1)) = L1 ++ rowS (m, Ln.opn nm) ++ textL (nd0.props.map (plN m))) := Lib.hid (by
          rw [prL_succ, textL_app, textL_app, ndL_eq, ND.out, hst1, hm, hL1, NM.out]
          unfold textL
          rw [List.flatMap_cons, List.append_assoc])
        have LL1 : Hid (L1.length ≤ 25000000) := Lib.hid (by
          rw [← hL1, List.length_append]
          have h1 := lvT_len nd0.parent (prS ts k) (by have := LST.out; omega)
          have h2 := LPR.out
          have h3 := LST.out
          have h4 : k * 200000 ≤ 120 * 200000 := Nat.mul_le_mul_right _ hk120
          have h5 : 140 * (prS ts k).length ≤ 140 * 120 := Nat.mul_le_mul_left _ (by omega)
          omega)
        have HPT : Hid (∀ j, (textL ((nd0.props.take j).map (plN m))).length ≤ 130000) := Lib.hid (fun j => by have := plT_len AC.out hlt (d := m) (by omega) j; rw [ND.out] at this; exact this)
        rw [hst1] at PS4
        rw [hL1] at PS4
        clear hst1 hL1 hm LPR LST
        have q1 := RN4.out.cell 1 (by simp)
        simp only [List.getElem_cons_succ, List.getElem_cons_zero] at q1
        have hq := has_of_cell q1
        obtain ⟨kb, hkb⟩ : ∃ kb, ((k : Int) == 0) = kb := ⟨_, rfl⟩
        have HKB := Lib.hid hkb
        go_upto_if 36 with fail
        clear q1 hq hkb
        go_cut [11] (fun s11 wx => s11 = .string (bs nm) ∧ Gr w4 wx)
        case first =>
          have e1 : nm = if k = 0 then [47] else nd0.name := by rw [← NM.out, nmN, ND.out]
          cases kb with
          | true =>
            have h0 : k = 0 := by have := HKB.out; simp at this; omega
            rw [if_pos h0] at e1
            subst e1
            go_wp2_with fail
            go_meet
            exact ⟨rfl, Gr.refl _⟩
          | false =>
            have h0 : ¬ k = 0 := by have := HKB.out; simp at this; omega
            rw [if_neg h0] at e1
            subst e1
            go_wp2_with fail
            go_meet
            exact ⟨rfl, Gr.refl _⟩
        case rest =>
          obtain ⟨rfl, hg⟩ := hcut
          have PS5 := Lib.hid (PS4.out.gr hg)
          have BL5 : Hid (Below bb w1 wc) := Lib.hid (BL4.out.trans (hg.below.mono (by have := PS4.out.lo; omega)))
          have RN5 := Lib.hid (RN4.out.gr hg)
          clear hg PS4 BL4 RN4 HKB NM
          have lc := PS5.out.lin.cell 0 (by simp)
          simp only [List.getElem_cons_zero] at lc
          have hlc := has_of_cell lc
          have LA := line_any bb bb ob lb st1 L1 (nm ++ [32, 123]) wc PS5.out (by simp; omega) (by have := LL1.out; omega)
          have er : L1 ++ (List.replicate st1.length 9 ++ (nm ++ [32, 123]) ++ [10]) = L1 ++ rowS (m, Ln.opn nm) := by rw [HM1.out]; rfl
          rw [er] at LA
          obtain ⟨L2, hL2⟩ : ∃ L2, L1 ++ rowS (m, Ln.opn nm) = L2 := ⟨_, rfl⟩
          have LL2 : Hid (L2.length ≤ 25001000) := Lib.hid (by
            rw [← hL2, List.length_append]
            have : (rowS (m, Ln.opn nm)).length ≤ 300 := by unfold rowS lnS; simp only [List.length_append, List.length_replicate, List.length_cons, List.length_nil]; omega
            have := LL1.out
            omega)
          rw [hL2] at LA EL
          have HLA := Lib.hid LA
          clear LA er hL2 LL1
          go_upto_region 16 with (go_at_call 36; refine HLA.out.mono ?_; rintro e w6 ⟨rfl, hp6, hb6, hk6⟩; have PS6 := Lib.hid hp6; have BL6 := Lib.hid (BL5.out.trans hb6); have RN6 := Lib.hid (hk6 _ _ _ nlo.out.1 nlo.out.2.1 (by decide) (by decide) RN5.out); clear hp6 hb6 hk6)
          clear lc hlc HLA PS5 BL5 RN5
          obtain ⟨oa, oc, hro, hoo⟩ := PS6.out.opn
          rw [HM1.out] at hro hoo
          have RO := Lib.hid hro
          have OO := Lib.hid hoo
          have x0 := hro.cell 0 (by simp)
          simp only [List.getElem_cons_zero] at x0
          have hx := has_of_cell x0
          have NR := Lib.hid (row_cells (Row.new w6 #[.int .i64 (k : Int)] 3))
          have szo : Hid (bb ≤ w6.heap.size) := Lib.hid PS6.out.lo.2.2.2
          clear hro hoo
          go_upto_region 17 with (at_builtin; refine wpList_append_own _ rfl _ _ 22 rfl bb 3 i0 (.int .i64 0) 1 8 Tryz.underlying22 hi hz0 hz1 hz2 rfl (by decide) (.slice oa m oc) m (nums (st1.reverse.map (fun k : Nat => (k : Int)))) rfl (OO.out.alloc _) ⟨w6.heap.size, 0, none⟩ 1 1 [.int .i64 (k : Int)] rfl rfl NR.out (by intro u hu; rw [List.mem_singleton.1 hu]; rfl) (by unfold maxLen; omega) (by omega) (by have := szo.out; simp; omega) ?_; intro v' wz hown' hgrow hnil; obtain ⟨a2, c2, rfl⟩ := owns_slice hown'; have PU := Lib.hid ((PS6.out.gr ((Gr.refl w6).alloc _)).push HM1.out (RO.out.alloc _) (OO.out.alloc _) hown' hgrow m120); have HGZ := Lib.hid hgrow; have z0 := PU.out.2.1.cell 0 (by simp); have zf := PU.out.2.1.free 0; have hzz := has_of_cell z0; clear hown' hgrow hnil)
          clear x0 hx z0 zf hzz
          have BL7 : Hid (Below bb w1 (wz.setCell ⟨ob, 0, none⟩ (.slice a2 (m + 1) c2))) := Lib.hid (by
            have lo := PS6.out.lo
            have gb := HGZ.out
            have s6 : bb ≤ (w6.alloc (.cells #[.int .i64 (k : Int)] 3)).heap.size := by rw [World.size_alloc]; have := szo.out; omega
            have b1 : Below bb w1 (w6.alloc (.cells #[.int .i64 (k : Int)] 3)) := BL6.out.trans (((Gr.refl w6).alloc _).below.mono szo.out)
            have b2 : Below bb (w6.alloc (.cells #[.int .i64 (k : Int)] 3)) wz := ⟨gb.os, gb.tape, gb.output, gb.size, fun q hq => gb.block q (by omega) (fun e => by have := PU.out.2.2.2 q e.symm; omega)⟩
            have gs := grownBy_set wz ob 0 (.slice a2 (m + 1) c2)
            have b3 : Below bb wz (wz.setCell ⟨ob, 0, none⟩ (.slice a2 (m + 1) c2)) := ⟨gs.os, gs.tape, gs.output, gs.size, fun q hq => gs.block q (by have := gb.size; omega) (fun e => by have := Option.some.inj e; omega)⟩
            exact (b1.trans b2).trans b3)
          have RN7 : Hid (Row (wz.setCell ⟨ob, 0, none⟩ (.slice a2 (m + 1) c2)) nbx 57 [.int .i64 nd0.parent, .string (bs nd0.name), .slice pa nd0.props.length pc]) := Lib.hid (((KpR.of ((Gr.refl w6).alloc _)).trans (PU.out.2.2.1.trans (KpR.stc bb ob wz _))) _ _ _ nlo.out.1 nlo.out.2.1 (by decide) (by decide) RN6.out)
          have PS7 := Lib.hid PU.out.1
          obtain ⟨w7, hw7⟩ : ∃ W : World, wz.setCell ⟨ob, 0, none⟩ (.slice a2 (m + 1) c2) = W := ⟨_, rfl⟩
          rw [hw7] at PS7 BL7 RN7 ⊢
          clear hw7 PU HGZ NR szo RO OO PS6 BL6 RN6
          have q2 := RN7.out.cell 2 (by simp)
          simp only [List.getElem_cons_succ, List.getElem_cons_zero] at q2
          have hq := has_of_cell q2
          go_wp2_with fail
          clear q2 hq RN7
          go_loopw [48] (fun i wr => ∃ j : Nat, j ≤ nd0.props.length ∧ i = .int .i64 (j : Int) ∧ PSt bb bb ob lb (k :: st1) (L2 ++ textL ((nd0.props.take j).map (plN m))) wr ∧ Below bb w1 wr) (fun i _ => nd0.props.length - (intOf i).toNat)
          case atStart => exact ⟨0, Nat.zero_le _, rfl, by simpa [textL] using PS7.out, BL7.out⟩
          case round =>
            obtain ⟨j, hj, rfl, hps, hbl⟩ := hrel
            have PS := Lib.hid hps
            have BL := Lib.hid hbl
            have GR : Hid (Gr w1 wr) := Lib.hid (Gr.of_below (by rw [HBB.out]; exact hbl))
            clear hps hbl PS7 BL7
            by_cases hjl : j < nd0.props.length
            · have hji : (j : Int) < nd0.props.length := by omega
              obtain ⟨xb, xo, rfl, ⟨c0, _⟩, ⟨c1, _⟩⟩ := PPS.out.gr RPrp.mono GR.out j hjl
              obtain ⟨prp, hprp⟩ : ∃ prp, nd0.props[j] = prp := ⟨_, rfl⟩
              have PV2 := PRP.out j hjl
              rw [hprp] at c0 c1 PV2
              have hx := has_of_cell c0
              have TK : Hid (L2 ++ textL ((nd0.props.take (j + 1)).map (plN m)) = L2 ++ textL ((nd0.props.take j).map (plN m)) ++ rowS (m + 1, Ln.prop prp.name prp.val)) := Lib.hid (by
                rw [List.take_succ_eq_append_getElem hjl, hprp, List.map_append, textL_app, List.append_assoc]
                congr 2
                simp [textL, plN])
              have nl := prop_len PV2.1
              have vl := PV2.2
              have vtl := valT_len prp.val
              obtain ⟨T2, hT2⟩ : ∃ T2, L2 ++ textL ((nd0.props.take j).map (plN m)) = T2 := ⟨_, rfl⟩
              have TL2 : Hid (T2.length ≤ 25200000) := Lib.hid (by rw [← hT2, List.length_append]; have := LL2.out; have := HPT.out j; omega)
              rw [hT2] at PS TK
              obtain ⟨pb, hpb⟩ : ∃ pb, wr.heap.size = pb := ⟨_, rfl⟩
              obtain ⟨w8, hw8⟩ : ∃ W : World, Hid (wr.alloc (.cells #[.string (bs prp.name), .string (bs prp.val)] 59) = W) := ⟨_, Lib.hid rfl⟩
              have RP8 : Hid (Row w8 pb 59 [.string (bs prp.name), .string (bs prp.val)]) := Lib.hid (by rw [← hw8.out, ← hpb]; exact Row.new wr _ _)
              have g8 : Hid (Gr wr w8) := Lib.hid (by rw [← hw8.out]; exact (Gr.refl wr).alloc _)
              have PS8 := Lib.hid (PS.out.gr g8.out)
              have BL8 : Hid (Below bb w1 w8) := Lib.hid (BL.out.trans (g8.out.below.mono (by have := PS.out.lo; omega)))
              have MV8 : Hid (MaxV w8 ∧ TabV w8) := Lib.hid ⟨HM.out.gr ((G1.out.trans GR.out).trans g8.out), HT.out.gr ((G1.out.trans GR.out).trans g8.out)⟩
              clear hprp PV2 hT2
              go_upto_region 20 with fail
              rw [hw8.out]
              clear hw8 hpb c0 c1 hx PS BL GR g8
              have d0 := RP8.out.cell 0 (by simp)
              have d1 := RP8.out.cell 1 (by simp)
              simp only [List.getElem_cons_succ, List.getElem_cons_zero] at d0 d1
              have hd := has_of_cell d0
              have lc := PS8.out.lin.cell 0 (by simp)
              simp only [List.getElem_cons_zero] at lc
              have hlc := has_of_cell lc
              by_cases hv : prp.val = []
              · have ve : prp.val.isEmpty = true := by rw [hv]; rfl
                have LA := line_any bb bb ob lb (k :: st1) T2 (prp.name ++ [59]) w8 PS8.out (by simp; omega) (by have := TL2.out; omega)
                have er : T2 ++ (List.replicate (k :: st1).length 9 ++ (prp.name ++ [59]) ++ [10]) = T2 ++ rowS (m + 1, Ln.prop prp.name prp.val) := by rw [List.length_cons, HM1.out]; unfold rowS lnS; simp only; rw [if_pos hv]
                rw [er] at LA
                rw [← TK.out] at LA
                have HLA := Lib.hid LA
                clear LA er hv vtl
                go_wp2_with (go_at_call 36; refine HLA.out.mono ?_; rintro e w9 ⟨rfl, hp9, hb9, hk9⟩; have PS9 := Lib.hid hp9; have BL9 := Lib.hid (BL8.out.trans hb9); clear hp9 hb9 hk9)
                exact ⟨⟨j + 1, by omega, by go_num, PS9.out, BL9.out⟩, by simp [intOf]; omega⟩
              · have ve : prp.val.isEmpty = false := by cases hz : prp.val with | nil => exact absurd hz hv | cons _ _ => rfl
                have er : T2 ++ (List.replicate (k :: st1).length 9 ++ (prp.name ++ [32, 61, 32] ++ valT prp.val ++ [59]) ++ [10]) = T2 ++ rowS (m + 1, Ln.prop prp.name prp.val) := by rw [List.length_cons, HM1.out]; unfold rowS lnS; simp only; rw [if_neg hv]
                have PVC := Lib.hid (fun (W : World) (hg : Gr w8 W) => pval_any prp.val W (by omega) (MV8.out.1.gr hg) (MV8.out.2.gr hg))
                obtain ⟨vt, hvt⟩ : ∃ vt, valT prp.val = vt := ⟨_, rfl⟩
                rw [hvt] at er PVC vtl
                have LA : Hid (∀ W, Gr w8 W → Calls Tryz.prog 36 #[.string (bs (prp.name ++ [32, 61, 32] ++ vt ++ [59])), .pointer (some ⟨bb, 0, none⟩), .pointer (some ⟨ob, 0, none⟩)] W fun e w' => e = .returned (.tuple #[]) ∧ PSt bb bb ob lb (k :: st1) (L2 ++ textL ((nd0.props.take (j + 1)).map (plN m))) w' ∧ Below bb W w' ∧ KpR bb ob W w') := Lib.hid (fun W hg => by
                  have h := line_any bb bb ob lb (k :: st1) T2 (prp.name ++ [32, 61, 32] ++ vt ++ [59]) W (PS8.out.gr hg) (by simp; omega) (by have := TL2.out; omega)
                  rw [er, ← TK.out] at h
                  exact h)
                have vt2 : vt.length ≤ 10000 := by omega
                clear er hv hvt vtl
                go_upto_region 22 with fail
                refine wp_region_grows_tail 9 (by kernel_rfl) (by kernel_rfl) ?_
                simp only [List.take_succ_cons, List.take_zero, List.drop_succ_cons, List.drop_zero]
                repeat (go_big_quiet_step (first | (go_at_call 21; exact calls_grows (PVC.out _ (by repeat (first | with_reducible exact Gr.refl _ | with_reducible refine Gr.xt _ _ ?_ | with_reducible refine Gr.drew ?_ | with_reducible refine Gr.drewN _ ?_ | with_reducible refine Gr.alloc _ ?_)))) | fail))
                refine wpQuiet_nil ?_
                rintro _ ⟨⟨O, dd⟩, rfl⟩
                obtain ⟨W5, hW5⟩ : ∃ W5 : World, Hid (W5 = xt w8 O dd) := ⟨_, Lib.hid rfl⟩
                show wpList _ _ _ _ _ (xt w8 O dd)
                rw [← hW5.out]
                have G5 : Hid (Gr w8 W5) := Lib.hid (by rw [hW5.out]; exact (Gr.refl _).xt O dd)
                have B5 : Hid (Below bb w1 W5) := Lib.hid (BL8.out.trans (G5.out.below.mono (by have := PS8.out.lo; omega)))
                have LA5 := Lib.hid (LA.out W5 G5.out)
                clear hW5 LA PVC d0 d1 hd lc hlc
                go_wp2_with (go_at_call 36; refine LA5.out.mono ?_; rintro e w9 ⟨rfl, hp9, hb9, hk9⟩; have PS9 := Lib.hid hp9; have BL9 := Lib.hid (B5.out.trans hb9); clear hp9 hb9 hk9)
                exact ⟨⟨j + 1, by omega, by go_num, PS9.out, BL9.out⟩, by simp [intOf]; omega⟩
            · obtain rfl : j = nd0.props.length := by omega
              have PSX : Hid (PSt bb bb ob lb (prS ts (k + 1)) (textL (prL ts (k + 1))) wr) := Lib.hid (by rw [ES.out, EL.out]; have := PS.out; rwa [List.take_length] at this)
              clear PS EL ES
              go_wp2_with fail
              exact ⟨⟨k + 1, by omega, by go_num, PSX.out, BL.out⟩, by simp [intOf]; omega⟩
      · obtain rfl : k = ts.length := by omega
        have LV := Lib.hid (leave_any bb bb ob lb (-1) (prS ts ts.length) (textL (prL ts ts.length)) wr PS.out (by have h1 := prT_len AC.out ts.length (Nat.le_refl _); have h2 := AC.out.few; have h3 : ts.length * 200000 ≤ 120 * 200000 := Nat.mul_le_mul_right _ h2; omega))
        have ET : Hid (treeP ts = textL (prL ts ts.length) ++ textL (lvL (-1) (prS ts ts.length))) := Lib.hid (by unfold treeP; rw [if_pos HZ.out]; unfold treeT treeL; rw [textL_app])
        rw [← ET.out] at LV
        clear HG GR
        go_upto_region 26 with (go_at_call 39; refine LV.out.mono ?_; rintro e w4 ⟨rfl, hp4, hb4, hk4⟩; have PS4 := Lib.hid hp4; have BL4 := Lib.hid (BL.out.trans hb4); clear hp4 hb4 hk4)
        have BS := Lib.hid (bstr_any bb bb (treeP ts) w4 PS4.out.bld PS4.out.lo.2.2.2)
        clear LV ET PS
        go_wp2_with fail
        refine BS.out.mono ?_
        rintro e w5 ⟨rfl, hb5⟩
        have GF : Hid (Gr w w5) := Lib.hid (G1.out.trans (Gr.of_below (by rw [HBB.out]; exact BL4.out.trans hb5)))
        clear hb5 BS
        go_wp2_with fail
        rw [HP0.out, HZ.out]
        exact ⟨rfl, GF.out⟩
  · have TC := Lib.hid (treeCheck_any ts a cap (w.alloc (.cells #[.slice a ts.length cap] 25)) (H.out.gr RNod.mono ((Gr.refl w).alloc _)) hf)
    have TP : Hid (treeP ts = []) := Lib.hid (by unfold treeP; rw [if_neg hz])
    obtain ⟨c, hc⟩ : ∃ c, chkT ts = c := ⟨_, rfl⟩
    have HC := Lib.hid hc
    rw [hc] at hz TC
    have cb : (c != 0) = true := by simp [hz]
    clear hc hz
    go_enter Tryz.func13, Tryz.ntmps13
    go_wp2_with fail
    refine TC.out.mono ?_
    rintro e w1 ⟨rfl, hg⟩
    have G1 : Hid (Gr w w1) := Lib.hid (Gr.trans ((Gr.refl w).alloc _) hg)
    clear hg TC
    go_wp2_with fail
    rw [HP0.out, HC.out, TP.out]
    exact ⟨rfl, G1.out⟩
def exP : Tr := [⟨-1, [], [⟨[112], [0, 0, 0, 16]⟩]⟩]
theorem exP_chk : chkT exP = 0 := by kernel_rfl
theorem exP_txt : treeP exP = [47, 32, 123, 10, 9, 112, 32, 61, 32, 60, 48, 120, 49, 48, 62, 59, 10, 125, 59, 10] := by kernel_rfl
theorem exV_txt : valT [97, 0] = [34, 97, 34] := by kernel_rfl
theorem awake07_any (w : World) (hM : MaxV w) (hT : TabV w) :
    Calls Tryz.prog 9 #[] w (Grows w (.bool true)) := by
  have HM := Lib.hid hM
  have HT := Lib.hid hT
  clear hM hT
  obtain ⟨w1, hw1⟩ : ∃ W : World, Hid ((w.alloc (.cells #[.string ⟨#[112]⟩, .string ⟨#[0, 0, 0, 16]⟩] 59)).alloc (.cells #[.int .i64 (-1), .string ⟨#[]⟩, .slice (some ⟨w.heap.size, 0, none⟩) 1 1] 57) = W) := ⟨_, Lib.hid rfl⟩
  have G1 : Hid (Gr w w1) := Lib.hid (by rw [← hw1.out]; exact ((Gr.refl w).alloc _).alloc _)
  have R1 : Hid (Row w1 w.heap.size 59 [.string ⟨#[112]⟩, .string ⟨#[0, 0, 0, 16]⟩]) := Lib.hid (by rw [← hw1.out]; exact (Row.new w _ _).alloc _)
  have R2 : Hid (Row w1 (w.heap.size + 1) 57 [.int .i64 (-1), .string ⟨#[]⟩, .slice (some ⟨w.heap.size, 0, none⟩) 1 1]) := Lib.hid (by
    have h := Row.new (w.alloc (.cells #[.string ⟨#[112]⟩, .string ⟨#[0, 0, 0, 16]⟩] 59)) #[.int .i64 (-1), .string ⟨#[]⟩, .slice (some ⟨w.heap.size, 0, none⟩) 1 1] 57
    rw [World.size_alloc, hw1.out] at h
    exact h)
  have TC : Hid (Calls Tryz.prog 13 #[.agg #[.slice (some ⟨w.heap.size + 1, 0, none⟩) 1 1]] w1 (Grows w1 (.tuple #[.string (bs [47, 32, 123, 10, 9, 112, 32, 61, 32, 60, 48, 120, 49, 48, 62, 59, 10, 125, 59, 10]), .int .i64 0]))) := Lib.hid (by
    have h := ptree_any exP (some ⟨w.heap.size + 1, 0, none⟩) 1 w1 (fun k hk => by
      obtain rfl : k = 0 := by simp [exP] at hk; exact hk
      refine ⟨_, _, rfl, ⟨R2.out.cell 0 (by simp), by simp [exP, Wide]⟩, ⟨R2.out.cell 1 (by simp), by simp [exP]⟩, _, _, R2.out.cell 2 (by simp), by simp [exP], by simp [exP, Fit], fun j hj => ?_⟩
      obtain rfl : j = 0 := by simp [exP] at hj; exact hj
      exact ⟨_, _, rfl, ⟨R1.out.cell 0 (by simp), by simp [exP]⟩, ⟨R1.out.cell 1 (by simp), by simp [exP]⟩⟩) (by simp [exP, Fit]) (HM.out.gr G1.out) (HT.out.gr G1.out)
    rw [exP_chk, exP_txt] at h
    exact h)
  clear R1 R2
  go_enter Tryz.func9, Tryz.ntmps9
  go_wp2_with fail
  rw [hw1.out]
  refine TC.out.mono ?_
  rintro e w2 ⟨rfl, hg⟩
  have G2 := Lib.hid (G1.out.trans hg)
  clear hg TC hw1
  go_wp2_with fail
  have PV := pval_any [97, 0] w2 (by decide) (HM.out.gr G2.out) (HT.out.gr G2.out)
  rw [exV_txt] at PV
  refine PV.mono ?_
  rintro e w3 ⟨rfl, hg⟩
  have G3 := Lib.hid (G2.out.trans hg)
  clear hg PV
  go_wp2_with fail
  go_ret
  exact ⟨rfl, G3.out⟩

theorem ints_at {w : World} {base : Nat} {v : Value} {zs : List Int} (h : w.ownsRow base 3 1 v zs.length (nums zs)) (hw : ∀ z ∈ zs, Wide z) : ∃ a c, v = .slice a zs.length c ∧ zs.length ≤ c ∧ SlOf 1 RI w a zs := by
  rcases Nat.eq_zero_or_pos zs.length with e | e
  · have : zs = [] := List.eq_nil_of_length_eq_zero e
    subst this
    obtain ⟨a, c, e⟩ := owns_slice h
    exact ⟨a, c, e, Nat.zero_le _, SlOf.nil _ _ _ _⟩
  · obtain ⟨g, cap, e1, h1, _, hc⟩ := owns_cell h e
    refine ⟨_, cap, e1, h1, fun k hk => ⟨g, 0, rfl, ?_⟩⟩
    rw [Nat.zero_add, Nat.mul_one]
    exact ⟨by rw [hc k (by omega)]; simp [nums, hk], hw _ (List.getElem_mem hk)⟩
end Go.Proofs.YtgembejpiecfcaaGreatDoor
