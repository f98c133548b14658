/- link.of, begin, Of. -/
import Derived.Test.YtdjhnfopdlgliaaTeM
set_option linter.unusedVariables false
set_option linter.unusedSimpArgs false
namespace Go.Proofs.Ytdjhnfopdlgliaa
open Go.RowKit
open Classical

structure LT where
  l : Lnk
  a : Option Addr
  c : Nat
def encLk (t : LT) : List Value := [.int .i64 t.l.node, .int .i64 t.l.prov, .string (bs t.l.prop), .int .i64 t.l.idx, .slice t.a t.l.args.length t.c]
def encLks (ts : List LT) : List Value := ts.flatMap encLk
theorem encLks_len (ts : List LT) : (encLks ts).length = ts.length * 5 := by
  induction ts with
  | nil => rfl
  | cons t ts ih => unfold encLks at ih ⊢; rw [List.flatMap_cons, List.length_append, ih]; simp [encLk]; omega
theorem encLk_one (t : LT) : ∀ u ∈ encLk t, u.oneCell' = true := by intro u hu; simp [encLk] at hu; rcases hu with rfl | rfl | rfl | rfl | rfl <;> rfl
/-- Lists of arguments, each in a row of the call's own. -/
def LRows (w : World) (base : Nat) (ts : List LT) : Prop := ∀ t ∈ ts, w.ownsRow base 3 1 (.slice t.a t.l.args.length t.c) t.l.args.length (nums t.l.args) ∧ (∀ z ∈ t.l.args, Wide z) ∧ t.l.args.length ≤ 8
theorem LRows.gr {w w' : World} {base : Nat} {ts : List LT} (h : LRows w base ts) (hg : Gr w w') : LRows w' base ts := fun t ht => ⟨Gr.owns (h t ht).1 hg, (h t ht).2⟩
theorem LRows.nil (w : World) (base : Nat) : LRows w base [] := fun t h => by simp at h
theorem LRows.snoc {w : World} {base : Nat} {ts : List LT} {t : LT} (h : LRows w base ts) (ht : w.ownsRow base 3 1 (.slice t.a t.l.args.length t.c) t.l.args.length (nums t.l.args) ∧ (∀ z ∈ t.l.args, Wide z) ∧ t.l.args.length ≤ 8) : LRows w base (ts ++ [t]) := fun x hx => by
  rcases List.mem_append.1 hx with q | q
  · exact h x q
  · rw [List.mem_singleton.1 q]; exact ht
/-- Block B has cells of type T. -/
def Ty (w : World) (B T : Nat) : Prop := ∃ cur f, w.heap[B]? = some (.cells cur T f)
theorem Ty.gr {w w' : World} {B T : Nat} (h : Ty w B T) (hg : Gr w w') : Ty w' B T := by
  obtain ⟨cur, f, h⟩ := h
  obtain ⟨O, d, rfl⟩ := hg
  exact ⟨cur, f, by rw [block_xt w O d B (Array.getElem?_eq_some_iff.1 h).1]; exact h⟩
theorem Ty.apart {w : World} {B C T U : Nat} (h : Ty w B T) (k : Ty w C U) (hne : T ≠ U) : B ≠ C := by
  rintro rfl
  obtain ⟨_, _, h⟩ := h
  obtain ⟨_, _, k⟩ := k
  rw [h] at k
  cases k
  exact hne rfl
theorem Row.ty {w : World} {B T : Nat} {vs : List Value} (h : Row w B T vs) : Ty w B T := ⟨_, _, h⟩
theorem owns_ty {w : World} {base e size n : Nat} {v : Value} {xs : List Value} (h : w.ownsRow base e size v n xs) {g : Nat} (hg : v.ownBlock = some g) : Ty w g e := by
  rcases h.2 with ⟨rfl, _⟩ | ⟨g', cap, cur, rfl, _, h2, _⟩
  · cases hg
  · injection hg with hg
    subst hg
    exact ⟨_, _, h2⟩
theorem owns_ne {w : World} {b1 e1 s1 n1 b2 e2 s2 n2 : Nat} {v1 v2 : Value} {x1 x2 : List Value} (h : w.ownsRow b1 e1 s1 v1 n1 x1) (k : w.ownsRow b2 e2 s2 v2 n2 x2) (hne : e1 ≠ e2) : v1.ownBlock = none ∨ v1.ownBlock ≠ v2.ownBlock := by
  cases hz : v1.ownBlock with
  | none => exact .inl rfl
  | some g => exact .inr fun e => (owns_ty h hz).apart (owns_ty k e.symm) hne rfl
theorem LRows.kept {w w' : World} {base b2 e2 s2 n2 : Nat} {ts : List LT} {v2 : Value} {x2 : List Value} (h : LRows w base ts) (k : w.ownsRow b2 e2 s2 v2 n2 x2) (hne : 3 ≠ e2) (hg : w.grownBy w' v2.ownBlock) : LRows w' base ts := fun t ht =>
  ⟨(h t ht).1.kept hg (owns_ne (h t ht).1 k hne), (h t ht).2⟩
theorem slI_kept {w w' : World} {row : Option Nat} {g o : Nat} {xs : List Int} (h : SlOf 1 RI w (some ⟨g, o, none⟩) xs) (hg : w.grownBy w' row) (hne : some g ≠ row) (hlt : g < w.heap.size) : SlOf 1 RI w' (some ⟨g, o, none⟩) xs := fun j hj => by
  obtain ⟨g2, o2, e2, h2⟩ := h j hj
  cases e2
  refine ⟨g, o, rfl, ?_, h2.2⟩
  rw [← h2.1]
  exact World.cell?_of_block (hg.block g hlt hne)
theorem Row.kept {w w' : World} {row : Option Nat} {B T : Nat} {vs : List Value} (h : Row w B T vs) (hg : w.grownBy w' row) (hne : some B ≠ row) : Row w' B T vs := (hg.block B h.has hne).trans h
theorem Ty.kept {w w' : World} {row : Option Nat} {B T : Nat} (h : Ty w B T) (hg : w.grownBy w' row) (hne : some B ≠ row) : Ty w' B T := by
  obtain ⟨cur, f, h⟩ := h
  exact ⟨cur, f, (hg.block B (Array.getElem?_eq_some_iff.1 h).1 hne).trans h⟩
theorem Ty.ne {w : World} {B T b2 e2 s2 n2 : Nat} {v2 : Value} {x2 : List Value} (h : Ty w B T) (k : w.ownsRow b2 e2 s2 v2 n2 x2) (hne : T ≠ e2) : some B ≠ v2.ownBlock := fun e => h.apart (owns_ty k e.symm) hne rfl
theorem Ty.lt {w : World} {B T : Nat} (h : Ty w B T) : B < w.heap.size := by
  obtain ⟨_, _, h⟩ := h
  exact (Array.getElem?_eq_some_iff.1 h).1
def lks (ts : List LT) : List Lnk := ts.map LT.l
theorem infoLnk : (Try.prog.info? 40).map (fun i => (i.zero, i.size, i.bytes)) = some (some (.agg #[.int .i64 0, .int .i64 0, .string (bs []), .int .i64 0, .slice none 0 0]), 5, 64) := by kernel_rfl
theorem ofF_fuel (ts : Tr) (node : Int) (pn cn : St) : ∀ (f g : Nat) (l : List Int) (out : List Lnk), l.length ≤ f → l.length ≤ g → (∀ k n, argsN ts k cn = some n → 0 ≤ n) → ofF ts node pn cn f l out = ofF ts node pn cn g l out := by
  intro f
  induction f with
  | zero => intro g l out h1 h2 _; have : l = [] := List.eq_nil_of_length_eq_zero (by omega); subst this; cases g <;> rfl
  | succ f ih =>
    intro g l out h1 h2 ha
    cases l with
    | nil => cases g <;> rfl
    | cons p l =>
      obtain ⟨g, rfl⟩ : ∃ g', g = g' + 1 := ⟨g - 1, by simp only [List.length_cons] at h2; omega⟩
      simp only [List.length_cons] at h1 h2
      unfold ofF
      cases phan ts p with
      | none => rfl
      | some k =>
        simp only
        cases argsN ts k cn with
        | none => rfl
        | some n =>
          simp only
          split
          · rfl
          · exact ih g _ _ (by rw [List.length_drop]; omega) (by rw [List.length_drop]; omega) ha
theorem argsN_le {ts : Tr} {k : Nat} {cn : St} {n : Int} (h : argsN ts k cn = some n) : 0 ≤ n ∧ n ≤ 8 := by
  unfold argsN at h
  split at h
  · cases h; omega
  · rename_i v _
    split at h
    · rename_i q
      injection h with h
      rw [← h]
      refine ⟨?_, q.2.2⟩
      obtain ⟨z, hz⟩ := List.length_eq_one_iff.1 q.2.1
      rw [hz]
      exact (cells_bound v z (by rw [hz]; simp)).1
    · cases h
/-- What link.of gives. -/
def GivesLks (w : World) (r : Except Int (List Lnk)) (e : Ending) (w' : World) : Prop :=
  match r with
  | .error k => e = .returned (.tuple #[.slice none 0 0, .int .i64 k]) ∧ Gr w w'
  | .ok ls => ∃ v ts, e = .returned (.tuple #[v, .int .i64 0]) ∧ lks ts = ls ∧ w'.ownsRow w.heap.size 40 5 v ts.length (encLks ts) ∧ LRows w' w.heap.size ts ∧ Gr w w'
def sliceLen : Value → Nat
  | .slice _ n _ => n
  | _ => 0
set_option maxRecDepth 100000 in
set_option maxHeartbeats 8000000 in
theorem of_any (ts : Tr) (a : Option Addr) (cap i : Nat) (pn cn : St) (w : World) (h : SlOf 3 RNod w a ts) (hc : chkT ts = 0) (hi : i < ts.length) :
    Calls Try.prog 12 #[.agg #[.slice a ts.length cap], .int .i64 i, .string (bs pn), .string (bs cn)] w (GivesLks w (ofT ts i pn cn)) := by
  have H := Lib.hid h
  have HC := Lib.hid hc
  have G := Lib.hid (good_of hc)
  have h120 := (good_of hc).len.2
  have NE : Hid (ts.getD i default = ts[i]) := Lib.hid (by rw [List.getD_eq_getElem?_getD, List.getElem?_eq_getElem hi]; rfl)
  have LV : Hid (∀ v, valP ts[i].props pn = some v → v.length ≤ 256) := Lib.hid fun v hv => by
    unfold valP at hv
    cases hz : ts[i].props.find? (fun p => p.name == pn) with
    | none => rw [hz] at hv; cases hv
    | some p => rw [hz] at hv; cases hv; exact (G.out.big i hi).2 p (List.mem_of_find?_eq_some hz)
  obtain ⟨j0, hj, hy0, hy1, hy2⟩ := info_parts infoLnk
  clear h hc
  go_enter Try.func12, Try.ntmps12
  go_wp2_with fail
  have RB := Lib.hid (Row.new w #[.slice a ts.length cap] 32)
  obtain ⟨W1, hW1⟩ : ∃ W : World, Hid (W = w.alloc (.cells #[.slice a ts.length cap] 32)) := ⟨_, Lib.hid rfl⟩
  rw [← hW1.out] at RB ⊢
  have G1 : Hid (Gr w W1) := Lib.hid (by rw [hW1.out]; exact (Gr.refl _).alloc _)
  obtain ⟨P0, hP0⟩ : ∃ N : Nat, Hid (w.heap.size = N) := ⟨_, Lib.hid rfl⟩
  rw [hP0.out] at RB ⊢
  clear hW1 hP0
  refine (treeValue_any ts a cap i pn W1 (H.out.gr RNod.mono G1.out) HC.out hi).mono ?_
  rintro e w1 ⟨rfl, hg1⟩
  have G2 := Lib.hid (G1.out.trans hg1)
  have RB2 := Lib.hid (RB.out.gr hg1)
  clear hg1 RB G1
  have EMP : Hid (ofT ts i pn cn = .ok [] → ∀ w', Gr w w' → GivesLks w (ofT ts i pn cn) (.returned (.tuple #[.slice none 0 0, .int .i64 0])) w') := Lib.hid fun q w' hg => by
    rw [q]; exact ⟨_, [], rfl, rfl, World.ownsRow_nil _ _ _ _, LRows.nil _ _, hg⟩
  cases hz : valP ts[i].props pn with
  | none =>
    have R : Hid (ofT ts i pn cn = .ok []) := Lib.hid (by unfold ofT; rw [NE.out, hz])
    clear hz
    go_wp2_with fail
    refine bodyPost_ret (v := .tuple #[.slice none 0 0, .int .i64 0]) (by simp [results, Try.results12, go_sem]) rfl ?_
    exact EMP.out R.out _ G2.out
  | some v =>
    have lv := LV.out v hz
    by_cases hv0 : v = []
    · subst hv0
      have R : Hid (ofT ts i pn cn = .ok []) := Lib.hid (by unfold ofT; rw [NE.out, hz]; rfl)
      clear hz
      go_wp2_with fail
      refine bodyPost_ret (v := .tuple #[.slice none 0 0, .int .i64 0]) (by simp [results, Try.results12, go_sem]) rfl ?_
      exact EMP.out R.out _ G2.out
    · have R : Hid (ofT ts i pn cn = if cellsOk v then ofF ts i pn cn (cellsL v).length (cellsL v) [] else .error 26) := Lib.hid (by unfold ofT; rw [NE.out, hz]; simp only [hv0, if_false])
      have hve : v.isEmpty = false := by cases v with | nil => exact absurd rfl hv0 | cons => rfl
      clear hz hv0
      go_wp2_with fail
      refine (cells_any v w1 (by omega)).mono ?_
      intro e w2 hgv
      unfold GivesCells at hgv
      by_cases hok : cellsOk v = true
      · rw [if_pos hok] at hgv R
        obtain ⟨x, rfl, ho, hg⟩ := hgv
        have G3 := Lib.hid (G2.out.trans hg)
        have RB3 := Lib.hid (RB2.out.gr hg)
        obtain ⟨xa, xc, rfl, hxc, hsl⟩ := ints_at ho (cells_wide v)
        have hpos : 0 < (cellsL v).length := by
          rw [cellsL_length]; simp [cellsOk] at hok; have : 0 < v.length := List.length_pos_iff.2 hok.1; omega
        obtain ⟨g, o, rfl, hzz⟩ := hsl 0 hpos
        have SL := Lib.hid hsl
        have TY : Hid (Ty w2 g 3) := Lib.hid (owns_ty ho rfl)
        clear hok ho hg hsl hve hzz
        go_wp2_with fail
        have AN : Hid (∀ k n, argsN ts k cn = some n → 0 ≤ n) := Lib.hid fun k n q => (argsN_le q).1
        have LC : Hid ((cellsL v).length ≤ 64) := Lib.hid (by rw [cellsL_length]; omega)
        go_loopw [12, 14] (fun s x wr => ∃ (l : List Int) (g o c : Nat) (ls : List LT), s = .slice (some ⟨g, o, none⟩) l.length c ∧ l.length ≤ c ∧ l.length + ls.length ≤ (cellsL v).length ∧ SlOf 1 RI wr (some ⟨g, o, none⟩) l ∧ ofT ts i pn cn = ofF ts i pn cn l.length l (lks ls) ∧ (∀ z ∈ l, Wide z) ∧ wr.ownsRow w.heap.size 40 5 x ls.length (encLks ls) ∧ LRows wr w.heap.size ls ∧ Ty wr g 3 ∧ Row wr P0 32 [.slice a ts.length cap] ∧ Gr w wr) (fun s _ _ => sliceLen s)
        case atStart => exact ⟨cellsL v, g, o, xc, [], rfl, hxc, by simp, SL.out, R.out, cells_wide v, World.ownsRow_nil _ _ _ _, LRows.nil _ _, TY.out, RB3.out, G3.out⟩
        case round =>
          clear SL TY RB3 G3 hxc hpos RB2 G2
          obtain ⟨l, g, o, c, ls, rfl, hlc, hll, hsl, hof, hwd, ho, hlr, hty, hrb, hg⟩ := hrel
          obtain ⟨va, vc, rfl⟩ := owns_slice ho
          have SL := Lib.hid hsl
          have OF := Lib.hid hof
          have WD := Lib.hid hwd
          have OW := Lib.hid ho
          have LR := Lib.hid hlr
          have TY := Lib.hid hty
          have HRB := Lib.hid hrb
          have HG := Lib.hid hg
          have LS : ls.length ≤ 64 := by have := LC.out; omega
          have l64 : l.length ≤ 64 := by have := LC.out; omega
          have b0 : wr.cell? ⟨P0, 0, none⟩ = some (.slice a ts.length cap) := hrb.cell 0 (by simp)
          have hh := has_of_cell b0
          clear hsl hof hwd ho hlr hty hrb hg
          cases l with
          | nil =>
            have R2 : Hid (ofT ts i pn cn = .ok (lks ls)) := Lib.hid (by rw [OF.out]; rfl)
            go_wp2_with fail
            refine bodyPost_ret (v := .tuple #[.slice va ls.length vc, .int .i64 0]) (by simp [results, Try.results12, go_sem]) rfl ?_
            rw [R2.out]
            exact ⟨_, ls, rfl, rfl, OW.out, LR.out, HG.out⟩
          | cons p l =>
            obtain ⟨g', o', e', d0⟩ := SL.out.one 0 (by simp)
            cases e'
            have d1 := d0.1
            simp only [List.getElem_cons_zero, Nat.add_zero] at d1
            have hh2 := has_of_cell d1
            have kl : (0 : Int) < (l.length : Int) + 1 := by omega
            clear d0
            go_wp2_with fail
            refine wp_region_grows (by kernel_rfl) (by kernel_rfl) ?_
            repeat (go_big_quiet_step (first | (go_at_call 20; exact calls_grows (phandle_any ts a cap p _ (H.out.gr RNod.mono (by repeat (first | with_reducible exact Gr.refl _ | with_reducible exact HG.out | with_reducible refine Gr.xt _ _ ?_ | with_reducible refine Gr.alloc _ ?_))) HC.out))))
            refine wpQuiet_nil ?_
            rintro _ ⟨⟨O, d9⟩, rfl⟩
            have G5 : Hid (Gr wr (xt wr O d9)) := Lib.hid ((Gr.refl _).xt _ _)
            obtain ⟨W5, hW5⟩ : ∃ W : World, Hid (W = xt wr O d9) := ⟨_, Lib.hid rfl⟩
            have hW5' := hW5.out
            rw [← hW5'] at G5 ⊢
            have b5 : W5.cell? ⟨P0, 0, none⟩ = some (.slice a ts.length cap) := (HRB.out.gr G5.out).cell 0 (by simp)
            have HG5 := Lib.hid (HG.out.trans G5.out)
            have SL5 := Lib.hid (SL.out.giI G5.out)
            have OW5 := Lib.hid (Gr.owns OW.out G5.out)
            have LR5 := Lib.hid (LR.out.gr G5.out)
            have TY5 := Lib.hid (TY.out.gr G5.out)
            have HRB5 := Lib.hid (HRB.out.gr G5.out)
            clear b0 hh d1 hh2 hW5' hW5 SL OW LR TY HRB HG G5
            cases hph : phan ts p with
            | none =>
              have R2 : Hid (ofT ts i pn cn = .error 25) := Lib.hid (by rw [OF.out]; simp only [List.length_cons, ofF, hph])
              clear hph
              go_wp2_with fail
              refine bodyPost_ret (v := .tuple #[.slice none 0 0, .int .i64 25]) (by simp [results, Try.results12, go_sem]) rfl ?_
              rw [R2.out]
              exact ⟨rfl, HG5.out⟩
            | some k =>
              have hkl := phan_lt hph
              have OF2 : Hid (ofT ts i pn cn = match argsN ts k cn with | none => .error 26 | some n => if (l.length : Int) < n then .error 26 else ofF ts i pn cn l.length (l.drop n.toNat) (lks ls ++ [⟨i, k, pn, (lks ls).length, l.take n.toNat⟩])) := Lib.hid (by rw [OF.out]; simp only [List.length_cons, ofF, hph]; rfl)
              clear hph OF
              go_wp2_with fail
              refine (arguments_any ts a cap k cn W5 (H.out.gr RNod.mono HG5.out) HC.out hkl).mono ?_
              rintro e w6 ⟨rfl, hg6⟩
              have HG6 := Lib.hid (HG5.out.trans hg6)
              have SL6 := Lib.hid (SL5.out.giI hg6)
              have OW6 := Lib.hid (Gr.owns OW5.out hg6)
              have LR6 := Lib.hid (LR5.out.gr hg6)
              have TY6 := Lib.hid (TY5.out.gr hg6)
              have HRB6 := Lib.hid (HRB5.out.gr hg6)
              clear hg6 b5 HG5 SL5 OW5 LR5 TY5 HRB5
              simp only [List.length_cons] at hlc hll l64 ⊢
              obtain ⟨o1, ho1⟩ : ∃ o1, Hid (o1 = if c = 1 then o else o + 1) := ⟨_, Lib.hid rfl⟩
              have P1 : (if c = 1 then (some ⟨g, o, none⟩ : Option Addr) else some ⟨g, o + 1, none⟩) = some ⟨g, o1, none⟩ := by rw [ho1.out]; split <;> rfl
              have kc : (1 : Int) ≤ (l.length : Int) + 1 := by omega
              have SL7 : Hid (SlOf 1 RI w6 (some ⟨g, o1, none⟩) l) := Lib.hid (by
                intro j hj
                have hc1 : c ≠ 1 := by omega
                obtain ⟨g2, o2, e2, h2⟩ := SL6.out.one (j + 1) (by simp; omega)
                cases e2
                refine ⟨g, o + 1, by rw [ho1.out, if_neg hc1], ?_⟩
                rw [Nat.mul_one, show o + 1 + j = o + (j + 1) by omega]
                simpa using h2)
              cases han : argsN ts k cn with
              | none =>
                rw [han] at OF2
                clear han
                unfold argV
                go_wp2_with fail
                refine bodyPost_ret (v := .tuple #[.slice none 0 0, .int .i64 26]) (by simp [results, Try.results12, go_sem]) rfl ?_
                rw [OF2.out]
                exact ⟨rfl, HG6.out⟩
              | some n =>
                obtain ⟨n0, n8⟩ := argsN_le han
                rw [han] at OF2
                clear han
                obtain ⟨q, rfl⟩ : ∃ q : Nat, n = q := ⟨n.toNat, by omega⟩
                unfold argV
                by_cases hlq : l.length < q
                · have kq : decide (l.length < q) = true := by simp; omega
                  have R3 : Hid (ofT ts i pn cn = .error 26) := Lib.hid (by rw [OF2.out]; simp only; rw [if_pos (by omega)])
                  clear hlq
                  go_wp2_with fail
                  refine bodyPost_ret (v := .tuple #[.slice none 0 0, .int .i64 26]) (by simp [results, Try.results12, go_sem]) rfl ?_
                  rw [R3.out]
                  exact ⟨rfl, HG6.out⟩
                · have kq : decide (l.length < q) = false := by simp; omega
                  have kq2 : (q : Int) ≤ ((c - 1 : Nat) : Int) := by omega
                  go_wp2_with fail
                  refine (Try.slices_Clone_int g o1 q _ l w6 (by omega) (by omega) (fun j hj => ?_)).mono ?_
                  · obtain ⟨g2, o2, e2, h2⟩ := SL7.out.one j hj
                    cases e2
                    rw [h2.1, List.getD_eq_getElem?_getD, List.getElem?_eq_getElem hj]; rfl
                  rintro e w7 ⟨vv, rfl, hov, _, hbl⟩
                  have g7 : Gr w6 w7 := Gr.of_below hbl
                  have hlt : (l.take q).length = q := by rw [List.length_take]; omega
                  have hov2 : w7.ownsRow w6.heap.size 3 1 vv (l.take q).length (nums (l.take q)) := by rw [hlt]; exact hov
                  obtain ⟨xa, xd, rfl, hxd, hsx⟩ := ints_at hov2 (fun z hz => WD.out z (List.mem_cons_of_mem _ (List.mem_of_mem_take hz)))
                  rw [hlt] at hxd
                  have HG7 := Lib.hid (HG6.out.trans g7)
                  have OW7 := Lib.hid (Gr.owns OW6.out g7)
                  have LR7 := Lib.hid ((LR6.out.gr g7).snoc (t := ⟨⟨i, k, pn, (lks ls).length, l.take q⟩, xa, xd⟩) ⟨owns_low hov2 HG6.out.size, fun z hz => WD.out z (List.mem_cons_of_mem _ (List.mem_of_mem_take hz)), by rw [hlt]; omega⟩)
                  have TY7 := Lib.hid (TY6.out.gr g7)
                  have HRB7 := Lib.hid (HRB6.out.gr g7)
                  have SL8 := Lib.hid (SL7.out.giI g7)
                  have LT := Lib.hid hlt
                  have EK : Hid (encLk ⟨⟨i, k, pn, (lks ls).length, l.take q⟩, xa, xd⟩ = [.int .i64 i, .int .i64 k, .string (bs pn), .int .i64 ls.length, .slice xa q xd]) := Lib.hid (by simp only [encLk, hlt, lks, List.length_map])
                  clear hov hov2 hsx hbl g7 HG6 OW6 LR6 TY6 HRB6 SL6 SL7 hlt
                  rw [LT.out]
                  obtain ⟨o2, ho2⟩ : ∃ o2, Hid (o2 = if c - 1 = q then o1 else o1 + q) := ⟨_, Lib.hid rfl⟩
                  have P2 : (if c - 1 = q then (some ⟨g, o1, none⟩ : Option Addr) else some ⟨g, o1 + q, none⟩) = some ⟨g, o2, none⟩ := by rw [ho2.out]; split <;> rfl
                  have kq3 : (q : Int) ≤ (l.length : Int) := by omega
                  have SL9 : Hid (SlOf 1 RI w7 (some ⟨g, o2, none⟩) (l.drop q)) := Lib.hid (by
                    intro j hj
                    rw [List.length_drop] at hj
                    have hc1 : c - 1 ≠ q := by omega
                    obtain ⟨g2, o3, e2, h2⟩ := SL8.out.one (q + j) (by omega)
                    cases e2
                    refine ⟨g, o1 + q, by rw [ho2.out, if_neg hc1], ?_⟩
                    rw [Nat.mul_one, show o1 + q + j = o1 + (q + j) by omega, List.getElem_drop]
                    exact h2)
                  have NR := Lib.hid (row_cells (Row.new w7 #[.int .i64 i, .int .i64 k, .string (bs pn), .int .i64 ls.length, .slice xa q xd] 40))
                  go_wp2_with (at_builtin; refine wpList_append_own _ rfl _ _ 34 rfl w.heap.size 40 j0 (.agg #[.int .i64 0, .int .i64 0, .string (bs []), .int .i64 0, .slice none 0 0]) 5 64 Try.underlying34 hj hy0 hy1 hy2 rfl (by decide) (.slice va ls.length vc) ls.length (encLks ls) rfl (OW7.out.alloc _) ⟨w7.heap.size, 0, none⟩ 1 1 [.int .i64 i, .int .i64 k, .string (bs pn), .int .i64 ls.length, .slice xa q xd] rfl rfl NR.out (by rw [← EK.out]; exact encLk_one _) (by unfold maxLen; omega) (by omega) (by have := HG7.out.size; simp; omega) ?_; intro v' wz hown' hgrow hnil; have HOz := Lib.hid hown'; have HGz := Lib.hid hgrow; clear hown' hgrow hnil)
                  go_roundw
                  case rel =>
                    have ga : Gr w7 (w7.alloc (.cells #[.int .i64 i, .int .i64 k, .string (bs pn), .int .i64 ls.length, .slice xa q xd] 40)) := (Gr.refl w7).alloc _
                    have OA := Gr.owns OW7.out ga
                    have TYA := TY7.out.gr ga
                    have RA := HRB7.out.gr ga
                    have GA := HG7.out.trans ga
                    refine ⟨l.drop q, g, o2, c - 1 - q, ls ++ [⟨⟨i, k, pn, (lks ls).length, l.take q⟩, xa, xd⟩], by rw [List.length_drop], by rw [List.length_drop]; omega, by rw [List.length_drop, List.length_append]; simp only [List.length_cons, List.length_nil]; omega, slI_kept (SL9.out.giI ga) HGz.out (TYA.ne OA (by decide)) TYA.lt, ?_, fun z hz => WD.out z (List.mem_cons_of_mem _ (List.mem_of_mem_drop hz)), ?_, (LR7.out.gr ga).kept OA (by decide) HGz.out, TYA.kept HGz.out (TYA.ne OA (by decide)), RA.kept HGz.out (RA.ty.ne OA (by decide)), GA.grown HGz.out (fun j e => (OA.lt j e).1)⟩
                    · rw [OF2.out]
                      (try simp only)
                      rw [if_neg (by omega), Int.toNat_natCast, ofF_fuel ts i pn cn l.length (l.drop q).length (l.drop q) _ (by rw [List.length_drop]; omega) (Nat.le_refl _) AN.out]
                      simp only [lks, List.map_append, List.map_cons, List.map_nil]
                    · have := HOz.out
                      rw [List.length_append]
                      unfold encLks at this ⊢
                      rw [List.flatMap_append, List.flatMap_cons, List.flatMap_nil, List.append_nil, EK.out]
                      exact this
                  case measure => simp [sliceLen]; omega
      · rw [if_neg hok] at hgv R
        obtain ⟨rfl, hg⟩ := hgv
        have G3 := Lib.hid (G2.out.trans hg)
        clear hg hok
        go_wp2_with fail
        refine bodyPost_ret (v := .tuple #[.slice none 0 0, .int .i64 26]) (by simp [results, Try.results12, go_sem]) rfl ?_
        rw [R.out]
        exact ⟨rfl, G3.out⟩
theorem begin_any (ts : Tr) (a : Option Addr) (cap i : Nat) (w : World) (h : SlOf 3 RNod w a ts) (hc : chkT ts = 0) (hi : i < ts.length) :
    Calls Try.prog 11 #[.agg #[.slice a ts.length cap], .int .i64 i] w (Grows w (.int .i64 0)) := by
  have H := Lib.hid h
  have h120 := (good_of hc).len.2
  have C := Lib.hid hc
  clear h hc
  go_enter Try.func11, Try.ntmps11
  go_wp2_with fail
  have RB := Lib.hid (Row.new w #[.slice a ts.length cap] 32)
  obtain ⟨W1, hW1⟩ : ∃ W : World, Hid (W = w.alloc (.cells #[.slice a ts.length cap] 32)) := ⟨_, Lib.hid rfl⟩
  rw [← hW1.out] at RB ⊢
  have G1 : Hid (Gr w W1) := Lib.hid (by rw [hW1.out]; exact (Gr.refl _).alloc _)
  obtain ⟨P0, hP0⟩ : ∃ N : Nat, Hid (w.heap.size = N) := ⟨_, Lib.hid rfl⟩
  rw [hP0.out] at RB ⊢
  clear hW1 hP0
  refine (treeCheck_any ts a cap W1 (H.out.gr RNod.mono G1.out) (by unfold Fit; omega)).mono ?_
  rintro e w1 ⟨rfl, hg1⟩
  rw [C.out]
  have G2 := Lib.hid (G1.out.trans hg1)
  have b0 : w1.cell? ⟨P0, 0, none⟩ = some (.slice a ts.length cap) := (RB.out.gr hg1).cell 0 (by simp)
  have k2 : decide (ts.length ≤ i) = false := by simp; omega
  clear hg1 RB G1
  go_wp2_with fail
  go_ret
  exact ⟨rfl, G2.out⟩
theorem Of_any (ts : Tr) (a : Option Addr) (cap i : Nat) (pn cn : St) (w : World) (h : SlOf 3 RNod w a ts) (hc : chkT ts = 0) (hi : i < ts.length) :
    Calls Try.prog 7 #[.agg #[.slice a ts.length cap], .int .i64 i, .string (bs pn), .string (bs cn)] w (GivesLks w (ofT ts i pn cn)) := by
  have H := Lib.hid h
  have C := Lib.hid hc
  clear h hc
  go_enter Try.func7, Try.ntmps7
  go_wp2_with fail
  have RB := Lib.hid (Row.new w #[.slice a ts.length cap] 32)
  obtain ⟨W1, hW1⟩ : ∃ W : World, Hid (W = w.alloc (.cells #[.slice a ts.length cap] 32)) := ⟨_, Lib.hid rfl⟩
  rw [← hW1.out] at RB ⊢
  have G1 : Hid (Gr w W1) := Lib.hid (by rw [hW1.out]; exact (Gr.refl _).alloc _)
  obtain ⟨P0, hP0⟩ : ∃ N : Nat, Hid (w.heap.size = N) := ⟨_, Lib.hid rfl⟩
  rw [hP0.out] at RB ⊢
  clear hW1 hP0
  refine (begin_any ts a cap i W1 (H.out.gr RNod.mono G1.out) C.out hi).mono ?_
  rintro e w1 ⟨rfl, hg1⟩
  have G2 := Lib.hid (G1.out.trans hg1)
  have b0 : w1.cell? ⟨P0, 0, none⟩ = some (.slice a ts.length cap) := (RB.out.gr hg1).cell 0 (by simp)
  clear hg1 RB G1
  go_wp2_with fail
  refine (of_any ts a cap i pn cn w1 (H.out.gr RNod.mono G2.out) C.out hi).mono ?_
  intro e w2 hgv
  cases hz : ofT ts i pn cn with
  | error k =>
    rw [hz] at hgv
    have HZ := Lib.hid hz
    obtain ⟨rfl, hg⟩ := hgv
    have G3 := Lib.hid (G2.out.trans hg)
    clear hg hz
    go_wp2_with fail
    refine bodyPost_ret (v := .tuple #[.slice none 0 0, .int .i64 k]) (by simp [results, Try.results7, go_sem]) rfl ?_
    rw [HZ.out]
    exact ⟨rfl, G3.out⟩
  | ok ls =>
    rw [hz] at hgv
    have HZ := Lib.hid hz
    obtain ⟨v, ts', rfl, h1, h2, h3, hg⟩ := hgv
    have G3 := Lib.hid (G2.out.trans hg)
    have H1 := Lib.hid h1
    have H2 := Lib.hid (owns_low h2 G2.out.size)
    have H3 : Hid (LRows w2 w.heap.size ts') := Lib.hid fun t ht => ⟨owns_low (h3 t ht).1 G2.out.size, (h3 t ht).2⟩
    clear hg hz h1 h2 h3
    go_wp2_with fail
    refine bodyPost_ret (v := .tuple #[v, .int .i64 0]) (by simp [results, Try.results7, go_sem]) rfl ?_
    rw [HZ.out]
    exact ⟨v, ts', rfl, H1.out, H2.out, H3.out, G3.out⟩
end Go.Proofs.Ytdjhnfopdlgliaa
