/- Lemmas and contracts for the proof of RetuneAnswers (several texts in one, printed by wip/tools/pack.py): Kp Kq TrA CsP. -/
import Derived.Test.YtenehghpmnajpaaGreatDoorRa8pi
import Derived.Test.YtenehghpmnajpaaGreatDoorRa8pl
import Derived.Test.YtenehghpmnajpaaGreatDoorRa8pk
import Derived.RangeFuncBox
import Derived.Test.YtenehghpmnajpaaGreatDoorRa8pb
import Derived.Deep.LoopGhost
set_option maxRecDepth 100000
set_option maxHeartbeats 16000000

/-! Contract of Plan$1: the first neighbour that is nearer to the end is taken. -/
set_option linter.unusedVariables false
set_option linter.unusedSimpArgs false
namespace Go.Proofs.YtenehghpmnajpaaGreatDoor
open Go.RowKit
open Classical
def encW (p : Int × Int) : List Value := [.int .i64 1, .int .i64 p.1, .int .i64 p.2]
theorem encW_len (ps : List (Int × Int)) : (ps.flatMap encW).length = ps.length * 3 := flat_len encW 3 (fun _ => rfl) ps
def numN (l : List Clk) : Option (List Int) → Int
  | some s => num l s
  | none => -1
abbrev PS := Option (List Int) × List (Int × Int)
noncomputable def pStep (D : List Int → Option Int) (h : List Int) (st : PS) (t : Nbr) : PS := if st.1.isNone = true ∧ dz D t.2.2 = dz D h - 1 then (some t.2.2, st.2 ++ [(t.1, t.2.1)]) else st
theorem pfold_some (D : List Int → Option Int) (h s : List Int) (ws : List (Int × Int)) (ts : List Nbr) : ts.foldl (pStep D h) (some s, ws) = (some s, ws) := by
  induction ts with
  | nil => rfl
  | cons t ts ih =>
    have : pStep D h (some s, ws) t = (some s, ws) := by unfold pStep; rw [if_neg (by simp)]
    rw [List.foldl_cons, this, ih]
theorem pfold (D : List Int → Option Int) (h : List Int) (ws : List (Int × Int)) (ts : List Nbr) : ts.foldl (pStep D h) (none, ws) = match ts.find? (fun t => decide (dz D t.2.2 = dz D h - 1)) with | some t => (some t.2.2, ws ++ [(t.1, t.2.1)]) | none => (none, ws) := by
  induction ts with
  | nil => rfl
  | cons t ts ih =>
    rw [List.foldl_cons, List.find?_cons]
    by_cases e : dz D t.2.2 = dz D h - 1
    · have : pStep D h (none, ws) t = (some t.2.2, ws ++ [(t.1, t.2.1)]) := by unfold pStep; rw [if_pos ⟨rfl, e⟩]
      rw [this, pfold_some, decide_eq_true e]
    · have : pStep D h (none, ws) t = (none, ws) := by unfold pStep; rw [if_neg (fun q => e q.2)]
      rw [this, ih, decide_eq_false e]
structure PSt (l : List Clk) (base BN BL BH BO BM : Nat) (h : List Int) (V : List (List Int × Int)) (st : PS) (w : World) (L : List Nat) : Prop where
  next : Row w BN 3 [.int .i64 (numN l st.1)]
  left : Row w BL 130 [.map (some BM)]
  map : MapI w BM (V.map fun q => (num l q.1, q.2))
  here : Row w BH 3 [.int .i64 (num l h)]
  out : ∃ v, Row w BO 56 [v] ∧ w.ownsRow base 65 3 v st.2.length (st.2.flatMap encW) ∧ ∀ g, v.ownBlock = some g → g ∉ L
  off : BN ∉ L ∧ BL ∉ L ∧ BH ∉ L ∧ BO ∉ L ∧ BM ∉ L
  ok : ∀ q ∈ V, SetOk l q.1 ∧ 0 ≤ q.2 ∧ q.2 < 4096
  nok : ∀ s, st.1 = some s → SetOk l s
  hok : SetOk l h
  len : st.2.length ≤ 5000 ∧ (st.1 = none → st.2.length < 5000)
  low : base ≤ BN ∧ base ≤ BL ∧ base ≤ BH ∧ base ≤ BO ∧ base ≤ BM
  ne : BN ≠ BH
theorem pst_ok (l : List Clk) (base BN BL BH BO BM : Nat) (h : List Int) (V : List (List Int × Int)) : LiesOk (PSt l base BN BL BH BO BM h V) where
  keep := by
    intro st w w' L row q hg hrow
    obtain ⟨v, r1, r2, r3⟩ := q.out
    have hne : ∀ b, b ∉ L → some b ≠ row := fun b hb e => hb (hrow b e.symm)
    refine ⟨q.next.grown hg (hne _ q.off.1), q.left.grown hg (hne _ q.off.2.1), q.map.kept hg (hne _ q.off.2.2.2.2), q.here.grown hg (hne _ q.off.2.2.1), ⟨v, r1.grown hg (hne _ q.off.2.2.2.1), r2.kept hg ?_, r3⟩, q.off, q.ok, q.nok, q.hok, q.len, q.low, q.ne⟩
    cases hv : v.ownBlock with
    | none => exact .inl rfl
    | some g => exact .inr (hne _ (r3 g hv))
  sub := by
    intro st w L L' q hs
    obtain ⟨v, r1, r2, r3⟩ := q.out
    exact ⟨q.next, q.left, q.map, q.here, ⟨v, r1, r2, fun g hg hm => r3 g hg (hs g hm)⟩, ⟨fun m => q.off.1 (hs _ m), fun m => q.off.2.1 (hs _ m), fun m => q.off.2.2.1 (hs _ m), fun m => q.off.2.2.2.1 (hs _ m), fun m => q.off.2.2.2.2 (hs _ m)⟩, q.ok, q.nok, q.hok, q.len, q.low, q.ne⟩
theorem infoW : (Tryz.prog.info? 65).map (fun i => (i.zero, i.size, i.bytes)) = some (some (.agg #[.int .i64 0, .int .i64 0, .int .i64 0]), 3, 24) := by kernel_rfl
theorem plan1_any (l : List Clk) (cal : List Int → Bool) (BN BL BH BO BM : Nat) (h : List Int) (V : List (List Int × Int)) (w0 : World) (hc : cchk l = 0) (hset : SetOk l h) :
    VisitP (PSt l w0.heap.size BN BL BH BO BM h V) (pStep (look V) h) l cal h BN BL BH BO w0 := by
  intro t st w L ht hg hst hL
  obtain ⟨nx, ws⟩ := st
  have hto := (nb_ok ht hset).1
  have hwt := wide_num hc hto
  have hwh := wide_num hc hset
  obtain ⟨w1, hw1⟩ : ∃ w1 : World, Hid (w1 = w.alloc (.cells #[.int .i64 1, .int .i64 t.1, .int .i64 t.2.1] 65)) := ⟨_, Lib.hid rfl⟩
  have G1 : Hid (Gr w w1) := Lib.hid (by rw [hw1.out]; exact (Gr.refl _).alloc _)
  have pk := pst_ok l w0.heap.size BN BL BH BO BM h V
  have S1 : Hid (PSt l w0.heap.size BN BL BH BO BM h V (nx, ws) w1 L) := Lib.hid (pk.keep _ _ _ _ none hst (G1.out.by none) (fun b e => by cases e))
  have LK1 := run_look_int S1.out.map hwt
  have LK2 := run_look_int S1.out.map hwh
  rw [look_num (fun q hq => (hst.ok q hq).1) hto] at LK1
  rw [look_num (fun q hq => (hst.ok q hq).1) hset] at LK2
  have b1 : 0 ≤ dz (look V) t.2.2 ∧ dz (look V) t.2.2 < 4096 := by
    unfold dz
    cases e : look V t.2.2 with
    | none => simp
    | some x => have := (hst.ok _ (look_some e)).2; simpa using this
  have b2 : 0 ≤ dz (look V) h ∧ dz (look V) h < 4096 := by
    unfold dz
    cases e : look V h with
    | none => simp
    | some x => have := (hst.ok _ (look_some e)).2; simpa using this
  change (Instr.lookup _ _ _ _).run Tryz.prog w1 = .ok (.int .i64 (dz (look V) t.2.2)) w1 at LK1
  change (Instr.lookup _ _ _ _).run Tryz.prog w1 = .ok (.int .i64 (dz (look V) h)) w1 at LK2
  have n0 := hst.next.cell 0 (by simp)
  have l0 := hst.left.cell 0 (by simp)
  have h0 := hst.here.cell 0 (by simp)
  have nh := hst.next.has
  have lh := hst.left.has
  have hh := hst.here.has
  have nf := hst.next.free 0
  simp only [List.getElem_cons_zero] at n0 l0 h0
  have HG := Lib.hid hg
  have HLs := Lib.hid hL
  have TO := Lib.hid hto
  have HS := Lib.hid hst
  have HC := Lib.hid hc
  rw [hw1.out] at LK1 LK2
  obtain ⟨x, ex⟩ : ∃ x, dz (look V) t.2.2 = x := ⟨_, rfl⟩
  obtain ⟨y, ey⟩ : ∃ y, dz (look V) h = y := ⟨_, rfl⟩
  rw [ex] at LK1 b1
  rw [ey] at LK2 b2
  have EX := Lib.hid ex
  have EY := Lib.hid ey
  obtain ⟨m, hm⟩ : ∃ m, num l h = m := ⟨_, rfl⟩
  rw [hm] at LK2 h0
  obtain ⟨n, hn⟩ : ∃ n, num l t.2.2 = n := ⟨_, rfl⟩
  have HN := Lib.hid hn
  have HM := Lib.hid hm
  rw [hn] at LK1 ⊢
  clear hst hto hwt hwh hL hg ex ey hm hn pk hc
  cases nx with
  | some s =>
    have hs0 := num_small HC.out (HS.out.nok s rfl)
    simp only [numN] at n0
    obtain ⟨k, hk⟩ : ∃ k, num l s = k := ⟨_, rfl⟩
    rw [hk] at n0 hs0
    have hA : pStep (look V) h (some s, ws) t = (some s, ws) := by unfold pStep; rw [if_neg (by simp)]
    have HA := Lib.hid hA
    clear hA hk
    go_enter Tryz.func83, Tryz.ntmps83
    go_wp2_with fail
    go_end0
    rw [← hw1.out]
    exact ⟨rfl, by rw [HA.out]; exact S1.out, HG.out.trans G1.out, fun b hb => G1.out.below.block b (HLs.out b hb), G1.out.size⟩
  | none =>
    simp only [numN] at n0
    by_cases hxy : x = y - 1
    · have hA : pStep (look V) h (none, ws) t = (some t.2.2, ws ++ [(t.1, t.2.1)]) := by unfold pStep; rw [if_pos ⟨rfl, by rw [EX.out, EY.out]; exact hxy⟩]
      have HA := Lib.hid hA
      have bb : (x == y - 1) = true := by simp [hxy]
      clear hA hxy
      obtain ⟨v, r1, r2, r3⟩ := HS.out.out
      obtain ⟨a, c, rfl⟩ := owns_slice r2
      obtain ⟨j0, hj, hy0, hy1, hy2⟩ := info_parts infoW
      have nNO : BN ≠ BO := HS.out.next.s.apart r1.s (by decide)
      have nNL : BN ≠ BL := HS.out.next.s.apart HS.out.left.s (by decide)
      have nNM : BM ≠ BN := HS.out.map.ne_row HS.out.next
      have nMO : BM ≠ BO := HS.out.map.ne_row r1
      have nLO : BL ≠ BO := HS.out.left.s.apart r1.s (by decide)
      have nHO : BH ≠ BO := HS.out.here.s.apart r1.s (by decide)
      have oth : ∀ g, (Value.slice a ws.length c).ownBlock = some g → g ≠ BN ∧ g ≠ BL ∧ g ≠ BH ∧ g ≠ BO ∧ g ≠ BM := fun g hg => by
        have e1 := owns_apart r2 HS.out.next.s (by decide)
        have e2 := owns_apart r2 HS.out.left.s (by decide)
        have e3 := owns_apart r2 HS.out.here.s (by decide)
        have e4 := owns_apart r2 r1.s (by decide)
        rw [hg] at e1 e2 e3 e4
        refine ⟨fun e => e1 (by rw [e]), fun e => e2 (by rw [e]), fun e => e3 (by rw [e]), fun e => e4 (by rw [e]), fun e => ?_⟩
        subst e
        obtain ⟨_, ⟨e, _⟩ | ⟨g', cap, cur, e, _, hg', _⟩⟩ := r2
        · rw [e] at hg; cases hg
        · have : g' = g := by rw [e] at hg; simpa [Value.ownBlock] using hg
          subst this
          obtain ⟨D, ⟨es, clock, h0, _⟩, _⟩ := HS.out.map
          rw [h0] at hg'; cases hg'
      have OT := Lib.hid oth
      have RL := Lib.hid r3
      have bo := Lib.hid r1.has
      obtain ⟨W2, hW2⟩ : ∃ W2 : World, Hid (W2 = (w.setCell ⟨BN, 0, none⟩ (.int .i64 n)).alloc (.cells #[.int .i64 1, .int .i64 t.1, .int .i64 t.2.1] 65)) := ⟨_, Lib.hid rfl⟩
      have z2 : Hid (W2.heap.size = w.heap.size + 1) := Lib.hid (by rw [hW2.out]; simp [size_set])
      have g12 : Hid (w.grownBy W2 (some BN)) := Lib.hid (by rw [hW2.out]; exact (grownBy_set w BN 0 _).trans (World.grownBy_alloc _ _ _))
      have R2 : Hid (Row W2 BO 56 [.slice a ws.length c]) := Lib.hid (r1.grown g12.out (fun e => nNO (Option.some.inj e).symm))
      have O2 : Hid (W2.ownsRow w0.heap.size 65 3 (.slice a ws.length c) ws.length (ws.flatMap encW)) := Lib.hid (r2.kept g12.out (by
        cases hv : (Value.slice a ws.length c).ownBlock with
        | none => exact .inl rfl
        | some g => exact .inr (fun e => (oth g hv).1 (Option.some.inj e))))
      have N2 : Hid (Row W2 BN 3 [.int .i64 n]) := Lib.hid (by rw [hW2.out]; exact (HS.out.next.set 0 _).alloc _)
      obtain ⟨W3, hW3⟩ : ∃ W3 : World, Hid (W3 = W2.alloc (.cells #[.int .i64 1, .int .i64 t.1, .int .i64 t.2.1] 65)) := ⟨_, Lib.hid rfl⟩
      have g23 : Hid (Gr W2 W3) := Lib.hid (by rw [hW3.out]; exact (Gr.refl _).alloc _)
      have z3 : Hid (W3.heap.size = w.heap.size + 2) := Lib.hid (by rw [hW3.out]; simp; have := z2.out; omega)
      have C3 : Hid (∀ j u, (encW (t.1, t.2.1))[j]? = some u → W3.cell? ((⟨w.heap.size + 1, 0, none⟩ : Addr).add j) = some u) := Lib.hid (by
        rw [hW3.out]
        exact row_cells (row_new' W2 _ _ _ z2.out.symm))
      have O3 := Lib.hid (Gr.owns O2.out g23.out)
      have R3 := Lib.hid (R2.out.gr g23.out)
      have one : Hid (∀ u ∈ encW (t.1, t.2.1), u.oneCell' = true) := Lib.hid (by
        intro u hu
        simp only [encW, List.mem_cons, List.not_mem_nil, or_false] at hu
        rcases hu with rfl | rfl | rfl <;> rfl)
      have LEN := Lib.hid (HS.out.len.2 rfl)
      have base : Hid (w0.heap.size ≤ W3.heap.size) := Lib.hid (by have := z3.out; have := HG.out.size; omega)
      have NE := Lib.hid (show BN ≠ BO ∧ BN ≠ BL ∧ BM ≠ BN ∧ BM ≠ BO ∧ BL ≠ BO ∧ BH ≠ BO from ⟨nNO, nNL, nNM, nMO, nLO, nHO⟩)
      have o0 := r1.cell 0 (by simp)
      have oh := r1.has
      simp only [List.getElem_cons_zero] at o0
      rw [hW3.out, hW2.out] at O3 C3 base
      have o2 : (w.setCell ⟨BN, 0, none⟩ (.int .i64 n)).cell? ⟨BO, 0, none⟩ = some (.slice a ws.length c) := by
        have := (r1.oth (b := BN) (o := 0) (v := .int .i64 n) nNO).cell 0 (by simp)
        simpa using this
      have n1 : ¬ (BO = BN) := fun e => nNO e.symm
      have n2 : ¬ (BN = BO) := nNO
      clear r1 r2 r3 nNO nNL nNM nMO nLO nHO oth
      go_enter Tryz.func83, Tryz.ntmps83
      go_wp2_with (first
        | (at_builtin; refine wpList_append_own_at _ rfl _ _ 56 rfl w0.heap.size 65 j0 (.agg #[.int .i64 0, .int .i64 0, .int .i64 0]) 3 24 Tryz.underlying56 hj hy0 hy1 hy2 rfl (by decide) (.slice a ws.length c) ws.length (ws.flatMap encW) rfl O3.out ⟨w.heap.size + 1, 0, none⟩ 1 1 (encW (t.1, t.2.1)) rfl rfl C3.out one.out (by have := LEN.out; unfold maxLen; simp only at this; omega) (by have := LEN.out; simp only at this; omega) base.out ?_; intro v' W4 hown hgrow hnil hloc; obtain ⟨a', c', rfl⟩ := owns_slice hown; rw [← hW2.out, ← hW3.out] at hgrow hloc; have R4 := Lib.hid (R3.out.grown hgrow (fun e => (OT.out BO e.symm).2.2.2.1 rfl)); have q4 := R4.out.cell 0 (by simp); have f4 := R4.out.free 0; have h4 := R4.out.has; simp only [List.getElem_cons_zero] at q4; have OW4 := Lib.hid hown; have G4 := Lib.hid hgrow; have LO4 := Lib.hid hloc; clear hown hgrow hloc hnil)
        | fail)
      go_end0
      obtain ⟨nv, hnv⟩ : ∃ nv, nv = Value.slice a' (ws.length + 1) c' := ⟨_, rfl⟩
      rw [← hnv] at OW4 LO4 ⊢
      obtain ⟨ov, hov⟩ : ∃ ov, ov = Value.slice a ws.length c := ⟨_, rfl⟩
      rw [← hov] at OT RL G4 LO4
      have hbo := bo.out
      unfold Has at hbo
      have z3' := z3.out
      have notown : ∀ b, (∀ g, ov.ownBlock = some g → g ≠ b) → some b ≠ ov.ownBlock := fun b h e => h b e.symm rfl
      have kept4 : ∀ {B T : Nat} {vs : List Value}, Row w B T vs → B ≠ BN → (∀ g, ov.ownBlock = some g → g ≠ B) → B ≠ BO → Row (W4.setCell ⟨BO, 0, none⟩ nv) B T vs := fun r h1 h2 h3 =>
        (((r.grown g12.out (fun e => h1 (Option.some.inj e))).gr g23.out).grown G4.out (notown _ h2)).oth (Ne.symm h3)
      have g4 : Gr w0 W4 := by
        have h3 := (HG.out.grown g12.out (fun k e => by injection e with e; subst e; exact HS.out.low.1)).trans g23.out
        refine h3.grown G4.out (fun k e => ?_)
        have hlt := O2.out.lt
        rw [← hov] at hlt
        exact (hlt k e).1
      refine ⟨rfl, ?_, g4.setc HS.out.low.2.2.2.1, ?_, ?_⟩
      · rw [HA.out]
        refine ⟨?_, kept4 HS.out.left (Ne.symm NE.out.2.1) (fun g hg => (OT.out g hg).2.1) NE.out.2.2.2.2.1, ?_, kept4 HS.out.here (Ne.symm HS.out.ne) (fun g hg => (OT.out g hg).2.2.1) NE.out.2.2.2.2.2, ⟨nv, R4.out.set 0 _, ?_, ?_⟩, HS.out.off, HS.out.ok, ?_, HS.out.hok, ?_, HS.out.low, HS.out.ne⟩
        · have := ((N2.out.gr g23.out).grown G4.out (notown _ (fun g hg => (OT.out g hg).1))).oth (b := BO) (o := 0) (v := nv) (Ne.symm NE.out.1)
          simp only [numN, HN.out]
          exact this
        · exact (((HS.out.map.kept g12.out (fun e => NE.out.2.2.1 (Option.some.inj e))).gr g23.out).kept G4.out (notown _ (fun g hg => (OT.out g hg).2.2.2.2))).kept (grownBy_set W4 BO 0 nv) (fun e => NE.out.2.2.2.1 (Option.some.inj e))
        · have := OW4.out.kept (grownBy_set W4 BO 0 nv) (by
            cases hv : nv.ownBlock with
            | none => exact .inl rfl
            | some g =>
              refine .inr (fun e => ?_)
              have e' : g = BO := Option.some.inj e
              rcases LO4.out with q | q
              · rw [hv] at q; exact (OT.out g q.symm).2.2.2.1 e'
              · rw [hv] at q; have := Option.some.inj q; omega)
          simp only [List.length_append, List.length_cons, List.length_nil, List.flatMap_append, List.flatMap_cons, List.flatMap_nil, List.append_nil, Nat.zero_add]
          exact this
        · intro g hg hm
          rcases LO4.out with q | q
          · rw [hg] at q; exact RL.out g q.symm hm
          · rw [hg] at q; have := Option.some.inj q; have := HLs.out g hm; unfold Has at this; omega
        · intro s hs
          have : t.2.2 = s := Option.some.inj hs
          subst this; exact TO.out
        · have := LEN.out
          simp only [List.length_append, List.length_cons, List.length_nil]
          exact ⟨by omega, fun q => by cases q⟩
      · intro b hb
        have hbl := HLs.out b hb
        unfold Has at hbl
        have zz := z2.out
        have z33 := z3.out
        have g4s := G4.out.size
        rw [(grownBy_set W4 BO 0 nv).block b (by omega) (fun e => HS.out.off.2.2.2.1 (Option.some.inj e ▸ hb)), G4.out.block b (by omega) (fun e => RL.out b e.symm hb), g23.out.below.block b (by omega), g12.out.block b hbl (fun e => HS.out.off.1 (Option.some.inj e ▸ hb))]
      · have := G4.out.size
        simp only [size_set]
        omega
    · have hA : pStep (look V) h (none, ws) t = (none, ws) := by unfold pStep; rw [if_neg (fun q => hxy (by rw [← EX.out, ← EY.out]; exact q.2))]
      have HA := Lib.hid hA
      have bb : (x == y - 1) = false := by simp [hxy]
      clear hA hxy
      go_enter Tryz.func83, Tryz.ntmps83
      go_wp2_with fail
      go_end0
      rw [← hw1.out]
      exact ⟨rfl, by rw [HA.out]; exact S1.out, HG.out.trans G1.out, fun b hb => G1.out.below.block b (HLs.out b hb), G1.out.size⟩
end Go.Proofs.YtenehghpmnajpaaGreatDoor
/-! A statement of Plan by an invariant (printed by wip/tools/pn.py). -/
set_option linter.unusedVariables false
set_option linter.unusedSimpArgs false
namespace Go.Proofs.YtenehghpmnajpaaGreatDoor
open Go.RowKit
open Classical
structure PB (l : List Clk) (ms : List Lmt) (al am : Option Addr) (cl cm BK XP : Nat) (w0 wr w : World) : Prop where
  box : Row w XP 127 [.slice al l.length cl, .slice am ms.length cm, .map (some BK)]
  kn : Kn w BK l (calS l ms)
  gr : Gr w0 w
  size : wr.heap.size ≤ w.heap.size
theorem PB.grow {l : List Clk} {ms : List Lmt} {al am : Option Addr} {cl cm BK XP : Nat} {w0 wr w w' : World} (h : PB l ms al am cl cm BK XP w0 wr w) (hg : Gr w w') : PB l ms al am cl cm BK XP w0 wr w' :=
  ⟨h.box.gr hg, h.kn.gr hg, h.gr.trans hg, Nat.le_trans h.size hg.size⟩
def Dists (l : List Clk) (ms : List Lmt) (t : List Int) (wr w : World) (BM : Nat) (V : List (List Int × Int)) : Prop :=
  wr.heap.size ≤ BM ∧ MapI w BM (V.map fun q => (num l q.1, q.2)) ∧ (∀ q ∈ V, SetOk l q.1 ∧ 0 ≤ q.2 ∧ q.2 < 4096) ∧ DistOk l (calS l ms) t (look V)
theorem Dists.gr {l : List Clk} {ms : List Lmt} {t : List Int} {wr w w' : World} {BM : Nat} {V : List (List Int × Int)} (h : Dists l ms t wr w BM V) (hg : Gr w w') : Dists l ms t wr w' BM V := ⟨h.1, h.2.1.gr hg, h.2.2⟩
def pn4F (w0 wr : World) (l : List Clk) (ms : List Lmt) (t : List Int) (al am at' : Option Addr) (cl cm ct BK XP : Nat) (t12 t30 t31 t32 t33 t34 : Value) (d : Array Bool) (w : World) : Prop :=
  PB l ms al am cl cm BK XP w0 wr w ∧ (d.getD 0 false = true → t30 = .agg #[.slice al l.length cl, .slice am ms.length cm, .map (some BK)]) ∧
  (d.getD 1 false = true → t31 = .agg #[.slice al l.length cl, .slice am ms.length cm, .map (some BK)]) ∧
  (d.getD 2 false = true → t32 = .slice at' l.length ct) ∧
  (d.getD 3 false = true → t33 = .int .i64 (num l t)) ∧
  (d.getD 4 false = true → (d.getD 6 false = false → ∃ BM V, t34 = .map (some BM) ∧ Dists l ms t wr w BM V)) ∧
  (d.getD 5 false = true → (∃ BL, t12 = .pointer (some ⟨BL, 0, none⟩) ∧ wr.heap.size ≤ BL ∧ (d.getD 6 false = false → Row w BL 130 [.map none]))) ∧
  (d.getD 6 false = true → ((d.getD 4 false = true ∧ d.getD 5 false = true) ∧ ∃ BL BM V, t12 = .pointer (some ⟨BL, 0, none⟩) ∧ wr.heap.size ≤ BL ∧ Row w BL 130 [.map (some BM)] ∧ Dists l ms t wr w BM V))
def pn4A (l : List Clk) (at' : Option Addr) (ct XP : Nat) (t12 t30 t31 t32 t33 t34 s0 s1 s3 s4 s5 s6 s7 s8 s9 s11 s13 s14 s15 s16 s17 s18 s19 s20 s21 s22 s23 s24 s25 s26 s27 s28 s29 s35 s36 s37 s38 s39 s40 s41 s42 s43 s44 s45 s46 s47 s48 s49 s50 s51 s52 s53 s54 s55 s56 : Value) : Act := { tmps := #[s0, s1, .slice at' l.length ct, s3, s4, s5, s6, s7, s8, s9, .pointer (some ⟨XP, 0, none⟩), s11, t12, s13, s14, s15, s16, s17, s18, s19, s20, s21, s22, s23, s24, s25, s26, s27, s28, s29, t30, t31, t32, t33, t34, s35, s36, s37, s38, s39, s40, s41, s42, s43, s44, s45, s46, s47, s48, s49, s50, s51, s52, s53, s54, s55, s56], defers := [] }
theorem pn4 {Q : Exit → Act → World → Prop} {w0 wr : World} {l : List Clk} {ms : List Lmt} {t : List Int} {al am at' : Option Addr} {cl cm ct BK XP : Nat}  {s0 s1 s3 s4 s5 s6 s7 s8 s9 s11 s12 s13 s14 s15 s16 s17 s18 s19 s20 s21 s22 s23 s24 s25 s26 s27 s28 s29 s30 s31 s32 s33 s34 s35 s36 s37 s38 s39 s40 s41 s42 s43 s44 s45 s46 s47 s48 s49 s50 s51 s52 s53 s54 s55 s56 : Value} (hp : PB l ms al am cl cm BK XP w0 wr wr) (he : Env w0 l ms al am) (hset : SetOk l t) (hcal : calS l ms t = true) (hst : SlOf 1 RI w0 at' t) (hbk : w0.heap.size ≤ BK) (hsz0 : w0.heap.size ≤ wr.heap.size)
    (h' : ∀ t30 t31 t32 t33 t34 BL BM V wx, PB l ms al am cl cm BK XP w0 wr wx → wr.heap.size ≤ BL → Row wx BL 130 [.map (some BM)] → Dists l ms t wr wx BM V → Q .normal (pn4A l at' ct XP (.pointer (some ⟨BL, 0, none⟩)) t30 t31 t32 t33 t34 s0 s1 s3 s4 s5 s6 s7 s8 s9 s11 s13 s14 s15 s16 s17 s18 s19 s20 s21 s22 s23 s24 s25 s26 s27 s28 s29 s35 s36 s37 s38 s39 s40 s41 s42 s43 s44 s45 s46 s47 s48 s49 s50 s51 s52 s53 s54 s55 s56) wx) :
    (Code.region 4 (regIn 4 Tryz.f30) true).wp Tryz.prog Q { tmps := #[s0, s1, .slice at' l.length ct, s3, s4, s5, s6, s7, s8, s9, .pointer (some ⟨XP, 0, none⟩), s11, s12, s13, s14, s15, s16, s17, s18, s19, s20, s21, s22, s23, s24, s25, s26, s27, s28, s29, s30, s31, s32, s33, s34, s35, s36, s37, s38, s39, s40, s41, s42, s43, s44, s45, s46, s47, s48, s49, s50, s51, s52, s53, s54, s55, s56], defers := [] } wr := by
  have HE := PLift.up he
  have HT := PLift.up hset
  have HC := PLift.up hcal
  have ST := PLift.up hst
  have hxk : XP ≠ BK := by
    obtain ⟨V9, hm9, _⟩ := hp.kn
    exact Ne.symm (hm9.ne_row hp.box)
  clear he hset hcal hst
  simp only [regIn, Tryz.f30, regOps, Option.bind_some, Option.getD_some, Nat.beq, cond_true, cond_false]
  refine wp_region_steps (fun done a w => ∃ t12 t30 t31 t32 t33 t34, a = pn4A l at' ct XP t12 t30 t31 t32 t33 t34 s0 s1 s3 s4 s5 s6 s7 s8 s9 s11 s13 s14 s15 s16 s17 s18 s19 s20 s21 s22 s23 s24 s25 s26 s27 s28 s29 s35 s36 s37 s38 s39 s40 s41 s42 s43 s44 s45 s46 s47 s48 s49 s50 s51 s52 s53 s54 s55 s56 ∧ pn4F w0 wr l ms t al am at' cl cm ct BK XP t12 t30 t31 t32 t33 t34 done w) (by kernel_rfl) (by kernel_rfl) ?_ ⟨?_, ?_, ?_, ?_, ?_, ?_, ?_, trivial⟩ ?_
  · exact ⟨s12, s30, s31, s32, s33, s34, rfl, hp.grow (Gr.refl _).drew, fun q => absurd q (by decide), fun q => absurd q (by decide), fun q => absurd q (by decide), fun q => absurd q (by decide), fun q => absurd q (by decide), fun q => absurd q (by decide), fun q => absurd q (by decide)⟩
  · rintro done a w hsz hnot hdep ⟨t12, t30, t31, t32, t33, t34, rfl, gw, f0, f1, f2, f3, f4, f5, f6⟩ K hK
    have hn : ¬ done.getD 0 false = true := by rw [getD_both hnot]; decide
    have r := gw.box
    have c0 := r.cell 0 (by simp)
    have c1 := r.cell 1 (by simp)
    have c2 := r.cell 2 (by simp)
    have ch := r.has
    simp only [List.getElem_cons_zero, List.getElem_cons_succ] at c0 c1 c2
    clear r
    have HK := PLift.up hK
    clear hK 
    simp only [pn4A]
    go_simp
    have gg : Gr w w := Gr.refl _
    refine HK.down _ _ ⟨_, _, _, _, _, _, rfl, gw, fun _ => rfl, kp f1, kp f2, kp f3, fun q q2 => (let ⟨BM, V, e, h2⟩ := f4 (done_old q (by decide)) (by rw [getD_set_ne false (by decide)] at q2; exact q2); ⟨BM, V, e, h2.gr gg⟩), fun q => (let ⟨BL, e, h1, h2⟩ := f5 (done_old q (by decide)); ⟨BL, e, h1, fun q2 => (h2 (by rw [getD_set_ne false (by decide)] at q2; exact q2)).gr gg⟩), fun q => (let ⟨⟨a1, a2⟩, BL, BM, V, e, h1, h2, h3⟩ := f6 (done_old q (by decide)); ⟨⟨getD_set_true a1, getD_set_true a2⟩, BL, BM, V, e, h1, h2.gr gg, h3.gr gg⟩)⟩
  · rintro done a w hsz hnot hdep ⟨t12, t30, t31, t32, t33, t34, rfl, gw, f0, f1, f2, f3, f4, f5, f6⟩ K hK
    have hn : ¬ done.getD 1 false = true := by rw [getD_both hnot]; decide
    have r := gw.box
    have c0 := r.cell 0 (by simp)
    have c1 := r.cell 1 (by simp)
    have c2 := r.cell 2 (by simp)
    have ch := r.has
    simp only [List.getElem_cons_zero, List.getElem_cons_succ] at c0 c1 c2
    clear r
    have HK := PLift.up hK
    clear hK 
    simp only [pn4A]
    go_simp
    have gg : Gr w w := Gr.refl _
    refine HK.down _ _ ⟨_, _, _, _, _, _, rfl, gw, kp f0, fun _ => rfl, kp f2, kp f3, fun q q2 => (let ⟨BM, V, e, h2⟩ := f4 (done_old q (by decide)) (by rw [getD_set_ne false (by decide)] at q2; exact q2); ⟨BM, V, e, h2.gr gg⟩), fun q => (let ⟨BL, e, h1, h2⟩ := f5 (done_old q (by decide)); ⟨BL, e, h1, fun q2 => (h2 (by rw [getD_set_ne false (by decide)] at q2; exact q2)).gr gg⟩), fun q => (let ⟨⟨a1, a2⟩, BL, BM, V, e, h1, h2, h3⟩ := f6 (done_old q (by decide)); ⟨⟨getD_set_true a1, getD_set_true a2⟩, BL, BM, V, e, h1, h2.gr gg, h3.gr gg⟩)⟩
  · rintro done a w hsz hnot hdep ⟨t12, t30, t31, t32, t33, t34, rfl, gw, f0, f1, f2, f3, f4, f5, f6⟩ K hK
    have hn : ¬ done.getD 2 false = true := by rw [getD_both hnot]; decide
    have HK := PLift.up hK
    clear hK 
    simp only [pn4A]
    go_simp
    have gg : Gr w w := Gr.refl _
    refine HK.down _ _ ⟨_, _, _, _, _, _, rfl, gw, kp f0, kp f1, fun _ => rfl, kp f3, fun q q2 => (let ⟨BM, V, e, h2⟩ := f4 (done_old q (by decide)) (by rw [getD_set_ne false (by decide)] at q2; exact q2); ⟨BM, V, e, h2.gr gg⟩), fun q => (let ⟨BL, e, h1, h2⟩ := f5 (done_old q (by decide)); ⟨BL, e, h1, fun q2 => (h2 (by rw [getD_set_ne false (by decide)] at q2; exact q2)).gr gg⟩), fun q => (let ⟨⟨a1, a2⟩, BL, BM, V, e, h1, h2, h3⟩ := f6 (done_old q (by decide)); ⟨⟨getD_set_true a1, getD_set_true a2⟩, BL, BM, V, e, h1, h2.gr gg, h3.gr gg⟩)⟩
  · rintro done a w hsz hnot hdep ⟨t12, t30, t31, t32, t33, t34, rfl, gw, f0, f1, f2, f3, f4, f5, f6⟩ K hK
    have hn : ¬ done.getD 3 false = true := by rw [getD_both hnot]; decide
    have d1 := hdep 1 (by kernel_rfl)
    have d2 := hdep 2 (by kernel_rfl)
    obtain rfl := f1 d1
    obtain rfl := f2 d2
    have HK := PLift.up hK
    clear hK d1 d2
    simp only [pn4A]
    go_simp
    have NM := number_any l t al at' am cl ct ms.length cm (.map (some BK)) w (clks_gr HE.down.clks gw.gr) (ST.down.giI gw.gr) HE.down.chk HT.down
    rw [HT.down.1] at NM
    refine NM.mono ?_
    rintro e w2 ⟨rfl, hg⟩
    have gg : Gr w w2 := hg
    clear hg
    (try go_simp)
    refine HK.down _ _ ⟨_, _, _, _, _, _, rfl, gw.grow gg, kp f0, kp f1, kp f2, fun _ => rfl, fun q q2 => (let ⟨BM, V, e, h2⟩ := f4 (done_old q (by decide)) (by rw [getD_set_ne false (by decide)] at q2; exact q2); ⟨BM, V, e, h2.gr gg⟩), fun q => (let ⟨BL, e, h1, h2⟩ := f5 (done_old q (by decide)); ⟨BL, e, h1, fun q2 => (h2 (by rw [getD_set_ne false (by decide)] at q2; exact q2)).gr gg⟩), fun q => (let ⟨⟨a1, a2⟩, BL, BM, V, e, h1, h2, h3⟩ := f6 (done_old q (by decide)); ⟨⟨getD_set_true a1, getD_set_true a2⟩, BL, BM, V, e, h1, h2.gr gg, h3.gr gg⟩)⟩
  · rintro done a w hsz hnot hdep ⟨t12, t30, t31, t32, t33, t34, rfl, gw, f0, f1, f2, f3, f4, f5, f6⟩ K hK
    have hn : ¬ done.getD 4 false = true := by rw [getD_both hnot]; decide
    have d0 := hdep 0 (by kernel_rfl)
    have d3 := hdep 3 (by kernel_rfl)
    obtain rfl := f0 d0
    obtain rfl := f3 d3
    have hL : ∃ L0 : List Nat, (∀ b ∈ L0, Has w b) ∧ XP ∈ L0 ∧ BK ∈ L0 ∧ (done.getD 5 false = true → ∀ BL, t12 = .pointer (some ⟨BL, 0, none⟩) → BL ∈ L0) := by
      by_cases q5 : done.getD 5 false = true
      · obtain ⟨BL, e, h1, h2⟩ := f5 q5
        have n6 : done.getD 6 false = false := by
          cases e6 : done.getD 6 false with
          | false => rfl
          | true => exact absurd (f6 e6).1.1 hn
        refine ⟨[XP, BK, BL], ?_, by simp, by simp, fun _ BL' e' => ?_⟩
        · intro b hb
          simp only [List.mem_cons, List.not_mem_nil, or_false] at hb
          rcases hb with rfl | rfl | rfl
          · exact gw.box.has
          · exact gw.kn.has
          · exact (h2 n6).has
        · rw [e] at e'
          cases e'
          simp
      · refine ⟨[XP, BK], ?_, by simp, by simp, fun q => absurd q q5⟩
        intro b hb
        simp only [List.mem_cons, List.not_mem_nil, or_false] at hb
        rcases hb with rfl | rfl
        · exact gw.box.has
        · exact gw.kn.has
    obtain ⟨L0, hL0, hXP, hBK, hBL⟩ := hL
    have RC := PLift.up (reach_any l ms t al am cl cm BK L0 w0 w HE.down gw.gr HT.down HC.down gw.kn hbk hL0 hBK)
    have HBL := PLift.up hBL
    have HXP := PLift.up hXP
    clear hL0 hXP hBK hBL
    have HK := PLift.up hK
    clear hK d0 d3
    simp only [pn4A]
    go_simp
    refine RC.down.mono ?_
    rintro e w2 ⟨BM, V, rfl, r1, r2, r3, r4, r5, r6, r7, r8⟩
    have RR := PLift.up (And.intro r1 (And.intro r2 (And.intro r3 (And.intro r4 (And.intro r5 (And.intro r6 (And.intro r7 r8)))))))
    clear r1 r2 r3 r4 r5 r6 r7 r8 RC
    (try go_simp)
    obtain ⟨r1, r2, r3, r4, r5, r6, r7, r8⟩ := RR.down
    refine HK.down _ _ ⟨_, _, _, _, _, _, rfl, (⟨by have := gw.box; unfold Row at this ⊢; rw [r7 XP HXP.down hxk]; exact this, r6, r5, Nat.le_trans gw.size r8⟩ : PB l ms al am cl cm BK XP w0 wr w2), kp f0, kp f1, kp f2, kp f3, ?_, fun q => (let ⟨BL, e, h1, h2⟩ := f5 (done_old q (by decide)); ⟨BL, e, h1, fun q2 => (by have h3 := h2 (by rw [getD_set_ne false (by decide)] at q2; exact q2); have h4 := HBL.down (done_old q (by decide)) BL e; have h5 : BL ≠ BK := (by obtain ⟨V9, hm9, _⟩ := gw.kn; exact Ne.symm (hm9.ne_row h3)); unfold Row at h3 ⊢; rw [r7 BL h4 h5]; exact h3)⟩), fun q => absurd (f6 (done_old q (by decide))).1.1 hn⟩
    exact fun _ _ => ⟨BM, V, rfl, Nat.le_trans gw.size r1, r2, r3, r4⟩
  · rintro done a w hsz hnot hdep ⟨t12, t30, t31, t32, t33, t34, rfl, gw, f0, f1, f2, f3, f4, f5, f6⟩ K hK
    have hn : ¬ done.getD 5 false = true := by rw [getD_both hnot]; decide
    have HK := PLift.up hK
    clear hK 
    simp only [pn4A]
    go_simp
    have gg : Gr w (w.alloc (.cells #[.map none] 130)) := (Gr.refl _).alloc _
    refine HK.down _ _ ⟨_, _, _, _, _, _, rfl, gw.grow gg, kp f0, kp f1, kp f2, kp f3, fun q q2 => (let ⟨BM, V, e, h2⟩ := f4 (done_old q (by decide)) (by rw [getD_set_ne false (by decide)] at q2; exact q2); ⟨BM, V, e, h2.gr gg⟩), ?_, fun q => absurd (f6 (done_old q (by decide))).1.2 hn⟩
    exact fun _ => ⟨_, rfl, gw.size, fun _ => Row.new w _ _⟩
  · rintro done a w hsz hnot hdep ⟨t12, t30, t31, t32, t33, t34, rfl, gw, f0, f1, f2, f3, f4, f5, f6⟩ K hK
    have hn : ¬ done.getD 6 false = true := by rw [getD_both hnot]; decide
    have d4 := hdep 4 (by kernel_rfl)
    have d5 := hdep 5 (by kernel_rfl)
    have n6 := getD_both hnot
    obtain ⟨BM, V, rfl, h1⟩ := f4 d4 n6
    obtain ⟨BL, rfl, h2, h3⟩ := f5 d5
    have r := h3 n6
    have c0 := r.cell 0 (by simp)
    have cf := r.free 0
    have ch := r.has
    simp only [List.getElem_cons_zero] at c0
    have R := PLift.up r
    have H1 := PLift.up h1
    have nb : BM ≠ BL := h1.2.1.ne_row r
    have NB := PLift.up nb
    have H2 := PLift.up h2
    have NX : PLift (BL ≠ XP) := PLift.up (r.s.apart gw.box.s (by decide))
    clear r h1 h3 nb h2
    have HK := PLift.up hK
    clear hK 
    simp only [pn4A]
    go_simp
    refine HK.down _ _ ⟨_, _, _, _, _, _, rfl, (⟨gw.box.oth NX.down, gw.kn.kept (grownBy_set w BL 0 (.map (some BM))) (by obtain ⟨V9, hm9, _⟩ := gw.kn; exact fun e => (hm9.ne_row R.down) (Option.some.inj e)), gw.gr.setc (Nat.le_trans hsz0 H2.down), by rw [size_set]; exact gw.size⟩ : PB l ms al am cl cm BK XP w0 wr _), kp f0, kp f1, kp f2, kp f3, fun _ q => absurd q (by rw [getD_set_same (by rw [hsz]; decide)]; decide), fun _ => ⟨BL, rfl, H2.down, fun q => absurd q (by rw [getD_set_same (by rw [hsz]; decide)]; decide)⟩, ?_⟩
    exact fun _ => ⟨⟨getD_set_true d4, getD_set_true d5⟩, BL, BM, V, rfl, H2.down, R.down.set 0 _, H1.down.1, H1.down.2.1.kept (grownBy_set w BL 0 (.map (some BM))) (fun e => NB.down (Option.some.inj e)), H1.down.2.2⟩
  · rintro done a w hall ⟨t12, t30, t31, t32, t33, t34, rfl, gw, f0, f1, f2, f3, f4, f5, f6⟩
    obtain ⟨_, BL, BM, V, rfl, h1, h2, h3⟩ := f6 (hall 6 (by decide))
    exact h' _ _ _ _ _ BL BM V w gw h1 h2 h3
end Go.Proofs.YtenehghpmnajpaaGreatDoor
/-! Contract of retune.Plan, where clocks, limits and settings are right. -/
set_option linter.unusedVariables false
set_option linter.unusedSimpArgs false
namespace Go.Proofs.YtenehghpmnajpaaGreatDoor
open Go.RowKit
open Classical
structure PLS (l : List Clk) (ms : List Lmt) (al am : Option Addr) (cl cm BK XP BL BO BM : Nat) (w : World) (V : List (List Int × Int)) (ws : List (Int × Int)) (wr : World) : Prop where
  box : Row wr XP 127 [.slice al l.length cl, .slice am ms.length cm, .map (some BK)]
  left : Row wr BL 130 [.map (some BM)]
  map : MapI wr BM (V.map fun q => (num l q.1, q.2))
  out : ∃ v, Row wr BO 56 [v] ∧ wr.ownsRow w.heap.size 65 3 v ws.length (ws.flatMap encW)
  kn : Kn wr BK l (calS l ms)
  gr : Gr w wr
  low : w.heap.size ≤ XP ∧ w.heap.size ≤ BL ∧ w.heap.size ≤ BO ∧ w.heap.size ≤ BM ∧ w.heap.size ≤ BK
  ne : BM ≠ BK
section
variable {l : List Clk} {ms : List Lmt} {al am : Option Addr} {cl cm BK XP BL BO BM : Nat} {w : World} {V : List (List Int × Int)} {ws : List (Int × Int)} {wr : World}
theorem PLS.grow {w' : World} (h : PLS l ms al am cl cm BK XP BL BO BM w V ws wr) (hg : Gr wr w') : PLS l ms al am cl cm BK XP BL BO BM w V ws w' := by
  obtain ⟨v, r1, r2⟩ := h.out
  exact ⟨h.box.gr hg, h.left.gr hg, h.map.gr hg, ⟨v, r1.gr hg, Gr.owns r2 hg⟩, h.kn.gr hg, h.gr.trans hg, h.low, h.ne⟩
theorem PLS.start {BN BH : Nat} {x : List Int} (h : PLS l ms al am cl cm BK XP BL BO BM w V ws wr) (hn : Row wr BN 3 [.int .i64 (-1)]) (hh : Row wr BH 3 [.int .i64 (num l x)]) (bn : w.heap.size ≤ BN) (bh : w.heap.size ≤ BH) (ne : BN ≠ BH) (hx : SetOk l x) (hV : ∀ q ∈ V, SetOk l q.1 ∧ 0 ≤ q.2 ∧ q.2 < 4096) (hlen : ws.length < 5000) :
    ∀ w1 L, Gr wr w1 → (∀ b ∈ L, b ∈ [XP, BK] ∨ wr.heap.size ≤ b) → PSt l w.heap.size BN BL BH BO BM x V (none, ws) w1 L := by
  intro w1 L hg hb
  obtain ⟨v, r1, r2⟩ := h.out
  have knr : ∀ {C T : Nat} {vs : List Value}, Row wr C T vs → C ≠ BK := fun r => by
    obtain ⟨V', hm, _⟩ := h.kn
    exact Ne.symm (hm.ne_row r)
  have nin : ∀ b, Has wr b → b ≠ XP → b ≠ BK → b ∉ L := fun b hh h1 h2 hm => by
    rcases hb b hm with e | e
    · simp at e; rcases e with e | e
      · exact h1 e
      · exact h2 e
    · unfold Has at hh; omega
  refine ⟨hn.gr hg, h.left.gr hg, h.map.gr hg, hh.gr hg, ⟨v, r1.gr hg, Gr.owns r2 hg, ?_⟩, ⟨nin _ hn.has (hn.s.apart h.box.s (by decide)) (knr hn), nin _ h.left.has (h.left.s.apart h.box.s (by decide)) (knr h.left), nin _ hh.has (hh.s.apart h.box.s (by decide)) (knr hh), nin _ r1.has (r1.s.apart h.box.s (by decide)) (knr r1), nin _ h.map.has (h.map.ne_row h.box) h.ne⟩, hV, (fun s q => by cases q), hx, ⟨by show ws.length ≤ 5000; omega, fun _ => hlen⟩, ⟨bn, h.low.2.1, bh, h.low.2.2.1, h.low.2.2.2.1⟩, ne⟩
  intro g hg'
  refine nin g (r2.lt g hg').2 (fun e => ?_) (fun e => ?_)
  · have := owns_apart r2 h.box.s (by decide)
    rw [hg', e] at this; exact this rfl
  · subst e
    obtain ⟨_, ⟨e, _⟩ | ⟨g', cap, cur, e, _, hgg, _⟩⟩ := r2
    · rw [e] at hg'; cases hg'
    · have : g' = g := by rw [e] at hg'; simpa [Value.ownBlock] using hg'
      subst this
      obtain ⟨V', ⟨D, ⟨es, clock, h0, _⟩, _⟩, _⟩ := h.kn
      rw [h0] at hgg; cases hgg
theorem PLS.next {BN BH : Nat} {x : List Int} {W7 w' : World} {nx : Option (List Int)} {ws' : List (Int × Int)} (h : PLS l ms al am cl cm BK XP BL BO BM w V ws W7) (i1 : PSt l w.heap.size BN BL BH BO BM x V (nx, ws') w' [XP, BK]) (i2 : Gr w w') (i3 : Kn w' BK l (calS l ms)) (i4 : ∀ b ∈ [XP, BK], b ≠ BK → w'.heap[b]? = W7.heap[b]?) :
    PLS l ms al am cl cm BK XP BL BO BM w V ws' w' := by
  obtain ⟨v, r1, r2, _⟩ := i1.out
  have hx : XP ≠ BK := by
    obtain ⟨V', hm, _⟩ := h.kn
    exact Ne.symm (hm.ne_row h.box)
  refine ⟨?_, i1.left, i1.map, ⟨v, r1, r2⟩, i3, i2, h.low, h.ne⟩
  have := h.box
  unfold Row at this ⊢
  rw [i4 XP (by simp) hx]; exact this
end
def GivesPlan (w : World) (l : List Clk) (ms : List Lmt) (f t : List Int) (e : Ending) (w' : World) : Prop :=
  Gr w w' ∧ ((calS l ms f && calS l ms t) = false → e = .returned (.tuple #[.slice none 0 0, .int .i64 7])) ∧
    ((calS l ms f && calS l ms t) = true → ∃ D, DistOk l (calS l ms) t D ∧ (D f = none → e = .returned (.tuple #[.slice none 0 0, .int .i64 9])) ∧
      (∀ d, D f = some d → ∃ v, e = .returned (.tuple #[v, .int .i64 0]) ∧ w'.ownsRow w.heap.size 65 3 v (planS l (calS l ms) D f).length ((planS l (calS l ms) D f).flatMap encW)))
theorem plan_any (l : List Clk) (ms : List Lmt) (f t : List Int) (al am af at' : Option Addr) (cl cm cf ct : Nat) (w : World) (henv : Env w l ms al am) (hf : SetOk l f) (ht : SetOk l t) (sf : SlOf 1 RI w af f) (st : SlOf 1 RI w at' t) :
    Calls Tryz.prog 30 #[.slice al l.length cl, .slice af f.length cf, .slice at' t.length ct, .slice am ms.length cm] w (GivesPlan w l ms f t) := by
  have hnb := small_len (cchk_zero henv.chk).1
  have hfl : f.length = l.length := hf.1
  have htl : t.length = l.length := ht.1
  have BG := begin_any l ms f t al am af at' cl cm cf ct w henv hf ht sf st
  rw [hfl, htl] at BG
  have HE := Lib.hid henv
  have SF := Lib.hid sf
  have ST := Lib.hid st
  have TF := Lib.hid hf
  have TT := Lib.hid ht
  have BG' := Lib.hid BG
  clear BG henv hf ht sf st
  cases hb : (calS l ms f && calS l ms t) with
  | false =>
    go_enter Tryz.func30, Tryz.ntmps30
    go_wp2_with fail
    refine BG'.out.mono ?_
    rintro e w1 ⟨hg, _, h7⟩
    obtain rfl := h7 hb
    have G1 := Lib.hid hg
    have HB := Lib.hid hb
    clear h7 hg hb
    go_wp2_with fail
    go_ret2
    exact ⟨G1.out.alloc _, (fun _ => rfl), (fun q => by rw [HB.out] at q; cases q)⟩
  | true =>
    have HB := Lib.hid hb
    clear hb
    go_enter Tryz.func30, Tryz.ntmps30
    go_wp2_with fail
    refine BG'.out.mono ?_
    rintro e w1 ⟨hg, h0, _⟩
    obtain ⟨BK, rfl, hbk, hmk⟩ := h0 HB.out
    have G1 := Lib.hid hg
    have BKL := Lib.hid hbk
    have MK := Lib.hid hmk
    clear h0 hg hbk hmk BG'
    go_wp2_with fail
    obtain ⟨XP, hXP⟩ : ∃ XP : Nat, Hid (w1.heap.size = XP) := ⟨_, Lib.hid rfl⟩
    rw [hXP.out]
    obtain ⟨W2, hW2⟩ : ∃ W2 : World, Hid (W2 = w1.alloc (.cells #[.slice al l.length cl, .slice am ms.length cm, .map (some BK)] 127)) := ⟨_, Lib.hid rfl⟩
    rw [← hW2.out]
    have G2 : Hid (Gr w W2) := Lib.hid (by rw [hW2.out]; exact G1.out.alloc _)
    have X2 : Hid (Row W2 XP 127 [.slice al l.length cl, .slice am ms.length cm, .map (some BK)]) := Lib.hid (by rw [hW2.out, ← hXP.out]; exact Row.new w1 _ _)
    have K2 : Hid (Kn W2 BK l (calS l ms)) := Lib.hid (by rw [hW2.out]; exact ⟨[], MK.out.gr ((Gr.refl _).alloc _), by simp, by simp⟩)
    have xp : Hid (w.heap.size ≤ XP) := Lib.hid (by have := hXP.out; have := G1.out.size; omega)
    have x0 := X2.out.cell 0 (by simp)
    have x1 := X2.out.cell 1 (by simp)
    have x2 := X2.out.cell 2 (by simp)
    have xh := X2.out.has
    simp only [List.getElem_cons_zero, List.getElem_cons_succ] at x0 x1 x2
    clear hW2 MK hXP
    refine wp_code_eq (c := Code.region 4 (regIn 4 Tryz.f30) true) (by kernel_rfl) (pn4 (w0 := w) (wr := W2) (l := l) (ms := ms) (t := t) (al := al) (am := am) (at' := at') (cl := cl) (cm := cm) (ct := ct) (BK := BK) (XP := XP) ⟨X2.out, K2.out, G2.out, Nat.le_refl _⟩ HE.out TT.out (by have := HB.out; simp at this; exact this.2) ST.out BKL.out G2.out.size ?_)
    intro t30 t31 t32 t33 t34 BL BM V W3 hp hbl hrow hd
    simp only [pn4A]
    have HP := Lib.hid hp
    have LBL := Lib.hid (Nat.le_trans G2.out.size hbl)
    have RBL := Lib.hid hrow
    have DI := Lib.hid hd
    have LBM := Lib.hid (Nat.le_trans G2.out.size hd.1)
    have NF := number_any l f al af am cl cf ms.length cm (.map (some BK)) W3 (clks_gr HE.out.clks hp.gr) (SF.out.giI hp.gr) HE.out.chk TF.out
    rw [hfl] at NF
    have NF' := Lib.hid NF
    have y0 := hp.box.cell 0 (by simp)
    have y1 := hp.box.cell 1 (by simp)
    have y2 := hp.box.cell 2 (by simp)
    have yh := hp.box.has
    simp only [List.getElem_cons_zero, List.getElem_cons_succ] at y0 y1 y2
    clear hp hbl hrow hd NF x0 x1 x2 xh
    go_wp2_with fail
    refine NF'.out.mono ?_
    rintro e W4 ⟨rfl, hg4⟩
    have S4 : Hid (∀ W5, Gr W4 W5 → PLS l ms al am cl cm BK XP BL W5.heap.size BM w V [] (W5.alloc (.cells #[.slice none 0 0] 56))) := Lib.hid (fun W5 h5 => by
      have g : Gr W3 (W5.alloc (.cells #[.slice none 0 0] 56)) := (hg4.trans h5).alloc _
      exact { box := HP.out.box.gr g, left := RBL.out.gr g, map := DI.out.2.1.gr g, out := ⟨.slice none 0 0, Row.new _ _ _, World.ownsRow_nil _ _ _ _⟩, kn := HP.out.kn.gr g, gr := HP.out.gr.trans g, low := ⟨xp.out, LBL.out, by have := (HP.out.gr.trans (hg4.trans h5)).size; omega, LBM.out, BKL.out⟩, ne := by have := DI.out.1; have := K2.out.has; unfold Has at this; omega })
    have hV := DI.out.2.2.1
    have LK := run_look_ok (DI.out.2.1.gr hg4) (wide_num HE.out.chk TF.out)
    rw [look_num (fun q hq => (hV q hq).1) TF.out] at LK
    have y0 := (HP.out.box.gr hg4).cell 0 (by simp)
    have y1 := (HP.out.box.gr hg4).cell 1 (by simp)
    have y2 := (HP.out.box.gr hg4).cell 2 (by simp)
    have yh := (HP.out.box.gr hg4).has
    have l0 := (RBL.out.gr hg4).cell 0 (by simp)
    have lh := (RBL.out.gr hg4).has
    simp only [List.getElem_cons_zero, List.getElem_cons_succ] at y0 y1 y2 l0
    have HV := Lib.hid hV
    obtain ⟨n, hn⟩ : ∃ n, num l f = n := ⟨_, rfl⟩
    have HN := Lib.hid hn
    rw [hn] at LK ⊢
    have G4 := Lib.hid (HP.out.gr.trans hg4)
    have DD := Lib.hid DI.out.2.2.2
    clear hV hn NF' hg4 HP DI
    cases hd : look V f with
    | none =>
      rw [hd] at LK
      simp only [Option.getD_none, Option.isSome_none] at LK
      have HD := Lib.hid hd
      clear hd
      go_wp2_with fail
      go_ret2
      exact ⟨G4.out, (fun q => by rw [HB.out] at q; cases q), (fun _ => ⟨look V, DD.out, (fun _ => rfl), (fun d q => by rw [HD.out] at q; cases q)⟩)⟩
    | some d =>
      rw [hd] at LK
      simp only [Option.getD_some, Option.isSome_some] at LK
      have HD := Lib.hid hd
      have hd0 := (HV.out _ (look_some hd)).2
      obtain ⟨d0, ed⟩ : ∃ d0 : Nat, d = d0 := ⟨_, (Int.toNat_of_nonneg hd0.1).symm⟩
      have HD0 : Hid (d0 < 4096) := Lib.hid (by simp only at hd0; omega)
      have ED := Lib.hid ed
      clear hd hd0 ed
      go_wp2_with fail
      obtain ⟨BO, hBO⟩ : ∃ BO : Nat, Hid (W4.heap.size = BO) := ⟨_, Lib.hid rfl⟩
      have P5 := Lib.hid (S4.out W4 (Gr.refl _))
      rw [hBO.out] at P5 ⊢
      have PL0 : Hid (planB (nbS l (calS l ms)) (dz (look V)) d0 f = planS l (calS l ms) (look V) f) := Lib.hid (by
        have : dz (look V) f = (d0 : Int) := by simp [dz, HD.out, ED.out]
        rw [planS, this, Int.toNat_natCast])
      clear S4 LK y0 y1 y2 yh l0 lh hBO
      go_loopg [13] d0 (fun g at0 wr => ∃ (x : List Int) (ws : List (Int × Int)), at0 = .int .i64 (num l x) ∧ look V x = some (g : Int) ∧ ws.length + g = d0 ∧ Hid (ws ++ planB (nbS l (calS l ms)) (dz (look V)) g x = planS l (calS l ms) (look V) f) ∧ PLS l ms al am cl cm BK XP BL BO BM w V ws wr)
      case atStart => exact ⟨f, [], by rw [HN.out], by rw [HD.out, ED.out], by simp, by rw [List.nil_append]; exact PL0, P5.out⟩
      case round =>
        clear P5 PL0
        obtain ⟨x, ws, rfl, hx, hlen, hpl, hS⟩ := hrel
        have hxs := (HV.out _ (look_some hx)).1
        have LK := run_look_int hS.map (wide_num HE.out.chk hxs)
        rw [look_num (fun q hq => (HV.out q hq).1) hxs, hx] at LK
        simp only [Option.getD_some] at LK
        have HX := Lib.hid hx
        have XS := Lib.hid hxs
        have HS := Lib.hid hS
        have LEN := Lib.hid hlen
        have l0 := hS.left.cell 0 (by simp)
        have lh := hS.left.has
        simp only [List.getElem_cons_zero] at l0
        obtain ⟨m, hm⟩ : ∃ m, num l x = m := ⟨_, rfl⟩
        have HM := Lib.hid hm
        rw [hm] at LK ⊢
        cases gk with
        | zero =>
          obtain ⟨v, r1, r2⟩ := hS.out
          obtain ⟨a, c, rfl⟩ := owns_slice r2
          have o0 := r1.cell 0 (by simp)
          have oh := r1.has
          simp only [List.getElem_cons_zero] at o0
          have R2 := Lib.hid r2
          clear hx hxs hS hlen hm r1 r2
          go_wp2_with fail
          go_ret2
          refine ⟨HS.out.gr, (fun q => by rw [HB.out] at q; cases q), (fun _ => ⟨look V, DD.out, (fun q => by rw [HD.out] at q; cases q), (fun d' q => ?_)⟩)⟩
          have e := hpl.out
          simp only [planB, List.append_nil] at e
          rw [← e]
          exact ⟨_, rfl, R2.out⟩
        | succ g =>
          have g1 : ((g + 1 : Nat) : Int) < 4096 := by have := HD0.out; omega
          have z0 := hS.box.cell 0 (by simp)
          have z1 := hS.box.cell 1 (by simp)
          have z2 := hS.box.cell 2 (by simp)
          have zh := hS.box.has
          simp only [List.getElem_cons_zero, List.getElem_cons_succ] at z0 z1 z2
          clear hx hxs hS hlen hm
          go_wp2_with fail
          obtain ⟨BH, hBH⟩ : ∃ BH : Nat, Hid (wr.heap.size = BH) := ⟨_, Lib.hid rfl⟩
          obtain ⟨BN, hBN⟩ : ∃ BN : Nat, Hid (wr.heap.size + 1 = BN) := ⟨_, Lib.hid rfl⟩
          rw [hBN.out, hBH.out]
          obtain ⟨W6, hW6⟩ : ∃ W6 : World, Hid (W6 = (wr.alloc (.cells #[.int .i64 m] 3)).alloc (.cells #[.int .i64 (-1)] 3)) := ⟨_, Lib.hid rfl⟩
          rw [← hW6.out]
          have g6 : Gr wr W6 := by rw [hW6.out]; exact ((Gr.refl _).alloc _).alloc _
          have H6 : Row W6 BH 3 [.int .i64 (num l x)] := by
            rw [hW6.out, ← hBH.out, HM.out]
            exact (Row.new wr _ _).alloc _
          have N6 : Row W6 BN 3 [.int .i64 (-1)] := by
            rw [hW6.out]
            exact row_new' _ _ _ _ (by rw [← hBN.out]; simp)
          have P6 := HS.out.grow g6
          have wz := HS.out.gr.size
          have ST6 := P6.start (BN := BN) (BH := BH) (x := x) N6 H6 (by have := hBN.out; omega) (by have := hBH.out; omega) (by have := hBN.out; have := hBH.out; omega) XS.out HV.out (by have := LEN.out; have := HD0.out; omega)
          have EC := eachP_any (PSt l w.heap.size BN BL BH BO BM x V) (pStep (look V) x) l ms x al am cl cm BK BN BL BH BO [XP, BK] w W6 (none, ws) HE.out P6.gr XS.out P6.kn BKL.out
            (fun b hb => by
              simp only [List.mem_cons, List.not_mem_nil, or_false] at hb
              rcases hb with e | e
              · subst e; exact P6.box.has
              · subst e; exact P6.kn.has) (by simp) (pst_ok l w.heap.size BN BL BH BO BM x V) ST6 (plan1_any l (calS l ms) BN BL BH BO BM x V w HE.out.chk XS.out)
          obtain ⟨nb, hnb1, hnb2, hnb3⟩ := DD.out.found (x := x) (d := ((g + 1 : Nat) : Int)) HX.out (by omega)
          rw [pfold, hnb1, HM.out] at EC
          simp only at EC
          have EC' := Lib.hid EC
          have P6' := Lib.hid P6
          have NB3 := Lib.hid hnb3
          have NB1 := Lib.hid hnb1
          have HPL := Lib.hid hpl.out
          clear EC P6 ST6 g6 H6 N6 hW6 hBH hBN hnb1 hnb2 hnb3 LK l0 lh z0 z1 z2 zh hpl
          refine EC'.out.mono ?_
          rintro e W7 ⟨rfl, i1, i2, i3, i4, i5⟩
          have n0 := i1.next.cell 0 (by simp)
          have nh := i1.next.has
          simp only [List.getElem_cons_zero, numN] at n0
          have PN := Lib.hid (P6'.out.next i1 i2 i3 i4)
          clear i1 i2 i3 i4 i5 EC' P6'
          go_wp2_with fail
          go_roundg g
          case measure => omega
          case rel =>
            refine ⟨nb.2.2, ws ++ [(nb.1, nb.2.1)], rfl, ?_, ?_, ?_, PN.out⟩
            · rw [NB3.out]; congr 1; omega
            · have := LEN.out; simp; omega
            · refine Lib.hid ?_
              have hz : dz (look V) x = ((g + 1 : Nat) : Int) := by simp [dz, HX.out]
              have e := HPL.out
              simp only [planB] at e
              rw [if_pos (by omega), NB1.out] at e
              rw [← e, List.append_assoc]; rfl
end Go.Proofs.YtenehghpmnajpaaGreatDoor


/-! Lists of writes of clocks in memory; contract of the reference's SameWrites. -/
set_option linter.unusedVariables false
set_option linter.unusedSimpArgs false
namespace Go.Proofs.YtenehghpmnajpaaGreatDoor
open Go.RowKit
open Classical
def RWc (w : World) (b o : Nat) (p : Int × Int) : Prop := RI w b o 1 ∧ RI w b (o + 1) p.1 ∧ RI w b (o + 2) p.2
theorem RWc.mono : Mono RWc := fun _ _ _ _ _ hg ⟨h0, h1, h2⟩ => ⟨RI.mono _ _ _ _ _ hg h0, RI.mono _ _ _ _ _ hg h1, RI.mono _ _ _ _ _ hg h2⟩
def WideW (ps : List (Int × Int)) : Prop := ∀ p ∈ ps, Wide p.1 ∧ Wide p.2
theorem writes_at {w : World} {base : Nat} {v : Value} {ps : List (Int × Int)} (h : w.ownsRow base 65 3 v ps.length (ps.flatMap encW)) (hw : WideW ps) : ∃ a c, v = .slice a ps.length c ∧ ps.length ≤ c ∧ SlOf 3 RWc w a ps := by
  rcases Nat.eq_zero_or_pos ps.length with e | e
  · have : ps = [] := List.eq_nil_of_length_eq_zero e
    subst this
    obtain ⟨a, c, e⟩ := owns_slice h
    exact ⟨a, c, e, Nat.zero_le _, SlOf.nil _ _ _ _⟩
  · obtain ⟨g, cap, e1, h1, _, hc⟩ := owns_cell h e
    refine ⟨_, cap, e1, h1, fun k hk => ⟨g, 0, rfl, ?_⟩⟩
    have hf := fun j (hj : j < 3) => flat_at encW 3 (fun _ => rfl) ps k j hk hj
    have h2 : ∀ j, j < 3 → w.cell? ⟨g, k * 3 + j, none⟩ = (encW ps[k])[j]? := fun j hj => by
      rw [hc (k * 3 + j) (by omega), hf j hj]
    have hwk := hw _ (List.getElem_mem hk)
    rw [Nat.zero_add]
    exact ⟨⟨h2 0 (by omega), by unfold Wide; omega⟩, ⟨h2 1 (by omega), hwk.1⟩, ⟨h2 2 (by omega), hwk.2⟩⟩
theorem neq_write (a b c d e f : Int) (w : World) : (binOp .neq 65 (.agg #[.int .i64 a, .int .i64 b, .int .i64 c]) (.agg #[.int .i64 d, .int .i64 e, .int .i64 f])).run Tryz.prog w = .ok (.bool (!(a == d && b == e && c == f))) w := by
  have hu : Tryz.prog.underlying 65 = some (.struct (Tryz.prog.fieldsOf 65)) := by kernel_rfl
  have hs : Tryz.prog.stoodInHeld 65 = false := by kernel_rfl
  rw [run_neq_struct, run_equalIn_agg w 9999 _ _ _ hu hs]
  cases h1 : (a == d) <;> cases h2 : (b == e) <;> cases h3 : (c == f) <;> simp [go_sem, h1, h2, h3]
theorem sameWrites_any (xs ys : List (Int × Int)) (ax ay : Option Addr) (cx cy : Nat) (w : World) (hx : SlOf 3 RWc w ax xs) (hy : SlOf 3 RWc w ay ys) (fx : Fit xs.length) (fy : Fit ys.length) :
    Calls Tryz.prog 38 #[.slice ax xs.length cx, .slice ay ys.length cy] w fun e w' => e = .returned (.bool (decide (xs = ys))) ∧ Gr w w' := by
  unfold Fit at fx fy
  have HX := Lib.hid hx
  have HY := Lib.hid hy
  have NQ := neq_write
  clear hx hy
  by_cases hl : xs.length = ys.length
  · have hlb : ((xs.length : Int) != (ys.length : Int)) = false := by simp [hl]
    have HL := Lib.hid hl
    clear hl
    go_enter Tryz.func38, Tryz.ntmps38
    go_wp2
    go_loopw [13] (fun i wr => ∃ k : Nat, k ≤ xs.length ∧ i = .int .i64 k ∧ (∀ j (h : j < xs.length) (h' : j < ys.length), j < k → xs[j] = ys[j]) ∧ Gr w wr) (fun i _ => xs.length - (intOf i).toNat)
    case atStart => exact ⟨0, Nat.zero_le _, rfl, fun j _ _ h => absurd h (by omega), Gr.refl _⟩
    case round =>
      obtain ⟨k, hk, rfl, hall, hg⟩ := hrel
      have HA := Lib.hid hall
      have HG := Lib.hid hg
      by_cases hlt : k < xs.length
      · have hlt2 : k < ys.length := by have := HL.out; omega
        obtain ⟨b, o, rfl, ⟨p0, _⟩, ⟨p1, _⟩, ⟨p2, _⟩⟩ := HX.out.gr RWc.mono hg k hlt
        obtain ⟨b', o', rfl, ⟨q0, _⟩, ⟨q1, _⟩, ⟨q2, _⟩⟩ := HY.out.gr RWc.mono hg k hlt2
        have k2 : (k : Int) < xs.length := by omega
        have k3 : (k : Int) < ys.length := by omega
        clear hall hg
        by_cases he : xs[k] = ys[k]
        · have b1 : (xs[k].1 == ys[k].1) = true := by rw [he]; simp
          have b2 : (xs[k].2 == ys[k].2) = true := by rw [he]; simp
          have HE := Lib.hid he
          clear he
          go_wp2_with fail
          go_quiet (fail)
          go_wp2_with fail
          go_roundw
          case rel =>
            refine ⟨k + 1, by omega, by go_num, fun j h1 h2 hj => ?_, by first | exact HG.out | exact HG.out.drewN _⟩
            by_cases e : j = k
            · subst e; exact HE.out
            · exact HA.out j h1 h2 (by omega)
          case measure => simp [intOf]; omega
        · have HE := Lib.hid (show ¬ xs = ys from fun q => he (by subst q; rfl))
          have bb : (xs[k].1 == ys[k].1 && xs[k].2 == ys[k].2) = false := by
            cases h1 : (xs[k].1 == ys[k].1) <;> cases h2 : (xs[k].2 == ys[k].2) <;> simp_all
            exact he (Prod.ext h1 h2)
          clear he
          go_wp2_with fail
          go_quiet (fail)
          go_wp2_with fail
          go_ret
          exact ⟨ret_bool (decide_eq_false HE.out).symm, by first | exact HG.out | exact HG.out.drewN _⟩
      · have HE : Hid (xs = ys) := Lib.hid (eq_all HL.out fun j h1 h2 => HA.out j h1 h2 (by omega))
        go_wp2
        go_ret
        exact ⟨ret_bool (decide_eq_true HE.out).symm, HG.out⟩
  · have hlb : ((xs.length : Int) != (ys.length : Int)) = true := by simp; omega
    go_enter Tryz.func38, Tryz.ntmps38
    go_wp2
    go_ret
    exact ⟨ret_bool (decide_eq_false (fun q => hl (by rw [q]))).symm, Gr.refl _⟩
end Go.Proofs.YtenehghpmnajpaaGreatDoor
/-! Contracts of law18's three and awake. -/
set_option linter.unusedVariables false
set_option linter.unusedSimpArgs false
namespace Go.Proofs.YtenehghpmnajpaaGreatDoor
open Go.RowKit
open Classical
theorem three_any (w : World) : Calls Tryz.prog 78 #[] w fun e w' => ∃ B, e = .returned (.slice (some ⟨B, 0, none⟩) 3 3) ∧ SlOf 5 RClk w' (some ⟨B, 0, none⟩) threeL ∧ Gr w w' := by
  go_enter Tryz.func78, Tryz.ntmps78
  go_wp2_with fail
  obtain ⟨w5, hw5⟩ : ∃ w5 : World, Hid (w5 = ((((w.alloc (.cells #[.int .i64 24] 3)).alloc (.cells #[.int .i64 0] 3)).alloc (.cells #[.int .i64 1, .int .i64 4] 3)).alloc (.cells #[.int .i64 1] 3)).alloc (.cells #[.int .i64 1, .int .i64 4] 3)) := ⟨_, Lib.hid rfl⟩
  rw [← hw5.out]
  have a0 : Row w5 w.heap.size 3 (nums [24]) := by
    rw [hw5.out]; exact ((((row_new' w #[.int .i64 24] 3 _ rfl).alloc _).alloc _).alloc _).alloc _
  have a1 : Row w5 (w.heap.size + 1) 3 (nums [0]) := by
    rw [hw5.out]; exact (((row_new' _ #[.int .i64 0] 3 _ (by simp)).alloc _).alloc _).alloc _
  have a2 : Row w5 (w.heap.size + 1 + 1) 3 (nums [1, 4]) := by
    rw [hw5.out]; exact ((row_new' _ #[.int .i64 1, .int .i64 4] 3 _ (by simp)).alloc _).alloc _
  have a3 : Row w5 (w.heap.size + 1 + 1 + 1) 3 (nums [1]) := by
    rw [hw5.out]; exact (row_new' _ #[.int .i64 1] 3 _ (by simp)).alloc _
  have a4 : Row w5 (w.heap.size + 1 + 1 + 1 + 1) 3 (nums [1, 4]) := by
    rw [hw5.out]; exact row_new' _ #[.int .i64 1, .int .i64 4] 3 _ (by simp)
  have z5 : w5.heap.size = w.heap.size + 1 + 1 + 1 + 1 + 1 := by rw [hw5.out]; simp
  have g5 : Gr w w5 := by rw [hw5.out]; exact (((((Gr.refl w).alloc _).alloc _).alloc _).alloc _).alloc _
  go_ret
  obtain ⟨arr, harr⟩ : ∃ arr, arr = #[Value.int .i64 1, .slice none 0 0, .slice (some ⟨w.heap.size, 0, none⟩) 1 1, .int .i64 0, .int .i64 0, .int .i64 3, .slice (some ⟨w.heap.size + 1, 0, none⟩) 1 1, .slice (some ⟨w.heap.size + 1 + 1, 0, none⟩) 2 2, .int .i64 0, .int .i64 0, .int .i64 2, .slice (some ⟨w.heap.size + 1 + 1 + 1, 0, none⟩) 1 1, .slice (some ⟨w.heap.size + 1 + 1 + 1 + 1, 0, none⟩) 2 2, .int .i64 0, .int .i64 0] := ⟨_, rfl⟩
  rw [← harr]
  have r := row_new' w5 arr 79 _ z5.symm
  have G := (Gr.refl w5).alloc (.cells arr 79)
  obtain ⟨w6, hw6⟩ : ∃ w6 : World, w6 = w5.alloc (.cells arr 79) := ⟨_, rfl⟩
  rw [← hw6] at r G ⊢
  have b0 := a0.gr G
  have b1 := a1.gr G
  have b2 := a2.gr G
  have b3 := a3.gr G
  have b4 := a4.gr G
  have wd : ∀ xs : List Int, (∀ x ∈ xs, 0 ≤ x ∧ x ≤ 100) → ∀ k (hk : k < xs.length), Wide xs[k] := fun xs h k hk => by
    have := h _ (List.getElem_mem hk); unfold Wide; omega
  have c := fun j (hj : j < 15) => r.cell j (by rw [harr]; exact hj)
  refine ⟨_, rfl, ?_, g5.trans G⟩
  subst harr
  intro k hk
  have : k = 0 ∨ k = 1 ∨ k = 2 := by simp [threeL] at hk; omega
  have wi : ∀ x : Int, 0 ≤ x → x ≤ 100 → Wide x := fun x h h' => by unfold Wide; omega
  rcases this with rfl | rfl | rfl
  · refine ⟨_, 0, rfl, ⟨c 0 (by omega), wi _ (by simp [threeL]) (by simp [threeL])⟩, ⟨none, 0, c 1 (by omega), by simp [threeL], by simp [threeL, Fit], SlOf.nil _ _ _ _⟩, ⟨_, 1, c 2 (by omega), by simp [threeL], by simp [threeL, Fit], b0.s.slI (wd _ (by simp))⟩, ⟨c 3 (by omega), wi _ (by simp [threeL]) (by simp [threeL])⟩, ⟨c 4 (by omega), wi _ (by simp [threeL]) (by simp [threeL])⟩⟩
  · refine ⟨_, 0, rfl, ⟨c 5 (by omega), wi _ (by simp [threeL]) (by simp [threeL])⟩, ⟨_, 1, c 6 (by omega), by simp [threeL], by simp [threeL, Fit], b1.s.slI (wd _ (by simp))⟩, ⟨_, 2, c 7 (by omega), by simp [threeL], by simp [threeL, Fit], b2.s.slI (wd _ (by simp))⟩, ⟨c 8 (by omega), wi _ (by simp [threeL]) (by simp [threeL])⟩, ⟨c 9 (by omega), wi _ (by simp [threeL]) (by simp [threeL])⟩⟩
  · refine ⟨_, 0, rfl, ⟨c 10 (by omega), wi _ (by simp [threeL]) (by simp [threeL])⟩, ⟨_, 1, c 11 (by omega), by simp [threeL], by simp [threeL, Fit], b3.s.slI (wd _ (by simp))⟩, ⟨_, 2, c 12 (by omega), by simp [threeL], by simp [threeL, Fit], b4.s.slI (wd _ (by simp))⟩, ⟨c 13 (by omega), wi _ (by simp [threeL]) (by simp [threeL])⟩, ⟨c 14 (by omega), wi _ (by simp [threeL]) (by simp [threeL])⟩⟩
theorem writes_row {w : World} {B : Nat} {ps : List (Int × Int)} (h : Row w B 65 (ps.flatMap encW)) (hw : WideW ps) : SlOf 3 RWc w (some ⟨B, 0, none⟩) ps := fun k hk => by
  have hf := fun j (hj : j < 3) => flat_at encW 3 (fun _ => rfl) ps k j hk hj
  have hl := encW_len ps
  have h2 : ∀ j, j < 3 → w.cell? ⟨B, k * 3 + j, none⟩ = (encW ps[k])[j]? := fun j hj => by
    rw [← hf j hj, h.cell (k * 3 + j) (by rw [hl]; omega)]
    rw [List.getElem?_eq_getElem (by rw [hl]; omega)]
  have hwk := hw _ (List.getElem_mem hk)
  refine ⟨B, 0, rfl, ?_⟩
  rw [Nat.zero_add]
  exact ⟨⟨h2 0 (by omega), by unfold Wide; omega⟩, ⟨h2 1 (by omega), hwk.1⟩, ⟨h2 2 (by omega), hwk.2⟩⟩
theorem awake_any (w : World) (hoff : OffV w) : Calls Tryz.prog 29 #[] w (Grows w (.bool true)) := by
  have HO := Lib.hid hoff
  clear hoff
  go_enter Tryz.func29, Tryz.ntmps29
  go_wp2_with fail
  refine (three_any w).mono ?_
  rintro e w1 ⟨B, rfl, hs, hg⟩
  have S1 := Lib.hid hs
  have G1 := Lib.hid hg
  clear hs hg
  go_wp2_with fail
  obtain ⟨W2, hW2⟩ : ∃ W2 : World, Hid (W2 = ((w1.alloc (.cells #[.int .i64 0, .int .i64 0, .int .i64 0] 3)).alloc (.cells #[.int .i64 0, .int .i64 1, .int .i64 1] 3)).alloc (.cells #[.int .i64 2, .int .i64 0, .int .i64 24] 35)) := ⟨_, Lib.hid rfl⟩
  rw [← hW2.out]
  have g2 : Gr w1 W2 := by rw [hW2.out]; exact (((Gr.refl _).alloc _).alloc _).alloc _
  have rf : Row W2 w1.heap.size 3 (nums [0, 0, 0]) := by rw [hW2.out]; exact ((row_new' w1 #[.int .i64 0, .int .i64 0, .int .i64 0] 3 _ rfl).alloc _).alloc _
  have rt : Row W2 (w1.heap.size + 1) 3 (nums [0, 1, 1]) := by rw [hW2.out]; exact (row_new' _ #[.int .i64 0, .int .i64 1, .int .i64 1] 3 _ (by simp)).alloc _
  have rm : Row W2 (w1.heap.size + 1 + 1) 35 [.int .i64 2, .int .i64 0, .int .i64 24] := by rw [hW2.out]; exact row_new' _ #[.int .i64 2, .int .i64 0, .int .i64 24] 35 _ (by simp)
  have sm : SlOf 3 RLmt W2 (some ⟨w1.heap.size + 1 + 1, 0, none⟩) threeM := fun k hk => by
    have : k = 0 := by simp [threeM] at hk; omega
    subst this
    exact ⟨_, 0, rfl, ⟨rm.cell 0 (by simp), by simp [threeM, Wide]⟩, ⟨rm.cell 1 (by simp), by simp [threeM, Wide]⟩, ⟨rm.cell 2 (by simp), by simp [threeM, Wide]⟩⟩
  have env : Env W2 threeL threeM (some ⟨B, 0, none⟩) (some ⟨w1.heap.size + 1 + 1, 0, none⟩) := ⟨clks_gr S1.out g2, sm, (HO.out.gr G1.out).gr g2, three_chk, three_lims⟩
  have s0 : SetOk threeL [0, 0, 0] := three_set (by omega) (by omega)
  have s1 : SetOk threeL [0, 1, 1] := three_set (by omega) (by omega)
  have PL := plan_any threeL threeM [0, 0, 0] [0, 1, 1] _ _ _ _ 3 1 3 3 W2 env s0 s1 (rf.s.slI (setOk_wide three_chk s0)) (rt.s.slI (setOk_wide three_chk s1))
  have PL' := Lib.hid PL
  have G2 := Lib.hid (G1.out.trans g2)
  clear PL env sm rm rt rf g2 hW2 s0 s1
  refine PL'.out.mono ?_
  rintro e w3 ⟨hg3, _, hr⟩
  obtain ⟨D, hD, _, hsome⟩ := hr (by rw [cal_00, cal_11]; rfl)
  have hdd := (three_dist cal_00 cal_01 cal_10 cal_11 hD).2.2
  obtain ⟨v, rfl, ho⟩ := hsome 2 hdd
  rw [three_plan cal_00 cal_01 cal_10 cal_11 hD] at ho
  have hww : WideW [((2 : Int), (1 : Int)), (1, 1)] := by intro p hp; simp at hp; rcases hp with rfl | rfl <;> simp [Wide]
  obtain ⟨a, c, rfl, _, sl⟩ := writes_at ho hww
  have SL := Lib.hid sl
  have G3 := Lib.hid (G2.out.trans hg3)
  have HW := Lib.hid hww
  clear sl ho hsome hr hdd hD hg3 PL' hww
  go_wp2_with fail
  have gw := (Gr.refl w3).alloc (.cells #[.int .i64 1, .int .i64 2, .int .i64 1, .int .i64 1, .int .i64 1, .int .i64 1] 65)
  have SW := sameWrites_any [((2 : Int), (1 : Int)), (1, 1)] [((2 : Int), (1 : Int)), (1, 1)] a (some ⟨w3.heap.size, 0, none⟩) c 2 _ (SL.out.gr RWc.mono gw) (writes_row (Row.new w3 #[.int .i64 1, .int .i64 2, .int .i64 1, .int .i64 1, .int .i64 1, .int .i64 1] 65) HW.out) (by unfold Fit; simp) (by unfold Fit; simp)
  rw [decide_eq_true rfl] at SW
  refine SW.mono ?_
  rintro e w5 ⟨rfl, hg5⟩
  have G5 := Lib.hid ((G3.out.trans gw).trans hg5)
  clear gw hg5 SW
  go_wp2_with fail
  go_ret
  exact ⟨rfl, G5.out⟩
end Go.Proofs.YtenehghpmnajpaaGreatDoor

set_option linter.unusedVariables false
set_option linter.unusedSimpArgs false
namespace Go.Proofs.YtenehghpmnajpaaGreatDoor
open Go.RowKit
open Classical
noncomputable def dS (l : List Clk) (cal : List Int → Bool) (t : List Int) : List Int → Option Int := look (afterB (nbS l cal) t (prodC l))
theorem dS_ok {l : List Clk} {cal : List Int → Bool} {t : List Int} (hs : SetOk l t) (hc : cal t = true) : DistOk l cal t (dS l cal t) := after_dist hs hc _ (after_len hs hc _)
theorem dS_unique {l : List Clk} {cal : List Int → Bool} {t : List Int} {D : List Int → Option Int} (h : DistOk l cal t D) (hs : SetOk l t) (hc : cal t = true) : D = dS l cal t := h.dist.unique _ (dS_ok hs hc).dist
theorem after_dist_lt {l : List Clk} {cal : List Int → Bool} {src : List Int} (hs : SetOk l src) (hc : cal src = true) : ∀ p, ∀ q ∈ afterB (nbS l cal) src p, q.2 < ((afterB (nbS l cal) src p).length : Int) := by
  intro p
  induction p with
  | zero => intro q hq; have : q = (src, 0) := by simpa [afterB] using hq
            subst this; simp [afterB]
  | succ p ih =>
    simp only [afterB, stepB]
    split
    · exact ih
    · rename_i x hx
      have hx2 := ih x (List.mem_of_getElem? hx)
      have key : ∀ (ts : List Nbr) (V : List (List Int × Int)), x.2 < (V.length : Int) → (∀ q ∈ V, q.2 < (V.length : Int)) → ∀ q ∈ ts.foldl (addB x.2) V, q.2 < ((ts.foldl (addB x.2) V).length : Int) := by
        intro ts
        induction ts with
        | nil => intro V _ h; exact h
        | cons t ts ih2 =>
          intro V hx3 h
          rw [List.foldl_cons]
          by_cases e : (look V t.2.2).isSome
          · have : addB x.2 V t = V := by unfold addB; rw [if_pos e]
            rw [this]; exact ih2 V hx3 h
          · have : addB x.2 V t = V ++ [(t.2.2, x.2 + 1)] := by unfold addB; rw [if_neg e]
            rw [this]
            refine ih2 _ (by simp; omega) (fun q hq => ?_)
            rcases List.mem_append.1 hq with hq | hq
            · have := h q hq; simp; omega
            · have : q = (t.2.2, x.2 + 1) := by simpa using hq
              subst this; simp; omega
      exact key _ _ hx2 ih
def lastN (l : List Clk) (cs : List (List Int)) : Nat → Int
  | 0 => -1
  | k + 1 => num l (cs.getD k [])
def risTo (l : List Clk) (cal : List Int → Bool) (cs : List (List Int)) : Nat → Prop
  | 0 => True
  | k + 1 => risTo l cal cs k ∧ cal (cs.getD k []) = true ∧ lastN l cs k < num l (cs.getD k [])
def ClosedS (l : List Clk) (cal : List Int → Bool) (cs : List (List Int)) : Prop := ∀ s ∈ cs, ∀ q ∈ nbS l cal s, q.2.2 ∈ cs
def ChkC (l : List Clk) (cal : List Int → Bool) (f t : List Int) (cs : List (List Int)) : Prop := risTo l cal cs cs.length ∧ f ∈ cs ∧ t ∉ cs ∧ ClosedS l cal cs
def ListOk (l : List Clk) (cs : List (List Int)) : Prop := ∀ s ∈ cs, SetOk l s
section
variable {l : List Clk} {cal : List Int → Bool} {cs : List (List Int)} {f t : List Int}
theorem risTo.le {k : Nat} : ∀ {j : Nat}, risTo l cal cs j → k ≤ j → risTo l cal cs k := by
  intro j
  induction j with
  | zero => intro h hk; have : k = 0 := by omega
            subst this; trivial
  | succ j ih =>
    intro h hk
    by_cases e : k = j + 1
    · subst e; exact h
    · exact ih h.1 (by omega)
theorem getD_at {k : Nat} (h : k < cs.length) : cs.getD k [] = cs[k] := by simp [List.getD_eq_getElem?_getD, List.getElem?_eq_getElem h]
theorem risTo.below : ∀ {k : Nat}, risTo l cal cs k → ∀ i, i < k → num l (cs.getD i []) ≤ lastN l cs k := by
  intro k
  induction k with
  | zero => intro _ i hi; omega
  | succ k ih =>
    intro h i hi
    by_cases e : i = k
    · subst e; exact Int.le_refl _
    · have := ih h.1 i (by omega)
      have := h.2.2
      show num l (cs.getD i []) ≤ num l (cs.getD k [])
      omega
theorem lastN_bound (hc : cchk l = 0) (ho : ListOk l cs) {k : Nat} (hk : k ≤ cs.length) : -1 ≤ lastN l cs k ∧ lastN l cs k < 4096 := by
  cases k with
  | zero => simp [lastN]
  | succ k =>
    have := num_small hc (ho _ (List.getElem_mem (by omega : k < cs.length)))
    simp only [lastN, getD_at (show k < cs.length by omega)]
    omega
def entV (l : List Clk) (cs : List (List Int)) : List (Int × Bool) := (cs.map fun s => (s, true)).map fun q => (num l q.1, q.2)
theorem entV_len : (entV l cs).length = cs.length := by simp [entV]
theorem look_ent (ho : ListOk l cs) {s : List Int} (hs : SetOk l s) : look (entV l cs) (num l s) = if s ∈ cs then some true else none := by
  unfold entV
  rw [look_num (fun q hq => by obtain ⟨u, hu, rfl⟩ := List.mem_map.1 hq; exact ho u hu) hs]
  split
  · rename_i hm
    cases e : look (cs.map fun s => (s, true)) s with
    | none => exact absurd (by simpa using hm) (look_none.1 e)
    | some x =>
      have := look_some e
      obtain ⟨u, _, hu⟩ := List.mem_map.1 this
      injection hu with _ hx
      rw [← hx]
  · rename_i hm
    exact look_none.2 (by simpa using hm)
theorem look_ent_new {k : Nat} (hk : k < cs.length) (hr : risTo l cal cs k) (hlt : lastN l cs k < num l cs[k]) : look (entV l (cs.take k)) (num l cs[k]) = none := by
  refine look_none.2 (fun hm => ?_)
  obtain ⟨q, hq, e⟩ := List.mem_map.1 hm
  obtain ⟨q', hq', rfl⟩ := List.mem_map.1 hq
  obtain ⟨s, hs, rfl⟩ := List.mem_map.1 hq'
  obtain ⟨i, hi, e2⟩ := List.mem_iff_getElem.1 hs
  simp only [List.length_take] at hi
  rw [List.getElem_take] at e2
  have := hr.below i (by omega)
  rw [getD_at (by omega), e2] at this
  simp only at e
  omega
theorem entV_snoc {k : Nat} (hk : k < cs.length) : entV l (cs.take (k + 1)) = entV l (cs.take k) ++ [(num l cs[k], true)] := by
  unfold entV
  rw [List.take_add_one, List.getElem?_eq_getElem hk, Option.toList, List.map_append, List.map_append]
  rfl
theorem foldl_and {α : Type} (p : α → Bool) (ts : List α) : ∀ b : Bool, ts.foldl (fun b t => b && p t) b = (b && ts.all p) := by
  induction ts with
  | nil => intro b; simp
  | cons t ts ih => intro b; rw [List.foldl_cons, ih, List.all_cons, Bool.and_assoc]
/-! What is reached is a closed set. -/
end
end Go.Proofs.YtenehghpmnajpaaGreatDoor
