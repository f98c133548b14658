/- Lemmas and contracts for the proof of RetuneAnswers (several texts in one, printed by wip/tools/pack.py): Ko. -/
import Derived.Test.YtenehghpmnajpaaGreatDoorRa8pi
import Derived.Test.YtenehghpmnajpaaGreatDoorRa8pk
import Derived.Deep.LoopGhost
set_option maxRecDepth 100000
set_option maxHeartbeats 16000000

/-! Contract of reach$1: a setting that is not known yet comes to the end of the queue. -/
set_option linter.unusedVariables false
set_option linter.unusedSimpArgs false
namespace Go.Proofs.YtenehghpmnajpaaGreatDoor
open Go.RowKit
open Classical
theorem MapV.ne_row {β : Type} {w : World} {E : TypeId} {f : β → Lit} {B : Nat} {V : List (Int × β)} (h : MapV w E f B V) {C T : Nat} {vs : List Value} (r : Row w C T vs) : B ≠ C := by
  obtain ⟨D, ⟨es, clock, h0, _⟩, _⟩ := h
  rintro rfl
  unfold Row at r
  rw [r] at h0; cases h0
structure QSt (l : List Clk) (base BO BM BQ p : Nat) (h : List Int) (d : Int) (V : List (List Int × Int)) (w : World) (L : List Nat) : Prop where
  out : Row w BO 130 [.map (some BM)]
  map : MapI w BM (V.map fun q => (num l q.1, q.2))
  queue : ∃ v, Row w BQ 22 [v] ∧ QAt w base 3 v ((V.drop p).map fun q => .int .i64 (num l q.1)) ∧ ∀ g, v.ownBlock = some g → g ∉ L
  off : BO ∉ L ∧ BM ∉ L ∧ BQ ∉ L
  nodup : (V.map (·.1)).Nodup
  ok : ∀ q ∈ V, SetOk l q.1 ∧ 0 ≤ q.2 ∧ q.2 < V.length
  head : V[p]? = some (h, d)
  low : base ≤ BO ∧ base ≤ BM ∧ base ≤ BQ
theorem QAt.sl {w : World} {base T : Nat} {v : Value} {xs : List Value} (h : QAt w base T v xs) : ∃ g off cap, v = .slice (some ⟨g, off, none⟩) xs.length cap := by
  obtain ⟨g, off, cap, arr, rfl, _⟩ := h
  exact ⟨g, off, cap, rfl⟩
theorem qst_ok (l : List Clk) (base BO BM BQ p : Nat) (h : List Int) (d : Int) : LiesOk (QSt l base BO BM BQ p h d) where
  keep := by
    intro V w w' L row q hg hrow
    obtain ⟨v, r1, r2, r3⟩ := q.queue
    have hne : ∀ b, b ∉ L → some b ≠ row := fun b hb e => hb (hrow b e.symm)
    obtain ⟨g, hv, _⟩ := r2.own
    exact ⟨q.out.grown hg (hne _ q.off.1), q.map.kept hg (hne _ q.off.2.1), ⟨v, r1.grown hg (hne _ q.off.2.2), r2.kept hg (by rw [hv]; exact hne _ (r3 g hv)), r3⟩, q.off, q.nodup, q.ok, q.head, q.low⟩
  sub := by
    intro V w L L' q hs
    obtain ⟨v, r1, r2, r3⟩ := q.queue
    exact ⟨q.out, q.map, ⟨v, r1, r2, fun g hg hm => r3 g hg (hs g hm)⟩, ⟨fun m => q.off.1 (hs _ m), fun m => q.off.2.1 (hs _ m), fun m => q.off.2.2 (hs _ m)⟩, q.nodup, q.ok, q.head, q.low⟩
theorem nodup_snoc {β : Type} {V : List (List Int × β)} {s : List Int} {x : β} (hn : (V.map (·.1)).Nodup) (h : look V s = none) : ((V ++ [(s, x)]).map (·.1)).Nodup := by
  rw [List.map_append, List.nodup_append]
  refine ⟨hn, by simp, ?_⟩
  intro a ha b hb e
  subst e
  have : a = s := by simpa using hb
  subst this
  exact look_none.1 h ha
theorem reach1_any (l : List Clk) (cal : List Int → Bool) (BO BM BQ p : Nat) (h : List Int) (d : Int) (w0 : World) (hc : cchk l = 0) (hset : SetOk l h) :
    VisitR (QSt l w0.heap.size BO BM BQ p h d) (addB d) l cal h BO BQ w0 := by
  intro t V w L ht hg hst hL
  have hto := (nb_ok ht hset).1
  obtain ⟨v, r1, r2, r3⟩ := hst.queue
  have hVl := nodup_len hst.nodup (fun q hq => (hst.ok q hq).1)
  have hpr := (cchk_zero hc).2.2.1
  have hwt := wide_num hc hto
  obtain ⟨w1, hw1⟩ : ∃ w1 : World, Hid (w1 = w.alloc (.cells #[.int .i64 1, .int .i64 t.1, .int .i64 t.2.1] 65)) := ⟨_, Lib.hid rfl⟩
  have G1 : Hid (Gr w w1) := Lib.hid (by rw [hw1.out]; exact (Gr.refl _).alloc _)
  have S1 : Hid (QSt l w0.heap.size BO BM BQ p h d V w1 L) := Lib.hid ((qst_ok l w0.heap.size BO BM BQ p h d).keep _ _ _ _ none hst (G1.out.by none) (fun b e => by cases e))
  have LK := run_look_ok S1.out.map hwt
  rw [look_num (fun q hq => (hst.ok q hq).1) hto] at LK
  have o0 := hst.out.cell 0 (by simp)
  simp only [List.getElem_cons_zero] at o0
  have oh := hst.out.has
  have HG := Lib.hid hg
  have HLs := Lib.hid hL
  have TO := Lib.hid hto
  have HS := Lib.hid hst
  rw [hw1.out] at LK
  clear hst hto hwt hL hg r1 r2 r3 v
  cases hl : look V t.2.2 with
  | some x =>
    rw [hl] at LK
    simp only [Option.getD_some, Option.isSome_some] at LK
    have HA : Hid (addB d V t = V) := Lib.hid (by unfold addB; rw [hl]; rfl)
    clear hl
    obtain ⟨n, hn⟩ : ∃ n, num l t.2.2 = n := ⟨_, rfl⟩
    rw [hn] at LK ⊢
    go_enter Tryz.func119, Tryz.ntmps119
    go_wp2_with fail
    go_end0
    rw [← hw1.out]
    exact ⟨rfl, by rw [HA.out]; exact S1.out, HG.out.trans G1.out, fun b hb => G1.out.below.block b (HLs.out b hb), G1.out.size⟩
  | none =>
    rw [hl] at LK
    simp only [Option.getD_none, Option.isSome_none] at LK
    have HA : Hid (addB d V t = V ++ [(t.2.2, d + 1)]) := Lib.hid (by unfold addB; rw [hl]; rfl)
    have HLK := Lib.hid hl
    have HD : Hid (0 ≤ d ∧ d < 4096) := Lib.hid (by
      have := (HS.out.ok _ (List.mem_of_getElem? HS.out.head)).2
      simp only at this
      omega)
    have HH : Hid (look V h = some d) := Lib.hid (look_mem HS.out.nodup (List.mem_of_getElem? HS.out.head))
    clear hl
    obtain ⟨n, hn⟩ : ∃ n, num l t.2.2 = n := ⟨_, rfl⟩
    have HN := Lib.hid hn
    rw [hn] at LK ⊢
    clear hn
    go_enter Tryz.func119, Tryz.ntmps119
    go_wp2_with fail
    rw [← hw1.out]
    clear LK o0 oh
    have o0 := S1.out.out.cell 0 (by simp)
    have oh := S1.out.out.has
    obtain ⟨v, r1, r2, r3⟩ := S1.out.queue
    have q0 := r1.cell 0 (by simp)
    have qh := r1.has
    simp only [List.getElem_cons_zero] at o0 q0
    have hdrop : V.drop p = (h, d) :: V.drop (p + 1) := by
      have := S1.out.head
      obtain ⟨hp, e⟩ := List.getElem?_eq_some_iff.1 this
      rw [List.drop_eq_getElem_cons hp, e]
    have r2' := r2
    rw [hdrop, List.map_cons] at r2'
    obtain ⟨g, off, cap, rfl, hh, hcap, hcm, hbg, _⟩ := r2'.head
    have hwh := wide_num hc hset
    have LKX : ∀ (O : Array Obj) (dd : Nat), (Instr.lookup 130 (.map (some BM)) (.int .i64 (num l h)) false).run Tryz.prog (xt w1 O dd) = .ok (.int .i64 d) (xt w1 O dd) := fun O dd => by
      have := run_look_int (S1.out.map.gr ((Gr.refl _).xt O dd)) hwh
      rw [look_num (fun q hq => (HS.out.ok q hq).1) hset, HH.out] at this
      exact this
    obtain ⟨m, hm⟩ : ∃ m, num l h = m := ⟨_, rfl⟩
    rw [hm] at LKX hh
    have hd := HD.out
    have hgh := has_of_cell hh
    simp only [List.length_map, List.length_cons] at *
    refine wp_region_grows_tail 8 (by kernel_rfl) (by kernel_rfl) ?_
    simp only [List.take_succ_cons, List.take_zero, List.drop_succ_cons, List.drop_zero]
    repeat (go_big_quiet_step (fail))
    refine wpQuiet_nil ?_
    rintro _ ⟨⟨O, dd⟩, rfl⟩
    obtain ⟨W2, hW2⟩ : ∃ W2 : World, Hid (W2 = xt w1 O dd) := ⟨_, Lib.hid rfl⟩
    show wpList _ _ _ _ _ (xt w1 O dd)
    rw [← hW2.out]
    have G2 : Hid (Gr w1 W2) := Lib.hid (by rw [hW2.out]; exact (Gr.refl _).xt O dd)
    have S2 := Lib.hid ((qst_ok l w0.heap.size BO BM BQ p h d).keep _ _ _ _ none S1.out (G2.out.by none) (fun b e => by cases e))
    have SR := run_store_int S2.out.map (k := n) (by rw [← HN.out]; exact wide_num hc TO.out) (by rw [← HN.out, look_num (fun q hq => (HS.out.ok q hq).1) TO.out]; exact HLK.out) (by rw [List.length_map]; unfold maxLen; omega) (d + 1) (by unfold Wide; omega)
    obtain ⟨v, r1, r2, r3⟩ := S2.out.queue
    have RV := Lib.hid r1
    have QV := Lib.hid r2
    have RL := Lib.hid r3
    obtain ⟨gq, hvq, _, hgq⟩ := r2.own
    have HVQ := Lib.hid hvq
    have nq : Hid (BM ≠ BQ) := Lib.hid (S2.out.map.ne_row r1)
    have ng : Hid (BM ≠ gq) := Lib.hid (by
      obtain ⟨g', off', cap', arr', rfl, _, hr', _⟩ := r2
      have : g' = gq := by simpa [Value.ownBlock] using hvq
      subst this
      exact S2.out.map.ne_row hr')
    have nr : Hid (gq ≠ BQ) := Lib.hid (by
      obtain ⟨g', off', cap', arr', rfl, _, hr', _⟩ := r2
      have : g' = gq := by simpa [Value.ownBlock] using hvq
      subst this
      exact hr'.s.apart r1.s (by decide))
    obtain ⟨j0, hj, hy0, hy1, hy2⟩ := info_parts infoInt
    have no1 : Hid (BM ≠ BO) := Lib.hid (S2.out.map.ne_row S2.out.out)
    have no2 : Hid (BO ≠ BQ) := Lib.hid (S2.out.out.s.apart r1.s (by decide))
    have no3 : Hid (BO ≠ gq) := Lib.hid (by
      obtain ⟨g', off', cap', arr', rfl, _, hr', _⟩ := r2
      have : g' = gq := by simpa [Value.ownBlock] using hvq
      subst this
      exact S2.out.out.s.apart hr'.s (by decide))
    have GQ : Hid (Has W2 gq) := Lib.hid hgq
    have xl : Hid (((V.drop p).map fun q => Value.int .i64 (num l q.1)).length + 1 ≤ 1000000) := Lib.hid (by simp; omega)
    have HC := Lib.hid hc
    have HSET := Lib.hid hset
    clear r1 r2 r3 hdrop hh hcap hcm hbg o0 q0 hm LKX hgh hW2 hVl oh qh hc hset hvq hgq
    go_wp2_with (first
      | (at_mapUpdate; refine wpList_mapStore _ rfl _ _ _ _ rfl rfl rfl rfl SR ?_; rintro W3 ⟨hm3, hg3⟩; have R3 := Lib.hid (RV.out.grown hg3 (fun e => nq.out (Option.some.inj e).symm)); have Q3 := Lib.hid (QV.out.kept hg3 (by rw [HVQ.out]; exact fun e => ng.out (Option.some.inj e).symm)); have q3 := R3.out.cell 0 (by simp); have q3h := R3.out.has; have q3f := R3.out.free 0; simp only [List.getElem_cons_zero] at q3; have M3 := Lib.hid hm3; have G3 := Lib.hid hg3; clear hm3 hg3)
      | (at_builtin; refine wpList_append_q _ rfl _ _ 22 rfl w0.heap.size 3 j0 (.int .i64 0) Tryz.underlying22 hj hy0 hy1 hy2 rfl v _ rfl (Q3.out.kept (World.grownBy_alloc W3 _ none) (by rw [HVQ.out]; simp)) ⟨W3.heap.size, 0, none⟩ 1 (.int .i64 n) rfl (by simp) rfl xl.out (by have h1 := (HG.out.trans (G1.out.trans G2.out)).size; have h2 := G3.out.size; simp; omega) ?_; rintro v' W4 hq4 hg4 hown4; obtain ⟨g4, off4, cap4, rfl⟩ := hq4.sl; have R4 := Lib.hid ((R3.out.alloc (.cells #[.int .i64 n] 3)).grown hg4 (by rw [HVQ.out]; exact fun e => nr.out (Option.some.inj e).symm)); have r4 := R4.out.cell 0 (by simp); have r4h := R4.out.has; have r4f := R4.out.free 0; have Q4 := Lib.hid hq4; have G4 := Lib.hid hg4; have O4 := Lib.hid hown4; clear hq4 hg4 hown4)
      | fail)
    go_end0
    obtain ⟨nv, hnv⟩ : ∃ nv, nv = Value.slice (some ⟨g4, off4, none⟩) (V.length - p + 1) cap4 := ⟨_, rfl⟩
    rw [← hnv]
    have hq5 : QAt W4 w0.heap.size 3 nv (((V.drop p).map fun q => Value.int .i64 (num l q.1)) ++ [.int .i64 n]) := by
      have := Q4.out
      rw [hnv]
      simpa using this
    have ho4 : nv.ownBlock = some g4 := by rw [hnv]; rfl
    have ho5 : ∀ b, b ∈ L → b ≠ BM ∧ b ≠ BQ ∧ b ≠ gq ∧ b < w.heap.size := fun b hb =>
      ⟨fun e => S2.out.off.2.1 (e ▸ hb), fun e => S2.out.off.2.2 (e ▸ hb), fun e => RL.out gq HVQ.out (e ▸ hb), HLs.out b hb⟩
    have z12 : w.heap.size ≤ W2.heap.size := Nat.le_trans G1.out.size G2.out.size
    have z23 := G3.out.size
    have z3 : (W3.alloc (.cells #[.int .i64 n] 3)).heap.size = W3.heap.size + 1 := by simp
    have z34 := G4.out.size
    have hg4' : g4 = gq ∨ W3.heap.size + 1 ≤ g4 := by
      rcases O4.out with e | ⟨g', e, hle⟩
      · left; rw [HVQ.out] at e; simpa [Value.ownBlock] using e
      · right
        have : g4 = g' := by simpa [Value.ownBlock] using e
        subst this; omega
    have hgr : Gr w0 W4 := by
      have h3 := Gr.grown (HG.out.trans (G1.out.trans G2.out)) G3.out (fun k e => by injection e with e; subst e; exact S2.out.low.2.1)
      refine Gr.grown (h3.alloc (.cells #[.int .i64 n] 3)) G4.out (fun k e => ?_)
      rw [HVQ.out] at e
      injection e with e
      subst e
      obtain ⟨_, _, hb, _⟩ := QV.out.own
      obtain ⟨g', off', cap', arr', e', hb', _⟩ := QV.out
      rw [e'] at HVQ
      have : g' = gq := by simpa [Value.ownBlock] using HVQ.out
      omega
    have hbq : Has W2 BQ := RV.out.has
    refine ⟨rfl, ?_, hgr.setc S2.out.low.2.2, ?_, ?_⟩
    · rw [HA.out]
      refine ⟨?_, ?_, ⟨nv, ?_, ?_, ?_⟩, S2.out.off, nodup_snoc HS.out.nodup HLK.out, ?_, ?_, S2.out.low⟩
      · refine Row.oth ?_ (Ne.symm no2.out)
        exact (((S2.out.out.grown G3.out (fun e => no1.out (Option.some.inj e).symm)).alloc _).grown G4.out (by rw [HVQ.out]; exact fun e => no3.out (Option.some.inj e)))
      · rw [List.map_append]
        have := ((M3.out.gr ((Gr.refl _).alloc (.cells #[.int .i64 n] 3))).kept G4.out (by rw [HVQ.out]; exact fun e => ng.out (Option.some.inj e))).kept (grownBy_set W4 BQ 0 nv) (fun e => nq.out (Option.some.inj e))
        simp only [List.map_cons, List.map_nil, HN.out]
        exact this
      · exact R4.out.set 0 _
      · have := hq5.kept (grownBy_set W4 BQ 0 nv) (by
          intro e
          have e' : g4 = BQ := Option.some.inj (ho4.symm.trans e)
          rcases hg4' with h | h
          · exact nr.out (h.symm.trans e')
          · unfold Has at hbq; omega)
        have hp : p ≤ V.length := Nat.le_of_lt (List.getElem?_eq_some_iff.1 HS.out.head).1
        rw [List.drop_append_of_le_length hp, List.map_append]
        simp only [List.map_cons, List.map_nil, HN.out]
        simpa using this
      · intro g hg hm
        have : g4 = g := Option.some.inj (ho4.symm.trans hg)
        subst this
        have := ho5 _ hm
        rcases hg4' with h | h
        · exact this.2.2.1 h
        · omega
      · intro q hq
        rw [List.length_append]
        rcases List.mem_append.1 hq with hq | hq
        · have := HS.out.ok q hq; exact ⟨this.1, this.2.1, by simp; omega⟩
        · have : q = (t.2.2, d + 1) := by simpa using hq
          subst this
          have := (HS.out.ok _ (List.mem_of_getElem? HS.out.head)).2
          simp only at this
          exact ⟨TO.out, by simp; omega, by simp; omega⟩
      · rw [List.getElem?_append_left (List.getElem?_eq_some_iff.1 HS.out.head).1]; exact HS.out.head
    · intro b hb
      obtain ⟨h1, h2, h3, h4⟩ := ho5 b hb
      rw [(grownBy_set W4 BQ 0 _).block b (by omega) (fun e => h2 (Option.some.inj e)), G4.out.block b (by omega) (by rw [HVQ.out]; exact fun e => h3 (Option.some.inj e)),
        (World.grownBy_alloc W3 (.cells #[.int .i64 n] 3) none).block b (by omega) (by simp), G3.out.block b (by omega) (fun e => h1 (Option.some.inj e)), G2.out.below.block b (by have := G1.out.size; omega), G1.out.below.block b h4]
    · have := (grownBy_set W4 BQ 0 nv).size
      simp only [size_set] at this ⊢
      omega
end Go.Proofs.YtenehghpmnajpaaGreatDoor
/-! Contract of space.reach: the distances from a setting. -/
set_option linter.unusedVariables false
set_option linter.unusedSimpArgs false
namespace Go.Proofs.YtenehghpmnajpaaGreatDoor
open Go.RowKit
open Classical
structure RSt (l : List Clk) (ms : List Lmt) (al am : Option Addr) (cl cm BK XB BO BM : Nat) (L0 : List Nat) (w0 w : World) (src : List Int) (p : Nat) (BQ : Nat) (wr : World) : Prop where
  le : p ≤ (afterB (nbS l (calS l ms)) src p).length
  out : Row wr BO 130 [.map (some BM)]
  map : MapI wr BM ((afterB (nbS l (calS l ms)) src p).map fun q => (num l q.1, q.2))
  queue : ∃ v, Row wr BQ 22 [v] ∧ ((p < (afterB (nbS l (calS l ms)) src p).length ∧ QAt wr w0.heap.size 3 v (((afterB (nbS l (calS l ms)) src p).drop p).map fun q => .int .i64 (num l q.1)) ∧ ∀ g, v.ownBlock = some g → g ∉ XB :: L0) ∨ (p = (afterB (nbS l (calS l ms)) src p).length ∧ ∃ a c, v = .slice a 0 c))
  dists : ∀ q ∈ afterB (nbS l (calS l ms)) src p, 0 ≤ q.2 ∧ q.2 < ((afterB (nbS l (calS l ms)) src p).length : Int)
  box : Row wr XB 127 [.slice al l.length cl, .slice am ms.length cm, .map (some BK)]
  kn : Kn wr BK l (calS l ms)
  gr : Gr w0 wr
  keep : ∀ b ∈ L0, b ≠ BK → wr.heap[b]? = w.heap[b]?
  size : w.heap.size ≤ wr.heap.size
  low : w.heap.size ≤ XB ∧ w.heap.size ≤ BO ∧ w.heap.size ≤ BM ∧ w.heap.size ≤ BQ
theorem rst_next {l : List Clk} {ms : List Lmt} {al am : Option Addr} {cl cm BK XB BO BM : Nat} {L0 : List Nat} {w0 w : World} {src : List Int} {p BQ : Nat} {wr W5 W6 : World} {h : List Int} {d : Int} {v3 : Value}
    (hS : RSt l ms al am cl cm BK XB BO BM L0 w0 w src p BQ wr) (g5 : Gr wr W5) (hL : ∀ b ∈ L0, Has w b) (hx : XB ≠ BK) (h1 : QSt l w0.heap.size BO BM BQ p h d (afterB (nbS l (calS l ms)) src (p + 1)) W6 (XB :: L0)) (h2 : Gr w0 W6) (h3 : Kn W6 BK l (calS l ms))
    (h4 : ∀ b ∈ XB :: L0, b ≠ BK → W6.heap[b]? = W5.heap[b]?) (h5 : W5.heap.size ≤ W6.heap.size)
    (hv : (p + 1 < (afterB (nbS l (calS l ms)) src (p + 1)).length ∧ QAt W6 w0.heap.size 3 v3 (((afterB (nbS l (calS l ms)) src (p + 1)).drop (p + 1)).map fun q => .int .i64 (num l q.1)) ∧ ∀ g, v3.ownBlock = some g → g ∉ XB :: L0) ∨ (p + 1 = (afterB (nbS l (calS l ms)) src (p + 1)).length ∧ ∃ a c, v3 = .slice a 0 c)) :
    RSt l ms al am cl cm BK XB BO BM L0 w0 w src (p + 1) W6.heap.size (W6.alloc (.cells #[v3] 22)) where
  le := by rcases hv with h | h <;> omega
  out := h1.out.alloc _
  map := h1.map.gr ((Gr.refl _).alloc _)
  queue := ⟨v3, Row.new _ _ _, by
    rcases hv with ⟨a, b, c⟩ | h
    · exact .inl ⟨a, b.kept (World.grownBy_alloc _ _ none) (by obtain ⟨g, e, _⟩ := b.own; rw [e]; simp), c⟩
    · exact .inr h⟩
  dists := fun q hq => (h1.ok q hq).2
  box := by
    have := hS.box.gr g5
    unfold Row at this
    have r : Row W6 XB 127 [.slice al l.length cl, .slice am ms.length cm, .map (some BK)] := by unfold Row; rw [h4 XB (by simp) hx]; exact this
    exact r.alloc _
  kn := h3.gr ((Gr.refl _).alloc _)
  gr := h2.alloc _
  keep := fun b hb hne => by
    have hbl := hL b hb
    unfold Has at hbl
    have := hS.size
    have := g5.size
    rw [((Gr.refl W6).alloc (.cells #[v3] 22)).below.block b (by omega), h4 b (List.mem_cons_of_mem _ hb) hne, g5.below.block b (by omega)]
    exact hS.keep b hb hne
  size := by have := hS.size; have := g5.size; have := ((Gr.refl W6).alloc (.cells #[v3] 22)).size; omega
  low := by have := hS.low; have := hS.size; have := g5.size; omega
theorem reach_any (l : List Clk) (ms : List Lmt) (src : List Int) (al am : Option Addr) (cl cm BK : Nat) (L0 : List Nat) (w0 w : World)
    (henv : Env w0 l ms al am) (hg0 : Gr w0 w) (hset : SetOk l src) (hcal : calS l ms src = true) (hk : Kn w BK l (calS l ms)) (hbk : w0.heap.size ≤ BK) (hL : ∀ b ∈ L0, Has w b) (hBK : BK ∈ L0) :
    Calls Tryz.prog 80 #[spV l ms al am cl cm BK, .int .i64 (num l src)] w fun e w' => ∃ (BM : Nat) (V : List (List Int × Int)),
      e = .returned (.map (some BM)) ∧ w.heap.size ≤ BM ∧ MapI w' BM (V.map fun q => (num l q.1, q.2)) ∧ (∀ q ∈ V, SetOk l q.1 ∧ 0 ≤ q.2 ∧ q.2 < 4096) ∧ DistOk l (calS l ms) src (look V) ∧
      Gr w0 w' ∧ Kn w' BK l (calS l ms) ∧ (∀ b ∈ L0, b ≠ BK → w'.heap[b]? = w.heap[b]?) ∧ w.heap.size ≤ w'.heap.size := by
  have hwn := wide_num henv.chk hset
  have hpr := (cchk_zero henv.chk).2.2.1
  have HE := Lib.hid henv
  have HG0 := Lib.hid hg0
  have HT := Lib.hid hset
  have HC := Lib.hid hcal
  have HL := Lib.hid hL
  have HB := Lib.hid hBK
  have HK := Lib.hid hk
  have hbk' := Lib.hid hbk
  obtain ⟨n, hn⟩ : ∃ n, num l src = n := ⟨_, rfl⟩
  have HN := Lib.hid hn
  rw [hn] at hwn ⊢
  have SR := run_store_int (w := (w.alloc (.cells #[.slice al l.length cl, .slice am ms.length cm, .map (some BK)] 127)).alloc (.map #[] 0)) (B := w.heap.size + 1) (V := []) (k := n)
    (by have := MapV.made (β := Int) (w.alloc (.cells #[.slice al l.length cl, .slice am ms.length cm, .map (some BK)] 127)) 3 (Lit.int .i64); simpa using this) hwn rfl (by unfold maxLen; simp) 0 (by unfold Wide; omega)
  obtain ⟨W3, hrun, hm3, hg3⟩ := SR
  have hmm := @run_makeMap Tryz.prog
  clear henv hg0 hset hcal hL hBK hk hbk hwn hn
  have M3 := Lib.hid hm3
  have G3 := Lib.hid hg3
  clear hm3 hg3
  go_enter Tryz.func80, Tryz.ntmps80
  go_wp2_with fail
  obtain ⟨XB, hXB⟩ : ∃ XB : Nat, Hid (w.heap.size = XB) := ⟨_, Lib.hid rfl⟩
  obtain ⟨BM, hBM⟩ : ∃ BM : Nat, Hid (w.heap.size + 1 = BM) := ⟨_, Lib.hid rfl⟩
  obtain ⟨BO, hBO⟩ : ∃ BO : Nat, Hid (W3.heap.size = BO) := ⟨_, Lib.hid rfl⟩
  obtain ⟨BG, hBG⟩ : ∃ BG : Nat, Hid (W3.heap.size + 1 = BG) := ⟨_, Lib.hid rfl⟩
  obtain ⟨BQ0, hBQ0⟩ : ∃ BQ0 : Nat, Hid (W3.heap.size + 1 + 1 = BQ0) := ⟨_, Lib.hid rfl⟩
  rw [hBQ0.out, hBG.out, hBM.out, hBO.out, hXB.out]
  obtain ⟨W4, hW4⟩ : ∃ W4 : World, Hid (W4 = ((W3.alloc (.cells #[.map (some BM)] 130)).alloc (.cells #[.int .i64 n] 3)).alloc (.cells #[.slice (some ⟨BG, 0, none⟩) 1 1] 22)) := ⟨_, Lib.hid rfl⟩
  rw [← hW4.out]
  have z3 : Hid (w.heap.size + 2 ≤ W3.heap.size) := Lib.hid (by have := G3.out.size; simp at this; omega)
  have GW : Hid (w.grownBy W3 (some BM)) := Lib.hid (by
    rw [← hBM.out]
    exact (((World.grownBy_alloc w _ _).trans (World.grownBy_alloc _ (.map #[] 0) _)).trans G3.out))
  have G34 : Hid (Gr W3 W4) := Lib.hid (by rw [hW4.out]; exact (((Gr.refl _).alloc _).alloc _).alloc _)
  have low : Hid (w.heap.size ≤ XB ∧ w.heap.size ≤ BO ∧ w.heap.size ≤ BM ∧ w.heap.size ≤ BQ0) := Lib.hid (by
    have := z3.out; have := hXB.out; have := hBO.out; have := hBM.out; have := hBQ0.out; omega)
  have S4 : Hid (RSt l ms al am cl cm BK XB BO BM L0 w0 w src 0 BQ0 W4) := Lib.hid
    { le := Nat.zero_le _,
      out := by
        rw [hW4.out, ← hBO.out]
        exact ((Row.new W3 _ _).alloc _).alloc _,
      map := by
        have := M3.out.gr G34.out
        rw [hBM.out] at this
        simpa [afterB, HN.out] using this,
      queue := ⟨.slice (some ⟨BG, 0, none⟩) 1 1, by
        rw [hW4.out, ← hBQ0.out]
        exact row_new' _ _ _ _ (by simp), .inl ⟨by simp [afterB], ⟨BG, 0, 1, [.int .i64 n], by simp [afterB], by have := z3.out; have := hBG.out; have := HG0.out.size; omega, by
          rw [hW4.out, ← hBG.out]
          exact (row_new' _ _ _ _ (by simp)).alloc _, by simp [afterB], by simp [maxLen], by simp, fun j u hj => by simpa [afterB, HN.out] using hj⟩, fun g hg => by
            have : BG = g := by simpa [Value.ownBlock] using hg
            subst this
            have := z3.out; have := hBG.out; have := hXB.out
            intro hm
            rcases List.mem_cons.1 hm with e | hm
            · omega
            · have := HL.out _ hm; unfold Has at this; omega⟩⟩,
      dists := by intro q hq; have : q = (src, 0) := by simpa [afterB] using hq
                  subst this; simp [afterB],
      box := by
        have : Row (w.alloc (.cells #[.slice al l.length cl, .slice am ms.length cm, .map (some BK)] 127)) XB 127 [.slice al l.length cl, .slice am ms.length cm, .map (some BK)] := by
          rw [← hXB.out]; exact Row.new w _ _
        exact (((this.alloc (.map #[] 0)).grown G3.out (fun e => by injection e with e; have := hXB.out; omega)).gr G34.out),
      kn := (HK.out.kept GW.out (fun e => by injection e with e; have := hBM.out; have := HK.out.has; unfold Has at this; omega)).gr G34.out,
      gr := (HG0.out.grown GW.out (fun k e => by injection e with e; have := hBM.out; have := HG0.out.size; omega)).trans G34.out,
      keep := fun b hb _ => by
        have h1 := HL.out b hb
        unfold Has at h1
        rw [G34.out.below.block b (by have := z3.out; omega), GW.out.block b h1 (fun e => by injection e with e; have := hBM.out; omega)],
      size := by have := z3.out; have := G34.out.size; omega,
      low := low.out }
  clear hrun hmm hW4 M3 G3 GW G34 z3 hBG
  go_loopg [6] (prodC l) (fun g q wr => ∃ p BQ, g = prodC l - p ∧ q = .pointer (some ⟨BQ, 0, none⟩) ∧ RSt l ms al am cl cm BK XB BO BM L0 w0 w src p BQ wr)
  case atStart => exact ⟨0, BQ0, by simp, rfl, S4.out⟩
  case round =>
    clear S4 low
    obtain ⟨p, BQ, hgk, rfl, hS⟩ := hrel
    have HS := Lib.hid hS
    have HGK := Lib.hid hgk
    obtain ⟨v, r1, hq⟩ := hS.queue
    have hlen := after_len (l := l) HT.out HC.out p
    rcases hq with ⟨hpl, qa, qg⟩ | ⟨hpe, a, c, rfl⟩
    · obtain ⟨⟨h, d⟩, hhd⟩ : ∃ hd, (afterB (nbS l (calS l ms)) src p)[p]? = some hd := ⟨_, List.getElem?_eq_getElem hpl⟩
      have hok := after_ok (l := l) (cal := calS l ms) HT.out HC.out p
      have hseth := (hok _ (List.mem_of_getElem? hhd)).1
      have hdrop : (afterB (nbS l (calS l ms)) src p).drop p = (h, d) :: (afterB (nbS l (calS l ms)) src p).drop (p + 1) := by
        obtain ⟨hp, e⟩ := List.getElem?_eq_some_iff.1 hhd
        rw [List.drop_eq_getElem_cons hp, e]
      have qa2 := qa
      rw [hdrop, List.map_cons] at qa2
      obtain ⟨g, off, cap, rfl, hh, hcap, hcm, hbg, _⟩ := qa2.head
      have q0 := r1.cell 0 (by simp)
      have qh := r1.has
      have x0 := hS.box.cell 0 (by simp)
      have x1 := hS.box.cell 1 (by simp)
      have x2 := hS.box.cell 2 (by simp)
      have xh := hS.box.has
      have gh := has_of_cell hh
      simp only [List.getElem_cons_zero, List.getElem_cons_succ] at q0 x0 x1 x2
      simp only [List.length_map] at q0 hcap
      obtain ⟨m, hm⟩ : ∃ m, num l h = m := ⟨_, rfl⟩
      have HM := Lib.hid hm
      rw [hm] at hh
      have R1 := Lib.hid r1
      have QA := Lib.hid qa
      have QG := Lib.hid qg
      have HH := Lib.hid hhd
      have SH := Lib.hid hseth
      have HPL := Lib.hid hpl
      clear hS hgk r1 qa qa2 qg hhd hok hseth hdrop hm
      go_wp2_with fail
      refine wp_region_grows_tail 5 (by kernel_rfl) (by kernel_rfl) ?_
      simp only [List.take_succ_cons, List.take_zero, List.drop_succ_cons, List.drop_zero]
      repeat (go_big_quiet_step (fail))
      refine wpQuiet_nil ?_
      rintro _ ⟨⟨O, dd⟩, rfl⟩
      obtain ⟨W5, hW5⟩ : ∃ W5 : World, Hid (W5 = xt wr O dd) := ⟨_, Lib.hid rfl⟩
      show wpList _ _ _ _ _ (xt wr O dd)
      rw [← hW5.out]
      have G5 : Hid (Gr wr W5) := Lib.hid (by rw [hW5.out]; exact (Gr.refl _).xt O dd)
      have q5 := qst_ok l w0.heap.size BO BM BQ p h d
      have low := HS.out.low
      have hR5 := R1.out.gr G5.out
      have hQ5 : QAt W5 w0.heap.size 3 (.slice (some ⟨g, off, none⟩) ((afterB (nbS l (calS l ms)) src p).length - (p + 1) + 1) cap) (((afterB (nbS l (calS l ms)) src p).drop p).map fun q => .int .i64 (num l q.1)) := by
        have := QA.out.kept (G5.out.by none) (by simp [Value.ownBlock])
        simpa using this
      have hok := after_ok (l := l) (cal := calS l ms) HT.out HC.out p
      have hb0 := HG0.out.size
      have nBO : BO ≠ XB := HS.out.out.s.apart HS.out.box.s (by decide)
      have nBM : BM ≠ XB := HS.out.map.ne_row HS.out.box
      have nBQ : BQ ≠ XB := R1.out.s.apart HS.out.box.s (by decide)
      have hnot : ∀ b, w.heap.size ≤ b → b ≠ XB → b ∉ XB :: L0 := fun b hb hx hm => by
        rcases List.mem_cons.1 hm with e | hm
        · exact hx e
        · have := HL.out _ hm; unfold Has at this; omega
      have hst : ∀ w1 L, Gr W5 w1 → (∀ b ∈ L, b ∈ XB :: L0 ∨ W5.heap.size ≤ b) → QSt l w0.heap.size BO BM BQ p h d (afterB (nbS l (calS l ms)) src p) w1 L := fun w1 L hg1 hb1 => by
        have hh1 : ∀ b, Has W5 b → b ∉ XB :: L0 → b ∉ L := fun b hb hn hm => by
          rcases hb1 b hm with e | e
          · exact hn e
          · unfold Has at hb; omega
        have hz := G5.out.size
        have a1 : Has W5 BO := (HS.out.out.gr G5.out).has
        have a2 : Has W5 BM := (HS.out.map.gr G5.out).has
        have a3 : Has W5 BQ := hR5.has
        exact
        { out := (HS.out.out.gr G5.out).gr hg1,
          map := (HS.out.map.gr G5.out).gr hg1,
          queue := ⟨_, by have := hR5.gr hg1; simpa using this, hQ5.kept (hg1.by none) (by simp [Value.ownBlock]), fun g' hg' => by
            obtain ⟨g2, hv2, _, hh2⟩ := hQ5.own
            have : g' = g2 := Option.some.inj (hg'.symm.trans hv2)
            subst this
            exact hh1 _ hh2 (QG.out _ (by simpa [Value.ownBlock] using hv2))⟩,
          off := ⟨hh1 _ a1 (hnot _ low.2.1 nBO), hh1 _ a2 (hnot _ low.2.2.1 nBM), hh1 _ a3 (hnot _ low.2.2.2 nBQ)⟩,
          nodup := (BInv.after _ src p).nodup,
          ok := fun q hq => ⟨(hok q hq).1, HS.out.dists q hq⟩,
          head := HH.out,
          low := by omega }
      have EC := eachR_any (QSt l w0.heap.size BO BM BQ p h d) (addB d) l ms h al am cl cm BK BO BQ (XB :: L0) w0 W5 (afterB (nbS l (calS l ms)) src p) HE.out (HS.out.gr.trans G5.out) SH.out (HS.out.kn.gr G5.out) hbk'.out
        (fun b hb => by
          rcases List.mem_cons.1 hb with e | hb
          · subst e; exact (HS.out.box.gr G5.out).has
          · have := HL.out b hb; have := HS.out.size; have := G5.out.size; unfold Has at *; omega)
        (List.mem_cons_of_mem _ HB.out) q5 hst (reach1_any l (calS l ms) BO BM BQ p h d w0 HE.out.chk SH.out)
      have hstep : (nbS l (calS l ms) h).foldl (addB d) (afterB (nbS l (calS l ms)) src p) = afterB (nbS l (calS l ms)) src (p + 1) := by
        simp only [afterB, stepB]
        rw [HH.out]
      rw [hstep, HM.out] at EC
      have EC' := Lib.hid EC
      have NXB : Hid (XB ≠ BK) := Lib.hid (by have := HL.out BK HB.out; unfold Has at this; omega)
      have HZ : Hid (BO ≠ XB ∧ BM ≠ XB) := Lib.hid ⟨nBO, nBM⟩
      have HNOT := Lib.hid hnot
      clear EC hst hstep q5 low hR5 hQ5 hok hb0 nBO nBM nBQ hnot q0 qh x0 x1 x2 xh gh hh hW5
      go_wp2_with fail
      refine EC'.out.mono ?_
      rintro e W6 ⟨rfl, i1, i2, i3, i4, i5⟩
      obtain ⟨v6, r6, qa6, qg6⟩ := i1.queue
      have hdrop : (afterB (nbS l (calS l ms)) src (p + 1)).drop p = (h, d) :: (afterB (nbS l (calS l ms)) src (p + 1)).drop (p + 1) := by
        obtain ⟨hp, e⟩ := List.getElem?_eq_some_iff.1 i1.head
        rw [List.drop_eq_getElem_cons hp, e]
      have hpl6 : p < (afterB (nbS l (calS l ms)) src (p + 1)).length := (List.getElem?_eq_some_iff.1 i1.head).1
      rw [hdrop, List.map_cons] at qa6
      obtain ⟨g6, off6, cap6, rfl, hh6, hcap6, hcm6, hbg6, htail⟩ := qa6.head
      have q6 := r6.cell 0 (by simp)
      have qh6 := r6.has
      simp only [List.getElem_cons_zero] at q6
      simp only [List.length_map, List.length_drop] at q6 hcap6
      have I1 := Lib.hid i1
      have I2 := Lib.hid i2
      have I3 := Lib.hid i3
      have I4 := Lib.hid i4
      have I5 := Lib.hid i5
      have R6 := Lib.hid r6
      have QA6 := Lib.hid qa6
      have QG6 := Lib.hid qg6
      have TL := Lib.hid htail
      have PL6 := Lib.hid hpl6
      clear i1 i2 i3 i4 i5 r6 qa6 qg6 htail hh6 hdrop EC' hlen
      go_wp2_with fail
      · rename_i hc1
        go_roundg (prodC l - (p + 1))
        case measure => have := HGK.out; have := after_len (l := l) HT.out HC.out p; have := HPL.out; omega
        case rel =>
          refine ⟨p + 1, W6.heap.size, rfl, rfl, rst_next HS.out G5.out HL.out NXB.out I1.out I2.out I3.out I4.out I5.out (.inr ⟨by omega, _, _, by rw [show (afterB (nbS l (calS l ms)) src (p + 1)).length - (p + 1) = 0 by omega]⟩)⟩
      · rename_i hc1
        go_roundg (prodC l - (p + 1))
        case measure => have := HGK.out; have := after_len (l := l) HT.out HC.out p; have := HPL.out; omega
        case rel =>
          refine ⟨p + 1, W6.heap.size, rfl, rfl, rst_next HS.out G5.out HL.out NXB.out I1.out I2.out I3.out I4.out I5.out ?_⟩
          have t := TL.out W6 QA6.out
          simp only [List.length_map, List.length_drop] at t
          by_cases hlast : p + 1 < (afterB (nbS l (calS l ms)) src (p + 1)).length
          · exact .inl ⟨hlast, t, fun g' hg' => QG6.out g' (by simpa [Value.ownBlock] using hg')⟩
          · exact .inr ⟨by have := PL6.out; omega, _, _, by rw [show (afterB (nbS l (calS l ms)) src (p + 1)).length - (p + 1) = 0 by omega]⟩
    · have o0 := hS.out.cell 0 (by simp)
      have q0 := r1.cell 0 (by simp)
      have qh := r1.has
      have oh := hS.out.has
      simp only [List.getElem_cons_zero] at q0 o0
      have PE := Lib.hid hpe
      clear hS r1 hlen hpe
      go_wp2_with fail
      go_ret
      have hok := after_ok (l := l) (cal := calS l ms) HT.out HC.out p
      have hlen := after_len (l := l) HT.out HC.out p
      exact ⟨BM, _, rfl, HS.out.low.2.2.1, HS.out.map, fun q hq => ⟨(hok q hq).1, (HS.out.dists q hq).1, by have := (HS.out.dists q hq).2; omega⟩, after_dist HT.out HC.out p (by rw [← PE.out]; exact Nat.le_refl _), HS.out.gr, HS.out.kn, HS.out.keep, HS.out.size⟩
end Go.Proofs.YtenehghpmnajpaaGreatDoor
/-! Contract of retune.begin, where clocks, limits and settings are right. -/
set_option linter.unusedVariables false
set_option linter.unusedSimpArgs false
namespace Go.Proofs.YtenehghpmnajpaaGreatDoor
open Go.RowKit
open Classical
def Begun (l : List Clk) (ms : List Lmt) (al am : Option Addr) (cl cm : Nat) (w : World) (x y : Bool) (e : Ending) (w' : World) : Prop :=
  Gr w w' ∧ ((x && y) = true → ∃ BK, e = .returned (.tuple #[spV l ms al am cl cm BK, .int .i64 0]) ∧ w.heap.size ≤ BK ∧ MapB w' BK []) ∧ ((x && y) = false → e = .returned (.tuple #[.agg #[.slice none 0 0, .slice none 0 0, .map none], .int .i64 7]))
theorem begin_any (l : List Clk) (ms : List Lmt) (f t : List Int) (al am af at' : Option Addr) (cl cm cf ct : Nat) (w : World) (henv : Env w l ms al am) (hf : SetOk l f) (ht : SetOk l t) (sf : SlOf 1 RI w af f) (st : SlOf 1 RI w at' t) :
    Calls Tryz.prog 79 #[.slice al l.length cl, .slice af f.length cf, .slice at' t.length ct, .slice am ms.length cm] w (Begun l ms al am cl cm w (calS l ms f) (calS l ms t)) := by
  have hnb := small_len (cchk_zero henv.chk).1
  have hfl : f.length = l.length := hf.1
  have htl : t.length = l.length := ht.1
  have hml := henv.lims.1
  have ff : Fit l.length := by unfold Fit; omega
  have ffm : Fit ms.length := by unfold Fit; omega
  have HE := Lib.hid henv
  have SF := Lib.hid sf
  have ST := Lib.hid st
  have TF := Lib.hid hf
  have TT := Lib.hid ht
  have okF : Hid (∀ W, Gr w W → Calls Tryz.prog 86 #[.slice al l.length cl, .slice af l.length cf] W (Grows W (.bool true))) := Lib.hid fun W hW => by
    have := pSetting_any l f al af cl cf W (clks_gr henv.clks hW) (sf.giI hW) ff (by rw [hfl]; exact ff)
    rwa [decide_eq_true ⟨henv.chk, hf⟩, hfl] at this
  have okT : Hid (∀ W, Gr w W → Calls Tryz.prog 86 #[.slice al l.length cl, .slice at' l.length ct] W (Grows W (.bool true))) := Lib.hid fun W hW => by
    have := pSetting_any l t al at' cl ct W (clks_gr henv.clks hW) (st.giI hW) ff (by rw [htl]; exact ff)
    rwa [decide_eq_true ⟨henv.chk, ht⟩, htl] at this
  have okL : Hid (∀ W, Gr w W → Calls Tryz.prog 97 #[.slice al l.length cl, .slice am ms.length cm] W (Grows W (.bool true))) := Lib.hid fun W hW => by
    have := pLimits_any l ms al am cl cm W (clks_gr henv.clks hW) ff (lmts_gr henv.lmts hW) ffm
    rwa [decide_eq_true (show LmtsOk l ms from ⟨henv.chk, hml, henv.lims.2⟩)] at this
  have okC : Hid (∀ W, Gr w W → Calls Tryz.prog 101 #[.slice al l.length cl] W (Grows W (.int .i64 0))) := Lib.hid fun W hW => by
    have := pCheck_any l al cl W (clks_gr henv.clks hW) ff
    rwa [henv.chk] at this
  have cF : Hid (∀ W, Gr w W → Calls Tryz.prog 98 #[.slice al l.length cl, .slice af l.length cf, .slice am ms.length cm] W (Grows W (.bool (calS l ms f)))) := Lib.hid fun W hW => by
    have := calm_any l ms f al af am cl cf cm W (clks_gr henv.clks hW) (sf.giI hW) (lmts_gr henv.lmts hW) henv.chk hf henv.lims (henv.off.gr hW)
    rwa [hfl] at this
  have cT : Hid (∀ W, Gr w W → Calls Tryz.prog 98 #[.slice al l.length cl, .slice at' l.length ct, .slice am ms.length cm] W (Grows W (.bool (calS l ms t)))) := Lib.hid fun W hW => by
    have := calm_any l ms t al at' am cl ct cm W (clks_gr henv.clks hW) (st.giI hW) (lmts_gr henv.lmts hW) henv.chk ht henv.lims (henv.off.gr hW)
    rwa [htl] at this
  have hmm := @run_makeMap Tryz.prog
  clear henv hf ht sf st ff ffm
  obtain ⟨xf, exf⟩ : ∃ x, calS l ms f = x := ⟨_, rfl⟩
  obtain ⟨xt', ext'⟩ : ∃ x, calS l ms t = x := ⟨_, rfl⟩
  rw [exf] at cF ⊢
  rw [ext'] at cT ⊢
  clear exf ext'
  go_enter Tryz.func79, Tryz.ntmps79
  go_wp2_with fail
  refine (okC.out _ ((Gr.refl _).alloc _)).mono ?_
  rintro e w1 ⟨rfl, O1, D1, rfl⟩
  go_wp2_with fail
  refine (okL.out _ (((Gr.refl _).alloc _).xt _ _)).mono ?_
  rintro e w2 ⟨rfl, O2, D2, rfl⟩
  go_wp2_with fail
  refine (okF.out _ (by repeat (first | with_reducible exact Gr.refl _ | with_reducible refine Gr.xt _ _ ?_ | with_reducible refine Gr.alloc _ ?_))).mono ?_
  rintro e w3 ⟨rfl, O3, D3, rfl⟩
  go_wp2_with fail
  refine (okT.out _ (by repeat (first | with_reducible exact Gr.refl _ | with_reducible refine Gr.xt _ _ ?_ | with_reducible refine Gr.alloc _ ?_))).mono ?_
  rintro e w4 ⟨rfl, O4, D4, rfl⟩
  go_wp2_with fail
  cases xf with
  | false =>
    refine (cF.out _ (by repeat (first | with_reducible exact Gr.refl _ | with_reducible refine Gr.xt _ _ ?_ | with_reducible refine Gr.alloc _ ?_))).mono ?_
    rintro e w5 ⟨rfl, O5, D5, rfl⟩
    go_wp2_with fail
    refine bodyPost_ret (v := .tuple #[.agg #[.slice none 0 0, .slice none 0 0, .map none], .int .i64 7]) ?_ rfl ?_
    · simp [results, Tryz.results79, go_sem]
    · unfold Begun
      refine ⟨(by repeat (first | with_reducible exact Gr.refl _ | with_reducible refine Gr.xt _ _ ?_ | with_reducible refine Gr.alloc _ ?_)), ?_, ?_⟩
      · simp
      · intro _; rfl
  | true =>
    refine (cF.out _ (by repeat (first | with_reducible exact Gr.refl _ | with_reducible refine Gr.xt _ _ ?_ | with_reducible refine Gr.alloc _ ?_))).mono ?_
    rintro e w5 ⟨rfl, O5, D5, rfl⟩
    go_wp2_with fail
    cases xt' with
    | false =>
      refine (cT.out _ (by repeat (first | with_reducible exact Gr.refl _ | with_reducible refine Gr.xt _ _ ?_ | with_reducible refine Gr.alloc _ ?_))).mono ?_
      rintro e w6 ⟨rfl, O6, D6, rfl⟩
      go_wp2_with fail
      refine bodyPost_ret (v := .tuple #[.agg #[.slice none 0 0, .slice none 0 0, .map none], .int .i64 7]) ?_ rfl ?_
      · simp [results, Tryz.results79, go_sem]
      · unfold Begun
        refine ⟨(by repeat (first | with_reducible exact Gr.refl _ | with_reducible refine Gr.xt _ _ ?_ | with_reducible refine Gr.alloc _ ?_)), ?_, ?_⟩
        · simp
        · intro _; rfl
    | true =>
      refine (cT.out _ (by repeat (first | with_reducible exact Gr.refl _ | with_reducible refine Gr.xt _ _ ?_ | with_reducible refine Gr.alloc _ ?_))).mono ?_
      rintro e w6 ⟨rfl, O6, D6, rfl⟩
      go_wp2_with fail
      obtain ⟨BK, hBK⟩ : ∃ BK : Nat, Hid (w.heap.size + 1 + (O1.size + (O2.size + (O3.size + (O4.size + (O5.size + O6.size))))) = BK) := ⟨_, Lib.hid rfl⟩
      rw [hBK.out]
      obtain ⟨W7, hW7⟩ : ∃ W7 : World, Hid (W7 = xt (w.alloc (.cells #[.slice al l.length cl, .slice am ms.length cm, .map (some BK)] 127)) (O1 ++ (O2 ++ (O3 ++ (O4 ++ (O5 ++ O6))))) D6) := ⟨_, Lib.hid rfl⟩
      rw [← hW7.out]
      have z7 : W7.heap.size = BK := by rw [hW7.out, ← hBK.out]; simp [xt]
      have R7 : Row (W7.alloc (.map #[] 0)) w.heap.size 127 [.slice al l.length cl, .slice am ms.length cm, .map (some BK)] := by
        rw [hW7.out]
        exact ((Row.new w _ _).xt _ _).alloc _
      have f0 := R7.cell 0 (by simp)
      have f1 := R7.cell 1 (by simp)
      have f2 := R7.cell 2 (by simp)
      simp only [List.getElem_cons_zero, List.getElem_cons_succ] at f0 f1 f2
      have GF : Gr w (W7.alloc (.map #[] 0)) := by
        rw [hW7.out]
        exact (((Gr.refl w).alloc _).xt _ _).alloc _
      have MM : MapB (W7.alloc (.map #[] 0)) BK [] := by rw [← z7]; exact MapV.made W7 _ _
      refine bodyPost_ret (v := .tuple #[spV l ms al am cl cm BK, .int .i64 0]) ?_ rfl ?_
      · simp [results, Tryz.results79, go_sem, f0, f1, f2]
      · unfold Begun
        refine ⟨GF, ?_, ?_⟩
        · intro _; exact ⟨BK, rfl, by have := hBK.out; omega, MM⟩
        · simp
end Go.Proofs.YtenehghpmnajpaaGreatDoor
