/- Lemmas and contracts for the proof of PrintDiffers (several texts in one, printed by wip/tools/pack.py): VbG PzK PzL PzE TeJ VbH. -/
import Derived.Test.YtgembejpiecfcaaGreatDoorPd1ph
import Derived.WalkMore
import Derived.Laws.StructEq
import Derived.Test.YtgembejpiecfcaaGreatDoorPd1pc
import Derived.Test.YtgembejpiecfcaaGreatDoorPd1pe
import Derived.Test.YtgembejpiecfcaaGreatDoorPd1pg
set_option maxRecDepth 100000
set_option maxHeartbeats 16000000
set_option linter.unusedVariables false
set_option linter.unusedSimpArgs false
namespace Go.Proofs.YtgembejpiecfcaaGreatDoor
open Go.RowKit
open Classical
def encP (p : Prp) : List Value := [.string (bs p.name), .string (bs p.val)]
structure NM where
  n : Nod
  a : Option Addr
  c : Nat
def NM.enc (m : NM) : List Value := [.int .i64 m.n.parent, .string (bs m.n.name), .slice m.a m.n.props.length m.c]
theorem NM.enc_len (m : NM) : m.enc.length = 3 := rfl
theorem NM.enc_one (m : NM) : ∀ u ∈ m.enc, u.oneCell' = true := by
  intro u hu
  simp only [NM.enc, List.mem_cons, List.not_mem_nil, or_false] at hu
  rcases hu with q | q | q <;> subst q <;> rfl
theorem flatP_one (l : List Prp) : ∀ u ∈ l.flatMap encP, u.oneCell' = true := by
  intro u hu
  obtain ⟨p, _, h⟩ := List.mem_flatMap.1 hu
  simp only [encP, List.mem_cons, List.not_mem_nil, or_false] at h
  rcases h with q | q <;> subst q <;> rfl
theorem flatP_len (l : List Prp) : (l.flatMap encP).length = l.length * 2 := flat_len encP 2 (fun _ => rfl) l
structure SmN (n : Nod) : Prop where
  plo : -1 ≤ n.parent
  phi : n.parent ≤ 1000
  nam : n.name.length ≤ 1000
  len : n.props.length ≤ 1000
  prp : ∀ p ∈ n.props, p.name.length ≤ 1000 ∧ p.val.length ≤ 100000
theorem VT.sm {ts : Tr} (h : VT ts) : ∀ n ∈ ts, SmN n := fun n hn => by
  obtain ⟨k, hk, rfl⟩ := List.getElem_of_mem hn
  have hp := h.props hk
  have few := h.few
  have hl := hp.len
  have hpp : ∀ p ∈ ts[k].props, p.name.length ≤ 1000 ∧ p.val.length ≤ 100000 := fun p hm => by
    have h1 := (hp.prop p hm).2
    have h2 := (hp.mem p hm).2
    exact ⟨by omega, by omega⟩
  rcases h.hdr hk with ⟨_, q1, q2⟩ | ⟨h0, q1, q2, _⟩
  · exact ⟨by omega, by omega, by rw [q2]; simp, by omega, hpp⟩
  · have := (h.name h0 hk).2
    rw [← nmT_get hk] at this
    exact ⟨by omega, by omega, by omega, by omega, hpp⟩
structure NdAt (base : Nat) (w : World) (m : NM) : Prop where
  own : w.ownsRow base 59 2 (.slice m.a m.n.props.length m.c) m.n.props.length (m.n.props.flatMap encP)
  sm : SmN m.n
theorem NdAt.gr {base : Nat} {w w' : World} {m : NM} (h : NdAt base w m) (hg : Gr w w') : NdAt base w' m := ⟨Gr.owns h.own hg, h.sm⟩
theorem NdAt.low {base base' : Nat} {w : World} {m : NM} (h : NdAt base w m) (hb : base' ≤ base) : NdAt base' w m := ⟨owns_low h.own hb, h.sm⟩
theorem NdAt.kept {base : Nat} {w w' : World} {row : Option Nat} {m : NM} (h : NdAt base w m) (hg : w.grownBy w' row) (hv : (Value.slice m.a m.n.props.length m.c).ownBlock = none ∨ (Value.slice m.a m.n.props.length m.c).ownBlock ≠ row) : NdAt base w' m := ⟨h.own.kept hg hv, h.sm⟩
structure TrAt (base : Nat) (w : World) (v : Value) (ms : List NM) : Prop where
  own : w.ownsRow base 57 3 v ms.length (ms.flatMap NM.enc)
  nds : ∀ m ∈ ms, NdAt base w m
theorem TrAt.nil (base : Nat) (w : World) : TrAt base w (.slice none 0 0) [] := ⟨World.ownsRow_nil _ _ _ _, fun m h => by cases h⟩
theorem TrAt.gr {base : Nat} {w w' : World} {v : Value} {ms : List NM} (h : TrAt base w v ms) (hg : Gr w w') : TrAt base w' v ms := ⟨Gr.owns h.own hg, fun m hm => (h.nds m hm).gr hg⟩
theorem TrAt.low {base base' : Nat} {w : World} {v : Value} {ms : List NM} (h : TrAt base w v ms) (hb : base' ≤ base) : TrAt base' w v ms := ⟨owns_low h.own hb, fun m hm => (h.nds m hm).low hb⟩
theorem TrAt.mv {base : Nat} {w w' : World} {b len : Nat} {v : Value} {ms : List NM} (h : TrAt base w v ms) (hb : b < base) (hm : Mv b len w w') : TrAt base w' v ms :=
  ⟨h.own.kept hm.gb (own_ne h.own hb), fun m hmm => (h.nds m hmm).kept hm.gb (own_ne (h.nds m hmm).own hb)⟩
theorem NdAt.ne_row {base base2 : Nat} {w : World} {m : NM} {B : Nat} (h : NdAt base w m) (ht : Ty w B base2) (hne : 59 ≠ base2) : (Value.slice m.a m.n.props.length m.c).ownBlock = none ∨ (Value.slice m.a m.n.props.length m.c).ownBlock ≠ some B := by
  cases hz : (Value.slice m.a m.n.props.length m.c).ownBlock with
  | none => exact .inl rfl
  | some g => exact .inr fun e => (owns_ty h.own hz).apart ht hne (Option.some.inj e)
theorem TrAt.box {base : Nat} {w : World} {v : Value} {ms : List NM} {B o T : Nat} {u : Value} (h : TrAt base w v ms) (ht : Ty w B T) (h1 : 59 ≠ T) (h2 : v.ownBlock = none ∨ v.ownBlock ≠ some B) : TrAt base (w.setCell ⟨B, o, none⟩ u) v ms :=
  ⟨h.own.kept (grownBy_set w B o u) h2, fun m hm => (h.nds m hm).kept (grownBy_set w B o u) ((h.nds m hm).ne_row ht h1)⟩
theorem TrAt.ne_ty {base : Nat} {w : World} {v : Value} {ms : List NM} {B T : Nat} (h : TrAt base w v ms) (ht : Ty w B T) (h1 : 57 ≠ T) : v.ownBlock = none ∨ v.ownBlock ≠ some B := by
  cases hz : v.ownBlock with
  | none => exact .inl rfl
  | some g => exact .inr fun e => (owns_ty h.own hz).apart ht h1 (Option.some.inj e)
theorem TrAt.snoc {base : Nat} {w w' : World} {v v' : Value} {ms : List NM} {m : NM} (h : TrAt base w v ms) (hg : w.grownBy w' v.ownBlock) (ho : w'.ownsRow base 57 3 v' (ms.length + 1) (ms.flatMap NM.enc ++ m.enc)) (hm : NdAt base w m) : TrAt base w' v' (ms ++ [m]) := by
  refine ⟨by rw [List.length_append, List.flatMap_append, List.flatMap_cons, List.flatMap_nil, List.append_nil]; exact ho, fun t ht => ?_⟩
  rcases List.mem_append.1 ht with ht | ht
  · exact (h.nds t ht).kept hg (owns_ne (h.nds t ht).own h.own (by decide))
  · rw [List.mem_singleton.1 ht]
    exact hm.kept hg (owns_ne hm.own h.own (by decide))
theorem prps_sl {base : Nat} {w : World} {a : Option Addr} {n c : Nat} {ps : List Prp} (h : w.ownsRow base 59 2 (.slice a n c) ps.length (ps.flatMap encP)) (hs : ∀ p ∈ ps, p.name.length ≤ 1000 ∧ p.val.length ≤ 100000) : SlOf 2 RPrp w a ps := by
  intro k hk
  obtain ⟨g, cap, e1, h1, _, hc⟩ := owns_cell h (by omega)
  cases e1
  have hf := fun j (hj : j < 2) => flat_at encP 2 (fun _ => rfl) ps k j hk hj
  have h2 : ∀ j, j < 2 → w.cell? ⟨g, k * 2 + j, none⟩ = (encP ps[k])[j]? := fun j hj => by rw [hc (k * 2 + j) (by omega)]; exact hf j hj
  have := hs _ (List.getElem_mem hk)
  refine ⟨g, 0, rfl, ⟨?_, by omega⟩, ?_, by omega⟩
  all_goals rw [Nat.zero_add]
  · rw [show k * 2 = k * 2 + 0 from rfl, h2 0 (by omega)]; rfl
  · rw [h2 1 (by omega)]; rfl
theorem TrAt.sl {base : Nat} {w : World} {ms : List NM} {a : Option Addr} {n c : Nat} (h : TrAt base w (.slice a n c) ms) : n = ms.length ∧ SlOf 3 RNod w a (ms.map NM.n) := by
  have hn : n = ms.length := by
    rcases h.own.2 with ⟨e, z⟩ | ⟨g, cap, cur, e, _⟩
    · cases e; exact z.symm
    · cases e; rfl
  refine ⟨hn, fun k hk => ?_⟩
  rw [List.length_map] at hk
  obtain ⟨g, cap, e1, h1, _, hc⟩ := owns_cell h.own (by omega)
  cases e1
  have hf := fun j (hj : j < 3) => flat_at NM.enc 3 (fun _ => rfl) ms k j hk hj
  have h2 : ∀ j, j < 3 → w.cell? ⟨g, k * 3 + j, none⟩ = (NM.enc ms[k])[j]? := fun j hj => by rw [hc (k * 3 + j) (by omega)]; exact hf j hj
  have hr := h.nds ms[k] (List.getElem_mem hk)
  have sm := hr.sm
  have q1 := sm.plo
  have q2 := sm.phi
  have q3 := sm.nam
  have q4 := sm.len
  have hcap : ms[k].n.props.length ≤ ms[k].c := owns_cap2 hr.own
  rw [List.getElem_map]
  refine ⟨g, 0, rfl, ⟨?_, by unfold Wide; omega⟩, ⟨?_, by omega⟩, ms[k].a, ms[k].c, ?_, hcap, by unfold Fit; omega, prps_sl hr.own sm.prp⟩
  all_goals rw [Nat.zero_add]
  · rw [show k * 3 = k * 3 + 0 from rfl, h2 0 (by omega)]; rfl
  · rw [h2 1 (by omega)]; rfl
  · rw [h2 2 (by omega)]; rfl
theorem infoNod : (Tryz.prog.info? 57).map (fun i => (i.zero, i.size, i.bytes)) = some (some (.agg #[.int .i64 0, .string (bs []), .slice none 0 0]), 3, 48) := by kernel_rfl
theorem infoPrp : (Tryz.prog.info? 59).map (fun i => (i.zero, i.size, i.bytes)) = some (some (.agg #[.string (bs []), .string (bs [])]), 2, 32) := by kernel_rfl
theorem gets_prps {w : World} {a : Option Addr} {ps : List Prp} (h : SlOf 2 RPrp w a ps) : Gets w a ps.length 2 (ps.flatMap encP) := by
  refine ⟨by rw [flatP_len], fun hn => ?_⟩
  cases ps with
  | nil => simp at hn
  | cons p l =>
    obtain ⟨b, o, e, _⟩ := h 0 (by simp)
    subst e
    refine ⟨_, rfl, fun j u hu => ?_⟩
    have hj2 : j < (p :: l).length * 2 := by
      have := (List.getElem?_eq_some_iff.1 hu).1
      rwa [flatP_len] at this
    obtain ⟨b2, o2, e3, c0, c1⟩ := h (j / 2) (by omega)
    cases e3
    have e2 := flat_at encP 2 (fun _ => rfl) (p :: l) (j / 2) (j % 2) (by omega) (Nat.mod_lt _ (by omega))
    rw [show j / 2 * 2 + j % 2 = j by omega, hu] at e2
    rw [Addr.add_lit]
    obtain q | q : j % 2 = 0 ∨ j % 2 = 1 := by omega
    · rw [q] at e2; simp [encP] at e2; rw [e2, ← c0.1]; congr 2; omega
    · rw [q] at e2; simp [encP] at e2; rw [e2, ← c1.1]; congr 2; omega
theorem neqP (a b c d : St) (W : World) : (binOp .neq 59 (.agg #[.string (bs a), .string (bs b)]) (.agg #[.string (bs c), .string (bs d)])).run Tryz.prog W = .ok (.bool (!(a == c && b == d))) W := by
  simp [go_sem]
  by_cases h1 : a = c <;> by_cases h2 : b = d <;> simp [h1, h2]
theorem sameN_any (x y : Nod) (pa qa : Option Addr) (pc qc : Nat) (w : World) (hx : SlOf 2 RPrp w pa x.props) (hy : SlOf 2 RPrp w qa y.props) (fx : Fit x.props.length) (fy : Fit y.props.length) :
    Calls Tryz.prog 68 #[.agg #[.int .i64 x.parent, .string (bs x.name), .slice pa x.props.length pc], .agg #[.int .i64 y.parent, .string (bs y.name), .slice qa y.props.length qc]] w (Grows w (.bool (decide (x = y)))) := by
  have HX := Lib.hid hx
  have HY := Lib.hid hy
  obtain ⟨P0, hP0⟩ : ∃ P : Ending → World → Prop, P = Grows w (.bool (decide (x = y))) := ⟨_, rfl⟩
  rw [← hP0]
  have HP0 := Lib.hid hP0
  clear hP0 hx hy
  obtain ⟨xp, xn, xs⟩ := x
  obtain ⟨yp, yn, ys⟩ := y
  simp only at HX HY fx fy ⊢
  by_cases e1 : xp = yp
  case neg =>
    have b1 : (xp != yp) = true := by simp [e1]
    go_enter Tryz.func68, Tryz.ntmps68
    go_wp2_with fail
    rw [HP0.out, decide_eq_false (p := (⟨xp, xn, xs⟩ : Nod) = ⟨yp, yn, ys⟩) (by intro h; injection h with h1 _ _; exact e1 h1)]
    exact ⟨rfl, grr⟩
  subst e1
  by_cases e2 : xn = yn
  case neg =>
    have b2 : (xn == yn) = false := by simp [e2]
    go_enter Tryz.func68, Tryz.ntmps68
    go_wp2_with fail
    rw [HP0.out, decide_eq_false (p := (⟨xp, xn, xs⟩ : Nod) = ⟨xp, yn, ys⟩) (by intro h; injection h with _ h2 _; exact e2 h2)]
    exact ⟨rfl, grr⟩
  subst e2
  by_cases e3 : xs.length = ys.length
  case neg =>
    have b3 : ((xs.length : Int) != ys.length) = true := by simp; omega
    go_enter Tryz.func68, Tryz.ntmps68
    go_wp2_with fail
    rw [HP0.out, decide_eq_false (p := (⟨xp, xn, xs⟩ : Nod) = ⟨xp, xn, ys⟩) (by intro h; injection h with _ _ h3; exact e3 (by rw [h3]))]
    exact ⟨rfl, grr⟩
  obtain ⟨n, hn⟩ : ∃ n, xs.length = n := ⟨_, rfl⟩
  have hn2 : ys.length = n := by omega
  have HN := Lib.hid hn
  have HN2 := Lib.hid hn2
  rw [hn] at fx ⊢
  rw [hn2] at fy ⊢
  unfold Fit at fx
  clear hn hn2 e3
  go_enter Tryz.func68, Tryz.ntmps68
  go_wp2_with fail
  obtain ⟨w1, hw1⟩ : ∃ W : World, Hid ((w.alloc (.cells #[.int .i64 xp, .string (bs xn), .slice pa n pc] 57)).alloc (.cells #[.int .i64 xp, .string (bs xn), .slice qa n qc] 57) = W) := ⟨_, Lib.hid rfl⟩
  obtain ⟨b1, hb1⟩ : ∃ b1, w.heap.size = b1 := ⟨_, rfl⟩
  have R1 : Hid (Row w1 b1 57 [.int .i64 xp, .string (bs xn), .slice pa n pc]) := Lib.hid (by rw [← hw1.out, ← hb1]; exact (Row.new w _ _).alloc _)
  have R2 : Hid (Row w1 (b1 + 1) 57 [.int .i64 xp, .string (bs xn), .slice qa n qc]) := Lib.hid (by
    have h := Row.new (w.alloc (.cells #[.int .i64 xp, .string (bs xn), .slice pa n pc] 57)) #[.int .i64 xp, .string (bs xn), .slice qa n qc] 57
    rw [World.size_alloc, hb1, hw1.out] at h
    exact h)
  have G1 : Hid (Gr w w1) := Lib.hid (by rw [← hw1.out]; exact ((Gr.refl w).alloc _).alloc _)
  rw [hw1.out, hb1]
  clear hw1 hb1
  go_loopw [30] (fun i wr => ∃ k : Nat, k ≤ n ∧ i = .int .i64 (k : Int) ∧ (∀ j (h1 : j < xs.length) (h2 : j < ys.length), j < k → xs[j] = ys[j]) ∧ Gr w1 wr) (fun i _ => n - (intOf i).toNat)
  case atStart => exact ⟨0, Nat.zero_le _, rfl, fun j _ _ h => by omega, Gr.refl _⟩
  case round =>
    obtain ⟨k, hk, rfl, heq, hg⟩ := hrel
    have HE := Lib.hid heq
    have HG := Lib.hid hg
    clear heq hg
    by_cases hlt : k < n
    · have hki : (k : Int) < n := by omega
      have kx : k < xs.length := by have := HN.out; omega
      have ky : k < ys.length := by have := HN2.out; omega
      obtain ⟨xb, xo, rfl, ⟨c0, _⟩, ⟨c1, _⟩⟩ := HX.out.gr RPrp.mono (G1.out.trans HG.out) k kx
      obtain ⟨yb, yo, rfl, ⟨d0, _⟩, ⟨d1, _⟩⟩ := HY.out.gr RPrp.mono (G1.out.trans HG.out) k ky
      obtain ⟨u, hu⟩ : ∃ u, xs[k]'kx = u := ⟨_, rfl⟩
      obtain ⟨v, hv⟩ : ∃ v, ys[k]'ky = v := ⟨_, rfl⟩
      rw [hu] at c0 c1
      rw [hv] at d0 d1
      have HU := Lib.hid hu
      have HV := Lib.hid hv
      have hx1 := has_of_cell c0
      have hx2 := has_of_cell d0
      have r1 := (R1.out.gr HG.out).cell 2 (by simp)
      have r2 := (R2.out.gr HG.out).cell 2 (by simp)
      simp only [List.getElem_cons_succ, List.getElem_cons_zero] at r1 r2
      have hx3 := has_of_cell r1
      have hx4 := has_of_cell r2
      clear hu hv
      obtain ⟨un, uv⟩ := u
      obtain ⟨vn, vv⟩ := v
      simp only at c0 c1 d0 d1
      have NQ := neqP un uv vn vv
      obtain ⟨q, hq⟩ : ∃ q, (un == vn && uv == vv) = q := ⟨_, rfl⟩
      rw [hq] at NQ
      have HQ := Lib.hid hq
      clear hq
      go_upto_region 6 with fail
      go_quiet (fail)
      cases q with
      | true =>
        have e5 : un = vn ∧ uv = vv := by have := HQ.out; simpa using this
        go_wp2_with fail
        refine ⟨⟨k + 1, by omega, by go_num, fun j h1 h2 h3 => ?_, HG.out.drewN _⟩, by simp [intOf]; omega⟩
        rcases Nat.lt_or_ge j k with q | q
        · exact HE.out j h1 h2 q
        · obtain rfl : j = k := by omega
          rw [HU.out, HV.out, e5.1, e5.2]
      | false =>
        go_wp2_with fail
        rw [HP0.out, decide_eq_false (p := (⟨xp, xn, xs⟩ : Nod) = ⟨xp, xn, ys⟩) (by
          intro h
          injection h with _ _ h3
          subst h3
          have e6 := HU.out.symm.trans HV.out
          injection e6 with e7 e8
          have := HQ.out
          rw [e7, e8] at this
          simp at this)]
        exact ⟨rfl, (G1.out.trans HG.out).drewN _⟩
    · obtain rfl : k = n := by omega
      have EQ : xs = ys := List.ext_getElem (by have := HN.out; have := HN2.out; omega) (fun j h1 h2 => HE.out j h1 h2 (by have := HN.out; omega))
      subst EQ
      go_wp2_with fail
      rw [HP0.out]
      exact ⟨by simp, G1.out.trans HG.out⟩
theorem rsame_any (xs ys : Tr) (pa qa : Option Addr) (pc qc : Nat) (w : World) (hx : SlOf 3 RNod w pa xs) (hy : SlOf 3 RNod w qa ys) (fx : Fit xs.length) (fy : Fit ys.length) :
    Calls Tryz.prog 26 #[.agg #[.slice pa xs.length pc], .agg #[.slice qa ys.length qc]] w (Grows w (.bool (decide (xs = ys)))) := by
  have HX := Lib.hid hx
  have HY := Lib.hid hy
  obtain ⟨P0, hP0⟩ : ∃ P : Ending → World → Prop, P = Grows w (.bool (decide (xs = ys))) := ⟨_, rfl⟩
  rw [← hP0]
  have HP0 := Lib.hid hP0
  clear hP0 hx hy
  by_cases e3 : xs.length = ys.length
  case neg =>
    have b3 : ((xs.length : Int) != ys.length) = true := by simp; omega
    go_enter Tryz.func26, Tryz.ntmps26
    go_wp2_with fail
    rw [HP0.out, decide_eq_false (p := xs = ys) (by intro h; exact e3 (by rw [h]))]
    exact ⟨rfl, grr⟩
  obtain ⟨n, hn⟩ : ∃ n, xs.length = n := ⟨_, rfl⟩
  have hn2 : ys.length = n := by omega
  have HN := Lib.hid hn
  have HN2 := Lib.hid hn2
  rw [hn] at fx ⊢
  rw [hn2] at fy ⊢
  unfold Fit at fx
  clear hn hn2 e3
  go_enter Tryz.func26, Tryz.ntmps26
  go_wp2_with fail
  obtain ⟨w1, hw1⟩ : ∃ W : World, Hid ((w.alloc (.cells #[.slice pa n pc] 25)).alloc (.cells #[.slice qa n qc] 25) = W) := ⟨_, Lib.hid rfl⟩
  obtain ⟨b1, hb1⟩ : ∃ b1, w.heap.size = b1 := ⟨_, rfl⟩
  have R1 : Hid (Row w1 b1 25 [.slice pa n pc]) := Lib.hid (by rw [← hw1.out, ← hb1]; exact (Row.new w _ _).alloc _)
  have R2 : Hid (Row w1 (b1 + 1) 25 [.slice qa n qc]) := Lib.hid (by
    have h := Row.new (w.alloc (.cells #[.slice pa n pc] 25)) #[.slice qa n qc] 25
    rw [World.size_alloc, hb1, hw1.out] at h
    exact h)
  have G1 : Hid (Gr w w1) := Lib.hid (by rw [← hw1.out]; exact ((Gr.refl w).alloc _).alloc _)
  rw [hw1.out, hb1]
  clear hw1 hb1
  go_loopw [16] (fun i wr => ∃ k : Nat, k ≤ n ∧ i = .int .i64 (k : Int) ∧ (∀ j (h1 : j < xs.length) (h2 : j < ys.length), j < k → xs[j] = ys[j]) ∧ Gr w1 wr) (fun i _ => n - (intOf i).toNat)
  case atStart => exact ⟨0, Nat.zero_le _, rfl, fun j _ _ h => by omega, Gr.refl _⟩
  case round =>
    obtain ⟨k, hk, rfl, heq, hg⟩ := hrel
    have HE := Lib.hid heq
    have HG := Lib.hid hg
    clear heq hg
    by_cases hlt : k < n
    · have hki : (k : Int) < n := by omega
      have kx : k < xs.length := by have := HN.out; omega
      have ky : k < ys.length := by have := HN2.out; omega
      obtain ⟨xb, xo, rfl, ⟨c0, _⟩, ⟨c1, _⟩, xa, xc, c2, _, cf, cs⟩ := HX.out.gr RNod.mono (G1.out.trans HG.out) k kx
      obtain ⟨yb, yo, rfl, ⟨d0, _⟩, ⟨d1, _⟩, ya, yc, d2, _, df, ds⟩ := HY.out.gr RNod.mono (G1.out.trans HG.out) k ky
      obtain ⟨u, hu⟩ : ∃ u, xs[k]'kx = u := ⟨_, rfl⟩
      obtain ⟨v, hv⟩ : ∃ v, ys[k]'ky = v := ⟨_, rfl⟩
      rw [hu] at c0 c1 c2 cf cs
      rw [hv] at d0 d1 d2 df ds
      have HU := Lib.hid hu
      have HV := Lib.hid hv
      have SN : Hid (∀ W, Gr wr W → Calls Tryz.prog 68 #[.agg #[.int .i64 u.parent, .string (bs u.name), .slice xa u.props.length xc], .agg #[.int .i64 v.parent, .string (bs v.name), .slice ya v.props.length yc]] W (Grows W (.bool (decide (u = v))))) := Lib.hid (fun W hg => sameN_any u v xa ya xc yc W (cs.gr RPrp.mono hg) (ds.gr RPrp.mono hg) cf df)
      have hx1 := has_of_cell c0
      have hx2 := has_of_cell d0
      have r1 := (R1.out.gr HG.out).cell 0 (by simp)
      have r2 := (R2.out.gr HG.out).cell 0 (by simp)
      simp only [List.getElem_cons_zero] at r1 r2
      have hx3 := has_of_cell r1
      have hx4 := has_of_cell r2
      obtain ⟨q, hq⟩ : ∃ q, decide (u = v) = q := ⟨_, rfl⟩
      rw [hq] at SN
      have HQ := Lib.hid hq
      clear hu hv hq cs ds cf df
      go_upto_region 6 with fail
      refine wp_region_grows (by kernel_rfl) (by kernel_rfl) ?_
      repeat (go_big_quiet_step (first | (go_at_call 68; exact calls_grows (SN.out _ grr)) | fail))
      refine wpQuiet_nil ?_
      rintro _ ⟨⟨O, dd⟩, rfl⟩
      obtain ⟨w5, hw5⟩ : ∃ W5 : World, Hid (W5 = xt wr O dd) := ⟨_, Lib.hid rfl⟩
      rw [← hw5.out]
      have G5 : Hid (Gr wr w5) := Lib.hid (by rw [hw5.out]; exact (Gr.refl _).xt O dd)
      clear hw5 SN
      cases q with
      | true =>
        have e5 : u = v := by have := HQ.out; simpa using this
        go_wp2_with fail
        refine ⟨⟨k + 1, by omega, by go_num, fun j h1 h2 h3 => ?_, HG.out.trans G5.out⟩, by simp [intOf]; omega⟩
        rcases Nat.lt_or_ge j k with q | q
        · exact HE.out j h1 h2 q
        · obtain rfl : j = k := by omega
          rw [HU.out, HV.out, e5]
      | false =>
        go_wp2_with fail
        rw [HP0.out, decide_eq_false (p := xs = ys) (by
          intro h
          subst h
          have e6 := HU.out.symm.trans HV.out
          have := HQ.out
          rw [e6] at this
          simp at this)]
        exact ⟨rfl, G1.out.trans (HG.out.trans G5.out)⟩
    · obtain rfl : k = n := by omega
      have EQ : xs = ys := List.ext_getElem (by have := HN.out; have := HN2.out; omega) (fun j h1 h2 => HE.out j h1 h2 (by have := HN.out; omega))
      subst EQ
      go_wp2_with fail
      rw [HP0.out]
      exact ⟨by simp, G1.out.trans HG.out⟩
def TabV (w : World) : Prop := w.cell? ⟨5, 15, none⟩ = some (.int .u8 4)
theorem TabV.gr {w w' : World} (h : TabV w) (hg : Gr w w') : TabV w' := cell_gr hg h
theorem tz64_any (w : World) (h : TabV w) : Calls Tryz.prog 190 #[.int .u64 16] w fun e w' => e = .returned (.int .i64 4) ∧ w = w' := by
  have hx := has_of_cell h
  unfold TabV at h
  go_enter Tryz.func190, Tryz.ntmps190
  have e1 : IntKind.u64.wrap (-16) = 18446744073709551600 := by decide
  have e2 : bits BinOp.and IntKind.u64 16 18446744073709551600 = 16 := by decide
  have e3 : IntKind.u64.wrap (16 * 285870213051353865) = 4573923408821661840 := by decide
  have e4 : (4573923408821661840 : Int) / 288230376151711744 = 15 := by decide
  go_wp2_with fail
  go_ret
  exact ⟨rfl, rfl⟩
theorem tz_any (w : World) (h : TabV w) : Calls Tryz.prog 184 #[.int .u64 16] w fun e w' => e = .returned (.int .i64 4) ∧ w = w' := by
  go_enter Tryz.func184, Tryz.ntmps184
  go_wp2_with fail
  refine (tz64_any w h).mono ?_
  rintro e w' ⟨rfl, rfl⟩
  go_wp2_with fail
  go_ret
  exact ⟨rfl, rfl⟩
theorem pow2_any (w : World) : Calls Tryz.prog 183 #[.int .i64 16] w fun e w' => e = .returned (.bool true) ∧ w = w' := by
  have e1 : bits BinOp.and IntKind.i64 16 15 = 0 := by decide
  go_enter Tryz.func183, Tryz.ntmps183
  go_wp2_with fail
  go_ret
  exact ⟨rfl, rfl⟩
def digs : Nat → Nat → St
  | _, 0 => []
  | n, j + 1 => hexD (n / 16 ^ j % 16) :: digs n j
theorem digs_len (n : Nat) : ∀ j, (digs n j).length = j
  | 0 => rfl
  | j + 1 => by rw [digs, List.length_cons, digs_len n j]
theorem digs_last (n : Nat) : ∀ j, digs n (j + 1) = digs (n / 16) j ++ [hexD (n % 16)]
  | 0 => by simp [digs]
  | j + 1 => by
    rw [digs, digs_last n j, digs]
    rw [Nat.pow_succ, Nat.mul_comm, ← Nat.div_div_eq_div_mul]
    rfl
theorem hexF_digs : ∀ (f j n : Nat), j < f → 0 < n → n / 16 ^ j < 16 → 0 < n / 16 ^ j → hexF f n = digs n (j + 1)
  | 0, j, n, h, _, _, _ => by omega
  | f + 1, 0, n, h, h0, h1, h2 => by
    simp at h1 h2
    rw [hexF, if_neg (by omega), digs_last]
    have e : n / 16 = 0 := by omega
    rw [e]
    cases f <;> simp [hexF, digs]
  | f + 1, j + 1, n, h, h0, h1, h2 => by
    have e : n / 16 ^ (j + 1) = n / 16 / 16 ^ j := by rw [Nat.pow_succ, Nat.mul_comm, Nat.div_div_eq_div_mul]
    rw [e] at h1 h2
    have h3 : 0 < n / 16 := by
      rcases Nat.eq_zero_or_pos (n / 16) with q | q
      · rw [q, Nat.zero_div] at h2; omega
      · exact q
    rw [hexF, if_neg (by omega), hexF_digs f j (n / 16) (by omega) h3 h1 h2, ← digs_last]
theorem digB (d : Nat) (h16 : d < 16) (h : d < (ByteArray.mk #[48, 49, 50, 51, 52, 53, 54, 55, 56, 57, 97, 98, 99, 100, 101, 102, 103, 104, 105, 106, 107, 108, 109, 110, 111, 112, 113, 114, 115, 116, 117, 118, 119, 120, 121, 122]).size) : (ByteArray.mk #[48, 49, 50, 51, 52, 53, 54, 55, 56, 57, 97, 98, 99, 100, 101, 102, 103, 104, 105, 106, 107, 108, 109, 110, 111, 112, 113, 114, 115, 116, 117, 118, 119, 120, 121, 122])[d]'h = hexD d := by
  have q : ∀ k : Fin 16, (ByteArray.mk #[48, 49, 50, 51, 52, 53, 54, 55, 56, 57, 97, 98, 99, 100, 101, 102, 103, 104, 105, 106, 107, 108, 109, 110, 111, 112, 113, 114, 115, 116, 117, 118, 119, 120, 121, 122])[k.val]'(Nat.lt_of_lt_of_le k.isLt (by decide)) = hexD k.val := by decide
  exact q ⟨d, h16⟩
theorem strs_nat (l : St) : strOfNums (l.map (fun c => (c.toNat : Int))) = bs l := by
  unfold strOfNums bs
  congr 1
  congr 1
  rw [List.map_map]
  conv => rhs; rw [← List.map_id l]
  apply List.map_congr_left
  intro c _
  simp
def arrB (n j : Nat) : List Value := List.replicate (65 - j) (.int .u8 0) ++ (digs n j).map (fun c => .int .u8 (c.toNat : Int))
theorem arrB_len (n j : Nat) (h : j ≤ 65) : (arrB n j).length = 65 := by unfold arrB; rw [List.length_append, List.length_replicate, List.length_map, digs_len]; omega
theorem arrB_next (n j : Nat) (h : j < 65) : (arrB n j).set (65 - (j + 1)) (.int .u8 ((hexD (n / 16 ^ j % 16)).toNat : Int)) = arrB n (j + 1) := by
  unfold arrB
  rw [List.set_append_left _ _ (by rw [List.length_replicate]; omega)]
  have e : List.replicate (65 - j) (Value.int .u8 0) = List.replicate (65 - (j + 1)) (Value.int .u8 0) ++ [Value.int .u8 0] := by
    rw [show 65 - j = 65 - (j + 1) + 1 by omega, List.replicate_succ']
  rw [e, List.set_append_right _ _ (by rw [List.length_replicate]; exact Nat.le_refl _), List.length_replicate, Nat.sub_self, digs]
  simp
theorem fbits_any (n : Nat) (w : World) (h10 : 10 ≤ n) (hn : n < 4294967296) (h : TabV w) :
    Calls Tryz.prog 171 #[.slice none 0 0, .int .u64 (n : Int), .int .i64 16, .bool false, .bool false] w fun e w' => e = .returned (.tuple #[.slice none 0 0, .string (bs (hexF 8 n))]) ∧ Gr w w' := by
  have H := Lib.hid h
  clear h
  go_enter Tryz.func171, Tryz.ntmps171
  go_wp2_with (first
    | (go_at_call 183; refine (pow2_any _).mono ?_; rintro e w' ⟨rfl, rfl⟩)
    | (go_at_call 184; refine (tz_any _ (H.out.gr ((Gr.refl w).alloc _))).mono ?_; rintro e w' ⟨rfl, rfl⟩)
    | fail)
  obtain ⟨AB, hAB⟩ : ∃ AB, w.heap.size = AB := ⟨_, rfl⟩
  obtain ⟨w1, hw1⟩ : ∃ W : World, Hid (w.alloc (.cells Tryz.zeroCells209 209) = W) := ⟨_, Lib.hid rfl⟩
  have HAB := Lib.hid hAB
  have g1 : Hid (Gr w w1) := Lib.hid (by rw [← hw1.out]; exact (Gr.refl w).alloc _)
  have R1 : Hid (Row w1 AB 209 (arrB n 0)) := Lib.hid (by
    have := Row.new w Tryz.zeroCells209 209
    rw [hw1.out, hAB] at this
    have e : Tryz.zeroCells209.toList = arrB n 0 := by unfold arrB; rw [digs]; kernel_rfl
    rwa [e] at this)
  rw [hw1.out, hAB]
  clear hw1 hAB
  go_loopw [1, 13] (fun u i wr => ∃ j : Nat, j ≤ 7 ∧ u = .int .u64 ((n / 16 ^ j : Nat) : Int) ∧ i = .int .i64 ((65 - j : Nat) : Int) ∧ 0 < n / 16 ^ j ∧ Row wr AB 209 (arrB n j) ∧ Gr w wr) (fun u _ _ => (intOf u).toNat)
  case atStart => exact ⟨0, by omega, by simp, rfl, by simp; omega, R1.out, g1.out⟩
  case round =>
    obtain ⟨j, hj, rfl, rfl, hp, hr, hg⟩ := hrel
    have RR := Lib.hid hr
    have HG := Lib.hid hg
    obtain ⟨m, hm⟩ : ∃ m, n / 16 ^ j = m := ⟨_, rfl⟩
    have HM := Lib.hid hm
    rw [hm] at hp ⊢
    clear hr hg hm
    by_cases h16 : 16 ≤ m
    · have hm16 : (16 : Int) ≤ (m : Int) := by omega
      obtain ⟨q, hq⟩ : ∃ q, 65 - j = q + 1 := ⟨64 - j, by omega⟩
      have HQ := Lib.hid hq
      rw [hq]
      have hq64 : q < 65 := by omega
      have hmn : m < 4294967296 := by rw [← HM.out]; exact Nat.lt_of_le_of_lt (Nat.div_le_self _ _) hn
      have hand : bits BinOp.and IntKind.u64 (m : Int) 15 = ((m % 16 : Nat) : Int) := by
        have := bits_and_u64_nat m 15 (by omega) (by omega)
        rw [show m &&& 15 = m % 16 from Nat.and_two_pow_sub_one_eq_mod m 4] at this
        exact this
      obtain ⟨d, hd⟩ : ∃ d, m % 16 = d := ⟨_, rfl⟩
      have d16 : d < 16 := by omega
      have HD := Lib.hid hd
      rw [hd] at hand
      have x0 : wr.cell? ⟨AB, q, none⟩ = some (.int .u8 0) := by
        have := RR.out.cell q (by rw [arrB_len _ _ (by omega)]; omega)
        rw [this]
        simp [arrB]
        rw [List.getElem_append_left (by simp; omega)]
        simp
      have xf := RR.out.free q
      have hx := has_of_cell x0
      clear hq hd
      have hj6 : j + 1 ≤ 7 := by
        rcases Nat.lt_or_ge j 7 with q | q
        · exact q
        · obtain rfl : j = 7 := by omega
          have := HM.out
          omega
      have BQ := Lib.hid (digB d d16)
      go_wp2_with fail
      refine ⟨⟨j + 1, hj6, ?_, ?_, ?_, ?_, ?_⟩, ?_⟩
      · rw [Nat.pow_succ, ← Nat.div_div_eq_div_mul, HM.out]; rfl
      · rw [show 65 - (j + 1) = q from by have := HQ.out; omega]
      · rw [Nat.pow_succ, ← Nat.div_div_eq_div_mul, HM.out]; omega
      · rw [BQ.out]
        have h1 := RR.out.set q (.int .u8 ((hexD d).toNat : Int))
        have e := arrB_next n j (by omega)
        rw [show 65 - (j + 1) = q from by have := HQ.out; omega, HM.out, HD.out] at e
        rw [e] at h1
        exact h1
      · exact HG.out.setc (by have := HAB.out; omega)
      · simp [intOf]; omega
    · have hm16 : ¬ (16 : Int) ≤ (m : Int) := by omega
      have d16 : m < 16 := by omega
      obtain ⟨q, hq⟩ : ∃ q, 65 - j = q + 1 := ⟨64 - j, by omega⟩
      have HQ := Lib.hid hq
      rw [hq]
      have hq64 : q < 65 := by omega
      have qj : Hid (q + (j + 1) = 65) := Lib.hid (by omega)
      have x0 : wr.cell? ⟨AB, q, none⟩ = some (.int .u8 0) := by
        have := RR.out.cell q (by rw [arrB_len _ _ (by omega)]; omega)
        rw [this]
        simp [arrB]
        rw [List.getElem_append_left (by simp; omega)]
        simp
      have xf := RR.out.free q
      have hx := has_of_cell x0
      have BQ := Lib.hid (digB m d16)
      clear hq
      have R2 : Hid (Row (wr.setCell ⟨AB, q, none⟩ (.int .u8 ((hexD m).toNat : Int))) AB 209 (arrB n (j + 1))) := Lib.hid (by
        have h1 := RR.out.set q (.int .u8 ((hexD m).toNat : Int))
        have e := arrB_next n j (by omega)
        rw [show 65 - (j + 1) = q from by have := HQ.out; omega, HM.out, Nat.mod_eq_of_lt d16] at e
        rw [e] at h1
        exact h1)
      have G2 : Hid (Gr w (wr.setCell ⟨AB, q, none⟩ (.int .u8 ((hexD m).toNat : Int)))) := Lib.hid (HG.out.setc (by have := HAB.out; omega))
      obtain ⟨w2, hw2⟩ : ∃ W, wr.setCell ⟨AB, q, none⟩ (.int .u8 ((hexD m).toNat : Int)) = W := ⟨_, rfl⟩
      rw [hw2] at R2 G2
      have HW2 := Lib.hid hw2
      clear hw2
      have hcv := run_convert_bytes_arg (P := Tryz.prog) w2 79 5 Tryz.underlying79 Tryz.underlying5 AB q (j + 1) (j + 1) ((digs n (j + 1)).map (fun c => (c.toNat : Int))) (by rw [List.length_map, digs_len])
        (fun i hi => by
          have hl : i < (digs n (j + 1)).length := by rw [digs_len]; exact hi
          have := R2.out.cell (q + i) (by rw [arrB_len _ _ (by omega)]; have := qj.out; omega)
          rw [this]
          have e : (arrB n (j + 1))[q + i]? = some (.int .u8 (((digs n (j + 1))[i]).toNat : Int)) := by
            unfold arrB
            rw [List.getElem?_append_right (by rw [List.length_replicate]; have := qj.out; omega), List.length_replicate, show q + i - (65 - (j + 1)) = i by have := qj.out; omega, List.getElem?_map, List.getElem?_eq_getElem hl]
            rfl
          rw [← List.getElem?_eq_getElem, e, List.getD_eq_getElem?_getD, List.getElem?_map, List.getElem?_eq_getElem hl]
          rfl) 9 Tryz.underlying9
      rw [strs_nat, ← hexF_digs 8 j n (by omega) (by omega) (by rw [HM.out]; exact d16) (by rw [HM.out]; exact hp)] at hcv
      have e65 : 65 - q = j + 1 := by have := qj.out; omega
      go_upto_region 28 with fail
      rw [BQ.out, HW2.out]
      have hx2 : Has w2 AB := by have := R2.out.has; exact this
      have ha : Tryz.prog.arrayLen 209 = 65 := by kernel_rfl
      have hq65 : (q : Int) ≤ 65 := by omega
      have hqn : ¬ 65 = q := by have := qj.out; omega
      have hsl : (Instr.sliceAt 209 (.pointer (some ⟨AB, 0, none⟩)) (some (.int .i64 (q : Int))) none none).run Tryz.prog w2 = .ok (.slice (some ⟨AB, q, none⟩) (j + 1) (j + 1)) w2 := by
        rw [run_sliceAt_array_l (P := Tryz.prog) w2 209 ⟨AB, 0, none⟩ (by kernel_rfl) .i64 (q : Int) (by omega) (by rw [ha]; omega), ha]
        have es : (sizeOf (Tryz.prog.elem 209)).run Tryz.prog w2 = .ok 1 w2 := by kernel_rfl
        rw [es]
        simp [slicedAt, e65, hqn, Addr.add]
        have := qj.out; omega
      go_wp2_with fail
      exact bodyPost_ret (results_tmp2 rfl _ _ _) rfl ⟨rfl, G2.out⟩
theorem ifmt_any (n : Nat) (w : World) (h10 : 10 ≤ n) (hn : n < 4294967296) (h : TabV w) :
    Calls Tryz.prog 147 #[.int .i64 (n : Int), .int .i64 16] w fun e w' => e = .returned (.string (bs (hexF 8 n))) ∧ Gr w w' := by
  have H := Lib.hid h
  have n0 : ¬ (n : Int) < 0 := by omega
  clear h
  go_enter Tryz.func147, Tryz.ntmps147
  go_wp2_with fail
  refine (fbits_any n w h10 hn H.out).mono ?_
  rintro e w1 ⟨rfl, hg⟩
  have G := Lib.hid hg
  clear hg
  go_wp2_with fail
  go_ret
  exact ⟨rfl, G.out⟩
theorem sfmt_any (n : Nat) (w : World) (h10 : 10 ≤ n) (hn : n < 4294967296) (h : TabV w) :
    Calls Tryz.prog 100 #[.int .i64 (n : Int), .int .i64 16] w fun e w' => e = .returned (.string (bs (hexF 8 n))) ∧ Gr w w' := by
  go_enter Tryz.func100, Tryz.ntmps100
  go_wp2_with fail
  refine (ifmt_any n w h10 hn h).mono ?_
  rintro e w1 ⟨rfl, hg⟩
  have G := Lib.hid hg
  clear hg
  go_wp2_with fail
  go_ret
  exact ⟨rfl, G.out⟩
theorem dec_small : ∀ i, i < 10 → Lib.decDigits i = [UInt8.ofNat (48 + i)] := by
  intro i hi
  rw [Lib.decDigits, dif_pos hi]
theorem pfmt_any (n : Nat) (w : World) (hn : n < 4294967296) (h : TabV w) :
    Calls Tryz.prog 53 #[.int .i64 (n : Int)] w fun e w' => e = .returned (.string (bs (fmtN n))) ∧ Gr w w' := by
  have H := Lib.hid h
  have n0 : ¬ (n : Int) < 0 := by omega
  have n0b : decide ((n : Int) < 0) = false := decide_eq_false n0
  have n1 : ¬ (4294967295 : Int) < (n : Int) := by omega
  clear h
  by_cases h10 : n < 10
  · have h10i : (n : Int) < 10 := by omega
    go_enter Tryz.func53, Tryz.ntmps53
    go_wp2_with (go_at_call 99; refine (Tryz.strconv_Itoa_small n (by omega) w).mono ?_; rintro e w' ⟨rfl, rfl⟩)
    go_ret
    refine ⟨?_, Gr.refl _⟩
    rw [dec_small n h10]
    unfold fmtN
    rw [if_pos h10]; rfl
  · have h10i : ¬ (n : Int) < 10 := by omega
    have hl : (hexF 8 n).length ≤ 8 := hexF_len 8 n
    go_enter Tryz.func53, Tryz.ntmps53
    go_wp2_with (go_at_call 100; refine (sfmt_any n w (by omega) hn H.out).mono ?_; rintro e w1 ⟨rfl, hg⟩; have G := Lib.hid hg; clear hg)
    go_ret
    refine ⟨?_, G.out⟩
    unfold fmtN
    rw [if_neg h10, show (⟨#[48, 120]⟩ : ByteArray) = bs [48, 120] from rfl, bs_append]
    rfl
def strLen : Value → Nat
  | .string s => s.size
  | _ => 0
def GivesCells (w : World) (v : St) (e : Ending) (w' : World) : Prop :=
  if cellsOk v = true then ∃ x, e = .returned (.tuple #[x, .bool true]) ∧ w'.ownsRow w.heap.size 3 1 x (cellsL v).length (nums (cellsL v)) ∧ Gr w w'
  else e = .returned (.tuple #[.slice none 0 0, .bool false]) ∧ Gr w w'
theorem cells_step (v : St) (h : v.length % 4 = 0) (k : Nat) (hk : k * 4 < v.length) : ∃ c0 c1 c2 c3 r, v.drop (k * 4) = c0 :: c1 :: c2 :: c3 :: r ∧ r = v.drop ((k + 1) * 4) ∧ (cellsL v).take (k + 1) = (cellsL v).take k ++ [((num4 c0 c1 c2 c3 : Nat) : Int)] := by
  induction k generalizing v with
  | zero =>
    match v, h, hk with
    | [], _, hk => simp at hk
    | [_], h, _ => simp at h
    | [_, _], h, _ => simp at h
    | [_, _, _], h, _ => simp at h
    | a :: b :: c :: d :: r, _, _ => exact ⟨a, b, c, d, r, rfl, by simp, by simp [cellsL]⟩
  | succ k ih =>
    match v, h, hk with
    | [], _, hk => simp at hk
    | [_], h, _ => simp at h
    | [_, _], h, _ => simp at h
    | [_, _, _], h, _ => simp at h
    | a :: b :: c :: d :: r, h, hk =>
      obtain ⟨c0, c1, c2, c3, r', e1, e2, e3⟩ := ih r (by simp only [List.length_cons] at h; omega) (by simp only [List.length_cons] at hk; omega)
      refine ⟨c0, c1, c2, c3, r', ?_, ?_, ?_⟩
      · rw [← e1, show (k + 1) * 4 = k * 4 + 4 by omega]; simp
      · rw [e2, show (k + 1 + 1) * 4 = (k + 1) * 4 + 4 by omega]; simp
      · rw [cellsL, List.take_succ_cons, e3, List.take_succ_cons]; rfl
theorem cells_any (v : St) (w : World) (hf : v.length ≤ 1000000) : Calls Tryz.prog 19 #[.string (bs v)] w (GivesCells w v) := by
  obtain ⟨i0, hi, hz0, hz1, hz2⟩ := info_parts infoInt
  by_cases hok : cellsOk v = true
  · have h1 : v.isEmpty = false := by simp [cellsOk] at hok; simpa using hok.1
    have h2' : v.length % 4 = 0 := by simp [cellsOk] at hok; exact hok.2
    have h2 : (v.length : Int).tmod 4 = 0 := by rw [Int.tmod_eq_emod_of_nonneg (by omega)]; omega
    have H2 := Lib.hid h2'
    have hll : (cellsL v).length * 4 = v.length := by rw [cellsL_length]; omega
    have HLL := Lib.hid hll
    have GC : Hid (∀ x w', w'.ownsRow w.heap.size 3 1 x (cellsL v).length (nums (cellsL v)) → Gr w w' → GivesCells w v (.returned (.tuple #[x, .bool true])) w') := Lib.hid fun x w' o g => by unfold GivesCells; rw [if_pos hok]; exact ⟨x, rfl, o, g⟩
    clear hok h2' hll
    go_enter Tryz.func19, Tryz.ntmps19
    go_wp2_with fail
    go_loopw [0, 4] (fun s x wr => ∃ k : Nat, k ≤ (cellsL v).length ∧ s = .string (bs (v.drop (k * 4))) ∧ wr.ownsRow w.heap.size 3 1 x ((cellsL v).take k).length (nums ((cellsL v).take k)) ∧ Gr w wr) (fun s _ _ => strLen s)
    case atStart => exact ⟨0, Nat.zero_le _, by simp, World.ownsRow_nil _ _ _ _, Gr.refl _⟩
    case round =>
      obtain ⟨k, hk, rfl, ho, hg⟩ := hrel
      have HO := Lib.hid ho
      have HG := Lib.hid hg
      clear ho hg
      by_cases hlt : k < (cellsL v).length
      · obtain ⟨c0, c1, c2, c3, r, e1, e2, e3⟩ := cells_step v H2.out k (by have := HLL.out; omega)
        have E2 := Lib.hid e2
        have E3 := Lib.hid e3
        rw [e1]
        have RL : r.length ≤ 1000000 := by rw [e2]; simp; omega
        clear e1 e2 e3
        go_wp2_with fail
        refine wp_code_eq (c := Code.region 6 (regIn 6 Tryz.f19) true) (by kernel_rfl) (cl6 (wb := w) (zs := (cellsL v).take k) HO.out HG.out (by rw [List.length_take]; have := HLL.out; omega) RL ?_)
        intro t4 t17 t18 t19 t20 t21 t22 t23 t24 t25 t26 t27 t28 t29 t30 t31 t32 t33 t34 t35 t36 t37 wx ho2 hg2
        have HO2 := Lib.hid ho2
        have HG2 := Lib.hid hg2
        unfold cl6A
        clear ho2 hg2
        have l4 : (4 : Int) ≤ (r.length : Int) + 1 + 1 + 1 + 1 := by omega
        go_wp2_with fail
        go_roundw
        case rel =>
          refine ⟨k + 1, by omega, ?_, ?_, HG2.out⟩
          · rw [E2.out]
          · rw [E3.out, List.length_append]; exact HO2.out
        case measure => simp [strLen]; omega
      · obtain rfl : k = (cellsL v).length := by omega
        have e : v.drop ((cellsL v).length * 4) = [] := by rw [HLL.out]; simp
        rw [e]
        have HO3 : Hid (wr.ownsRow w.heap.size 3 1 u4 (cellsL v).length (nums (cellsL v))) := Lib.hid (by have := HO.out; rwa [List.take_length] at this)
        clear HO e
        go_wp2_with fail
        refine bodyPost_ret (v := .tuple #[u4, .bool true]) (by simp [results, Tryz.results19, go_sem]) rfl ?_
        exact GC.out _ _ HO3.out HG.out
  · have GC : Hid (∀ w', Gr w w' → GivesCells w v (.returned (.tuple #[.slice none 0 0, .bool false])) w') := Lib.hid fun w' g => by unfold GivesCells; rw [if_neg hok]; exact ⟨rfl, g⟩
    by_cases h0 : v = []
    · have h1 : v.isEmpty = true := by simp [h0]
      clear hok h0
      go_enter Tryz.func19, Tryz.ntmps19
      go_wp2_with fail
      refine bodyPost_ret (v := .tuple #[.slice none 0 0, .bool false]) (by simp [results, Tryz.results19, go_sem]) rfl ?_
      exact GC.out _ (Gr.refl _)
    · have h1 : v.isEmpty = false := by simpa using h0
      have h2' : v.length % 4 ≠ 0 := by simp [cellsOk] at hok; exact hok h0
      have h2 : ((v.length : Int).tmod 4 == 0) = false := by rw [beq_eq_false_iff_ne, Int.tmod_eq_emod_of_nonneg (by omega)]; omega
      have h3 : ((v.length : Int).tmod 4 != 0) = true := by rw [bne, h2]; rfl
      clear hok h0
      go_enter Tryz.func19, Tryz.ntmps19
      go_wp2_with fail
      refine bodyPost_ret (v := .tuple #[.slice none 0 0, .bool false]) (by simp [results, Tryz.results19, go_sem]) rfl ?_
      exact GC.out _ (Gr.refl _)
theorem str4 (n : Nat) : strOfNums [(n : Int) / 16777216, (n : Int) / 65536 % 256, (n : Int) / 256 % 256, (n : Int) % 256] = bs (cell4 n) := by
  have e1 : ((n : Int) / 16777216).toNat = n / 16777216 := by omega
  have e2 : ((n : Int) / 65536 % 256).toNat = n / 65536 % 256 := by omega
  have e3 : ((n : Int) / 256 % 256).toNat = n / 256 % 256 := by omega
  have e4 : ((n : Int) % 256).toNat = n % 256 := by omega
  have m2 : UInt8.ofNat (n / 65536 % 256) = UInt8.ofNat (n / 65536) := UInt8.toNat_inj.1 (by simp)
  have m3 : UInt8.ofNat (n / 256 % 256) = UInt8.ofNat (n / 256) := UInt8.toNat_inj.1 (by simp)
  have m4 : UInt8.ofNat (n % 256) = UInt8.ofNat n := UInt8.toNat_inj.1 (by simp)
  unfold strOfNums bs cell4
  simp only [List.map_cons, List.map_nil, e1, e2, e3, e4, m2, m3, m4]
def GivesTr (w : World) (ts : Tr) (e : Ending) (w' : World) : Prop := ∃ v ms, e = .returned (.agg #[v]) ∧ TrAt w.heap.size w' v ms ∧ ms.map NM.n = ts ∧ Gr w w'
theorem copied_tr (ts : Tr) (a : Option Addr) (cap : Nat) (w : World) (h : SlOf 3 RNod w a ts) (hs : ∀ n ∈ ts, SmN n) (hl : ts.length ≤ 1000) :
    Calls Tryz.prog 78 #[.agg #[.slice a ts.length cap]] w (GivesTr w ts) := by
  have H := Lib.hid h
  have HS := Lib.hid hs
  clear h hs
  obtain ⟨i0, hi, hz0, hz1, hz2⟩ := info_parts infoNod
  obtain ⟨j0, hj, hy0, hy1, hy2⟩ := info_parts infoPrp
  go_enter Tryz.func78, Tryz.ntmps78
  go_wp2_with fail
  have R1 := Lib.hid ((((Row.new w #[.slice a ts.length cap] 25).alloc (.cells #[.slice none 0 0] 25)).alloc (.cells #[.slice none 0 0] 25)))
  have R2 : Hid (Row (((w.alloc (.cells #[.slice a ts.length cap] 25)).alloc (.cells #[.slice none 0 0] 25)).alloc (.cells #[.slice none 0 0] 25)) (w.heap.size + 1) 25 [.slice none 0 0]) := Lib.hid (by
    have q := (Row.new (w.alloc (.cells #[.slice a ts.length cap] 25)) #[.slice none 0 0] 25).alloc (.cells #[.slice none 0 0] 25)
    have e : (w.alloc (.cells #[.slice a ts.length cap] 25)).heap.size = w.heap.size + 1 := by simp
    rw [e] at q; exact q)
  have R3 : Hid (Row (((w.alloc (.cells #[.slice a ts.length cap] 25)).alloc (.cells #[.slice none 0 0] 25)).alloc (.cells #[.slice none 0 0] 25)) (w.heap.size + 2) 25 [.slice none 0 0]) := Lib.hid (by
    have q := Row.new ((w.alloc (.cells #[.slice a ts.length cap] 25)).alloc (.cells #[.slice none 0 0] 25)) #[.slice none 0 0] 25
    have e : ((w.alloc (.cells #[.slice a ts.length cap] 25)).alloc (.cells #[.slice none 0 0] 25)).heap.size = w.heap.size + 2 := by simp
    rw [e] at q; exact q)
  obtain ⟨W, hW⟩ : ∃ W : World, Hid (W = ((w.alloc (.cells #[.slice a ts.length cap] 25)).alloc (.cells #[.slice none 0 0] 25)).alloc (.cells #[.slice none 0 0] 25)) := ⟨_, Lib.hid rfl⟩
  have GW : Hid (Gr w W) := Lib.hid (by rw [hW.out]; exact (((Gr.refl _).alloc _).alloc _).alloc _)
  rw [← hW.out] at R1 R2 R3 ⊢
  obtain ⟨PB, hPB⟩ : ∃ N : Nat, Hid (w.heap.size = N) := ⟨_, Lib.hid rfl⟩
  have HPB := Lib.hid hPB.out
  rw [hPB.out] at R1 R2 R3 ⊢
  clear hW hPB
  obtain ⟨P3, hP3⟩ : ∃ N : Nat, Hid (PB + 2 = N) := ⟨_, Lib.hid rfl⟩
  have HP3 := Lib.hid hP3.out
  rw [hP3.out] at R3 ⊢
  obtain ⟨P2, hP2⟩ : ∃ N : Nat, Hid (PB + 1 = N) := ⟨_, Lib.hid rfl⟩
  have HP2 := Lib.hid hP2.out
  rw [hP2.out] at R2 ⊢
  clear hP3 hP2
  go_loopw [9] (fun i wr => ∃ (k : Nat) (v : Value) (ms : List NM), k ≤ ts.length ∧ i = .int .i64 k ∧ Row wr PB 25 [.slice a ts.length cap] ∧ Row wr P2 25 [.slice none 0 0] ∧ Row wr P3 25 [v] ∧ TrAt PB wr v ms ∧ ms.map NM.n = ts.take k ∧ Gr w wr) (fun i _ => ts.length - (intOf i).toNat)
  case atStart => exact ⟨0, _, [], Nat.zero_le _, rfl, R1.out, R2.out, R3.out, TrAt.nil _ _, rfl, GW.out⟩
  case round =>
    obtain ⟨k, v, ms, hk, rfl, hr1, hr2, hr3, htr, hmap, hg⟩ := hrel
    obtain ⟨va, vc, hv⟩ := owns_slice htr.own
    have S1 := Lib.hid hr1
    have S2 := Lib.hid hr2
    have S3 := Lib.hid hr3
    have TR := Lib.hid htr
    have MP := Lib.hid hmap
    have HG := Lib.hid hg
    have ML : Hid (ms.length = k) := Lib.hid (by have := congrArg List.length hmap; rw [List.length_map, List.length_take] at this; omega)
    clear hr1 hr2 hr3 htr hmap hg
    by_cases hlt : k < ts.length
    · obtain ⟨b, o, pa, pc, rfl, c0, c1, c2, hps, hpf, hw, hnl⟩ := nods_at (H.out.gr RNod.mono HG.out) k hlt
      have SN := Lib.hid (HS.out _ (List.getElem_mem hlt))
      have TK := Lib.hid (List.take_succ_eq_append_getElem hlt)
      obtain ⟨n, hn⟩ : ∃ n, ts[k] = n := ⟨_, rfl⟩
      rw [hn] at c0 c1 c2 hps SN TK
      have HPS := Lib.hid hps
      have s4 := SN.out.len
      have hh := has_of_cell c0
      have kk : (k : Int) < ts.length := by omega
      obtain ⟨WA, hWA⟩ : ∃ W : World, Hid (W = wr.alloc (.cells #[.int .i64 n.parent, .string (bs n.name), .slice pa n.props.length pc] 57)) := ⟨_, Lib.hid rfl⟩
      have BX := Lib.hid (Row.new wr #[.int .i64 n.parent, .string (bs n.name), .slice pa n.props.length pc] 57)
      have GA : Hid (Gr wr WA) := Lib.hid (by rw [hWA.out]; exact (Gr.refl _).alloc _)
      clear hn hps hpf hw hnl
      go_upto_region 5 with (fail)
      rw [← hWA.out] at BX ⊢
      obtain ⟨PX, hPX⟩ : ∃ N : Nat, Hid (wr.heap.size = N) := ⟨_, Lib.hid rfl⟩
      rw [hPX.out] at BX ⊢
      have HPX := Lib.hid hPX.out
      clear hWA hPX c0 c1 c2 hh
      have y2 := BX.out.cell 2 (by simp)
      have hyb := has_of_cell y2
      have yf := BX.out.free 2
      have GP : Hid (Gets (WA.alloc (.cells #[] 59)) pa n.props.length 2 (n.props.flatMap encP)) := Lib.hid (gets_prps (HPS.out.gr RPrp.mono (GA.out.alloc _)))
      go_upto_region 6 with (at_builtin; refine wpList_append_gets _ rfl _ _ 55 rfl WA.heap.size 59 j0 (.agg #[.string (bs []), .string (bs [])]) 2 32 Tryz.underlying55 hj hy0 hy1 hy2 rfl (by decide) (.slice (some ⟨WA.heap.size, 0, none⟩) 0 0) 0 [] rfl (World.ownsRow_made WA #[] 0 (Nat.le_refl _) (by simp) rfl) pa n.props.length pc (n.props.flatMap encP) rfl GP.out (flatP_one _) (by unfold maxLen; omega) (by omega) (by simp) ?_; intro v5 w5 hown hgrow hloc; obtain ⟨x5, z5, rfl⟩ := owns_slice hown; have O5 := Lib.hid hown; have G5 : Hid (Gr WA w5) := Lib.hid (((Gr.refl WA).alloc _).grown hgrow (fun k e => by cases e; exact Nat.le_refl _)); have q2 := (BX.out.gr G5.out).cell 2 (by simp); have qf := (BX.out.gr G5.out).free 2; have hq := has_of_cell q2; clear hown hgrow hloc)
      clear q2 qf hq y2 hyb yf GP
      have B5 := Lib.hid ((BX.out.gr G5.out).set 2 (.slice x5 (0 + n.props.length) z5))
      rw [Nat.zero_add] at O5 B5
      (try rw [Nat.zero_add])
      obtain ⟨W6, hW6⟩ : ∃ W : World, Hid (W = w5.setCell ⟨PX, 2, none⟩ (.slice x5 n.props.length z5)) := ⟨_, Lib.hid rfl⟩
      have G6 : Hid (Gr wr W6) := Lib.hid (by rw [hW6.out]; exact (GA.out.trans G5.out).setc (by rw [HPX.out]; exact Nat.le_refl _))
      have ND : Hid (NdAt PB W6 ⟨n, x5, z5⟩) := Lib.hid (by
        refine ⟨?_, SN.out⟩
        have h1 := owns_low (base' := PB) O5.out (by have h2 := HG.out.size; have h3 := GA.out.size; rw [HPB.out] at h2; omega)
        rw [List.nil_append] at h1
        rw [hW6.out]
        refine h1.kept (grownBy_set _ _ _ _) ?_
        cases hz : (Value.slice x5 n.props.length z5).ownBlock with
        | none => exact .inl rfl
        | some g =>
          refine .inr (fun e => ?_)
          have h4 := owns_block O5.out g hz
          have h5 : PX < WA.heap.size := BX.out.has
          injection e with e
          omega)
      rw [← hW6.out] at B5 ⊢
      have T6 := Lib.hid (TR.out.gr G6.out)
      have U1 := Lib.hid (S1.out.gr G6.out)
      have U2 := Lib.hid (S2.out.gr G6.out)
      have U3 := Lib.hid (S3.out.gr G6.out)
      have HG6 := Lib.hid (HG.out.trans G6.out)
      have b0 : W6.cell? ⟨PX, 0, none⟩ = some (.int .i64 n.parent) := B5.out.cell 0 (by simp)
      have b1 : W6.cell? ⟨PX, 1, none⟩ = some (.string (bs n.name)) := B5.out.cell 1 (by simp)
      have b2 : W6.cell? ⟨PX, 2, none⟩ = some (.slice x5 n.props.length z5) := B5.out.cell 2 (by simp)
      have hb := has_of_cell b0
      have u0 := U3.out.cell 0 (by simp)
      have hu := has_of_cell u0
      have OWX := Lib.hid (T6.out.own.alloc (.cells #[.int .i64 n.parent, .string (bs n.name), .slice x5 n.props.length z5] 57))
      have NR := Lib.hid (row_cells (Row.new W6 #[.int .i64 n.parent, .string (bs n.name), .slice x5 n.props.length z5] 57))
      have mlen : ms.length ≤ 1000 := by have := ML.out; omega
      clear hW6 G5 GA BX O5
      subst hv
      go_wp2_with (at_builtin; refine wpList_append_own _ rfl _ _ 23 rfl PB 57 i0 (.agg #[.int .i64 0, .string (bs []), .slice none 0 0]) 3 48 Tryz.underlying23 hi hz0 hz1 hz2 rfl (by decide) _ ms.length (ms.flatMap NM.enc) rfl OWX.out ⟨W6.heap.size, 0, none⟩ 1 1 [.int .i64 n.parent, .string (bs n.name), .slice x5 n.props.length z5] rfl rfl NR.out (NM.enc_one ⟨n, x5, z5⟩) (by unfold maxLen; omega) (by omega) (by have := HG6.out.size; rw [HPB.out] at this; simp; omega) ?_; intro v' wz hown' hgrow hnil; obtain ⟨y5, k5, rfl⟩ := owns_slice hown'; have HOz := Lib.hid hown'; have HGz := Lib.hid hgrow; have S3z := Lib.hid ((U3.out.alloc (.cells #[.int .i64 n.parent, .string (bs n.name), .slice x5 n.props.length z5] 57)).kept hgrow (((U3.out.alloc (.cells #[.int .i64 n.parent, .string (bs n.name), .slice x5 n.props.length z5] 57)).ty).ne OWX.out (by decide))); have q0 := S3z.out.cell 0 (by simp); have qf := S3z.out.free 0; have hq := has_of_cell q0; clear hown' hgrow hnil)
      go_roundw
      case rel =>
        have ga : Gr W6 (W6.alloc (.cells #[.int .i64 n.parent, .string (bs n.name), .slice x5 n.props.length z5] 57)) := (Gr.refl W6).alloc _
        have TN := (T6.out.gr ga).snoc (m := ⟨n, x5, z5⟩) HGz.out HOz.out (ND.out.gr ga)
        have e1 := HP3.out
        have e2 := HP2.out
        refine ⟨k + 1, _, ms ++ [⟨n, x5, z5⟩], by omega, by go_num, ?_, ?_, S3z.out.set 0 _, TN.box S3z.out.ty (by decide) (TN.ne_ty S3z.out.ty (by decide)), ?_, ?_⟩
        · exact ((U1.out.gr ga).kept HGz.out ((U1.out.gr ga).ty.ne OWX.out (by decide))).oth (by omega)
        · exact ((U2.out.gr ga).kept HGz.out ((U2.out.gr ga).ty.ne OWX.out (by decide))).oth (by omega)
        · rw [List.map_append, MP.out, TK.out]; rfl
        · exact ((HG6.out.trans ga).grown HGz.out (fun j e => by rw [HPB.out]; exact (owns_block OWX.out j e).1)).setc (by rw [HPB.out]; omega)
      case measure => simp [intOf]; omega
    · obtain rfl : k = ts.length := by omega
      rw [List.take_length] at MP
      have u0 := S3.out.cell 0 (by simp)
      have hu := has_of_cell u0
      have z0 := S2.out.cell 0 (by simp)
      have zf := S2.out.free 0
      have hz := has_of_cell z0
      subst hv
      go_wp2_with fail
      have RF := Lib.hid (S2.out.set 0 (.slice va ms.length vc))
      have e2 := HP2.out
      have TF : Hid (TrAt PB (wr.setCell ⟨P2, 0, none⟩ (.slice va ms.length vc)) (.slice va ms.length vc) ms) := Lib.hid (TR.out.box S2.out.ty (by decide) (TR.out.ne_ty S2.out.ty (by decide)))
      have GF : Hid (Gr w (wr.setCell ⟨P2, 0, none⟩ (.slice va ms.length vc))) := Lib.hid (HG.out.setc (by rw [HPB.out]; omega))
      obtain ⟨W3, hW3⟩ : ∃ W : World, Hid (W = wr.setCell ⟨P2, 0, none⟩ (.slice va ms.length vc)) := ⟨_, Lib.hid rfl⟩
      rw [← hW3.out] at RF TF GF ⊢
      have e0 : W3.cell? ⟨P2, 0, none⟩ = some (.slice va ms.length vc) := RF.out.cell 0 (by simp)
      clear hW3 u0 hu z0 zf hz
      refine bodyPost_ret (v := .agg #[.slice va ms.length vc]) (by simp [results, Tryz.results78, e0, go_sem]) rfl ?_
      exact ⟨_, ms, rfl, by rw [HPB.out]; exact TF.out, MP.out, GF.out⟩
end Go.Proofs.YtgembejpiecfcaaGreatDoor
