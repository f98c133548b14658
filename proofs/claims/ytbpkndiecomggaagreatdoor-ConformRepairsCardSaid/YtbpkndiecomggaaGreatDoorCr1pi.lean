/- Lemmas and contracts for the proof of ConformRepairs (several texts in one, printed by wip/tools/pack.py): UgB VbG VbH VbI VbJ. -/
import Derived.Test.YtbpkndiecomggaaGreatDoorCr1ph
import Derived.Test.YtbpkndiecomggaaGreatDoorCr1pf
set_option maxRecDepth 100000
set_option maxHeartbeats 16000000
set_option linter.unusedVariables false
set_option linter.unusedSimpArgs false
namespace Go.Proofs.YtbpkndiecomggaaGreatDoor
open Go.RowKit
open Classical
theorem Mv.gb {w w' : World} {b len : Nat} (h : Mv b len w w') : w.grownBy w' (some b) := by
  obtain ⟨p, h0, h1, hg⟩ := h
  have k := hg.below
  refine ⟨k.os, k.tape, k.output, by have := k.size; rwa [size_set] at this, fun i hi hne => ?_⟩
  rw [k.block i (by rw [size_set]; exact hi)]
  have : b ≠ i := fun e => hne (by rw [e])
  simp [World.setCell, Array.getElem?_modify, this]
theorem own_ne {w : World} {base e size n b : Nat} {v : Value} {xs : List Value} (h : w.ownsRow base e size v n xs) (hb : b < base) : v.ownBlock = none ∨ v.ownBlock ≠ some b := by
  cases hz : v.ownBlock with
  | none => exact .inl rfl
  | some g => exact .inr fun e => by have := (h.lt g hz).1; injection e with e; omega
theorem WAt.mv {w w' : World} {b len : Nat} {a : Option Addr} {l : List St} (h : WAt w a l) (hm : Mv b len w w') (ha : ∀ A, a = some A → b < A.block) : WAt w' a l :=
  h.imp id (fun ⟨B, o, vs, h1, h2, h3⟩ => ⟨B, o, vs, h1, hm.row h2 (by have := ha _ h1; simp only at this; omega), h3⟩)
def HiW (base : Nat) (rs : List RM) : Prop := ∀ x ∈ rs, ∀ A, x.a = some A → base ≤ A.block
theorem RlsAt.mv {base : Nat} {w w' : World} {b len : Nat} {s : SM} (h : RlsAt base w s) (hi : HiW base s.rs) (hb : b < base) (hm : Mv b len w w') : RlsAt base w' s :=
  ⟨h.own.kept hm.gb (own_ne h.own hb), fun x hx => (h.wds x hx).mv hm (fun A e => Nat.lt_of_lt_of_le hb (hi x hx A e)), h.ok, h.len, h.cl⟩
theorem OutAt.mv {base : Nat} {w w' : World} {b len : Nat} {v : Value} {out : List SM} (h : OutAt base w v out) (hi : ∀ s ∈ out, HiW base s.rs) (hb : b < base) (hm : Mv b len w w') : OutAt base w' v out :=
  ⟨h.own.kept hm.gb (own_ne h.own hb), fun s hs => (h.rls s hs).mv (hi s hs) hb hm, h.ap, h.len⟩
theorem RlsAt.kep {base : Nat} {w w' : World} {B : Nat} {s : SM} (h : RlsAt base w s) (hg : w.grownBy w' (some B)) (ht : Ty w B 48) : RlsAt base w' s :=
  h.kept hg (fun C hC e => hC.apart ht (by decide) (Option.some.inj e)) (by
    cases hz : s.v.ownBlock with
    | none => exact .inl rfl
    | some g => exact .inr fun e => (owns_ty h.own hz).apart ht (by decide) (Option.some.inj e))
theorem OutAt.kep {base : Nat} {w w' : World} {B : Nat} {v : Value} {out : List SM} (h : OutAt base w v out) (hg : w.grownBy w' (some B)) (ht : Ty w B 48) (hv : v.ownBlock = none ∨ v.ownBlock ≠ some B) : OutAt base w' v out :=
  ⟨h.own.kept hg hv, fun s hs => (h.rls s hs).kep hg ht, h.ap, h.len⟩
theorem OutAt.snoc2 {base : Nat} {w w' : World} {v v' : Value} {out : List SM} {s : SM} (h : OutAt base w v out) (hl : out.length < 24) (hg : w.grownBy w' v.ownBlock) (ho : w'.ownsRow base 48 3 v' (out.length + 1) (out.flatMap SM.enc ++ s.enc))
    (hs : RlsAt base w s) (hap : ∀ i (hi : i < out.length), out[i].v.ownBlock = none ∨ out[i].v.ownBlock ≠ s.v.ownBlock) : OutAt base w' v' (out ++ [s]) := by
  have hap2 : ∀ i (hi : i < out.length), s.v.ownBlock = none ∨ s.v.ownBlock ≠ out[i].v.ownBlock := fun i hi => by
    cases hz : s.v.ownBlock with
    | none => exact .inl rfl
    | some g => exact .inr (fun e => (hap i hi).elim (fun q => by rw [← e] at q; cases q) (fun q => q (by rw [hz, e])))
  refine ⟨by rw [List.length_append, List.flatMap_append, List.flatMap_cons, List.flatMap_nil, List.append_nil]; exact ho, fun t ht => ?_, fun i j hi hj hij => ?_, by rw [List.length_append]; simp; omega⟩
  · rcases List.mem_append.1 ht with ht | ht
    · exact (h.rls t ht).kept hg (ty_ne_owns h.own (by decide)) (owns_ne (h.rls t ht).own h.own (by decide))
    · rw [List.mem_singleton.1 ht]
      exact hs.kept hg (ty_ne_owns h.own (by decide)) (owns_ne hs.own h.own (by decide))
  · rw [List.length_append] at hi hj
    simp only [List.length_cons, List.length_nil] at hi hj
    by_cases i0 : i < out.length
    · rw [List.getElem_append_left i0]
      by_cases j0 : j < out.length
      · rw [List.getElem_append_left j0]
        exact h.ap i j i0 j0 hij
      · rw [List.getElem_append_right (by omega)]
        simp only [show j - out.length = 0 by omega, List.getElem_cons_zero]
        exact hap i i0
    · have j0 : j < out.length := by omega
      rw [List.getElem_append_right (by omega), List.getElem_append_left j0]
      simp only [show i - out.length = 0 by omega, List.getElem_cons_zero]
      exact hap2 j j0
/-! Insertion into ascending names. -/
def compsL : List St := [[97, 44, 120], [98], [99, 44, 100, 101, 118], [102, 105, 120, 101, 100, 45, 99, 108, 111, 99, 107]]
theorem props_tot : propsL.all (fun a => propsL.all (fun c => ltS a c || (decide (a = c) || ltS c a))) = true := by kernel_rfl
theorem prop_tot {a c : St} (ha : a ∈ propsL) (hc : c ∈ propsL) (h1 : ltS a c = false) (h2 : a ≠ c) : ltS c a = true := by
  have := List.all_eq_true.1 (List.all_eq_true.1 props_tot a ha) c hc
  simp [h1, h2] at this
  exact this
theorem asc_put {l : List St} {x : St} {k : Nat} (hl : ascN l = true) (hk : k ≤ l.length) (hlow : ∀ j (hj : j < k) (hjl : j < l.length), ltS l[j] x = true) (hup : ∀ (h : k < l.length), ltS x l[k] = true) : ascN (l.take k ++ x :: l.drop k) = true := by
  rw [ascN_iff] at hl ⊢
  intro i hi
  have hlen : (l.take k).length = k := by rw [List.length_take]; omega
  rw [List.length_append, hlen, List.length_cons, List.length_drop] at hi
  by_cases h1 : i + 1 < k
  · rw [List.getElem_append_left (by rw [hlen]; omega), List.getElem_append_left (by rw [hlen]; omega), List.getElem_take, List.getElem_take]
    exact hl i (by omega)
  · by_cases h2 : i + 1 = k
    · rw [List.getElem_append_left (by rw [hlen]; omega), List.getElem_append_right (by rw [hlen]; omega), List.getElem_take]
      simp only [hlen, show i + 1 - k = 0 by omega, List.getElem_cons_zero]
      exact hlow i (by omega) (by omega)
    · by_cases h3 : i = k
      · subst h3
        rw [List.getElem_append_right (by rw [hlen]; omega), List.getElem_append_right (by rw [hlen]; omega)]
        simp only [hlen, Nat.sub_self, List.getElem_cons_zero, show i + 1 - i = 1 by omega, List.getElem_cons_succ, List.getElem_drop, Nat.add_zero]
        exact hup (by omega)
      · rw [List.getElem_append_right (by rw [hlen]; omega), List.getElem_append_right (by rw [hlen]; omega)]
        obtain ⟨j, rfl⟩ : ∃ j, i = k + 1 + j := ⟨i - k - 1, by omega⟩
        simp only [hlen, show k + 1 + j - k = j + 1 by omega, show k + 1 + j + 1 - k = j + 1 + 1 by omega, List.getElem_cons_succ, List.getElem_drop]
        have := hl (k + j) (by omega)
        simpa only [show k + (j + 1) = k + j + 1 by omega] using this
structure GoodS (base : Nat) (s : SM) : Prop where
  hi : HiW base s.rs
  asc : ascN (s.rs.map (fun x => x.r.name)) = true
  nam : ∀ x ∈ s.rs, NmR x.r
  few : s.rs.length ≤ 3
def GivesSch (b len : Nat) (w : World) (e : Ending) (w' : World) : Prop :=
  ∃ v out, e = .returned v ∧ OutAt w.heap.size w' v out ∧ (out.map SM.comp).Sublist compsL ∧ (∀ s ∈ out, GoodS w.heap.size s) ∧ Mv b len w w'
def encP (p : Prp) : List Value := [.string (bs p.name), .string (bs p.val)]
structure NM where
  n : Nod
  a : Option Addr
  c : Nat
def NM.enc (m : NM) : List Value := [.int .i64 m.n.parent, .string (bs m.n.name), .slice m.a m.n.props.length m.c]
theorem NM.enc_len (m : NM) : m.enc.length = 3 := rfl
theorem NM.enc_one (m : NM) : ∀ u ∈ m.enc, u.oneCell' = true := by
  intro u hu
  simp only [NM.enc, List.mem_cons, List.not_mem_nil, or_false] at hu
  rcases hu with q | q | q <;> subst q <;> rfl
theorem flatP_one (l : List Prp) : ∀ u ∈ l.flatMap encP, u.oneCell' = true := by
  intro u hu
  obtain ⟨p, _, h⟩ := List.mem_flatMap.1 hu
  simp only [encP, List.mem_cons, List.not_mem_nil, or_false] at h
  rcases h with q | q <;> subst q <;> rfl
theorem flatP_len (l : List Prp) : (l.flatMap encP).length = l.length * 2 := flat_len encP 2 (fun _ => rfl) l
structure SmN (n : Nod) : Prop where
  plo : -1 ≤ n.parent
  phi : n.parent ≤ 1000
  nam : n.name.length ≤ 1000
  len : n.props.length ≤ 1000
  prp : ∀ p ∈ n.props, p.name.length ≤ 1000 ∧ p.val.length ≤ 1000
theorem VT.sm {ts : Tr} (h : VT ts) : ∀ n ∈ ts, SmN n := fun n hn => by
  obtain ⟨k, hk, rfl⟩ := List.getElem_of_mem hn
  have hp := h.props hk
  have few := h.few
  have hl := hp.len
  have hpp : ∀ p ∈ ts[k].props, p.name.length ≤ 1000 ∧ p.val.length ≤ 1000 := fun p hm => by
    have h1 := (hp.prop p hm).2
    have h2 := (hp.mem p hm).2
    exact ⟨by omega, by omega⟩
  rcases h.hdr hk with ⟨_, q1, q2⟩ | ⟨h0, q1, q2, _⟩
  · exact ⟨by omega, by omega, by rw [q2]; simp, by omega, hpp⟩
  · have := (h.name h0 hk).2
    rw [← nmT_get hk] at this
    exact ⟨by omega, by omega, by omega, by omega, hpp⟩
structure NdAt (base : Nat) (w : World) (m : NM) : Prop where
  own : w.ownsRow base 83 2 (.slice m.a m.n.props.length m.c) m.n.props.length (m.n.props.flatMap encP)
  sm : SmN m.n
theorem NdAt.gr {base : Nat} {w w' : World} {m : NM} (h : NdAt base w m) (hg : Gr w w') : NdAt base w' m := ⟨Gr.owns h.own hg, h.sm⟩
theorem NdAt.low {base base' : Nat} {w : World} {m : NM} (h : NdAt base w m) (hb : base' ≤ base) : NdAt base' w m := ⟨owns_low h.own hb, h.sm⟩
theorem NdAt.kept {base : Nat} {w w' : World} {row : Option Nat} {m : NM} (h : NdAt base w m) (hg : w.grownBy w' row) (hv : (Value.slice m.a m.n.props.length m.c).ownBlock = none ∨ (Value.slice m.a m.n.props.length m.c).ownBlock ≠ row) : NdAt base w' m := ⟨h.own.kept hg hv, h.sm⟩
structure TrAt (base : Nat) (w : World) (v : Value) (ms : List NM) : Prop where
  own : w.ownsRow base 86 3 v ms.length (ms.flatMap NM.enc)
  nds : ∀ m ∈ ms, NdAt base w m
theorem TrAt.nil (base : Nat) (w : World) : TrAt base w (.slice none 0 0) [] := ⟨World.ownsRow_nil _ _ _ _, fun m h => by cases h⟩
theorem TrAt.gr {base : Nat} {w w' : World} {v : Value} {ms : List NM} (h : TrAt base w v ms) (hg : Gr w w') : TrAt base w' v ms := ⟨Gr.owns h.own hg, fun m hm => (h.nds m hm).gr hg⟩
theorem TrAt.low {base base' : Nat} {w : World} {v : Value} {ms : List NM} (h : TrAt base w v ms) (hb : base' ≤ base) : TrAt base' w v ms := ⟨owns_low h.own hb, fun m hm => (h.nds m hm).low hb⟩
theorem TrAt.mv {base : Nat} {w w' : World} {b len : Nat} {v : Value} {ms : List NM} (h : TrAt base w v ms) (hb : b < base) (hm : Mv b len w w') : TrAt base w' v ms :=
  ⟨h.own.kept hm.gb (own_ne h.own hb), fun m hmm => (h.nds m hmm).kept hm.gb (own_ne (h.nds m hmm).own hb)⟩
theorem NdAt.ne_row {base base2 : Nat} {w : World} {m : NM} {B : Nat} (h : NdAt base w m) (ht : Ty w B base2) (hne : 83 ≠ base2) : (Value.slice m.a m.n.props.length m.c).ownBlock = none ∨ (Value.slice m.a m.n.props.length m.c).ownBlock ≠ some B := by
  cases hz : (Value.slice m.a m.n.props.length m.c).ownBlock with
  | none => exact .inl rfl
  | some g => exact .inr fun e => (owns_ty h.own hz).apart ht hne (Option.some.inj e)
theorem TrAt.box {base : Nat} {w : World} {v : Value} {ms : List NM} {B o T : Nat} {u : Value} (h : TrAt base w v ms) (ht : Ty w B T) (h1 : 83 ≠ T) (h2 : v.ownBlock = none ∨ v.ownBlock ≠ some B) : TrAt base (w.setCell ⟨B, o, none⟩ u) v ms :=
  ⟨h.own.kept (grownBy_set w B o u) h2, fun m hm => (h.nds m hm).kept (grownBy_set w B o u) ((h.nds m hm).ne_row ht h1)⟩
theorem TrAt.ne_ty {base : Nat} {w : World} {v : Value} {ms : List NM} {B T : Nat} (h : TrAt base w v ms) (ht : Ty w B T) (h1 : 86 ≠ T) : v.ownBlock = none ∨ v.ownBlock ≠ some B := by
  cases hz : v.ownBlock with
  | none => exact .inl rfl
  | some g => exact .inr fun e => (owns_ty h.own hz).apart ht h1 (Option.some.inj e)
theorem TrAt.snoc {base : Nat} {w w' : World} {v v' : Value} {ms : List NM} {m : NM} (h : TrAt base w v ms) (hg : w.grownBy w' v.ownBlock) (ho : w'.ownsRow base 86 3 v' (ms.length + 1) (ms.flatMap NM.enc ++ m.enc)) (hm : NdAt base w m) : TrAt base w' v' (ms ++ [m]) := by
  refine ⟨by rw [List.length_append, List.flatMap_append, List.flatMap_cons, List.flatMap_nil, List.append_nil]; exact ho, fun t ht => ?_⟩
  rcases List.mem_append.1 ht with ht | ht
  · exact (h.nds t ht).kept hg (owns_ne (h.nds t ht).own h.own (by decide))
  · rw [List.mem_singleton.1 ht]
    exact hm.kept hg (owns_ne hm.own h.own (by decide))
theorem prps_sl {base : Nat} {w : World} {a : Option Addr} {n c : Nat} {ps : List Prp} (h : w.ownsRow base 83 2 (.slice a n c) ps.length (ps.flatMap encP)) (hs : ∀ p ∈ ps, p.name.length ≤ 1000 ∧ p.val.length ≤ 1000) : SlOf 2 RPrp w a ps := by
  intro k hk
  obtain ⟨g, cap, e1, h1, _, hc⟩ := owns_cell h (by omega)
  cases e1
  have hf := fun j (hj : j < 2) => flat_at encP 2 (fun _ => rfl) ps k j hk hj
  have h2 : ∀ j, j < 2 → w.cell? ⟨g, k * 2 + j, none⟩ = (encP ps[k])[j]? := fun j hj => by rw [hc (k * 2 + j) (by omega)]; exact hf j hj
  have := hs _ (List.getElem_mem hk)
  refine ⟨g, 0, rfl, ⟨?_, by omega⟩, ?_, by omega⟩
  all_goals rw [Nat.zero_add]
  · rw [show k * 2 = k * 2 + 0 from rfl, h2 0 (by omega)]; rfl
  · rw [h2 1 (by omega)]; rfl
theorem TrAt.sl {base : Nat} {w : World} {ms : List NM} {a : Option Addr} {n c : Nat} (h : TrAt base w (.slice a n c) ms) : n = ms.length ∧ SlOf 3 RNod w a (ms.map NM.n) := by
  have hn : n = ms.length := by
    rcases h.own.2 with ⟨e, z⟩ | ⟨g, cap, cur, e, _⟩
    · cases e; exact z.symm
    · cases e; rfl
  refine ⟨hn, fun k hk => ?_⟩
  rw [List.length_map] at hk
  obtain ⟨g, cap, e1, h1, _, hc⟩ := owns_cell h.own (by omega)
  cases e1
  have hf := fun j (hj : j < 3) => flat_at NM.enc 3 (fun _ => rfl) ms k j hk hj
  have h2 : ∀ j, j < 3 → w.cell? ⟨g, k * 3 + j, none⟩ = (NM.enc ms[k])[j]? := fun j hj => by rw [hc (k * 3 + j) (by omega)]; exact hf j hj
  have hr := h.nds ms[k] (List.getElem_mem hk)
  have sm := hr.sm
  have q1 := sm.plo
  have q2 := sm.phi
  have q3 := sm.nam
  have q4 := sm.len
  have hcap : ms[k].n.props.length ≤ ms[k].c := owns_cap2 hr.own
  rw [List.getElem_map]
  refine ⟨g, 0, rfl, ⟨?_, by unfold Wide; omega⟩, ⟨?_, by omega⟩, ms[k].a, ms[k].c, ?_, hcap, by unfold Fit; omega, prps_sl hr.own sm.prp⟩
  all_goals rw [Nat.zero_add]
  · rw [show k * 3 = k * 3 + 0 from rfl, h2 0 (by omega)]; rfl
  · rw [h2 1 (by omega)]; rfl
  · rw [h2 2 (by omega)]; rfl
theorem infoNod : (Tryz.prog.info? 86).map (fun i => (i.zero, i.size, i.bytes)) = some (some (.agg #[.int .i64 0, .string (bs []), .slice none 0 0]), 3, 48) := by kernel_rfl
theorem infoPrp : (Tryz.prog.info? 83).map (fun i => (i.zero, i.size, i.bytes)) = some (some (.agg #[.string (bs []), .string (bs [])]), 2, 32) := by kernel_rfl
theorem gets_prps {w : World} {a : Option Addr} {ps : List Prp} (h : SlOf 2 RPrp w a ps) : Gets w a ps.length 2 (ps.flatMap encP) := by
  refine ⟨by rw [flatP_len], fun hn => ?_⟩
  cases ps with
  | nil => simp at hn
  | cons p l =>
    obtain ⟨b, o, e, _⟩ := h 0 (by simp)
    subst e
    refine ⟨_, rfl, fun j u hu => ?_⟩
    have hj2 : j < (p :: l).length * 2 := by
      have := (List.getElem?_eq_some_iff.1 hu).1
      rwa [flatP_len] at this
    obtain ⟨b2, o2, e3, c0, c1⟩ := h (j / 2) (by omega)
    cases e3
    have e2 := flat_at encP 2 (fun _ => rfl) (p :: l) (j / 2) (j % 2) (by omega) (Nat.mod_lt _ (by omega))
    rw [show j / 2 * 2 + j % 2 = j by omega, hu] at e2
    rw [Addr.add_lit]
    obtain q | q : j % 2 = 0 ∨ j % 2 = 1 := by omega
    · rw [q] at e2; simp [encP] at e2; rw [e2, ← c0.1]; congr 2; omega
    · rw [q] at e2; simp [encP] at e2; rw [e2, ← c1.1]; congr 2; omega
def GivesTr (w : World) (ts : Tr) (e : Ending) (w' : World) : Prop := ∃ v ms, e = .returned (.agg #[v]) ∧ TrAt w.heap.size w' v ms ∧ ms.map NM.n = ts ∧ Gr w w'
theorem copied_tr (ts : Tr) (a : Option Addr) (cap : Nat) (w : World) (h : SlOf 3 RNod w a ts) (hs : ∀ n ∈ ts, SmN n) (hl : ts.length ≤ 1000) :
    Calls Tryz.prog 52 #[.agg #[.slice a ts.length cap]] w (GivesTr w ts) := by
  have H := Lib.hid h
  have HS := Lib.hid hs
  clear h hs
  obtain ⟨i0, hi, hz0, hz1, hz2⟩ := info_parts infoNod
  obtain ⟨j0, hj, hy0, hy1, hy2⟩ := info_parts infoPrp
  go_enter Tryz.func52, Tryz.ntmps52
  go_wp2_with fail
  have R1 := Lib.hid ((((Row.new w #[.slice a ts.length cap] 29).alloc (.cells #[.slice none 0 0] 29)).alloc (.cells #[.slice none 0 0] 29)))
  have R2 : Hid (Row (((w.alloc (.cells #[.slice a ts.length cap] 29)).alloc (.cells #[.slice none 0 0] 29)).alloc (.cells #[.slice none 0 0] 29)) (w.heap.size + 1) 29 [.slice none 0 0]) := Lib.hid (by
    have q := (Row.new (w.alloc (.cells #[.slice a ts.length cap] 29)) #[.slice none 0 0] 29).alloc (.cells #[.slice none 0 0] 29)
    have e : (w.alloc (.cells #[.slice a ts.length cap] 29)).heap.size = w.heap.size + 1 := by simp
    rw [e] at q; exact q)
  have R3 : Hid (Row (((w.alloc (.cells #[.slice a ts.length cap] 29)).alloc (.cells #[.slice none 0 0] 29)).alloc (.cells #[.slice none 0 0] 29)) (w.heap.size + 2) 29 [.slice none 0 0]) := Lib.hid (by
    have q := Row.new ((w.alloc (.cells #[.slice a ts.length cap] 29)).alloc (.cells #[.slice none 0 0] 29)) #[.slice none 0 0] 29
    have e : ((w.alloc (.cells #[.slice a ts.length cap] 29)).alloc (.cells #[.slice none 0 0] 29)).heap.size = w.heap.size + 2 := by simp
    rw [e] at q; exact q)
  obtain ⟨W, hW⟩ : ∃ W : World, Hid (W = ((w.alloc (.cells #[.slice a ts.length cap] 29)).alloc (.cells #[.slice none 0 0] 29)).alloc (.cells #[.slice none 0 0] 29)) := ⟨_, Lib.hid rfl⟩
  have GW : Hid (Gr w W) := Lib.hid (by rw [hW.out]; exact (((Gr.refl _).alloc _).alloc _).alloc _)
  rw [← hW.out] at R1 R2 R3 ⊢
  obtain ⟨PB, hPB⟩ : ∃ N : Nat, Hid (w.heap.size = N) := ⟨_, Lib.hid rfl⟩
  have HPB := Lib.hid hPB.out
  rw [hPB.out] at R1 R2 R3 ⊢
  clear hW hPB
  obtain ⟨P3, hP3⟩ : ∃ N : Nat, Hid (PB + 2 = N) := ⟨_, Lib.hid rfl⟩
  have HP3 := Lib.hid hP3.out
  rw [hP3.out] at R3 ⊢
  obtain ⟨P2, hP2⟩ : ∃ N : Nat, Hid (PB + 1 = N) := ⟨_, Lib.hid rfl⟩
  have HP2 := Lib.hid hP2.out
  rw [hP2.out] at R2 ⊢
  clear hP3 hP2
  go_loopw [9] (fun i wr => ∃ (k : Nat) (v : Value) (ms : List NM), k ≤ ts.length ∧ i = .int .i64 k ∧ Row wr PB 29 [.slice a ts.length cap] ∧ Row wr P2 29 [.slice none 0 0] ∧ Row wr P3 29 [v] ∧ TrAt PB wr v ms ∧ ms.map NM.n = ts.take k ∧ Gr w wr) (fun i _ => ts.length - (intOf i).toNat)
  case atStart => exact ⟨0, _, [], Nat.zero_le _, rfl, R1.out, R2.out, R3.out, TrAt.nil _ _, rfl, GW.out⟩
  case round =>
    obtain ⟨k, v, ms, hk, rfl, hr1, hr2, hr3, htr, hmap, hg⟩ := hrel
    obtain ⟨va, vc, hv⟩ := owns_slice htr.own
    have S1 := Lib.hid hr1
    have S2 := Lib.hid hr2
    have S3 := Lib.hid hr3
    have TR := Lib.hid htr
    have MP := Lib.hid hmap
    have HG := Lib.hid hg
    have ML : Hid (ms.length = k) := Lib.hid (by have := congrArg List.length hmap; rw [List.length_map, List.length_take] at this; omega)
    clear hr1 hr2 hr3 htr hmap hg
    by_cases hlt : k < ts.length
    · obtain ⟨b, o, pa, pc, rfl, c0, c1, c2, hps, hpf, hw, hnl⟩ := nods_at (H.out.gr RNod.mono HG.out) k hlt
      have SN := Lib.hid (HS.out _ (List.getElem_mem hlt))
      have TK := Lib.hid (List.take_succ_eq_append_getElem hlt)
      obtain ⟨n, hn⟩ : ∃ n, ts[k] = n := ⟨_, rfl⟩
      rw [hn] at c0 c1 c2 hps SN TK
      have HPS := Lib.hid hps
      have s4 := SN.out.len
      have hh := has_of_cell c0
      have kk : (k : Int) < ts.length := by omega
      obtain ⟨WA, hWA⟩ : ∃ W : World, Hid (W = wr.alloc (.cells #[.int .i64 n.parent, .string (bs n.name), .slice pa n.props.length pc] 86)) := ⟨_, Lib.hid rfl⟩
      have BX := Lib.hid (Row.new wr #[.int .i64 n.parent, .string (bs n.name), .slice pa n.props.length pc] 86)
      have GA : Hid (Gr wr WA) := Lib.hid (by rw [hWA.out]; exact (Gr.refl _).alloc _)
      clear hn hps hpf hw hnl
      go_upto_region 5 with (fail)
      rw [← hWA.out] at BX ⊢
      obtain ⟨PX, hPX⟩ : ∃ N : Nat, Hid (wr.heap.size = N) := ⟨_, Lib.hid rfl⟩
      rw [hPX.out] at BX ⊢
      have HPX := Lib.hid hPX.out
      clear hWA hPX c0 c1 c2 hh
      have y2 := BX.out.cell 2 (by simp)
      have hyb := has_of_cell y2
      have yf := BX.out.free 2
      have GP : Hid (Gets (WA.alloc (.cells #[] 83)) pa n.props.length 2 (n.props.flatMap encP)) := Lib.hid (gets_prps (HPS.out.gr RPrp.mono (GA.out.alloc _)))
      go_upto_region 6 with (at_builtin; refine wpList_append_gets _ rfl _ _ 84 rfl WA.heap.size 83 j0 (.agg #[.string (bs []), .string (bs [])]) 2 32 Tryz.underlying84 hj hy0 hy1 hy2 rfl (by decide) (.slice (some ⟨WA.heap.size, 0, none⟩) 0 0) 0 [] rfl (World.ownsRow_made WA #[] 0 (Nat.le_refl _) (by simp) rfl) pa n.props.length pc (n.props.flatMap encP) rfl GP.out (flatP_one _) (by unfold maxLen; omega) (by omega) (by simp) ?_; intro v5 w5 hown hgrow hloc; obtain ⟨x5, z5, rfl⟩ := owns_slice hown; have O5 := Lib.hid hown; have G5 : Hid (Gr WA w5) := Lib.hid (((Gr.refl WA).alloc _).grown hgrow (fun k e => by cases e; exact Nat.le_refl _)); have q2 := (BX.out.gr G5.out).cell 2 (by simp); have qf := (BX.out.gr G5.out).free 2; have hq := has_of_cell q2; clear hown hgrow hloc)
      clear q2 qf hq y2 hyb yf GP
      have B5 := Lib.hid ((BX.out.gr G5.out).set 2 (.slice x5 (0 + n.props.length) z5))
      rw [Nat.zero_add] at O5 B5
      (try rw [Nat.zero_add])
      obtain ⟨W6, hW6⟩ : ∃ W : World, Hid (W = w5.setCell ⟨PX, 2, none⟩ (.slice x5 n.props.length z5)) := ⟨_, Lib.hid rfl⟩
      have G6 : Hid (Gr wr W6) := Lib.hid (by rw [hW6.out]; exact (GA.out.trans G5.out).setc (by rw [HPX.out]; exact Nat.le_refl _))
      have ND : Hid (NdAt PB W6 ⟨n, x5, z5⟩) := Lib.hid (by
        refine ⟨?_, SN.out⟩
        have h1 := owns_low (base' := PB) O5.out (by have h2 := HG.out.size; have h3 := GA.out.size; rw [HPB.out] at h2; omega)
        rw [List.nil_append] at h1
        rw [hW6.out]
        refine h1.kept (grownBy_set _ _ _ _) ?_
        cases hz : (Value.slice x5 n.props.length z5).ownBlock with
        | none => exact .inl rfl
        | some g =>
          refine .inr (fun e => ?_)
          have h4 := owns_block O5.out g hz
          have h5 : PX < WA.heap.size := BX.out.has
          injection e with e
          omega)
      rw [← hW6.out] at B5 ⊢
      have T6 := Lib.hid (TR.out.gr G6.out)
      have U1 := Lib.hid (S1.out.gr G6.out)
      have U2 := Lib.hid (S2.out.gr G6.out)
      have U3 := Lib.hid (S3.out.gr G6.out)
      have HG6 := Lib.hid (HG.out.trans G6.out)
      have b0 : W6.cell? ⟨PX, 0, none⟩ = some (.int .i64 n.parent) := B5.out.cell 0 (by simp)
      have b1 : W6.cell? ⟨PX, 1, none⟩ = some (.string (bs n.name)) := B5.out.cell 1 (by simp)
      have b2 : W6.cell? ⟨PX, 2, none⟩ = some (.slice x5 n.props.length z5) := B5.out.cell 2 (by simp)
      have hb := has_of_cell b0
      have u0 := U3.out.cell 0 (by simp)
      have hu := has_of_cell u0
      have OWX := Lib.hid (T6.out.own.alloc (.cells #[.int .i64 n.parent, .string (bs n.name), .slice x5 n.props.length z5] 86))
      have NR := Lib.hid (row_cells (Row.new W6 #[.int .i64 n.parent, .string (bs n.name), .slice x5 n.props.length z5] 86))
      have mlen : ms.length ≤ 1000 := by have := ML.out; omega
      clear hW6 G5 GA BX O5
      subst hv
      go_wp2_with (at_builtin; refine wpList_append_own _ rfl _ _ 27 rfl PB 86 i0 (.agg #[.int .i64 0, .string (bs []), .slice none 0 0]) 3 48 Tryz.underlying27 hi hz0 hz1 hz2 rfl (by decide) _ ms.length (ms.flatMap NM.enc) rfl OWX.out ⟨W6.heap.size, 0, none⟩ 1 1 [.int .i64 n.parent, .string (bs n.name), .slice x5 n.props.length z5] rfl rfl NR.out (NM.enc_one ⟨n, x5, z5⟩) (by unfold maxLen; omega) (by omega) (by have := HG6.out.size; rw [HPB.out] at this; simp; omega) ?_; intro v' wz hown' hgrow hnil; obtain ⟨y5, k5, rfl⟩ := owns_slice hown'; have HOz := Lib.hid hown'; have HGz := Lib.hid hgrow; have S3z := Lib.hid ((U3.out.alloc (.cells #[.int .i64 n.parent, .string (bs n.name), .slice x5 n.props.length z5] 86)).kept hgrow (((U3.out.alloc (.cells #[.int .i64 n.parent, .string (bs n.name), .slice x5 n.props.length z5] 86)).ty).ne OWX.out (by decide))); have q0 := S3z.out.cell 0 (by simp); have qf := S3z.out.free 0; have hq := has_of_cell q0; clear hown' hgrow hnil)
      go_roundw
      case rel =>
        have ga : Gr W6 (W6.alloc (.cells #[.int .i64 n.parent, .string (bs n.name), .slice x5 n.props.length z5] 86)) := (Gr.refl W6).alloc _
        have TN := (T6.out.gr ga).snoc (m := ⟨n, x5, z5⟩) HGz.out HOz.out (ND.out.gr ga)
        have e1 := HP3.out
        have e2 := HP2.out
        refine ⟨k + 1, _, ms ++ [⟨n, x5, z5⟩], by omega, by go_num, ?_, ?_, S3z.out.set 0 _, TN.box S3z.out.ty (by decide) (TN.ne_ty S3z.out.ty (by decide)), ?_, ?_⟩
        · exact ((U1.out.gr ga).kept HGz.out ((U1.out.gr ga).ty.ne OWX.out (by decide))).oth (by omega)
        · exact ((U2.out.gr ga).kept HGz.out ((U2.out.gr ga).ty.ne OWX.out (by decide))).oth (by omega)
        · rw [List.map_append, MP.out, TK.out]; rfl
        · exact ((HG6.out.trans ga).grown HGz.out (fun j e => by rw [HPB.out]; exact (owns_block OWX.out j e).1)).setc (by rw [HPB.out]; omega)
      case measure => simp [intOf]; omega
    · obtain rfl : k = ts.length := by omega
      rw [List.take_length] at MP
      have u0 := S3.out.cell 0 (by simp)
      have hu := has_of_cell u0
      have z0 := S2.out.cell 0 (by simp)
      have zf := S2.out.free 0
      have hz := has_of_cell z0
      subst hv
      go_wp2_with fail
      have RF := Lib.hid (S2.out.set 0 (.slice va ms.length vc))
      have e2 := HP2.out
      have TF : Hid (TrAt PB (wr.setCell ⟨P2, 0, none⟩ (.slice va ms.length vc)) (.slice va ms.length vc) ms) := Lib.hid (TR.out.box S2.out.ty (by decide) (TR.out.ne_ty S2.out.ty (by decide)))
      have GF : Hid (Gr w (wr.setCell ⟨P2, 0, none⟩ (.slice va ms.length vc))) := Lib.hid (HG.out.setc (by rw [HPB.out]; omega))
      obtain ⟨W3, hW3⟩ : ∃ W : World, Hid (W = wr.setCell ⟨P2, 0, none⟩ (.slice va ms.length vc)) := ⟨_, Lib.hid rfl⟩
      rw [← hW3.out] at RF TF GF ⊢
      have e0 : W3.cell? ⟨P2, 0, none⟩ = some (.slice va ms.length vc) := RF.out.cell 0 (by simp)
      clear hW3 u0 hu z0 zf hz
      refine bodyPost_ret (v := .agg #[.slice va ms.length vc]) (by simp [results, Tryz.results52, e0, go_sem]) rfl ?_
      exact ⟨_, ms, rfl, by rw [HPB.out]; exact TF.out, MP.out, GF.out⟩
def movF (f : Nat → Nat) (u : Tr) (k : Nat) : Nod := if 0 < k then { nd u k with parent := (f (pq u k) : Int) } else nd u k
structure PermL (n : Nat) (l : List Nat) (f : Nat → Nat) : Prop where
  len : l.length = n
  lt : ∀ y ∈ l, y < n
  all : ∀ y, y < n → y ∈ l
  at' : ∀ i (h : i < l.length), f l[i] = i
theorem PermL.inj {n : Nat} {l : List Nat} {f : Nat → Nat} (h : PermL n l f) {i j : Nat} (hi : i < l.length) (hj : j < l.length) (e : l[i] = l[j]) : i = j := by
  rw [← h.at' i hi, ← h.at' j hj, e]
theorem tr_cells {base : Nat} {w : World} {ms : List NM} {a : Option Addr} {n c : Nat} (h : TrAt base w (.slice a n c) ms) {k : Nat} (hk : k < ms.length) : ∃ g, a = some ⟨g, 0, none⟩ ∧ w.cell? ⟨g, k * 3, none⟩ = some (.int .i64 ms[k].n.parent) ∧ w.cell? ⟨g, k * 3 + 1, none⟩ = some (.string (bs ms[k].n.name)) ∧ w.cell? ⟨g, k * 3 + 2, none⟩ = some (.slice ms[k].a ms[k].n.props.length ms[k].c) := by
  obtain ⟨g, cap, e1, h1, _, hc⟩ := owns_cell (n := ms.length) (by rw [h.sl.1] at h; exact h.own) (by omega)
  cases e1
  have hf := fun j (hj : j < 3) => flat_at NM.enc 3 (fun _ => rfl) ms k j hk hj
  have h2 : ∀ j, j < 3 → w.cell? ⟨g, k * 3 + j, none⟩ = (NM.enc ms[k])[j]? := fun j hj => by rw [hc (k * 3 + j) (by omega)]; exact hf j hj
  exact ⟨g, rfl, h2 0 (by omega), h2 1 (by omega), h2 2 (by omega)⟩
theorem sorted_tr (ms : List NM) (n : Nat) (l : List Nat) (f : Nat → Nat) (base : Nat) (a : Option Addr) (cap : Nat) (w : World) (h : TrAt base w (.slice a n cap) ms) (hb : base ≤ w.heap.size) (hn : n ≤ 1000) (h0 : 0 < n) (hu : ParOk (ms.map NM.n))
    (hW : ∀ f x, (ms.map NM.n).length ≤ f + x → x < (ms.map NM.n).length → (walkF (ms.map NM.n).length (pq (ms.map NM.n)) (nmT (ms.map NM.n)) f x).length ≤ 1000)
    (hl : walkF (ms.map NM.n).length (pq (ms.map NM.n)) (nmT (ms.map NM.n)) n 0 = l) (hp : PermL n l f) :
    Calls Tryz.prog 122 #[.agg #[.slice a n cap]] w fun e w' => ∃ v ms2, e = .returned (.agg #[v]) ∧ TrAt base w' v ms2 ∧ ms2.map NM.n = l.map (movF f (ms.map NM.n)) ∧ Gr w w' := by
  have nl := h.sl.1
  have TR := Lib.hid h
  have PL := Lib.hid hp
  have HU := Lib.hid hu
  have HB := Lib.hid hb
  have MLN := Lib.hid nl
  have hml : (ms.map NM.n).length = n := by rw [List.length_map, nl]
  have WK := Lib.hid (walk_ok (ms.map NM.n) hu hW n 0 (by rw [hml]; omega) (by rw [hml]; exact h0) a cap)
  rw [hl, hml] at WK
  have SL := Lib.hid h.sl.2
  have hmk := run_make_row' (P := Tryz.prog) 22 3 (.int .i64 0) 8 Tryz.underlying22 infoInt rfl .i64 .i64 n (by omega) (by omega)
  obtain ⟨i0, hi, hz0, hz1, hz2⟩ := info_parts infoNod
  clear h hp hu hW hl nl hml hb
  obtain ⟨P0, hP0⟩ : ∃ P : Ending → World → Prop, P = fun e w' => ∃ v ms2, e = .returned (.agg #[v]) ∧ TrAt base w' v ms2 ∧ ms2.map NM.n = l.map (movF f (ms.map NM.n)) ∧ Gr w w' := ⟨_, rfl⟩
  rw [← hP0]
  have HP0 := Lib.hid hP0
  clear hP0
  go_enter Tryz.func122, Tryz.ntmps122
  go_wp2_with fail
  have R1 := Lib.hid ((Row.new w #[.slice a n cap] 29).alloc (.cells #[.slice none 0 0] 29))
  have R2 : Hid (Row ((w.alloc (.cells #[.slice a n cap] 29)).alloc (.cells #[.slice none 0 0] 29)) (w.heap.size + 1) 29 [.slice none 0 0]) := Lib.hid (by
    have q := Row.new (w.alloc (.cells #[.slice a n cap] 29)) #[.slice none 0 0] 29
    have e : (w.alloc (.cells #[.slice a n cap] 29)).heap.size = w.heap.size + 1 := by simp
    rw [e] at q; exact q)
  obtain ⟨W, hW⟩ : ∃ W : World, Hid (W = (w.alloc (.cells #[.slice a n cap] 29)).alloc (.cells #[.slice none 0 0] 29)) := ⟨_, Lib.hid rfl⟩
  have GW : Hid (Gr w W) := Lib.hid (by rw [hW.out]; exact ((Gr.refl _).alloc _).alloc _)
  rw [← hW.out] at R1 R2 ⊢
  obtain ⟨PB, hPB⟩ : ∃ N : Nat, Hid (w.heap.size = N) := ⟨_, Lib.hid rfl⟩
  have HPB := Lib.hid hPB.out
  rw [hPB.out] at R1 R2 ⊢
  clear hW hPB
  obtain ⟨P2, hP2⟩ : ∃ N : Nat, Hid (PB + 1 = N) := ⟨_, Lib.hid rfl⟩
  have HP2 := Lib.hid hP2.out
  rw [hP2.out] at R2 ⊢
  clear hP2
  refine (WK.out W (by have := SL.out.gr RNod.mono GW.out; exact this)).mono ?_
  rintro e w1 ⟨v3, rfl, how, hg1⟩
  obtain ⟨la, lc, rfl⟩ := owns_slice how
  rw [PL.out.len] at how ⊢
  have OW := Lib.hid how
  have G1 := Lib.hid (GW.out.trans hg1)
  have S1 := Lib.hid (R1.out.gr hg1)
  have S2 := Lib.hid (R2.out.gr hg1)
  have x0 := S1.out.cell 0 (by simp)
  have hxb := has_of_cell x0
  clear how hg1 WK R1 R2 GW
  go_wp2_with fail
  clear x0 hxb
  have RA := Lib.hid (Row.new w1 (madeCells #[.int .i64 0] n) 3)
  obtain ⟨W2, hW2⟩ : ∃ W : World, Hid (W = w1.alloc (.cells (madeCells #[.int .i64 0] n) 3)) := ⟨_, Lib.hid rfl⟩
  rw [← hW2.out, made_one, show List.replicate n (Value.int .i64 0) = nums (List.replicate n 0) by simp [nums]] at RA
  have G2 : Hid (Gr w1 W2) := Lib.hid (by rw [hW2.out]; exact (Gr.refl _).alloc _)
  rw [← hW2.out]
  obtain ⟨SB, hSB⟩ : ∃ N : Nat, Hid (w1.heap.size = N) := ⟨_, Lib.hid rfl⟩
  have HSB := Lib.hid hSB.out
  rw [hSB.out] at RA ⊢
  have T1 := Lib.hid (S1.out.gr G2.out)
  have T2 := Lib.hid (S2.out.gr G2.out)
  have OW2 := Lib.hid (Gr.owns OW.out G2.out)
  have ONE : Hid ((Value.slice la n lc).ownBlock ≠ some SB) := Lib.hid (fun e => by have := owns_block OW.out SB e; rw [HSB.out] at this; omega)
  have SBW : Hid (PB < SB ∧ P2 < SB ∧ w.heap.size ≤ SB) := Lib.hid (by
    have h2 : PB < w1.heap.size := S1.out.has
    have h3 : P2 < w1.heap.size := S2.out.has
    have h4 := G1.out.size
    rw [HSB.out] at h2 h3 h4
    exact ⟨h2, h3, h4⟩)
  have GG2 := Lib.hid (G1.out.trans G2.out)
  clear hW2 hSB S1 S2
  go_loopw [19] (fun i wr => ∃ (k : Nat) (vs : List Int), k ≤ n ∧ i = .int .i64 k ∧ vs.length = n ∧ (∀ j (hj : j < l.length), j < k → vs[l[j]]? = some (j : Int)) ∧ Row wr SB 3 (nums vs) ∧ Row wr PB 29 [.slice a n cap] ∧ Row wr P2 29 [.slice none 0 0] ∧ wr.ownsRow W.heap.size 3 1 (.slice la n lc) n (ints l) ∧ Gr w wr) (fun i _ => n - (intOf i).toNat)
  case atStart => exact ⟨0, _, Nat.zero_le _, rfl, by simp, fun j _ h => absurd h (by omega), RA.out, T1.out, T2.out, OW2.out, GG2.out⟩
  case round =>
    obtain ⟨k, vs, hk, rfl, hvl, hvs, hra, h1, h2, hol, hg⟩ := hrel
    have VL := Lib.hid hvl
    have VV := Lib.hid hvs
    have RS := Lib.hid hra
    have U1 := Lib.hid h1
    have U2 := Lib.hid h2
    have OL := Lib.hid hol
    have HG := Lib.hid hg
    clear hvl hvs hra h1 h2 hol hg
    by_cases hlt : k < n
    · have hkl : k < l.length := by rw [PL.out.len]; exact hlt
      obtain ⟨g, cap2, e1, _, _, hc⟩ := owns_cell OL.out (by omega)
      simp only [Value.slice.injEq] at e1
      obtain ⟨e1, -, e9⟩ := e1
      have d0 := hc k (by omega)
      rw [ints_get hkl] at d0
      have YN := Lib.hid (PL.out.lt _ (List.getElem_mem hkl))
      have INJ := Lib.hid (fun j (hj : j < l.length) (hjk : j < k) (e : l[j] = l[k]) => by have := PL.out.inj hj hkl e; omega : ∀ j (hj : j < l.length), j < k → l[j] = l[k] → False)
      obtain ⟨y, hy⟩ : ∃ y, l[k]'hkl = y := ⟨_, rfl⟩
      have HY := Lib.hid hy
      rw [hy] at d0 YN INJ
      have yn := YN.out
      have yn2 : (y : Int) < n := by omega
      have s0 := RS.out.iat y (by rw [VL.out]; exact yn)
      have sf := RS.out.free y
      have hs := has_of_cell s0
      have hd := has_of_cell d0
      have kk : (k : Int) < n := by omega
      subst e1 e9
      clear hy hc
      go_wp2_with fail
      go_roundw
      case rel =>
        have sb := SBW.out
        refine ⟨k + 1, vs.set y (k : Int), by omega, by go_num, by rw [List.length_set]; exact VL.out, fun j hj hjk => ?_, RS.out.iset y _, U1.out.oth (by omega), U2.out.oth (by omega), owns_stc OL.out ONE.out, HG.out.setc sb.2.2⟩
        by_cases e : j = k
        · subst e
          rw [HY.out, List.getElem?_set_self (by rw [VL.out]; exact yn)]
        · rw [List.getElem?_set_ne (fun q => INJ.out j hj (by omega) q.symm)]
          exact VV.out j hj (by omega)
      case measure => simp [intOf]; omega
    · obtain rfl : k = n := by omega
      have OWL : Hid (wr.ownsRow W.heap.size 3 1 (.slice la k lc) k (ints l)) := Lib.hid OL.out
      have ATF : Hid (∀ y, y < k → vs[y]? = some (f y : Int)) := Lib.hid (fun y hy => by
        obtain ⟨j, hj, rfl⟩ := List.getElem_of_mem (PL.out.all y hy)
        rw [VV.out j hj (by rw [← PL.out.len]; exact hj), PL.out.at' j hj])
      have FLT : Hid (∀ y, y < k → f y < k) := Lib.hid (fun y hy => by
        obtain ⟨j, hj, rfl⟩ := List.getElem_of_mem (PL.out.all y hy)
        rw [PL.out.at' j hj, ← PL.out.len]; exact hj)
      go_upto_region 9 with (fail)
      have R7 := Lib.hid (Row.new wr #[.slice none 0 0] 29)
      obtain ⟨W4, hW4⟩ : ∃ W : World, Hid (W = wr.alloc (.cells #[.slice none 0 0] 29)) := ⟨_, Lib.hid rfl⟩
      have G4 : Hid (Gr wr W4) := Lib.hid (by rw [hW4.out]; exact (Gr.refl _).alloc _)
      rw [← hW4.out] at R7 ⊢
      obtain ⟨P7, hP7⟩ : ∃ N : Nat, Hid (wr.heap.size = N) := ⟨_, Lib.hid rfl⟩
      rw [hP7.out] at R7 ⊢
      have HG4 := Lib.hid (HG.out.trans G4.out)
      have H7 : Hid (PB < P7 ∧ P2 < P7 ∧ SB < P7 ∧ w.heap.size ≤ P7) := Lib.hid (by
        have h1 : PB < wr.heap.size := U1.out.has
        have h2 : P2 < wr.heap.size := U2.out.has
        have h3 : SB < wr.heap.size := RS.out.has
        have h4 := HG.out.size
        rw [hP7.out] at h1 h2 h3 h4
        exact ⟨h1, h2, h3, h4⟩)
      have H7L : Hid (∀ g, (Value.slice la k lc).ownBlock = some g → g < P7) := Lib.hid (fun g e => by have := (owns_block OL.out g e).2; rw [hP7.out] at this; exact this)
      clear hW4
      have A1 := Lib.hid (U1.out.gr G4.out)
      have A2 := Lib.hid (U2.out.gr G4.out)
      have AS := Lib.hid (RS.out.gr G4.out)
      have AO := Lib.hid (Gr.owns OL.out G4.out)
      clear hP7 hk hlt
      go_wp2_with fail
      obtain ⟨w5, rfl⟩ : ∃ wo, wo = wr := ⟨_, rfl⟩
      go_loopw [31] (fun i wr => ∃ (j : Nat) (v : Value) (m2 : List NM), j ≤ k ∧ i = .int .i64 j ∧ Row wr P7 29 [v] ∧ TrAt base wr v m2 ∧ m2.map NM.n = (l.take j).map (movF f (ms.map NM.n)) ∧ Row wr PB 29 [.slice a k cap] ∧ Row wr P2 29 [.slice none 0 0] ∧ Row wr SB 3 (nums vs) ∧ wr.ownsRow W.heap.size 3 1 (.slice la k lc) k (ints l) ∧ (∀ g, v.ownBlock = some g → w.heap.size ≤ g) ∧ Gr w wr) (fun i _ => k - (intOf i).toNat)
      case atStart => exact ⟨0, _, [], Nat.zero_le _, rfl, R7.out, TrAt.nil _ _, rfl, A1.out, A2.out, AS.out, AO.out, fun g e => (by cases e), HG4.out⟩
      case round =>
        obtain ⟨j, v, m2, hj, rfl, h7, htr, hmap, h1, h2, hs, hol, hloc, hg⟩ := hrel
        have V7w := Lib.hid h7
        have TRw := Lib.hid htr
        have MP := Lib.hid hmap
        have V1w := Lib.hid h1
        have V2w := Lib.hid h2
        have VSw := Lib.hid hs
        have VOw := Lib.hid hol
        have LOC := Lib.hid hloc
        have HGw := Lib.hid hg
        obtain ⟨xv, xc, hxv⟩ := owns_slice htr.own
        have M2L : Hid (m2.length ≤ k) := Lib.hid (by have := congrArg List.length hmap; rw [List.length_map, List.length_map, List.length_take] at this; omega)
        have x0 := h1.cell 0 (by simp)
        have hxb := has_of_cell x0
        clear h7 htr hmap h1 h2 hs hol hloc hg
        by_cases hjl : j < k
        · have hkl : j < l.length := by rw [PL.out.len]; exact hjl
          obtain ⟨g, cap2, e1, _, _, hc⟩ := owns_cell VOw.out (by omega)
          simp only [Value.slice.injEq] at e1
          obtain ⟨e1, -, e9⟩ := e1
          have d0 := hc j (by omega)
          rw [ints_get hkl] at d0
          have YN := Lib.hid (PL.out.lt _ (List.getElem_mem hkl))
          have LT := Lib.hid (List.take_succ_eq_append_getElem hkl)
          obtain ⟨y, hy⟩ : ∃ y, l[j]'hkl = y := ⟨_, rfl⟩
          rw [hy] at d0 YN LT
          have yn := YN.out
          have yn2 : (y : Int) < k := by omega
          have hym : y < ms.length := by rw [← MLN.out]; exact yn
          obtain ⟨g2, e2, c0, c1, c2⟩ := tr_cells (TR.out.gr HGw.out) hym
          have NDy := Lib.hid ((TR.out.gr HGw.out).nds _ (List.getElem_mem hym))
          have NDg : Hid (nd (ms.map NM.n) y = (ms[y]'hym).n) := Lib.hid (by rw [nd_get (by simpa using hym), List.getElem_map])
          have PAR : Hid (0 < y → (ms[y]'hym).n.parent = (pq (ms.map NM.n) y : Int) ∧ pq (ms.map NM.n) y < y) := Lib.hid (fun h0 => by
            have := HU.out.par y (by simpa using hym) h0
            rw [List.getElem_map] at this
            exact this)
          obtain ⟨m, hm⟩ : ∃ m, ms[y]'hym = m := ⟨_, rfl⟩
          rw [hm] at c0 c1 c2 NDy NDg PAR
          have hd := has_of_cell d0
          have hh := has_of_cell c0
          have jj : (j : Int) < k := by omega
          subst e1 e2 e9
          have BX := Lib.hid (Row.new wr #[.int .i64 m.n.parent, .string (bs m.n.name), .slice m.a m.n.props.length m.c] 86)
          have m2k := M2L.out
          clear hy hc hm
          subst hxv
          by_cases h0 : y = 0
          · have MV : Hid (m.n = movF f (ms.map NM.n) y) := Lib.hid (by unfold movF; rw [if_neg (by omega), NDg.out])
            have y0 : decide (0 < y) = false := by simp; omega
            have y1 : ¬ 0 < (y : Int) := by omega
            have y2 : ¬ 0 < y := by omega
            clear h0
            go_upto_region 15 with (fail)
            obtain ⟨W6, hW6⟩ : ∃ W : World, Hid (W = wr.alloc (.cells #[.int .i64 m.n.parent, .string (bs m.n.name), .slice m.a m.n.props.length m.c] 86)) := ⟨_, Lib.hid rfl⟩
            have G6 : Hid (Gr wr W6) := Lib.hid (by rw [hW6.out]; exact (Gr.refl _).alloc _)
            rw [← hW6.out] at BX ⊢
            obtain ⟨PX, hPX⟩ : ∃ N : Nat, Hid (wr.heap.size = N) := ⟨_, Lib.hid rfl⟩
            rw [hPX.out] at BX ⊢
            have B6 := Lib.hid BX.out
            have T6 := Lib.hid (TRw.out.gr G6.out)
            have V7 := Lib.hid (V7w.out.gr G6.out)
            have V1 := Lib.hid (V1w.out.gr G6.out)
            have V2 := Lib.hid (V2w.out.gr G6.out)
            have VS := Lib.hid (VSw.out.gr G6.out)
            have VO := Lib.hid (Gr.owns VOw.out G6.out)
            have HG6 := Lib.hid (HGw.out.trans G6.out)
            clear hW6 hPX c0 c1 c2 d0 hd hh x0 hxb
            have ND6 : Hid (NdAt base W6 m) := Lib.hid (NDy.out.gr G6.out)
            have b0 : W6.cell? ⟨PX, 0, none⟩ = some (.int .i64 m.n.parent) := B6.out.cell 0 (by simp)
            have b1 : W6.cell? ⟨PX, 1, none⟩ = some (.string (bs m.n.name)) := B6.out.cell 1 (by simp)
            have b2 : W6.cell? ⟨PX, 2, none⟩ = some (.slice m.a m.n.props.length m.c) := B6.out.cell 2 (by simp)
            have hb2 := has_of_cell b0
            have u0 := V7.out.cell 0 (by simp)
            have hu7 := has_of_cell u0
            have OWX := Lib.hid (T6.out.own.alloc (.cells #[.int .i64 m.n.parent, .string (bs m.n.name), .slice m.a m.n.props.length m.c] 86))
            have NR := Lib.hid (row_cells (Row.new W6 #[.int .i64 m.n.parent, .string (bs m.n.name), .slice m.a m.n.props.length m.c] 86))
            have hsz := HG6.out.size
            have hbb := HB.out
            go_wp2_with (at_builtin; refine wpList_append_own_at _ rfl _ _ 27 rfl base 86 i0 (.agg #[.int .i64 0, .string (bs []), .slice none 0 0]) 3 48 Tryz.underlying27 hi hz0 hz1 hz2 rfl (by decide) _ m2.length (m2.flatMap NM.enc) rfl OWX.out ⟨W6.heap.size, 0, none⟩ 1 1 [.int .i64 m.n.parent, .string (bs m.n.name), .slice m.a m.n.props.length m.c] rfl rfl NR.out (NM.enc_one m) (by unfold maxLen; omega) (by omega) (by simp; omega) ?_; intro v' wz hown' hgrow hnil hat; obtain ⟨y5, k5, rfl⟩ := owns_slice hown'; have HOz := Lib.hid hown'; have HGz := Lib.hid hgrow; have HAz := Lib.hid hat; have S3z := Lib.hid ((V7.out.alloc (.cells #[.int .i64 m.n.parent, .string (bs m.n.name), .slice m.a m.n.props.length m.c] 86)).kept hgrow (((V7.out.alloc (.cells #[.int .i64 m.n.parent, .string (bs m.n.name), .slice m.a m.n.props.length m.c] 86)).ty).ne OWX.out (by decide))); have q0 := S3z.out.cell 0 (by simp); have qf := S3z.out.free 0; have hq := has_of_cell q0; clear hown' hgrow hnil hat)
            go_roundw
            case rel =>
              have ga : Gr W6 (W6.alloc (.cells #[.int .i64 m.n.parent, .string (bs m.n.name), .slice m.a m.n.props.length m.c] 86)) := (Gr.refl W6).alloc _
              have TN := (T6.out.gr ga).snoc (m := m) HGz.out HOz.out (ND6.out.gr ga)
              have e7 := H7.out
              refine ⟨j + 1, _, m2 ++ [m], by omega, by go_num, S3z.out.set 0 _, TN.box S3z.out.ty (by decide) (TN.ne_ty S3z.out.ty (by decide)), ?_, ?_, ?_, ?_, ?_, ?_, ?_⟩
              · rw [List.map_append, MP.out, LT.out, List.map_append]
                simp only [List.map_cons, List.map_nil]
                rw [MV.out]
              · exact ((V1.out.gr ga).kept HGz.out ((V1.out.gr ga).ty.ne OWX.out (by decide))).oth (by omega)
              · exact ((V2.out.gr ga).kept HGz.out ((V2.out.gr ga).ty.ne OWX.out (by decide))).oth (by omega)
              · exact ((VS.out.gr ga).kept HGz.out ((VS.out.gr ga).ty.ne OWX.out (by decide))).oth (by omega)
              · exact owns_stc ((Gr.owns VO.out ga).kept HGz.out (owns_ne (Gr.owns VO.out ga) OWX.out (by decide))) (fun e => by have := H7L.out P7 e; omega)
              · intro g hg
                rcases HAz.out with q | q
                · exact LOC.out g (q.symm.trans hg)
                · have h3 := q.symm.trans hg
                  injection h3 with h3
                  have h4 := ga.size
                  omega
              · exact ((HG6.out.trans ga).grown HGz.out (fun i e => LOC.out i e)).setc (by omega)
            case measure => simp [intOf]; omega
          · obtain ⟨p1, p2⟩ := PAR.out (by omega)
            obtain ⟨q, hq⟩ : ∃ q, pq (ms.map NM.n) y = q := ⟨_, rfl⟩
            have MV : Hid (({ m.n with parent := (f q : Int) } : Nod) = movF f (ms.map NM.n) y) := Lib.hid (by unfold movF; rw [if_pos (by omega), NDg.out, hq])
            rw [p1, hq] at c0 BX
            rw [hq] at p2
            have y0 : decide (0 < y) = true := by simp; omega
            have y1 : 0 < (y : Int) := by omega
            have y2 : 0 < y := by omega
            have qk : q < k := by omega
            have qk2 : (q : Int) < k := by omega
            have VLq : q < vs.length := by rw [VL.out]; exact qk
            have VV2 : Hid (vs[q]'VLq = (f q : Int)) := Lib.hid (by have := ATF.out q qk; rw [List.getElem?_eq_getElem VLq] at this; exact Option.some.inj this)
            have s0 := VSw.out.iat q VLq
            rw [VV2.out] at s0
            have hs := has_of_cell s0
            have FQ := Lib.hid (FLT.out q qk)
            clear h0 p1 hq
            clear BX
            have BX := Lib.hid (Row.new wr #[.int .i64 (f q : Int), .string (bs m.n.name), .slice m.a m.n.props.length m.c] 86)
            go_upto_region 15 with (fail)
            obtain ⟨W6, hW6⟩ : ∃ W : World, Hid (W = wr.alloc (.cells #[.int .i64 (f q : Int), .string (bs m.n.name), .slice m.a m.n.props.length m.c] 86)) := ⟨_, Lib.hid rfl⟩
            have G6 : Hid (Gr wr W6) := Lib.hid (by rw [hW6.out]; exact (Gr.refl _).alloc _)
            rw [← hW6.out] at BX ⊢
            obtain ⟨PX, hPX⟩ : ∃ N : Nat, Hid (wr.heap.size = N) := ⟨_, Lib.hid rfl⟩
            rw [hPX.out] at BX ⊢
            have B6 := Lib.hid BX.out
            have T6 := Lib.hid (TRw.out.gr G6.out)
            have V7 := Lib.hid (V7w.out.gr G6.out)
            have V1 := Lib.hid (V1w.out.gr G6.out)
            have V2 := Lib.hid (V2w.out.gr G6.out)
            have VS := Lib.hid (VSw.out.gr G6.out)
            have VO := Lib.hid (Gr.owns VOw.out G6.out)
            have HG6 := Lib.hid (HGw.out.trans G6.out)
            clear hW6 hPX c0 c1 c2 d0 hd hh x0 hxb s0 hs
            have ND6 : Hid (NdAt base W6 (⟨{ m.n with parent := (f q : Int) }, m.a, m.c⟩ : NM)) := Lib.hid (⟨(NDy.out.gr G6.out).own, ⟨by have := FQ.out; simp only; omega, by have := FQ.out; simp only; omega, NDy.out.sm.nam, NDy.out.sm.len, NDy.out.sm.prp⟩⟩)
            have b0 : W6.cell? ⟨PX, 0, none⟩ = some (.int .i64 (f q : Int)) := B6.out.cell 0 (by simp)
            have b1 : W6.cell? ⟨PX, 1, none⟩ = some (.string (bs m.n.name)) := B6.out.cell 1 (by simp)
            have b2 : W6.cell? ⟨PX, 2, none⟩ = some (.slice m.a m.n.props.length m.c) := B6.out.cell 2 (by simp)
            have hb2 := has_of_cell b0
            have u0 := V7.out.cell 0 (by simp)
            have hu7 := has_of_cell u0
            have OWX := Lib.hid (T6.out.own.alloc (.cells #[.int .i64 (f q : Int), .string (bs m.n.name), .slice m.a m.n.props.length m.c] 86))
            have NR := Lib.hid (row_cells (Row.new W6 #[.int .i64 (f q : Int), .string (bs m.n.name), .slice m.a m.n.props.length m.c] 86))
            have hsz := HG6.out.size
            have hbb := HB.out
            go_wp2_with (at_builtin; refine wpList_append_own_at _ rfl _ _ 27 rfl base 86 i0 (.agg #[.int .i64 0, .string (bs []), .slice none 0 0]) 3 48 Tryz.underlying27 hi hz0 hz1 hz2 rfl (by decide) _ m2.length (m2.flatMap NM.enc) rfl OWX.out ⟨W6.heap.size, 0, none⟩ 1 1 [.int .i64 (f q : Int), .string (bs m.n.name), .slice m.a m.n.props.length m.c] rfl rfl NR.out (NM.enc_one (⟨{ m.n with parent := (f q : Int) }, m.a, m.c⟩ : NM)) (by unfold maxLen; omega) (by omega) (by simp; omega) ?_; intro v' wz hown' hgrow hnil hat; obtain ⟨y5, k5, rfl⟩ := owns_slice hown'; have HOz := Lib.hid hown'; have HGz := Lib.hid hgrow; have HAz := Lib.hid hat; have S3z := Lib.hid ((V7.out.alloc (.cells #[.int .i64 (f q : Int), .string (bs m.n.name), .slice m.a m.n.props.length m.c] 86)).kept hgrow (((V7.out.alloc (.cells #[.int .i64 (f q : Int), .string (bs m.n.name), .slice m.a m.n.props.length m.c] 86)).ty).ne OWX.out (by decide))); have q0 := S3z.out.cell 0 (by simp); have qf := S3z.out.free 0; have hq := has_of_cell q0; clear hown' hgrow hnil hat)
            go_roundw
            case rel =>
              have ga : Gr W6 (W6.alloc (.cells #[.int .i64 (f q : Int), .string (bs m.n.name), .slice m.a m.n.props.length m.c] 86)) := (Gr.refl W6).alloc _
              have TN := (T6.out.gr ga).snoc (m := (⟨{ m.n with parent := (f q : Int) }, m.a, m.c⟩ : NM)) HGz.out HOz.out (ND6.out.gr ga)
              have e7 := H7.out
              refine ⟨j + 1, _, m2 ++ [(⟨{ m.n with parent := (f q : Int) }, m.a, m.c⟩ : NM)], by omega, by go_num, S3z.out.set 0 _, TN.box S3z.out.ty (by decide) (TN.ne_ty S3z.out.ty (by decide)), ?_, ?_, ?_, ?_, ?_, ?_, ?_⟩
              · rw [List.map_append, MP.out, LT.out, List.map_append]
                simp only [List.map_cons, List.map_nil]
                rw [MV.out]
              · exact ((V1.out.gr ga).kept HGz.out ((V1.out.gr ga).ty.ne OWX.out (by decide))).oth (by omega)
              · exact ((V2.out.gr ga).kept HGz.out ((V2.out.gr ga).ty.ne OWX.out (by decide))).oth (by omega)
              · exact ((VS.out.gr ga).kept HGz.out ((VS.out.gr ga).ty.ne OWX.out (by decide))).oth (by omega)
              · exact owns_stc ((Gr.owns VO.out ga).kept HGz.out (owns_ne (Gr.owns VO.out ga) OWX.out (by decide))) (fun e => by have := H7L.out P7 e; omega)
              · intro g hg
                rcases HAz.out with q | q
                · exact LOC.out g (q.symm.trans hg)
                · have h3 := q.symm.trans hg
                  injection h3 with h3
                  have h4 := ga.size
                  omega
              · exact ((HG6.out.trans ga).grown HGz.out (fun i e => LOC.out i e)).setc (by omega)
            case measure => simp [intOf]; omega
        · obtain rfl : j = k := by omega
          rw [List.take_of_length_le (by rw [PL.out.len]; exact Nat.le_refl _)] at MP
          have u0 := V7w.out.cell 0 (by simp)
          have hu := has_of_cell u0
          have z0 := V2w.out.cell 0 (by simp)
          have zf := V2w.out.free 0
          have hz := has_of_cell z0
          have e7 := H7.out
          have e2 := HP2.out
          have e3 := HPB.out
          subst hxv
          clear x0 hxb
          go_wp2_with fail
          have RF := Lib.hid (V2w.out.set 0 (.slice xv m2.length xc))
          have TF : Hid (TrAt base (wr.setCell ⟨P2, 0, none⟩ (.slice xv m2.length xc)) (.slice xv m2.length xc) m2) := Lib.hid (TRw.out.box V2w.out.ty (by decide) (TRw.out.ne_ty V2w.out.ty (by decide)))
          have GF : Hid (Gr w (wr.setCell ⟨P2, 0, none⟩ (.slice xv m2.length xc))) := Lib.hid (HGw.out.setc (by omega))
          obtain ⟨W3, hW3⟩ : ∃ W : World, Hid (W = wr.setCell ⟨P2, 0, none⟩ (.slice xv m2.length xc)) := ⟨_, Lib.hid rfl⟩
          rw [← hW3.out] at RF TF GF ⊢
          have e0 : W3.cell? ⟨P2, 0, none⟩ = some (.slice xv m2.length xc) := RF.out.cell 0 (by simp)
          clear hW3 u0 hu z0 zf hz
          refine bodyPost_ret (v := .agg #[.slice xv m2.length xc]) (by simp [results, Tryz.results122, e0, go_sem]) rfl ?_
          rw [HP0.out]
          exact ⟨_, m2, rfl, TF.out, MP.out, GF.out⟩
theorem walkF_congr {n : Nat} {q q' : Nat → Nat} {nm nm' : Nat → St} (hq : ∀ i, i < n → q i = q' i) (hn : ∀ i, i < n → nm i = nm' i) : ∀ f x, walkF n q nm f x = walkF n q' nm' f x := by
  intro f
  induction f with
  | zero => intro x; rfl
  | succ f ih =>
    intro x
    rw [walkF, walkF, chl_congr n hq hn]
    congr 1
    have : ∀ cs : List Nat, cs.flatMap (walkF n q nm f) = cs.flatMap (walkF n q' nm' f) := fun cs => by
      induction cs with
      | nil => rfl
      | cons c cs ih2 => rw [List.flatMap_cons, List.flatMap_cons, ih c, ih2]
    exact this _
theorem pq_new {ts : Tr} {k : Nat} {x : St} {i : Nat} (h : i < ts.length + 1) : pq (newT ts k x) i = qx ts.length k (pq ts) i := by
  unfold qx
  by_cases e : i = ts.length
  · subst e; rw [if_pos rfl]; unfold pq; rw [nd_new_new]; simp
  · rw [if_neg e]; unfold pq; rw [nd_new_old (by omega)]
theorem nm_new {ts : Tr} {k : Nat} {x : St} {i : Nat} (h : i < ts.length + 1) : nmT (newT ts k x) i = nx ts.length x (nmT ts) i := by
  unfold nx
  by_cases e : i = ts.length
  · subst e; rw [if_pos rfl]; unfold nmT; rw [nd_new_new]
  · rw [if_neg e]; unfold nmT; rw [nd_new_old (by omega)]
theorem len_new (ts : Tr) (k : Nat) (x : St) : (newT ts k x).length = ts.length + 1 := by unfold newT; rw [List.length_append]; rfl
theorem walk_newT (ts : Tr) (k : Nat) (x : St) (f y : Nat) : walkF (newT ts k x).length (pq (newT ts k x)) (nmT (newT ts k x)) f y = walkF (ts.length + 1) (qx ts.length k (pq ts)) (nx ts.length x (nmT ts)) f y := by
  rw [len_new]
  exact walkF_congr (fun i h => pq_new h) (fun i h => nm_new h) f y
theorem perm_ordL {n p : Nat} (h : p ≤ n) : PermL (n + 1) (ordL n p) (pim n p) := by
  refine ⟨ordL_len h, fun y hy => ?_, fun y hy => ?_, fun i hi => ?_⟩
  · unfold ordL at hy
    rw [List.mem_append, List.mem_cons, List.mem_range, List.mem_range'_1] at hy
    omega
  · unfold ordL
    rw [List.mem_append, List.mem_cons, List.mem_range, List.mem_range'_1]
    omega
  · have hi2 : i < n + 1 := by rw [ordL_len h] at hi; exact hi
    have e := ordL_get h hi2
    rw [List.getElem?_eq_getElem hi] at e
    rw [Option.some.inj e]
    by_cases h1 : i < p
    · rw [if_pos h1]; unfold pim; rw [if_neg (by omega), sh_lt h1]
    · rw [if_neg h1]
      by_cases h2 : i = p
      · rw [if_pos h2]; unfold pim; rw [if_pos rfl, h2]
      · rw [if_neg h2]; unfold pim; rw [if_neg (by omega), sh_ge (by omega)]; omega
theorem parOk_new {ts : Tr} {k : Nat} {x : St} (h : VT ts) (hk : k < ts.length) : ParOk (newT ts k x) := by
  have few := h.few
  refine ⟨by rw [len_new]; omega, fun i hi h0 => ?_⟩
  rw [len_new] at hi
  rw [← nd_get (by rw [len_new]; exact hi), pq_new hi]
  unfold qx
  by_cases e : i = ts.length
  · subst e; rw [nd_new_new, if_pos rfl]; exact ⟨rfl, hk⟩
  · rw [nd_new_old (by omega), if_neg e]
    exact ⟨h.par h0 (by omega), h.shp.par i h0 (by omega)⟩
theorem walkLen_new {ts : Tr} {k : Nat} {x : St} {p : Nat} (h : VT ts) (hk : k < ts.length) (hx : ∀ i, 0 < i → i < ts.length → pq ts i = k → nmT ts i ≠ x) (hd : ∃ d, d ≤ 7 ∧ Dep (pq ts) k d) (hi : InsAt ts.length (pq ts) (nmT ts) k x p) :
    ∀ f y, (newT ts k x).length ≤ f + y → y < (newT ts k x).length → (walkF (newT ts k x).length (pq (newT ts k x)) (nmT (newT ts k x)) f y).length ≤ 1000 := by
  intro f y h1 h2
  have few := h.few
  rw [walk_newT]
  rw [len_new] at h1 h2
  by_cases e : y = ts.length
  · have hc : chl (qx ts.length k (pq ts)) (nx ts.length x (nmT ts)) y (ts.length + 1) = [] := by
      rw [List.eq_nil_iff_forall_not_mem]
      intro c hc
      rw [mem_chl] at hc
      obtain ⟨c1, c2, c3⟩ := hc
      unfold qx at c3
      split at c3
      · omega
      · have := h.shp.par c (by omega) (by omega); omega
    cases f with
    | zero => simp [walkF]
    | succ f => rw [walkF, hc]; simp
  · have hw := walk_new h.shp h.pos hk hi hx f y (by omega)
    have hl : (walkF (ts.length + 1) (qx ts.length k (pq ts)) (nx ts.length x (nmT ts)) f y).length = (walkF (ts.length + 1) (qn p k (pq ts)) (nn p x (nmT ts)) f (pim ts.length p y)).length := by
      rw [← hw, List.length_map]
    rw [hl]
    have hpy : y ≤ pim ts.length p y ∧ pim ts.length p y ≤ ts.length := by
      unfold pim
      rw [if_neg e]
      have := sh_le p y
      omega
    obtain ⟨e2, he⟩ := end_ex (ts.length + 1) (qn p k (pq ts)) (pim ts.length p y) (by omega)
    rw [walk_range (shp_ins h.shp hk hi hx hd) f _ e2 (by omega) (by omega) he, List.length_range']
    have := he.hi
    omega
theorem walk_ordL {ts : Tr} {k : Nat} {x : St} {p : Nat} (h : VT ts) (hk : k < ts.length) (hx : ∀ i, 0 < i → i < ts.length → pq ts i = k → nmT ts i ≠ x) (hd : ∃ d, d ≤ 7 ∧ Dep (pq ts) k d) (hi : InsAt ts.length (pq ts) (nmT ts) k x p) :
    walkF (newT ts k x).length (pq (newT ts k x)) (nmT (newT ts k x)) (ts.length + 1) 0 = ordL ts.length p := by
  rw [walk_newT]
  exact walk_ins h.shp h.pos hk hi hx hd (Nat.le_refl _)
end Go.Proofs.YtbpkndiecomggaaGreatDoor
