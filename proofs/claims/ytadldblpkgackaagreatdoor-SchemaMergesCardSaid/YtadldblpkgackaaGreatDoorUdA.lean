/- schema.Parse: what is read so far, in memory. -/
import Derived.Test.YtadldblpkgackaaGreatDoorUcC
set_option linter.unusedVariables false
set_option linter.unusedSimpArgs false
namespace Go.Proofs.YtadldblpkgackaaGreatDoor
open Go.RowKit
open Classical

/-- A rule with the slice of its words. -/
structure RM where
  r : Rul
  a : Option Addr
  c : Nat
def RM.enc (x : RM) : List Value := [.string (bs x.r.name), .bool x.r.req, .int .i64 x.r.kind, .int .i64 x.r.low, .int .i64 x.r.high, .int .i64 x.r.count, .slice x.a x.r.words.length x.c]
theorem RM.enc_len (x : RM) : x.enc.length = 7 := rfl
/-- A schema with the slice of its rules. -/
structure SM where
  comp : St
  closed : Bool
  rs : List RM
  v : Value
def SM.enc (s : SM) : List Value := [.string (bs s.comp), .bool s.closed, s.v]
theorem SM.enc_len (s : SM) : s.enc.length = 3 := rfl
def SM.sch (s : SM) : Sch := ⟨s.comp, s.closed, s.rs.map RM.r⟩
theorem owns_put {w : World} {base e size n g cap j : Nat} {xs : List Value} (h : w.ownsRow base e size (.slice (some ⟨g, 0, none⟩) n cap) n xs) (hj : j < n * size) (v : Value) : (w.setCell ⟨g, j, none⟩ v).ownsRow base e size (.slice (some ⟨g, 0, none⟩) n cap) n (xs.set j v) := by
  obtain ⟨h0, ⟨e1, _⟩ | ⟨g', cap', cur, e1, hb, hg, hn, hm, hs, ht⟩⟩ := h
  · cases e1
  · simp only [Value.slice.injEq, Option.some.injEq, Addr.mk.injEq, and_true, true_and] at e1
    obtain ⟨rfl, rfl⟩ := e1
    have hr : Row w g e cur.toList := hg
    have hr2 := hr.set j v
    refine ⟨by simpa using h0, .inr ⟨g, cap, (cur.toList.set j v).toArray, rfl, hb, hr2, hn, hm, by simpa using hs, ?_⟩⟩
    rw [← ht]
    simp only []
    rw [List.take_set]
theorem WAt.kept {w w' : World} {row : Option Nat} {a : Option Addr} {l : List St} (h : WAt w a l) (hg : w.grownBy w' row) (hne : ∀ B, Ty w B 9 → some B ≠ row) : WAt w' a l :=
  h.imp id (fun ⟨B, o, vs, h1, h2, h3⟩ => ⟨B, o, vs, h1, h2.kept hg (hne B h2.ty), h3⟩)
structure RlsAt (base : Nat) (w : World) (s : SM) : Prop where
  own : w.ownsRow base 28 7 s.v s.rs.length (s.rs.flatMap RM.enc)
  wds : ∀ x ∈ s.rs, WAt w x.a x.r.words
  ok : ∀ x ∈ s.rs, ruleP x.r = true ∧ x.r.name.length ≤ 1000000 ∧ x.r.words.length ≤ x.c
  len : s.rs.length ≤ 16
  cl : s.comp.length ≤ 1000000
theorem RlsAt.gr {base : Nat} {w w' : World} {s : SM} (h : RlsAt base w s) (hg : Gr w w') : RlsAt base w' s := ⟨Gr.owns h.own hg, fun x hx => (h.wds x hx).gr hg, h.ok, h.len, h.cl⟩
theorem RlsAt.kept {base : Nat} {w w' : World} {row : Option Nat} {s : SM} (h : RlsAt base w s) (hg : w.grownBy w' row) (hne : ∀ B, Ty w B 9 → some B ≠ row) (hv : s.v.ownBlock = none ∨ s.v.ownBlock ≠ row) : RlsAt base w' s :=
  ⟨h.own.kept hg hv, fun x hx => (h.wds x hx).kept hg hne, h.ok, h.len, h.cl⟩
/-- The schemas read so far lie in slice v. -/
structure OutAt (base : Nat) (w : World) (v : Value) (out : List SM) : Prop where
  own : w.ownsRow base 24 3 v out.length (out.flatMap SM.enc)
  rls : ∀ s ∈ out, RlsAt base w s
  ap : ∀ i j (hi : i < out.length) (hj : j < out.length), i ≠ j → out[i].v.ownBlock = none ∨ out[i].v.ownBlock ≠ out[j].v.ownBlock
  len : out.length ≤ 24
theorem OutAt.nil (base : Nat) (w : World) : OutAt base w (.slice none 0 0) [] := ⟨World.ownsRow_nil _ _ _ _, (fun s hs => by cases hs), (fun i j hi => by cases hi), by simp⟩
theorem OutAt.gr {base : Nat} {w w' : World} {v : Value} {out : List SM} (h : OutAt base w v out) (hg : Gr w w') : OutAt base w' v out := ⟨Gr.owns h.own hg, fun s hs => (h.rls s hs).gr hg, h.ap, h.len⟩
theorem ty_ne_owns {w : World} {b2 e2 s2 n2 : Nat} {v2 : Value} {x2 : List Value} (k : w.ownsRow b2 e2 s2 v2 n2 x2) (hne : 9 ≠ e2) : ∀ B, Ty w B 9 → some B ≠ v2.ownBlock := fun B h => h.ne k hne
theorem OutAt.snoc {base : Nat} {w w' : World} {v v' : Value} {out : List SM} {s : SM} (h : OutAt base w v out) (hl : out.length < 24) (hg : w.grownBy w' v.ownBlock) (ho : w'.ownsRow base 24 3 v' (out.length + 1) (out.flatMap SM.enc ++ s.enc))
    (hs : s.rs = []) (hv : s.v = .slice none 0 0) (hc : s.comp.length ≤ 1000000) : OutAt base w' v' (out ++ [s]) := by
  have e1 : s.v.ownBlock = none := by rw [hv]; rfl
  refine ⟨by rw [List.length_append, List.flatMap_append, List.flatMap_cons, List.flatMap_nil, List.append_nil]; exact ho, fun t ht => ?_, fun i j hi hj hij => ?_, by rw [List.length_append]; simp; omega⟩
  · rcases List.mem_append.1 ht with ht | ht
    · exact (h.rls t ht).kept hg (ty_ne_owns h.own (by decide)) (owns_ne (h.rls t ht).own h.own (by decide))
    · rw [List.mem_singleton.1 ht]
      exact ⟨(by rw [hs, hv]; exact World.ownsRow_nil _ _ _ _), (by rw [hs]; intro x hx; cases hx), (by rw [hs]; intro x hx; cases hx), (by rw [hs]; simp), hc⟩
  · rw [List.length_append] at hi hj
    simp only [List.length_cons, List.length_nil] at hi hj
    by_cases i0 : i < out.length
    · rw [List.getElem_append_left i0]
      by_cases j0 : j < out.length
      · rw [List.getElem_append_left j0]
        exact h.ap i j i0 j0 hij
      · rw [List.getElem_append_right (by omega)]
        simp only [show j - out.length = 0 by omega, List.getElem_cons_zero]
        rw [e1]
        cases out[i].v.ownBlock with
        | none => exact .inl rfl
        | some z => exact .inr (by simp)
    · rw [List.getElem_append_right (by omega)]
      simp only [show i - out.length = 0 by omega, List.getElem_cons_zero]
      exact .inl e1
theorem enc_put (ts : List SM) (s s' : SM) (he : s'.enc = s.enc.set 2 s'.v) : ((ts ++ [s]).flatMap SM.enc).set (ts.length * 3 + 2) s'.v = (ts ++ [s']).flatMap SM.enc := by
  have hl : (ts.flatMap SM.enc).length = ts.length * 3 := by
    induction ts with
    | nil => rfl
    | cons x xs ih => rw [List.flatMap_cons, List.length_append, ih, SM.enc_len, List.length_cons]; omega
  rw [List.flatMap_append, List.flatMap_append, List.set_append_right _ _ (by rw [hl]; omega), hl, List.flatMap_cons, List.flatMap_cons, List.flatMap_nil, List.append_nil, List.append_nil, he, show ts.length * 3 + 2 - ts.length * 3 = 2 by omega]
/-- One more rule for the last schema. -/
theorem OutAt.push {base : Nat} {w w1 : World} {g n c : Nat} {v' : Value} {out : List SM} {s : SM} {x : RM} (h : OutAt base w (.slice (some ⟨g, 0, none⟩) n c) (out ++ [s])) (hn : n = out.length + 1) (hl : s.rs.length < 16) (hg : w.grownBy w1 s.v.ownBlock)
    (ho : w1.ownsRow base 28 7 v' (s.rs.length + 1) (s.rs.flatMap RM.enc ++ x.enc)) (hloc : v'.ownBlock = s.v.ownBlock ∨ ∃ k, v'.ownBlock = some k ∧ w.heap.size ≤ k)
    (hx : WAt w x.a x.r.words) (hok : ruleP x.r = true ∧ x.r.name.length ≤ 1000000 ∧ x.r.words.length ≤ x.c) :
    OutAt base (w1.setCell ⟨g, out.length * 3 + 2, none⟩ v') (.slice (some ⟨g, 0, none⟩) n c) (out ++ [⟨s.comp, s.closed, s.rs ++ [x], v'⟩]) := by
  subst hn
  have hs := h.rls s (by simp)
  have hlen : (out ++ [s]).length = out.length + 1 := by simp
  have how := h.own
  rw [hlen] at how
  have hap2 : (Value.slice (some ⟨g, 0, none⟩) (out.length + 1) c).ownBlock = none ∨ (Value.slice (some ⟨g, 0, none⟩) (out.length + 1) c).ownBlock ≠ s.v.ownBlock := owns_ne how hs.own (by decide)
  have how1 := how.kept hg hap2
  have hput := owns_put how1 (j := out.length * 3 + 2) (by omega) v'
  rw [enc_put out s ⟨s.comp, s.closed, s.rs ++ [x], v'⟩ rfl] at hput
  have gset := grownBy_set w1 g (out.length * 3 + 2) v'
  have gty : Ty w1 g 24 := owns_ty how1 rfl
  have strne : ∀ B, Ty w1 B 9 → some B ≠ some g := fun B hB e => hB.apart gty (by decide) (Option.some.inj e)
  have rulne : ∀ {b e1 s1 n1 : Nat} {u : Value} {xs : List Value}, w1.ownsRow b 28 s1 u n1 xs → u.ownBlock = none ∨ u.ownBlock ≠ some g := fun {b e1 s1 n1 u xs} hu => owns_ne hu how1 (by decide)
  have wx : WAt w1 x.a x.r.words := hx.kept hg (ty_ne_owns hs.own (by decide))
  refine ⟨by rw [List.length_append]; exact hput, fun t ht => ?_, fun i j hi hj hij => ?_, by have := h.len; rw [List.length_append] at this ⊢; exact this⟩
  · rcases List.mem_append.1 ht with ht | ht
    · obtain ⟨i, hi, rfl⟩ := List.getElem_of_mem ht
      have hti := h.rls out[i] (List.mem_append_left _ ht)
      have hap := h.ap i out.length (by rw [hlen]; omega) (by rw [hlen]; omega) (by omega)
      rw [List.getElem_append_left hi, List.getElem_append_right (Nat.le_refl _)] at hap
      simp only [Nat.sub_self, List.getElem_cons_zero] at hap
      have k1 := hti.kept hg (ty_ne_owns hs.own (by decide)) hap
      exact k1.kept gset strne (rulne (e1 := 0) k1.own)
    · rw [List.mem_singleton.1 ht]
      refine ⟨by rw [List.length_append, List.flatMap_append, List.flatMap_cons, List.flatMap_nil, List.append_nil]; exact ho.kept gset (rulne (e1 := 0) ho), fun y hy => ?_, fun y hy => ?_, by rw [List.length_append]; simp; omega, hs.cl⟩
      · rcases List.mem_append.1 hy with hy | hy
        · exact ((hs.wds y hy).kept hg (ty_ne_owns hs.own (by decide))).kept gset strne
        · rw [List.mem_singleton.1 hy]; exact wx.kept gset strne
      · rcases List.mem_append.1 hy with hy | hy
        · exact hs.ok y hy
        · rw [List.mem_singleton.1 hy]; exact hok
  · rw [List.length_append] at hi hj
    simp only [List.length_cons, List.length_nil] at hi hj
    by_cases i0 : i < out.length
    · rw [List.getElem_append_left i0]
      by_cases j0 : j < out.length
      · rw [List.getElem_append_left j0]
        have := h.ap i j (by rw [hlen]; omega) (by rw [hlen]; omega) hij
        rwa [List.getElem_append_left i0, List.getElem_append_left j0] at this
      · rw [List.getElem_append_right (by omega)]
        simp only [show j - out.length = 0 by omega, List.getElem_cons_zero]
        have hap := h.ap i out.length (by rw [hlen]; omega) (by rw [hlen]; omega) (by omega)
        rw [List.getElem_append_left i0, List.getElem_append_right (Nat.le_refl _)] at hap
        simp only [Nat.sub_self, List.getElem_cons_zero] at hap
        rcases hap with q | q
        · exact .inl q
        · rcases hloc with z | ⟨k, z, hk⟩
          · exact .inr (by rw [z]; exact q)
          · cases hz : out[i].v.ownBlock with
            | none => exact .inl rfl
            | some b =>
              refine .inr ?_
              rw [z]
              intro e
              injection e with e
              have := ((h.rls out[i] (by simp)).own.lt b hz).2
              omega
    · rw [List.getElem_append_right (by omega)]
      simp only [show i - out.length = 0 by omega, List.getElem_cons_zero]
      have j0 : j < out.length := by omega
      rw [List.getElem_append_left j0]
      have hap := h.ap out.length j (by rw [hlen]; omega) (by rw [hlen]; omega) (by omega)
      rw [List.getElem_append_left j0, List.getElem_append_right (Nat.le_refl _)] at hap
      simp only [Nat.sub_self, List.getElem_cons_zero] at hap
      rcases hloc with z | ⟨k, z, hk⟩
      · rw [z]; exact hap
      · refine .inr ?_
        rw [z]
        intro e
        have := ((h.rls out[j] (by simp)).own.lt k e.symm).2
        omega
/-! As data. -/
theorem RlsAt.sl {base : Nat} {w : World} {s : SM} {a : Option Addr} {n c : Nat} (h : RlsAt base w s) (hv : s.v = .slice a n c) : n = s.rs.length ∧ SlOf 7 RRul w a (s.rs.map RM.r) := by
  have hn : n = s.rs.length := by
    have := h.own
    rw [hv] at this
    rcases this.2 with ⟨e, z⟩ | ⟨g, cap, cur, e, _⟩
    · cases e; exact z.symm
    · cases e; rfl
  refine ⟨hn, fun k hk => ?_⟩
  rw [List.length_map] at hk
  obtain ⟨g, cap, e1, h1, _, hc⟩ := owns_cell h.own (by omega)
  rw [hv] at e1
  cases e1
  have hf := fun j (hj : j < 7) => flat_at RM.enc 7 (fun _ => rfl) s.rs k j hk hj
  have h2 : ∀ j, j < 7 → w.cell? ⟨g, k * 7 + j, none⟩ = (RM.enc s.rs[k])[j]? := fun j hj => by
    rw [hc (k * 7 + j) (by omega)]; exact hf j hj
  obtain ⟨o1, o2, o3⟩ := h.ok s.rs[k] (List.getElem_mem hk)
  have cr := count_range o1
  have hw16 := words_len o1
  have hww := h.wds s.rs[k] (List.getElem_mem hk)
  have kr : 1 ≤ s.rs[k].r.kind ∧ s.rs[k].r.kind ≤ 6 := by
    obtain ⟨kn, e, q1, q2⟩ := kind_nat o1
    rw [e]; omega
  have lr : (0 ≤ s.rs[k].r.low ∧ s.rs[k].r.low ≤ 4294967295) ∧ (0 ≤ s.rs[k].r.high ∧ s.rs[k].r.high ≤ 4294967295) := by
    by_cases q : s.rs[k].r.kind = 3
    · obtain ⟨a1, a2, a3, a4⟩ := cells_range o1 q
      exact ⟨⟨a1, a2⟩, a3, a4⟩
    · have := o1
      unfold ruleP at this
      rw [if_neg q] at this
      simp at this
      omega
  rw [List.getElem_map]
  have hw2 : ∀ n : Int, 0 ≤ n → n ≤ 4294967295 → Wide n := fun n a b => by unfold Wide; omega
  refine ⟨g, 0, rfl, ?_, ?_, ?_, ?_, ?_, ?_, ?_⟩
  all_goals rw [Nat.zero_add]
  · exact ⟨by rw [show k * 7 = k * 7 + 0 from rfl, h2 0 (by omega)]; rfl, by omega⟩
  · show w.cell? _ = _; rw [h2 1 (by omega)]; rfl
  · exact ⟨by rw [h2 2 (by omega)]; rfl, hw2 _ (by omega) (by omega)⟩
  · exact ⟨by rw [h2 3 (by omega)]; rfl, hw2 _ (by omega) (by omega)⟩
  · exact ⟨by rw [h2 4 (by omega)]; rfl, hw2 _ (by omega) (by omega)⟩
  · exact ⟨by rw [h2 5 (by omega)]; rfl, hw2 _ (by omega) (by omega)⟩
  · exact ⟨_, _, by rw [h2 6 (by omega)]; rfl, o3, by unfold Fit; omega, hww.sl⟩
theorem OutAt.sl {base : Nat} {w : World} {out : List SM} {a : Option Addr} {n c : Nat} (h : OutAt base w (.slice a n c) out) : n = out.length ∧ SlOf 3 RSch w a (out.map SM.sch) := by
  have hn : n = out.length := by
    have := h.own
    rcases this.2 with ⟨e, z⟩ | ⟨g, cap, cur, e, _⟩
    · cases e; exact z.symm
    · cases e; rfl
  refine ⟨hn, fun k hk => ?_⟩
  rw [List.length_map] at hk
  obtain ⟨g, cap, e1, h1, _, hc⟩ := owns_cell h.own (by omega)
  cases e1
  have hf := fun j (hj : j < 3) => flat_at SM.enc 3 (fun _ => rfl) out k j hk hj
  have h2 : ∀ j, j < 3 → w.cell? ⟨g, k * 3 + j, none⟩ = (SM.enc out[k])[j]? := fun j hj => by
    rw [hc (k * 3 + j) (by omega)]; exact hf j hj
  have hr := h.rls out[k] (List.getElem_mem hk)
  obtain ⟨ra, rc, hv⟩ := owns_slice hr.own
  obtain ⟨_, hsl⟩ := hr.sl hv
  obtain ⟨g2, cap2, e2⟩ : ∃ g2 : Option Addr, ∃ cap2, out[k].v = .slice g2 out[k].rs.length cap2 ∧ out[k].rs.length ≤ cap2 := by
    rcases hr.own.2 with ⟨e, z⟩ | ⟨g, cap, cur, e, _, _, z, _⟩
    · exact ⟨none, 0, by rw [e, z], by omega⟩
    · exact ⟨_, _, e, z⟩
  rw [hv] at e2
  obtain ⟨e2, e3⟩ := e2
  cases e2
  rw [List.getElem_map]
  refine ⟨g, 0, rfl, ?_, ?_, ?_⟩
  all_goals rw [Nat.zero_add]
  · exact ⟨by rw [show k * 3 = k * 3 + 0 from rfl, h2 0 (by omega)]; rfl, by have := hr.cl; simp only [SM.sch]; omega⟩
  · show w.cell? _ = _; rw [h2 1 (by omega)]; rfl
  · refine ⟨_, _, by rw [h2 2 (by omega)]; simp only [SM.enc, SM.sch, List.length_map]; rw [hv]; rfl, by simpa [SM.sch] using e3, by have := hr.len; unfold Fit; simp only [SM.sch, List.length_map]; omega, hsl⟩
end Go.Proofs.YtadldblpkgackaaGreatDoor
