/- cmp.Compare over texts; the order by which schema.Merge sorts. SchemaMerges: the plain law. -/
import Derived.Test.YtadldblpkgackaaGreatDoorUdA
import Derived.Test.YtadldblpkgackaaGreatDoorUiC
import Derived.Test.YtadldblpkgackaaGreatDoorUkA
set_option linter.unusedVariables false
set_option linter.unusedSimpArgs false
namespace Go.Proofs.YtadldblpkgackaaGreatDoor
open Go.RowKit
open Classical

theorem lt_irr : ∀ a : St, Op.bytesLess a a = false
  | [] => rfl
  | a :: x => by simp [Op.bytesLess, lt_irr x]
theorem lt_trans : ∀ {a b c : St}, Op.bytesLess a b = true → Op.bytesLess b c = true → Op.bytesLess a c = true
  | [], [], _, h, _ => by simp [Op.bytesLess] at h
  | _ :: _, [], _, h, _ => by simp [Op.bytesLess] at h
  | _, _ :: _, [], _, h => by simp [Op.bytesLess] at h
  | [], _ :: _, _ :: _, _, _ => rfl
  | a :: x, b :: y, c :: z, h, k => by
    simp only [Op.bytesLess, Bool.or_eq_true, decide_eq_true_eq, Bool.and_eq_true, beq_iff_eq] at h k ⊢
    rcases h with h | ⟨rfl, h⟩
    · rcases k with k | ⟨rfl, k⟩
      · exact .inl (UInt8.lt_trans h k)
      · exact .inl h
    · rcases k with k | ⟨rfl, k⟩
      · exact .inl k
      · exact .inr ⟨rfl, lt_trans h k⟩
theorem lt_tot : ∀ (a b : St), Op.bytesLess a b = true ∨ a = b ∨ Op.bytesLess b a = true
  | [], [] => .inr (.inl rfl)
  | [], _ :: _ => .inl rfl
  | _ :: _, [] => .inr (.inr rfl)
  | a :: x, b :: y => by
    simp only [Op.bytesLess, Bool.or_eq_true, decide_eq_true_eq, Bool.and_eq_true, beq_iff_eq, List.cons.injEq]
    rcases Nat.lt_trichotomy a.toNat b.toNat with h | h | h
    · exact .inl (.inl (UInt8.lt_iff_toNat_lt.2 h))
    · have e : a = b := UInt8.toNat_inj.1 h
      subst e
      rcases lt_tot x y with q | q | q
      · exact .inl (.inr ⟨rfl, q⟩)
      · exact .inr (.inl ⟨rfl, q⟩)
      · exact .inr (.inr (.inr ⟨rfl, q⟩))
    · exact .inr (.inr (.inl (UInt8.lt_iff_toNat_lt.2 h)))
theorem lt_ne {a b : St} (h : Op.bytesLess a b = true) : a ≠ b := by rintro rfl; rw [lt_irr] at h; cases h
theorem lt_not {a b : St} (h : Op.bytesLess a b = true) : Op.bytesLess b a = false := by
  rw [← Bool.not_eq_true]; intro k; have := lt_trans h k; rw [lt_irr] at this; cases this
def cmpS (a b : St) : Int := if Op.bytesLess a b = true then -1 else if a = b then 0 else 1
theorem isNaNS_any (a : St) (w : World) : Calls Tryz.prog 95 #[.string (bs a)] w fun e w' => e = .returned (.bool false) ∧ w = w' := by
  go_enter Tryz.func95, Tryz.ntmps95
  go_wp2_with fail
  go_ret
  exact ⟨ret_bool (by simp), rfl⟩
theorem cmpS_any (a b : St) (w : World) : Calls Tryz.prog 61 #[.string (bs a), .string (bs b)] w fun e w' => e = .returned (.int .i64 (cmpS a b)) ∧ w = w' := by
  rcases lt_tot a b with h | h | h
  · have h2 : cmpS a b = -1 := by simp [cmpS, h]
    have H2 := Lib.hid h2
    clear h2
    go_enter Tryz.func61, Tryz.ntmps61
    go_wp2_with (go_at_call 95; refine (isNaNS_any _ _).mono ?_; rintro e w' ⟨rfl, rfl⟩)
    go_ret
    exact ⟨ret_int H2.out.symm, rfl⟩
  · subst h
    have h1 := lt_irr a
    have H2 := Lib.hid (show cmpS a a = 0 by simp [cmpS, h1])
    go_enter Tryz.func61, Tryz.ntmps61
    go_wp2_with (go_at_call 95; refine (isNaNS_any _ _).mono ?_; rintro e w' ⟨rfl, rfl⟩)
    go_ret
    exact ⟨ret_int H2.out.symm, rfl⟩
  · have h1 := lt_not h
    have h3 : (a == b) = false := by rw [beq_eq_false_iff_ne]; exact fun e => lt_ne h e.symm
    have H2 := Lib.hid (show cmpS a b = 1 by rw [cmpS, if_neg (by simp [h1]), if_neg (fun e => lt_ne h e.symm)])
    clear h
    go_enter Tryz.func61, Tryz.ntmps61
    go_wp2_with (go_at_call 95; refine (isNaNS_any _ _).mono ?_; rintro e w' ⟨rfl, rfl⟩)
    go_ret
    exact ⟨ret_int H2.out.symm, rfl⟩
theorem merge1_any (x y : SM) (w : World) :
    Calls Tryz.prog 60 #[.agg x.enc.toArray, .agg y.enc.toArray] w (Grows w (.int .i64 (cmpS x.comp y.comp))) := by
  obtain ⟨cx, bx, rx, vx⟩ := x
  obtain ⟨cy, by_, ry, vy⟩ := y
  simp only [SM.enc]
  go_enter Tryz.func60, Tryz.ntmps60
  go_wp2_with (go_at_call 61; refine (cmpS_any _ _ _).mono ?_; rintro e w' ⟨rfl, rfl⟩)
  go_ret
  exact ⟨rfl, ((Gr.refl _).alloc _).alloc _⟩
end Go.Proofs.YtadldblpkgackaaGreatDoor
set_option linter.unusedVariables false
set_option linter.unusedSimpArgs false
namespace Go.Proofs.YtadldblpkgackaaGreatDoor
open Go.RowKit
open Classical

/-- Schemas with some of the four compatible strings, each one at most once, in order. -/
def Gd (l : List Sch) : Prop := (l.map Sch.comp).Sublist compsL ∧ ∀ s ∈ l, GoodD s
/-- Nothing in one list contradicts the other. -/
def NC (l m : List Sch) : Prop := ∀ s ∈ l, ∀ t ∈ m, s.comp = t.comp → s = t
theorem comps_nodup : compsL.Nodup := by decide
theorem gd_one {l : List Sch} (h : Gd l) {s t : Sch} (hs : s ∈ l) (ht : t ∈ l) (e : s.comp = t.comp) : s = t := by
  have hn := comps_nodup.sublist h.1
  induction l with
  | nil => cases hs
  | cons x l ih =>
    rw [List.map_cons, List.nodup_cons] at hn
    rcases List.mem_cons.1 hs with q1 | q1
    · rcases List.mem_cons.1 ht with q2 | q2
      · rw [q1, q2]
      · exact absurd (by rw [← q1, e]; exact List.mem_map_of_mem q2) hn.1
    · rcases List.mem_cons.1 ht with q2 | q2
      · exact absurd (by rw [← q2, ← e]; exact List.mem_map_of_mem q1) hn.1
      · exact ih ⟨(List.sublist_cons_self _ _).trans (by rw [← List.map_cons]; exact h.1), fun s hs => h.2 s (List.mem_cons_of_mem _ hs)⟩ q1 q2 hn.2
theorem sub_inv {x c : St} {l cs : List St} (h : (x :: l).Sublist (c :: cs)) : (x :: l).Sublist cs ∨ (x = c ∧ l.Sublist cs) := by
  cases h with
  | cons _ h => exact .inl h
  | cons_cons _ h => exact .inr ⟨rfl, h⟩
theorem sub_ext : ∀ (cs : List St), cs.Nodup → ∀ l m : List Sch, (l.map Sch.comp).Sublist cs → (m.map Sch.comp).Sublist cs → (∀ s, s ∈ l ↔ s ∈ m) → l = m := by
  intro cs
  induction cs with
  | nil =>
    intro _ l m hl hm _
    have h1 := List.sublist_nil.1 hl
    have h2 := List.sublist_nil.1 hm
    rw [List.map_eq_nil_iff] at h1 h2
    rw [h1, h2]
  | cons c cs ih =>
    intro hn l m hl hm he
    rw [List.nodup_cons] at hn
    cases l with
    | nil =>
      cases m with
      | nil => rfl
      | cons y m => exact absurd ((he y).2 (by simp)) (by simp)
    | cons x l =>
      cases m with
      | nil => exact absurd ((he x).1 (by simp)) (by simp)
      | cons y m =>
        rw [List.map_cons] at hl hm
        rcases sub_inv hl with il | ⟨ex, il⟩
        · rcases sub_inv hm with im | ⟨ey, im⟩
          · exact ih hn.2 _ _ il im he
          · have hy := (he y).2 (by simp)
            exact absurd (il.subset (by rw [← ey, ← List.map_cons (f := Sch.comp)]; exact List.mem_map_of_mem hy)) hn.1
        · rcases sub_inv hm with im | ⟨ey, im⟩
          · have hy := (he x).1 (by simp)
            exact absurd (im.subset (by rw [← ex, ← List.map_cons (f := Sch.comp)]; exact List.mem_map_of_mem hy)) hn.1
          · have hxy : x = y := by
              rcases List.mem_cons.1 ((he x).1 (by simp)) with q | q
              · exact q
              · exact absurd (im.subset (by rw [← ex]; exact List.mem_map_of_mem q)) hn.1
            subst hxy
            rw [ih hn.2 l m il im (fun s => ⟨fun q => ?_, fun q => ?_⟩)]
            · rcases List.mem_cons.1 ((he s).1 (List.mem_cons_of_mem _ q)) with r | r
              · subst r; exact absurd (il.subset (by rw [← ex]; exact List.mem_map_of_mem q)) hn.1
              · exact r
            · rcases List.mem_cons.1 ((he s).2 (List.mem_cons_of_mem _ q)) with r | r
              · subst r; exact absurd (im.subset (by rw [← ex]; exact List.mem_map_of_mem q)) hn.1
              · exact r
theorem gd_ext {l m : List Sch} (hl : Gd l) (hm : Gd m) (h : ∀ s, s ∈ l ↔ s ∈ m) : l = m := sub_ext _ comps_nodup _ _ hl.1 hm.1 h
theorem gd_sub {l m : List Sch} (hm : Gd m) (h : l.Sublist m) : Gd l := ⟨(h.map _).trans hm.1, fun s hs => hm.2 s (h.subset hs)⟩
theorem gd_len {l : List Sch} (h : Gd l) : l.length ≤ 4 := by have := h.1.length_le; rw [List.length_map] at this; exact this
/-- Ascending texts out of some are a sublist of these. -/
theorem sub_asc : ∀ (cs : List St), cs.Pairwise (fun a b => Op.bytesLess a b = true) → ∀ l : List St, l.Pairwise (fun a b => Op.bytesLess a b = true) → (∀ s ∈ l, s ∈ cs) → l.Sublist cs := by
  intro cs
  induction cs with
  | nil =>
    intro _ l _ h
    cases l with
    | nil => exact .slnil
    | cons x l => exact absurd (h x (by simp)) (by simp)
  | cons c cs ih =>
    intro hc l hl h
    rw [List.pairwise_cons] at hc
    cases l with
    | nil => exact List.nil_sublist _
    | cons x l =>
      rw [List.pairwise_cons] at hl
      rcases List.mem_cons.1 (h x (by simp)) with e | q
      · subst e
        refine .cons_cons _ (ih hc.2 l hl.2 (fun s hs => ?_))
        rcases List.mem_cons.1 (h s (List.mem_cons_of_mem _ hs)) with r | r
        · exact absurd r.symm (lt_ne (hl.1 s hs))
        · exact r
      · refine .cons _ (ih hc.2 (x :: l) (List.pairwise_cons.2 hl) (fun s hs => ?_))
        rcases List.mem_cons.1 (h s hs) with r | r
        · subst r
          rcases List.mem_cons.1 hs with e | hs
          · subst e; exact absurd rfl (lt_ne (hc.1 _ q))
          · have h1 := lt_trans (hc.1 x q) (hl.1 _ hs)
            rw [lt_irr] at h1; cases h1
        · exact r
theorem comps_asc : compsL.Pairwise (fun a b => Op.bytesLess a b = true) :=
  of_decide_eq_true (by kernel_rfl)
/-- What a merge of two such lists has. -/
def IsMerge (l m q : List Sch) : Prop := Gd q ∧ ∀ s, s ∈ q ↔ s ∈ l ∨ s ∈ m
theorem nc_self {l : List Sch} (h : Gd l) : NC l l := fun s hs t ht e => gd_one h hs ht e
theorem nc_sub {l m : List Sch} (h : Gd l) (hs : ∀ s ∈ m, s ∈ l) : NC l m := fun s hs1 t ht e => gd_one h hs1 (hs t ht) e
theorem nc_symm {l m : List Sch} (h : NC l m) : NC m l := fun s hs t ht e => (h t ht s hs e.symm).symm
/-- The whole law: with b a part of a; l c anything that is good. -/
theorem merge_law {a b c ab ba aa : List Sch} (ha : Gd a) (hb : Gd b) (hc : Gd c) (hs : ∀ s ∈ b, s ∈ a) :
    NC a b ∧ NC b a ∧ NC a a ∧ (IsMerge a b ab → ab = a) ∧ (IsMerge b a ba → ba = a) ∧ (IsMerge a a aa → aa = a) ∧ (¬ NC b c → ¬ NC a c)
    ∧ ∀ bc, IsMerge b c bc → (NC a c ↔ NC a bc) ∧ ∀ x y, IsMerge a c x → IsMerge a bc y → x = y := by
  refine ⟨nc_sub ha hs, nc_symm (nc_sub ha hs), nc_self ha, fun h => gd_ext h.1 ha (fun s => ⟨fun q => ((h.2 s).1 q).elim id (hs s), fun q => (h.2 s).2 (.inl q)⟩),
    fun h => gd_ext h.1 ha (fun s => ⟨fun q => ((h.2 s).1 q).elim (hs s) id, fun q => (h.2 s).2 (.inr q)⟩), fun h => gd_ext h.1 ha (fun s => ⟨fun q => ((h.2 s).1 q).elim id id, fun q => (h.2 s).2 (.inl q)⟩),
    fun h k => h (fun s h1 t ht e => k s (hs s h1) t ht e), fun bc h => ⟨⟨fun k s h1 t ht e => ?_, fun k s h1 t ht e => k s h1 t ((h.2 t).2 (.inr ht)) e⟩, fun x y hx hy => gd_ext hx.1 hy.1 (fun s => ?_)⟩⟩
  · rcases (h.2 t).1 ht with q | q
    · exact gd_one ha h1 (hs t q) e
    · exact k s h1 t q e
  · rw [hx.2, hy.2, h.2]
    exact ⟨fun q => q.elim .inl (fun q => .inr (.inr q)), fun q => q.elim .inl (fun q => q.elim (fun q => .inl (hs s q)) .inr)⟩
/-- A sorted list with the elements of both. -/
theorem merge_of {l m q : List Sch} (hl : Gd l) (hm : Gd m) (hnc : NC l m) (hp : q.Perm (l ++ m.filter (fun s => decide (findC l s.comp = none)))) (hs : ∀ i j (hi : i < j) (hj : j < q.length), Op.bytesLess q[j].comp q[i].comp = false) : IsMerge l m q := by
  have hmem : ∀ s, s ∈ q ↔ s ∈ l ∨ s ∈ m := by
    intro s
    rw [hp.mem_iff, List.mem_append, List.mem_filter, decide_eq_true_eq]
    refine ⟨fun h => h.imp id (·.1), fun h => ?_⟩
    rcases h with h | h
    · exact .inl h
    · by_cases e : findC l s.comp = none
      · exact .inr ⟨h, e⟩
      · obtain ⟨k, hk⟩ := Option.ne_none_iff_exists'.1 e
        obtain ⟨h1, h2⟩ := find_at hk
        have := hnc _ (List.getElem_mem h1) s h h2
        exact .inl (by rw [← this]; exact List.getElem_mem h1)
  refine ⟨⟨sub_asc _ comps_asc _ ?_ (fun c hc => ?_), fun s h => ((hmem s).1 h).elim (hl.2 s) (hm.2 s)⟩, hmem⟩
  · rw [List.pairwise_map]
    have hnd : (q.map Sch.comp).Nodup := by
      rw [(hp.map Sch.comp).nodup_iff, List.map_append, List.nodup_append]
      refine ⟨comps_nodup.sublist hl.1, comps_nodup.sublist ((List.filter_sublist.map _).trans hm.1), fun a h1 b h2 e => ?_⟩
      subst e
      obtain ⟨s, hs1, rfl⟩ := List.mem_map.1 h1
      obtain ⟨t, ht1, e⟩ := List.mem_map.1 h2
      rw [List.mem_filter, decide_eq_true_eq] at ht1
      have hz := ht1.2
      unfold findC at hz
      rw [List.findIdx?_eq_none_iff] at hz
      have := hz s hs1
      rw [e] at this
      simp at this
    rw [List.pairwise_iff_getElem]
    intro i j hi hj hij
    rcases lt_tot q[i].comp q[j].comp with h | h | h
    · exact h
    · exfalso
      rw [List.Nodup, List.pairwise_iff_getElem] at hnd
      exact hnd i j (by simpa using hi) (by simpa using hj) hij (by simpa using h)
    · rw [hs i j hij hj] at h; cases h
  · obtain ⟨s, h1, rfl⟩ := List.mem_map.1 hc
    rcases (hmem s).1 h1 with h | h
    · exact hl.1.subset (List.mem_map_of_mem h)
    · exact hm.1.subset (List.mem_map_of_mem h)
end Go.Proofs.YtadldblpkgackaaGreatDoor
