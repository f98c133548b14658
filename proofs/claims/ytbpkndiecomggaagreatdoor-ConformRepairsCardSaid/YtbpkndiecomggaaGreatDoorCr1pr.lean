/- Lemmas and contracts for the proof of ConformRepairs (several texts in one, printed by wip/tools/pack.py): WcG UdC UdD WdC WeA WfA WfB WfC WfD. -/
import Derived.Test.YtbpkndiecomggaaGreatDoorCr1pq
import Derived.Test.YtbpkndiecomggaaGreatDoorCr1pg
import Derived.Test.YtbpkndiecomggaaGreatDoorCr1pi
import Derived.Test.YtbpkndiecomggaaGreatDoorCr1pp
import Derived.WalkMore
set_option maxRecDepth 100000
set_option maxHeartbeats 16000000
set_option linter.unusedVariables false
set_option linter.unusedSimpArgs false
namespace Go.Proofs.YtbpkndiecomggaaGreatDoor
open Go.RowKit
open Classical
theorem or2_any0 (x y z : Int) (cap : Nat) (w : World) (B : Nat) (hr : Row w B 32 [.int .i64 x, .int .i64 y]) (hz : (x = 0 ∧ z = y) ∨ (x ≠ 0 ∧ z = x)) :
    Calls Tryz.prog 41 #[.slice (some ⟨B, 0, none⟩) 2 cap] w (Grows w (.int .i64 z)) := by
  have HR := Lib.hid hr
  have HZ := Lib.hid hz
  clear hr hz
  go_enter Tryz.func41, Tryz.ntmps41
  go_wp2_with fail
  go_loopw [8] (fun i wr => ∃ k : Nat, k ≤ 2 ∧ i = .int .i64 k ∧ (0 < k → x = 0) ∧ (1 < k → y = 0) ∧ Gr w wr) (fun i _ => 2 - (intOf i).toNat)
  case atStart => exact ⟨0, by omega, rfl, fun h => absurd h (by omega), fun h => absurd h (by omega), Gr.refl _⟩
  case round =>
    obtain ⟨k, hk, rfl, h0, h1, hg⟩ := hrel
    have HG := Lib.hid hg
    have K0 := Lib.hid h0
    have K1 := Lib.hid h1
    clear hg h0 h1
    by_cases hlt : k < 2
    · obtain ⟨v, hv⟩ : ∃ v : Int, Hid (([x, y] : List Int)[k]? = some v) := by
        obtain rfl | rfl : k = 0 ∨ k = 1 := by omega
        · exact ⟨x, Lib.hid rfl⟩
        · exact ⟨y, Lib.hid rfl⟩
      have c0 : wr.cell? ⟨B, k, none⟩ = some (.int .i64 v) := by
        have q := hv.out
        obtain rfl | rfl : k = 0 ∨ k = 1 := by omega
        · have e : x = v := by simpa using q
          rw [← e]; exact (HR.out.gr HG.out).cell 0 (by simp)
        · have e : y = v := by simpa using q
          rw [← e]; exact (HR.out.gr HG.out).cell 1 (by simp)
      have hh := has_of_cell c0
      have kk : (k : Int) < 2 := by omega
      by_cases hv0 : v = 0
      · subst hv0
        go_wp2_with fail
        go_roundw
        case rel =>
          refine ⟨k + 1, by omega, by go_num, fun _ => ?_, fun _ => ?_, HG.out⟩
          · by_cases e : k = 0
            · subst e; simpa using hv.out
            · exact K0.out (by omega)
          · have e : k = 1 := by omega
            subst e; simpa using hv.out
        case measure => simp [intOf]; omega
      · have hb1 : (v == 0) = false := by rw [beq_eq_false_iff_ne]; exact hv0
        have hb2 : (v != 0) = true := by rw [bne_iff_ne]; exact hv0
        have Z : Hid (z = v) := Lib.hid (by
          have q := hv.out
          obtain rfl | rfl : k = 0 ∨ k = 1 := by omega
          · have e : x = v := by simpa using q
            subst e
            rcases HZ.out with ⟨h, _⟩ | ⟨_, h⟩
            · exact absurd h hv0
            · exact h
          · have e : y = v := by simpa using q
            subst e
            rcases HZ.out with ⟨_, h⟩ | ⟨h, _⟩
            · exact h
            · exact absurd (K0.out (by omega)) h)
        go_wp2_with fail
        go_ret
        exact ⟨ret_int (by rw [Z.out]), HG.out⟩
    · obtain rfl : k = 2 := by omega
      have Z : Hid (z = 0) := Lib.hid (by
        rcases HZ.out with ⟨_, h⟩ | ⟨h, _⟩
        · rw [h]; exact K1.out (by omega)
        · exact absurd (K0.out (by omega)) h)
      go_wp2_with fail
      go_ret
      exact ⟨ret_int (by rw [Z.out]), HG.out⟩
/-! The sort. -/
abbrev SQ := SM × Option Addr × Nat × Nat
def SQ.enc (p : SQ) : List Value := [.string (bs p.1.comp), .bool p.1.closed, .slice p.2.1 p.2.2.1 p.2.2.2]
instance : Inhabited SM := ⟨⟨[], false, [], .slice none 0 0⟩⟩
def GivesVios (L : List Vio) (w : World) (e : Ending) (w' : World) : Prop := ∃ v, e = .returned (.tuple #[v, .int .i64 0]) ∧ VO w.heap.size w' v L ∧ Gr w w'
structure SchGood (l : List Sch) : Prop where
  ok : SchOk l
  sml : ∀ s ∈ l, SmlS s
  chk : chkSch l = 0
theorem violations_any (ts : Tr) (ta : Option Addr) (tc : Nat) (l : List Sch) (sa : Option Addr) (sc : Nat) (w : World) (h : SlOf 3 RNod w ta ts) (hc : chkT ts = 0) (hs : SlOf 3 RSch w sa l) (hl : SchGood l) (hM : MaxV w) (hV : StdV w) (hn : (vioT ts l).length ≤ 200) :
    Calls Tryz.prog 11 #[.agg #[.slice ta ts.length tc], .slice sa l.length sc] w (GivesVios (vioT ts l) w) := by
  have H := Lib.hid h
  have HC := Lib.hid hc
  have HS := Lib.hid hs
  have HL := Lib.hid hl
  have HM := Lib.hid hM
  have HV := Lib.hid hV
  have HN := Lib.hid hn
  have T120 := Lib.hid (good_of hc).len.2
  clear h hc hs hl hM hV hn
  obtain ⟨P0, hP0⟩ : ∃ P : Ending → World → Prop, P = GivesVios (vioT ts l) w := ⟨_, rfl⟩
  rw [← hP0]
  have HP0 := Lib.hid hP0
  clear hP0
  go_enter Tryz.func11, Tryz.ntmps11
  go_upto_region 1 with (fail)
  have RT := Lib.hid (Row.new w #[.slice ta ts.length tc] 29)
  obtain ⟨W, hW⟩ : ∃ W : World, Hid (W = w.alloc (.cells #[.slice ta ts.length tc] 29)) := ⟨_, Lib.hid rfl⟩
  have GW : Hid (Gr w W) := Lib.hid (by rw [hW.out]; exact (Gr.refl _).alloc _)
  rw [← hW.out] at RT ⊢
  obtain ⟨PT, hPT⟩ : ∃ N : Nat, Hid (w.heap.size = N) := ⟨_, Lib.hid rfl⟩
  rw [hPT.out] at RT ⊢
  clear hW hPT
  have TC := treeCheck_any ts ta tc W (H.out.gr RNod.mono GW.out) (by unfold Fit; have := T120.out; omega)
  rw [HC.out] at TC
  have TC := Lib.hid TC
  have x0 := RT.out.cell 0 (by simp)
  simp only [List.getElem_cons_zero] at x0
  have hx := has_of_cell x0
  go_wp2_with fail
  refine TC.out.mono ?_
  rintro e w1 ⟨rfl, hg1⟩
  have G1 := Lib.hid (GW.out.trans hg1)
  have RT1 := Lib.hid (RT.out.gr hg1)
  clear hg1 TC x0 hx
  have SCK := check_any l sa sc w1 (HS.out.giC G1.out) HL.out.ok.1 HL.out.sml
  rw [HL.out.chk] at SCK
  have SCK := Lib.hid SCK
  go_wp2_with fail
  refine SCK.out.mono ?_
  rintro e w2 ⟨rfl, hg2⟩
  have G2 := Lib.hid (G1.out.trans hg2)
  have RT2 := Lib.hid (RT1.out.gr hg2)
  clear hg2 SCK
  go_wp2_with fail
  have RO := Lib.hid (Row.new w2 #[.int .i64 0, .int .i64 0] 32)
  refine (or2_any0 0 0 0 _ _ _ RO.out (.inl ⟨rfl, rfl⟩)).mono ?_
  rintro e w3 ⟨rfl, hg3⟩
  have G3 : Hid (Gr w w3) := Lib.hid ((G2.out.alloc _).trans hg3)
  have RT3 := Lib.hid ((RT2.out.alloc (.cells #[.int .i64 0, .int .i64 0] 32)).gr hg3)
  clear hg3 RO
  have VC := Lib.hid (vios_any ts ta tc l sa sc w3 (H.out.gr RNod.mono G3.out) HC.out (HS.out.giC G3.out) HL.out.ok (HM.out.gr G3.out) (HV.out.gr G3.out))
  obtain ⟨L, hL⟩ : ∃ L, vioT ts l = L := ⟨_, rfl⟩
  rw [hL] at VC HN HP0
  clear hL
  have x0 := RT3.out.cell 0 (by simp)
  simp only [List.getElem_cons_zero] at x0
  have hx := has_of_cell x0
  go_wp2_with fail
  refine VC.out.mono ?_
  rintro e w4 ⟨v, rfl, hv, hg4⟩
  obtain ⟨a, c, rfl⟩ := hv.form
  have VV := Lib.hid (show VO w.heap.size w4 _ L from owns_low hv G3.out.size)
  have G4 := Lib.hid (G3.out.trans hg4)
  clear hv hg4 VC x0 hx
  obtain ⟨n, hn⟩ : ∃ n : Nat, Hid (L.length = n) := ⟨_, Lib.hid rfl⟩
  have n2 : ¬ ((200 : Int) < (n : Int)) := by have := HN.out; have := hn.out; omega
  have N2 : ((n : Int)) ≤ 200 := by omega
  have VV2 : Hid (VO w.heap.size w4 (.slice a n c) L) := Lib.hid (by have := VV.out; rw [hn.out] at this; exact this)
  rw [hn.out]
  clear n2 VV
  go_wp2_with fail
  rw [HP0.out]
  exact ⟨_, rfl, VV2.out, G4.out⟩

theorem prop_len {s : St} (h : propOk s = true) : s.length ≤ 100 := by
  unfold propOk nameOk at h
  simp only [Bool.and_eq_true, decide_eq_true_eq] at h
  have : (undr s).length = s.length := by
    unfold undr
    split
    · cases s with
      | nil => simp at *
      | cons a b => rfl
    · rfl
  omega
theorem rule_name {r : Rul} (h : ruleP r = true) : r.name.length ≤ 100 := by
  unfold ruleP at h
  simp only [Bool.and_eq_true] at h
  exact prop_len h.1.1.1.1.1.1
theorem vis_len {s : St} (h : visP s = true) : s.length ≤ 31 := by
  unfold visP at h
  simp only [Bool.and_eq_true, decide_eq_true_eq] at h
  exact h.2
theorem comps_vis : compsL.all visP = true := by kernel_rfl
def subs : List St → List (List St)
  | [] => [[]]
  | a :: l => subs l ++ (subs l).map (a :: ·)
theorem mem_subs : ∀ {l m : List St}, l.Sublist m → l ∈ subs m
  | _, _, .slnil => by simp [subs]
  | _, _, .cons a h => by unfold subs; exact List.mem_append_left _ (mem_subs h)
  | _, _, .cons_cons a h => by unfold subs; exact List.mem_append_right _ (List.mem_map.2 ⟨_, mem_subs h, rfl⟩)
theorem subs_asc : (subs compsL).all (fun l => ascN l && decide (l.length ≤ 4)) = true := by kernel_rfl
structure GoodD (s : Sch) : Prop where
  rls : ∀ r ∈ s.rules, ruleP r = true
  asc : ascN (s.rules.map Rul.name) = true
  few : s.rules.length ≤ 3
  nam : ∀ r ∈ s.rules, r.name ∈ propsL
theorem good_chk {l : List Sch} (hs : (l.map Sch.comp).Sublist compsL) (hg : ∀ s ∈ l, GoodD s) : chkSch l = 0 := by
  have h1 := List.all_eq_true.1 subs_asc _ (mem_subs hs)
  simp only [Bool.and_eq_true, decide_eq_true_eq, List.length_map] at h1
  have hv : ∀ s ∈ l, visP s.comp = true := fun s hs2 => List.all_eq_true.1 comps_vis _ (hs.subset (List.mem_map_of_mem hs2))
  unfold chkSch
  rw [if_neg, if_neg, if_neg, if_pos h1.1]
  · rw [List.any_eq_true]
    rintro ⟨s, hm, q⟩
    rw [(hg s hm).asc] at q; cases q
  · rw [List.any_eq_true]
    rintro ⟨s, hm, q⟩
    rw [hv s hm, Bool.not_true, Bool.false_or, List.any_eq_true] at q
    obtain ⟨r, hr, q⟩ := q
    rw [(hg s hm).rls r hr] at q; cases q
  · rw [List.any_eq_true]
    rintro (q | ⟨s, hm, q⟩)
    · omega
    · have := (hg s hm).few
      simp at q; omega
theorem good_data {base : Nat} {w : World} {s : SM} (h : GoodS base s) (hr : RlsAt base w s) : GoodD s.sch := by
  refine ⟨fun r hr2 => ?_, ?_, by simp only [SM.sch, List.length_map]; exact h.few, fun r hr2 => ?_⟩
  · obtain ⟨x, hx, rfl⟩ := List.mem_map.1 hr2
    exact (hr.ok x hx).1
  · have := h.asc
    simp only [SM.sch, List.map_map]
    exact this
  · obtain ⟨x, hx, rfl⟩ := List.mem_map.1 hr2
    exact (h.nam x hx).1
theorem comp_sch (out : List SM) : (out.map SM.sch).map Sch.comp = out.map SM.comp := by rw [List.map_map]; rfl
theorem good_sml {l : List Sch} (hs : (l.map Sch.comp).Sublist compsL) (hg : ∀ s ∈ l, GoodD s) : ∀ s ∈ l, SmlS s := by
  intro s hm
  have hv : visP s.comp = true := List.all_eq_true.1 comps_vis _ (hs.subset (List.mem_map_of_mem hm))
  have hvl := vis_len hv
  refine ⟨by omega, by have := (hg s hm).few; omega, fun r hr => ?_⟩
  have h := (hg s hm).rls r hr
  have hn := rule_name h
  have hwl := words_len h
  have hw : r.words.all visP = true := by unfold ruleP at h; simp only [Bool.and_eq_true] at h; exact h.2
  exact ⟨by omega, by omega, fun y hy => by have := vis_len (List.all_eq_true.1 hw y hy); omega⟩
theorem good10 {l : List Sch} (hs : (l.map Sch.comp).Sublist compsL) (hg : ∀ s ∈ l, GoodD s) : SchGood l := by
  refine ⟨⟨?_, fun s hm => ⟨by have := (hg s hm).few; omega, fun r hr => by have := words_len ((hg s hm).rls r hr); omega⟩⟩, good_sml hs hg, good_chk hs hg⟩
  have := hs.length_le
  rw [List.length_map] at this
  have h4 : compsL.length = 4 := rfl
  omega
theorem valP_put {q : Prp} {nm : St} (h : nm ≠ q.name) : ∀ l : List Prp, valP (putP l q) nm = valP l nm
  | [] => by
    have e : (q.name == nm) = false := by rw [beq_eq_false_iff_ne]; exact fun e => h e.symm
    simp [putP, valP, e]
  | y :: l => by
    have e : (q.name == nm) = false := by rw [beq_eq_false_iff_ne]; exact fun e => h e.symm
    have ih := valP_put h l
    unfold valP at ih ⊢
    rw [putP_cons]
    by_cases h1 : ltS y.name q.name = true
    · rw [if_pos h1, List.find?_cons, List.find?_cons]
      cases (y.name == nm) with
      | true => rfl
      | false => exact ih
    · rw [if_neg h1]
      by_cases h2 : y.name = q.name
      · rw [if_pos h2, List.find?_cons, List.find?_cons, e, h2, e]
      · rw [if_neg h2, List.find?_cons, e]
theorem con_put {q x : Prp} (h : x.name ≠ q.name) : ∀ l : List Prp, (putP l q).contains x = l.contains x
  | [] => by
    have e : (x == q) = false := by rw [beq_eq_false_iff_ne]; rintro rfl; exact h rfl
    simp [putP, e]
    rintro rfl; exact h rfl
  | y :: l => by
    have e : (x == q) = false := by rw [beq_eq_false_iff_ne]; rintro rfl; exact h rfl
    have ih := con_put h l
    rw [putP_cons]
    by_cases h1 : ltS y.name q.name = true
    · rw [if_pos h1, List.contains_cons, List.contains_cons, ih]
    · rw [if_neg h1]
      by_cases h2 : y.name = q.name
      · have e2 : (x == y) = false := by rw [beq_eq_false_iff_ne]; rintro rfl; exact h h2
        rw [if_pos h2, List.contains_cons, List.contains_cons, e, e2]
      · rw [if_neg h2, List.contains_cons, e, Bool.false_or]
theorem fm_none {β : Type} {f : Prp → Option β} {q : Prp} (hf : ∀ y : Prp, y.name = q.name → f y = none) : ∀ l : List Prp, (putP l q).filterMap f = l.filterMap f
  | [] => by simp [putP, hf q rfl]
  | y :: l => by
    have ih := fm_none hf l
    rw [putP_cons]
    by_cases h1 : ltS y.name q.name = true
    · rw [if_pos h1, List.filterMap_cons, List.filterMap_cons, ih]
    · rw [if_neg h1]
      by_cases h2 : y.name = q.name
      · rw [if_pos h2, List.filterMap_cons, List.filterMap_cons, hf q rfl, hf y h2]
      · rw [if_neg h2, List.filterMap_cons, hf q rfl]
theorem fm_congr {α β : Type} {f g : α → Option β} : ∀ l : List α, (∀ x ∈ l, f x = g x) → l.filterMap f = l.filterMap g
  | [], _ => rfl
  | x :: l, h => by
    rw [List.filterMap_cons, List.filterMap_cons, h x (List.mem_cons_self ..), fm_congr l (fun y hy => h y (List.mem_cons_of_mem _ hy))]
section
variable {ts : Tr} {l : List Sch} {k : Nat} {nm : Bool} {z : St}
theorem findIdx_congr {α : Type} [Inhabited α] {p : α → Bool} : ∀ (a b : List α), a.length = b.length → (∀ i, i < a.length → p (a.getD i default) = p (b.getD i default)) → a.findIdx? p = b.findIdx? p
  | [], [], _, _ => rfl
  | [], _ :: _, h, _ => by simp at h
  | _ :: _, [], h, _ => by simp at h
  | x :: a, y :: b, h, hp => by
    have h0 := hp 0 (by simp)
    simp only [List.getD_cons_zero] at h0
    have ih := findIdx_congr a b (by simpa using h) (fun i hi => by
      have := hp (i + 1) (by simp; omega)
      simpa using this)
    rw [List.findIdx?_cons, List.findIdx?_cons, h0, ih]
theorem vioN_congr {ts ts' : Tr} {l : List Sch} {i : Nat} {n : Nod} (h : ∀ r, brkP ts n r = brkP ts' n r) : vioN ts l i n = vioN ts' l i n := by
  unfold vioN
  cases govP n l with
  | none => rfl
  | some j =>
    dsimp only
    congr 1
    exact congrArg (fun f => List.filterMap f _) (funext fun r => by unfold rulV; rw [h r])
theorem mem_vioF {ts : Tr} {l : List Sch} {y : Vio} : ∀ {K : Nat}, y ∈ vioF ts l K ↔ ∃ i, i < K ∧ y ∈ vioN ts l i (nd ts i)
  | 0 => by simp [vioF]
  | K + 1 => by
    rw [vioF, List.mem_append, mem_vioF]
    constructor
    · rintro (⟨i, h1, h2⟩ | h)
      · exact ⟨i, by omega, h2⟩
      · exact ⟨K, by omega, h⟩
    · rintro ⟨i, h1, h2⟩
      rcases Nat.lt_or_ge i K with q | q
      · exact .inl ⟨i, q, h2⟩
      · obtain rfl : i = K := by omega
        exact .inr h2
end
def Less (y : Vio) (a b : List Vio) : Prop := ∃ A B, a = A ++ y :: B ∧ b = A ++ B
theorem Less.left {y : Vio} {a b : List Vio} (h : Less y a b) (c : List Vio) : Less y (a ++ c) (b ++ c) := by
  obtain ⟨A, B, rfl, rfl⟩ := h
  exact ⟨A, B ++ c, by simp, by simp⟩
theorem Less.right {y : Vio} {a b : List Vio} (h : Less y a b) (c : List Vio) : Less y (c ++ a) (c ++ b) := by
  obtain ⟨A, B, rfl, rfl⟩ := h
  exact ⟨c ++ A, B, by simp, by simp⟩
section
variable {ts : Tr} {l : List Sch} {k : Nat} {ps : List Prp} {y : Vio}
theorem ed_con (hk : k < ts.length) (hc : ∀ c, ps.contains ⟨phS, c⟩ = (nd ts k).props.contains ⟨phS, c⟩) (i : Nat) (c : St) : (nd (setN ts k ps) i).props.contains ⟨phS, c⟩ = (nd ts i).props.contains ⟨phS, c⟩ := by
  by_cases e : i = k
  · subst e
    rw [nd_set_same hk]
    exact hc c
  · rw [nd_set_ne e]
theorem ed_phan (hk : k < ts.length) (hc : ∀ c, ps.contains ⟨phS, c⟩ = (nd ts k).props.contains ⟨phS, c⟩) (q : Int) : phan (setN ts k ps) q = phan ts q := by
  unfold phan
  split
  · exact findIdx_congr _ _ (by unfold setN; rw [List.length_set]) (fun i hi => ed_con hk hc i _)
  · rfl
theorem ed_brk (hk : k < ts.length) (hc : ∀ c, ps.contains ⟨phS, c⟩ = (nd ts k).props.contains ⟨phS, c⟩) (n : Nod) (r : Rul) : brkP (setN ts k ps) n r = brkP ts n r := by
  unfold brkP
  cases valP n.props r.name with
  | none => rfl
  | some v => dsimp only; unfold celBad; rw [ed_phan hk hc]
theorem ed_vioF (hk : k < ts.length) (hc : ∀ c, ps.contains ⟨phS, c⟩ = (nd ts k).props.contains ⟨phS, c⟩) (hl : Less y (vioN ts l k (nd ts k)) (vioN (setN ts k ps) l k (nd (setN ts k ps) k))) : ∀ K, (K ≤ k → vioF (setN ts k ps) l K = vioF ts l K) ∧ (k < K → Less y (vioF ts l K) (vioF (setN ts k ps) l K))
  | 0 => ⟨fun _ => rfl, fun h => absurd h (by omega)⟩
  | K + 1 => by
    obtain ⟨h1, h2⟩ := ed_vioF hk hc hl K
    have hN : K ≠ k → vioN (setN ts k ps) l K (nd (setN ts k ps) K) = vioN ts l K (nd ts K) := fun e => by
      rw [nd_set_ne e, vioN_congr (fun r => ed_brk hk hc _ r)]
    refine ⟨fun h => ?_, fun h => ?_⟩
    · rw [vioF, vioF, h1 (by omega), hN (by omega)]
    · rw [vioF, vioF]
      by_cases e : K = k
      · subst e
        rw [h1 (Nat.le_refl _)]
        exact hl.right _
      · rw [hN e]
        exact (h2 (by omega)).left _
theorem ed_vioT (hk : k < ts.length) (hc : ∀ c, ps.contains ⟨phS, c⟩ = (nd ts k).props.contains ⟨phS, c⟩) (hl : Less y (vioN ts l k (nd ts k)) (vioN (setN ts k ps) l k (nd (setN ts k ps) k))) : Less y (vioT ts l) (vioT (setN ts k ps) l) := by
  have e : (setN ts k ps).length = ts.length := by unfold setN; rw [List.length_set]
  unfold vioT
  rw [e]
  exact (ed_vioF hk hc hl ts.length).2 hk
theorem valP_wo {q nm : St} (h : nm ≠ q) : ∀ ps : List Prp, valP (woP ps q) nm = valP ps nm
  | [] => rfl
  | x :: ps => by
    have ih := valP_wo h ps
    unfold valP woP at ih ⊢
    rw [List.filter_cons]
    by_cases e : x.name = q
    · rw [if_neg (by simpa using e), ih, List.find?_cons, show (x.name == nm) = false by rw [beq_eq_false_iff_ne, e]; exact fun e => h e.symm]
    · rw [if_pos (by simpa using e), List.find?_cons, List.find?_cons]
      cases (x.name == nm) with
      | true => rfl
      | false => exact ih
theorem con_wo {q c : St} (h : phS ≠ q) (ps : List Prp) : (woP ps q).contains ⟨phS, c⟩ = ps.contains ⟨phS, c⟩ := by
  rw [Bool.eq_iff_iff, List.contains_iff_mem, List.contains_iff_mem]
  unfold woP
  rw [List.mem_filter]
  constructor
  · exact fun h => h.1
  · intro hm
    exact ⟨hm, by simpa using h⟩
theorem split_wo {p : Prp} : ∀ {ps : List Prp}, (ps.map Prp.name).Nodup → p ∈ ps → ∃ A B, ps = A ++ p :: B ∧ woP ps p.name = A ++ B
  | x :: ps, hn, hm => by
    rw [List.map_cons, List.nodup_cons] at hn
    rcases List.mem_cons.1 hm with e | hm
    · subst e
      refine ⟨[], ps, rfl, ?_⟩
      unfold woP
      rw [List.filter_cons, if_neg (by simp), List.nil_append, List.filter_eq_self]
      intro a ha
      have : a.name ≠ p.name := fun e => hn.1 (e ▸ List.mem_map_of_mem ha)
      simpa using this
    · obtain ⟨A, B, h1, h2⟩ := split_wo hn.2 hm
      refine ⟨x :: A, B, by rw [h1]; rfl, ?_⟩
      have hx : x.name ≠ p.name := fun e => hn.1 (e ▸ List.mem_map_of_mem hm)
      unfold woP at h2 ⊢
      rw [List.filter_cons, if_pos (by simpa using hx), h2]
      rfl
theorem rep_del {j : Nat} (hk : k < ts.length) (hj : govP (nd ts k) l = some j) {p : Prp} (hp : p ∈ (nd ts k).props) (hnd : ((nd ts k).props.map Prp.name).Nodup) (hx : extV k (l.getD j default) p = some y) (h1 : p.name ≠ cmpN) (h2 : p.name ≠ phS) :
    Less y (vioT ts l) (vioT (setN ts k (woP (nd ts k).props p.name)) l) := by
  have hc := fun c => con_wo (c := c) (fun e => h2 e.symm) (nd ts k).props
  refine ed_vioT hk hc ?_
  have hcomp : compP (nd (setN ts k (woP (nd ts k).props p.name)) k) = compP (nd ts k) := by
    rw [nd_set_same hk]
    unfold compP
    rw [valP_wo (fun e => h1 e.symm)]
  have hgov : govP (nd (setN ts k (woP (nd ts k).props p.name)) k) l = some j := by
    unfold govP at hj ⊢
    rw [hcomp, hj]
  obtain ⟨A, B, e1, e2⟩ := split_wo hnd hp
  have hr : (l.getD j default).rules.filterMap (rulV (setN ts k (woP (nd ts k).props p.name)) k (nd (setN ts k (woP (nd ts k).props p.name)) k) (l.getD j default)) = (l.getD j default).rules.filterMap (rulV ts k (nd ts k) (l.getD j default)) := by
    apply fm_congr
    intro r hr
    have hb := (extV_prop p y hx).2.2.2.2
    have hn : r.name ≠ p.name := by
      intro e
      unfold extB at hb
      have : (l.getD j default).rules.any (fun r => r.name == p.name) = true := List.any_eq_true.2 ⟨r, hr, by rw [e]; simp⟩
      rw [this] at hb
      simp at hb
    have q : brkP (setN ts k (woP (nd ts k).props p.name)) (nd (setN ts k (woP (nd ts k).props p.name)) k) r = brkP ts (nd ts k) r := by
      rw [ed_brk hk hc, nd_set_same hk]
      unfold brkP
      dsimp only
      rw [valP_wo hn]
    unfold rulV
    rw [q]
  unfold vioN
  rw [hj, hgov]
  dsimp only
  rw [hr]
  refine Less.right ?_ _
  rw [nd_set_same hk]
  dsimp only
  rw [e2, e1, List.filterMap_append, List.filterMap_append, List.filterMap_cons, hx]
  exact ⟨_, _, rfl, rfl⟩
theorem valP_self {q : Prp} : ∀ l : List Prp, valP (putP l q) q.name = some q.val ∨ ∃ x ∈ l, x.name = q.name ∧ ltS x.name q.name = true
  | [] => by left; simp [putP, valP]
  | x :: l => by
    rw [putP_cons]
    by_cases h1 : ltS x.name q.name = true
    · rw [if_pos h1]
      by_cases e : x.name = q.name
      · exact .inr ⟨x, List.mem_cons_self .., e, h1⟩
      · rcases valP_self l with h | ⟨z, hz, h⟩
        · left
          unfold valP at h ⊢
          rw [List.find?_cons, show (x.name == q.name) = false by rw [beq_eq_false_iff_ne]; exact e]
          exact h
        · exact .inr ⟨z, List.mem_cons_of_mem _ hz, h⟩
    · left
      rw [if_neg h1]
      split <;> simp [valP]
theorem valP_puts (q : Prp) (l : List Prp) : valP (putP l q) q.name = some q.val := by
  rcases valP_self (q := q) l with h | ⟨x, _, e, h⟩
  · exact h
  · rw [e] at h
    exact absurd rfl (vlt_ne h)
theorem fm_less {f g : Rul → Option Vio} {r : Rul} : ∀ {rs : List Rul}, (rs.map Rul.name).Nodup → r ∈ rs → f r = some y → g r = none → (∀ x ∈ rs, x.name ≠ r.name → g x = f x) → Less y (rs.filterMap f) (rs.filterMap g)
  | x :: rs, hn, hm, hf, hg, hq => by
    rw [List.map_cons, List.nodup_cons] at hn
    rcases List.mem_cons.1 hm with e | hm
    · subst e
      rw [List.filterMap_cons, List.filterMap_cons, hf, hg]
      refine ⟨[], rs.filterMap f, rfl, ?_⟩
      exact fm_congr _ fun a ha => hq a (List.mem_cons_of_mem _ ha) (fun e => hn.1 (e ▸ List.mem_map_of_mem ha))
    · have ih := fm_less hn.2 hm hf hg (fun a ha => hq a (List.mem_cons_of_mem _ ha))
      have hx : x.name ≠ r.name := fun e => hn.1 (e ▸ List.mem_map_of_mem hm)
      rw [List.filterMap_cons, List.filterMap_cons, hq x (List.mem_cons_self ..) hx]
      cases f x with
      | none => exact ih
      | some z => exact ih.right [z]
theorem rep_set {j : Nat} (hk : k < ts.length) (hj : govP (nd ts k) l = some j) {r : Rul} {z : St} (hr : r ∈ (l.getD j default).rules) (hnd : ((l.getD j default).rules.map Rul.name).Nodup) (hx : rulV ts k (nd ts k) (l.getD j default) r = some y) (h1 : r.name ≠ cmpN) (h2 : r.name ≠ phS)
    (hz : brkP ts (nd (setN ts k (putP (nd ts k).props ⟨r.name, z⟩)) k) r = 0) :
    Less y (vioT ts l) (vioT (setN ts k (putP (nd ts k).props ⟨r.name, z⟩)) l) := by
  have hc : ∀ c, (putP (nd ts k).props ⟨r.name, z⟩).contains ⟨phS, c⟩ = (nd ts k).props.contains ⟨phS, c⟩ := fun c => con_put (fun e => h2 e.symm) _
  refine ed_vioT hk hc ?_
  have hcomp : compP (nd (setN ts k (putP (nd ts k).props ⟨r.name, z⟩)) k) = compP (nd ts k) := by
    rw [nd_set_same hk]
    unfold compP
    rw [valP_put (fun e => h1 e.symm)]
  have hgov : govP (nd (setN ts k (putP (nd ts k).props ⟨r.name, z⟩)) k) l = some j := by
    unfold govP at hj ⊢
    rw [hcomp, hj]
  have he : (nd (setN ts k (putP (nd ts k).props ⟨r.name, z⟩)) k).props.filterMap (extV k (l.getD j default)) = (nd ts k).props.filterMap (extV k (l.getD j default)) := by
    rw [nd_set_same hk]
    refine fm_none (fun a ha => ?_) _
    have ha : a.name = r.name := ha
    unfold extV extB
    rw [show (l.getD j default).rules.any (fun x => x.name == a.name) = true from List.any_eq_true.2 ⟨r, hr, by rw [ha]; simp⟩]
    simp
  unfold vioN
  rw [hj, hgov]
  dsimp only
  rw [he]
  refine Less.left ?_ _
  refine fm_less hnd hr hx ?_ (fun x hx hne => ?_)
  · unfold rulV
    rw [ed_brk hk hc, hz, if_pos rfl]
  · have q : brkP (setN ts k (putP (nd ts k).props ⟨r.name, z⟩)) (nd (setN ts k (putP (nd ts k).props ⟨r.name, z⟩)) k) x = brkP ts (nd ts k) x := by
      rw [ed_brk hk hc, nd_set_same hk]
      unfold brkP
      dsimp only
      rw [valP_put hne]
    unfold rulV
    rw [q]
end
def hanF (ts : Tr) : Nat → St
  | 0 => []
  | k + 1 => (valP (nd ts k).props phS).getD (hanF ts k)
def hanP (ts : Tr) : St := hanF ts ts.length
def nF (r : Rul) : Nat := max 1 r.count.toNat
def repS (s : St) : Nat → St
  | 0 => []
  | n + 1 => repS s n ++ s
def pieceP (ts : Tr) (r : Rul) : St := if r.kind = 3 then cell4 r.high.toNat else if r.kind = 5 then [97, 0] else if r.kind = 6 then hanP ts else []
def fitP (ts : Tr) (r : Rul) : Option St :=
  if r.kind = 6 ∧ (hanP ts).length ≠ 4 then none else some (if r.kind = 4 then r.words.getD 0 [] ++ [0] else repS (pieceP ts r) (nF r))
def HanOk (ts : Tr) : Prop := ∀ k, ∀ p ∈ (nd ts k).props, p.name = phS → ∃ i : Nat, 1 ≤ i ∧ i ≤ 1000 ∧ p.val = cell4 i
theorem hanF_at {ts : Tr} (h : HanOk ts) : ∀ k, hanF ts k = [] ∨ ∃ i j : Nat, i < k ∧ 1 ≤ j ∧ j ≤ 1000 ∧ hanF ts k = cell4 j ∧ (nd ts i).props.contains ⟨phS, cell4 j⟩ = true
  | 0 => .inl rfl
  | k + 1 => by
    rw [hanF]
    cases e : valP (nd ts k).props phS with
    | none =>
      rcases hanF_at h k with q | ⟨i, j, h1, h2⟩
      · exact .inl q
      · exact .inr ⟨i, j, by omega, h2⟩
    | some v =>
      right
      unfold valP at e
      cases e2 : (nd ts k).props.find? (fun p => p.name == phS) with
      | none => rw [e2] at e; cases e
      | some p =>
        rw [e2] at e
        obtain rfl : p.val = v := Option.some.inj e
        have hm := List.mem_of_find?_eq_some e2
        have hn : p.name = phS := by simpa using List.find?_some e2
        obtain ⟨j, h1, h2, h3⟩ := h k p hm hn
        refine ⟨k, j, by omega, h1, h2, h3, ?_⟩
        rw [List.contains_iff_mem]
        have : p = ⟨phS, cell4 j⟩ := by rw [← hn, ← h3]
        rw [← this]
        exact hm
theorem repS_cells (h : Nat) : ∀ n, repS (cell4 h) n = cellsS (List.replicate n h)
  | 0 => rfl
  | n + 1 => by
    rw [repS, repS_cells h n, List.replicate_succ', cellsS, cellsS, List.flatMap_append]
    simp
theorem repS_len (s : St) : ∀ n, (repS s n).length = n * s.length
  | 0 => by simp [repS]
  | n + 1 => by rw [repS, List.length_append, repS_len s n, Nat.succ_mul]
theorem repS_nil : ∀ n, repS [] n = []
  | 0 => rfl
  | n + 1 => by rw [repS, repS_nil n]; rfl
theorem fit_cells {ts : Tr} {r : Rul} {h n : Nat} (hh : h < 4294967296) (hn : 1 ≤ n) (hc : r.count = 0 ∨ r.count = n) (h3 : r.kind = 3 → r.low ≤ h ∧ (h : Int) ≤ r.high) (h6 : r.kind = 6 → (phan ts h).isNone = false) : celBad ts r (repS (cell4 h) n) = 0 := by
  have e1 : cellsL (repS (cell4 h) n) = List.replicate n (h : Int) := by
    rw [repS_cells, cellsL_cellsS _ (fun m hm => by rw [List.eq_of_mem_replicate hm]; exact hh), List.map_replicate]
  have e2 : cellsOk (repS (cell4 h) n) = true := by
    have l := repS_len (cell4 h) n
    have l4 : (cell4 h).length = 4 := rfl
    rw [l4] at l
    unfold cellsOk
    rw [Bool.and_eq_true]
    refine ⟨?_, by rw [l]; simp⟩
    cases e : repS (cell4 h) n with
    | nil => rw [e] at l; simp at l; omega
    | cons a b => rfl
  have e3 : (List.replicate n (h : Int)).getD 0 0 = h := by
    obtain ⟨m, rfl⟩ : ∃ m, n = m + 1 := ⟨n - 1, by omega⟩
    rfl
  unfold celBad
  rw [e1, e2, if_neg (by decide), e3, List.length_replicate]
  rw [if_neg (by rintro ⟨q1, q2⟩; rcases hc with q | q; exact q1 q; exact q2 q.symm)]
  rw [if_neg, if_neg]
  · rintro ⟨q1, q2⟩
    rw [h6 q1] at q2
    cases q2
  · rintro ⟨q1, q2⟩
    obtain ⟨x, hx, hb⟩ := List.any_eq_true.1 q2
    rw [List.eq_of_mem_replicate hx] at hb
    have := h3 q1
    simp at hb
    omega
theorem idxZ : ∀ s : St, (0 : UInt8) ∉ s → Lib.index s [0] = -1
  | [], _ => rfl
  | d :: l, h => by
    have h1 : d ≠ 0 := fun e => h (by rw [e]; simp)
    have h2 : (0 : UInt8) ∉ l := fun q => h (List.mem_cons_of_mem _ q)
    have h3 : List.isPrefixOf [0] (d :: l) = false := by
      simp [List.isPrefixOf]
      exact fun e => h1 e.symm
    rw [Lib.index, if_neg (by rw [h3]; decide), idxZ l h2]
    rfl
theorem strs_word {s : St} (h : visP s = true) : strsP (s ++ [0]) = some [s] := by
  unfold visP at h
  simp only [Bool.and_eq_true, decide_eq_true_eq] at h
  obtain ⟨⟨h1, h2⟩, h3⟩ := h
  have h0 : (0 : UInt8) ∉ s := fun hm => by
    have := List.all_eq_true.1 h1 _ hm
    revert this
    decide
  have e1 : Lib.hasSuffix (s ++ [0]) [0] = true := by
    unfold Lib.hasSuffix
    rw [List.isSuffixOf_iff_suffix]
    exact List.suffix_append _ _
  have e2 : Lib.trimSuffix (s ++ [0]) [0] = s := by
    unfold Lib.trimSuffix
    rw [if_pos e1]
    simp
  have e3 : Lib.split s [0] = [s] := by
    unfold Lib.split
    generalize Lib.count s [0] = k
    cases k with
    | zero => rfl
    | succ k => rw [Lib.splitK, if_pos (by rw [idxZ s h0]; decide)]
  have e4 : txtOk s = true := by
    unfold txtOk
    rw [Bool.and_eq_true]
    refine ⟨by cases s with
      | nil => simp at h2
      | cons a b => rfl, List.all_eq_true.2 fun c hc => ?_⟩
    have := List.all_eq_true.1 h1 c hc
    simp only [Bool.and_eq_true, decide_eq_true_eq] at this ⊢
    omega
  unfold strsP
  rw [e2, e3, if_pos ⟨e1, by simp [e4]⟩]
theorem fit_ok {ts : Tr} {r : Rul} {n : Nod} {z : St} (hr : ruleP r = true) (hc : r.count ≤ 2) (hh : HanOk ts) (hz : fitP ts r = some z) (hv : valP n.props r.name = some z) : brkP ts n r = 0 ∧ z.length ≤ 100 := by
  unfold ruleP at hr
  simp only [Bool.and_eq_true, Bool.or_eq_true, decide_eq_true_eq] at hr
  obtain ⟨⟨⟨⟨⟨⟨_, k1, k2⟩, hk3⟩, c1, c2⟩, hcn⟩, hw⟩, hvis⟩ := hr
  unfold fitP at hz
  split at hz
  · cases hz
  rename_i h6
  have hz := Option.some.inj hz
  have hn : 1 ≤ nF r ∧ nF r ≤ 2 ∧ (r.count = 0 ∨ r.count = nF r) := by unfold nF; omega
  obtain ⟨n1, n2, n3⟩ := hn
  have key : ∀ h : Nat, z = repS (cell4 h) (nF r) → z.length ≤ 100 := fun h e => by
    have l := repS_len (cell4 h) (nF r)
    have l4 : (cell4 h).length = 4 := rfl
    rw [l4] at l
    rw [e, l]
    omega
  unfold brkP
  rw [hv]
  dsimp only
  rcases show r.kind = 1 ∨ r.kind = 2 ∨ r.kind = 3 ∨ r.kind = 4 ∨ r.kind = 5 ∨ r.kind = 6 by omega with e | e | e | e | e | e
  · rw [if_pos e]
    refine ⟨rfl, ?_⟩
    rw [if_neg (by omega)] at hz
    unfold pieceP at hz
    rw [if_neg (by omega), if_neg (by omega), if_neg (by omega), repS_nil] at hz
    rw [← hz]
    simp
  · rw [if_neg (by omega), if_neg (by omega), if_neg (by omega)]
    rw [if_neg (by omega)] at hz
    unfold pieceP at hz
    rw [if_neg (by omega), if_neg (by omega), if_neg (by omega), repS_nil] at hz
    rw [← hz, if_pos rfl]
    exact ⟨rfl, by simp⟩
  · rw [if_neg (by omega), if_pos (by omega)]
    rw [if_neg (by omega)] at hz
    unfold pieceP at hz
    rw [if_pos e] at hz
    rw [if_pos e] at hk3
    simp only [Bool.and_eq_true, decide_eq_true_eq] at hk3
    refine ⟨?_, key _ hz.symm⟩
    rw [← hz]
    exact fit_cells (by omega) n1 n3 (fun _ => by omega) (fun q => by omega)
  · rw [if_neg (by omega), if_neg (by omega), if_pos (by omega)]
    rw [if_pos e] at hz
    rw [if_pos e] at hw
    simp only [Bool.and_eq_true, decide_eq_true_eq] at hw
    obtain ⟨s, l, hs⟩ : ∃ s l, r.words = s :: l := by
      cases e : r.words with
      | nil => rw [e] at hw; simp at hw
      | cons s l => exact ⟨s, l, rfl⟩
    have vs : visP s = true := List.all_eq_true.1 hvis s (by rw [hs]; exact List.mem_cons_self ..)
    rw [hs] at hz
    have hz : s ++ [0] = z := hz
    rw [← hz]
    constructor
    · unfold txtBad
      rw [strs_word vs]
      unfold cntR
      dsimp only
      rw [if_pos e, hs]
      simp
    · have q : s.length ≤ 31 := by unfold visP at vs; simp at vs; exact vs.2
      simp; omega
  · rw [if_neg (by omega), if_neg (by omega), if_pos (by omega)]
    rw [if_neg (by omega)] at hz
    unfold pieceP at hz
    rw [if_neg (by omega), if_pos e] at hz
    have k1 : strsP (repS [97, 0] 1) = some [[97]] := by kernel_rfl
    have k2 : strsP (repS [97, 0] 2) = some [[97], [97]] := by kernel_rfl
    rw [← hz]
    unfold txtBad cntR
    rw [if_neg (by omega)]
    rcases show nF r = 1 ∨ nF r = 2 by omega with q | q
    · rw [q, k1]
      rw [q] at n3
      dsimp only
      rw [if_neg (by rintro ⟨q1, q2⟩; simp at q2; omega), if_neg (by omega)]
      exact ⟨rfl, by decide⟩
    · rw [q, k2]
      rw [q] at n3
      dsimp only
      rw [if_neg (by rintro ⟨q1, q2⟩; simp at q2; omega), if_neg (by omega)]
      exact ⟨rfl, by decide⟩
  · rw [if_neg (by omega), if_pos (by omega)]
    rw [if_neg (by omega)] at hz
    unfold pieceP at hz
    rw [if_neg (by omega), if_neg (by omega), if_pos e] at hz
    rcases hanF_at hh ts.length with q | ⟨i, j, h1, h2, h3, h4, h5⟩
    · exact absurd ⟨e, by unfold hanP; rw [q]; decide⟩ h6
    · have h4 : hanP ts = cell4 j := h4
      rw [h4] at hz
      refine ⟨?_, key _ hz.symm⟩
      rw [← hz]
      refine fit_cells (by omega) n1 n3 (fun q => by omega) (fun _ => ?_)
      unfold phan
      rw [if_pos (by omega), Int.toNat_natCast]
      cases e2 : ts.findIdx? (fun n => n.props.contains ⟨phS, cell4 j⟩) with
      | some x => rfl
      | none =>
        rw [List.findIdx?_eq_none_iff] at e2
        have e3 : nd ts i = ts[i] := nd_get h1
        rw [e3] at h5
        have := e2 ts[i] (List.getElem_mem h1)
        rw [h5] at this
        cases this
theorem sl_newB (w : World) (xs : List Int) (T : TypeId) (hw : ∀ x ∈ xs, Wide x) : SlOf 1 RI (w.alloc (.cells (nums xs).toArray T)) (some ⟨w.heap.size, 0, none⟩) xs := by
  intro k hk
  refine ⟨_, 0, rfl, ?_, hw _ (List.getElem_mem hk)⟩
  have := (Row.new w (nums xs).toArray T).cell k (by simpa [nums] using hk)
  rw [Nat.mul_one, Nat.zero_add, this]
  simp [nums]
theorem fitting_any (ts : Tr) (ta : Option Addr) (tc : Nat) (r : Rul) (ra : Option Addr) (rc : Nat) (w : World) (h : SlOf 3 RNod w ta ts) (hv : VT ts) (hw : SlOf 1 RS w ra r.words) (hr : ruleP r = true) (hc : r.count ≤ 2) :
    Calls Tryz.prog 18 #[.agg #[.slice ta ts.length tc], .agg #[.string (bs r.name), .bool r.req, .int .i64 r.kind, .int .i64 r.low, .int .i64 r.high, .int .i64 r.count, .slice ra r.words.length rc]] w (GivesVal (fitP ts r) w) := by
  have H := Lib.hid h
  have HV := Lib.hid hv
  have HW := Lib.hid hw
  obtain ⟨nm, rq, kd, lo, hi, ct, ws⟩ := r
  have RP := Lib.hid hr
  have CT : Hid (ct ≤ 2) := Lib.hid hc
  have l1 := hv.pos
  have l2 := hv.few
  obtain ⟨n, hn⟩ : ∃ n : Nat, Hid (nF ⟨nm, rq, kd, lo, hi, ct, ws⟩ = n) := ⟨_, Lib.hid rfl⟩
  have HI : Hid (0 ≤ ct ∧ 1 ≤ n ∧ n ≤ 2 ∧ max 1 ct = (n : Int)) := Lib.hid (by
    unfold ruleP at hr
    simp only [Bool.and_eq_true, Bool.or_eq_true, decide_eq_true_eq] at hr
    obtain ⟨⟨⟨⟨⟨⟨_, k1, k2⟩, hk3⟩, c1, c2⟩, hcn⟩, hw⟩, hvis⟩ := hr
    have q := hn.out
    unfold nF at q
    (try dsimp only at q c1 hc)
    omega)
  have KD : kd = 1 ∨ kd = 2 ∨ kd = 3 ∨ kd = 4 ∨ kd = 5 ∨ kd = 6 := by
    unfold ruleP at hr
    simp only [Bool.and_eq_true, Bool.or_eq_true, decide_eq_true_eq] at hr
    obtain ⟨⟨⟨⟨⟨⟨_, k1, k2⟩, hk3⟩, c1, c2⟩, hcn⟩, hw⟩, hvis⟩ := hr
    (try dsimp only at k1 k2)
    omega
  clear h hv hw hr hc
  (try dsimp only at HW)
  (try dsimp only)
  obtain ⟨P0, hP0⟩ : ∃ P : Ending → World → Prop, P = GivesVal (fitP ts ⟨nm, rq, kd, lo, hi, ct, ws⟩) w := ⟨_, rfl⟩
  rw [← hP0]
  have HP0 := Lib.hid hP0
  clear hP0
  go_enter Tryz.func18, Tryz.ntmps18
  go_upto_region 1 with (fail)
  have RT := Lib.hid ((Row.new w #[.slice ta ts.length tc] 29).alloc (.cells #[.string (bs nm), .bool rq, .int .i64 kd, .int .i64 lo, .int .i64 hi, .int .i64 ct, .slice ra ws.length rc] 51))
  have RB : Hid (Row ((w.alloc (.cells #[.slice ta ts.length tc] 29)).alloc (.cells #[.string (bs nm), .bool rq, .int .i64 kd, .int .i64 lo, .int .i64 hi, .int .i64 ct, .slice ra ws.length rc] 51)) (w.heap.size + 1) 51 [.string (bs nm), .bool rq, .int .i64 kd, .int .i64 lo, .int .i64 hi, .int .i64 ct, .slice ra ws.length rc]) := Lib.hid (by
    have q := Row.new (w.alloc (.cells #[.slice ta ts.length tc] 29)) #[.string (bs nm), .bool rq, .int .i64 kd, .int .i64 lo, .int .i64 hi, .int .i64 ct, .slice ra ws.length rc] 51
    have e : (w.alloc (.cells #[.slice ta ts.length tc] 29)).heap.size = w.heap.size + 1 := by simp
    rw [e] at q; exact q)
  obtain ⟨W, hW⟩ : ∃ W : World, Hid (W = (w.alloc (.cells #[.slice ta ts.length tc] 29)).alloc (.cells #[.string (bs nm), .bool rq, .int .i64 kd, .int .i64 lo, .int .i64 hi, .int .i64 ct, .slice ra ws.length rc] 51)) := ⟨_, Lib.hid rfl⟩
  have GW : Hid (Gr w W) := Lib.hid (by rw [hW.out]; exact ((Gr.refl _).alloc _).alloc _)
  rw [← hW.out] at RT RB ⊢
  obtain ⟨PT, hPT⟩ : ∃ N : Nat, Hid (w.heap.size = N) := ⟨_, Lib.hid rfl⟩
  rw [hPT.out] at RT RB ⊢
  clear hW hPT
  obtain ⟨PB, hPB⟩ : ∃ N : Nat, Hid (PT + 1 = N) := ⟨_, Lib.hid rfl⟩
  rw [hPB.out] at RB ⊢
  clear hPB
  have r5 := RB.out.cell 5 (by simp)
  simp only [List.getElem_cons_succ, List.getElem_cons_zero] at r5
  have hb := has_of_cell r5
  go_wp2_with fail
  rw [HI.out.2.2.2]
  have n2 := HI.out.2.2.1
  clear r5 hb
  rcases KD with rfl | rfl | rfl | rfl | rfl | rfl
  · obtain ⟨pc, hpc⟩ : ∃ s : St, s = [] := ⟨_, rfl⟩
    have PC := Lib.hid hpc
    clear hpc
    have FP := Lib.hid (show (fitP ts ⟨nm, rq, 1, lo, hi, ct, ws⟩) = if (1 : Int) = 6 ∧ (hanP ts).length ≠ 4 then none else some (if (1 : Int) = 4 then ws.getD 0 [] ++ [0] else repS pc n) from by rw [PC.out, ← hn.out]; rfl)
    go_loopw [7, 8] (fun s7 s8 wr => ∃ k : Nat, k ≤ n ∧ s7 = .string (bs (repS pc k)) ∧ s8 = .int .i64 (k : Int) ∧ Gr W wr) (fun _ s8 _ => n - (intOf s8).toNat)
    case atStart => exact ⟨0, Nat.zero_le _, rfl, rfl, Gr.refl _⟩
    case round =>
      obtain ⟨k, hk, rfl, rfl, hg⟩ := hrel
      have HG := Lib.hid hg
      clear hg
      have r2 := (RB.out.gr HG.out).cell 2 (by simp)
      simp only [List.getElem_cons_succ, List.getElem_cons_zero] at r2
      have hb := has_of_cell r2
      by_cases hlt : k < n
      · have kn : (k : Int) < (n : Int) := by omega
        go_wp2_with fail
        go_roundw
        case rel => exact ⟨k + 1, by omega, by rw [PC.out, repS_nil, repS_nil], by go_num, HG.out⟩
        case measure => simp [intOf]; omega
      · obtain rfl : k = n := by omega
        go_wp2_with fail
        rw [HP0.out]
        refine ⟨GW.out.trans HG.out, ?_⟩
        rw [FP.out]
        rfl
  · obtain ⟨pc, hpc⟩ : ∃ s : St, s = [] := ⟨_, rfl⟩
    have PC := Lib.hid hpc
    clear hpc
    have FP := Lib.hid (show (fitP ts ⟨nm, rq, 2, lo, hi, ct, ws⟩) = if (2 : Int) = 6 ∧ (hanP ts).length ≠ 4 then none else some (if (2 : Int) = 4 then ws.getD 0 [] ++ [0] else repS pc n) from by rw [PC.out, ← hn.out]; rfl)
    go_loopw [7, 8] (fun s7 s8 wr => ∃ k : Nat, k ≤ n ∧ s7 = .string (bs (repS pc k)) ∧ s8 = .int .i64 (k : Int) ∧ Gr W wr) (fun _ s8 _ => n - (intOf s8).toNat)
    case atStart => exact ⟨0, Nat.zero_le _, rfl, rfl, Gr.refl _⟩
    case round =>
      obtain ⟨k, hk, rfl, rfl, hg⟩ := hrel
      have HG := Lib.hid hg
      clear hg
      have r2 := (RB.out.gr HG.out).cell 2 (by simp)
      simp only [List.getElem_cons_succ, List.getElem_cons_zero] at r2
      have hb := has_of_cell r2
      by_cases hlt : k < n
      · have kn : (k : Int) < (n : Int) := by omega
        go_wp2_with fail
        go_roundw
        case rel => exact ⟨k + 1, by omega, by rw [PC.out, repS_nil, repS_nil], by go_num, HG.out⟩
        case measure => simp [intOf]; omega
      · obtain rfl : k = n := by omega
        go_wp2_with fail
        rw [HP0.out]
        refine ⟨GW.out.trans HG.out, ?_⟩
        rw [FP.out]
        rfl
  · obtain ⟨H0, H1⟩ : 0 ≤ hi ∧ hi ≤ 4294967295 := by
      have hr := RP.out
      unfold ruleP at hr
      simp only [Bool.and_eq_true, Bool.or_eq_true, decide_eq_true_eq] at hr
      obtain ⟨⟨⟨⟨⟨⟨_, k1, k2⟩, hk3⟩, c1, c2⟩, hcn⟩, hw⟩, hvis⟩ := hr
      simp only [if_true, Bool.and_eq_true, decide_eq_true_eq] at hk3
      omega
    obtain ⟨hi, rfl⟩ := Int.eq_ofNat_of_zero_le H0
    obtain ⟨pc, hpc⟩ : ∃ s : St, s = cellsS [hi] := ⟨_, rfl⟩
    have PC := Lib.hid hpc
    clear hpc
    have FP := Lib.hid (show (fitP ts ⟨nm, rq, 3, lo, hi, ct, ws⟩) = if (3 : Int) = 6 ∧ (hanP ts).length ≠ 4 then none else some (if (3 : Int) = 4 then ws.getD 0 [] ++ [0] else repS pc n) from by rw [PC.out, ← hn.out, show cellsS [hi] = cell4 hi from List.append_nil _]; rfl)
    go_loopw [7, 8] (fun s7 s8 wr => ∃ k : Nat, k ≤ n ∧ s7 = .string (bs (repS pc k)) ∧ s8 = .int .i64 (k : Int) ∧ Gr W wr) (fun _ s8 _ => n - (intOf s8).toNat)
    case atStart => exact ⟨0, Nat.zero_le _, rfl, rfl, Gr.refl _⟩
    case round =>
      obtain ⟨k, hk, rfl, rfl, hg⟩ := hrel
      have HG := Lib.hid hg
      clear hg
      have r2 := (RB.out.gr HG.out).cell 2 (by simp)
      simp only [List.getElem_cons_succ, List.getElem_cons_zero] at r2
      have hb := has_of_cell r2
      by_cases hlt : k < n
      · have kn : (k : Int) < (n : Int) := by omega
        have r4 := (RB.out.gr HG.out).cell 4 (by simp)
        simp only [List.getElem_cons_succ, List.getElem_cons_zero] at r4
        have RL : (repS pc k).length ≤ 8 := by have q := repS_len pc k; have q2 : k * pc.length ≤ 2 * 4 := Nat.mul_le_mul (by omega) (by rw [PC.out]; exact Nat.le_refl _); omega
        have CL : (cellsS [hi]).length = 4 := rfl
        go_wp2_with fail
        refine (growCells_any [hi] (some ⟨wr.heap.size, 0, none⟩) 1 _ (sl_newB wr [(hi : Int)] 3 (by simp [Wide]; omega)) (by intro z hz; rw [List.mem_singleton.1 hz]; omega) (by simp) (by simp)).mono ?_
        rintro e w2 ⟨rfl, hg2⟩
        have G2 := Lib.hid ((HG.out.alloc (.cells #[.int .i64 (hi : Int)] 3)).trans hg2)
        clear hg2
        go_wp2_with fail
        exact ⟨⟨k + 1, by omega, by rw [repS, PC.out], by go_num, G2.out⟩, by simp [intOf]; omega⟩
      · obtain rfl : k = n := by omega
        go_wp2_with fail
        rw [HP0.out]
        refine ⟨GW.out.trans HG.out, ?_⟩
        rw [FP.out]
        rfl
  · obtain ⟨pc, hpc⟩ : ∃ s : St, s = [] := ⟨_, rfl⟩
    have PC := Lib.hid hpc
    clear hpc
    have FP := Lib.hid (show (fitP ts ⟨nm, rq, 4, lo, hi, ct, ws⟩) = if (4 : Int) = 6 ∧ (hanP ts).length ≠ 4 then none else some (if (4 : Int) = 4 then ws.getD 0 [] ++ [0] else repS pc n) from by rw [PC.out, ← hn.out]; rfl)
    go_loopw [7, 8] (fun s7 s8 wr => ∃ k : Nat, k ≤ n ∧ s7 = .string (bs (repS pc k)) ∧ s8 = .int .i64 (k : Int) ∧ Gr W wr) (fun _ s8 _ => n - (intOf s8).toNat)
    case atStart => exact ⟨0, Nat.zero_le _, rfl, rfl, Gr.refl _⟩
    case round =>
      obtain ⟨k, hk, rfl, rfl, hg⟩ := hrel
      have HG := Lib.hid hg
      clear hg
      have r2 := (RB.out.gr HG.out).cell 2 (by simp)
      simp only [List.getElem_cons_succ, List.getElem_cons_zero] at r2
      have hb := has_of_cell r2
      by_cases hlt : k < n
      · have kn : (k : Int) < (n : Int) := by omega
        go_wp2_with fail
        go_roundw
        case rel => exact ⟨k + 1, by omega, by rw [PC.out, repS_nil, repS_nil], by go_num, HG.out⟩
        case measure => simp [intOf]; omega
      · obtain rfl : k = n := by omega
        obtain ⟨s, l, hs⟩ : ∃ s l, ws = s :: l := by
          have hr := RP.out
          unfold ruleP at hr
          simp only [Bool.and_eq_true, Bool.or_eq_true, decide_eq_true_eq] at hr
          obtain ⟨⟨⟨⟨⟨⟨_, k1, k2⟩, hk3⟩, c1, c2⟩, hcn⟩, hw⟩, hvis⟩ := hr
          simp only [if_true, Bool.and_eq_true, decide_eq_true_eq] at hw
          cases ws with
          | nil => simp at hw
          | cons s l => exact ⟨s, l, rfl⟩
        have sl : s.length ≤ 31 := by
          have hr := RP.out
          unfold ruleP at hr
          simp only [Bool.and_eq_true, Bool.or_eq_true, decide_eq_true_eq] at hr
          have q := List.all_eq_true.1 hr.2 s (by rw [hs]; exact List.mem_cons_self ..)
          unfold visP at q
          simp at q
          exact q.2
        obtain ⟨wl, hwl⟩ : ∃ N : Nat, Hid (ws.length = N) := ⟨_, Lib.hid rfl⟩
        have wl0 : 0 < wl := by rw [← hwl.out, hs]; simp
        have W0 : ws[0]'(by rw [hs]; simp) = s := by simp [hs]
        obtain ⟨b0, o0, e0, hc0⟩ := (HW.out.gr RS.mono (GW.out.trans HG.out)) 0 (by rw [hs]; simp)
        rw [W0] at hc0
        have c0 : wr.cell? ⟨b0, o0, none⟩ = some (.string (bs s)) := by have q := hc0.1; simpa using q
        have hb0 := has_of_cell c0
        subst e0
        have r6 := (RB.out.gr HG.out).cell 6 (by simp)
        simp only [List.getElem_cons_succ, List.getElem_cons_zero] at r6
        rw [hwl.out] at r6
        clear hc0
        go_wp2_with fail
        rw [HP0.out]
        refine ⟨GW.out.trans HG.out, ?_⟩
        rw [FP.out, hs]
        exact congrArg Ending.returned (congrArg (fun v => Value.tuple #[v, .bool true]) (congrArg Value.string (bs_append s [0])))
  · obtain ⟨pc, hpc⟩ : ∃ s : St, s = [97, 0] := ⟨_, rfl⟩
    have PC := Lib.hid hpc
    clear hpc
    have FP := Lib.hid (show (fitP ts ⟨nm, rq, 5, lo, hi, ct, ws⟩) = if (5 : Int) = 6 ∧ (hanP ts).length ≠ 4 then none else some (if (5 : Int) = 4 then ws.getD 0 [] ++ [0] else repS pc n) from by rw [PC.out, ← hn.out]; rfl)
    go_loopw [7, 8] (fun s7 s8 wr => ∃ k : Nat, k ≤ n ∧ s7 = .string (bs (repS pc k)) ∧ s8 = .int .i64 (k : Int) ∧ Gr W wr) (fun _ s8 _ => n - (intOf s8).toNat)
    case atStart => exact ⟨0, Nat.zero_le _, rfl, rfl, Gr.refl _⟩
    case round =>
      obtain ⟨k, hk, rfl, rfl, hg⟩ := hrel
      have HG := Lib.hid hg
      clear hg
      have r2 := (RB.out.gr HG.out).cell 2 (by simp)
      simp only [List.getElem_cons_succ, List.getElem_cons_zero] at r2
      have hb := has_of_cell r2
      by_cases hlt : k < n
      · have kn : (k : Int) < (n : Int) := by omega
        have RL : (repS pc k).length ≤ 8 := by have q := repS_len pc k; have q2 : k * pc.length ≤ 2 * 4 := Nat.mul_le_mul (by omega) (by rw [PC.out]; decide); omega
        go_wp2_with fail
        exact ⟨⟨k + 1, by omega, by rw [repS, PC.out]; exact congrArg Value.string (bs_append _ [97, 0]), by go_num, HG.out⟩, by simp [intOf]; omega⟩
      · obtain rfl : k = n := by omega
        go_wp2_with fail
        rw [HP0.out]
        refine ⟨GW.out.trans HG.out, ?_⟩
        rw [FP.out]
        rfl
  · obtain ⟨m, hm⟩ : ∃ N : Nat, Hid (ts.length = N) := ⟨_, Lib.hid rfl⟩
    obtain ⟨pc, hpc⟩ : ∃ s : St, s = hanP ts := ⟨_, rfl⟩
    have PC := Lib.hid hpc
    clear hpc
    have FP := Lib.hid (show (fitP ts ⟨nm, rq, 6, lo, hi, ct, ws⟩) = if (6 : Int) = 6 ∧ pc.length ≠ 4 then none else some (repS pc n) from by rw [PC.out, ← hn.out]; rfl)
    go_loopw [7, 8] (fun s7 s8 wr => ∃ k : Nat, k ≤ n ∧ s7 = .string (bs (repS pc k)) ∧ s8 = .int .i64 (k : Int) ∧ Gr W wr ∧ (k = 0 ∨ pc.length = 4)) (fun _ s8 _ => n - (intOf s8).toNat)
    case atStart => exact ⟨0, Nat.zero_le _, rfl, rfl, Gr.refl _, .inl rfl⟩
    case round =>
      obtain ⟨k, hk, rfl, rfl, hg, h4⟩ := hrel
      have HG := Lib.hid hg
      clear hg
      have r2 := (RB.out.gr HG.out).cell 2 (by simp)
      simp only [List.getElem_cons_succ, List.getElem_cons_zero] at r2
      have hb := has_of_cell r2
      by_cases hlt : k < n
      · have kn : (k : Int) < (n : Int) := by omega
        have x0 := (RT.out.gr HG.out).cell 0 (by simp)
        simp only [List.getElem_cons_zero] at x0
        rw [hm.out] at x0
        have hx := has_of_cell x0
        go_wp2_with fail
        clear r2 hb x0 hx
        go_loopw [9, 41] (fun s9 s41 w2 => ∃ i : Nat, i ≤ m ∧ s9 = .string (bs (hanF ts i)) ∧ s41 = .int .i64 (i : Int) ∧ Gr wr w2) (fun _ s41 _ => m - (intOf s41).toNat)
        case atStart => exact ⟨0, Nat.zero_le _, rfl, rfl, Gr.refl _⟩
        case round =>
          obtain ⟨i, hi2, rfl, rfl, hg2⟩ := hrel
          have HG2 := Lib.hid hg2
          clear hg2
          by_cases him : i < m
          · have il : i < ts.length := by rw [hm.out]; exact him
            have ik : (i : Int) < (m : Int) := by omega
            obtain ⟨b, o, pa2, pc2, rfl, c0, c1, c2, hps, hpf, hww, hnl⟩ := nods_at (H.out.gr RNod.mono (GW.out.trans (HG.out.trans HG2.out))) i il
            have hb := has_of_cell c0
            have OFK := fun W3 (hg : Gr _ W3) => rOf_any ts[i] pa2 pc2 phS W3 (hps.gr RPrp.mono hg) (by have := (HV.out.props il).len; omega)
            have HF : Hid (hanF ts (i + 1) = (valP ts[i].props phS).getD (hanF ts i)) := Lib.hid (by rw [hanF, nd_get il])
            obtain ⟨np, hnp⟩ : ∃ N : Nat, ts[i].props.length = N := ⟨_, rfl⟩
            obtain ⟨nn, hnn⟩ : ∃ N, ts[i].name = N := ⟨_, rfl⟩
            obtain ⟨pp, hpp⟩ : ∃ N, ts[i].parent = N := ⟨_, rfl⟩
            obtain ⟨ov, hov⟩ : ∃ N, valP ts[i].props phS = N := ⟨_, rfl⟩
            rw [hnp, hnn, hpp, hov] at OFK
            rw [hnp] at c2
            rw [hnn] at c1
            rw [hpp] at c0
            rw [hov] at HF
            have OF := Lib.hid OFK
            clear OFK hnp hnn hpp hov hps hpf hww hnl
            go_wp2_with fail
            refine (OF.out _ ((Gr.refl _).alloc _)).mono ?_
            rintro e w3 ⟨hg3, hv3⟩
            have G3 := Lib.hid ((HG2.out.alloc _).trans hg3)
            clear hg3 c0 c1 c2 hb OF
            cases ov with
            | none =>
              subst hv3
              go_wp2_with fail
              exact ⟨⟨i + 1, by omega, by rw [HF.out]; rfl, by go_num, G3.out⟩, by simp [intOf]; omega⟩
            | some v =>
              subst hv3
              go_wp2_with fail
              exact ⟨⟨i + 1, by omega, by rw [HF.out]; rfl, by go_num, G3.out⟩, by simp [intOf]; omega⟩
          · obtain rfl : i = m := by omega
            have HP : Hid (hanF ts i = pc) := Lib.hid (by rw [PC.out, ← hm.out]; rfl)
            rw [HP.out]
            obtain ⟨hl, hhl⟩ : ∃ N : Nat, Hid (pc.length = N) := ⟨_, Lib.hid rfl⟩
            by_cases e4 : hl = 4
            · subst e4
              have pl := hhl.out
              have RL : (repS pc k).length ≤ 8 := by have q := repS_len pc k; have q2 : k * pc.length ≤ 2 * 4 := Nat.mul_le_mul (by omega) (by omega); omega
              go_wp2_with fail
              exact ⟨⟨k + 1, by omega, by rw [repS], by go_num, HG.out.trans HG2.out, .inr hhl.out⟩, by simp [intOf]; omega⟩
            · have e5 : ((hl : Int) == 4) = false := by rw [beq_eq_false_iff_ne]; omega
              have pl := hhl.out
              go_wp2_with fail
              rw [HP0.out]
              refine ⟨GW.out.trans (HG.out.trans HG2.out), ?_⟩
              rw [FP.out, if_pos ⟨trivial, by rw [hhl.out]; exact e4⟩]
              rfl
      · obtain rfl : k = n := by omega
        have P4 : pc.length = 4 := by
          rcases h4 with q | q
          · have := HI.out.2.1; omega
          · exact q
        go_wp2_with fail
        rw [HP0.out]
        refine ⟨GW.out.trans HG.out, ?_⟩
        rw [FP.out, if_neg (fun q => q.2 P4)]
section
variable {ts : Tr} {l : List Sch} {y : Vio}
theorem hanOk_of (h : NoX ts) : HanOk ts := fun k p hp e => (h k p hp).2 e
theorem vio_at (hy : y ∈ vioT ts l) : ∃ k : Nat, k < ts.length ∧ y.node = k ∧ y ∈ vioN ts l k (nd ts k) := by
  unfold vioT at hy
  obtain ⟨i, h1, h2⟩ := mem_vioF.1 hy
  exact ⟨i, h1, (vioN_fac h2).1, h2⟩
theorem vio_kind {k : Nat} (hy : y ∈ vioN ts l k (nd ts k)) (h7 : y.kind ≠ 7) : ∃ j, govP (nd ts k) l = some j ∧ j < l.length ∧ y.sch = (l.getD j default).comp ∧
    ((y.kind = 6 ∧ ∃ p ∈ (nd ts k).props, p.name = y.prop ∧ extV k (l.getD j default) p = some y) ∨ (y.kind ≠ 6 ∧ ∃ r ∈ (l.getD j default).rules, r.name = y.prop ∧ rulV ts k (nd ts k) (l.getD j default) r = some y)) := by
  unfold vioN at hy
  cases e : govP (nd ts k) l with
  | none =>
    rw [e] at hy
    dsimp only at hy
    cases e2 : compP (nd ts k) with
    | nil => rw [e2] at hy; cases hy
    | cons c cs =>
      rw [e2] at hy
      exact absurd (by rw [List.mem_singleton.1 hy]) h7
  | some j =>
    rw [e] at hy
    dsimp only at hy
    refine ⟨j, rfl, govF_lt e, ?_⟩
    rcases List.mem_append.1 hy with h | h
    · obtain ⟨r, hr, he⟩ := List.mem_filterMap.1 h
      obtain ⟨q1, q2, q3, q4, q5⟩ := rulV_prop r y he
      refine ⟨q3, .inr ⟨?_, r, hr, q1.symm, he⟩⟩
      have := brkP_le ts (nd ts k) r
      omega
    · obtain ⟨p, hp, he⟩ := List.mem_filterMap.1 h
      obtain ⟨q1, q2, q3, q4, q5⟩ := extV_prop p y he
      exact ⟨q3, .inl ⟨q4, p, hp, q1.symm, he⟩⟩
theorem Less.len {a b : List Vio} (h : Less y a b) : a.length = b.length + 1 := by
  obtain ⟨A, B, rfl, rfl⟩ := h
  simp
  omega
theorem Less.at {a b : List Vio} (h : Less y a b) : ∃ m : Nat, m < a.length ∧ a[m]? = some y ∧ (∀ i, i < m → b[i]? = a[i]?) ∧ (∀ i, m ≤ i → b[i]? = a[i + 1]?) := by
  obtain ⟨A, B, rfl, rfl⟩ := h
  refine ⟨A.length, by simp, by simp, fun i hi => ?_, fun i hi => ?_⟩
  · rw [List.getElem?_append_left hi, List.getElem?_append_left hi]
  · rw [List.getElem?_append_right hi, List.getElem?_append_right (by omega), show i + 1 - A.length = (i - A.length) + 1 by omega, List.getElem?_cons_succ]
end
end Go.Proofs.YtbpkndiecomggaaGreatDoor
