/- The contract of the reference's function used. -/
import Derived.Test.YtoenkcojfogmmaaSupB
import Derived.Test.YtoenkcojfogmmaaSupS
import Derived.Deep.DeepCutAuto
set_option linter.unusedVariables false
set_option linter.unusedSimpArgs false
namespace Go.Proofs.Ytoenkcojfogmmaa
open Go.RowKit
open Classical

theorem infoBool : (Try.prog.info? 4).map (fun i => (i.zero, i.size, i.bytes)) = some (some (.bool false), 1, 1) := by kernel_rfl
theorem infoInt : (Try.prog.info? 3).map (fun i => (i.zero, i.size, i.bytes)) = some (some (.int .i64 0), 1, 8) := by kernel_rfl
theorem made_list (z : Value) (n : Nat) : (madeCells #[z] n).toList = List.replicate n z := by
  apply List.ext_getElem
  · simp [madeCells]
  · intro i h1 h2
    simp [madeCells, Nat.mod_one]
def bools (vs : List Bool) : List Value := vs.map Value.bool
def nums (vs : List Int) : List Value := vs.map (Value.int .i64)
theorem bools_len (vs : List Bool) : (bools vs).length = vs.length := by simp [bools]
theorem nums_len (vs : List Int) : (nums vs).length = vs.length := by simp [nums]
theorem bools_set (vs : List Bool) (k : Nat) (b : Bool) : (bools vs).set k (.bool b) = bools (vs.set k b) := by simp [bools, List.map_set]
theorem nums_set (vs : List Int) (k : Nat) (b : Int) : (nums vs).set k (.int .i64 b) = nums (vs.set k b) := by simp [nums, List.map_set]
theorem Row.bat {w : World} {B T : Nat} {vs : List Bool} (h : Row w B T (bools vs)) (k : Nat) (hk : k < vs.length) : w.cell? ⟨B, k, none⟩ = some (.bool vs[k]) := by
  rw [h.cell k (by simpa [bools] using hk)]; simp [bools]
theorem Row.iat {w : World} {B T : Nat} {vs : List Int} (h : Row w B T (nums vs)) (k : Nat) (hk : k < vs.length) : w.cell? ⟨B, k, none⟩ = some (.int .i64 vs[k]) := by
  rw [h.cell k (by simpa [nums] using hk)]; simp [nums]
theorem Row.bset {w : World} {B T : Nat} {vs : List Bool} (h : Row w B T (bools vs)) (k : Nat) (b : Bool) : Row (w.setCell ⟨B, k, none⟩ (.bool b)) B T (bools (vs.set k b)) := by
  rw [← bools_set]; exact h.set k _
theorem Row.iset {w : World} {B T : Nat} {vs : List Int} (h : Row w B T (nums vs)) (k : Nat) (b : Int) : Row (w.setCell ⟨B, k, none⟩ (.int .i64 b)) B T (nums (vs.set k b)) := by
  rw [← nums_set]; exact h.set k _
theorem Row.slB {w : World} {B T : Nat} {vs : List Bool} (h : Row w B T (bools vs)) : SlOf 1 RB w (some ⟨B, 0, none⟩) vs := fun k hk => ⟨B, 0, rfl, by rw [Nat.mul_one, Nat.zero_add]; exact h.bat k hk⟩
theorem Row.slI {w : World} {B T : Nat} {vs : List Int} (h : Row w B T (nums vs)) (hw : ∀ k (hk : k < vs.length), Wide vs[k]) : SlOf 1 RI w (some ⟨B, 0, none⟩) vs := fun k hk => ⟨B, 0, rfl, by rw [Nat.mul_one, Nat.zero_add]; exact ⟨h.iat k hk, hw k hk⟩⟩

/-- What the rounds over the draws have found at supply i. -/
def Hit (d : List Drw) (i m : Nat) : Prop := ∃ k, k < m ∧ ∃ h : k < d.length, d[k].supply = (i : Int)
theorem hit_all (d : List Drw) (i : Nat) : Hit d i d.length ↔ ∃ x ∈ d, x.supply = (i : Int) := by
  constructor
  · rintro ⟨k, _, h, e⟩; exact ⟨d[k], List.getElem_mem h, e⟩
  · rintro ⟨x, hx, e⟩
    obtain ⟨k, h, rfl⟩ := List.getElem_of_mem hx
    exact ⟨k, h, h, e⟩
theorem hit_succ (d : List Drw) (i m : Nat) (h : m < d.length) : Hit d i (m + 1) ↔ Hit d i m ∨ d[m].supply = (i : Int) := by
  constructor
  · rintro ⟨k, h1, h2, e⟩
    by_cases q : k = m
    · subst q; exact .inr e
    · exact .inl ⟨k, by omega, h2, e⟩
  · rintro (⟨k, h1, h2, e⟩ | e)
    · exact ⟨k, by omega, h2, e⟩
    · exact ⟨m, by omega, h, e⟩

set_option maxRecDepth 100000 in
set_option maxHeartbeats 2000000 in
theorem refUsed_any (l : List Sup) (d : List Drw) (ao a1 : Option Addr) (cap c1 : Nat) (w : World) (h : SlOf 5 RSup w ao l) (hf : l.length ≤ 16) (hok : AllOk l) (h1 : SlOf 4 RDrw w a1 d) (f1 : d.length ≤ 32) :
    Calls Try.prog 58 #[.slice ao l.length cap, .slice a1 d.length c1] w (GivesSl 1 RB w (usedL l d)) := by
  have H := Lib.hid h
  have H1 := Lib.hid h1
  have OK := Lib.hid hok
  clear h h1 hok
  have hmk := run_make_row' (P := Try.prog) 29 4 (.bool false) 1 Try.underlying29 infoBool rfl .i64 .i64 l.length (by omega) (by omega)
  go_enter Try.func58, Try.ntmps58
  go_wp2_with fail
  clear hmk
  go_loopw [6] (fun i wr => ∃ n : Nat, n ≤ l.length ∧ i = .int .i64 ((n : Int) - 1) ∧ Gr w wr ∧ ∃ vs, Row wr w.heap.size 4 (bools vs) ∧ UInv l d (fun _ => False) n vs) (fun i _ => (intOf i + 1).toNat)
  case atStart =>
    refine ⟨l.length, Nat.le_refl _, rfl, (Gr.refl _).alloc _, List.replicate l.length false, ?_, UInv.start l d⟩
    have := Row.new w (madeCells #[.bool false] l.length) 4
    rw [made_list] at this
    simpa [bools] using this
  case round =>
    obtain ⟨n, hn, rfl, hg, vs, hrow, hinv⟩ := hrel
    have HG := Lib.hid hg
    have HR := Lib.hid hrow
    have HI := Lib.hid hinv
    clear hg hrow hinv
    cases n with
    | zero =>
      go_wp2_with fail
      go_ret
      refine ⟨some ⟨w.heap.size, 0, none⟩, l.length, ?_, by rw [usedL_len]; exact Nat.le_refl _, by rw [usedL_len]; unfold Fit; omega, ?_, HG.out⟩
      · rw [usedL_len]; rfl
      · rw [← HI.out.done]; exact HR.out.slB
    | succ i =>
      rw [show ((i + 1 : Nat) : Int) - 1 = (i : Int) by omega]
      have hvl : i < vs.length := by have := HI.out.1; omega
      obtain ⟨b, o, rfl, hsall⟩ := H.out.all (by omega)
      have HS := Lib.hid (hsall i hn)
      clear hsall
      obtain ⟨⟨c0, c0w, c0x⟩, ⟨al, cl, q1, q1l, q1f, cL⟩, ⟨c2, _⟩, ⟨c3, _⟩, c4⟩ := RSup.mono _ _ _ _ _ HG.out HS.out
      unfold RB at c4
      have r0 := HR.out.bat i hvl
      have r1 := HR.out.free i
      have r2 := HR.out.has
      have hi0 : (0 : Int) ≤ i := by omega
      have hib : (i : Int) < l.length := by omega
      obtain ⟨wo, rfl⟩ : ∃ wo : World, wo = wr := ⟨_, rfl⟩
      go_upto_region 5 with fail
      go_cut [] (fun wx => wx = wo.setCell ⟨w.heap.size, i, none⟩ (.bool (vs[i] || l[i].always)))
      case first =>
        cases hvi : vs[i] with
        | true =>
          rw [hvi] at r0
          go_wp2_with fail
          go_meet
          first | rfl | simp [hvi]
        | false =>
          rw [hvi] at r0
          go_wp2_with fail
          go_meet
          first | rfl | simp [hvi]
      case rest =>
        have hg1 : Gr w wc := by rw [hcut]; exact HG.out.setCell (Nat.le_refl _) _
        have hr1 := HR.out.bset i (vs[i] || l[i].always)
        rw [← hcut] at hr1
        have HG1 := Lib.hid hg1
        have HR1 := Lib.hid hr1
        clear hg1 hr1 hcut r0 r1 r2 c0 c2 c3 c4 q1
        go_wp2_with fail
        go_loopw [36] (fun i' wr => ∃ m : Nat, m ≤ d.length ∧ i' = .int .i64 m ∧ Gr w wr ∧ ∃ bb : Bool, Row wr w.heap.size 4 (bools (vs.set i bb)) ∧ (bb = true ↔ (vs[i] || l[i].always) = true ∨ Hit d i m)) (fun i' _ => d.length - (intOf i').toNat)
        case atStart => exact ⟨0, Nat.zero_le _, rfl, HG1.out, _, HR1.out, ⟨fun h => .inl h, fun h => h.elim id (fun ⟨k, hk, _⟩ => by omega)⟩⟩
        case round =>
          clear HG1 HR1
          obtain ⟨m, hm, rfl, hg, bb, hrow, hbb⟩ := hrel
          have HG1 := Lib.hid hg
          have HR1 := Lib.hid hrow
          have HB := Lib.hid hbb
          clear hg hrow hbb
          have hvl' : i < (vs.set i bb).length := by simpa using hvl
          have s0 := HR1.out.bat i hvl'
          rw [List.getElem_set_self] at s0
          have s1 := HR1.out.free i
          have s2 := HR1.out.has
          by_cases hlt : m < d.length
          · obtain ⟨b', o', rfl, ⟨e0, _⟩, ⟨e1, _⟩, ⟨e2, _⟩, ⟨e3, _⟩⟩ := drws_gr H1.out HG1.out m hlt
            have fin : ∀ b2 : Bool, (b2 = true ↔ bb = true ∨ d[m].supply = (i : Int)) → ∀ W : World, Gr w W → Row W w.heap.size 4 (bools ((vs.set i bb).set i b2)) → ∃ bb : Bool, Row W w.heap.size 4 (bools (vs.set i bb)) ∧ (bb = true ↔ (vs[i] || l[i].always) = true ∨ Hit d i (m + 1)) := fun b2 hb2 W _ hr => by
              refine ⟨b2, by simpa using hr, ?_⟩
              rw [hb2, HB.out, hit_succ d i m hlt, or_assoc]
            have FIN := Lib.hid fin
            clear fin
            have hif : (i : Int) < 16 := by omega
            cases bb with
            | true =>
              go_wp2_with fail
              go_roundw
              case rel => exact ⟨m + 1, by omega, by go_num, (HG1.out.setCell (Nat.le_refl _) _).alloc _, FIN.out true (by simp) _ ((HG1.out.setCell (Nat.le_refl _) _).alloc _) ((HR1.out.bset i true).gr ((Gr.refl _).alloc _))⟩
              case measure => simp [intOf]; omega
            | false =>
              go_wp2_with fail
              go_roundw
              case rel => exact ⟨m + 1, by omega, by go_num, (HG1.out.setCell (Nat.le_refl _) _).alloc _, FIN.out (d[m].supply == (i : Int)) (by simp) _ ((HG1.out.setCell (Nat.le_refl _) _).alloc _) ((HR1.out.bset i _).gr ((Gr.refl _).alloc _))⟩
              case measure => simp [intOf]; omega
          · obtain ⟨⟨c0, c0w, c0x⟩, _⟩ := RSup.mono _ _ _ _ _ HG1.out HS.out
            have hU : bb = true ↔ Used l d i := by
              have hm' : m = d.length := by omega
              rw [HB.out, hm', hit_all, used_here hn]
              have := (HI.out.2 i hvl).2 (by omega)
              simp only [false_or] at this
              simp only [Bool.or_eq_true, this]
              constructor
              · rintro ((q | q) | q)
                · exact .inr (.inr q)
                · exact .inl q
                · exact .inr (.inl q)
              · rintro (q | q | q)
                · exact .inl (.inr q)
                · exact .inr q
                · exact .inl (.inl q)
            have HU := Lib.hid hU
            clear hU
            have HH : HeadOk l[i] i := by obtain ⟨_, q⟩ := OK.out i hn; exact q.1
            have p0 := HH.1
            have p1 := HH.2.1
            clear HH
            by_cases hp : bb = true ∧ 0 ≤ l[i].parent
            · obtain ⟨rfl, hp0⟩ := hp
              obtain ⟨p, hpp⟩ := Int.eq_ofNat_of_zero_le hp0
              have PP := Lib.hid hpp
              rw [hpp] at c0 p1
              clear hpp hp0 p0 c0w c0x
              have hpl : p < (vs.set i true).length := by simp; omega
              have t0 := HR1.out.bat p hpl
              have t1 := HR1.out.free p
              have hpi : (p : Int) < l.length := by omega
              go_wp2_with fail
              go_roundw
              case rel => exact ⟨i, by omega, by go_num, HG1.out.setCell (Nat.le_refl _) _, _, HR1.out.bset p true, HI.out.step1 hn true HU.out rfl p PP.out (by omega)⟩
              case measure => simp [intOf]
            · have hN := Lib.hid (HI.out.step0 hn bb HU.out hp)
              cases bb with
              | true =>
                have hp' : l[i].parent < 0 := by simp at hp; exact hp
                go_wp2_with fail
                go_roundw
                case rel => exact ⟨i, by omega, by go_num, HG1.out, _, HR1.out, hN.out⟩
                case measure => simp [intOf]
              | false =>
                go_wp2_with fail
                go_roundw
                case rel => exact ⟨i, by omega, by go_num, HG1.out, _, HR1.out, hN.out⟩
                case measure => simp [intOf]
end Go.Proofs.Ytoenkcojfogmmaa
