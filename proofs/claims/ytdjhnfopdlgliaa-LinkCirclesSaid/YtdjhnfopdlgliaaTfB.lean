/- link.distances. -/
import Derived.Test.YtdjhnfopdlgliaaTfA
set_option linter.unusedVariables false
set_option linter.unusedSimpArgs false
namespace Go.Proofs.Ytdjhnfopdlgliaa
open Go.RowKit
open Classical

theorem ci_set (l : List Nat) (x n : Nat) : ci (l.set x n) = (ci l).set x (n : Int) := by simp [ci, List.map_set]
theorem ci_len (l : List Nat) : (ci l).length = l.length := by simp [ci]
theorem ci_rep (n : Nat) : ci (List.replicate n 0) = List.replicate n 0 := by simp [ci]
theorem row_ci {w : World} {B : Nat} {l : List Nat} (h : Row w B 3 (nums (ci l))) (k : Nat) (hk : k < l.length) : w.cell? ⟨B, k, none⟩ = some (.int .i64 (l.getD k 0 : Nat)) := by
  rw [h.iat k (by rw [ci_len]; exact hk), getD_lt hk]; simp [ci]
/-- The distances in a row of the call's own. -/
def GivesD (w : World) (l : List Nat) (e : Ending) (w' : World) : Prop :=
  ∃ DB, e = .returned (.slice (some ⟨DB, 0, none⟩) l.length l.length) ∧ Row w' DB 3 (nums (ci l)) ∧ w.heap.size ≤ DB ∧ Gr w w'
theorem passL_snoc (gs : List (List Int)) (tt m : Nat) (s : List Nat × Bool) : (List.range' tt (m + 1)).foldl (passX gs tt) s = passX gs tt ((List.range' tt m).foldl (passX gs tt) s) (tt + m) := by
  rw [List.range'_concat, List.foldl_append]; simp
theorem fold_snoc {tt x : Nat} (ys : List Int) (k : Nat) (h : k < ys.length) (s : List Nat × Bool) : (ys.take (k + 1)).foldl (relax tt x) s = relax tt x ((ys.take k).foldl (relax tt x) s) ys[k] := by
  rw [List.take_succ_eq_append_getElem h, List.foldl_append]; rfl
theorem relax_nat (tt x j : Nat) (s : List Nat × Bool) : relax tt x s (j : Int) =
    if 0 < (if j = tt then 1 else if tt < j ∧ 0 < s.1.getD j 0 then s.1.getD j 0 + 1 else 0) ∧ (s.1.getD x 0 = 0 ∨ (if j = tt then 1 else if tt < j ∧ 0 < s.1.getD j 0 then s.1.getD j 0 + 1 else 0) < s.1.getD x 0) then (s.1.set x (if j = tt then 1 else if tt < j ∧ 0 < s.1.getD j 0 then s.1.getD j 0 + 1 else 0), true) else s := by
  have e : stepV tt s.1 (j : Int) = if j = tt then 1 else if tt < j ∧ 0 < s.1.getD j 0 then s.1.getD j 0 + 1 else 0 := by
    unfold stepV
    by_cases h : j = tt
    · rw [if_pos h, if_pos (by rw [h])]
    · rw [if_neg h, if_neg (by omega), Int.toNat_natCast]
      by_cases h2 : tt < j ∧ 0 < s.1.getD j 0
      · rw [if_pos h2, if_pos ⟨by omega, h2.2⟩]
      · rw [if_neg h2, if_neg (fun q => h2 ⟨by omega, q.2⟩)]
  unfold relax
  rw [e]
set_option maxRecDepth 100000 in
set_option maxHeartbeats 8000000 in
theorem dist_any (gs : List (List Int)) (tt GB base : Nat) (vs : List Value) (w : World) (hga : GAt base w GB vs gs) (hin : InG gs.length gs) (hto : tt < gs.length) (hl : gs.length ≤ 120) (hr : ∀ g ∈ gs, g.length ≤ 7680) :
    Calls Try.prog 26 #[.slice (some ⟨GB, 0, none⟩) gs.length gs.length, .int .i64 tt] w (GivesD w (distT gs tt)) := by
  have GA := Lib.hid hga
  have IG := Lib.hid hin
  have RW := Lib.hid hr
  have hto2 : (tt : Int) < gs.length := by omega
  have hmk := run_make_row' (P := Try.prog) 38 3 (.int .i64 0) 8 Try.underlying38 infoInt rfl .i64 .i64 gs.length (by omega) (by omega)
  clear hga hin hr
  go_enter Try.func26, Try.ntmps26
  go_wp2_with fail
  have RD := Lib.hid (Row.new w (madeCells #[.int .i64 0] gs.length) 3)
  obtain ⟨W2, hW2⟩ : ∃ W : World, Hid (W = w.alloc (.cells (madeCells #[.int .i64 0] gs.length) 3)) := ⟨_, Lib.hid rfl⟩
  rw [← hW2.out, made_one, show List.replicate gs.length (Value.int .i64 0) = nums (ci (List.replicate gs.length 0)) by rw [ci_rep]; simp [nums]] at RD
  have G2 : Hid (Gr w W2) := Lib.hid (by rw [hW2.out]; exact (Gr.refl _).alloc _)
  obtain ⟨DB, hDB⟩ : ∃ N : Nat, Hid (w.heap.size = N) := ⟨_, Lib.hid rfl⟩
  have sb : Hid (w.heap.size ≤ DB) := Lib.hid (by rw [hDB.out]; exact Nat.le_refl _)
  rw [← hW2.out, hDB.out]
  rw [hDB.out] at RD
  clear hmk hW2
  go_loopg [6] ((gs.length + 1) * gs.length + 2) (fun g c wr => ∃ (out : List Nat) (b : Bool), c = .bool b ∧ out.length = gs.length ∧ Row wr DB 3 (nums (ci out)) ∧ Gr w wr ∧ (b = false → distT gs tt = out) ∧ (b = true → ∃ f, g = f + 1 ∧ DOk gs tt out ∧ ms gs.length out < f ∧ distT gs tt = distF gs tt f out))
  case atStart => exact ⟨List.replicate gs.length 0, true, rfl, by simp, RD.out, G2.out, fun q => absurd q (by decide), fun _ => ⟨(gs.length + 1) * gs.length + 1, rfl, DOk.start gs tt, distT_fuel gs tt, rfl⟩⟩
  case round =>
    clear RD G2
    obtain ⟨out, b, rfl, hol, hrow, hg, hfa, htr⟩ := hrel
    have OL := Lib.hid hol
    have RO := Lib.hid hrow
    have HG := Lib.hid hg
    clear hol hrow hg
    cases b with
    | false =>
      have FA := Lib.hid (hfa rfl)
      clear hfa htr
      go_wp2_with fail
      go_ret
      exact ⟨DB, by rw [FA.out, OL.out]; rfl, by rw [FA.out]; exact RO.out, sb.out, HG.out⟩
    | true =>
      obtain ⟨f, hgf, hok, hms, hdf⟩ := htr rfl
      obtain ⟨f', hf'⟩ : ∃ f', f = f' + 1 := ⟨f - 1, by omega⟩
      have GF := Lib.hid hgf
      have OK := Lib.hid hok
      have MS := Lib.hid hms
      have DF : Hid (distT gs tt = if (passD gs tt (out, false)).2 = true then distF gs tt f' (passD gs tt (out, false)).1 else (passD gs tt (out, false)).1) := Lib.hid (by rw [hdf, hf', distF])
      have FF := Lib.hid hf'
      clear hgf hok hms hdf hf' hfa htr
      go_wp2_with fail
      go_loopw [6, 7] (fun c x wr => ∃ m : Nat, tt + m ≤ gs.length ∧ x = .int .i64 ((tt + m : Nat) : Int) ∧ ∃ s : List Nat × Bool, Hid (s = (List.range' tt m).foldl (passX gs tt) (out, false)) ∧ c = .bool s.2 ∧ Row wr DB 3 (nums (ci s.1)) ∧ Gr w wr) (fun _ x _ => gs.length - (intOf x).toNat)
      case atStart => exact ⟨0, by omega, rfl, (out, false), Lib.hid rfl, rfl, RO.out, HG.out⟩
      case round =>
        obtain ⟨m, hm, rfl, s, HS, rfl, hrow, hg⟩ := hrel
        have RS := Lib.hid hrow
        have HG := Lib.hid hg
        clear hrow hg
        have SO : Hid (DLe gs tt (out, false) s) := Lib.hid (by rw [HS.out]; exact passL_ok _ _ (fun x hx => by have := List.mem_range'_1.1 hx; omega) OK.out)
        obtain ⟨x, hx⟩ : ∃ x, tt + m = x := ⟨_, rfl⟩
        rw [hx] at hm ⊢
        have HX := Lib.hid hx
        clear hx
        by_cases hlt : x < gs.length
        · have hlt2 : (x : Int) < gs.length := by omega
          obtain ⟨ra, rc, hvi, hro⟩ := GA.out.at hlt
          obtain ⟨g, hgk⟩ : ∃ g, g = gs[x] := ⟨_, rfl⟩
          have HGK := Lib.hid hgk
          rw [← hgk] at hvi hro
          have hgd : gs.getD x [] = g := by rw [List.getD_eq_getElem?_getD, List.getElem?_eq_getElem hlt]; exact hgk.symm
          have GD := Lib.hid hgd
          have hinn : ∀ y ∈ g, ∃ j : Nat, y = j ∧ j < gs.length := IG.out g (by rw [hgk]; exact List.getElem_mem hlt)
          have IN := Lib.hid hinn
          have hil : x < vs.length := (List.getElem?_eq_some_iff.1 hvi).1
          have gk0 : wr.cell? ⟨GB, x, none⟩ = some (.slice ra g.length rc) := by rw [(GA.out.gr HG.out).row.cell x hil]; exact congrArg some (List.getElem?_eq_some_iff.1 hvi).2
          have hh3 := has_of_cell gk0
          have hgw : ∀ z ∈ g, Wide z := fun z hz => by obtain ⟨j, rfl, hj⟩ := hinn z hz; unfold Wide; omega
          obtain ⟨ra', rc', e', _, hsl⟩ := ints_at hro hgw
          cases e'
          have hgl : g.length ≤ 7680 := RW.out g (by rw [hgk]; exact List.getElem_mem hlt)
          have SL := Lib.hid hsl
          clear hgk hgd hinn hvi hro hgw hsl hil
          go_wp2_with fail
          clear gk0 hh3
          go_loopw [6, 27] (fun c i wr => ∃ k : Nat, k ≤ g.length ∧ i = .int .i64 k ∧ ∃ s' : List Nat × Bool, Hid (s' = (g.take k).foldl (relax tt x) s) ∧ c = .bool s'.2 ∧ Row wr DB 3 (nums (ci s'.1)) ∧ Gr w wr) (fun _ i _ => g.length - (intOf i).toNat)
          case atStart => exact ⟨0, Nat.zero_le _, rfl, s, Lib.hid rfl, rfl, RS.out, HG.out⟩
          case round =>
            obtain ⟨k, hk, rfl, s', HS', rfl, hrow, hg⟩ := hrel
            have RS' := Lib.hid hrow
            have HG' := Lib.hid hg
            clear hrow hg
            by_cases hkl : k < g.length
            · have SO' : Hid (DLe gs tt s s') := Lib.hid (by rw [HS'.out]; exact fold_ok hlt _ s (fun y hy => by rw [GD.out]; exact List.mem_of_mem_take hy) SO.out.ok)
              obtain ⟨b, o, rfl, c0, _⟩ := (SL.out.giI HG'.out).one k hkl
              obtain ⟨j, hjk, hjl⟩ := IN.out g[k] (List.getElem_mem hkl)
              have KEY : Hid ((g.take (k + 1)).foldl (relax tt x) s = relax tt x s' (j : Int)) := Lib.hid (by rw [fold_snoc g k hkl, ← HS'.out, hjk])
              rw [hjk] at c0
              clear hjk
              have hl' : s'.1.length = gs.length := SO'.out.ok.len
              have cj := row_ci RS'.out j (by rw [hl']; exact hjl)
              have cx := row_ci RS'.out x (by rw [hl']; exact hlt)
              have mj := SO'.out.ok.max j
              have mx := SO'.out.ok.max x
              rw [relax_nat] at KEY
              obtain ⟨u, hu⟩ : ∃ u, s'.1.getD j 0 = u := ⟨_, rfl⟩
              obtain ⟨v, hv⟩ : ∃ v, s'.1.getD x 0 = v := ⟨_, rfl⟩
              rw [hu] at KEY cj mj
              rw [hv] at KEY cx mx
              have hh1 := has_of_cell c0
              have hh2 := has_of_cell cj
              have fr := RS'.out.free x
              have hjl2 : (j : Int) < gs.length := by omega
              clear hu hv hl'
              by_cases q1 : j = tt
              · subst q1
                rw [if_pos rfl] at KEY
                have e1 : ((j : Int) == (j : Int)) = true := by simp
                rcases Nat.lt_trichotomy v 1 with q2 | q2 | q2
                · obtain rfl : v = 0 := by omega
                  have KE : Hid ((g.take (k + 1)).foldl (relax j x) s = (s'.1.set x (1), true)) := Lib.hid (by rw [KEY.out]; first | rfl | (rw [if_pos (by omega)]))
                  clear KEY
                  go_wp2_with fail
                  exact ⟨⟨k + 1, by omega, by go_num, (s'.1.set x (1), true), Lib.hid KE.out.symm, rfl, by rw [ci_set]; exact RS'.out.iset x _, HG'.out.setc sb.out⟩, by simp [intOf]; omega⟩
                · subst q2
                  have KE : Hid ((g.take (k + 1)).foldl (relax j x) s = s') := Lib.hid (by rw [KEY.out]; first | rfl | (rw [if_neg (by omega)]))
                  clear KEY
                  go_wp2_with fail
                  exact ⟨⟨k + 1, by omega, by go_num, s', Lib.hid KE.out.symm, rfl, RS'.out, HG'.out⟩, by simp [intOf]; omega⟩
                · have e2 : ((v : Int) == 0) = false := by simp; omega
                  have e3 : (1 : Int) < v := by omega
                  have KE : Hid ((g.take (k + 1)).foldl (relax j x) s = (s'.1.set x (1), true)) := Lib.hid (by rw [KEY.out]; first | rfl | (rw [if_pos (by omega)]))
                  clear KEY
                  go_wp2_with fail
                  exact ⟨⟨k + 1, by omega, by go_num, (s'.1.set x (1), true), Lib.hid KE.out.symm, rfl, by rw [ci_set]; exact RS'.out.iset x _, HG'.out.setc sb.out⟩, by simp [intOf]; omega⟩
              · rw [if_neg q1] at KEY
                have e1 : ((j : Int) == (tt : Int)) = false := by simp; omega
                by_cases q2 : tt < j
                · have e2 : (tt : Int) < j := by omega
                  rcases Nat.eq_zero_or_pos u with q3 | q3
                  · subst q3
                    rw [show (if tt < j ∧ 0 < 0 then 0 + 1 else 0) = 0 from if_neg (by omega)] at KEY
                    have KE : Hid ((g.take (k + 1)).foldl (relax tt x) s = s') := Lib.hid (by rw [KEY.out]; first | rfl | (rw [if_neg (by omega)]))
                    clear KEY
                    go_wp2_with fail
                    exact ⟨⟨k + 1, by omega, by go_num, s', Lib.hid KE.out.symm, rfl, RS'.out, HG'.out⟩, by simp [intOf]; omega⟩
                  · have e3 : (0 : Int) < u := by omega
                    have e4 : (0 : Int) < (u : Int) + 1 := by omega
                    rw [show (if tt < j ∧ 0 < u then u + 1 else 0) = u + 1 from if_pos ⟨q2, q3⟩] at KEY
                    rcases Nat.eq_zero_or_pos v with q4 | q4
                    · subst q4
                      have KE : Hid ((g.take (k + 1)).foldl (relax tt x) s = (s'.1.set x (u + 1), true)) := Lib.hid (by rw [KEY.out]; first | rfl | (rw [if_pos (by omega)]))
                      clear KEY
                      go_wp2_with fail
                      exact ⟨⟨k + 1, by omega, by go_num, (s'.1.set x (u + 1), true), Lib.hid KE.out.symm, rfl, by rw [ci_set]; exact RS'.out.iset x _, HG'.out.setc sb.out⟩, by simp [intOf]; omega⟩
                    · have e5 : ((v : Int) == 0) = false := by simp; omega
                      by_cases q5 : u + 1 < v
                      · have e6 : (u : Int) + 1 < v := by omega
                        have KE : Hid ((g.take (k + 1)).foldl (relax tt x) s = (s'.1.set x (u + 1), true)) := Lib.hid (by rw [KEY.out]; first | rfl | (rw [if_pos (by omega)]))
                        clear KEY
                        go_wp2_with fail
                        exact ⟨⟨k + 1, by omega, by go_num, (s'.1.set x (u + 1), true), Lib.hid KE.out.symm, rfl, by rw [ci_set]; exact RS'.out.iset x _, HG'.out.setc sb.out⟩, by simp [intOf]; omega⟩
                      · have e6 : ¬ (u : Int) + 1 < v := by omega
                        have KE : Hid ((g.take (k + 1)).foldl (relax tt x) s = s') := Lib.hid (by rw [KEY.out]; first | rfl | (rw [if_neg (by omega)]))
                        clear KEY
                        go_wp2_with fail
                        exact ⟨⟨k + 1, by omega, by go_num, s', Lib.hid KE.out.symm, rfl, RS'.out, HG'.out⟩, by simp [intOf]; omega⟩
                · have e2 : ¬ (tt : Int) < j := by omega
                  rw [show (if tt < j ∧ 0 < u then u + 1 else 0) = 0 from if_neg (fun q => q2 q.1)] at KEY
                  have KE : Hid ((g.take (k + 1)).foldl (relax tt x) s = s') := Lib.hid (by rw [KEY.out]; first | rfl | (rw [if_neg (by omega)]))
                  clear KEY
                  go_wp2_with fail
                  exact ⟨⟨k + 1, by omega, by go_num, s', Lib.hid KE.out.symm, rfl, RS'.out, HG'.out⟩, by simp [intOf]; omega⟩
            · have hkk : k = g.length := by omega
              subst hkk
              have KE : Hid ((List.range' tt (m + 1)).foldl (passX gs tt) (out, false) = s') := Lib.hid (by rw [passL_snoc, ← HS.out, HX.out, HS'.out, List.take_length]; unfold passX; rw [GD.out])
              go_wp2_with fail
              exact ⟨⟨m + 1, by have := HX.out; omega, by congr 1; have := HX.out; omega, s', Lib.hid KE.out.symm, rfl, RS'.out, HG'.out⟩, by simp [intOf]; omega⟩
        · have hxx : x = gs.length := by omega
          have KE : Hid (passD gs tt (out, false) = s) := Lib.hid (by unfold passD; rw [HS.out]; congr 2; have := HX.out; omega)
          subst hxx
          go_wp2_with fail
          go_roundg f
          case measure => have := GF.out; omega
          case rel =>
            refine ⟨s.1, s.2, rfl, SO.out.ok.len, RS.out, HG.out, fun q => ?_, fun q => ⟨f', FF.out, SO.out.ok, ?_, ?_⟩⟩
            · rw [DF.out, KE.out, if_neg (by rw [q]; decide)]
            · rcases SO.out.ch with ⟨a, _⟩ | ⟨_, b⟩
              · rw [q] at a; cases a
              · have b' : ms gs.length s.1 < ms gs.length out := b
                have := MS.out
                have := FF.out
                omega
            · rw [DF.out, KE.out, if_pos q]
end Go.Proofs.Ytdjhnfopdlgliaa
