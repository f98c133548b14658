/- The contract of the reference's function loads. -/
import Derived.Test.YtoenkcojfogmmaaSupL
import Derived.Test.YtoenkcojfogmmaaSupU
set_option linter.unusedVariables false
set_option linter.unusedSimpArgs false
namespace Go.Proofs.Ytoenkcojfogmmaa
open Go.RowKit
open Classical

theorem row_start (w : World) (n : Nat) : Row (w.alloc (.cells (madeCells #[.int .i64 0] n) 3)) w.heap.size 3 (nums (List.replicate n 0)) := by
  have := Row.new w (madeCells #[.int .i64 0] n) 3
  rw [made_list] at this
  simpa [nums] using this

set_option maxRecDepth 100000 in
set_option maxHeartbeats 2000000 in
theorem refLoads_any (l : List Sup) (d : List Drw) (ao a1 : Option Addr) (cap c1 : Nat) (w : World) (h : SlOf 5 RSup w ao l) (hf : l.length ≤ 16) (hok : AllOk l) (h1 : SlOf 4 RDrw w a1 d) (f1 : d.length ≤ 32) (hd : ∀ k (h : k < d.length), 0 ≤ d[k].load ∧ d[k].load ≤ 10000) :
    Calls Try.prog 73 #[.slice ao l.length cap, .slice a1 d.length c1] w (GivesSl 1 RI w (loadsL l d)) := by
  have H := Lib.hid h
  have H1 := Lib.hid h1
  have OK := Lib.hid hok
  have HD := Lib.hid hd
  clear h h1 hok hd
  have hmk := run_make_row' (P := Try.prog) 22 3 (.int .i64 0) 8 Try.underlying22 infoInt rfl .i64 .i64 l.length (by omega) (by omega)
  go_enter Try.func73, Try.ntmps73
  go_wp2_with fail
  clear hmk
  go_loopw [6] (fun i wr => ∃ n : Nat, n ≤ l.length ∧ i = .int .i64 ((n : Int) - 1) ∧ Gr w wr ∧ ∃ vs, Row wr w.heap.size 3 (nums vs) ∧ LInv l d (fun _ => 0) n vs) (fun i _ => (intOf i + 1).toNat)
  case atStart => exact ⟨l.length, Nat.le_refl _, rfl, (Gr.refl _).alloc _, List.replicate l.length 0, row_start w l.length, LInv.start l d⟩
  case round =>
    obtain ⟨n, hn, rfl, hg, vs, hrow, hinv⟩ := hrel
    have HG := Lib.hid hg
    have HR := Lib.hid hrow
    have HI := Lib.hid hinv
    clear hg hrow hinv
    cases n with
    | zero =>
      go_wp2_with fail
      go_ret
      refine ⟨some ⟨w.heap.size, 0, none⟩, l.length, ?_, by rw [loadsL_len]; exact Nat.le_refl _, by rw [loadsL_len]; unfold Fit; omega, ?_, HG.out⟩
      · rw [loadsL_len]; rfl
      · rw [← HI.out.done]
        refine HR.out.slI fun k hk => ?_
        have e := (HI.out.2 k hk).1 (Nat.zero_le _)
        have b := ld_small l d HD.out f1 hf k (by have := HI.out.1; omega)
        rw [e]; unfold Wide; omega
    | succ i =>
      rw [show ((i + 1 : Nat) : Int) - 1 = (i : Int) by omega]
      have hvl : i < vs.length := by have := HI.out.1; omega
      obtain ⟨b, o, rfl, hsall⟩ := H.out.all (by omega)
      have HS := Lib.hid (hsall i hn)
      clear hsall
      have hi0 : (0 : Int) ≤ i := by omega
      have hib : (i : Int) < l.length := by omega
      have vi : vs[i] = up l d (i + 1) i := by have := (HI.out.2 i hvl).2 (by omega); simpa using this
      have ub := up_small l d HD.out f1 hf (i + 1) i
      rw [← vi] at ub
      have VI := Lib.hid vi
      clear vi
      have ub0 := ub.1
      have ub1 := ub.2
      clear ub
      obtain ⟨wo, rfl⟩ : ∃ wo : World, wo = wr := ⟨_, rfl⟩
      go_wp2_with fail
      go_loopw [22] (fun i' wr => ∃ m : Nat, m ≤ d.length ∧ i' = .int .i64 m ∧ Gr w wr ∧ Row wr w.heap.size 3 (nums (vs.set i (vs[i] + ownTo d i m)))) (fun i' _ => d.length - (intOf i').toNat)
      case atStart => exact ⟨0, Nat.zero_le _, rfl, HG.out, by simp [ownTo]; exact HR.out⟩
      case round =>
        clear HG HR
        obtain ⟨m, hm, rfl, hg, hrow⟩ := hrel
        have HG1 := Lib.hid hg
        have HR1 := Lib.hid hrow
        clear hg hrow
        have ow := ownTo_wide d HD.out i m
        obtain ⟨x, hx⟩ : ∃ x, vs[i] + ownTo d i m = x := ⟨_, rfl⟩
        have hvl' : i < (vs.set i x).length := by simpa using hvl
        have HX := Lib.hid hx
        rw [hx] at HR1
        have x0 : 0 ≤ x := by omega
        have x1 : x ≤ 20972000000 := by omega
        clear hx
        have s0 := HR1.out.iat i hvl'
        rw [List.getElem_set_self] at s0
        have s1 := HR1.out.free i
        have s2 := HR1.out.has
        by_cases hlt : m < d.length
        · obtain ⟨b', o', rfl, ⟨e0, _⟩, ⟨e1, _⟩, ⟨e2, _⟩, ⟨e3, _⟩⟩ := drws_gr H1.out HG1.out m hlt
          have hld := HD.out m hlt
          by_cases hs : d[m].supply = (i : Int)
          · have hsb : (d[m].supply == (i : Int)) = true := by simp [hs]
            have hN : x + d[m].load = vs[i] + ownTo d i (m + 1) := by
              have := HX.out
              simp only [ownTo, hlt, dif_pos, if_pos hs]; omega
            have HN := Lib.hid hN
            have l0 := hld.1
            have l1 := hld.2
            clear hs hN hld
            go_wp2_with fail
            go_region
            all_goals go_wp2_with fail
            all_goals go_roundw
            case rel =>
              refine ⟨m + 1, by omega, by go_num, ?_, ?_⟩
              · repeat (first | with_reducible exact HG1.out | with_reducible refine Gr.setCell (Nat.le_refl _) _ ?_ | with_reducible refine Gr.alloc _ ?_ | with_reducible refine Gr.drew ?_)
              · rw [← HN.out]
                have := (HR1.out.iset i (x + d[m].load))
                rw [List.set_set] at this
                exact this.gr (by repeat (first | with_reducible exact Gr.refl _ | with_reducible refine Gr.alloc _ ?_ | with_reducible refine Gr.drew ?_))
            case measure => simp [intOf]; omega
          · have hsb : (d[m].supply == (i : Int)) = false := by simp [hs]
            have hN : x = vs[i] + ownTo d i (m + 1) := by
              have := HX.out
              simp only [ownTo, hlt, dif_pos, if_neg hs]; omega
            have HN := Lib.hid hN
            clear hs hN hld
            go_wp2_with fail
            go_roundw
            case rel => exact ⟨m + 1, by omega, by go_num, HG1.out.alloc _, by rw [← HN.out]; exact HR1.out.gr ((Gr.refl _).alloc _)⟩
            case measure => simp [intOf]; omega
        · obtain ⟨⟨c0, c0w, c0x⟩, _⟩ := RSup.mono _ _ _ _ _ HG1.out HS.out
          have hxl : x = ld l d i := by
            have hm' : m = d.length := by omega
            rw [ld_eq l d i hn, ← HX.out, VI.out, hm']; unfold own; omega
          have HH : HeadOk l[i] i := by obtain ⟨_, q⟩ := OK.out i hn; exact q.1
          have p0 := HH.1
          have p1 := HH.2.1
          clear HH ow
          have XL := Lib.hid hxl
          clear hxl
          by_cases hp0 : 0 ≤ l[i].parent
          · obtain ⟨p, hpp⟩ := Int.eq_ofNat_of_zero_le hp0
            have PP := Lib.hid hpp
            rw [hpp] at c0 p1
            clear hpp hp0 p0 c0w c0x
            have hpv : p < vs.length := by have := HI.out.1; omega
            have hpl : p < (vs.set i x).length := by simpa using hpv
            have t0 := HR1.out.iat p hpl
            rw [List.getElem_set_ne (by omega)] at t0
            have t1 := HR1.out.free p
            have hpi : (p : Int) < l.length := by omega
            have vp : vs[p] = up l d (i + 1) p := by have := (HI.out.2 p hpv).2 (by omega); simpa using this
            have ub := up_small l d HD.out f1 hf (i + 1) p
            rw [← vp] at ub
            have ub2 := ub.1
            have ub3 := ub.2
            clear vp ub
            have hne : ¬ i = p := by omega
            go_wp2_with fail
            go_region
            all_goals go_wp2_with fail
            all_goals go_roundw
            case rel =>
              refine ⟨i, by omega, by go_num, ?_, (vs.set i x).set p (vs[p] + x), ?_, ?_⟩
              · repeat (first | with_reducible exact HG1.out | with_reducible refine Gr.setCell (Nat.le_refl _) _ ?_ | with_reducible refine Gr.alloc _ ?_ | with_reducible refine Gr.drew ?_)
              · exact (HR1.out.iset p _).gr (by repeat (first | with_reducible exact Gr.refl _ | with_reducible refine Gr.alloc _ ?_ | with_reducible refine Gr.drew ?_))
              · rw [XL.out]; exact HI.out.step1 hn p PP.out (by omega) hpv
            case measure => simp [intOf]
          · have hp' : l[i].parent < 0 := by omega
            have hN := Lib.hid (HI.out.step0 hn hp')
            go_wp2_with fail
            go_roundw
            case rel => exact ⟨i, by omega, by go_num, HG1.out, vs.set i x, HR1.out, by rw [XL.out]; exact hN.out⟩
            case measure => simp [intOf]
end Go.Proofs.Ytoenkcojfogmmaa
