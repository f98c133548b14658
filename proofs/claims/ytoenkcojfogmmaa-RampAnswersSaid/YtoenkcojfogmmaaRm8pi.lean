/- Lemmas and contracts for the proof of RampAnswers (several texts in one, printed by wip/tools/pack.py): RqN. -/
import Derived.Test.YtoenkcojfogmmaaRm8ph
import Derived.Test.YtoenkcojfogmmaaRm8pe
set_option maxRecDepth 100000
set_option maxHeartbeats 16000000
set_option linter.unusedVariables false
set_option linter.unusedSimpArgs false
namespace Go.Proofs.Ytoenkcojfogmmaa
open Go.RowKit
open Classical
def GivesWsO (w : World) (ps : List Wri) (x : Int) (e : Ending) (w' : World) : Prop :=
  ∃ (ao : Option Addr) (cap : Nat), e = .returned (.tuple #[.slice ao ps.length cap, .int .i64 x]) ∧ w'.ownsRow w.heap.size 46 3 (.slice ao ps.length cap) ps.length (encWs ps) ∧ (∀ p ∈ ps, WWide p) ∧ Gr w w'
theorem givesWsO_no {w w' : World} {ps : List Wri} {x y : Int} (hx : y = x) (hp : ps = []) (hg : Gr w w') : GivesWsO w ps y (.returned (.tuple #[.slice none 0 0, .int .i64 x])) w' := by
  subst hp hx
  exact ⟨none, 0, rfl, World.ownsRow_nil _ _ _ _, fun p hp => by simp at hp, hg⟩
theorem planP_no {l : List Sup} {a b : Rls} {d : List Drw} (h : planE l a b d ≠ 0) : planP l a b d = [] := by unfold planP; rw [if_neg h]
theorem infoWr2 : (Try.prog.info? 46).map (fun i => (i.zero, i.size, i.bytes)) = some (some (.agg #[.int .i64 0, .int .i64 0, .int .i64 0]), 3, 24) := by kernel_rfl
theorem owns_lowZ {w : World} {base base' e size n : Nat} {v : Value} {xs : List Value} (h : w.ownsRow base e size v n xs) (hb : base' ≤ base) : w.ownsRow base' e size v n xs := by
  refine ⟨h.1, ?_⟩
  rcases h.2 with r | ⟨g, cap, cur, e, h1, h2⟩
  · exact .inl r
  · exact .inr ⟨g, cap, cur, e, Nat.le_trans hb h1, h2⟩
theorem encWs_one (ps : List Wri) (p : Wri) : encWs (ps ++ [p]) = encWs ps ++ [.int .i64 p.kind, .int .i64 p.unit, .int .i64 p.value] := by simp [encWs, encWZ]
theorem wLevel_eq {s : Rls × List Wri} {k : Nat} {x : Int} (hk : k < s.1.level.length) (h : lvAt s.1 k = x) : wLevel s k x = s := by
  obtain ⟨⟨o, v⟩, ps⟩ := s
  simp only [wLevel]
  simp only at hk
  have e : v[k] = x := by rw [← h]; exact (lvAt_eq (r := ⟨o, v⟩) hk).symm
  rw [if_pos h, set_same v k hk x e]
theorem wSupply_eq {s : Rls × List Wri} {k : Nat} {x : Bool} (hk : k < s.1.on.length) (h : onAt s.1 k = x) : wSupply s k x = s := by
  obtain ⟨⟨o, v⟩, ps⟩ := s
  simp only [wSupply]
  simp only at hk
  have e : o[k] = x := by rw [← h]; exact (onAt_eq (r := ⟨o, v⟩) hk).symm
  rw [if_pos h, set_same o k hk x e]
theorem upTo_lens (J : Rls) (s : Rls × List Wri) (k : Nat) : (upTo J s k).1.on.length = s.1.on.length ∧ (upTo J s k).1.level.length = s.1.level.length := by
  induction k with
  | zero => exact ⟨rfl, rfl⟩
  | succ k ih =>
    unfold upTo
    split
    · simp only [wSupply, wLevel, List.length_set]; exact ih
    · exact ih
theorem refBigPlan_any (l : List Sup) (a b : Rls) (d : List Drw) (ao a1 a2 a3 a4 a5 : Option Addr) (cap c1 c2 c3 c4 c5 : Nat) (w : World) (h : SlOf 5 RSup w ao l) (hf : Fit l.length) (h1 : SlOf 1 RB w a1 a.on) (h2 : SlOf 1 RI w a2 a.level) (h3 : SlOf 1 RB w a3 b.on) (h4 : SlOf 1 RI w a4 b.level) (h5 : SlOf 4 RDrw w a5 d)
    (f1 : Fit a.on.length) (f2 : Fit a.level.length) (f3 : Fit b.on.length) (f4 : Fit b.level.length) (f5 : Fit d.length) :
    Calls Try.prog 26 #[.slice ao l.length cap, .agg #[.slice a1 a.on.length c1, .slice a2 a.level.length c2], .agg #[.slice a3 b.on.length c3, .slice a4 b.level.length c4], .slice a5 d.length c5] w (GivesWsO w (planP l a b d) (planE l a b d)) := by
  have H3 := Lib.hid h3
  have H4 := Lib.hid h4
  have CH := Lib.hid (fun W (hW : Gr w W) => refCheck_anyZ l ao cap W (sups_gr h hW) hf)
  have R1 := Lib.hid (fun W (hW : Gr w W) => refRails_any l a ao a1 a2 cap c1 c2 W (sups_gr h hW) hf (h1.giB hW) (h2.giI hW) f1 f2)
  have R2 := Lib.hid (fun W (hW : Gr w W) => refRails_any l b ao a3 a4 cap c3 c4 W (sups_gr h hW) hf (h3.giB hW) (h4.giI hW) f3 f4)
  have DR := Lib.hid (fun W (hW : Gr w W) => refDraws_any l d ao a5 cap c5 W (sups_gr h hW) hf (drws_gr h5 hW) f5)
  have M1 := Lib.hid (fun W (hW : Gr w W) => refMeets_any l a d ao a1 a2 a5 cap c1 c2 c5 W (sups_gr h hW) hf (h1.giB hW) (h2.giI hW) (drws_gr h5 hW) f1 f2 f5)
  have M2 := Lib.hid (fun W (hW : Gr w W) => refMeets_any l b d ao a3 a4 a5 cap c3 c4 c5 W (sups_gr h hW) hf (h3.giB hW) (h4.giI hW) (drws_gr h5 hW) f3 f4 f5)
  have JN := Lib.hid (fun (ra : RlsOk l a) (rb : RlsOk l b) W (hW : Gr w W) => refJoin_any a b l.length a1 a2 a3 a4 c1 c2 c3 c4 W (h1.giB hW) (h2.giI hW) (h3.giB hW) (h4.giI hW) ra.2.1 ra.2.2.1 rb.2.1 rb.2.2.1 (rls_fit' ra))
  have CP := Lib.hid (fun (ra : RlsOk l a) W (hW : Gr w W) => refCopiedG_any a a1 a2 c1 c2 W (h1.giB hW) (h2.giI hW) (by rw [ra.2.1, ra.2.2.1]) (by rw [ra.2.1]; have := rls_fit' ra; omega))
  have cw := chk_wide l
  obtain ⟨W0, hW0⟩ : ∃ W0 : World, Hid (W0 = (w.alloc (.cells #[.slice a1 a.on.length c1, .slice a2 a.level.length c2] 31)).alloc (.cells #[.slice a3 b.on.length c3, .slice a4 b.level.length c4] 31)) := ⟨_, Lib.hid rfl⟩
  have G0 : Hid (Gr w W0) := Lib.hid (by rw [hW0.out]; exact ((Gr.refl _).alloc _).alloc _)
  have s1 : (w.alloc (.cells #[.slice a1 a.on.length c1, .slice a2 a.level.length c2] 31)).heap.size = w.heap.size + 1 := by simp
  obtain ⟨N, hN⟩ : ∃ N : Nat, Hid (w.heap.size = N) := ⟨_, Lib.hid rfl⟩
  have RA : Hid (Row W0 N 31 [.slice a1 a.on.length c1, .slice a2 a.level.length c2]) := Lib.hid (by rw [hW0.out, ← hN.out]; exact (Row.new _ _ _).alloc _)
  have RBx : Hid (Row W0 (N + 1) 31 [.slice a3 b.on.length c3, .slice a4 b.level.length c4]) := Lib.hid (by rw [hW0.out, ← hN.out, ← s1]; exact Row.new _ _ _)
  have PN := Lib.hid (fun (q : planE l a b d ≠ 0) => planP_no q)
  clear h h1 h2 h3 h4 h5 f1 f2 f3 f4 f5 s1
  by_cases hc : chk l = 0
  · have HB := Lib.hid (begR_two (a := a) (b := b) hc)
    rw [hc] at CH
    go_enter Try.func26, Try.ntmps26
    go_wp2_with fail
    rw [← hW0.out, hN.out]
    refine (CH.out W0 G0.out).mono ?_
    rintro e w1 ⟨rfl, hg1⟩
    have G1 := Lib.hid (G0.out.trans hg1)
    have Q1 := Lib.hid hg1
    obtain ⟨e0, e1, eh0⟩ := pairZ (RA.out.gr Q1.out)
    clear hg1 hW0 CH G0
    by_cases ha : RlsOk l a
    · have Hha := Lib.hid ha
      rw [decide_eq_true ha] at R1
      clear ha
      go_wp2_with fail
      refine (R1.out w1 G1.out).mono ?_
      rintro e w2 ⟨rfl, hg⟩
      have G2 := Lib.hid (G1.out.trans hg)
      have Q2 := Lib.hid (Q1.out.trans hg)
      clear hg
      clear e0 e1 eh0
      obtain ⟨e0, e1, eh0⟩ := pairZ (RBx.out.gr Q2.out)
      by_cases hb : RlsOk l b
      · have Hhb := Lib.hid hb
        rw [decide_eq_true hb] at R2
        clear hb
        go_wp2_with fail
        refine (R2.out w2 G2.out).mono ?_
        rintro e w3 ⟨rfl, hg⟩
        have G3 := Lib.hid (G2.out.trans hg)
        have Q3 := Lib.hid (Q2.out.trans hg)
        clear hg
        have BZ : Hid (begR l [a, b] = 0) := Lib.hid (by rw [HB.out, if_pos ⟨Hha.out, Hhb.out⟩])
        clear e0 e1 eh0
        by_cases hd : DrwsOk l d
        · have Hhd := Lib.hid hd
          rw [decide_eq_true hd] at DR
          clear hd
          go_wp2_with fail
          refine (DR.out w3 G3.out).mono ?_
          rintro e w4 ⟨rfl, hg⟩
          have G4 := Lib.hid (G3.out.trans hg)
          have Q4 := Lib.hid (Q3.out.trans hg)
          clear hg
          obtain ⟨e0, e1, eh0⟩ := pairZ (RA.out.gr Q4.out)
          by_cases hma : MeetsAll l a d
          · have Hhma := Lib.hid hma
            rw [decide_eq_true hma] at M1
            clear hma
            go_wp2_with fail
            refine (M1.out w4 G4.out).mono ?_
            rintro e w5 ⟨rfl, hg⟩
            have G5 := Lib.hid (G4.out.trans hg)
            have Q5 := Lib.hid (Q4.out.trans hg)
            clear hg
            clear e0 e1 eh0
            obtain ⟨e0, e1, eh0⟩ := pairZ (RBx.out.gr Q5.out)
            by_cases hmb : MeetsAll l b d
            · have Hhmb := Lib.hid hmb
              rw [decide_eq_true hmb] at M2
              clear hmb
              go_wp2_with fail
              refine (M2.out w5 G5.out).mono ?_
              rintro e w6 ⟨rfl, hg⟩
              have G6 := Lib.hid (G5.out.trans hg)
              have Q6 := Lib.hid (Q5.out.trans hg)
              clear hg
              have PE : Hid (planE l a b d = 0) := Lib.hid (by unfold planE; rw [BZ.out, if_pos rfl, if_pos Hhd.out, if_pos ⟨Hhma.out, Hhmb.out⟩])
              have PP : Hid (planP l a b d = planL l.length a b) := Lib.hid (by unfold planP; rw [if_pos PE.out])
              have PW := Lib.hid (planL_wide (n := l.length) Hha.out Hhb.out (by have := rls_fit' Hha.out; omega))
              have n16 := rls_fit' Hha.out
              have L1 := Lib.hid Hha.out.2.1
              have L2 := Lib.hid Hha.out.2.2.1
              have L3 := Lib.hid Hhb.out.2.1
              have L4 := Lib.hid Hhb.out.2.2.1
              have JW := Lib.hid (join_wide (rls_wide Hha.out) (rls_wide Hhb.out))
              have BWd := Lib.hid (rls_wide Hhb.out)
              have JN' := Lib.hid (fun W (hW : Gr w6 W) => JN.out Hha.out Hhb.out W (G6.out.trans hW))
              have CP' := Lib.hid (fun W (hW : Gr w6 W) => CP.out Hha.out W (G6.out.trans hW))
              have RA6 := Lib.hid (RA.out.gr Q6.out)
              have RB6 := Lib.hid (RBx.out.gr Q6.out)
              obtain ⟨n, hn⟩ : ∃ n, l.length = n := ⟨_, rfl⟩
              rw [L1.out, L2.out, L3.out, L4.out] at JN'
              rw [L1.out, L2.out] at CP' RA6
              rw [L3.out, L4.out] at RB6
              rw [PP.out, PE.out]
              rw [hn] at JN' CP' RA6 RB6 L1 L2 L3 L4 n16 PP PW
              rw [hn]
              clear e0 e1 eh0 JN CP RA RBx PN R1 R2 DR M1 M2 HB BZ Hhd Hhma Hhmb Hha Hhb
              go_upto_region 8 with fail
              refine rqn8 (NA := N) (NB := N + 1) RA6.out RB6.out JN'.out CP'.out L1.out L2.out L3.out L4.out ?_
              intro t11 t12 t49 t50 t51 t52 t53 w7 hg7 hJ hC hD hF1 hF2 hne hB1 hB2
              simp only [rqn8A]
              obtain ⟨x1, k1, x2, k2, rfl, hk1, hk2, o1, o2⟩ := hJ
              obtain ⟨x3, k3, x4, k4, rfl, hk3, hk4, o3, o4⟩ := hC
              obtain ⟨BJ, rfl, rj⟩ := hF1
              obtain ⟨BA, rfl, ra⟩ := hF2
              have NE : Hid (BA ≠ BJ) := Lib.hid (fun e => hne (by rw [e]))
              have BL : Hid (w.heap.size ≤ BA ∧ w.heap.size ≤ BJ) := Lib.hid (by
                obtain ⟨B, e, h1, _⟩ := hB1
                obtain ⟨B', e', h2, _⟩ := hB2
                cases e; cases e'
                have := G6.out.size
                omega)
              have DJ0 := Lib.hid hD
              have RJ0 : Hid (Row w7 BJ 31 [.slice x1 n k1, .slice x2 n k2]) := Lib.hid rj
              have RT0 : Hid (Row w7 BA 31 [.slice x3 n k3, .slice x4 n k4]) := Lib.hid ra
              obtain ⟨J, hJ⟩ : ∃ J, joinR a b = J := ⟨_, rfl⟩
              have LJ : Hid (J.on.length = n ∧ J.level.length = n) := Lib.hid (by rw [← hJ, joinR_on_len, joinR_lv_len]; exact ⟨L3.out, L4.out⟩)
              rw [hJ] at o1 o2 JW
              have PL : Hid (planL n a b = (downTo b n (upTo J (a, []) n) n).2) := Lib.hid (by rw [← hJ]; rfl)
              have O1 := Lib.hid o1
              have O2 := Lib.hid o2
              have O3 := Lib.hid o3
              have O4 := Lib.hid o4
              have G7 := Lib.hid (G6.out.trans hg7)
              have G67 := Lib.hid hg7
              have UL := Lib.hid (fun k => upTo_lens J (a, []) k)
              have SZ : Hid (w.heap.size ≤ w6.heap.size) := Lib.hid G6.out.size
              have HBR := Lib.hid (fun W (hW : Gr w6 W) => RB6.out.gr hW)
              obtain ⟨i0, hi, hz0, hz1, hz2⟩ := info_parts infoWr2
              clear hg7 hD hne hB1 hB2 rj ra o1 o2 o3 o4 hJ JN' CP' RA6 hk1 hk2 hk3 hk4
              go_wp2_with fail
              go_loopw [13, 56] (fun s13 s56 wr => ∃ (k : Nat) (ax : Option Addr) (cx : Nat), k ≤ n ∧ s56 = .int .i64 (k : Int) ∧ s13 = .slice ax (upTo J (a, []) k).2.length cx ∧ wr.ownsRow w6.heap.size 46 3 (.slice ax (upTo J (a, []) k).2.length cx) (upTo J (a, []) k).2.length (encWs (upTo J (a, []) k).2) ∧ Row wr BJ 31 [.slice x1 n k1, .slice x2 n k2] ∧ Row wr BA 31 [.slice x3 n k3, .slice x4 n k4] ∧ Own1 w6.heap.size wr 4 (bools J.on) x1 ∧ Own1 w6.heap.size wr 3 (nums J.level) x2 ∧ Own1 w6.heap.size wr 4 (bools (upTo J (a, []) k).1.on) x3 ∧ Own1 w6.heap.size wr 3 (nums (upTo J (a, []) k).1.level) x4 ∧ Gr w wr ∧ Gr w6 wr) (fun _ s56 _ => n - (intOf s56).toNat)
              case atStart => exact ⟨0, none, 0, Nat.zero_le _, rfl, rfl, World.ownsRow_nil _ _ _ _, RJ0.out, RT0.out, O1.out, O2.out, O3.out, O4.out, G7.out, G67.out⟩
              case round =>
                clear RJ0 RT0 O1 O2 O3 O4 G7 G67
                obtain ⟨k, ax, cx, hk, rfl, rfl, ho, hrj, hrt, p1, p2, p3, p4, hg, hg6⟩ := hrel
                by_cases hlt : k < n
                · obtain ⟨S, hS⟩ : ∃ S, upTo J (a, []) k = S := ⟨_, rfl⟩
                  have HS := Lib.hid hS
                  have ul := UL.out k
                  rw [hS] at ul ho p3 p4 ⊢
                  have LS : Hid (S.1.on.length = n ∧ S.1.level.length = n) := Lib.hid (by rw [ul.1, ul.2]; exact ⟨L1.out, L2.out⟩)
                  have LN : S.2.length ≤ 32 := by have := upTo_len J (a, []) k; rw [hS] at this; simp at this; omega
                  obtain ⟨J1, rfl, hJ1, q1⟩ := p1.at (by simp [bools]; have := LJ.out.1; omega)
                  obtain ⟨J2, rfl, hJ2, q2⟩ := p2.at (by simp [nums]; have := LJ.out.2; omega)
                  obtain ⟨A1, rfl, hA1, q3⟩ := p3.at (by simp [bools]; have := LS.out.1; omega)
                  obtain ⟨A2, rfl, hA2, q4⟩ := p4.at (by simp [nums]; have := LS.out.2; omega)
                  have dj := DJ0.out (by omega)
                  have NJ : Hid (J1 ≠ A1 ∧ J2 ≠ A2) := Lib.hid ⟨fun e => (dj A1).1 (by rw [← e]; rfl) rfl, fun e => (dj A2).2 (by rw [← e]; rfl) rfl⟩
                  have Owr := Lib.hid ho
                  have Rjwr := Lib.hid hrj
                  have Rtwr := Lib.hid hrt
                  have P1wr := Lib.hid q1
                  have P2wr := Lib.hid q2
                  have P3wr := Lib.hid q3
                  have P4wr := Lib.hid q4
                  have Gwr := Lib.hid hg
                  have Hwr := Lib.hid hg6
                  have gk : (k : Int) < n := by omega
                  have j1 : k < J.on.length := by have := LJ.out.1; omega
                  have j2 : k < J.level.length := by have := LJ.out.2; omega
                  have s1' : k < S.1.on.length := by have := LS.out.1; omega
                  have s2' : k < S.1.level.length := by have := LS.out.2; omega
                  have UPS : Hid (upTo J (a, []) (k + 1) = if onAt J k = true then wSupply (wLevel S k (lvAt J k)) k true else S) := Lib.hid (by rw [← HS.out]; rfl)
                  have NB := Lib.hid hn
                  clear ho hrj hrt q1 q2 q3 q4 hg hg6 p1 p2 p3 p4 dj ul hS
                  by_cases hJk : onAt J k = true
                  · have HJ := Lib.hid hJk
                    obtain ⟨e0, e1, eh0⟩ := pairZ Rjwr.out
                    obtain ⟨e2, e3, eh1⟩ := pairZ Rtwr.out
                    have y1 := P1wr.out.bat k j1
                    have y2 := P2wr.out.iat k j2
                    rw [← onAt_eq j1] at y1
                    rw [← lvAt_eq j2] at y2
                    have h1 := P1wr.out.has
                    have h2 := P2wr.out.has
                    have h3 := P3wr.out.has
                    have h4 := P4wr.out.has
                    have y4 := P4wr.out.iat k (by simpa using s2')
                    have v4 : (S.1.level)[k]'(by simpa using s2') = lvAt S.1 k := by
                      first | exact (lvAt_eq s2').symm | simp [lvAt_eq s2']
                    rw [v4] at y4
                    have z4 := P4wr.out.free k
                    rw [hJk] at y1
                    clear hJk v4
                    by_cases hq : lvAt S.1 k = lvAt J k
                    · have HQ := Lib.hid hq
                      have lb : (lvAt S.1 k != lvAt J k) = false := by simp [hq]
                      clear hq
                      go_wp2_with fail
                      refine wp_region_grows (by kernel_rfl) (by kernel_rfl) ?_
                      repeat (go_big_quiet_step (fail))
                      refine wpQuiet_nil ?_
                      rintro _ ⟨⟨O, d⟩, rfl⟩
                      obtain ⟨E, hE⟩ : ∃ W : World, Hid (W = xt wr O d) := ⟨_, Lib.hid rfl⟩
                      show Exit.then _ _ _ _ (xt wr O d)
                      rw [← hE.out]
                      have ggE : Hid (Gr wr E) := Lib.hid (by rw [hE.out]; exact (Gr.refl _).xt O d)
                      have OE := Lib.hid (Gr.owns Owr.out ggE.out)
                      have RjE := Lib.hid (Rjwr.out.gr ggE.out)
                      have RtE := Lib.hid (Rtwr.out.gr ggE.out)
                      have P1E := Lib.hid (P1wr.out.gr ggE.out)
                      have P2E := Lib.hid (P2wr.out.gr ggE.out)
                      have P3E := Lib.hid (P3wr.out.gr ggE.out)
                      have P4E := Lib.hid (P4wr.out.gr ggE.out)
                      have GE := Lib.hid (Gwr.out.trans ggE.out)
                      have HE := Lib.hid (Hwr.out.trans ggE.out)
                      clear hE
                      clear e0 e1 eh0 e2 e3 eh1 y1 y2 h1 h2 h3 h4 y4 z4
                      obtain ⟨e0, e1, eh0⟩ := pairZ RjE.out
                      obtain ⟨e2, e3, eh1⟩ := pairZ RtE.out
                      have y1 := P1E.out.bat k j1
                      have y2 := P2E.out.iat k j2
                      rw [← onAt_eq j1] at y1
                      rw [← lvAt_eq j2] at y2
                      have h1 := P1E.out.has
                      have h2 := P2E.out.has
                      have h3 := P3E.out.has
                      have h4 := P4E.out.has
                      rw [HJ.out] at y1
                      have y3 := P3E.out.bat k (by simpa using s1')
                      have v3 : (S.1.on)[k]'(by simpa using s1') = onAt S.1 k := by
                        first | exact (onAt_eq s1').symm | simp [onAt_eq s1']
                      rw [v3] at y3
                      have z3 := P3E.out.free k
                      clear v3
                      rcases Bool.eq_false_or_eq_true (onAt S.1 k) with hs | hs
                      · have HSS := Lib.hid hs
                        rw [hs] at y3
                        clear hs
                        go_wp2_with fail
                        go_roundw
                        case rel =>
                          have EQ : upTo J (a, []) (k + 1) = (⟨S.1.on, S.1.level⟩, S.2) := by
                            rw [UPS.out, if_pos HJ.out, wLevel_eq s2' HQ.out, wSupply_eq s1' HSS.out]
                          have LE : (S.2).length = S.2.length := by first | rfl | simp
                          exact ⟨k + 1, ax, cx, by omega, by go_num, by rw [EQ, LE], by rw [EQ, LE]; exact OE.out, RjE.out, RtE.out, .inr ⟨J1, rfl, hJ1, P1E.out⟩, .inr ⟨J2, rfl, hJ2, P2E.out⟩, by rw [EQ]; exact .inr ⟨A1, rfl, hA1, P3E.out⟩, by rw [EQ]; exact .inr ⟨A2, rfl, hA2, P4E.out⟩, GE.out, HE.out⟩
                        case measure => simp [intOf]; omega
                      · have HSS := Lib.hid hs
                        rw [hs] at y3
                        clear hs
                        obtain ⟨Fa, hFa⟩ : ∃ W : World, Hid (W = E.alloc (.cells #[.int .i64 3, .int .i64 (k : Int), .int .i64 1] 46)) := ⟨_, Lib.hid rfl⟩
                        obtain ⟨NF, hNF⟩ : ∃ N : Nat, Hid (E.heap.size = N) := ⟨_, Lib.hid rfl⟩
                        have ggFa : Hid (Gr E Fa) := Lib.hid (by rw [hFa.out]; exact (Gr.refl _).alloc _)
                        have OFa := Lib.hid (Gr.owns OE.out ggFa.out)
                        have RjFa := Lib.hid (RjE.out.gr ggFa.out)
                        have RtFa := Lib.hid (RtE.out.gr ggFa.out)
                        have P1Fa := Lib.hid (P1E.out.gr ggFa.out)
                        have P2Fa := Lib.hid (P2E.out.gr ggFa.out)
                        have P3Fa := Lib.hid (P3E.out.gr ggFa.out)
                        have P4Fa := Lib.hid (P4E.out.gr ggFa.out)
                        have GFa := Lib.hid (GE.out.trans ggFa.out)
                        have HFa := Lib.hid (HE.out.trans ggFa.out)
                        have CCF : Hid (∀ j x, ([.int .i64 3, .int .i64 (k : Int), .int .i64 1] : List Value)[j]? = some x → Fa.cell? ((⟨NF, 0, none⟩ : Addr).add j) = some x) := Lib.hid (by
                          have := row_cells (Row.new E #[.int .i64 3, .int .i64 (k : Int), .int .i64 1] 46)
                          rw [← hFa.out, hNF.out] at this
                          exact this)
                        have ONF : Hid (∀ x ∈ ([.int .i64 3, .int .i64 (k : Int), .int .i64 1] : List Value), x.oneCell' = true) := Lib.hid (fun x hx => by simp only [List.mem_cons, List.not_mem_nil, or_false] at hx; rcases hx with rfl | rfl | rfl <;> rfl)
                        go_upto_region 19 with (first
                          | (at_builtin; rw [← hFa.out, hNF.out]; refine wpList_append_gets _ rfl _ _ 35 rfl w6.heap.size 46 i0 (.agg #[.int .i64 0, .int .i64 0, .int .i64 0]) 3 24 Try.underlying35 hi hz0 hz1 hz2 rfl (by decide) (.slice ax (S.2.length) cx) (S.2.length) (encWs (S.2)) rfl OFa.out (some ⟨NF, 0, none⟩) 1 1 [.int .i64 3, .int .i64 (k : Int), .int .i64 1] rfl ⟨rfl, fun _ => ⟨_, rfl, CCF.out⟩⟩ ONF.out (by unfold maxLen; omega) (by omega) HFa.out.size ?_; intro v9 F hown hgrow _; obtain ⟨ax2, cx2, rfl⟩ := owns_slice hown; have OOF := Lib.hid hown; have HHF := Lib.hid hgrow; clear hown hgrow hFa)
                          | fail)
                        have OF : Hid (F.ownsRow w6.heap.size 46 3 (.slice ax2 (S.2.length + 1) cx2) (S.2.length + 1) (encWs ((S.2) ++ [(⟨3, (k : Int), 1⟩ : Wri)]))) := Lib.hid (by rw [encWs_one]; exact OOF.out)
                        have RjF := Lib.hid (RjFa.out.grown HHF.out (owns_apart OFa.out RjFa.out.s (by decide)))
                        have RtF := Lib.hid (RtFa.out.grown HHF.out (owns_apart OFa.out RtFa.out.s (by decide)))
                        have P1F := Lib.hid (P1Fa.out.grown HHF.out (owns_apart OFa.out P1Fa.out (by decide)))
                        have P2F := Lib.hid (P2Fa.out.grown HHF.out (owns_apart OFa.out P2Fa.out (by decide)))
                        have P3F := Lib.hid (P3Fa.out.grown HHF.out (owns_apart OFa.out P3Fa.out (by decide)))
                        have P4F := Lib.hid (P4Fa.out.grown HHF.out (owns_apart OFa.out P4Fa.out (by decide)))
                        have GF := Lib.hid (G6.out.trans (HFa.out.grown HHF.out (fun B e => (OFa.out.lt B e).1)))
                        have HF := Lib.hid (HFa.out.grown HHF.out (fun B e => (OFa.out.lt B e).1))
                        clear OOF
                        clear e0 e1 eh0 e2 e3 eh1 y1 y2 h1 h2 h3 h4 y3 z3
                        obtain ⟨e0, e1, eh0⟩ := pairZ RjF.out
                        obtain ⟨e2, e3, eh1⟩ := pairZ RtF.out
                        have y1 := P1F.out.bat k j1
                        have y2 := P2F.out.iat k j2
                        rw [← onAt_eq j1] at y1
                        rw [← lvAt_eq j2] at y2
                        have h1 := P1F.out.has
                        have h2 := P2F.out.has
                        have h3 := P3F.out.has
                        have h4 := P4F.out.has
                        have y3 := P3F.out.bat k (by simpa using s1')
                        have v3 : (S.1.on)[k]'(by simpa using s1') = onAt S.1 k := by
                          first | exact (onAt_eq s1').symm | simp [onAt_eq s1']
                        rw [v3] at y3
                        have z3 := P3F.out.free k
                        clear v3
                        obtain ⟨I, hI⟩ : ∃ W : World, Hid (W = F.setCell ⟨A1, k, none⟩ (.bool true)) := ⟨_, Lib.hid rfl⟩
                        have gsI := Lib.hid (grownBy_set F A1 k (.bool true))
                        have OI : Hid (I.ownsRow w6.heap.size 46 3 (.slice ax2 (S.2.length + 1) cx2) (S.2.length + 1) (encWs (S.2 ++ [(⟨3, (k : Int), 1⟩ : Wri)]))) := Lib.hid (by rw [hI.out]; exact World.ownsRow.kept OF.out gsI.out (.inr (Ne.symm (owns_apart OF.out P3F.out (by decide)))))
                        have RjI := Lib.hid (show Row I BJ 31 [.slice (some ⟨J1, 0, none⟩) n k1, .slice (some ⟨J2, 0, none⟩) n k2] from by rw [hI.out]; exact RjF.out.oth (fun e => (RjF.out.s.apart P3F.out (by decide)) e.symm))
                        have RtI := Lib.hid (show Row I BA 31 [.slice (some ⟨A1, 0, none⟩) n k3, .slice (some ⟨A2, 0, none⟩) n k4] from by rw [hI.out]; exact RtF.out.oth (fun e => (RtF.out.s.apart P3F.out (by decide)) e.symm))
                        have P1I : Hid (RowS I J1 4 (bools J.on)) := Lib.hid (by rw [hI.out]; exact P1F.out.oth (fun e => NJ.out.1 e.symm))
                        have P2I : Hid (RowS I J2 3 (nums J.level)) := Lib.hid (by rw [hI.out]; exact P2F.out.oth (fun e => (P2F.out.apart P3F.out (by decide)) e.symm))
                        have P3I : Hid (RowS I A1 4 (bools ((S.1.on).set k true))) := Lib.hid (by rw [hI.out]; exact P3F.out.bset k s1' _)
                        have P4I : Hid (RowS I A2 3 (nums (S.1.level))) := Lib.hid (by rw [hI.out]; exact P4F.out.oth (fun e => (P3F.out.apart P4F.out (by decide)) e))
                        have GI : Hid (Gr w I) := Lib.hid (by rw [hI.out]; exact GF.out.setc (by have := SZ.out; omega))
                        have HI : Hid (Gr w6 I) := Lib.hid (by rw [hI.out]; exact HF.out.setc (by omega))
                        go_wp2_with fail
                        rw [← hI.out]
                        go_roundw
                        case rel =>
                          have EQ : upTo J (a, []) (k + 1) = (⟨S.1.on.set k true, S.1.level⟩, S.2 ++ [(⟨3, (k : Int), 1⟩ : Wri)]) := by
                            rw [UPS.out, if_pos HJ.out, wLevel_eq s2' HQ.out]; simp only [wSupply]; rw [if_neg (show ¬ onAt S.1 k = true from by rw [HSS.out]; simp)]; (try rfl)
                          have LE : (S.2 ++ [(⟨3, (k : Int), 1⟩ : Wri)]).length = S.2.length + 1 := by first | rfl | simp
                          exact ⟨k + 1, ax2, cx2, by omega, by go_num, by rw [EQ, LE], by rw [EQ, LE]; exact OI.out, RjI.out, RtI.out, .inr ⟨J1, rfl, hJ1, P1I.out⟩, .inr ⟨J2, rfl, hJ2, P2I.out⟩, by rw [EQ]; exact .inr ⟨A1, rfl, hA1, P3I.out⟩, by rw [EQ]; exact .inr ⟨A2, rfl, hA2, P4I.out⟩, GI.out, HI.out⟩
                        case measure => simp [intOf]; omega
                    · have HQ := Lib.hid hq
                      have lb : (lvAt S.1 k != lvAt J k) = true := by simp [hq]
                      clear hq
                      go_wp2_with fail
                      refine wp_region_grows (by kernel_rfl) (by kernel_rfl) ?_
                      repeat (go_big_quiet_step (fail))
                      refine wpQuiet_nil ?_
                      rintro _ ⟨⟨O, d⟩, rfl⟩
                      obtain ⟨E, hE⟩ : ∃ W : World, Hid (W = xt wr O d) := ⟨_, Lib.hid rfl⟩
                      show Exit.then _ _ _ _ (xt wr O d)
                      rw [← hE.out]
                      have ggE : Hid (Gr wr E) := Lib.hid (by rw [hE.out]; exact (Gr.refl _).xt O d)
                      have OE := Lib.hid (Gr.owns Owr.out ggE.out)
                      have RjE := Lib.hid (Rjwr.out.gr ggE.out)
                      have RtE := Lib.hid (Rtwr.out.gr ggE.out)
                      have P1E := Lib.hid (P1wr.out.gr ggE.out)
                      have P2E := Lib.hid (P2wr.out.gr ggE.out)
                      have P3E := Lib.hid (P3wr.out.gr ggE.out)
                      have P4E := Lib.hid (P4wr.out.gr ggE.out)
                      have GE := Lib.hid (Gwr.out.trans ggE.out)
                      have HE := Lib.hid (Hwr.out.trans ggE.out)
                      clear hE
                      clear e0 e1 eh0 e2 e3 eh1 y1 y2 h1 h2 h3 h4 y4 z4
                      obtain ⟨e0, e1, eh0⟩ := pairZ RjE.out
                      obtain ⟨e2, e3, eh1⟩ := pairZ RtE.out
                      have y1 := P1E.out.bat k j1
                      have y2 := P2E.out.iat k j2
                      rw [← onAt_eq j1] at y1
                      rw [← lvAt_eq j2] at y2
                      have h1 := P1E.out.has
                      have h2 := P2E.out.has
                      have h3 := P3E.out.has
                      have h4 := P4E.out.has
                      rw [HJ.out] at y1
                      obtain ⟨Fa, hFa⟩ : ∃ W : World, Hid (W = E.alloc (.cells #[.int .i64 2, .int .i64 (k : Int), .int .i64 (lvAt J k)] 46)) := ⟨_, Lib.hid rfl⟩
                      obtain ⟨NF, hNF⟩ : ∃ N : Nat, Hid (E.heap.size = N) := ⟨_, Lib.hid rfl⟩
                      have ggFa : Hid (Gr E Fa) := Lib.hid (by rw [hFa.out]; exact (Gr.refl _).alloc _)
                      have OFa := Lib.hid (Gr.owns OE.out ggFa.out)
                      have RjFa := Lib.hid (RjE.out.gr ggFa.out)
                      have RtFa := Lib.hid (RtE.out.gr ggFa.out)
                      have P1Fa := Lib.hid (P1E.out.gr ggFa.out)
                      have P2Fa := Lib.hid (P2E.out.gr ggFa.out)
                      have P3Fa := Lib.hid (P3E.out.gr ggFa.out)
                      have P4Fa := Lib.hid (P4E.out.gr ggFa.out)
                      have GFa := Lib.hid (GE.out.trans ggFa.out)
                      have HFa := Lib.hid (HE.out.trans ggFa.out)
                      have CCF : Hid (∀ j x, ([.int .i64 2, .int .i64 (k : Int), .int .i64 (lvAt J k)] : List Value)[j]? = some x → Fa.cell? ((⟨NF, 0, none⟩ : Addr).add j) = some x) := Lib.hid (by
                        have := row_cells (Row.new E #[.int .i64 2, .int .i64 (k : Int), .int .i64 (lvAt J k)] 46)
                        rw [← hFa.out, hNF.out] at this
                        exact this)
                      have ONF : Hid (∀ x ∈ ([.int .i64 2, .int .i64 (k : Int), .int .i64 (lvAt J k)] : List Value), x.oneCell' = true) := Lib.hid (fun x hx => by simp only [List.mem_cons, List.not_mem_nil, or_false] at hx; rcases hx with rfl | rfl | rfl <;> rfl)
                      go_upto_region 16 with (first
                        | (at_builtin; rw [← hFa.out, hNF.out]; refine wpList_append_gets _ rfl _ _ 35 rfl w6.heap.size 46 i0 (.agg #[.int .i64 0, .int .i64 0, .int .i64 0]) 3 24 Try.underlying35 hi hz0 hz1 hz2 rfl (by decide) (.slice ax (S.2.length) cx) (S.2.length) (encWs (S.2)) rfl OFa.out (some ⟨NF, 0, none⟩) 1 1 [.int .i64 2, .int .i64 (k : Int), .int .i64 (lvAt J k)] rfl ⟨rfl, fun _ => ⟨_, rfl, CCF.out⟩⟩ ONF.out (by unfold maxLen; omega) (by omega) HFa.out.size ?_; intro v9 F hown hgrow _; obtain ⟨ax2, cx2, rfl⟩ := owns_slice hown; have OOF := Lib.hid hown; have HHF := Lib.hid hgrow; clear hown hgrow hFa)
                        | fail)
                      have OF : Hid (F.ownsRow w6.heap.size 46 3 (.slice ax2 (S.2.length + 1) cx2) (S.2.length + 1) (encWs ((S.2) ++ [(⟨2, (k : Int), (lvAt J k)⟩ : Wri)]))) := Lib.hid (by rw [encWs_one]; exact OOF.out)
                      have RjF := Lib.hid (RjFa.out.grown HHF.out (owns_apart OFa.out RjFa.out.s (by decide)))
                      have RtF := Lib.hid (RtFa.out.grown HHF.out (owns_apart OFa.out RtFa.out.s (by decide)))
                      have P1F := Lib.hid (P1Fa.out.grown HHF.out (owns_apart OFa.out P1Fa.out (by decide)))
                      have P2F := Lib.hid (P2Fa.out.grown HHF.out (owns_apart OFa.out P2Fa.out (by decide)))
                      have P3F := Lib.hid (P3Fa.out.grown HHF.out (owns_apart OFa.out P3Fa.out (by decide)))
                      have P4F := Lib.hid (P4Fa.out.grown HHF.out (owns_apart OFa.out P4Fa.out (by decide)))
                      have GF := Lib.hid (G6.out.trans (HFa.out.grown HHF.out (fun B e => (OFa.out.lt B e).1)))
                      have HF := Lib.hid (HFa.out.grown HHF.out (fun B e => (OFa.out.lt B e).1))
                      clear OOF
                      clear e0 e1 eh0 e2 e3 eh1 y1 y2 h1 h2 h3 h4
                      obtain ⟨e0, e1, eh0⟩ := pairZ RjF.out
                      obtain ⟨e2, e3, eh1⟩ := pairZ RtF.out
                      have y1 := P1F.out.bat k j1
                      have y2 := P2F.out.iat k j2
                      rw [← onAt_eq j1] at y1
                      rw [← lvAt_eq j2] at y2
                      have h1 := P1F.out.has
                      have h2 := P2F.out.has
                      have h3 := P3F.out.has
                      have h4 := P4F.out.has
                      rw [HJ.out] at y1
                      have y4 := P4F.out.iat k (by simpa using s2')
                      have v4 : (S.1.level)[k]'(by simpa using s2') = lvAt S.1 k := by
                        first | exact (lvAt_eq s2').symm | simp [lvAt_eq s2']
                      rw [v4] at y4
                      have z4 := P4F.out.free k
                      clear v4
                      refine wp_region_grows_tail 9 (by kernel_rfl) (by kernel_rfl) ?_
                      simp only [List.take_succ_cons, List.take_zero, List.drop_succ_cons, List.drop_zero]
                      repeat (go_big_quiet_step (fail))
                      refine wpQuiet_nil ?_
                      rintro _ ⟨⟨O, d⟩, rfl⟩
                      obtain ⟨I, hI⟩ : ∃ W : World, Hid (W = xt F O d) := ⟨_, Lib.hid rfl⟩
                      show wpList _ _ _ _ _ (xt F O d)
                      rw [← hI.out]
                      have ggI : Hid (Gr F I) := Lib.hid (by rw [hI.out]; exact (Gr.refl _).xt O d)
                      have OI := Lib.hid (Gr.owns OF.out ggI.out)
                      have RjI := Lib.hid (RjF.out.gr ggI.out)
                      have RtI := Lib.hid (RtF.out.gr ggI.out)
                      have P1I := Lib.hid (P1F.out.gr ggI.out)
                      have P2I := Lib.hid (P2F.out.gr ggI.out)
                      have P3I := Lib.hid (P3F.out.gr ggI.out)
                      have P4I := Lib.hid (P4F.out.gr ggI.out)
                      have GI := Lib.hid (GF.out.trans ggI.out)
                      have HI := Lib.hid (HF.out.trans ggI.out)
                      clear hI
                      clear e0 e1 eh0 e2 e3 eh1 y1 y2 h1 h2 h3 h4 y4 z4
                      obtain ⟨e0, e1, eh0⟩ := pairZ RjI.out
                      obtain ⟨e2, e3, eh1⟩ := pairZ RtI.out
                      have y1 := P1I.out.bat k j1
                      have y2 := P2I.out.iat k j2
                      rw [← onAt_eq j1] at y1
                      rw [← lvAt_eq j2] at y2
                      have h1 := P1I.out.has
                      have h2 := P2I.out.has
                      have h3 := P3I.out.has
                      have h4 := P4I.out.has
                      have y4 := P4I.out.iat k (by simpa using s2')
                      have v4 : (S.1.level)[k]'(by simpa using s2') = lvAt S.1 k := by
                        first | exact (lvAt_eq s2').symm | simp [lvAt_eq s2']
                      rw [v4] at y4
                      have z4 := P4I.out.free k
                      clear v4
                      obtain ⟨K, hK⟩ : ∃ W : World, Hid (W = I.setCell ⟨A2, k, none⟩ (.int .i64 (lvAt J k))) := ⟨_, Lib.hid rfl⟩
                      have gsK := Lib.hid (grownBy_set I A2 k (.int .i64 (lvAt J k)))
                      have OK : Hid (K.ownsRow w6.heap.size 46 3 (.slice ax2 (S.2.length + 1) cx2) (S.2.length + 1) (encWs (S.2 ++ [(⟨2, (k : Int), (lvAt J k)⟩ : Wri)]))) := Lib.hid (by rw [hK.out]; exact World.ownsRow.kept OI.out gsK.out (.inr (Ne.symm (owns_apart OI.out P4I.out (by decide)))))
                      have RjK := Lib.hid (show Row K BJ 31 [.slice (some ⟨J1, 0, none⟩) n k1, .slice (some ⟨J2, 0, none⟩) n k2] from by rw [hK.out]; exact RjI.out.oth (fun e => (RjI.out.s.apart P4I.out (by decide)) e.symm))
                      have RtK := Lib.hid (show Row K BA 31 [.slice (some ⟨A1, 0, none⟩) n k3, .slice (some ⟨A2, 0, none⟩) n k4] from by rw [hK.out]; exact RtI.out.oth (fun e => (RtI.out.s.apart P4I.out (by decide)) e.symm))
                      have P1K : Hid (RowS K J1 4 (bools J.on)) := Lib.hid (by rw [hK.out]; exact P1I.out.oth (fun e => (P1I.out.apart P4I.out (by decide)) e.symm))
                      have P2K : Hid (RowS K J2 3 (nums J.level)) := Lib.hid (by rw [hK.out]; exact P2I.out.oth (fun e => NJ.out.2 e.symm))
                      have P3K : Hid (RowS K A1 4 (bools S.1.on)) := Lib.hid (by rw [hK.out]; exact P3I.out.oth (fun e => (P3I.out.apart P4I.out (by decide)) e.symm))
                      have P4K : Hid (RowS K A2 3 (nums ((S.1.level).set k ((lvAt J k))))) := Lib.hid (by rw [hK.out]; exact P4I.out.iset k s2' _)
                      have GK : Hid (Gr w K) := Lib.hid (by rw [hK.out]; exact GI.out.setc (by have := SZ.out; omega))
                      have HK : Hid (Gr w6 K) := Lib.hid (by rw [hK.out]; exact HI.out.setc (by omega))
                      go_upto_region 17 with fail
                      rw [← hK.out]
                      clear e0 e1 eh0 e2 e3 eh1 y1 y2 h1 h2 h3 h4 y4 z4
                      obtain ⟨e0, e1, eh0⟩ := pairZ RjK.out
                      obtain ⟨e2, e3, eh1⟩ := pairZ RtK.out
                      have y1 := P1K.out.bat k j1
                      have y2 := P2K.out.iat k j2
                      rw [← onAt_eq j1] at y1
                      rw [← lvAt_eq j2] at y2
                      have h1 := P1K.out.has
                      have h2 := P2K.out.has
                      have h3 := P3K.out.has
                      have h4 := P4K.out.has
                      rw [HJ.out] at y1
                      have y3 := P3K.out.bat k (by simpa using s1')
                      have v3 : (S.1.on)[k]'(by simpa using s1') = onAt S.1 k := by
                        first | exact (onAt_eq s1').symm | simp [onAt_eq s1']
                      rw [v3] at y3
                      have z3 := P3K.out.free k
                      clear v3
                      rcases Bool.eq_false_or_eq_true (onAt S.1 k) with hs | hs
                      · have HSS := Lib.hid hs
                        rw [hs] at y3
                        clear hs
                        go_wp2_with fail
                        go_roundw
                        case rel =>
                          have EQ : upTo J (a, []) (k + 1) = (⟨S.1.on, S.1.level.set k (lvAt J k)⟩, S.2 ++ [(⟨2, (k : Int), (lvAt J k)⟩ : Wri)]) := by
                            rw [UPS.out, if_pos HJ.out, wSupply_eq (s := wLevel S k (lvAt J k)) s1' HSS.out]; simp only [wLevel]; rw [if_neg HQ.out]; (try rfl)
                          have LE : (S.2 ++ [(⟨2, (k : Int), (lvAt J k)⟩ : Wri)]).length = S.2.length + 1 := by first | rfl | simp
                          exact ⟨k + 1, ax2, cx2, by omega, by go_num, by rw [EQ, LE], by rw [EQ, LE]; exact OK.out, RjK.out, RtK.out, .inr ⟨J1, rfl, hJ1, P1K.out⟩, .inr ⟨J2, rfl, hJ2, P2K.out⟩, by rw [EQ]; exact .inr ⟨A1, rfl, hA1, P3K.out⟩, by rw [EQ]; exact .inr ⟨A2, rfl, hA2, P4K.out⟩, GK.out, HK.out⟩
                        case measure => simp [intOf]; omega
                      · have HSS := Lib.hid hs
                        rw [hs] at y3
                        clear hs
                        obtain ⟨Ma, hMa⟩ : ∃ W : World, Hid (W = K.alloc (.cells #[.int .i64 3, .int .i64 (k : Int), .int .i64 1] 46)) := ⟨_, Lib.hid rfl⟩
                        obtain ⟨NM, hNM⟩ : ∃ N : Nat, Hid (K.heap.size = N) := ⟨_, Lib.hid rfl⟩
                        have ggMa : Hid (Gr K Ma) := Lib.hid (by rw [hMa.out]; exact (Gr.refl _).alloc _)
                        have OMa := Lib.hid (Gr.owns OK.out ggMa.out)
                        have RjMa := Lib.hid (RjK.out.gr ggMa.out)
                        have RtMa := Lib.hid (RtK.out.gr ggMa.out)
                        have P1Ma := Lib.hid (P1K.out.gr ggMa.out)
                        have P2Ma := Lib.hid (P2K.out.gr ggMa.out)
                        have P3Ma := Lib.hid (P3K.out.gr ggMa.out)
                        have P4Ma := Lib.hid (P4K.out.gr ggMa.out)
                        have GMa := Lib.hid (GK.out.trans ggMa.out)
                        have HMa := Lib.hid (HK.out.trans ggMa.out)
                        have CCM : Hid (∀ j x, ([.int .i64 3, .int .i64 (k : Int), .int .i64 1] : List Value)[j]? = some x → Ma.cell? ((⟨NM, 0, none⟩ : Addr).add j) = some x) := Lib.hid (by
                          have := row_cells (Row.new K #[.int .i64 3, .int .i64 (k : Int), .int .i64 1] 46)
                          rw [← hMa.out, hNM.out] at this
                          exact this)
                        have ONM : Hid (∀ x ∈ ([.int .i64 3, .int .i64 (k : Int), .int .i64 1] : List Value), x.oneCell' = true) := Lib.hid (fun x hx => by simp only [List.mem_cons, List.not_mem_nil, or_false] at hx; rcases hx with rfl | rfl | rfl <;> rfl)
                        go_upto_region 19 with (first
                          | (at_builtin; rw [← hMa.out, hNM.out]; refine wpList_append_gets _ rfl _ _ 35 rfl w6.heap.size 46 i0 (.agg #[.int .i64 0, .int .i64 0, .int .i64 0]) 3 24 Try.underlying35 hi hz0 hz1 hz2 rfl (by decide) (.slice ax2 (S.2.length + 1) cx2) (S.2.length + 1) (encWs (S.2 ++ [(⟨2, (k : Int), (lvAt J k)⟩ : Wri)])) rfl OMa.out (some ⟨NM, 0, none⟩) 1 1 [.int .i64 3, .int .i64 (k : Int), .int .i64 1] rfl ⟨rfl, fun _ => ⟨_, rfl, CCM.out⟩⟩ ONM.out (by unfold maxLen; omega) (by omega) HMa.out.size ?_; intro v9 M hown hgrow _; obtain ⟨ax3, cx3, rfl⟩ := owns_slice hown; have OOM := Lib.hid hown; have HHM := Lib.hid hgrow; clear hown hgrow hMa)
                          | fail)
                        have OM : Hid (M.ownsRow w6.heap.size 46 3 (.slice ax3 (S.2.length + 1 + 1) cx3) (S.2.length + 1 + 1) (encWs ((S.2 ++ [(⟨2, (k : Int), (lvAt J k)⟩ : Wri)]) ++ [(⟨3, (k : Int), 1⟩ : Wri)]))) := Lib.hid (by rw [encWs_one]; exact OOM.out)
                        have RjM := Lib.hid (RjMa.out.grown HHM.out (owns_apart OMa.out RjMa.out.s (by decide)))
                        have RtM := Lib.hid (RtMa.out.grown HHM.out (owns_apart OMa.out RtMa.out.s (by decide)))
                        have P1M := Lib.hid (P1Ma.out.grown HHM.out (owns_apart OMa.out P1Ma.out (by decide)))
                        have P2M := Lib.hid (P2Ma.out.grown HHM.out (owns_apart OMa.out P2Ma.out (by decide)))
                        have P3M := Lib.hid (P3Ma.out.grown HHM.out (owns_apart OMa.out P3Ma.out (by decide)))
                        have P4M := Lib.hid (P4Ma.out.grown HHM.out (owns_apart OMa.out P4Ma.out (by decide)))
                        have GM := Lib.hid (G6.out.trans (HMa.out.grown HHM.out (fun B e => (OMa.out.lt B e).1)))
                        have HM := Lib.hid (HMa.out.grown HHM.out (fun B e => (OMa.out.lt B e).1))
                        clear OOM
                        clear e0 e1 eh0 e2 e3 eh1 y1 y2 h1 h2 h3 h4 y3 z3
                        obtain ⟨e0, e1, eh0⟩ := pairZ RjM.out
                        obtain ⟨e2, e3, eh1⟩ := pairZ RtM.out
                        have y1 := P1M.out.bat k j1
                        have y2 := P2M.out.iat k j2
                        rw [← onAt_eq j1] at y1
                        rw [← lvAt_eq j2] at y2
                        have h1 := P1M.out.has
                        have h2 := P2M.out.has
                        have h3 := P3M.out.has
                        have h4 := P4M.out.has
                        have y3 := P3M.out.bat k (by simpa using s1')
                        have v3 : (S.1.on)[k]'(by simpa using s1') = onAt S.1 k := by
                          first | exact (onAt_eq s1').symm | simp [onAt_eq s1']
                        rw [v3] at y3
                        have z3 := P3M.out.free k
                        clear v3
                        obtain ⟨U, hU⟩ : ∃ W : World, Hid (W = M.setCell ⟨A1, k, none⟩ (.bool true)) := ⟨_, Lib.hid rfl⟩
                        have gsU := Lib.hid (grownBy_set M A1 k (.bool true))
                        have OU : Hid (U.ownsRow w6.heap.size 46 3 (.slice ax3 (S.2.length + 1 + 1) cx3) (S.2.length + 1 + 1) (encWs (S.2 ++ [(⟨2, (k : Int), (lvAt J k)⟩ : Wri)] ++ [(⟨3, (k : Int), 1⟩ : Wri)]))) := Lib.hid (by rw [hU.out]; exact World.ownsRow.kept OM.out gsU.out (.inr (Ne.symm (owns_apart OM.out P3M.out (by decide)))))
                        have RjU := Lib.hid (show Row U BJ 31 [.slice (some ⟨J1, 0, none⟩) n k1, .slice (some ⟨J2, 0, none⟩) n k2] from by rw [hU.out]; exact RjM.out.oth (fun e => (RjM.out.s.apart P3M.out (by decide)) e.symm))
                        have RtU := Lib.hid (show Row U BA 31 [.slice (some ⟨A1, 0, none⟩) n k3, .slice (some ⟨A2, 0, none⟩) n k4] from by rw [hU.out]; exact RtM.out.oth (fun e => (RtM.out.s.apart P3M.out (by decide)) e.symm))
                        have P1U : Hid (RowS U J1 4 (bools J.on)) := Lib.hid (by rw [hU.out]; exact P1M.out.oth (fun e => NJ.out.1 e.symm))
                        have P2U : Hid (RowS U J2 3 (nums J.level)) := Lib.hid (by rw [hU.out]; exact P2M.out.oth (fun e => (P2M.out.apart P3M.out (by decide)) e.symm))
                        have P3U : Hid (RowS U A1 4 (bools ((S.1.on).set k true))) := Lib.hid (by rw [hU.out]; exact P3M.out.bset k s1' _)
                        have P4U : Hid (RowS U A2 3 (nums (S.1.level.set k (lvAt J k)))) := Lib.hid (by rw [hU.out]; exact P4M.out.oth (fun e => (P3M.out.apart P4M.out (by decide)) e))
                        have GU : Hid (Gr w U) := Lib.hid (by rw [hU.out]; exact GM.out.setc (by have := SZ.out; omega))
                        have HU : Hid (Gr w6 U) := Lib.hid (by rw [hU.out]; exact HM.out.setc (by omega))
                        go_wp2_with fail
                        rw [← hU.out]
                        go_roundw
                        case rel =>
                          have EQ : upTo J (a, []) (k + 1) = (⟨S.1.on.set k true, S.1.level.set k (lvAt J k)⟩, S.2 ++ [(⟨2, (k : Int), (lvAt J k)⟩ : Wri)] ++ [(⟨3, (k : Int), 1⟩ : Wri)]) := by
                            rw [UPS.out, if_pos HJ.out]; simp only [wSupply, wLevel]; rw [if_neg HQ.out, if_neg (show ¬ onAt ⟨S.1.on, S.1.level.set k (lvAt J k)⟩ k = true from by rw [show onAt ⟨S.1.on, S.1.level.set k (lvAt J k)⟩ k = onAt S.1 k from rfl, HSS.out]; simp)]; (try rfl)
                          have LE : (S.2 ++ [(⟨2, (k : Int), (lvAt J k)⟩ : Wri)] ++ [(⟨3, (k : Int), 1⟩ : Wri)]).length = S.2.length + 1 + 1 := by first | rfl | simp
                          exact ⟨k + 1, ax3, cx3, by omega, by go_num, by rw [EQ, LE], by rw [EQ, LE]; exact OU.out, RjU.out, RtU.out, .inr ⟨J1, rfl, hJ1, P1U.out⟩, .inr ⟨J2, rfl, hJ2, P2U.out⟩, by rw [EQ]; exact .inr ⟨A1, rfl, hA1, P3U.out⟩, by rw [EQ]; exact .inr ⟨A2, rfl, hA2, P4U.out⟩, GU.out, HU.out⟩
                        case measure => simp [intOf]; omega
                  · have HJ := Lib.hid hJk
                    obtain ⟨e0, e1, eh0⟩ := pairZ Rjwr.out
                    obtain ⟨e2, e3, eh1⟩ := pairZ Rtwr.out
                    have y1 := P1wr.out.bat k j1
                    have y2 := P2wr.out.iat k j2
                    rw [← onAt_eq j1] at y1
                    rw [← lvAt_eq j2] at y2
                    have h1 := P1wr.out.has
                    have h2 := P2wr.out.has
                    have h3 := P3wr.out.has
                    have h4 := P4wr.out.has
                    rw [show onAt J k = false from by simpa using hJk] at y1
                    clear hJk
                    go_wp2_with fail
                    go_roundw
                    case rel =>
                      have EQ : upTo J (a, []) (k + 1) = (⟨S.1.on, S.1.level⟩, S.2) := by
                        rw [UPS.out, if_neg HJ.out]
                      have LE : (S.2).length = S.2.length := by first | rfl | simp
                      exact ⟨k + 1, ax, cx, by omega, by go_num, by rw [EQ, LE], by rw [EQ, LE]; exact Owr.out, Rjwr.out, Rtwr.out, .inr ⟨J1, rfl, hJ1, P1wr.out⟩, .inr ⟨J2, rfl, hJ2, P2wr.out⟩, by rw [EQ]; exact .inr ⟨A1, rfl, hA1, P3wr.out⟩, by rw [EQ]; exact .inr ⟨A2, rfl, hA2, P4wr.out⟩, Gwr.out, Hwr.out⟩
                    case measure => simp [intOf]; omega
                · obtain rfl : n = k := by omega
                  obtain ⟨U, hU⟩ : ∃ U, upTo J (a, []) n = U := ⟨_, rfl⟩
                  have ul := UL.out n
                  have PX := Lib.hid PL.out
                  rw [hU] at ul ho p3 p4 PX ⊢
                  have LU : Hid (U.1.on.length = n ∧ U.1.level.length = n) := Lib.hid (by rw [ul.1, ul.2]; exact ⟨L1.out, L2.out⟩)
                  have LN : U.2.length ≤ 32 := by have := upTo_len J (a, []) n; rw [hU] at this; simp at this; omega
                  have Owr := Lib.hid ho
                  have Rtwr := Lib.hid hrt
                  have P3wr := Lib.hid p3
                  have P4wr := Lib.hid p4
                  have Hwr := Lib.hid hg6
                  have ew : IntKind.i64.wrap ((n : Int) - 1) = (n : Int) - 1 := by rw [IntKind.wrap_i64]; omega
                  clear ho hrj hrt p1 p2 p3 p4 hg hg6 ul hU DJ0 LJ JW
                  obtain ⟨w8, rfl⟩ : ∃ wo : World, wo = wr := ⟨_, rfl⟩
                  go_wp2_with fail
                  clear ew
                  go_loopw [13, 15] (fun s13 s15 wr => ∃ (m : Nat) (ay : Option Addr) (cy : Nat), m ≤ n ∧ s15 = .int .i64 ((n : Int) - 1 - (m : Int)) ∧ s13 = .slice ay (downTo b n U m).2.length cy ∧ wr.ownsRow w6.heap.size 46 3 (.slice ay (downTo b n U m).2.length cy) (downTo b n U m).2.length (encWs (downTo b n U m).2) ∧ Row wr BA 31 [.slice x3 n k3, .slice x4 n k4] ∧ Own1 w6.heap.size wr 4 (bools U.1.on) x3 ∧ Own1 w6.heap.size wr 3 (nums U.1.level) x4 ∧ Gr w6 wr) (fun _ s15 _ => (intOf s15 + 1).toNat)
                  case atStart => exact ⟨0, ax, cx, Nat.zero_le _, by simp, rfl, Owr.out, Rtwr.out, P3wr.out, P4wr.out, Hwr.out⟩
                  case round =>
                    clear Owr Rtwr P3wr P4wr Hwr
                    obtain ⟨m, ay, cy, hm, rfl, rfl, ho, hrt, p3, p4, hg6⟩ := hrel
                    by_cases hlt : m < n
                    · obtain ⟨k, hk⟩ : ∃ k : Nat, n - 1 - m = k := ⟨_, rfl⟩
                      have ek : (n : Int) - 1 - (m : Int) = (k : Int) := by omega
                      have kn : k < n := by omega
                      have WPS := Lib.hid (downTo_w b n U m hlt)
                      have DL := downTo_len b n U m
                      obtain ⟨S, hS⟩ : ∃ S, downTo b n U m = S := ⟨_, rfl⟩
                      rw [hS] at ho DL WPS ⊢
                      rw [hk] at WPS
                      rw [ek]
                      have DLN : S.2.length ≤ 64 := by omega
                      have HK := Lib.hid hk
                      obtain ⟨A1, rfl, hA1, q3⟩ := p3.at (by simp [bools]; have := LU.out.1; omega)
                      obtain ⟨A2, rfl, hA2, q4⟩ := p4.at (by simp [nums]; have := LU.out.2; omega)
                      have s1' : k < U.1.on.length := by have := LU.out.1; omega
                      have s2' : k < U.1.level.length := by have := LU.out.2; omega
                      have b1' : k < b.on.length := by have := L3.out; omega
                      have b2' : k < b.level.length := by have := L4.out; omega
                      obtain ⟨v3, w3', rfl, t3⟩ := (H3.out.giB (G6.out.trans hg6)).one k b1'
                      obtain ⟨v4, w4', rfl, t4, t4w⟩ := (H4.out.giI (G6.out.trans hg6)).one k b2'
                      unfold RB at t3
                      rw [← onAt_eq b1'] at t3
                      rw [← lvAt_eq b2'] at t4
                      have T3wr := Lib.hid t3
                      have T4wr := Lib.hid t4
                      have Owr := Lib.hid ho
                      have Rtwr := Lib.hid hrt
                      have P3wr := Lib.hid q3
                      have P4wr := Lib.hid q4
                      have Hwr := Lib.hid hg6
                      have gk : (k : Int) < n := by omega
                      have g0 : (0 : Int) ≤ k := by omega
                      have ew : IntKind.i64.wrap ((k : Int) - 1) = (k : Int) - 1 := by rw [IntKind.wrap_i64]; omega
                      clear t4w ho hrt q3 q4 hg6 p3 p4 t3 t4 hS hk DL b1' b2' ek
                      obtain ⟨e2, e3, eh1⟩ := pairZ Rtwr.out
                      obtain ⟨f0, f1, fh⟩ := pairZ (HBR.out wr Hwr.out)
                      have t3 := T3wr.out
                      have t4 := T4wr.out
                      have th3 := has_of_cell t3
                      have th4 := has_of_cell t4
                      have h3 := P3wr.out.has
                      have h4 := P4wr.out.has
                      have y3 := P3wr.out.bat k s1'
                      rw [← onAt_eq s1'] at y3
                      have y4 := P4wr.out.iat k s2'
                      rw [← lvAt_eq s2'] at y4
                      rcases Bool.eq_false_or_eq_true (onAt U.1 k) with ha | ha
                      · have HAu := Lib.hid ha
                        rw [ha] at y3
                        clear ha
                        rcases Bool.eq_false_or_eq_true (onAt b k) with hb | hb
                        · have HBu := Lib.hid hb
                          rw [hb] at t3
                          clear hb
                          go_upto_region 26 with fail
                          by_cases hq : lvAt U.1 k = lvAt b k
                          · have HQ := Lib.hid hq
                            have lb : (lvAt U.1 k != lvAt b k) = false := by simp [hq]
                            clear hq
                            refine wp_region_grows (by kernel_rfl) (by kernel_rfl) ?_
                            repeat (go_big_quiet_step (fail))
                            refine wpQuiet_nil ?_
                            rintro _ ⟨⟨O, d⟩, rfl⟩
                            obtain ⟨Ewr, hEwr⟩ : ∃ W : World, Hid (W = xt wr O d) := ⟨_, Lib.hid rfl⟩
                            show Exit.then _ _ _ _ (xt wr O d)
                            rw [← hEwr.out]
                            clear e2 e3 eh1 f0 f1 fh t3 t4 th3 th4 h3 h4 y3 y4
                            have ggEwr : Hid (Gr wr Ewr) := Lib.hid (by rw [hEwr.out]; exact (Gr.refl _).xt O d)
                            have OEwr := Lib.hid (Gr.owns Owr.out ggEwr.out)
                            have RtEwr := Lib.hid (Rtwr.out.gr ggEwr.out)
                            have P3Ewr := Lib.hid (P3wr.out.gr ggEwr.out)
                            have P4Ewr := Lib.hid (P4wr.out.gr ggEwr.out)
                            have T3Ewr := Lib.hid (cell_gr ggEwr.out T3wr.out)
                            have T4Ewr := Lib.hid (cell_gr ggEwr.out T4wr.out)
                            have HEwr := Lib.hid (Hwr.out.trans ggEwr.out)
                            clear hEwr
                            go_wp2_with fail
                            go_roundw
                            case rel =>
                              have EQ : (downTo b n U (m + 1)).2 = S.2 := by
                                rw [WPS.out]; unfold dnW; rw [if_neg (fun q => by rw [HBu.out] at q; exact absurd q.2 (by simp)), if_pos HQ.out]; (try simp)
                              have LE : (S.2).length = S.2.length := by first | rfl | simp
                              exact ⟨m + 1, ay, cy, by omega, by first | go_num | (congr 1; have := HK.out; omega), by rw [EQ, LE], by rw [EQ, LE]; exact OEwr.out, RtEwr.out, .inr ⟨A1, rfl, hA1, P3Ewr.out⟩, .inr ⟨A2, rfl, hA2, P4Ewr.out⟩, HEwr.out⟩
                            case measure => first | (simp [intOf]; done) | (simp [intOf]; omega)
                          · have HQ := Lib.hid hq
                            have lb : (lvAt U.1 k != lvAt b k) = true := by simp [hq]
                            clear hq
                            refine wp_region_grows (by kernel_rfl) (by kernel_rfl) ?_
                            repeat (go_big_quiet_step (fail))
                            refine wpQuiet_nil ?_
                            rintro _ ⟨⟨O, d⟩, rfl⟩
                            obtain ⟨Ewr, hEwr⟩ : ∃ W : World, Hid (W = xt wr O d) := ⟨_, Lib.hid rfl⟩
                            show Exit.then _ _ _ _ (xt wr O d)
                            rw [← hEwr.out]
                            clear e2 e3 eh1 f0 f1 fh t3 t4 th3 th4 h3 h4 y3 y4
                            have ggEwr : Hid (Gr wr Ewr) := Lib.hid (by rw [hEwr.out]; exact (Gr.refl _).xt O d)
                            have OEwr := Lib.hid (Gr.owns Owr.out ggEwr.out)
                            have RtEwr := Lib.hid (Rtwr.out.gr ggEwr.out)
                            have P3Ewr := Lib.hid (P3wr.out.gr ggEwr.out)
                            have P4Ewr := Lib.hid (P4wr.out.gr ggEwr.out)
                            have T3Ewr := Lib.hid (cell_gr ggEwr.out T3wr.out)
                            have T4Ewr := Lib.hid (cell_gr ggEwr.out T4wr.out)
                            have HEwr := Lib.hid (Hwr.out.trans ggEwr.out)
                            clear hEwr
                            obtain ⟨e2, e3, eh1⟩ := pairZ RtEwr.out
                            obtain ⟨f0, f1, fh⟩ := pairZ (HBR.out Ewr HEwr.out)
                            have t3 := T3Ewr.out
                            have t4 := T4Ewr.out
                            have th3 := has_of_cell t3
                            have th4 := has_of_cell t4
                            have h3 := P3Ewr.out.has
                            have h4 := P4Ewr.out.has
                            have y3 := P3Ewr.out.bat k s1'
                            rw [← onAt_eq s1'] at y3
                            have y4 := P4Ewr.out.iat k s2'
                            rw [← lvAt_eq s2'] at y4
                            obtain ⟨Fwra, hFwra⟩ : ∃ W : World, Hid (W = Ewr.alloc (.cells #[.int .i64 2, .int .i64 (k : Int), .int .i64 (lvAt b k)] 46)) := ⟨_, Lib.hid rfl⟩
                            obtain ⟨NFwr, hNFwr⟩ : ∃ N : Nat, Hid (Ewr.heap.size = N) := ⟨_, Lib.hid rfl⟩
                            have ggFwra : Hid (Gr Ewr Fwra) := Lib.hid (by rw [hFwra.out]; exact (Gr.refl _).alloc _)
                            have OFwra := Lib.hid (Gr.owns OEwr.out ggFwra.out)
                            have RtFwra := Lib.hid (RtEwr.out.gr ggFwra.out)
                            have P3Fwra := Lib.hid (P3Ewr.out.gr ggFwra.out)
                            have P4Fwra := Lib.hid (P4Ewr.out.gr ggFwra.out)
                            have T3Fwra := Lib.hid (cell_gr ggFwra.out T3Ewr.out)
                            have T4Fwra := Lib.hid (cell_gr ggFwra.out T4Ewr.out)
                            have HFwra := Lib.hid (HEwr.out.trans ggFwra.out)
                            have CCFwr : Hid (∀ j x, ([.int .i64 2, .int .i64 (k : Int), .int .i64 (lvAt b k)] : List Value)[j]? = some x → Fwra.cell? ((⟨NFwr, 0, none⟩ : Addr).add j) = some x) := Lib.hid (by
                              have := row_cells (Row.new Ewr #[.int .i64 2, .int .i64 (k : Int), .int .i64 (lvAt b k)] 46)
                              rw [← hFwra.out, hNFwr.out] at this
                              exact this)
                            have ONFwr : Hid (∀ x ∈ ([.int .i64 2, .int .i64 (k : Int), .int .i64 (lvAt b k)] : List Value), x.oneCell' = true) := Lib.hid (fun x hx => by simp only [List.mem_cons, List.not_mem_nil, or_false] at hx; rcases hx with rfl | rfl | rfl <;> rfl)
                            go_upto_region 23 with (first
                              | (at_builtin; rw [← hFwra.out, hNFwr.out]; refine wpList_append_gets _ rfl _ _ 35 rfl w6.heap.size 46 i0 (.agg #[.int .i64 0, .int .i64 0, .int .i64 0]) 3 24 Try.underlying35 hi hz0 hz1 hz2 rfl (by decide) (.slice ay (S.2.length) cy) (S.2.length) (encWs (S.2)) rfl OFwra.out (some ⟨NFwr, 0, none⟩) 1 1 [.int .i64 2, .int .i64 (k : Int), .int .i64 (lvAt b k)] rfl ⟨rfl, fun _ => ⟨_, rfl, CCFwr.out⟩⟩ ONFwr.out (by unfold maxLen; omega) (by omega) HFwra.out.size ?_; intro v9 Fwr hown hgrow _; obtain ⟨ay3, cy3, rfl⟩ := owns_slice hown; have OOFwr := Lib.hid hown; have HHFwr := Lib.hid hgrow; clear hown hgrow hFwra)
                              | fail)
                            have OFwr : Hid (Fwr.ownsRow w6.heap.size 46 3 (.slice ay3 (S.2.length + 1) cy3) (S.2.length + 1) (encWs ((S.2) ++ [(⟨2, (k : Int), (lvAt b k)⟩ : Wri)]))) := Lib.hid (by rw [encWs_one]; exact OOFwr.out)
                            have RtFwr := Lib.hid (RtFwra.out.grown HHFwr.out (owns_apart OFwra.out RtFwra.out.s (by decide)))
                            have P3Fwr := Lib.hid (P3Fwra.out.grown HHFwr.out (owns_apart OFwra.out P3Fwra.out (by decide)))
                            have P4Fwr := Lib.hid (P4Fwra.out.grown HHFwr.out (owns_apart OFwra.out P4Fwra.out (by decide)))
                            have HFwr := Lib.hid (HFwra.out.grown HHFwr.out (fun B e => (OFwra.out.lt B e).1))
                            have T3Fwr : Hid (Fwr.cell? ⟨v3, w3' + k, none⟩ = some (.bool (onAt b k))) := Lib.hid (by
                              have := (H3.out.giB (G6.out.trans HFwr.out)) k (by have := L3.out; omega)
                              obtain ⟨B, o, e, c⟩ := this
                              cases e
                              unfold RB at c
                              rw [Nat.mul_one, ← onAt_eq (by have := L3.out; omega)] at c
                              exact c)
                            have T4Fwr : Hid (Fwr.cell? ⟨v4, w4' + k, none⟩ = some (.int .i64 (lvAt b k))) := Lib.hid (by
                              have := (H4.out.giI (G6.out.trans HFwr.out)) k (by have := L4.out; omega)
                              obtain ⟨B, o, e, c, _⟩ := this
                              cases e
                              rw [Nat.mul_one, ← lvAt_eq (by have := L4.out; omega)] at c
                              exact c)
                            clear OOFwr
                            clear e2 e3 eh1 f0 f1 fh t3 t4 th3 th4 h3 h4 y3 y4
                            go_wp2_with fail
                            go_roundw
                            case rel =>
                              have EQ : (downTo b n U (m + 1)).2 = S.2 ++ [(⟨2, (k : Int), (lvAt b k)⟩ : Wri)] := by
                                rw [WPS.out]; unfold dnW; rw [if_neg (fun q => by rw [HBu.out] at q; exact absurd q.2 (by simp)), if_neg HQ.out]; (try simp)
                              have LE : (S.2 ++ [(⟨2, (k : Int), (lvAt b k)⟩ : Wri)]).length = S.2.length + 1 := by first | rfl | simp
                              exact ⟨m + 1, ay3, cy3, by omega, by first | go_num | (congr 1; have := HK.out; omega), by rw [EQ, LE], by rw [EQ, LE]; exact OFwr.out, RtFwr.out, .inr ⟨A1, rfl, hA1, P3Fwr.out⟩, .inr ⟨A2, rfl, hA2, P4Fwr.out⟩, HFwr.out⟩
                            case measure => first | (simp [intOf]; done) | (simp [intOf]; omega)
                        · have HBu := Lib.hid hb
                          rw [hb] at t3
                          clear hb
                          obtain ⟨Xa, hXa⟩ : ∃ W : World, Hid (W = wr.alloc (.cells #[.int .i64 3, .int .i64 (k : Int), .int .i64 0] 46)) := ⟨_, Lib.hid rfl⟩
                          obtain ⟨NX, hNX⟩ : ∃ N : Nat, Hid (wr.heap.size = N) := ⟨_, Lib.hid rfl⟩
                          have ggXa : Hid (Gr wr Xa) := Lib.hid (by rw [hXa.out]; exact (Gr.refl _).alloc _)
                          have OXa := Lib.hid (Gr.owns Owr.out ggXa.out)
                          have RtXa := Lib.hid (Rtwr.out.gr ggXa.out)
                          have P3Xa := Lib.hid (P3wr.out.gr ggXa.out)
                          have P4Xa := Lib.hid (P4wr.out.gr ggXa.out)
                          have T3Xa := Lib.hid (cell_gr ggXa.out T3wr.out)
                          have T4Xa := Lib.hid (cell_gr ggXa.out T4wr.out)
                          have HXa := Lib.hid (Hwr.out.trans ggXa.out)
                          have CCX : Hid (∀ j x, ([.int .i64 3, .int .i64 (k : Int), .int .i64 0] : List Value)[j]? = some x → Xa.cell? ((⟨NX, 0, none⟩ : Addr).add j) = some x) := Lib.hid (by
                            have := row_cells (Row.new wr #[.int .i64 3, .int .i64 (k : Int), .int .i64 0] 46)
                            rw [← hXa.out, hNX.out] at this
                            exact this)
                          have ONX : Hid (∀ x ∈ ([.int .i64 3, .int .i64 (k : Int), .int .i64 0] : List Value), x.oneCell' = true) := Lib.hid (fun x hx => by simp only [List.mem_cons, List.not_mem_nil, or_false] at hx; rcases hx with rfl | rfl | rfl <;> rfl)
                          go_upto_region 26 with (first
                            | (at_builtin; rw [← hXa.out, hNX.out]; refine wpList_append_gets _ rfl _ _ 35 rfl w6.heap.size 46 i0 (.agg #[.int .i64 0, .int .i64 0, .int .i64 0]) 3 24 Try.underlying35 hi hz0 hz1 hz2 rfl (by decide) (.slice ay (S.2.length) cy) (S.2.length) (encWs (S.2)) rfl OXa.out (some ⟨NX, 0, none⟩) 1 1 [.int .i64 3, .int .i64 (k : Int), .int .i64 0] rfl ⟨rfl, fun _ => ⟨_, rfl, CCX.out⟩⟩ ONX.out (by unfold maxLen; omega) (by omega) HXa.out.size ?_; intro v9 X hown hgrow _; obtain ⟨ay2, cy2, rfl⟩ := owns_slice hown; have OOX := Lib.hid hown; have HHX := Lib.hid hgrow; clear hown hgrow hXa)
                            | fail)
                          have OX : Hid (X.ownsRow w6.heap.size 46 3 (.slice ay2 (S.2.length + 1) cy2) (S.2.length + 1) (encWs ((S.2) ++ [(⟨3, (k : Int), 0⟩ : Wri)]))) := Lib.hid (by rw [encWs_one]; exact OOX.out)
                          have RtX := Lib.hid (RtXa.out.grown HHX.out (owns_apart OXa.out RtXa.out.s (by decide)))
                          have P3X := Lib.hid (P3Xa.out.grown HHX.out (owns_apart OXa.out P3Xa.out (by decide)))
                          have P4X := Lib.hid (P4Xa.out.grown HHX.out (owns_apart OXa.out P4Xa.out (by decide)))
                          have HX := Lib.hid (HXa.out.grown HHX.out (fun B e => (OXa.out.lt B e).1))
                          have T3X : Hid (X.cell? ⟨v3, w3' + k, none⟩ = some (.bool (onAt b k))) := Lib.hid (by
                            have := (H3.out.giB (G6.out.trans HX.out)) k (by have := L3.out; omega)
                            obtain ⟨B, o, e, c⟩ := this
                            cases e
                            unfold RB at c
                            rw [Nat.mul_one, ← onAt_eq (by have := L3.out; omega)] at c
                            exact c)
                          have T4X : Hid (X.cell? ⟨v4, w4' + k, none⟩ = some (.int .i64 (lvAt b k))) := Lib.hid (by
                            have := (H4.out.giI (G6.out.trans HX.out)) k (by have := L4.out; omega)
                            obtain ⟨B, o, e, c, _⟩ := this
                            cases e
                            rw [Nat.mul_one, ← lvAt_eq (by have := L4.out; omega)] at c
                            exact c)
                          clear OOX
                          clear e2 e3 eh1 f0 f1 fh t3 t4 th3 th4 h3 h4 y3 y4
                          obtain ⟨e2, e3, eh1⟩ := pairZ RtX.out
                          obtain ⟨f0, f1, fh⟩ := pairZ (HBR.out X HX.out)
                          have t3 := T3X.out
                          have t4 := T4X.out
                          have th3 := has_of_cell t3
                          have th4 := has_of_cell t4
                          have h3 := P3X.out.has
                          have h4 := P4X.out.has
                          have y3 := P3X.out.bat k s1'
                          rw [← onAt_eq s1'] at y3
                          have y4 := P4X.out.iat k s2'
                          rw [← lvAt_eq s2'] at y4
                          by_cases hq : lvAt U.1 k = lvAt b k
                          · have HQ := Lib.hid hq
                            have lb : (lvAt U.1 k != lvAt b k) = false := by simp [hq]
                            clear hq
                            refine wp_region_grows (by kernel_rfl) (by kernel_rfl) ?_
                            repeat (go_big_quiet_step (fail))
                            refine wpQuiet_nil ?_
                            rintro _ ⟨⟨O, d⟩, rfl⟩
                            obtain ⟨EX, hEX⟩ : ∃ W : World, Hid (W = xt X O d) := ⟨_, Lib.hid rfl⟩
                            show Exit.then _ _ _ _ (xt X O d)
                            rw [← hEX.out]
                            clear e2 e3 eh1 f0 f1 fh t3 t4 th3 th4 h3 h4 y3 y4
                            have ggEX : Hid (Gr X EX) := Lib.hid (by rw [hEX.out]; exact (Gr.refl _).xt O d)
                            have OEX := Lib.hid (Gr.owns OX.out ggEX.out)
                            have RtEX := Lib.hid (RtX.out.gr ggEX.out)
                            have P3EX := Lib.hid (P3X.out.gr ggEX.out)
                            have P4EX := Lib.hid (P4X.out.gr ggEX.out)
                            have T3EX := Lib.hid (cell_gr ggEX.out T3X.out)
                            have T4EX := Lib.hid (cell_gr ggEX.out T4X.out)
                            have HEX := Lib.hid (HX.out.trans ggEX.out)
                            clear hEX
                            go_wp2_with fail
                            go_roundw
                            case rel =>
                              have EQ : (downTo b n U (m + 1)).2 = S.2 ++ [(⟨3, (k : Int), 0⟩ : Wri)] := by
                                rw [WPS.out]; unfold dnW; rw [if_pos ⟨HAu.out, HBu.out⟩, if_pos HQ.out]; (try simp)
                              have LE : (S.2 ++ [(⟨3, (k : Int), 0⟩ : Wri)]).length = S.2.length + 1 := by first | rfl | simp
                              exact ⟨m + 1, ay2, cy2, by omega, by first | go_num | (congr 1; have := HK.out; omega), by rw [EQ, LE], by rw [EQ, LE]; exact OEX.out, RtEX.out, .inr ⟨A1, rfl, hA1, P3EX.out⟩, .inr ⟨A2, rfl, hA2, P4EX.out⟩, HEX.out⟩
                            case measure => first | (simp [intOf]; done) | (simp [intOf]; omega)
                          · have HQ := Lib.hid hq
                            have lb : (lvAt U.1 k != lvAt b k) = true := by simp [hq]
                            clear hq
                            refine wp_region_grows (by kernel_rfl) (by kernel_rfl) ?_
                            repeat (go_big_quiet_step (fail))
                            refine wpQuiet_nil ?_
                            rintro _ ⟨⟨O, d⟩, rfl⟩
                            obtain ⟨EX, hEX⟩ : ∃ W : World, Hid (W = xt X O d) := ⟨_, Lib.hid rfl⟩
                            show Exit.then _ _ _ _ (xt X O d)
                            rw [← hEX.out]
                            clear e2 e3 eh1 f0 f1 fh t3 t4 th3 th4 h3 h4 y3 y4
                            have ggEX : Hid (Gr X EX) := Lib.hid (by rw [hEX.out]; exact (Gr.refl _).xt O d)
                            have OEX := Lib.hid (Gr.owns OX.out ggEX.out)
                            have RtEX := Lib.hid (RtX.out.gr ggEX.out)
                            have P3EX := Lib.hid (P3X.out.gr ggEX.out)
                            have P4EX := Lib.hid (P4X.out.gr ggEX.out)
                            have T3EX := Lib.hid (cell_gr ggEX.out T3X.out)
                            have T4EX := Lib.hid (cell_gr ggEX.out T4X.out)
                            have HEX := Lib.hid (HX.out.trans ggEX.out)
                            clear hEX
                            obtain ⟨e2, e3, eh1⟩ := pairZ RtEX.out
                            obtain ⟨f0, f1, fh⟩ := pairZ (HBR.out EX HEX.out)
                            have t3 := T3EX.out
                            have t4 := T4EX.out
                            have th3 := has_of_cell t3
                            have th4 := has_of_cell t4
                            have h3 := P3EX.out.has
                            have h4 := P4EX.out.has
                            have y3 := P3EX.out.bat k s1'
                            rw [← onAt_eq s1'] at y3
                            have y4 := P4EX.out.iat k s2'
                            rw [← lvAt_eq s2'] at y4
                            obtain ⟨FXa, hFXa⟩ : ∃ W : World, Hid (W = EX.alloc (.cells #[.int .i64 2, .int .i64 (k : Int), .int .i64 (lvAt b k)] 46)) := ⟨_, Lib.hid rfl⟩
                            obtain ⟨NFX, hNFX⟩ : ∃ N : Nat, Hid (EX.heap.size = N) := ⟨_, Lib.hid rfl⟩
                            have ggFXa : Hid (Gr EX FXa) := Lib.hid (by rw [hFXa.out]; exact (Gr.refl _).alloc _)
                            have OFXa := Lib.hid (Gr.owns OEX.out ggFXa.out)
                            have RtFXa := Lib.hid (RtEX.out.gr ggFXa.out)
                            have P3FXa := Lib.hid (P3EX.out.gr ggFXa.out)
                            have P4FXa := Lib.hid (P4EX.out.gr ggFXa.out)
                            have T3FXa := Lib.hid (cell_gr ggFXa.out T3EX.out)
                            have T4FXa := Lib.hid (cell_gr ggFXa.out T4EX.out)
                            have HFXa := Lib.hid (HEX.out.trans ggFXa.out)
                            have CCFX : Hid (∀ j x, ([.int .i64 2, .int .i64 (k : Int), .int .i64 (lvAt b k)] : List Value)[j]? = some x → FXa.cell? ((⟨NFX, 0, none⟩ : Addr).add j) = some x) := Lib.hid (by
                              have := row_cells (Row.new EX #[.int .i64 2, .int .i64 (k : Int), .int .i64 (lvAt b k)] 46)
                              rw [← hFXa.out, hNFX.out] at this
                              exact this)
                            have ONFX : Hid (∀ x ∈ ([.int .i64 2, .int .i64 (k : Int), .int .i64 (lvAt b k)] : List Value), x.oneCell' = true) := Lib.hid (fun x hx => by simp only [List.mem_cons, List.not_mem_nil, or_false] at hx; rcases hx with rfl | rfl | rfl <;> rfl)
                            go_upto_region 23 with (first
                              | (at_builtin; rw [← hFXa.out, hNFX.out]; refine wpList_append_gets _ rfl _ _ 35 rfl w6.heap.size 46 i0 (.agg #[.int .i64 0, .int .i64 0, .int .i64 0]) 3 24 Try.underlying35 hi hz0 hz1 hz2 rfl (by decide) (.slice ay2 (S.2.length + 1) cy2) (S.2.length + 1) (encWs (S.2 ++ [(⟨3, (k : Int), 0⟩ : Wri)])) rfl OFXa.out (some ⟨NFX, 0, none⟩) 1 1 [.int .i64 2, .int .i64 (k : Int), .int .i64 (lvAt b k)] rfl ⟨rfl, fun _ => ⟨_, rfl, CCFX.out⟩⟩ ONFX.out (by unfold maxLen; omega) (by omega) HFXa.out.size ?_; intro v9 FX hown hgrow _; obtain ⟨ay3, cy3, rfl⟩ := owns_slice hown; have OOFX := Lib.hid hown; have HHFX := Lib.hid hgrow; clear hown hgrow hFXa)
                              | fail)
                            have OFX : Hid (FX.ownsRow w6.heap.size 46 3 (.slice ay3 (S.2.length + 1 + 1) cy3) (S.2.length + 1 + 1) (encWs ((S.2 ++ [(⟨3, (k : Int), 0⟩ : Wri)]) ++ [(⟨2, (k : Int), (lvAt b k)⟩ : Wri)]))) := Lib.hid (by rw [encWs_one]; exact OOFX.out)
                            have RtFX := Lib.hid (RtFXa.out.grown HHFX.out (owns_apart OFXa.out RtFXa.out.s (by decide)))
                            have P3FX := Lib.hid (P3FXa.out.grown HHFX.out (owns_apart OFXa.out P3FXa.out (by decide)))
                            have P4FX := Lib.hid (P4FXa.out.grown HHFX.out (owns_apart OFXa.out P4FXa.out (by decide)))
                            have HFX := Lib.hid (HFXa.out.grown HHFX.out (fun B e => (OFXa.out.lt B e).1))
                            have T3FX : Hid (FX.cell? ⟨v3, w3' + k, none⟩ = some (.bool (onAt b k))) := Lib.hid (by
                              have := (H3.out.giB (G6.out.trans HFX.out)) k (by have := L3.out; omega)
                              obtain ⟨B, o, e, c⟩ := this
                              cases e
                              unfold RB at c
                              rw [Nat.mul_one, ← onAt_eq (by have := L3.out; omega)] at c
                              exact c)
                            have T4FX : Hid (FX.cell? ⟨v4, w4' + k, none⟩ = some (.int .i64 (lvAt b k))) := Lib.hid (by
                              have := (H4.out.giI (G6.out.trans HFX.out)) k (by have := L4.out; omega)
                              obtain ⟨B, o, e, c, _⟩ := this
                              cases e
                              rw [Nat.mul_one, ← lvAt_eq (by have := L4.out; omega)] at c
                              exact c)
                            clear OOFX
                            clear e2 e3 eh1 f0 f1 fh t3 t4 th3 th4 h3 h4 y3 y4
                            go_wp2_with fail
                            go_roundw
                            case rel =>
                              have EQ : (downTo b n U (m + 1)).2 = S.2 ++ [(⟨3, (k : Int), 0⟩ : Wri)] ++ [(⟨2, (k : Int), (lvAt b k)⟩ : Wri)] := by
                                rw [WPS.out]; unfold dnW; rw [if_pos ⟨HAu.out, HBu.out⟩, if_neg HQ.out]; (try simp)
                              have LE : (S.2 ++ [(⟨3, (k : Int), 0⟩ : Wri)] ++ [(⟨2, (k : Int), (lvAt b k)⟩ : Wri)]).length = S.2.length + 1 + 1 := by first | rfl | simp
                              exact ⟨m + 1, ay3, cy3, by omega, by first | go_num | (congr 1; have := HK.out; omega), by rw [EQ, LE], by rw [EQ, LE]; exact OFX.out, RtFX.out, .inr ⟨A1, rfl, hA1, P3FX.out⟩, .inr ⟨A2, rfl, hA2, P4FX.out⟩, HFX.out⟩
                            case measure => first | (simp [intOf]; done) | (simp [intOf]; omega)
                      · have HAu := Lib.hid ha
                        rw [ha] at y3
                        clear ha
                        go_upto_region 26 with fail
                        by_cases hq : lvAt U.1 k = lvAt b k
                        · have HQ := Lib.hid hq
                          have lb : (lvAt U.1 k != lvAt b k) = false := by simp [hq]
                          clear hq
                          refine wp_region_grows (by kernel_rfl) (by kernel_rfl) ?_
                          repeat (go_big_quiet_step (fail))
                          refine wpQuiet_nil ?_
                          rintro _ ⟨⟨O, d⟩, rfl⟩
                          obtain ⟨Ewr, hEwr⟩ : ∃ W : World, Hid (W = xt wr O d) := ⟨_, Lib.hid rfl⟩
                          show Exit.then _ _ _ _ (xt wr O d)
                          rw [← hEwr.out]
                          clear e2 e3 eh1 f0 f1 fh t3 t4 th3 th4 h3 h4 y3 y4
                          have ggEwr : Hid (Gr wr Ewr) := Lib.hid (by rw [hEwr.out]; exact (Gr.refl _).xt O d)
                          have OEwr := Lib.hid (Gr.owns Owr.out ggEwr.out)
                          have RtEwr := Lib.hid (Rtwr.out.gr ggEwr.out)
                          have P3Ewr := Lib.hid (P3wr.out.gr ggEwr.out)
                          have P4Ewr := Lib.hid (P4wr.out.gr ggEwr.out)
                          have T3Ewr := Lib.hid (cell_gr ggEwr.out T3wr.out)
                          have T4Ewr := Lib.hid (cell_gr ggEwr.out T4wr.out)
                          have HEwr := Lib.hid (Hwr.out.trans ggEwr.out)
                          clear hEwr
                          go_wp2_with fail
                          go_roundw
                          case rel =>
                            have EQ : (downTo b n U (m + 1)).2 = S.2 := by
                              rw [WPS.out]; unfold dnW; rw [if_neg (fun q => by rw [HAu.out] at q; exact absurd q.1 (by simp)), if_pos HQ.out]; (try simp)
                            have LE : (S.2).length = S.2.length := by first | rfl | simp
                            exact ⟨m + 1, ay, cy, by omega, by first | go_num | (congr 1; have := HK.out; omega), by rw [EQ, LE], by rw [EQ, LE]; exact OEwr.out, RtEwr.out, .inr ⟨A1, rfl, hA1, P3Ewr.out⟩, .inr ⟨A2, rfl, hA2, P4Ewr.out⟩, HEwr.out⟩
                          case measure => first | (simp [intOf]; done) | (simp [intOf]; omega)
                        · have HQ := Lib.hid hq
                          have lb : (lvAt U.1 k != lvAt b k) = true := by simp [hq]
                          clear hq
                          refine wp_region_grows (by kernel_rfl) (by kernel_rfl) ?_
                          repeat (go_big_quiet_step (fail))
                          refine wpQuiet_nil ?_
                          rintro _ ⟨⟨O, d⟩, rfl⟩
                          obtain ⟨Ewr, hEwr⟩ : ∃ W : World, Hid (W = xt wr O d) := ⟨_, Lib.hid rfl⟩
                          show Exit.then _ _ _ _ (xt wr O d)
                          rw [← hEwr.out]
                          clear e2 e3 eh1 f0 f1 fh t3 t4 th3 th4 h3 h4 y3 y4
                          have ggEwr : Hid (Gr wr Ewr) := Lib.hid (by rw [hEwr.out]; exact (Gr.refl _).xt O d)
                          have OEwr := Lib.hid (Gr.owns Owr.out ggEwr.out)
                          have RtEwr := Lib.hid (Rtwr.out.gr ggEwr.out)
                          have P3Ewr := Lib.hid (P3wr.out.gr ggEwr.out)
                          have P4Ewr := Lib.hid (P4wr.out.gr ggEwr.out)
                          have T3Ewr := Lib.hid (cell_gr ggEwr.out T3wr.out)
                          have T4Ewr := Lib.hid (cell_gr ggEwr.out T4wr.out)
                          have HEwr := Lib.hid (Hwr.out.trans ggEwr.out)
                          clear hEwr
                          obtain ⟨e2, e3, eh1⟩ := pairZ RtEwr.out
                          obtain ⟨f0, f1, fh⟩ := pairZ (HBR.out Ewr HEwr.out)
                          have t3 := T3Ewr.out
                          have t4 := T4Ewr.out
                          have th3 := has_of_cell t3
                          have th4 := has_of_cell t4
                          have h3 := P3Ewr.out.has
                          have h4 := P4Ewr.out.has
                          have y3 := P3Ewr.out.bat k s1'
                          rw [← onAt_eq s1'] at y3
                          have y4 := P4Ewr.out.iat k s2'
                          rw [← lvAt_eq s2'] at y4
                          obtain ⟨Fwra, hFwra⟩ : ∃ W : World, Hid (W = Ewr.alloc (.cells #[.int .i64 2, .int .i64 (k : Int), .int .i64 (lvAt b k)] 46)) := ⟨_, Lib.hid rfl⟩
                          obtain ⟨NFwr, hNFwr⟩ : ∃ N : Nat, Hid (Ewr.heap.size = N) := ⟨_, Lib.hid rfl⟩
                          have ggFwra : Hid (Gr Ewr Fwra) := Lib.hid (by rw [hFwra.out]; exact (Gr.refl _).alloc _)
                          have OFwra := Lib.hid (Gr.owns OEwr.out ggFwra.out)
                          have RtFwra := Lib.hid (RtEwr.out.gr ggFwra.out)
                          have P3Fwra := Lib.hid (P3Ewr.out.gr ggFwra.out)
                          have P4Fwra := Lib.hid (P4Ewr.out.gr ggFwra.out)
                          have T3Fwra := Lib.hid (cell_gr ggFwra.out T3Ewr.out)
                          have T4Fwra := Lib.hid (cell_gr ggFwra.out T4Ewr.out)
                          have HFwra := Lib.hid (HEwr.out.trans ggFwra.out)
                          have CCFwr : Hid (∀ j x, ([.int .i64 2, .int .i64 (k : Int), .int .i64 (lvAt b k)] : List Value)[j]? = some x → Fwra.cell? ((⟨NFwr, 0, none⟩ : Addr).add j) = some x) := Lib.hid (by
                            have := row_cells (Row.new Ewr #[.int .i64 2, .int .i64 (k : Int), .int .i64 (lvAt b k)] 46)
                            rw [← hFwra.out, hNFwr.out] at this
                            exact this)
                          have ONFwr : Hid (∀ x ∈ ([.int .i64 2, .int .i64 (k : Int), .int .i64 (lvAt b k)] : List Value), x.oneCell' = true) := Lib.hid (fun x hx => by simp only [List.mem_cons, List.not_mem_nil, or_false] at hx; rcases hx with rfl | rfl | rfl <;> rfl)
                          go_upto_region 23 with (first
                            | (at_builtin; rw [← hFwra.out, hNFwr.out]; refine wpList_append_gets _ rfl _ _ 35 rfl w6.heap.size 46 i0 (.agg #[.int .i64 0, .int .i64 0, .int .i64 0]) 3 24 Try.underlying35 hi hz0 hz1 hz2 rfl (by decide) (.slice ay (S.2.length) cy) (S.2.length) (encWs (S.2)) rfl OFwra.out (some ⟨NFwr, 0, none⟩) 1 1 [.int .i64 2, .int .i64 (k : Int), .int .i64 (lvAt b k)] rfl ⟨rfl, fun _ => ⟨_, rfl, CCFwr.out⟩⟩ ONFwr.out (by unfold maxLen; omega) (by omega) HFwra.out.size ?_; intro v9 Fwr hown hgrow _; obtain ⟨ay3, cy3, rfl⟩ := owns_slice hown; have OOFwr := Lib.hid hown; have HHFwr := Lib.hid hgrow; clear hown hgrow hFwra)
                            | fail)
                          have OFwr : Hid (Fwr.ownsRow w6.heap.size 46 3 (.slice ay3 (S.2.length + 1) cy3) (S.2.length + 1) (encWs ((S.2) ++ [(⟨2, (k : Int), (lvAt b k)⟩ : Wri)]))) := Lib.hid (by rw [encWs_one]; exact OOFwr.out)
                          have RtFwr := Lib.hid (RtFwra.out.grown HHFwr.out (owns_apart OFwra.out RtFwra.out.s (by decide)))
                          have P3Fwr := Lib.hid (P3Fwra.out.grown HHFwr.out (owns_apart OFwra.out P3Fwra.out (by decide)))
                          have P4Fwr := Lib.hid (P4Fwra.out.grown HHFwr.out (owns_apart OFwra.out P4Fwra.out (by decide)))
                          have HFwr := Lib.hid (HFwra.out.grown HHFwr.out (fun B e => (OFwra.out.lt B e).1))
                          have T3Fwr : Hid (Fwr.cell? ⟨v3, w3' + k, none⟩ = some (.bool (onAt b k))) := Lib.hid (by
                            have := (H3.out.giB (G6.out.trans HFwr.out)) k (by have := L3.out; omega)
                            obtain ⟨B, o, e, c⟩ := this
                            cases e
                            unfold RB at c
                            rw [Nat.mul_one, ← onAt_eq (by have := L3.out; omega)] at c
                            exact c)
                          have T4Fwr : Hid (Fwr.cell? ⟨v4, w4' + k, none⟩ = some (.int .i64 (lvAt b k))) := Lib.hid (by
                            have := (H4.out.giI (G6.out.trans HFwr.out)) k (by have := L4.out; omega)
                            obtain ⟨B, o, e, c, _⟩ := this
                            cases e
                            rw [Nat.mul_one, ← lvAt_eq (by have := L4.out; omega)] at c
                            exact c)
                          clear OOFwr
                          clear e2 e3 eh1 f0 f1 fh t3 t4 th3 th4 h3 h4 y3 y4
                          go_wp2_with fail
                          go_roundw
                          case rel =>
                            have EQ : (downTo b n U (m + 1)).2 = S.2 ++ [(⟨2, (k : Int), (lvAt b k)⟩ : Wri)] := by
                              rw [WPS.out]; unfold dnW; rw [if_neg (fun q => by rw [HAu.out] at q; exact absurd q.1 (by simp)), if_neg HQ.out]; (try simp)
                            have LE : (S.2 ++ [(⟨2, (k : Int), (lvAt b k)⟩ : Wri)]).length = S.2.length + 1 := by first | rfl | simp
                            exact ⟨m + 1, ay3, cy3, by omega, by first | go_num | (congr 1; have := HK.out; omega), by rw [EQ, LE], by rw [EQ, LE]; exact OFwr.out, RtFwr.out, .inr ⟨A1, rfl, hA1, P3Fwr.out⟩, .inr ⟨A2, rfl, hA2, P4Fwr.out⟩, HFwr.out⟩
                          case measure => first | (simp [intOf]; done) | (simp [intOf]; omega)
                    · obtain rfl : n = m := by omega
                      have Owr := Lib.hid ho
                      have Hwr := Lib.hid hg6
                      rw [← PX.out] at Owr ⊢
                      have en : (n : Int) - 1 - (n : Int) = -1 := by omega
                      rw [en]
                      clear ho hrt p3 p4 hg6
                      go_wp2_with fail
                      go_ret2
                      rw [PP.out, PE.out]
                      exact ⟨ay, cy, rfl, owns_lowZ Owr.out SZ.out, PW.out, G6.out.trans Hwr.out⟩
            · rw [decide_eq_false hmb] at M2
              have PE : planE l a b d = 7 := by unfold planE; rw [BZ.out, if_pos rfl, if_pos Hhd.out, if_neg (fun q => hmb q.2)]
              have HPE := Lib.hid PE
              have HPP := Lib.hid (PN.out (by rw [PE]; decide))
              clear hmb PE
              go_wp2_with fail
              refine (M2.out w5 G5.out).mono ?_
              rintro e w6 ⟨rfl, hg⟩
              have G6 := Lib.hid (G5.out.trans hg)
              clear hg
              go_wp2_with fail
              go_ret2
              exact givesWsO_no HPE.out HPP.out G6.out
          · rw [decide_eq_false hma] at M1
            have PE : planE l a b d = 7 := by unfold planE; rw [BZ.out, if_pos rfl, if_pos Hhd.out, if_neg (fun q => hma q.1)]
            have HPE := Lib.hid PE
            have HPP := Lib.hid (PN.out (by rw [PE]; decide))
            clear hma PE
            go_wp2_with fail
            refine (M1.out w4 G4.out).mono ?_
            rintro e w5 ⟨rfl, hg⟩
            have G5 := Lib.hid (G4.out.trans hg)
            clear hg
            go_wp2_with fail
            go_ret2
            exact givesWsO_no HPE.out HPP.out G5.out
        · rw [decide_eq_false hd] at DR
          have PE : planE l a b d = 1 := by unfold planE; rw [BZ.out, if_pos rfl, if_neg hd]
          have HPE := Lib.hid PE
          have HPP := Lib.hid (PN.out (by rw [PE]; decide))
          clear hd PE
          go_wp2_with fail
          refine (DR.out w3 G3.out).mono ?_
          rintro e w4 ⟨rfl, hg⟩
          have G4 := Lib.hid (G3.out.trans hg)
          clear hg
          go_wp2_with fail
          go_ret2
          exact givesWsO_no HPE.out HPP.out G4.out
      · rw [decide_eq_false hb] at R2
        have PE : planE l a b d = 1 := by unfold planE; rw [HB.out, if_neg (show ¬ (RlsOk l a ∧ RlsOk l b) from fun q => hb q.2), if_neg (by decide)]
        have HPE := Lib.hid PE
        have HPP := Lib.hid (PN.out (by rw [PE]; decide))
        clear hb PE
        go_wp2_with fail
        refine (R2.out w2 G2.out).mono ?_
        rintro e w3 ⟨rfl, hg⟩
        have G3 := Lib.hid (G2.out.trans hg)
        clear hg
        go_wp2_with fail
        go_ret2
        exact givesWsO_no HPE.out HPP.out G3.out
    · rw [decide_eq_false ha] at R1
      have PE : planE l a b d = 1 := by unfold planE; rw [HB.out, if_neg (show ¬ (RlsOk l a ∧ RlsOk l b) from fun q => ha q.1), if_neg (by decide)]
      have HPE := Lib.hid PE
      have HPP := Lib.hid (PN.out (by rw [PE]; decide))
      clear ha PE
      go_wp2_with fail
      refine (R1.out w1 G1.out).mono ?_
      rintro e w2 ⟨rfl, hg⟩
      have G2 := Lib.hid (G1.out.trans hg)
      clear hg
      go_wp2_with fail
      go_ret2
      exact givesWsO_no HPE.out HPP.out G2.out
  · have BE := Lib.hid (begR_chk (rs := [a, b]) hc)
    have HC := Lib.hid hc
    have PE : planE l a b d = chk l := by unfold planE; rw [BE.out, if_neg HC.out]
    have PPx := Lib.hid (PN.out (by rw [PE]; exact HC.out))
    have HPE := Lib.hid PE
    have hb : (chk l != 0) = true := by simpa using hc
    obtain ⟨x, hx⟩ : ∃ x, chk l = x := ⟨_, rfl⟩
    rw [hx] at CH HC HPE hb
    clear hx hc PE BE
    go_enter Try.func26, Try.ntmps26
    go_wp2_with fail
    rw [← hW0.out, hN.out]
    refine (CH.out W0 G0.out).mono ?_
    rintro e w1 ⟨rfl, hg1⟩
    have G1 := Lib.hid (G0.out.trans hg1)
    clear hg1
    go_wp2_with fail
    go_ret2
    exact givesWsO_no HPE.out PPx.out G1.out
end Go.Proofs.Ytoenkcojfogmmaa
