/- Lemmas and contracts for the proof of PrintDiffers (several texts in one, printed by wip/tools/pack.py): VbD VbE VbF UgB. -/
import Derived.Test.YtgembejpiecfcaaGreatDoorPd1pg
import Derived.Test.YtgembejpiecfcaaGreatDoorPd1pc
import Derived.Test.YtgembejpiecfcaaGreatDoorPd1pf
import Derived.Test.YtgembejpiecfcaaGreatDoorPd1pe
set_option maxRecDepth 100000
set_option maxHeartbeats 16000000
set_option linter.unusedVariables false
set_option linter.unusedSimpArgs false
namespace Go.Proofs.YtgembejpiecfcaaGreatDoor
open Go.RowKit
open Classical
def ints (l : List Nat) : List Value := nums (l.map Int.ofNat)
theorem ints_len (l : List Nat) : (ints l).length = l.length := by simp [ints, nums]
theorem ints_one (l : List Nat) : ∀ u ∈ ints l, u.oneCell' = true := nums_one _
theorem ints_get {l : List Nat} {k : Nat} (h : k < l.length) : (ints l)[k]? = some (.int .i64 (l[k] : Nat)) := by
  unfold ints nums
  rw [List.getElem?_map, List.getElem?_map, List.getElem?_eq_getElem h]; rfl
theorem ints_drop (l : List Nat) (k : Nat) : ints (l.drop k) = (ints l).drop k := by simp [ints, nums, List.map_drop]
theorem ints_app (l m : List Nat) : ints (l ++ m) = ints l ++ ints m := by simp [ints, nums]
theorem owns_newN (w : World) (xs : List Nat) (arr : Array Value) (ha : arr.toList = ints xs) (T : TypeId) (base B n : Nat) (hn : xs.length = n) (hB : w.heap.size = B) (hb : base ≤ B) (hm : n ≤ 1000000) :
    (w.alloc (.cells arr T)).ownsRow base T 1 (.slice (some ⟨B, 0, none⟩) n n) n (ints xs) := by
  subst hB hn
  have hl : arr.size = xs.length := by rw [← Array.length_toList, ha, ints_len]
  refine ⟨by rw [ints_len]; omega, .inr ⟨w.heap.size, xs.length, arr, rfl, hb, heap_alloc_new w _, Nat.le_refl _, by unfold maxLen; omega, by omega, ?_⟩⟩
  rw [ha, Nat.mul_one, List.take_of_length_le (by rw [ints_len]; exact Nat.le_refl _)]
structure ParOk (u : Tr) : Prop where
  few : u.length ≤ 1000
  par : ∀ i (h : i < u.length), 0 < i → u[i].parent = (pq u i : Int) ∧ pq u i < i
theorem nmT_get {u : Tr} {i : Nat} (h : i < u.length) : u[i].name = nmT u i := by unfold nmT; rw [nd_get h]
theorem insC_at {nm : Nat → St} {cs : List Nat} {i k : Nat} (hk : k ≤ cs.length) (hlow : ∀ j (hj : j < k) (hjl : j < cs.length), ltS (nm i) (nm cs[j]) = false) (hup : ∀ (h : k < cs.length), ltS (nm i) (nm cs[k]) = true) : insC nm cs i = cs.take k ++ i :: cs.drop k := by
  unfold insC
  have key : ∀ (cs : List Nat) (k : Nat), k ≤ cs.length → (∀ j (hj : j < k) (hjl : j < cs.length), ltS (nm i) (nm cs[j]) = false) → (∀ (h : k < cs.length), ltS (nm i) (nm cs[k]) = true) → cs.takeWhile (fun c => !ltS (nm i) (nm c)) = cs.take k ∧ cs.dropWhile (fun c => !ltS (nm i) (nm c)) = cs.drop k := by
    intro cs
    induction cs with
    | nil => intro k hk _ _; simp at hk; subst hk; exact ⟨rfl, rfl⟩
    | cons c cs ih =>
      intro k hk h1 h2
      cases k with
      | zero =>
        have := h2 (by simp)
        simp only [List.getElem_cons_zero] at this
        rw [List.takeWhile_cons, List.dropWhile_cons, this]
        exact ⟨rfl, rfl⟩
      | succ k =>
        have h0 := h1 0 (by omega) (by simp)
        simp only [List.getElem_cons_zero] at h0
        have := ih k (by simpa using hk) (fun j hj hjl => by have := h1 (j + 1) (by omega) (by simpa using hjl); simpa using this) (fun h => by have := h2 (by simpa using h); simpa using this)
        rw [List.takeWhile_cons, List.dropWhile_cons, h0]
        simp only [Bool.not_false, if_true]
        rw [this.1, this.2]
        exact ⟨rfl, rfl⟩
  rw [(key cs k hk hlow hup).1, (key cs k hk hlow hup).2]
theorem chl_len (q : Nat → Nat) (nm : Nat → St) (x : Nat) : ∀ m, (chl q nm x m).length ≤ m := by
  intro m
  induction m with
  | zero => simp [chl]
  | succ m ih =>
    rw [chl]
    split
    · unfold insC
      have := congrArg List.length (List.takeWhile_append_dropWhile (p := fun c => !ltS (nm m) (nm c)) (l := chl q nm x m))
      rw [List.length_append] at this
      rw [List.length_append, List.length_cons]; omega
    · omega
theorem walkF_pos (n : Nat) (q : Nat → Nat) (nm : Nat → St) (f x : Nat) : 1 ≤ (walkF n q nm f x).length := by
  cases f <;> simp [walkF]
theorem owns_cap2 {w : World} {base e size n c : Nat} {a : Option Addr} {xs : List Value} (h : w.ownsRow base e size (.slice a n c) n xs) : n ≤ c := by
  rcases h.2 with ⟨q, z⟩ | ⟨g, cap, cur, q, _, _, z, _⟩
  · cases q; omega
  · cases q; exact z
def GivesL (w : World) (l : List Nat) (e : Ending) (w' : World) : Prop := ∃ v, e = .returned v ∧ w'.ownsRow w.heap.size 3 1 v l.length (ints l) ∧ Gr w w'
theorem walk_ok (u : Tr) (hu : ParOk u) (hW : ∀ f x, u.length ≤ f + x → x < u.length → (walkF u.length (pq u) (nmT u) f x).length ≤ 1000) : ∀ f x, u.length ≤ f + x → x < u.length → ∀ (a : Option Addr) (cap : Nat) (w : World), SlOf 3 RNod w a u →
    Calls Tryz.prog 140 #[.agg #[.slice a u.length cap], .int .i64 x] w (GivesL w (walkF u.length (pq u) (nmT u) f x)) := by
  intro f
  induction f with
  | zero => intro x h1 h2; omega
  | succ f ih =>
    intro x hfx hx a cap w h
    have H := Lib.hid h
    have IH := Lib.hid ih
    have HU := Lib.hid hu
    have HWL := Lib.hid hW
    have few := hu.few
    clear h ih hu hW
    obtain ⟨P0, hP0⟩ : ∃ P, P = GivesL w (walkF u.length (pq u) (nmT u) (f + 1) x) := ⟨_, rfl⟩
    rw [← hP0]
    have HP0 := Lib.hid hP0
    clear hP0
    obtain ⟨i0, hi, hz0, hz1, hz2⟩ := info_parts infoInt
    go_enter Tryz.func140, Tryz.ntmps140
    have RX := Lib.hid ((Row.new w #[.slice a u.length cap] 25).alloc (.cells #[.int .i64 (x : Int)] 3))
    have O0 := Lib.hid (owns_newN (w.alloc (.cells #[.slice a u.length cap] 25)) [x] #[.int .i64 (x : Int)] rfl 3 w.heap.size _ 1 rfl rfl (by simp) (by omega))
    go_wp2_with fail
    obtain ⟨W, hWd⟩ : ∃ W : World, Hid (W = (w.alloc (.cells #[.slice a u.length cap] 25)).alloc (.cells #[.int .i64 (x : Int)] 3)) := ⟨_, Lib.hid rfl⟩
    have GW : Hid (Gr w W) := Lib.hid (by rw [hWd.out]; exact ((Gr.refl _).alloc _).alloc _)
    have hs1 : (w.alloc (.cells #[.slice a u.length cap] 25)).heap.size = w.heap.size + 1 := by simp
    rw [hs1] at O0
    rw [← hWd.out] at RX O0 ⊢
    obtain ⟨PB, hPB⟩ : ∃ N : Nat, Hid (w.heap.size = N) := ⟨_, Lib.hid rfl⟩
    have HPB := Lib.hid hPB.out
    rw [hPB.out] at RX O0 ⊢
    clear hWd hPB hs1
    obtain ⟨n, hn⟩ : ∃ n, u.length = n := ⟨_, rfl⟩
    have NL := Lib.hid hn
    rw [hn] at RX hfx hx few ⊢
    clear hn
    go_loopw [18, 6] (fun i v wr => ∃ k : Nat, k ≤ n ∧ i = .int .i64 k ∧ wr.ownsRow PB 3 1 v (chl (pq u) (nmT u) x k).length (ints (chl (pq u) (nmT u) x k)) ∧ (v.ownBlock = none ∨ v.ownBlock ≠ some (PB + 1)) ∧ Gr W wr) (fun i _ _ => n - (intOf i).toNat)
    case atStart => exact ⟨0, Nat.zero_le _, rfl, World.ownsRow_nil _ _ _ _, .inl rfl, Gr.refl _⟩
    case round =>
      obtain ⟨k, hk, rfl, how, hap, hg⟩ := hrel
      have OW := Lib.hid how
      have AP := Lib.hid hap
      have HG := Lib.hid hg
      obtain ⟨va, vc, hv⟩ := owns_slice how
      have x0 := (RX.out.gr hg).cell 0 (by simp)
      have hxb := has_of_cell x0
      clear how hap hg
      by_cases hlt : k < n
      · have hku : k < u.length := by rw [NL.out]; exact hlt
        obtain ⟨b, o, pa, pc, rfl, c0, c1, c2, hps, hpf, hw, hnl⟩ := nods_at (H.out.gr RNod.mono (GW.out.trans HG.out)) k hku
        have PK := Lib.hid (HU.out.par k hku)
        rw [nmT_get hku] at c1
        obtain ⟨pp, hpp⟩ : ∃ p, u[k].parent = p := ⟨_, rfl⟩
        obtain ⟨pl, hpl⟩ : ∃ p, u[k].props.length = p := ⟨_, rfl⟩
        obtain ⟨nk, hnk⟩ : ∃ p, nmT u k = p := ⟨_, rfl⟩
        have NK := Lib.hid hnk
        rw [hpp] at c0 PK
        rw [hpl] at c2
        rw [hnk] at c1
        have kn : (k : Int) < n := by omega
        have hh := has_of_cell c0
        clear hpp hpl hnk hps hpf hw hnl
        by_cases k0 : k = 0
        · have kb : ((k : Int) == 0) = true := by rw [beq_iff_eq]; omega
          have CS := Lib.hid (show chl (pq u) (nmT u) x (k + 1) = chl (pq u) (nmT u) x k by rw [chl, if_neg (fun h => h.1 k0)])
          clear k0
          by_cases hpx : pp = x
          · have b1 : (pp == (x : Int)) = true := by rw [beq_iff_eq]; exact hpx
            have b2 : (pp != (x : Int)) = false := by rw [bne_eq_false_iff_eq]; exact hpx
            clear hpx
            go_wp2_with fail
            go_roundw
            case rel => exact ⟨k + 1, by omega, by go_num, by rw [CS.out]; exact Gr.owns OW.out ((Gr.refl _).alloc _), AP.out, HG.out.alloc _⟩
            case measure => simp [intOf]; omega
          · have b1 : (pp == (x : Int)) = false := by rw [beq_eq_false_iff_ne]; exact hpx
            have b2 : (pp != (x : Int)) = true := by rw [bne_iff_ne]; exact hpx
            clear hpx
            go_wp2_with fail
            go_roundw
            case rel => exact ⟨k + 1, by omega, by go_num, by rw [CS.out]; exact Gr.owns OW.out ((Gr.refl _).alloc _), AP.out, HG.out.alloc _⟩
            case measure => simp [intOf]; omega
        · have kb : ((k : Int) == 0) = false := by rw [beq_eq_false_iff_ne]; omega
          have kp : 0 < k := by omega
          obtain ⟨p1, p2⟩ := PK.out kp
          by_cases hq : pq u k = x
          · have CS := Lib.hid (show chl (pq u) (nmT u) x (k + 1) = insC (nmT u) (chl (pq u) (nmT u) x k) k by rw [chl, if_pos ⟨k0, hq⟩])
            have CM : Hid (∀ c ∈ chl (pq u) (nmT u) x k, c < n ∧ c ≠ 0) := Lib.hid (fun c hc => by have := (mem_chl k).1 hc; exact ⟨by omega, this.2.1⟩)
            have CL := chl_len (pq u) (nmT u) x k
            obtain ⟨cs, hcs⟩ : ∃ cs, chl (pq u) (nmT u) x k = cs := ⟨_, rfl⟩
            rw [hcs] at OW CS CM CL hv
            have hpx : pp = x := by rw [p1, hq]
            have b1 : (pp == (x : Int)) = true := by rw [beq_iff_eq]; exact hpx
            have b2 : (pp != (x : Int)) = false := by rw [bne_eq_false_iff_eq]; exact hpx
            have BX := Lib.hid (Row.new wr #[.int .i64 pp, .string (bs nk), .slice pa pl pc] 57)
            clear k0 p1 p2 hq hpx hcs PK
            subst hv
            go_wp2_with fail
            obtain ⟨W4, hW4⟩ : ∃ W : World, Hid (W = wr.alloc (.cells #[.int .i64 pp, .string (bs nk), .slice pa pl pc] 57)) := ⟨_, Lib.hid rfl⟩
            have G4 : Hid (Gr wr W4) := Lib.hid (by rw [hW4.out]; exact (Gr.refl _).alloc _)
            rw [← hW4.out] at BX ⊢
            obtain ⟨PX, hPX⟩ : ∃ N : Nat, Hid (wr.heap.size = N) := ⟨_, Lib.hid rfl⟩
            rw [hPX.out] at BX ⊢
            have HG4 := Lib.hid (HG.out.trans G4.out)
            have OW4 := Lib.hid (Gr.owns OW.out G4.out)
            have SC : Hid (∀ wz, Gr W4 wz → ∀ j (hj : j < cs.length), ∃ g, va = some ⟨g, 0, none⟩ ∧ wz.cell? ⟨g, j, none⟩ = some (.int .i64 (cs[j] : Nat))) := Lib.hid (fun wz hz j hj => by
              obtain ⟨g, cap2, e1, _, _, hc⟩ := owns_cell (Gr.owns OW4.out hz) (by omega)
              cases e1
              exact ⟨g, rfl, by rw [hc j (by omega), ints_get hj]⟩)
            have e4 : Gr wr W4 := G4.out
            clear hW4 hPX c0 c1 c2 hh x0 hxb e4
            go_loopw [9] (fun i wq => ∃ j : Nat, j ≤ cs.length ∧ i = .int .i64 j ∧ (∀ m (hm : m < j) (hml : m < cs.length), ltS nk (nmT u cs[m]) = false) ∧ Gr W4 wq) (fun i _ => cs.length - (intOf i).toNat)
            case atStart => exact ⟨0, Nat.zero_le _, rfl, fun m hm => absurd hm (by omega), Gr.refl _⟩
            case round =>
              obtain ⟨j, hj, rfl, hall, hgq⟩ := hrel
              have HA := Lib.hid hall
              have HQ := Lib.hid hgq
              have x0 := (RX.out.gr (HG4.out.trans hgq)).cell 0 (by simp)
              have hxb := has_of_cell x0
              have y1 := (BX.out.gr hgq).cell 1 (by simp)
              have hyb := has_of_cell y1
              clear hall hgq
              by_cases hjl : j < cs.length
              · obtain ⟨g, rfl, d0⟩ := SC.out _ HQ.out j hjl
                have hd0 := has_of_cell d0
                have CJ := Lib.hid (CM.out _ (List.getElem_mem hjl))
                obtain ⟨cj, hcj⟩ : ∃ c, cs[j]'hjl = c := ⟨_, rfl⟩
                have HCJ := Lib.hid hcj
                rw [hcj] at d0 CJ
                have cju : cj < u.length := by rw [NL.out]; exact CJ.out.1
                obtain ⟨b5, o5, pa5, pc5, e5, f0, f1, f2, _⟩ := nods_at (H.out.gr RNod.mono (GW.out.trans (HG4.out.trans HQ.out))) cj cju
                cases e5
                rw [nmT_get cju] at f1
                obtain ⟨nj, hnj⟩ : ∃ c, nmT u cj = c := ⟨_, rfl⟩
                have HNJ := Lib.hid hnj
                rw [hnj] at f1
                have hf0 := has_of_cell f0
                have cn : (cj : Int) < n := by have := CJ.out.1; omega
                have cn2 : cj < n := CJ.out.1
                have jj : (j : Int) < cs.length := by omega
                clear hcj hnj f0 f2
                by_cases hlt2 : ltS nk nj = true
                · have q1 : (Op.bytesLess nj nk || nj == nk) = false := by
                    have h1 := vlt_not hlt2
                    unfold ltS at h1
                    rw [h1, Bool.false_or, beq_eq_false_iff_ne]
                    exact fun e => vlt_ne hlt2 e.symm
                  have UP := Lib.hid hlt2
                  have INS : Hid (insC (nmT u) cs k = cs.take j ++ k :: cs.drop j) := Lib.hid (insC_at (by omega) (fun m hm hml => by rw [NK.out]; exact HA.out m hm hml) (fun h => by rw [NK.out, HCJ.out, HNJ.out]; exact UP.out))
                  clear hlt2 UP
                  go_wp2_with fail
                  go_quiet (fail)
                  go_upto_region 10 with (fail)
                  obtain ⟨w2, hw2⟩ : ∃ W : World, Hid (wr.drewN nq = W) := ⟨_, Lib.hid rfl⟩
                  have GQ : Hid (Gr W4 w2) := Lib.hid (by rw [← hw2.out]; exact HQ.out.drewN _)
                  rw [hw2.out]
                  have O2 := Lib.hid (Gr.owns OW4.out GQ.out)
                  have BXs : Hid (Gr W w2) := Lib.hid (HG4.out.trans GQ.out)
                  have y0 := owns_cap2 O2.out
                  obtain ⟨ml, hml⟩ : ∃ m, cs.length = m := ⟨_, rfl⟩
                  have ML := Lib.hid hml
                  clear x0 hxb y1 hyb hw2 jj hd0 d0
                  rw [hml] at O2 y0 hj CL ⊢
                  clear hml
                  have y3 : (ml : Int) ≤ vc := by omega
                  have y4 : (j : Int) ≤ vc := by omega
                  have y5 : (j : Int) ≤ ml := by omega
                  have F2 : Hid (((some ⟨g, 0, none⟩ : Option Addr) = none ∧ ml = 0 ∧ vc = 0) ∨ ∃ g', (some ⟨g, 0, none⟩ : Option Addr) = some ⟨g', 0, none⟩) := Lib.hid (by
                    obtain ⟨h0, ⟨q, h1⟩ | ⟨g, cap, cur, q, _⟩⟩ := O2.out
                    · simp at q
                    · exact .inr ⟨_, rfl⟩)
                  go_cut [10] (fun v wx => wx.ownsRow w2.heap.size 3 1 v (1 + (ml - j)) (ints (k :: cs.drop j)) ∧ Gr w2 wx)
                  case first =>
                    rcases F2.out with ⟨h, _, _⟩ | ⟨g', h⟩
                    · cases h
                    · cases h
                      by_cases hkm : j < ml
                      · have hkm' : (j : Int) < ml := by omega
                        have S6 : Hid (Gets (w2.alloc (.cells #[.int .i64 (k : Int)] 3)) (some ⟨g, j, none⟩) (ml - j) 1 (ints (cs.drop j))) := Lib.hid (by
                          refine ⟨by rw [ints_len, List.length_drop, ML.out]; omega, fun _ => ⟨_, rfl, fun i u hu => ?_⟩⟩
                          rw [ints_drop, List.getElem?_drop] at hu
                          obtain ⟨hj2, _⟩ := List.getElem?_eq_some_iff.1 hu
                          rw [ints_len] at hj2
                          obtain ⟨g2, e2, q⟩ := SC.out _ (GQ.out.alloc (.cells #[.int .i64 (k : Int)] 3)) (j + i) hj2
                          cases e2
                          rw [ints_get hj2] at hu
                          rw [Addr.add_lit, q, hu])
                        go_wp2_with (at_builtin; refine wpList_append_gets _ rfl _ _ 22 rfl w2.heap.size 3 i0 (.int .i64 0) 1 8 Tryz.underlying22 hi hz0 hz1 hz2 rfl (by decide) (.slice (some ⟨w2.heap.size, 0, none⟩) 1 1) 1 (ints [k]) rfl (owns_newN w2 [k] _ rfl _ _ _ 1 rfl rfl (Nat.le_refl _) (by omega)) (some ⟨g, j, none⟩) (ml - j) (vc - j) (ints (cs.drop j)) rfl S6.out (ints_one _) (by unfold maxLen; omega) (by omega) (by simp) ?_; intro v1 w3 hown hgrow hloc; have O3 := Lib.hid hown; have G3 : Hid (Gr w2 w3) := Lib.hid (((Gr.refl w2).alloc _).grown hgrow (fun k e => by cases e; exact Nat.le_refl _)); clear hown hgrow hloc)
                        go_meet
                        exact ⟨by have := O3.out; simpa [ints, nums] using this, G3.out⟩
                      · obtain rfl : j = ml := by omega
                        have DZ : Hid (cs.drop j = []) := Lib.hid (by rw [List.drop_eq_nil_iff, ML.out]; exact Nat.le_refl _)
                        by_cases hmc : j < vc
                        · have hmc' : (j : Int) < vc := by omega
                          go_wp2_with (at_builtin; refine wpList_append_gets _ rfl _ _ 22 rfl w2.heap.size 3 i0 (.int .i64 0) 1 8 Tryz.underlying22 hi hz0 hz1 hz2 rfl (by decide) (.slice (some ⟨w2.heap.size, 0, none⟩) 1 1) 1 (ints [k]) rfl (owns_newN w2 [k] _ rfl _ _ _ 1 rfl rfl (Nat.le_refl _) (by omega)) (some ⟨g, j, none⟩) 0 (vc - j) (ints []) rfl ⟨rfl, fun h => absurd rfl h⟩ (ints_one _) (by unfold maxLen; omega) (by omega) (by simp) ?_; intro v1 w3 hown hgrow hloc; have O3 := Lib.hid hown; have G3 : Hid (Gr w2 w3) := Lib.hid (((Gr.refl w2).alloc _).grown hgrow (fun k e => by cases e; exact Nat.le_refl _)); clear hown hgrow hloc)
                          go_meet
                          exact ⟨by have := O3.out; rw [DZ.out]; simpa [ints, nums] using this, G3.out⟩
                        · obtain rfl : vc = j := by omega
                          go_wp2_with (at_builtin; refine wpList_append_gets _ rfl _ _ 22 rfl w2.heap.size 3 i0 (.int .i64 0) 1 8 Tryz.underlying22 hi hz0 hz1 hz2 rfl (by decide) (.slice (some ⟨w2.heap.size, 0, none⟩) 1 1) 1 (ints [k]) rfl (owns_newN w2 [k] _ rfl _ _ _ 1 rfl rfl (Nat.le_refl _) (by omega)) (some ⟨g, 0, none⟩) 0 0 (ints []) rfl ⟨rfl, fun h => absurd rfl h⟩ (ints_one _) (by unfold maxLen; omega) (by omega) (by simp) ?_; intro v1 w3 hown hgrow hloc; have O3 := Lib.hid hown; have G3 : Hid (Gr w2 w3) := Lib.hid (((Gr.refl w2).alloc _).grown hgrow (fun k e => by cases e; exact Nat.le_refl _)); clear hown hgrow hloc)
                          go_meet
                          exact ⟨by have := O3.out; rw [DZ.out]; simpa [ints, nums] using this, G3.out⟩
                  obtain ⟨ho3, hg3⟩ := hcut
                  obtain ⟨g1, c1, rfl, hc1, _, hcell⟩ := owns_cell ho3 (by omega)
                  have P7 : Hid (∀ bb, (some ⟨g, 0, none⟩ : Option Addr) = some bb → ∀ i u, (ints (cs.take j))[i]? = some u → wc.cell? (bb.add i) = some u) := Lib.hid (by
                    intro bb hbb i u hu
                    obtain ⟨hi2, hu⟩ := List.getElem?_eq_some_iff.1 hu
                    have hj2 : i < j ∧ i < cs.length := by have := hi2; rw [ints_len, List.length_take] at this; omega
                    obtain ⟨g2, e2, q⟩ := SC.out _ (GQ.out.trans hg3) i hj2.2
                    have e3 := hbb.symm.trans e2
                    cases e3
                    rw [Addr.add_lit, Nat.zero_add, q, ← hu]
                    have h9 := ints_get (l := cs.take j) (k := i) (by rw [List.length_take]; omega)
                    rw [List.getElem?_eq_getElem (by rw [ints_len, List.length_take]; omega)] at h9
                    rw [Option.some.inj h9, List.getElem_take])
                  have Q7 : Hid (∀ i u, (ints (k :: cs.drop j))[i]? = some u → wc.cell? ((⟨g1, 0, none⟩ : Addr).add i) = some u) := Lib.hid (by
                    intro i u hu
                    obtain ⟨hi2, _⟩ := List.getElem?_eq_some_iff.1 hu
                    have hj2 : i < (1 + (ml - j)) * 1 := by have := hi2; rw [ints_len, List.length_cons, List.length_drop, ML.out] at this; omega
                    rw [Addr.add_lit, Nat.zero_add, hcell i hj2, hu])
                  have A7 : Hid ((some ⟨g, 0, none⟩ : Option Addr) = none → j = 0 ∧ j = 0) := Lib.hid fun q => by cases q
                  have SZ : Hid (PB + 1 < wc.heap.size) := Lib.hid (by
                    have h1 := hg3.size; have h2 := BXs.out.size; have h3 := owns_block O0.out (PB + 1) rfl; omega)
                  have BC := Lib.hid (BXs.out.trans hg3)
                  have hlen2 : Hid (j + (1 + (ml - j)) = (insC (nmT u) cs k).length) := Lib.hid (by
                    rw [INS.out, List.length_append, List.length_cons, List.length_take, List.length_drop, ML.out]; omega)
                  have hint : Hid (ints (cs.take j) ++ ints (k :: cs.drop j) = ints (insC (nmT u) cs k)) := Lib.hid (by rw [INS.out, ints_app])
                  have TL : Hid ((ints (cs.take j)).length = j * 1) := Lib.hid (by rw [ints_len, List.length_take, ML.out]; omega)
                  have DL : Hid ((ints (k :: cs.drop j)).length = (1 + (ml - j)) * 1) := Lib.hid (by rw [ints_len, List.length_cons, List.length_drop, ML.out]; omega)
                  rcases F2.out with ⟨h, _, _⟩ | ⟨g', h⟩
                  · cases h
                  · cases h
                    go_wp2_with (at_builtin; refine wpList_append_grows _ rfl _ _ 22 rfl 3 i0 (.int .i64 0) 1 8 Tryz.underlying22 hi hz0 hz1 hz2 rfl (by decide) (some ⟨g, 0, none⟩) j j (ints (cs.take j)) rfl A7.out TL.out P7.out ⟨g1, 0, none⟩ (1 + (ml - j)) c1 (ints (k :: cs.drop j)) rfl DL.out Q7.out (ints_one _) (by omega) (by unfold maxLen; omega) (by omega) ?_; intro v2 w4 hown hgrow; have O4 := Lib.hid hown; have G5 := Lib.hid hgrow; clear hown hgrow)
                    go_roundw
                    case rel =>
                      refine ⟨k + 1, by omega, by go_num, ?_, ?_, BC.out.trans ((Gr.refl _).grown G5.out (fun k e => by cases e))⟩
                      · rw [CS.out, ← hlen2.out, ← hint.out]
                        exact owns_low O4.out (by have := SZ.out; omega)
                      · refine .inr (fun e => ?_)
                        have := owns_block O4.out _ e
                        have := SZ.out
                        omega
                    case measure => simp [intOf]; omega
                · rw [Bool.not_eq_true] at hlt2
                  have q1 : (Op.bytesLess nj nk || nj == nk) = true := by
                    rcases vlt_tot nj nk with h1 | h1 | h1
                    · unfold ltS at h1; rw [h1, Bool.true_or]
                    · subst h1; simp
                    · rw [h1] at hlt2; cases hlt2
                  have LO := Lib.hid hlt2
                  clear hlt2
                  go_wp2_with fail
                  go_quiet (fail)
                  go_wp2_with fail
                  go_roundw
                  case rel =>
                    refine ⟨j + 1, by omega, by go_num, fun m hm hml => ?_, HQ.out.drewN _⟩
                    by_cases e : m = j
                    · subst e; rw [HCJ.out, HNJ.out]; exact LO.out
                    · exact HA.out m (by omega) hml
                  case measure => simp [intOf]; omega
              · have INS : Hid (insC (nmT u) cs k = cs.take j ++ k :: cs.drop j) := Lib.hid (insC_at (by omega) (fun m hm hml => by rw [NK.out]; exact HA.out m hm hml) (fun h => absurd h hjl))
                have jj : ¬ (j : Int) < cs.length := by omega
                go_wp2_with fail
                go_quiet (fail)
                go_upto_region 10 with (fail)
                obtain ⟨w2, hw2⟩ : ∃ W : World, Hid (wr.drewN nq = W) := ⟨_, Lib.hid rfl⟩
                have GQ : Hid (Gr W4 w2) := Lib.hid (by rw [← hw2.out]; exact HQ.out.drewN _)
                rw [hw2.out]
                have O2 := Lib.hid (Gr.owns OW4.out GQ.out)
                have BXs : Hid (Gr W w2) := Lib.hid (HG4.out.trans GQ.out)
                have y0 := owns_cap2 O2.out
                obtain ⟨ml, hml⟩ : ∃ m, cs.length = m := ⟨_, rfl⟩
                have ML := Lib.hid hml
                clear x0 hxb y1 hyb hw2 hjl jj
                rw [hml] at O2 y0 hj CL ⊢
                clear hml
                have y3 : (ml : Int) ≤ vc := by omega
                have y4 : (j : Int) ≤ vc := by omega
                have y5 : (j : Int) ≤ ml := by omega
                have F2 : Hid ((va = none ∧ ml = 0 ∧ vc = 0) ∨ ∃ g, va = some ⟨g, 0, none⟩) := Lib.hid (by
                  obtain ⟨h0, ⟨q, h1⟩ | ⟨g, cap, cur, q, _⟩⟩ := O2.out
                  · simp only [Value.slice.injEq] at q; exact .inl ⟨q.1, h1, q.2.2⟩
                  · simp only [Value.slice.injEq] at q; exact .inr ⟨g, q.1⟩)
                go_cut [10] (fun v wx => wx.ownsRow w2.heap.size 3 1 v (1 + (ml - j)) (ints (k :: cs.drop j)) ∧ Gr w2 wx)
                case first =>
                  rcases F2.out with ⟨rfl, rfl, rfl⟩ | ⟨g, rfl⟩
                  · obtain rfl : j = 0 := by omega
                    obtain rfl : cs = [] := List.eq_nil_of_length_eq_zero ML.out
                    go_wp2_with fail
                    go_meet
                    exact ⟨owns_newN w2 [k] _ rfl _ _ _ 1 rfl rfl (Nat.le_refl _) (by omega), (Gr.refl _).alloc _⟩
                  · by_cases hkm : j < ml
                    · have hkm' : (j : Int) < ml := by omega
                      have S6 : Hid (Gets (w2.alloc (.cells #[.int .i64 (k : Int)] 3)) (some ⟨g, j, none⟩) (ml - j) 1 (ints (cs.drop j))) := Lib.hid (by
                        refine ⟨by rw [ints_len, List.length_drop, ML.out]; omega, fun _ => ⟨_, rfl, fun i u hu => ?_⟩⟩
                        rw [ints_drop, List.getElem?_drop] at hu
                        obtain ⟨hj2, _⟩ := List.getElem?_eq_some_iff.1 hu
                        rw [ints_len] at hj2
                        obtain ⟨g2, e2, q⟩ := SC.out _ (GQ.out.alloc (.cells #[.int .i64 (k : Int)] 3)) (j + i) hj2
                        cases e2
                        rw [ints_get hj2] at hu
                        rw [Addr.add_lit, q, hu])
                      go_wp2_with (at_builtin; refine wpList_append_gets _ rfl _ _ 22 rfl w2.heap.size 3 i0 (.int .i64 0) 1 8 Tryz.underlying22 hi hz0 hz1 hz2 rfl (by decide) (.slice (some ⟨w2.heap.size, 0, none⟩) 1 1) 1 (ints [k]) rfl (owns_newN w2 [k] _ rfl _ _ _ 1 rfl rfl (Nat.le_refl _) (by omega)) (some ⟨g, j, none⟩) (ml - j) (vc - j) (ints (cs.drop j)) rfl S6.out (ints_one _) (by unfold maxLen; omega) (by omega) (by simp) ?_; intro v1 w3 hown hgrow hloc; have O3 := Lib.hid hown; have G3 : Hid (Gr w2 w3) := Lib.hid (((Gr.refl w2).alloc _).grown hgrow (fun k e => by cases e; exact Nat.le_refl _)); clear hown hgrow hloc)
                      go_meet
                      exact ⟨by have := O3.out; simpa [ints, nums] using this, G3.out⟩
                    · obtain rfl : j = ml := by omega
                      have DZ : Hid (cs.drop j = []) := Lib.hid (by rw [List.drop_eq_nil_iff, ML.out]; exact Nat.le_refl _)
                      by_cases hmc : j < vc
                      · have hmc' : (j : Int) < vc := by omega
                        go_wp2_with (at_builtin; refine wpList_append_gets _ rfl _ _ 22 rfl w2.heap.size 3 i0 (.int .i64 0) 1 8 Tryz.underlying22 hi hz0 hz1 hz2 rfl (by decide) (.slice (some ⟨w2.heap.size, 0, none⟩) 1 1) 1 (ints [k]) rfl (owns_newN w2 [k] _ rfl _ _ _ 1 rfl rfl (Nat.le_refl _) (by omega)) (some ⟨g, j, none⟩) 0 (vc - j) (ints []) rfl ⟨rfl, fun h => absurd rfl h⟩ (ints_one _) (by unfold maxLen; omega) (by omega) (by simp) ?_; intro v1 w3 hown hgrow hloc; have O3 := Lib.hid hown; have G3 : Hid (Gr w2 w3) := Lib.hid (((Gr.refl w2).alloc _).grown hgrow (fun k e => by cases e; exact Nat.le_refl _)); clear hown hgrow hloc)
                        go_meet
                        exact ⟨by have := O3.out; rw [DZ.out]; simpa [ints, nums] using this, G3.out⟩
                      · obtain rfl : vc = j := by omega
                        go_wp2_with (at_builtin; refine wpList_append_gets _ rfl _ _ 22 rfl w2.heap.size 3 i0 (.int .i64 0) 1 8 Tryz.underlying22 hi hz0 hz1 hz2 rfl (by decide) (.slice (some ⟨w2.heap.size, 0, none⟩) 1 1) 1 (ints [k]) rfl (owns_newN w2 [k] _ rfl _ _ _ 1 rfl rfl (Nat.le_refl _) (by omega)) (some ⟨g, 0, none⟩) 0 0 (ints []) rfl ⟨rfl, fun h => absurd rfl h⟩ (ints_one _) (by unfold maxLen; omega) (by omega) (by simp) ?_; intro v1 w3 hown hgrow hloc; have O3 := Lib.hid hown; have G3 : Hid (Gr w2 w3) := Lib.hid (((Gr.refl w2).alloc _).grown hgrow (fun k e => by cases e; exact Nat.le_refl _)); clear hown hgrow hloc)
                        go_meet
                        exact ⟨by have := O3.out; rw [DZ.out]; simpa [ints, nums] using this, G3.out⟩
                obtain ⟨ho3, hg3⟩ := hcut
                obtain ⟨g1, c1, rfl, hc1, _, hcell⟩ := owns_cell ho3 (by omega)
                have P7 : Hid (∀ bb, va = some bb → ∀ i u, (ints (cs.take j))[i]? = some u → wc.cell? (bb.add i) = some u) := Lib.hid (by
                  intro bb hbb i u hu
                  obtain ⟨hi2, hu⟩ := List.getElem?_eq_some_iff.1 hu
                  have hj2 : i < j ∧ i < cs.length := by have := hi2; rw [ints_len, List.length_take] at this; omega
                  obtain ⟨g2, e2, q⟩ := SC.out _ (GQ.out.trans hg3) i hj2.2
                  have e3 := hbb.symm.trans e2
                  cases e3
                  rw [Addr.add_lit, Nat.zero_add, q, ← hu]
                  have h9 := ints_get (l := cs.take j) (k := i) (by rw [List.length_take]; omega)
                  rw [List.getElem?_eq_getElem (by rw [ints_len, List.length_take]; omega)] at h9
                  rw [Option.some.inj h9, List.getElem_take])
                have Q7 : Hid (∀ i u, (ints (k :: cs.drop j))[i]? = some u → wc.cell? ((⟨g1, 0, none⟩ : Addr).add i) = some u) := Lib.hid (by
                  intro i u hu
                  obtain ⟨hi2, _⟩ := List.getElem?_eq_some_iff.1 hu
                  have hj2 : i < (1 + (ml - j)) * 1 := by have := hi2; rw [ints_len, List.length_cons, List.length_drop, ML.out] at this; omega
                  rw [Addr.add_lit, Nat.zero_add, hcell i hj2, hu])
                have A7 : Hid (va = none → j = 0 ∧ j = 0) := Lib.hid fun q => by
                  rcases F2.out with ⟨_, h, _⟩ | ⟨g, h⟩
                  · omega
                  · rw [q] at h; cases h
                have SZ : Hid (PB + 1 < wc.heap.size) := Lib.hid (by
                  have h1 := hg3.size; have h2 := BXs.out.size; have h3 := owns_block O0.out (PB + 1) rfl; omega)
                have BC := Lib.hid (BXs.out.trans hg3)
                have hlen2 : Hid (j + (1 + (ml - j)) = (insC (nmT u) cs k).length) := Lib.hid (by
                  rw [INS.out, List.length_append, List.length_cons, List.length_take, List.length_drop, ML.out]; omega)
                have hint : Hid (ints (cs.take j) ++ ints (k :: cs.drop j) = ints (insC (nmT u) cs k)) := Lib.hid (by rw [INS.out, ints_app])
                have TL : Hid ((ints (cs.take j)).length = j * 1) := Lib.hid (by rw [ints_len, List.length_take, ML.out]; omega)
                have DL : Hid ((ints (k :: cs.drop j)).length = (1 + (ml - j)) * 1) := Lib.hid (by rw [ints_len, List.length_cons, List.length_drop, ML.out]; omega)
                rcases F2.out with ⟨rfl, rfl, rfl⟩ | ⟨g, rfl⟩
                · obtain rfl : j = 0 := by omega
                  go_wp2_with (at_builtin; refine wpList_append_grows _ rfl _ _ 22 rfl 3 i0 (.int .i64 0) 1 8 Tryz.underlying22 hi hz0 hz1 hz2 rfl (by decide) none 0 0 (ints (cs.take 0)) rfl A7.out TL.out P7.out ⟨g1, 0, none⟩ 1 c1 (ints (k :: cs.drop 0)) rfl DL.out Q7.out (ints_one _) (by omega) (by unfold maxLen; omega) (by omega) ?_; intro v2 w4 hown hgrow; have O4 := Lib.hid hown; have G5 := Lib.hid hgrow; clear hown hgrow)
                  go_roundw
                  case rel =>
                    refine ⟨k + 1, by omega, by go_num, ?_, ?_, BC.out.trans ((Gr.refl _).grown G5.out (fun k e => by cases e))⟩
                    · rw [CS.out, ← hlen2.out, ← hint.out]
                      exact owns_low O4.out (by have := SZ.out; omega)
                    · refine .inr (fun e => ?_)
                      have := owns_block O4.out _ e
                      have := SZ.out
                      omega
                  case measure => simp [intOf]; omega
                · go_wp2_with (at_builtin; refine wpList_append_grows _ rfl _ _ 22 rfl 3 i0 (.int .i64 0) 1 8 Tryz.underlying22 hi hz0 hz1 hz2 rfl (by decide) (some ⟨g, 0, none⟩) j j (ints (cs.take j)) rfl A7.out TL.out P7.out ⟨g1, 0, none⟩ (1 + (ml - j)) c1 (ints (k :: cs.drop j)) rfl DL.out Q7.out (ints_one _) (by omega) (by unfold maxLen; omega) (by omega) ?_; intro v2 w4 hown hgrow; have O4 := Lib.hid hown; have G5 := Lib.hid hgrow; clear hown hgrow)
                  go_roundw
                  case rel =>
                    refine ⟨k + 1, by omega, by go_num, ?_, ?_, BC.out.trans ((Gr.refl _).grown G5.out (fun k e => by cases e))⟩
                    · rw [CS.out, ← hlen2.out, ← hint.out]
                      exact owns_low O4.out (by have := SZ.out; omega)
                    · refine .inr (fun e => ?_)
                      have := owns_block O4.out _ e
                      have := SZ.out
                      omega
                  case measure => simp [intOf]; omega
          · have hpx : ¬ pp = x := by rw [p1]; omega
            have CS := Lib.hid (show chl (pq u) (nmT u) x (k + 1) = chl (pq u) (nmT u) x k by rw [chl, if_neg (fun h => hq h.2)])
            have b1 : (pp == (x : Int)) = false := by rw [beq_eq_false_iff_ne]; exact hpx
            have b2 : (pp != (x : Int)) = true := by rw [bne_iff_ne]; exact hpx
            clear hpx k0 p1 p2 hq
            go_wp2_with fail
            go_roundw
            case rel => exact ⟨k + 1, by omega, by go_num, by rw [CS.out]; exact Gr.owns OW.out ((Gr.refl _).alloc _), AP.out, HG.out.alloc _⟩
            case measure => simp [intOf]; omega
      · obtain rfl : k = n := by omega
        have CM : Hid (∀ c ∈ chl (pq u) (nmT u) x k, c < k ∧ x < c) := Lib.hid (fun c hc => by
          have h1 := (mem_chl k).1 hc
          have h2 := (HU.out.par c (by rw [NL.out]; exact h1.1) (by omega)).2
          exact ⟨h1.1, by omega⟩)
        have CL := chl_len (pq u) (nmT u) x k
        have FIN : Hid (walkF u.length (pq u) (nmT u) (f + 1) x = x :: (chl (pq u) (nmT u) x k).flatMap (walkF u.length (pq u) (nmT u) f)) := Lib.hid (by rw [walkF, NL.out])
        obtain ⟨cs, hcs⟩ : ∃ cs, chl (pq u) (nmT u) x k = cs := ⟨_, rfl⟩
        rw [hcs] at OW CM CL FIN hv
        subst hv
        have OO := Lib.hid (Gr.owns O0.out HG.out)
        obtain ⟨ml, hml⟩ : ∃ m, cs.length = m := ⟨_, rfl⟩
        have ML := Lib.hid hml
        rw [hml] at OW AP CL ⊢
        clear hcs hml hlt hk
        obtain ⟨w4, rfl⟩ : ∃ wo, wo = wr := ⟨_, rfl⟩
        go_wp2_with fail
        go_loopw [66, 5] (fun i v wr => ∃ (j : Nat) (l : List Nat), j ≤ ml ∧ i = .int .i64 j ∧ wr.ownsRow PB 3 1 v l.length (ints l) ∧ l = x :: (cs.take j).flatMap (walkF u.length (pq u) (nmT u) f) ∧ l.length ≤ 1000 * (j + 1) ∧ wr.ownsRow PB 3 1 (.slice va ml vc) ml (ints cs) ∧ ((Value.slice va ml vc).ownBlock = none ∨ (Value.slice va ml vc).ownBlock ≠ v.ownBlock) ∧ Gr w wr ∧ Row wr PB 25 [.slice a k cap]) (fun i _ _ => ml - (intOf i).toNat)
        case atStart => exact ⟨0, [x], by omega, rfl, OO.out, by simp, by simp, OW.out, AP.out, GW.out.trans HG.out, RX.out.gr HG.out⟩
        case round =>
          obtain ⟨j, l, hj, rfl, hol, hl, hll, hoc, hap, hg, hrx⟩ := hrel
          have RX2 := Lib.hid hrx
          have OL := Lib.hid hol
          have HL := Lib.hid hl
          have OC := Lib.hid hoc
          have AP2 := Lib.hid hap
          have HG2 := Lib.hid hg
          obtain ⟨xa, xc, hxv⟩ := owns_slice hol
          have x0 := hrx.cell 0 (by simp)
          have hxb := has_of_cell x0
          clear hol hl hoc hap hg hrx
          by_cases hjl : j < ml
          · have hjc : j < cs.length := by rw [ML.out]; exact hjl
            obtain ⟨g, cap2, e1, _, _, hc⟩ := owns_cell OC.out (by omega)
            have d0 := hc j (by omega)
            rw [ints_get hjc] at d0
            simp only [Value.slice.injEq] at e1
            obtain ⟨e1, -, e9⟩ := e1
            subst e9
            have HTK := Lib.hid (List.take_succ_eq_append_getElem hjc)
            have CJ := Lib.hid (CM.out _ (List.getElem_mem hjc))
            obtain ⟨c, hcc⟩ : ∃ c, cs[j]'hjc = c := ⟨_, rfl⟩
            rw [hcc] at d0 HTK CJ
            have hd0 := has_of_cell d0
            have jj : (j : Int) < ml := by omega
            have IC := Lib.hid (IH.out c (by have := CJ.out.2; rw [NL.out]; omega) (by rw [NL.out]; exact CJ.out.1))
            have LC := Lib.hid (HWL.out f c (by have := CJ.out.2; rw [NL.out]; omega) (by rw [NL.out]; exact CJ.out.1))
            have LP := Lib.hid (walkF_pos u.length (pq u) (nmT u) f c)
            rw [NL.out] at IC
            obtain ⟨lc, hlc⟩ : ∃ l, walkF k (pq u) (nmT u) f c = l := ⟨_, rfl⟩
            rw [NL.out, hlc] at LC LP
            rw [hlc] at IC
            have HLC := Lib.hid hlc
            subst e1
            subst hxv
            clear hc hcc hlc
            go_wp2_with fail
            refine (IC.out a cap wr (H.out.gr RNod.mono HG2.out)).mono ?_
            rintro e w5 ⟨v3, rfl, ho3, hg3⟩
            have lp := LP.out
            obtain ⟨g3, cap3, rfl, _, _, hc3⟩ := owns_cell ho3 (by omega)
            have NEWS : Hid (∀ i u, (ints lc)[i]? = some u → w5.cell? ((⟨g3, 0, none⟩ : Addr).add i) = some u) := Lib.hid (by
              intro i u hu
              obtain ⟨hi2, _⟩ := List.getElem?_eq_some_iff.1 hu
              rw [ints_len] at hi2
              rw [Addr.add_lit, Nat.zero_add, hc3 i (by omega), hu])
            have OL5 := Lib.hid (Gr.owns OL.out hg3)
            have OC5 := Lib.hid (Gr.owns OC.out hg3)
            have HG5 := Lib.hid (HG2.out.trans hg3)
            have SZ5 : Hid (PB ≤ w5.heap.size) := Lib.hid (by have h1 := HG5.out.size; rw [HPB.out] at h1; exact h1)
            have RX5 := Lib.hid (RX2.out.gr hg3)
            have lcl := LC.out
            clear ho3 hg3 hc3
            go_wp2_with (at_builtin; refine wpList_append_own_at _ rfl _ _ 22 rfl PB 3 i0 (.int .i64 0) 1 8 Tryz.underlying22 hi hz0 hz1 hz2 rfl (by decide) _ l.length (ints l) rfl OL5.out ⟨g3, 0, none⟩ lc.length cap3 (ints lc) rfl (by rw [ints_len]; omega) NEWS.out (ints_one _) (by unfold maxLen; omega) (by omega) SZ5.out ?_; intro v' wz hown' hgrow hnil hat; have HOz := Lib.hid hown'; have HGz := Lib.hid hgrow; have HAz := Lib.hid hat; clear hown' hgrow hnil hat)
            go_roundw
            case rel =>
              refine ⟨j + 1, l ++ lc, by omega, by go_num, ?_, ?_, ?_, OC5.out.kept HGz.out AP2.out, ?_, HG5.out.grown HGz.out (fun i e => ?_), RX5.out.kept HGz.out (RX5.out.ty.ne OL5.out (by decide))⟩
              · rw [List.length_append, ints_app]; exact HOz.out
              · rw [HTK.out, List.flatMap_append, HL.out, NL.out]
                simp [HLC.out]
              · rw [List.length_append]
                have := LC.out
                omega
              · rcases HAz.out with q | q
                · rw [q]; exact AP2.out
                · refine .inr (fun e => ?_)
                  have := owns_block OC5.out _ (e.trans q)
                  omega
              · rw [HPB.out]; exact (owns_block OL5.out _ e).1
            case measure => simp [intOf]; omega
          · obtain rfl : j = ml := by omega
            have e9 : cs.take j = cs := List.take_of_length_le (by rw [ML.out]; exact Nat.le_refl _)
            rw [e9] at HL
            clear e9
            subst hxv
            go_wp2_with fail
            rw [HP0.out]
            refine ⟨_, rfl, ?_, HG2.out⟩
            rw [FIN.out, ← HL.out, HPB.out]
            exact OL.out
theorem VT.parOk {ts : Tr} (h : VT ts) : ParOk ts := ⟨by have := h.few; omega, fun i hi h0 => ⟨(h.nod h0 hi).1, (h.nod h0 hi).2.1⟩⟩
theorem VT.walkLen {ts : Tr} (h : VT ts) : ∀ f x, ts.length ≤ f + x → x < ts.length → (walkF ts.length (pq ts) (nmT ts) f x).length ≤ 1000 := fun f x h1 h2 => by
  obtain ⟨e, he⟩ := end_ex ts.length (pq ts) x h2
  rw [walk_range h.shp f x e h1 h2 he, List.length_range']
  have := h.few
  have := he.hi
  omega
theorem ordered_ok (ts : Tr) (a : Option Addr) (cap : Nat) (w : World) (h : SlOf 3 RNod w a ts) (hv : VT ts) :
    Calls Tryz.prog 92 #[.agg #[.slice a ts.length cap]] w (Grows w (.bool true)) := by
  have H := Lib.hid h
  have HV := Lib.hid hv
  have l1 := hv.pos
  have l2 := hv.few
  have WK := Lib.hid (walk_ok ts hv.parOk hv.walkLen ts.length 0 (by omega) l1 a cap)
  rw [walk_all hv.shp l1 (Nat.le_refl _)] at WK
  clear h hv
  go_enter Tryz.func92, Tryz.ntmps92
  have RX := Lib.hid (Row.new w #[.slice a ts.length cap] 25)
  go_wp2_with fail
  obtain ⟨W, hW⟩ : ∃ W : World, Hid (W = w.alloc (.cells #[.slice a ts.length cap] 25)) := ⟨_, Lib.hid rfl⟩
  have GW : Hid (Gr w W) := Lib.hid (by rw [hW.out]; exact (Gr.refl _).alloc _)
  rw [← hW.out] at RX ⊢
  obtain ⟨PB, hPB⟩ : ∃ N : Nat, Hid (w.heap.size = N) := ⟨_, Lib.hid rfl⟩
  rw [hPB.out] at RX ⊢
  clear hW hPB
  refine (WK.out W (H.out.gr RNod.mono GW.out)).mono ?_
  rintro e w1 ⟨v, rfl, how, hg1⟩
  obtain ⟨va, vc, rfl⟩ := owns_slice how
  rw [List.length_range] at how ⊢
  have OW := Lib.hid how
  have G1 := Lib.hid (GW.out.trans hg1)
  have RX1 := Lib.hid (RX.out.gr hg1)
  clear how hg1 WK
  go_wp2_with fail
  go_loopw [11] (fun i wr => ∃ k : Nat, k ≤ ts.length ∧ i = .int .i64 k ∧ Gr w1 wr) (fun i _ => ts.length - (intOf i).toNat)
  case atStart => exact ⟨0, Nat.zero_le _, rfl, Gr.refl _⟩
  case round =>
    obtain ⟨k, hk, rfl, hg⟩ := hrel
    have HG := Lib.hid hg
    clear hg
    by_cases hlt : k < ts.length
    · obtain ⟨g, cap2, e1, _, _, hc⟩ := owns_cell (Gr.owns OW.out HG.out) (by omega)
      simp only [Value.slice.injEq] at e1
      obtain ⟨e1, -, e9⟩ := e1
      subst e1 e9
      have d0 := hc k (by omega)
      rw [ints_get (by simpa using hlt), List.getElem_range] at d0
      have hd0 := has_of_cell d0
      have kk : (k : Int) < ts.length := by omega
      clear hc
      go_wp2_with fail
      go_roundw
      case rel => exact ⟨k + 1, by omega, by go_num, HG.out⟩
      case measure => simp [intOf]; omega
    · obtain rfl : k = ts.length := by omega
      have x0 := (RX1.out.gr HG.out).cell 0 (by simp)
      have hxb := has_of_cell x0
      go_wp2_with fail
      obtain ⟨w4, rfl⟩ : ∃ wo, wo = wr := ⟨_, rfl⟩
      have G4 := Lib.hid (G1.out.trans HG.out)
      go_loopw [23] (fun i wr => ∃ k : Nat, k ≤ ts.length ∧ i = .int .i64 k ∧ Gr w4 wr) (fun i _ => ts.length - (intOf i).toNat)
      case atStart => exact ⟨0, Nat.zero_le _, rfl, Gr.refl _⟩
      case round =>
        obtain ⟨k, hk, rfl, hg⟩ := hrel
        have HG5 := Lib.hid hg
        clear hg x0 hxb
        by_cases hlt : k < ts.length
        · obtain ⟨b, o, pa, pc, rfl, c0, c1, c2, hps, hpf, hw, hnl⟩ := nods_at (H.out.gr RNod.mono (G4.out.trans HG5.out)) k hlt
          have PP := Lib.hid (HV.out.props hlt)
          obtain ⟨n, hn⟩ : ∃ n, ts[k] = n := ⟨_, rfl⟩
          rw [hn] at c0 c1 c2 hps PP
          have n10 := PP.out.len
          have HPS := Lib.hid hps
          have hh := has_of_cell c0
          have BX := Lib.hid (Row.new wr #[.int .i64 n.parent, .string (bs n.name), .slice pa n.props.length pc] 57)
          clear hn hps hpf hw hnl
          go_wp2_with fail
          obtain ⟨W6, hW6⟩ : ∃ W : World, Hid (W = wr.alloc (.cells #[.int .i64 n.parent, .string (bs n.name), .slice pa n.props.length pc] 57)) := ⟨_, Lib.hid rfl⟩
          have G6 : Hid (Gr wr W6) := Lib.hid (by rw [hW6.out]; exact (Gr.refl _).alloc _)
          rw [← hW6.out] at BX ⊢
          obtain ⟨PX, hPX⟩ : ∃ N : Nat, Hid (wr.heap.size = N) := ⟨_, Lib.hid rfl⟩
          rw [hPX.out] at BX ⊢
          have G46 := Lib.hid (HG5.out.trans G6.out)
          have HP6 : Hid (SlOf 2 RPrp W6 pa n.props) := Lib.hid (HPS.out.gr RPrp.mono G6.out)
          clear hW6 hPX c0 c1 c2 hh G6
          go_loopw [7] (fun i wq => ∃ m : Nat, 1 ≤ m ∧ m ≤ n.props.length + 1 ∧ i = .int .i64 m ∧ Gr W6 wq) (fun i _ => n.props.length + 1 - (intOf i).toNat)
          case atStart => exact ⟨1, by omega, by omega, rfl, Gr.refl _⟩
          case round =>
            obtain ⟨m, hm1, hm, rfl, hg⟩ := hrel
            have HG7 := Lib.hid hg
            have y2 := (BX.out.gr hg).cell 2 (by simp)
            have hyb := has_of_cell y2
            clear hg
            by_cases hml : m < n.props.length
            · obtain ⟨m, rfl⟩ : ∃ q, m = q + 1 := ⟨m - 1, by omega⟩
              obtain ⟨b2, o2, rfl, d0, d1, _, _⟩ := prps_at (HP6.out.gr RPrp.mono HG7.out) m (by omega)
              obtain ⟨b3, o3, e3, f0, f1, _, _⟩ := prps_at (HP6.out.gr RPrp.mono HG7.out) (m + 1) hml
              cases e3
              have ASC := PP.out.asc
              rw [List.pairwise_iff_getElem] at ASC
              have hlt2 := ASC m (m + 1) (by omega) hml (by omega)
              obtain ⟨na, hna⟩ : ∃ q, n.props[m].name = q := ⟨_, rfl⟩
              obtain ⟨nb, hnb⟩ : ∃ q, n.props[m + 1].name = q := ⟨_, rfl⟩
              rw [hna] at d0 hlt2
              rw [hnb] at f0 hlt2
              have q1 : (!Op.bytesLess na nb) = false := by unfold ltS at hlt2; rw [hlt2]; rfl
              have hd := has_of_cell d0
              have mm : ((m : Int) + 1) < n.props.length := by omega
              have mm2 : (m : Int) < n.props.length := by omega
              have mw : IntKind.i64.wrap (((m : Int) + 1) - 1) = m := by simp [IntKind.wrap, IntKind.bits, IntKind.signed]; omega
              clear ASC hlt2 hna hnb d1 f1
              go_wp2_with fail
              go_quiet (fail)
              go_wp2_with fail
              exact ⟨⟨m + 2, by omega, by omega, by go_num, HG7.out.drewN _⟩, by simp [intOf]; omega⟩
            · have mm : ¬ (m : Int) < n.props.length := by omega
              go_wp2_with fail
              go_roundw
              case rel => exact ⟨k + 1, by omega, by go_num, G46.out.trans HG7.out⟩
              case measure => simp [intOf]; omega
        · go_wp2_with fail
          go_ret
          exact ⟨ret_bool (by simp), G4.out.trans HG5.out⟩
/-! Check. -/
theorem VT.sibE {ts : Tr} (h : VT ts) {i j : Nat} (h0 : 0 < i) (hij : i < j) (hj : j < ts.length) (he : ts[i].parent = ts[j].parent) : ts[i].name ≠ ts[j].name := by
  have h1 := h.nod h0 (by omega)
  have h2 := h.nod (show 0 < j by omega) hj
  rw [h1.2.2, h2.2.2]
  rw [h1.1, h2.1] at he
  exact vlt_ne (h.shp.sib i j h0 hij hj (by omega))
theorem rCheck_ok (ts : Tr) (a : Option Addr) (cap : Nat) (w : World) (h : SlOf 3 RNod w a ts) (hv : VT ts) :
    Calls Tryz.prog 41 #[.agg #[.slice a ts.length cap]] w (Grows w (.int .i64 0)) := by
  have H := Lib.hid h
  have HV := Lib.hid hv
  have l1 := hv.pos
  have l2 := hv.few
  clear h hv
  go_enter Tryz.func41, Tryz.ntmps41
  have RX := Lib.hid (Row.new w #[.slice a ts.length cap] 25)
  go_wp2_with fail
  obtain ⟨W, hW⟩ : ∃ W : World, Hid (W = w.alloc (.cells #[.slice a ts.length cap] 25)) := ⟨_, Lib.hid rfl⟩
  have GW : Hid (Gr w W) := Lib.hid (by rw [hW.out]; exact (Gr.refl _).alloc _)
  rw [← hW.out] at RX ⊢
  obtain ⟨PB, hPB⟩ : ∃ N : Nat, Hid (w.heap.size = N) := ⟨_, Lib.hid rfl⟩
  rw [hPB.out] at RX ⊢
  clear hW hPB
  refine (limits_ok ts a cap W (H.out.gr RNod.mono GW.out) HV.out.lim).mono ?_
  rintro e w1 ⟨rfl, hg1⟩
  have G1 := Lib.hid (GW.out.trans hg1)
  have RX1 := Lib.hid (RX.out.gr hg1)
  have x0 := RX1.out.cell 0 (by simp)
  have hxb := has_of_cell x0
  clear hg1 RX GW
  go_wp2_with fail
  clear x0 hxb
  refine (names_ok ts a cap w1 (H.out.gr RNod.mono G1.out) HV.out).mono ?_
  rintro e w2 ⟨rfl, hg2⟩
  have G2 := Lib.hid (G1.out.trans hg2)
  have RX2 := Lib.hid (RX1.out.gr hg2)
  have x0 := RX2.out.cell 0 (by simp)
  have hxb := has_of_cell x0
  clear hg2 RX1 G1
  go_wp2_with fail
  clear x0 hxb
  refine (ordered_ok ts a cap w2 (H.out.gr RNod.mono G2.out) HV.out).mono ?_
  rintro e w3 ⟨rfl, hg3⟩
  have G3 := Lib.hid (G2.out.trans hg3)
  have RX3 := Lib.hid (RX2.out.gr hg3)
  have x0 := RX3.out.cell 0 (by simp)
  have hxb := has_of_cell x0
  clear hg3 RX2 G2
  go_wp2_with fail
  clear x0 hxb
  go_loopw [18] (fun i wr => ∃ k : Nat, k ≤ ts.length ∧ i = .int .i64 k ∧ Gr w3 wr) (fun i _ => ts.length - (intOf i).toNat)
  case atStart => exact ⟨0, Nat.zero_le _, rfl, Gr.refl _⟩
  case round =>
    obtain ⟨k, hk, rfl, hg⟩ := hrel
    have HG := Lib.hid hg
    have G4 := Lib.hid (G3.out.trans hg)
    have RX4 := Lib.hid (RX3.out.gr hg)
    clear hg
    by_cases hlt : k < ts.length
    · obtain ⟨b, o, pa, pc, rfl, c0, c1, c2, hps, hpf, hw, hnl⟩ := nods_at (H.out.gr RNod.mono G4.out) k hlt
      obtain ⟨n, hn⟩ : ∃ n, ts[k] = n := ⟨_, rfl⟩
      have HN := Lib.hid hn
      rw [hn] at c0 c1 c2
      have hh := has_of_cell c0
      have BX := Lib.hid (Row.new wr #[.int .i64 n.parent, .string (bs n.name), .slice pa n.props.length pc] 57)
      clear hn hps hpf hw hnl
      go_wp2_with fail
      obtain ⟨W6, hW6⟩ : ∃ W : World, Hid (W = wr.alloc (.cells #[.int .i64 n.parent, .string (bs n.name), .slice pa n.props.length pc] 57)) := ⟨_, Lib.hid rfl⟩
      have G6 : Hid (Gr wr W6) := Lib.hid (by rw [hW6.out]; exact (Gr.refl _).alloc _)
      rw [← hW6.out] at BX ⊢
      obtain ⟨PX, hPX⟩ : ∃ N : Nat, Hid (wr.heap.size = N) := ⟨_, Lib.hid rfl⟩
      rw [hPX.out] at BX ⊢
      have G46 := Lib.hid (G4.out.trans G6.out)
      have G36 := Lib.hid (HG.out.trans G6.out)
      have RX6 := Lib.hid (RX4.out.gr G6.out)
      clear hW6 hPX c0 c1 c2 hh G6
      go_loopw [5] (fun i wq => ∃ m : Nat, 1 ≤ m ∧ m ≤ ts.length + 1 ∧ i = .int .i64 m ∧ Gr W6 wq) (fun i _ => ts.length + 1 - (intOf i).toNat)
      case atStart => exact ⟨1, by omega, by omega, rfl, Gr.refl _⟩
      case round =>
        obtain ⟨m, hm1, hm, rfl, hg⟩ := hrel
        have HG7 := Lib.hid hg
        have x0 := (RX6.out.gr hg).cell 0 (by simp)
        have hxb := has_of_cell x0
        have y0 := (BX.out.gr hg).cell 0 (by simp)
        have y1 := (BX.out.gr hg).cell 1 (by simp)
        have hyb := has_of_cell y0
        clear hg
        by_cases hml : m < k
        · have hmn : m < ts.length := by omega
          obtain ⟨b2, o2, pa2, pc2, e2, d0, d1, d2, _⟩ := nods_at (H.out.gr RNod.mono (G46.out.trans HG7.out)) m hmn
          cases e2
          have SB := Lib.hid (fun he => HV.out.sibE (i := m) (j := k) (by omega) hml hlt he)
          rw [HN.out] at SB
          obtain ⟨nm, hnm⟩ : ∃ n, ts[m] = n := ⟨_, rfl⟩
          rw [hnm] at d0 d1 d2 SB
          have hd := has_of_cell d0
          have mm : (m : Int) < k := by omega
          have mn : (m : Int) < ts.length := by omega
          clear hnm d2
          by_cases hp : nm.parent = n.parent
          · have b1 : (nm.parent == n.parent) = true := by rw [beq_iff_eq]; exact hp
            have b2' : (nm.name == n.name) = false := by rw [beq_eq_false_iff_ne]; exact SB.out hp
            clear hp
            go_wp2_with fail
            go_quiet (fail)
            go_wp2_with fail
            exact ⟨⟨m + 1, by omega, by omega, by go_num, HG7.out.drewN _⟩, by simp [intOf]; omega⟩
          · have b1 : (nm.parent == n.parent) = false := by rw [beq_eq_false_iff_ne]; exact hp
            clear hp
            go_wp2_with fail
            go_quiet (fail)
            go_wp2_with fail
            exact ⟨⟨m + 1, by omega, by omega, by go_num, HG7.out.drewN _⟩, by simp [intOf]; omega⟩
        · have mm : ¬ (m : Int) < k := by omega
          go_wp2_with fail
          go_roundw
          case rel => exact ⟨k + 1, by omega, by go_num, G36.out.trans HG7.out⟩
          case measure => simp [intOf]; omega
    · have x0 := RX4.out.cell 0 (by simp)
      have hxb := has_of_cell x0
      go_wp2_with fail
      clear x0 hxb
      obtain ⟨w5, rfl⟩ : ∃ wo, wo = wr := ⟨_, rfl⟩
      go_loopw [52] (fun i wr => ∃ k : Nat, k ≤ ts.length ∧ i = .int .i64 k ∧ Gr w5 wr) (fun i _ => ts.length - (intOf i).toNat)
      case atStart => exact ⟨0, Nat.zero_le _, rfl, Gr.refl _⟩
      case round =>
        obtain ⟨k2, hk2, rfl, hg⟩ := hrel
        have HG5 := Lib.hid hg
        have x0 := (RX4.out.gr hg).cell 0 (by simp)
        have hxb := has_of_cell x0
        clear hg
        by_cases hlt2 : k2 < ts.length
        · obtain ⟨d, hd8, hdd⟩ := HV.out.shp.dep k2 hlt2
          have DD := Lib.hid hdd
          have d8 : (d : Int) ≤ 8 := by omega
          have kk : (k2 : Int) < ts.length := by omega
          clear hdd
          go_wp2_with fail
          refine (level_ok ts a cap k2 d wr (H.out.gr RNod.mono (G4.out.trans HG5.out)) HV.out hlt2 DD.out (by omega)).mono ?_
          rintro e w6 ⟨rfl, hg6⟩
          have HG6 := Lib.hid (HG5.out.trans hg6)
          clear hg6 x0 hxb
          go_wp2_with fail
          go_roundw
          case rel => exact ⟨k2 + 1, by omega, by go_num, HG6.out⟩
          case measure => simp [intOf]; omega
        · go_wp2_with fail
          go_ret
          exact ⟨rfl, G4.out.trans HG5.out⟩
def PathIs (ts : Tr) (k : Nat) (s : St) : Prop := ∃ x, Pth ts k x ∧ s = if k = 0 then [47] else x
theorem pth_one {ts : Tr} {k : Nat} {x y : St} (h : Pth ts k x) (h2 : Pth ts k y) : x = y := by
  induction h generalizing y with
  | zero =>
    cases h2 with
    | zero => rfl
    | succ z _ => omega
  | succ z1 _ ih =>
    cases h2 with
    | zero => omega
    | succ _ z2 => rw [ih z2]
theorem PathIs.one {ts : Tr} {k : Nat} {x y : St} (h : PathIs ts k x) (h2 : PathIs ts k y) : x = y := by
  obtain ⟨a, h3, rfl⟩ := h
  obtain ⟨b, h4, rfl⟩ := h2
  rw [pth_one h3 h4]
theorem VT.pathEx {ts : Tr} (h : VT ts) {k : Nat} (hk : k < ts.length) : ∃ s, PathIs ts k s ∧ s.length ≤ 10000 := by
  obtain ⟨x, hx, hl⟩ := pth_ex h k hk
  have := h.few
  refine ⟨_, ⟨x, hx, rfl⟩, ?_⟩
  split
  · simp
  · omega
theorem path_is (ts : Tr) (a : Option Addr) (cap i : Nat) (s : St) (w : World) (h : SlOf 3 RNod w a ts) (hv : VT ts) (hi : i < ts.length) (hp : PathIs ts i s) :
    Calls Tryz.prog 131 #[.agg #[.slice a ts.length cap], .int .i64 i] w (Grows w (.string (bs s))) := by
  obtain ⟨x, hx, rfl⟩ := hp
  obtain ⟨y, hy, hl⟩ := pth_ex hv i hi
  obtain rfl := pth_one hx hy
  have := hv.few
  exact path_ok ts a cap i x w h hv hi hx (by omega)
theorem rPath_ok (ts : Tr) (a : Option Addr) (cap i : Nat) (s : St) (w : World) (h : SlOf 3 RNod w a ts) (hv : VT ts) (hi : i < ts.length) (hp : PathIs ts i s) :
    Calls Tryz.prog 80 #[.agg #[.slice a ts.length cap], .int .i64 i] w (Grows w (.string (bs s))) := by
  have H := Lib.hid h
  have HV := Lib.hid hv
  have HP := Lib.hid hp
  have l2 := hv.few
  clear h hv hp
  go_enter Tryz.func80, Tryz.ntmps80
  have RX := Lib.hid (Row.new w #[.slice a ts.length cap] 25)
  go_wp2_with fail
  obtain ⟨W, hW⟩ : ∃ W : World, Hid (W = w.alloc (.cells #[.slice a ts.length cap] 25)) := ⟨_, Lib.hid rfl⟩
  have GW : Hid (Gr w W) := Lib.hid (by rw [hW.out]; exact (Gr.refl _).alloc _)
  rw [← hW.out] at RX ⊢
  obtain ⟨PB, hPB⟩ : ∃ N : Nat, Hid (w.heap.size = N) := ⟨_, Lib.hid rfl⟩
  rw [hPB.out] at RX ⊢
  clear hW hPB
  refine (rCheck_ok ts a cap W (H.out.gr RNod.mono GW.out) HV.out).mono ?_
  rintro e w1 ⟨rfl, hg1⟩
  have G1 := Lib.hid (GW.out.trans hg1)
  have x0 := (RX.out.gr hg1).cell 0 (by simp)
  have hxb := has_of_cell x0
  have ii : (i : Int) < ts.length := by omega
  have i0 : ¬ (i : Int) < 0 := by omega
  clear hg1
  go_wp2_with fail
  refine (path_is ts a cap i s w1 (H.out.gr RNod.mono G1.out) HV.out hi HP.out).mono ?_
  rintro e w2 ⟨rfl, hg2⟩
  have G2 := Lib.hid (G1.out.trans hg2)
  clear hg2 x0 hxb
  go_wp2_with fail
  go_ret
  exact ⟨rfl, G2.out⟩
def FindAt (ts : Tr) (s : St) (r : Int) : Prop := (r = -1 ∧ ∀ k, k < ts.length → ¬ PathIs ts k s) ∨ ∃ k : Nat, k < ts.length ∧ r = k ∧ PathIs ts k s
theorem rFind_ok (ts : Tr) (a : Option Addr) (cap : Nat) (s : St) (w : World) (h : SlOf 3 RNod w a ts) (hv : VT ts) :
    Calls Tryz.prog 130 #[.agg #[.slice a ts.length cap], .string (bs s)] w fun e w' => ∃ r, e = .returned (.int .i64 r) ∧ FindAt ts s r ∧ Gr w w' := by
  have H := Lib.hid h
  have HV := Lib.hid hv
  have l2 := hv.few
  clear h hv
  obtain ⟨P0, hP0⟩ : ∃ P : Ending → World → Prop, P = fun e w' => ∃ r, e = .returned (.int .i64 r) ∧ FindAt ts s r ∧ Gr w w' := ⟨_, rfl⟩
  rw [← hP0]
  have HP0 := Lib.hid hP0
  clear hP0
  go_enter Tryz.func130, Tryz.ntmps130
  have RX := Lib.hid (Row.new w #[.slice a ts.length cap] 25)
  go_wp2_with fail
  obtain ⟨W, hW⟩ : ∃ W : World, Hid (W = w.alloc (.cells #[.slice a ts.length cap] 25)) := ⟨_, Lib.hid rfl⟩
  have GW : Hid (Gr w W) := Lib.hid (by rw [hW.out]; exact (Gr.refl _).alloc _)
  rw [← hW.out] at RX ⊢
  obtain ⟨PB, hPB⟩ : ∃ N : Nat, Hid (w.heap.size = N) := ⟨_, Lib.hid rfl⟩
  rw [hPB.out] at RX ⊢
  clear hW hPB
  go_loopw [9] (fun i wr => ∃ k : Nat, k ≤ ts.length ∧ i = .int .i64 k ∧ (∀ j, j < k → ¬ PathIs ts j s) ∧ Gr W wr) (fun i _ => ts.length - (intOf i).toNat)
  case atStart => exact ⟨0, Nat.zero_le _, rfl, fun j h => absurd h (by omega), Gr.refl _⟩
  case round =>
    obtain ⟨k, hk, rfl, hno, hg⟩ := hrel
    have NO := Lib.hid hno
    have HG := Lib.hid hg
    have x0 := (RX.out.gr hg).cell 0 (by simp)
    have hxb := has_of_cell x0
    clear hno hg
    by_cases hlt : k < ts.length
    · obtain ⟨y, hy, hyl⟩ := HV.out.pathEx hlt
      have HY := Lib.hid hy
      have kk : (k : Int) < ts.length := by omega
      clear hy
      go_wp2_with fail
      refine (path_is ts a cap k y wr (H.out.gr RNod.mono (GW.out.trans HG.out)) HV.out hlt HY.out).mono ?_
      rintro e w2 ⟨rfl, hg2⟩
      have G2 := Lib.hid (HG.out.trans hg2)
      clear hg2 x0 hxb
      by_cases hq : y = s
      · subst hq
        go_wp2_with fail
        rw [HP0.out]
        exact ⟨_, rfl, .inr ⟨k, hlt, rfl, HY.out⟩, GW.out.trans G2.out⟩
      · have b1 : (y == s) = false := by rw [beq_eq_false_iff_ne]; exact hq
        have HQ := Lib.hid hq
        clear hq
        go_wp2_with fail
        go_roundw
        case rel =>
          refine ⟨k + 1, by omega, by go_num, fun j hj hp => ?_, G2.out⟩
          by_cases e : j = k
          · subst e; exact HQ.out (HY.out.one hp)
          · exact NO.out j (by omega) hp
        case measure => simp [intOf]; omega
    · go_wp2_with fail
      rw [HP0.out]
      exact ⟨_, rfl, .inl ⟨rfl, fun j hj => NO.out j (by omega)⟩, GW.out.trans HG.out⟩
def GivesBeg (ts : Tr) (s : St) (w : World) (e : Ending) (w' : World) : Prop :=
  Gr w w' ∧ ((e = .returned (.tuple #[.int .i64 0, .int .i64 4]) ∧ ∀ k, k < ts.length → ¬ PathIs ts k s) ∨ ∃ k : Nat, k < ts.length ∧ e = .returned (.tuple #[.int .i64 k, .int .i64 0]) ∧ PathIs ts k s)
theorem rBegin_ok (ts : Tr) (a : Option Addr) (cap : Nat) (s : St) (w : World) (h : SlOf 3 RNod w a ts) (hv : VT ts) :
    Calls Tryz.prog 76 #[.agg #[.slice a ts.length cap], .string (bs s)] w (GivesBeg ts s w) := by
  have H := Lib.hid h
  have HV := Lib.hid hv
  have l2 := hv.few
  clear h hv
  obtain ⟨P0, hP0⟩ : ∃ P : Ending → World → Prop, P = GivesBeg ts s w := ⟨_, rfl⟩
  rw [← hP0]
  have HP0 := Lib.hid hP0
  clear hP0
  go_enter Tryz.func76, Tryz.ntmps76
  have RX := Lib.hid (Row.new w #[.slice a ts.length cap] 25)
  go_wp2_with fail
  obtain ⟨W, hW⟩ : ∃ W : World, Hid (W = w.alloc (.cells #[.slice a ts.length cap] 25)) := ⟨_, Lib.hid rfl⟩
  have GW : Hid (Gr w W) := Lib.hid (by rw [hW.out]; exact (Gr.refl _).alloc _)
  rw [← hW.out] at RX ⊢
  obtain ⟨PB, hPB⟩ : ∃ N : Nat, Hid (w.heap.size = N) := ⟨_, Lib.hid rfl⟩
  rw [hPB.out] at RX ⊢
  clear hW hPB
  refine (rCheck_ok ts a cap W (H.out.gr RNod.mono GW.out) HV.out).mono ?_
  rintro e w1 ⟨rfl, hg1⟩
  have G1 := Lib.hid (GW.out.trans hg1)
  have x0 := (RX.out.gr hg1).cell 0 (by simp)
  have hxb := has_of_cell x0
  clear hg1
  go_wp2_with fail
  refine (rFind_ok ts a cap s w1 (H.out.gr RNod.mono G1.out) HV.out).mono ?_
  rintro e w2 ⟨r, rfl, hf, hg2⟩
  have G2 := Lib.hid (G1.out.trans hg2)
  clear hg2 x0 hxb
  rcases hf with ⟨rfl, hno⟩ | ⟨k, hk, rfl, hp⟩
  · have NO := Lib.hid hno
    clear hno
    go_wp2_with fail
    rw [HP0.out]
    exact ⟨G2.out, .inl ⟨rfl, NO.out⟩⟩
  · have HPT := Lib.hid hp
    clear hp
    go_wp2_with fail
    rw [HP0.out]
    exact ⟨G2.out, .inr ⟨k, hk, rfl, HPT.out⟩⟩
def strV (l : List St) : List Value := l.map (fun s => Value.string (bs s))
def sndN : Nat → Code → Code
  | 0, c => c
  | n + 1, .seq _ b => sndN n b
  | _, c => c
def tl (n : Nat) (f : Func) : Code := (f.body.map (sndN n)).getD .skip
def propsL : List St := [[114, 101, 103], [99, 111, 109, 112, 97, 116, 105, 98, 108, 101], [115, 116, 97, 116, 117, 115], [99, 108, 111, 99, 107, 115], [35, 99, 101, 108, 108, 115], [112], [113], [108, 97, 98, 101, 108], [118, 97, 108, 117, 101]]
theorem strV_get {l : List St} {k : Nat} (h : k < l.length) (h2 : k < (strV l).length) : (strV l)[k] = .string (bs l[k]) := by simp [strV]
theorem property_any (w : World) (b len : Nat) (h : Tp w b len) :
    Calls Tryz.prog 33 #[.pointer (some ⟨b, 0, none⟩)] w fun e w' => ∃ s, s ∈ propsL ∧ e = .returned (.string (bs s)) ∧ Mv b len w w' := by
  have H := Lib.hid h
  have hb := h.has
  clear h
  go_enter Tryz.func33, Tryz.ntmps33
  go_wp2_with fail
  have RX : Hid (Row (w.alloc (.cells #[.string ⟨#[114, 101, 103]⟩, .string ⟨#[99, 111, 109, 112, 97, 116, 105, 98, 108, 101]⟩, .string ⟨#[115, 116, 97, 116, 117, 115]⟩, .string ⟨#[99, 108, 111, 99, 107, 115]⟩, .string ⟨#[35, 99, 101, 108, 108, 115]⟩, .string ⟨#[112]⟩, .string ⟨#[113]⟩, .string ⟨#[108, 97, 98, 101, 108]⟩, .string ⟨#[118, 97, 108, 117, 101]⟩] 9)) w.heap.size 9 (strV propsL)) := Lib.hid (Row.new w #[.string ⟨#[114, 101, 103]⟩, .string ⟨#[99, 111, 109, 112, 97, 116, 105, 98, 108, 101]⟩, .string ⟨#[115, 116, 97, 116, 117, 115]⟩, .string ⟨#[99, 108, 111, 99, 107, 115]⟩, .string ⟨#[35, 99, 101, 108, 108, 115]⟩, .string ⟨#[112]⟩, .string ⟨#[113]⟩, .string ⟨#[108, 97, 98, 101, 108]⟩, .string ⟨#[118, 97, 108, 117, 101]⟩] 9)
  obtain ⟨W, hW⟩ : ∃ W : World, Hid (W = w.alloc (.cells #[.string ⟨#[114, 101, 103]⟩, .string ⟨#[99, 111, 109, 112, 97, 116, 105, 98, 108, 101]⟩, .string ⟨#[115, 116, 97, 116, 117, 115]⟩, .string ⟨#[99, 108, 111, 99, 107, 115]⟩, .string ⟨#[35, 99, 101, 108, 108, 115]⟩, .string ⟨#[112]⟩, .string ⟨#[113]⟩, .string ⟨#[108, 97, 98, 101, 108]⟩, .string ⟨#[118, 97, 108, 117, 101]⟩] 9)) := ⟨_, Lib.hid rfl⟩
  have GW : Hid (Gr w W) := Lib.hid (by rw [hW.out]; exact (Gr.refl _).alloc _)
  rw [← hW.out] at RX ⊢
  clear hW
  refine (nM_any W b len 9 (H.out.gr GW.out) (by omega) (by omega)).mono ?_
  rintro e w1 ⟨x, rfl, ⟨x0, x1⟩, hm⟩
  have MV := Lib.hid ((Mv.of_gr H.out GW.out).trans H.out.has hm)
  have RY := Lib.hid (hm.row RX.out (by omega))
  obtain ⟨k, rfl⟩ := Int.eq_ofNat_of_zero_le x0
  have hk : k < propsL.length := by simp [propsL]; omega
  have c0 := RY.out.cell k (by simpa [strV] using hk)
  rw [strV_get hk] at c0
  have hh := has_of_cell c0
  have k9 : (k : Int) < 9 := by omega
  have MEM := Lib.hid (List.getElem_mem hk)
  obtain ⟨s, hs⟩ : ∃ s, propsL[k] = s := ⟨_, rfl⟩
  rw [hs] at c0 MEM
  clear hm hs x0 x1
  go_wp2_with fail
  go_ret
  exact ⟨s, MEM.out, rfl, MV.out⟩
theorem Mv.gb {w w' : World} {b len : Nat} (h : Mv b len w w') : w.grownBy w' (some b) := by
  obtain ⟨p, h0, h1, hg⟩ := h
  have k := hg.below
  refine ⟨k.os, k.tape, k.output, by have := k.size; rwa [size_set] at this, fun i hi hne => ?_⟩
  rw [k.block i (by rw [size_set]; exact hi)]
  have : b ≠ i := fun e => hne (by rw [e])
  simp [World.setCell, Array.getElem?_modify, this]
theorem own_ne {w : World} {base e size n b : Nat} {v : Value} {xs : List Value} (h : w.ownsRow base e size v n xs) (hb : b < base) : v.ownBlock = none ∨ v.ownBlock ≠ some b := by
  cases hz : v.ownBlock with
  | none => exact .inl rfl
  | some g => exact .inr fun e => by have := (h.lt g hz).1; injection e with e; omega
end Go.Proofs.YtgembejpiecfcaaGreatDoor
