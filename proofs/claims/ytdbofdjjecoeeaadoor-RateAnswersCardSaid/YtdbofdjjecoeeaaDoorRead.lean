/- rate.Read: what it returns for every text (printed by wip/tools/readtpl.py). -/
import Derived.Test.YtdbofdjjecoeeaaDoorTxt
set_option linter.unusedVariables false
set_option linter.unusedSimpArgs false
namespace Go.Proofs.YtdbofdjjecoeeaaDoor
open Go.RowKit

/-- What the library's variables hold. -/
def Libs (w : World) : Prop := Pow w ∧ (∃ m, w.cell? ⟨0, 0, none⟩ = some (.int .i64 m)) ∧ (∃ tp p, w.var? Tryd.prog "strconv.ErrSyntax" = some #[.iface tp p]) ∧ (∃ tp p, w.var? Tryd.prog "strconv.ErrRange" = some #[.iface tp p])
theorem var_has {w : World} {n : String} {g : Nat} {cs : Array Value} (hg : Tryd.prog.globalNamed n = some g) (h : w.var? Tryd.prog n = some cs) : g < w.heap.size := by
  unfold World.var? at h
  rw [hg] at h
  rcases Nat.lt_or_ge g w.heap.size with h1 | h1
  · exact h1
  · simp [Array.getElem?_eq_none h1] at h
theorem synNamed : Tryd.prog.globalNamed "strconv.ErrSyntax" = some 1 := by kernel_rfl
theorem rngNamed : Tryd.prog.globalNamed "strconv.ErrRange" = some 2 := by kernel_rfl
theorem Libs.gr {w w' : World} (h : Libs w) (hg : Gr w w') : Libs w' := by
  obtain ⟨h1, ⟨m, h2⟩, ⟨t1, p1, h3⟩, ⟨t2, p2, h4⟩⟩ := h
  refine ⟨h1.gr hg, ⟨m, ?_⟩, ⟨t1, p1, var?_below hg.below synNamed (var_has synNamed h3) h3⟩, ⟨t2, p2, var?_below hg.below rngNamed (var_has rngNamed h4) h4⟩⟩
  obtain ⟨O, d, rfl⟩ := hg
  rw [cell?_xt (has_of_cell h2)]
  exact h2
theorem bytes_gr (w : World) (e : TypeId) (s : ByteArray) : Gr w (Lib.bytesWorld w e s) := by
  refine Gr.of_below ⟨?_, ?_, ?_, by rw [Lib.bytesWorld_size]; omega, fun k hk => Lib.bytesWorld_at_old w e s k hk⟩ <;> simp [Lib.bytesWorld, World.freeze, World.alloc, World.drew, -World.alloc_eq, -World.drew_eq]
theorem cut_any (l : List UInt8) (w : World) (hl : l.length ≤ 1000) (h : Libs w) :
    Calls Tryd.prog 36 #[.string ⟨l.toArray⟩, .string ⟨#[47]⟩] w (Grows w (.tuple #[.string ⟨(Lib.cut l [47]).1.toArray⟩, .string ⟨(Lib.cut l [47]).2.1.toArray⟩, .bool (Lib.cut l [47]).2.2])) := by
  obtain ⟨m, hm⟩ := h.2.1
  refine (Tryd.strings_Cut ⟨l.toArray⟩ ⟨#[47]⟩ m w (by simp [ByteArray.size]; omega) hm).mono ?_
  rintro e w' ⟨he, n, rfl⟩
  exact ⟨he, (Gr.refl w).drewN n⟩
/-- What Atoi returns. -/
def AtoiR (l : List UInt8) (w : World) (e : Ending) (w' : World) : Prop :=
  ∃ (v : Int) (ev : Value), e = .returned (.tuple #[.int .i64 v, ev]) ∧ ((Lib.atoiAll l = .ok v ∧ ev = .nilIface) ∨ ((∀ v, Lib.atoiAll l ≠ .ok v) ∧ ∃ N, ev = .iface 74 (.pointer (some ⟨N, 0, none⟩)))) ∧ -9223372036854775808 ≤ v ∧ v ≤ 9223372036854775807 ∧ Gr w w'
theorem atoi_any (l : List UInt8) (w : World) (hl : l.length ≤ 1000) (h : Libs w) :
    Calls Tryd.prog 37 #[.string ⟨l.toArray⟩] w (AtoiR l w) := by
  obtain ⟨h1, h2, ⟨t1, p1, h3⟩, ⟨t2, p2, h4⟩⟩ := h
  rcases hr : Lib.atoiAll l with v | _ | _
  · refine (Tryd.strconv_Atoi_ok ⟨l.toArray⟩ (by simp [ByteArray.size]; omega) v hr w).mono ?_
    rintro e w' ⟨rfl, hw⟩
    have := Lib.atoiAll_bounds hr
    refine ⟨v, _, rfl, .inl ⟨hr, rfl⟩, this.1, this.2, ?_⟩
    rcases hw with rfl | ⟨t, rfl⟩
    · exact Gr.refl _
    · exact bytes_gr w _ t
  · refine Calls.mono (Any.strconv_Atoi_syntax_var Tryd.laysC172 ⟨l.toArray⟩ (by simp [ByteArray.size]; omega) hr t1 p1 w h3) ?_
    rintro e w' ⟨N, rfl, _, _, hb⟩
    exact ⟨0, _, rfl, .inr ⟨fun v hv => (by rw [hr] at hv; cases hv), N, rfl⟩, by omega, by omega, Gr.of_below hb⟩
  · refine (Tryd.strconv_Atoi_range_var ⟨l.toArray⟩ (by simp [ByteArray.size]; omega) hr t2 p2 w h4).mono ?_
    rintro e w' ⟨N, rfl, _, _, hb⟩
    refine ⟨_, _, rfl, .inr ⟨fun v hv => (by rw [hr] at hv; cases hv), N, rfl⟩, ?_, ?_, Gr.of_below hb⟩
    · unfold Lib.atoiSat; split <;> omega
    · unfold Lib.atoiSat; split <;> omega
theorem read_num (n d : Int) (h : validB n d = true) {a b : List UInt8} {ok : Bool} (hc : Lib.cut (fmtL n d) [47] = (a, b, ok)) : Lib.atoiAll a = .ok n := by
  obtain ⟨v1, v2, v3, v4, -⟩ := valid_parts h
  have p := (fmt_parts n d h).1
  rw [hc] at p
  simp only at p
  rw [p]
  exact atoi_itoa n (by omega) (by omega)
theorem read_den (n d : Int) (h : validB n d = true) {a b : List UInt8} {ok : Bool} (hc : Lib.cut (fmtL n d) [47] = (a, b, ok)) : Lib.atoiAll (if ok = true then b else [49]) = .ok d := by
  obtain ⟨v1, v2, v3, v4, -⟩ := valid_parts h
  have p := (fmt_parts n d h).2
  rw [den, hc] at p
  simp only at p
  rw [p]
  exact atoi_itoa d (by omega) (by omega)
theorem read_parts (n d : Int) (h : validB n d = true) {a b : List UInt8} {ok : Bool} {x y : Int} (hc : Lib.cut (fmtL n d) [47] = (a, b, ok)) (hx : Lib.atoiAll a = .ok x) (hy : Lib.atoiAll (if ok = true then b else [49]) = .ok y) : x = n ∧ y = d := by
  have p := read_num n d h hc
  have q := read_den n d h hc
  rw [hx] at p
  rw [hy] at q
  injection p with p
  injection q with q
  exact ⟨p, q⟩
/-- What Read returns. -/
def ReadR (l : List UInt8) (w : World) (e : Ending) (w' : World) : Prop :=
  ∃ n d r : Int, e = .returned (.tuple #[.agg #[.int .i64 n, .int .i64 d], .int .i64 r]) ∧ ((validB n d = true ∧ fmtL n d = l ∧ r = 0) ∨ ((∀ n d, validB n d = true → fmtL n d ≠ l) ∧ n = 0 ∧ d = 0 ∧ r = 6)) ∧ Gr w w'
theorem cut_len (l : List UInt8) : (Lib.cut l [47]).1.length ≤ l.length ∧ (Lib.cut l [47]).2.1.length ≤ l.length := by
  unfold Lib.cut
  split
  · simp; omega
  · simp
set_option maxHeartbeats 2000000 in
theorem read_any (l : List UInt8) (w : World) (hl : l.length ≤ 1000) (h : Libs w) :
    Calls Tryd.prog 14 #[.string ⟨l.toArray⟩] w (ReadR l w) := by
  have HL := Lib.hid h
  clear h
  have cl := cut_len l
  obtain ⟨a, b, ok, hc⟩ : ∃ a b ok, Lib.cut l [47] = (a, b, ok) := ⟨_, _, _, rfl⟩
  rw [hc] at cl
  obtain ⟨ha, hb⟩ := cl
  simp only at ha hb
  have ha := Nat.le_trans ha hl
  have hb := Nat.le_trans hb hl
  cases ok
  · go_enter Tryd.func14, Tryd.ntmps14
    go_wp2_with fail
    refine (cut_any l _ hl (HL.out.gr (by repeat (first | with_reducible exact Gr.refl _ | with_reducible refine Gr.xt _ _ ?_ | with_reducible refine Gr.alloc _ ?_ | with_reducible refine Gr.drewN _ ?_ | with_reducible refine Gr.drew ?_)))).mono ?_
    rw [hc]
    rintro e w' ⟨rfl, O0, D0, rfl⟩
    go_wp2_with fail
    refine (atoi_any a _ ha (HL.out.gr (by repeat (first | with_reducible exact Gr.refl _ | with_reducible refine Gr.xt _ _ ?_ | with_reducible refine Gr.alloc _ ?_ | with_reducible refine Gr.drewN _ ?_ | with_reducible refine Gr.drew ?_)))).mono ?_
    rintro e w' ⟨x, ev1, rfl, hr1, bx0, bx1, O1, D1, rfl⟩
    rcases hr1 with ⟨hx, rfl⟩ | ⟨hx, N1, rfl⟩
    · go_wp2_with fail
      refine (atoi_any [49] _ (by simp) (HL.out.gr (by repeat (first | with_reducible exact Gr.refl _ | with_reducible refine Gr.xt _ _ ?_ | with_reducible refine Gr.alloc _ ?_ | with_reducible refine Gr.drewN _ ?_ | with_reducible refine Gr.drew ?_)))).mono ?_
      rintro e w' ⟨y, ev2, rfl, hr2, by0, by1, O2, D2, rfl⟩
      rcases hr2 with ⟨hy, rfl⟩ | ⟨hy, N2, rfl⟩
      · go_wp2_with fail
        refine (valid_any x y _ (by omega) (by omega) (by omega) (by omega)).mono ?_
        by_cases hv : validB x y = true
        · rw [hv]
          rintro e w' ⟨rfl, O3, D3, rfl⟩
          go_wp2_with fail
          refine (format_any x y _ (by omega) (by omega) (by omega) (by omega) (HL.out.1.gr (by repeat (first | with_reducible exact Gr.refl _ | with_reducible refine Gr.xt _ _ ?_ | with_reducible refine Gr.alloc _ ?_ | with_reducible refine Gr.drewN _ ?_ | with_reducible refine Gr.drew ?_)))).mono ?_
          rintro e w' ⟨rfl, O4, D4, rfl⟩
          go_wp2_with fail
          · rename_i hf
            refine bodyPost_ret (v := .tuple #[.agg #[.int .i64 x, .int .i64 y], .int .i64 0]) ?_ rfl ?_
            · simp [results, Tryd.results14, go_sem]
            · exact ⟨x, y, 0, rfl, .inl ⟨hv, by simpa using hf, rfl⟩, (by repeat (first | with_reducible exact Gr.refl _ | with_reducible refine Gr.xt _ _ ?_ | with_reducible refine Gr.alloc _ ?_ | with_reducible refine Gr.drewN _ ?_ | with_reducible refine Gr.drew ?_))⟩
          · rename_i hf
            have HN : Hid (∀ n d, validB n d = true → fmtL n d ≠ l) := Lib.hid fun n d hv' he => by
              subst he
              obtain ⟨p1, p2⟩ := read_parts n d hv' hc hx hy
              subst p1 p2
              simp at hf
            refine bodyPost_ret (v := .tuple #[.agg #[.int .i64 0, .int .i64 0], .int .i64 6]) ?_ rfl ?_
            · simp [results, Tryd.results14, go_sem]
            · exact ⟨0, 0, 6, rfl, .inr ⟨HN.out, rfl, rfl, rfl⟩, (by repeat (first | with_reducible exact Gr.refl _ | with_reducible refine Gr.xt _ _ ?_ | with_reducible refine Gr.alloc _ ?_ | with_reducible refine Gr.drewN _ ?_ | with_reducible refine Gr.drew ?_))⟩
        · have hv' : validB x y = false := by simpa using hv
          rw [hv']
          rintro e w' ⟨rfl, O3, D3, rfl⟩
          have HN : Hid (∀ n d, validB n d = true → fmtL n d ≠ l) := Lib.hid fun n d hv' he => by
            subst he
            obtain ⟨p1, p2⟩ := read_parts n d hv' hc hx hy
            subst p1 p2
            exact hv hv'
          go_wp2_with fail
          refine bodyPost_ret (v := .tuple #[.agg #[.int .i64 0, .int .i64 0], .int .i64 6]) ?_ rfl ?_
          · simp [results, Tryd.results14, go_sem]
          · exact ⟨0, 0, 6, rfl, .inr ⟨HN.out, rfl, rfl, rfl⟩, (by repeat (first | with_reducible exact Gr.refl _ | with_reducible refine Gr.xt _ _ ?_ | with_reducible refine Gr.alloc _ ?_ | with_reducible refine Gr.drewN _ ?_ | with_reducible refine Gr.drew ?_))⟩
      · have HN : Hid (∀ n d, validB n d = true → fmtL n d ≠ l) := Lib.hid fun n d hv' he => by
          subst he
          exact hy _ (read_den n d hv' hc)
        go_wp2_with fail
        refine bodyPost_ret (v := .tuple #[.agg #[.int .i64 0, .int .i64 0], .int .i64 6]) ?_ rfl ?_
        · simp [results, Tryd.results14, go_sem]
        · exact ⟨0, 0, 6, rfl, .inr ⟨HN.out, rfl, rfl, rfl⟩, (by repeat (first | with_reducible exact Gr.refl _ | with_reducible refine Gr.xt _ _ ?_ | with_reducible refine Gr.alloc _ ?_ | with_reducible refine Gr.drewN _ ?_ | with_reducible refine Gr.drew ?_))⟩
    · have HN : Hid (∀ n d, validB n d = true → fmtL n d ≠ l) := Lib.hid fun n d hv' he => by
        subst he
        exact hx _ (read_num n d hv' hc)
      go_wp2_with fail
      refine (atoi_any [49] _ (by simp) (HL.out.gr (by repeat (first | with_reducible exact Gr.refl _ | with_reducible refine Gr.xt _ _ ?_ | with_reducible refine Gr.alloc _ ?_ | with_reducible refine Gr.drewN _ ?_ | with_reducible refine Gr.drew ?_)))).mono ?_
      rintro e w' ⟨y, ev2, rfl, hr2, by0, by1, O2, D2, rfl⟩
      rcases hr2 with ⟨hy, rfl⟩ | ⟨hy, N2, rfl⟩
      · go_wp2_with fail
        refine bodyPost_ret (v := .tuple #[.agg #[.int .i64 0, .int .i64 0], .int .i64 6]) ?_ rfl ?_
        · simp [results, Tryd.results14, go_sem]
        · exact ⟨0, 0, 6, rfl, .inr ⟨HN.out, rfl, rfl, rfl⟩, (by repeat (first | with_reducible exact Gr.refl _ | with_reducible refine Gr.xt _ _ ?_ | with_reducible refine Gr.alloc _ ?_ | with_reducible refine Gr.drewN _ ?_ | with_reducible refine Gr.drew ?_))⟩
      · go_wp2_with fail
        refine bodyPost_ret (v := .tuple #[.agg #[.int .i64 0, .int .i64 0], .int .i64 6]) ?_ rfl ?_
        · simp [results, Tryd.results14, go_sem]
        · exact ⟨0, 0, 6, rfl, .inr ⟨HN.out, rfl, rfl, rfl⟩, (by repeat (first | with_reducible exact Gr.refl _ | with_reducible refine Gr.xt _ _ ?_ | with_reducible refine Gr.alloc _ ?_ | with_reducible refine Gr.drewN _ ?_ | with_reducible refine Gr.drew ?_))⟩
  · go_enter Tryd.func14, Tryd.ntmps14
    go_wp2_with fail
    refine (cut_any l _ hl (HL.out.gr (by repeat (first | with_reducible exact Gr.refl _ | with_reducible refine Gr.xt _ _ ?_ | with_reducible refine Gr.alloc _ ?_ | with_reducible refine Gr.drewN _ ?_ | with_reducible refine Gr.drew ?_)))).mono ?_
    rw [hc]
    rintro e w' ⟨rfl, O0, D0, rfl⟩
    go_wp2_with fail
    refine (atoi_any a _ ha (HL.out.gr (by repeat (first | with_reducible exact Gr.refl _ | with_reducible refine Gr.xt _ _ ?_ | with_reducible refine Gr.alloc _ ?_ | with_reducible refine Gr.drewN _ ?_ | with_reducible refine Gr.drew ?_)))).mono ?_
    rintro e w' ⟨x, ev1, rfl, hr1, bx0, bx1, O1, D1, rfl⟩
    rcases hr1 with ⟨hx, rfl⟩ | ⟨hx, N1, rfl⟩
    · go_wp2_with fail
      refine (atoi_any b _ hb (HL.out.gr (by repeat (first | with_reducible exact Gr.refl _ | with_reducible refine Gr.xt _ _ ?_ | with_reducible refine Gr.alloc _ ?_ | with_reducible refine Gr.drewN _ ?_ | with_reducible refine Gr.drew ?_)))).mono ?_
      rintro e w' ⟨y, ev2, rfl, hr2, by0, by1, O2, D2, rfl⟩
      rcases hr2 with ⟨hy, rfl⟩ | ⟨hy, N2, rfl⟩
      · go_wp2_with fail
        refine (valid_any x y _ (by omega) (by omega) (by omega) (by omega)).mono ?_
        by_cases hv : validB x y = true
        · rw [hv]
          rintro e w' ⟨rfl, O3, D3, rfl⟩
          go_wp2_with fail
          refine (format_any x y _ (by omega) (by omega) (by omega) (by omega) (HL.out.1.gr (by repeat (first | with_reducible exact Gr.refl _ | with_reducible refine Gr.xt _ _ ?_ | with_reducible refine Gr.alloc _ ?_ | with_reducible refine Gr.drewN _ ?_ | with_reducible refine Gr.drew ?_)))).mono ?_
          rintro e w' ⟨rfl, O4, D4, rfl⟩
          go_wp2_with fail
          · rename_i hf
            refine bodyPost_ret (v := .tuple #[.agg #[.int .i64 x, .int .i64 y], .int .i64 0]) ?_ rfl ?_
            · simp [results, Tryd.results14, go_sem]
            · exact ⟨x, y, 0, rfl, .inl ⟨hv, by simpa using hf, rfl⟩, (by repeat (first | with_reducible exact Gr.refl _ | with_reducible refine Gr.xt _ _ ?_ | with_reducible refine Gr.alloc _ ?_ | with_reducible refine Gr.drewN _ ?_ | with_reducible refine Gr.drew ?_))⟩
          · rename_i hf
            have HN : Hid (∀ n d, validB n d = true → fmtL n d ≠ l) := Lib.hid fun n d hv' he => by
              subst he
              obtain ⟨p1, p2⟩ := read_parts n d hv' hc hx hy
              subst p1 p2
              simp at hf
            refine bodyPost_ret (v := .tuple #[.agg #[.int .i64 0, .int .i64 0], .int .i64 6]) ?_ rfl ?_
            · simp [results, Tryd.results14, go_sem]
            · exact ⟨0, 0, 6, rfl, .inr ⟨HN.out, rfl, rfl, rfl⟩, (by repeat (first | with_reducible exact Gr.refl _ | with_reducible refine Gr.xt _ _ ?_ | with_reducible refine Gr.alloc _ ?_ | with_reducible refine Gr.drewN _ ?_ | with_reducible refine Gr.drew ?_))⟩
        · have hv' : validB x y = false := by simpa using hv
          rw [hv']
          rintro e w' ⟨rfl, O3, D3, rfl⟩
          have HN : Hid (∀ n d, validB n d = true → fmtL n d ≠ l) := Lib.hid fun n d hv' he => by
            subst he
            obtain ⟨p1, p2⟩ := read_parts n d hv' hc hx hy
            subst p1 p2
            exact hv hv'
          go_wp2_with fail
          refine bodyPost_ret (v := .tuple #[.agg #[.int .i64 0, .int .i64 0], .int .i64 6]) ?_ rfl ?_
          · simp [results, Tryd.results14, go_sem]
          · exact ⟨0, 0, 6, rfl, .inr ⟨HN.out, rfl, rfl, rfl⟩, (by repeat (first | with_reducible exact Gr.refl _ | with_reducible refine Gr.xt _ _ ?_ | with_reducible refine Gr.alloc _ ?_ | with_reducible refine Gr.drewN _ ?_ | with_reducible refine Gr.drew ?_))⟩
      · have HN : Hid (∀ n d, validB n d = true → fmtL n d ≠ l) := Lib.hid fun n d hv' he => by
          subst he
          exact hy _ (read_den n d hv' hc)
        go_wp2_with fail
        refine bodyPost_ret (v := .tuple #[.agg #[.int .i64 0, .int .i64 0], .int .i64 6]) ?_ rfl ?_
        · simp [results, Tryd.results14, go_sem]
        · exact ⟨0, 0, 6, rfl, .inr ⟨HN.out, rfl, rfl, rfl⟩, (by repeat (first | with_reducible exact Gr.refl _ | with_reducible refine Gr.xt _ _ ?_ | with_reducible refine Gr.alloc _ ?_ | with_reducible refine Gr.drewN _ ?_ | with_reducible refine Gr.drew ?_))⟩
    · have HN : Hid (∀ n d, validB n d = true → fmtL n d ≠ l) := Lib.hid fun n d hv' he => by
        subst he
        exact hx _ (read_num n d hv' hc)
      go_wp2_with fail
      refine (atoi_any b _ hb (HL.out.gr (by repeat (first | with_reducible exact Gr.refl _ | with_reducible refine Gr.xt _ _ ?_ | with_reducible refine Gr.alloc _ ?_ | with_reducible refine Gr.drewN _ ?_ | with_reducible refine Gr.drew ?_)))).mono ?_
      rintro e w' ⟨y, ev2, rfl, hr2, by0, by1, O2, D2, rfl⟩
      rcases hr2 with ⟨hy, rfl⟩ | ⟨hy, N2, rfl⟩
      · go_wp2_with fail
        refine bodyPost_ret (v := .tuple #[.agg #[.int .i64 0, .int .i64 0], .int .i64 6]) ?_ rfl ?_
        · simp [results, Tryd.results14, go_sem]
        · exact ⟨0, 0, 6, rfl, .inr ⟨HN.out, rfl, rfl, rfl⟩, (by repeat (first | with_reducible exact Gr.refl _ | with_reducible refine Gr.xt _ _ ?_ | with_reducible refine Gr.alloc _ ?_ | with_reducible refine Gr.drewN _ ?_ | with_reducible refine Gr.drew ?_))⟩
      · go_wp2_with fail
        refine bodyPost_ret (v := .tuple #[.agg #[.int .i64 0, .int .i64 0], .int .i64 6]) ?_ rfl ?_
        · simp [results, Tryd.results14, go_sem]
        · exact ⟨0, 0, 6, rfl, .inr ⟨HN.out, rfl, rfl, rfl⟩, (by repeat (first | with_reducible exact Gr.refl _ | with_reducible refine Gr.xt _ _ ?_ | with_reducible refine Gr.alloc _ ?_ | with_reducible refine Gr.drewN _ ?_ | with_reducible refine Gr.drew ?_))⟩
end Go.Proofs.YtdbofdjjecoeeaaDoor
