/- slices.IndexFunc, ContainsFunc over supplies, draws and rails; supply.Check. -/
import Derived.Test.YtoenkcojfogmmaaPrgA
set_option linter.unusedVariables false
set_option linter.unusedSimpArgs false
namespace Go.Proofs.Ytoenkcojfogmmaa
open Go.RowKit
open Classical

/-- A supply as a value. -/
def VSup (w : World) (v : Value) (s : Sup) : Prop := ∃ al cl, v = .agg #[.int .i64 s.parent, .slice al s.levels.length cl, .int .i64 s.dropout, .int .i64 s.capacity, .bool s.always] ∧ Fit s.levels.length ∧ SlOf 1 RI w al s.levels
theorem VSup.gr {w w' : World} {v : Value} {s : Sup} (h : VSup w v s) (hg : Gr w w') : VSup w' v s := by
  obtain ⟨al, cl, h1, h2, h3⟩ := h
  exact ⟨al, cl, h1, h2, h3.giI hg⟩
/-- What is asked of a predicate that is handed to the library. -/
def PredOn {α : Type} (V : World → Value → α → Prop) (g : Nat) (lb : Array Value) (xs : List α) (p : α → Prop) (w : World) : Prop :=
  ∀ (W : World) (v : Value) (k : Nat) (hk : k < xs.length), Gr w W → V W v xs[k] → Calls Try.prog g (#[v] ++ lb) W (Grows W (.bool (decide (p xs[k]))))
theorem PredOn.gr {α : Type} {V : World → Value → α → Prop} {g : Nat} {lb : Array Value} {xs : List α} {p : α → Prop} {w w' : World} (h : PredOn V g lb xs p w) (hg : Gr w w') : PredOn V g lb xs p w' := fun W v k hk hW => h W v k hk (hg.trans hW)
/-- The index of the first element of which it holds. -/
def FirstOf {α : Type} (p : α → Prop) (xs : List α) (x : Int) : Prop := (x = -1 ∧ ∀ k (h : k < xs.length), ¬ p xs[k]) ∨ ∃ k, ∃ h : k < xs.length, x = k ∧ p xs[k] ∧ ∀ j (hj : j < k), ¬ p xs[j]
def GivesFirst {α : Type} (p : α → Prop) (xs : List α) (w : World) (e : Ending) (w' : World) : Prop := ∃ x, e = .returned (.int .i64 x) ∧ FirstOf p xs x ∧ Gr w w'

set_option maxHeartbeats 1000000 in
theorem indexSup_any (l : List Sup) (ao : Option Addr) (cap : Nat) (p : Sup → Prop) (w : World) (h : SlOf 5 RSup w ao l) (hf : Fit l.length) (hp : PredOn VSup 75 #[] l p w) :
    Calls Try.prog 79 #[.slice ao l.length cap, .func (.func 75) #[] #[]] w (GivesFirst p l w) := by
  unfold Fit at hf
  have H := Lib.hid h
  have HP := Lib.hid hp
  clear h hp
  go_enter Try.func79, Try.ntmps79
  go_wp2
  go_loopw [8] (fun i wr => ∃ k : Nat, k ≤ l.length ∧ i = .int .i64 k ∧ (∀ j (hj : j < k) (hjl : j < l.length), ¬ p l[j]) ∧ Gr w wr) (fun i _ => l.length - (intOf i).toNat)
  case atStart => exact ⟨0, Nat.zero_le _, rfl, fun j h => absurd h (by omega), Gr.refl _⟩
  case round =>
    obtain ⟨k, hk, rfl, hall, hg⟩ := hrel
    have HA := Lib.hid hall
    have HG := Lib.hid hg
    clear hall hg
    by_cases hlt : k < l.length
    · obtain ⟨b, o, rfl, ⟨c0, _⟩, ⟨al, cl, c1, c1l, c1f, cL⟩, ⟨c2, _⟩, ⟨c3, _⟩, c4⟩ := sups_gr H.out HG.out k hlt
      unfold RB at c4
      have hcall := HP.out wr (.agg #[.int .i64 l[k].parent, .slice al l[k].levels.length cl, .int .i64 l[k].dropout, .int .i64 l[k].capacity, .bool l[k].always]) k hlt HG.out ⟨al, cl, rfl, by unfold Fit at *; omega, cL⟩
      clear cL c1f
      by_cases hq : p l[k]
      · rw [decide_eq_true hq] at hcall
        have Q := Lib.hid hq
        clear hq
        go_wp2_with fail
        refine hcall.mono ?_
        rintro e w' ⟨rfl, O, d, rfl⟩
        go_wp2_with fail
        go_ret
        exact ⟨_, rfl, .inr ⟨k, hlt, rfl, Q.out, fun j hj => HA.out j hj (by omega)⟩, HG.out.xt _ _⟩
      · rw [decide_eq_false hq] at hcall
        have Q := Lib.hid hq
        clear hq
        go_wp2_with fail
        refine hcall.mono ?_
        rintro e w' ⟨rfl, O, d, rfl⟩
        go_wp2_with fail
        go_roundw
        case rel =>
          refine ⟨k + 1, by omega, by go_num, fun j hj hjl => ?_, HG.out.xt _ _⟩
          by_cases e : j = k
          · subst e; exact Q.out
          · exact HA.out j (by omega) hjl
        case measure => simp [intOf]; omega
    · go_wp2
      go_ret
      exact ⟨_, rfl, .inl ⟨rfl, fun j hj => HA.out j (by omega) hj⟩, HG.out⟩

def AnyOf {α : Type} (p : α → Prop) (xs : List α) : Prop := ∃ k, ∃ h : k < xs.length, p xs[k]
theorem FirstOf.any {α : Type} {p : α → Prop} {xs : List α} {x : Int} (h : FirstOf p xs x) : decide (0 ≤ x) = decide (AnyOf p xs) := by
  rw [decide_eq_decide]
  rcases h with ⟨rfl, h⟩ | ⟨k, hk, rfl, h, _⟩
  · exact ⟨fun q => by omega, fun ⟨k, hk, q⟩ => absurd q (h k hk)⟩
  · exact ⟨fun _ => ⟨k, hk, h⟩, fun _ => by omega⟩
theorem FirstOf.wide {α : Type} {p : α → Prop} {xs : List α} {x : Int} (h : FirstOf p xs x) : -1 ≤ x ∧ x < xs.length := by
  rcases h with ⟨rfl, h⟩ | ⟨k, hk, rfl, h, _⟩ <;> omega

theorem check1_any (l : List Sup) (w : World) : PredOn VSup 75 #[] l (fun s => 16 < s.levels.length) w := by
  rintro W v k hk hg ⟨al, cl, rfl, hf, _⟩
  unfold Fit at hf
  show Calls Try.prog 75 #[_] W _
  go_enter Try.func75, Try.ntmps75
  go_wp2
  all_goals go_ret
  all_goals exact ⟨ret_bool (by rw [Bool.eq_iff_iff]; simp; omega), (Gr.refl _).alloc _⟩

theorem containsSup_any (l : List Sup) (ao : Option Addr) (cap : Nat) (p : Sup → Prop) (w : World) (h : SlOf 5 RSup w ao l) (hf : Fit l.length) (hp : PredOn VSup 75 #[] l p w) :
    Calls Try.prog 74 #[.slice ao l.length cap, .func (.func 75) #[] #[]] w (Grows w (.bool (decide (AnyOf p l)))) := by
  have H := Lib.hid h
  have HP := Lib.hid hp
  have HF := Lib.hid hf
  clear h hp hf
  go_enter Try.func74, Try.ntmps74
  go_wp2_with fail
  refine (indexSup_any l ao cap p _ H.out HF.out HP.out).mono ?_
  rintro e w' ⟨x, rfl, hx, O, d, rfl⟩
  have X := Lib.hid hx
  clear hx
  go_wp2_with fail
  go_ret
  exact ⟨ret_bool X.out.any, (Gr.refl _).xt _ _⟩

set_option maxRecDepth 100000 in
set_option maxHeartbeats 1000000 in
theorem check_any (l : List Sup) (ao : Option Addr) (cap : Nat) (w : World) (h : SlOf 5 RSup w ao l) (hf : Fit l.length) :
    Calls Try.prog 61 #[.slice ao l.length cap] w (Grows w (.int .i64 (chk l))) := by
  have HF := Lib.hid hf
  unfold Fit at hf
  have H := Lib.hid h
  clear h
  by_cases hb : 16 < l.length
  · rw [chk_big (.inl hb)]
    go_enter Try.func61, Try.ntmps61
    go_wp2
    go_ret
    exact ⟨rfl, Gr.refl _⟩
  · go_enter Try.func61, Try.ntmps61
    go_wp2_with fail
    refine (containsSup_any l ao cap _ _ H.out HF.out (check1_any l _)).mono ?_
    rintro e w' ⟨rfl, O, d, rfl⟩
    by_cases ha : AnyOf (fun s : Sup => 16 < s.levels.length) l
    · rw [decide_eq_true ha]
      have HB := Lib.hid (chk_big (l := l) (.inr (by obtain ⟨k, hk, q⟩ := ha; exact ⟨k, hk, q⟩)))
      clear ha
      go_wp2_with fail
      go_ret
      exact ⟨ret_int HB.out.symm, (Gr.refl _).xt _ _⟩
    · rw [decide_eq_false ha]
      have NB : Hid (¬ Big l) := Lib.hid (by rintro (h | ⟨k, hk, q⟩); exact hb h; exact ha ⟨k, hk, q⟩)
      clear ha
      obtain ⟨w2, hw2⟩ : ∃ w2 : World, xt w O d = w2 := ⟨_, rfl⟩
      have G2 : Hid (Gr w w2) := Lib.hid (hw2 ▸ (Gr.refl _).xt _ _)
      rw [hw2]
      clear hw2
      go_wp2_with fail
      go_loopw [14] (fun i wr => ∃ k : Nat, k ≤ l.length ∧ i = .int .i64 k ∧ (∀ j, j < k → OkAt l j) ∧ Gr w wr) (fun i _ => l.length - (intOf i).toNat)
      case atStart => exact ⟨0, Nat.zero_le _, rfl, fun j h => absurd h (by omega), G2.out⟩
      case round =>
        obtain ⟨k, hk, rfl, hall, hg⟩ := hrel
        have HA := Lib.hid hall
        have HG := Lib.hid hg
        clear hall hg
        by_cases hlt : k < l.length
        · obtain ⟨b, o, rfl, ⟨c0, _⟩, ⟨al, cl, c1, c1l, c1f, cL⟩, ⟨c2, _⟩, ⟨c3, _⟩, c4⟩ := sups_gr H.out HG.out k hlt
          unfold RB at c4
          have CL := Lib.hid cL
          have F1 : Hid (Fit l[k].levels.length) := Lib.hid (by unfold Fit at *; omega)
          clear cL c1f
          go_wp2_with fail
          refine (valid_any l[k] al cl k _ (by omega) F1.out (CL.out.giI ((Gr.refl _).alloc _))).mono ?_
          rintro e w' ⟨rfl, O, d, rfl⟩
          by_cases hs : SupOk l[k] k
          · rw [decide_eq_true hs]
            have HS := Lib.hid hs
            clear hs
            go_wp2_with fail
            go_roundw
            case rel =>
              refine ⟨k + 1, by omega, by go_num, fun j hj => ?_, by repeat (first | with_reducible exact HG.out | with_reducible refine Gr.alloc _ ?_ | with_reducible refine Gr.xt _ _ ?_)⟩
              by_cases e : j = k
              · subst e; exact ⟨hlt, HS.out⟩
              · exact HA.out j (by omega)
            case measure => simp [intOf]; omega
          · rw [decide_eq_false hs]
            have HB := Lib.hid (chk_bad NB.out (fun q => hs (by obtain ⟨_, q⟩ := q k hlt; exact q)))
            clear hs
            go_wp2_with fail
            go_ret
            exact ⟨ret_int HB.out.symm, by repeat (first | with_reducible exact HG.out | with_reducible refine Gr.alloc _ ?_ | with_reducible refine Gr.xt _ _ ?_)⟩
        · go_wp2
          go_ret
          exact ⟨ret_int (chk_ok NB.out (fun j hj => HA.out j (by omega))).symm, HG.out⟩
end Go.Proofs.Ytoenkcojfogmmaa
