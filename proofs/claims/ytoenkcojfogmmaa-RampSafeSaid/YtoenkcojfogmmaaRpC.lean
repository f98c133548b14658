/- Plain facts and contracts for the walk of RampSafe (printed by wip/tools/ramps.py). -/
import Derived.Test.YtoenkcojfogmmaaRpA
import Derived.Test.YtoenkcojfogmmaaFst
set_option linter.unusedVariables false
set_option linter.unusedSimpArgs false
namespace Go.Proofs.Ytoenkcojfogmmaa
open Go.RowKit
open Classical
theorem join_self' {a : Rls} : joinR a a = a := by
  refine rls_ext' (joinR_on_len _ _) (joinR_lv_len _ _) (fun k hk => ?_) (fun k hk => ?_)
  · rw [joinR_on_len] at hk; rw [joinR_on a a k hk, Bool.or_self]
  · rw [joinR_lv_len] at hk
    rw [joinR_lv a a k hk]
    unfold jlv
    split
    · simp
    · rfl
theorem wLevel_id {a : Rls} {k : Nat} (hk : k < a.level.length) : wLevel (a, []) k (lvAt a k) = (a, []) := by
  rw [wLevel, if_pos rfl, lvAt_eq hk]
  simp
theorem wSupply_id {a : Rls} {k : Nat} {b : Bool} (hk : k < a.on.length) (hb : onAt a k = b) : wSupply (a, []) k b = (a, []) := by
  rw [wSupply, if_pos hb, ← hb, onAt_eq hk]
  simp
theorem upTo_id {a : Rls} {n : Nat} (h1 : a.on.length = n) (h2 : a.level.length = n) : ∀ k, k ≤ n → upTo a (a, []) k = (a, [])
  | 0, _ => rfl
  | k + 1, h => by
    rw [upTo, upTo_id h1 h2 k (by omega)]
    split
    · rename_i q
      rw [wLevel_id (by omega), wSupply_id (by omega) q]
    · rfl
theorem downTo_id {a : Rls} {n : Nat} (h1 : a.on.length = n) (h2 : a.level.length = n) : ∀ k, k ≤ n → downTo a n (a, []) k = (a, [])
  | 0, _ => rfl
  | k + 1, h => by
    rw [downTo, downTo_id h1 h2 k (by omega)]
    have e : (if onAt a (n - 1 - k) = true then (a, []) else wSupply (a, []) (n - 1 - k) false) = ((a, []) : Rls × List Wri) := by
      split
      · rfl
      · rename_i q
        exact wSupply_id (by omega) (by simpa using q)
    rw [e, wLevel_id (by omega)]
theorem planL_self {l : List Sup} {a : Rls} (h : RlsOk l a) : planL l.length a a = [] := by
  rw [planL, join_self', upTo_id h.2.1 h.2.2.1 _ (Nat.le_refl _), downTo_id h.2.1 h.2.2.1 _ (Nat.le_refl _)]
theorem first_none (l : List Sup) (r : Rls) (d : List Drw) (ps : List Wri) (rs : List Rls) (ao a1 a2 ap a3 : Option Addr) (cap c1 c2 cpl c3 : Nat) (w : World) (h : SlOf 5 RSup w ao l) (hf : Fit l.length) (h3 : SlOf 4 RDrw w a3 d) (f3 : Fit d.length) (fr : Fit rs.length) (hd : DrwsOk l d) (hall : ∀ k (hk : k < rs.length), MeetsAll l rs[k] d)
    (hS : ∀ W, Gr w W → Calls Try.prog 21 #[.slice ao l.length cap, .agg #[.slice a1 r.on.length c1, .slice a2 r.level.length c2], .slice ap ps.length cpl] W (GivesRsE W rs 0)) :
    Calls Try.prog 22 #[.slice ao l.length cap, .agg #[.slice a1 r.on.length c1, .slice a2 r.level.length c2], .slice ap ps.length cpl, .slice a3 d.length c3] w (Grows w (.int .i64 (-1))) := by
  refine (first_any l r d ps rs 0 ao a1 a2 ap a3 cap c1 c2 cpl c3 w h hf h3 f3 fr ⟨by omega, by omega⟩ hS).mono ?_
  rintro e w' ⟨y, rfl, hy, hg⟩
  rw [FstIs, if_pos ⟨rfl, hd⟩] at hy
  refine ⟨?_, hg⟩
  rcases hy with ⟨rfl, _⟩ | ⟨k, hk, rfl, hn, _⟩
  · rfl
  · exact absurd (hall k hk) hn
end Go.Proofs.Ytoenkcojfogmmaa
