/- Rates: the greatest common divisor, validity and the quotient in lowest terms, in plain numbers. No conditions. -/
import Derived.Test.YtdbofdjjecoeeaaDoorBase
set_option linter.unusedVariables false
set_option linter.unusedSimpArgs false
namespace Go.Proofs.YtdbofdjjecoeeaaDoor
open Go.RowKit

theorem gcd_step (x y : Int) (_hx : 0 ≤ x) (_hy : 1 ≤ y) : Int.gcd y (x % y) = Int.gcd x y := by
  obtain ⟨a, rfl⟩ := Int.eq_ofNat_of_zero_le _hx
  obtain ⟨b, rfl⟩ := Int.eq_ofNat_of_zero_le (show 0 ≤ y by omega)
  show Nat.gcd b (a % b) = Nat.gcd a b
  rw [Nat.gcd_comm, ← Nat.gcd_rec, Nat.gcd_comm]

def validB (n d : Int) : Bool := decide (0 ≤ n) && decide (n ≤ 144115188075855872) && decide (1 ≤ d) && decide (d ≤ 16777216) && ((Int.gcd n d : Int) == 1)
def okNew (n d : Int) : Bool := decide (0 ≤ n) && decide (1 ≤ d) && validB (n / Int.gcd n d) (d / Int.gcd n d)
def newN (n d : Int) : Int := if okNew n d = true then n / Int.gcd n d else 0
def newD (n d : Int) : Int := if okNew n d = true then d / Int.gcd n d else 0
def newE (n d : Int) : Int := if okNew n d = true then 0 else 2

theorem gcd_bounds (n d : Int) (h1 : 1 ≤ d) : 1 ≤ (Int.gcd n d : Int) ∧ (Int.gcd n d : Int) ≤ d := by
  have h2 : 0 < Int.gcd n d := Int.gcd_pos_of_ne_zero_right n (by omega)
  have h3 := Int.le_of_dvd (show 0 < d by omega) (Int.gcd_dvd_right n d)
  omega
theorem ediv_bounds (n g : Int) (h : 0 ≤ n) (hg : 1 ≤ g) : 0 ≤ n / g ∧ n / g ≤ n :=
  ⟨Int.ediv_nonneg h (by omega), Int.ediv_le_self g h⟩

end Go.Proofs.YtdbofdjjecoeeaaDoor
