/- symMerge's contract over slices of list-register records. Conditions: the ranges lie in the slice; both runs are sorted, the left one's records have the lesser numbers. -/
import Derived.Test.YtnebjbjdgfaooaaSrtB
namespace Go.Proofs.Ytnebjbjdgfaooaa
open Go.RowKit
set_option maxRecDepth 100000
theorem rotF_nop (f : Nat → LrE) (s m e : Nat) (h : s = m ∨ m = e) : rotF f s m e = f := by
  funext p
  show f (rotI s m e p) = f p
  congr 1
  unfold rotI
  repeat' split
  all_goals omega
/-- symMerge does its work over ranges of at most d. -/
def SmOK (q M n cap d : Nat) : Prop := ∀ (a m b : Nat) (f : Nat → LrE) (w : World), b - a ≤ d → LrAt w q M n f → a < m → m < b → b ≤ n → Sg a m f → Sg m b f → Idlt a m b f →
    Calls Try.prog 85 #[.slice (some ⟨q, 0, none⟩) n cap, .int .i64 (a : Nat), .int .i64 (m : Nat), .int .i64 (b : Nat), .func (.func 49) #[] #[]] w fun e w' => e = .returned (.tuple #[]) ∧ (∃ g, Pm a b f g ∧ Sg a b g ∧ LrAt w' q M n g) ∧ Upd (· = q) w w'
end Go.Proofs.Ytnebjbjdgfaooaa
