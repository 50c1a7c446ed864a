/- The tables of sine and cosine: they rise and fall in the first quarter; what a sign changes. -/
import Derived.Test.YtpfkiohknpeifaaMcA
namespace Go.Proofs.Ytpfkiohknpeifaa

set_option maxHeartbeats 40000000 in
theorem trig_symt : ∀ k, k < 64 → ∀ f, f < 256 → cosA (-((256 * k + f : Nat) : Int)) = cosA ((256 * k + f : Nat) : Int) ∧ sinA (-((256 * k + f : Nat) : Int)) = -sinA ((256 * k + f : Nat) : Int) := by decide +kernel
set_option maxHeartbeats 40000000 in
theorem trig_mont : ∀ k, k < 64 → ∀ f, f < 256 → cosA ((256 * k + f + 1 : Nat) : Int) ≤ cosA ((256 * k + f : Nat) : Int) ∧ sinA ((256 * k + f : Nat) : Int) ≤ sinA ((256 * k + f + 1 : Nat) : Int) := by decide +kernel
theorem trig_at (a : Nat) (h : a < 16384) : cosA (-(a : Int)) = cosA (a : Int) ∧ sinA (-(a : Int)) = -sinA (a : Int) ∧ cosA ((a + 1 : Nat) : Int) ≤ cosA (a : Int) ∧ sinA (a : Int) ≤ sinA ((a + 1 : Nat) : Int) := by
  have h1 := trig_symt (a / 256) (by omega) (a % 256) (by omega)
  have h2 := trig_mont (a / 256) (by omega) (a % 256) (by omega)
  rw [show 256 * (a / 256) + a % 256 = a by omega] at h1 h2
  exact ⟨h1.1, h1.2, h2.1, h2.2⟩

end Go.Proofs.Ytpfkiohknpeifaa
