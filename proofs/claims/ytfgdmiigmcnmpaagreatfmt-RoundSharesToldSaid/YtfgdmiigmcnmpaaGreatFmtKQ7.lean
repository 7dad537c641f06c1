import Derived.Test.YtfgdmiigmcnmpaaGreatFmtKQ7b
import Derived.Test.YtfgdmiigmcnmpaaGreatFmtKQ7c
set_option linter.unusedVariables false
set_option linter.unusedSimpArgs false
namespace Go.Proofs.YtfgdmiigmcnmpaaGreatFmt
open Go.RowKit

theorem shares_walk (u v : Nat) (hu : u < 18446744073709551616) (hv : v < 18446744073709551616) (w : World) :
    Calls Tryz.prog 3 #[.float .f64 u, .float .f64 v] w fun e w' => e = .returned (.bool true) ∧ Below w.heap.size w w' := by
  by_cases fu : fin u = true
  · by_cases fv' : fin v = true
    · by_cases hv0 : uabs v = 0
      · refine shares_bad u v hu hv (.inr (.inr ⟨fu, fv', ?_⟩)) (div_false2 hv0) (div_false2 hv0) w
        rw [numV_fin fv', fv_zero_iff hv fv', hv0, rv_zero]
        cases fneg v <;> rfl
      · have F := share_facts hu hv fu fv' hv0
        have h2 := fun W => rdiv_calls 2 u v hu hv W
        have h1 := fun W => rdiv_calls 1 u v hu hv W
        have h0 := fun W => rdiv_calls 0 u v hu hv W
        obtain ⟨o0, e0⟩ : ∃ o, divS 0 u v = o := ⟨_, rfl⟩
        obtain ⟨o1, e1⟩ : ∃ o, divS 1 u v = o := ⟨_, rfl⟩
        obtain ⟨o2, e2⟩ : ∃ o, divS 2 u v = o := ⟨_, rfl⟩
        rw [e0] at F h0
        rw [e1] at F h1
        rw [e2] at F h2
        cases o2 with
        | none =>
          cases o1 with
          | none =>
            rcases F.any with h | h
            · cases h
            · cases h
          | some q => exact shares_hi u v 0 q _ o0 hu hv fu fv' F rfl h2 h1 h0 w
        | some p =>
          cases o1 with
          | none => exact shares_lo u v p 0 _ o0 hu hv fu fv' F rfl h2 h1 h0 w
          | some q => exact shares_both u v p q _ o0 hu hv fu fv' F rfl h2 h1 h0 w
    · have f : fin v = false := by simpa using fv'
      have hp : ∀ d, pairB d u v = false := fun d => by unfold pairB; rw [f, Bool.and_false]; rfl
      exact shares_bad u v hu hv (.inr (.inl ⟨fu, f⟩)) (div_false1 (hp 2)) (div_false1 (hp 1)) w
  · have f : fin u = false := by simpa using fu
    have hp : ∀ d, pairB d u v = false := fun d => by unfold pairB; rw [f]; rfl
    exact shares_bad u v hu hv (.inl f) (div_false1 (hp 2)) (div_false1 (hp 1)) w
end Go.Proofs.YtfgdmiigmcnmpaaGreatFmt
