import Derived.Test.YtikdhkmcdmnadaaGreatFmtBesafterKQ12b
import Derived.Test.YtikdhkmcdmnadaaGreatFmtBesafterKQ12c
import Derived.Test.YtikdhkmcdmnadaaGreatFmtBesafterKQ12d
import Derived.Test.YtikdhkmcdmnadaaGreatFmtBesafterJ34
import Derived.Test.YtikdhkmcdmnadaaGreatFmtBesafterJ36
set_option linter.unusedVariables false
set_option linter.unusedSimpArgs false
namespace Go.Proofs.YtikdhkmcdmnadaaGreatFmtBesafter
open Go.RowKit

/-! ### RoundHolds, joined (printed by gen_q12.py) -/
theorem ord_symm {p q : Nat} (hp : p < 18446744073709551616) (hq : q < 18446744073709551616) (fp : fin p = true) (fq : fin q = true) (h : Ieee.double.order p q ≠ some .eq) : Ieee.double.order q p ≠ some .eq := by
  rw [order_fin hp hq fp fq] at h
  rw [order_fin hq hp fq fp]
  intro e
  apply h
  have e' := Int.compare_eq_eq.1 (Option.some.inj e)
  rw [Int.compare_eq_eq.2 e'.symm]
theorem ord_t {p q : Nat} (h : Ieee.double.order p q = some .eq) : (FloatKind.f64.format.order p q == some .eq) = true := by
  have e : FloatKind.f64.format.order p q = some .eq := h
  rw [e]; rfl
theorem ord_f {p q : Nat} (h : Ieee.double.order p q ≠ some .eq) : (FloatKind.f64.format.order p q == some .eq) = false := by
  have e : FloatKind.f64.format.order p q ≠ some .eq := h
  simpa using e
set_option exponentiation.threshold 6000 in
theorem holds_walk (c : Int) (u v : Nat) (hu : u < 18446744073709551616) (hv : v < 18446744073709551616) (w : World) :
    Calls Tryz.prog 3 #[.int .i64 c, .float .f64 u, .float .f64 v] w fun e w' => e = .returned (.bool true) ∧ Below w.heap.size w w' := by
  obtain ⟨k, hk⟩ : ∃ k, 1 + c.tmod 3 % 3 = k := ⟨_, rfl⟩
  have hk3 : k = 1 ∨ k = 2 ∨ k = 3 := by omega
  have hex := fun (W : World) (base : Nat) (hb : base ≤ W.heap.size) => lexact_calls k u v base hu hv hk3 W hb
  have ha := fun (d : Int) (W : World) => asked_calls k d u v hu hv hk3 W
  cases hf : (fin u && fin v) with
  | false =>
    have hn : ∀ d, askS k d u v = none := fun d => ask_false (by unfold pairB; rw [hf]; rfl)
    rw [hf] at hex
    have a2 := fun W => ha 2 W
    have a1 := fun W => ha 1 W
    have a0 := fun W => ha 0 W
    rw [hn] at a2 a1 a0
    exact holds_none c k u v _ hk hk3 hex a2 a1 a0 w
  | true =>
    have hp : ∀ d : Int, 0 ≤ d → d ≤ 2 → pairB d u v = true := fun d h1 h2 => by unfold pairB; rw [hf, decide_eq_true (⟨h1, h2⟩ : 0 ≤ d ∧ d ≤ 2)]; rfl
    have hxb := exV_bd k hu hv hk3
    rw [hf, if_pos rfl] at hxb
    rw [hf] at hex
    rw [if_pos rfl] at hex
    obtain ⟨X, hX⟩ : ∃ X, exS k u v = X := ⟨_, rfl⟩
    rw [hX] at hex hxb
    have a2 := fun W => ha 2 W
    have a1 := fun W => ha 1 W
    have a0 := fun W => ha 0 W
    rw [ask_true (hp 2 (by decide) (by decide)), hX] at a2
    rw [ask_true (hp 1 (by decide) (by decide)), hX] at a1
    rw [ask_true (hp 0 (by decide) (by decide)), hX] at a0
    have H := holds_law (K := 2148) (by decide) X
    rw [show 2148 - 1074 = 1074 from rfl] at H
    obtain ⟨h1, h2, h3, h3', h4⟩ := H
    rw [top_val] at h1 h2 h3 h3'
    rw [← neg_mul_top] at h1
    cases hlo : rndS 2 2148 X with
    | none =>
      obtain ⟨ehi, es⟩ := h3 hlo
      rw [hlo] at a2 h1
      rw [ehi] at a1 h2
      refine holds_lo c k u v _ X _ hk hk3 hex a2 a1 a0 hxb _ _ rfl rfl ?_ ?_ es w
      · intro h
        rw [decide_eq_true h] at h1
        cases h1
      · exact of_decide_eq_true h2.symm
    | some p =>
      cases hhi : rndS 1 2148 X with
      | none =>
        obtain ⟨elo, es⟩ := h3' hhi
        rw [hlo] at elo h1
        obtain rfl := Option.some.inj elo
        rw [hlo] at a2
        rw [hhi] at a1 h2
        refine holds_hi c k u v _ X _ hk hk3 hex a2 a1 a0 hxb _ _ rfl rfl ?_ ?_ es w
        · exact of_decide_eq_true h1.symm
        · intro h
          rw [decide_eq_true h] at h2
          cases h2
      | some q =>
        obtain ⟨⟨⟨p1, p2⟩, q1, q2⟩, g1, g2, mm, hm, hc⟩ := h4 p q hlo hhi
        rw [hlo] at a2 h1
        rw [hhi] at a1 h2
        rw [hm] at a0
        have np : numV p = fv p := by unfold numV; rw [p2, if_pos rfl]
        have nq : numV q = fv q := by unfold numV; rw [q2, if_pos rfl]
        rw [← np] at g1 hc
        rw [← nq] at g2 hc
        have hl : 0 ≤ Int.sign (X - -numV 9218868437227405311 * ((2 ^ 1074 : Nat) : Int)) := of_decide_eq_true h1.symm
        have hh : Int.sign (X - numV 9218868437227405311 * ((2 ^ 1074 : Nat) : Int)) ≤ 0 := of_decide_eq_true h2.symm
        rcases hc with ⟨rfl, rfl, e1, e2⟩ | ⟨e1, e2, e3, e4, e5, e6, e7⟩
        · exact holds_eq c k u v mm mm mm X hk hk3 hex a2 a1 a0 hxb _ _ rfl rfl hl hh p1 p1 _ _ _ rfl rfl rfl (by omega) (by omega) (ord_t e1) (ord_t e1) e2 w
        · have e1' := ord_symm p1 q1 p2 q2 e1
          have hmm : mm = p ∨ mm = q := by
            rcases e7 with ⟨-, h⟩ | ⟨-, h⟩ | ⟨-, -, h⟩
            · exact .inl h
            · exact .inr h
            · exact h
          refine holds_ne c k u v p q mm X hk hk3 hex a2 a1 a0 hxb _ _ rfl rfl hl hh p1 q1 _ _ _ rfl rfl rfl (by omega) (by omega) (ord_f e1) e4 (ord_t e3) e5 e6 ?_ ?_ w
          · rcases hmm with rfl | rfl
            · exact .inl (ord_t e2)
            · exact .inr ⟨ord_f e1', ord_t e3⟩
          · rcases e7 with ⟨h, rfl⟩ | ⟨h, rfl⟩ | ⟨h, h', -⟩
            · exact .inl ⟨h, ord_t e2⟩
            · exact .inr (.inl ⟨h, ord_t e3⟩)
            · exact .inr (.inr ⟨h, h'⟩)
end Go.Proofs.YtikdhkmcdmnadaaGreatFmtBesafter
