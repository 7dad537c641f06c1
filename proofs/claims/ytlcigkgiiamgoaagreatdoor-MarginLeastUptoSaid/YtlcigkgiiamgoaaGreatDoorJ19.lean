/- Walks and plain laws of this seat's functions, part 19: D1. -/
import Derived.Test.YtlcigkgiiamgoaaGreatDoorJ18
set_option linter.unusedVariables false
set_option linter.unusedSimpArgs false
namespace Go.Proofs.YtlcigkgiiamgoaaGreatDoor
open Go.RowKit

theorem own_f64 {w : World} {b base t : Nat} {v : Value} {xs : List Nat} (h : w.ownsRow b t 1 v xs.length (f64s xs)) (hb : ∀ x ∈ xs, x < B64) : f64.Own t w b base v xs := by
  refine ⟨xs.map fun x => [.float .f64 x], by simp, ?_, ?_⟩
  · have : ∀ ys : List Nat, (ys.map fun x => [Value.float .f64 x]).flatten = f64s ys := by
      intro ys
      induction ys with
      | nil => rfl
      | cons x ys ih => rw [List.map_cons, List.flatten_cons, ih]; rfl
    rw [this]; exact h
  · intro i x c h1 h2
    simp only [List.getElem?_map, h1, Option.map_some, Option.some.injEq] at h2
    subst h2
    exact ⟨rfl, hb x (List.mem_of_getElem? h1)⟩
/-- own lists, read as lists -/
theorem ol_row {t : Nat} {w : World} {b0 base : Nat} {v : Value} {es : List OL} {ls : List (List Nat)} (h : olRd.Own t w b0 base v es) (hl : es.map (·.l) = ls) :
    ∃ A c, v = .slice A ls.length c ∧ ls.length ≤ c ∧ (bsl 41 f64).Row t w base A ls := by
  subst hl
  obtain ⟨A, c, rfl, hc, hr⟩ := h.row
  refine ⟨A, c, by rw [List.length_map], by rw [List.length_map]; exact hc, ?_⟩
  intro i l hi
  simp only [List.getElem?_map] at hi
  obtain ⟨e, he, rfl⟩ : ∃ e, es[i]? = some e ∧ e.l = l := by
    cases h0 : es[i]? with
    | none => rw [h0] at hi; simp at hi
    | some e => rw [h0] at hi; simp at hi; exact ⟨e, rfl, hi⟩
  obtain ⟨a, cs, h1, h2, h3, ⟨h4, h5⟩, h6⟩ := hr i e he
  refine ⟨a, cs, h1, h2, h3, ?_, h6⟩
  obtain ⟨A', c', hv, hc', hr'⟩ := (own_f64 (base := base) h5.own h5.bd).row
  exact ⟨⟨A', c', by rw [h4, hv]; rfl, hc', hr'⟩, by have := h5.len; omega⟩
end Go.Proofs.YtlcigkgiiamgoaaGreatDoor
