import Derived.Test.YtikdhkmcdmnadaaGreatFmtRows
import Derived.Test.YtikdhkmcdmnadaaGreatFmtKV1
import Derived.ChangeArms
import Derived.FnData
set_option linter.unusedVariables false
set_option linter.unusedSimpArgs false
namespace Go.Proofs.YtikdhkmcdmnadaaGreatFmt
open Go.RowKit

/-! ### what the row lists of span.bad, read off -/
theorem trod_flt' {H : Type} {enc : TypeId × Value → H} {P : Program} {w : World} {base : Nat} {spare : Nat → Bool} {held : Bool} {t : TypeId} {fuel : Nat} {cs : List Value} {x : DataW H × List MemPlace} {k : FloatKind}
    (ht : P.underlying t = some (.float k)) (h : DataW.trod enc P w base spare held fuel t cs = some x) : ∃ n, cs = [.float k n] ∧ x = (.lit (.float k n), []) := by
  cases fuel with
  | zero => simp [DataW.trod] at h
  | succ n =>
    unfold DataW.trod at h
    rw [ht] at h
    split at h <;> simp_all
theorem laid_get {P : Program} {w : World} : ∀ {l : List (String × DataW Unit)} {ps : List MemPlace}, DataW.LaidVars P w l ps → ∀ {n : String} {d : DataW Unit}, (n, d) ∈ l →
    ∃ g t cs fuel p, P.globalNamed n = some g ∧ (P.globals[g]?).map (·.type) = some t ∧ w.var? P n = some cs ∧ DataW.trod (fun _ => ()) P w 0 (fun _ => true) false fuel t cs.toList = some (d, p)
  | [], _, _, _, _, hm => by cases hm
  | (n', d') :: r, ps, h, n, d, hm => by
    obtain ⟨g, t, cs, fuel, p, q, h1, h2, h3, h4, h5, _⟩ := h
    rcases List.mem_cons.1 hm with he | hr
    · obtain ⟨rfl, rfl⟩ := Prod.mk.inj he
      exact ⟨g, t, cs, fuel, p, h1, h2, h3, h4⟩
    · exact laid_get h5 hr
theorem bad_of {W : World} {l : List (String × DataW Unit)} (hm : ("ambit/span.bad", Rows.laid_ambit_span_bad) ∈ l) (h : laidMet Tryz.prog l W) : BadC W := by
  obtain ⟨ps, hv, _, _⟩ := h
  obtain ⟨g, t, cs, fuel, p, hg, ht, hw, hd⟩ := laid_get hv hm
  obtain rfl := Option.some.inj ((show Tryz.prog.globalNamed "ambit/span.bad" = some 0 by kernel_rfl).symm.trans hg)
  obtain rfl := Option.some.inj ((show (Tryz.prog.globals[0]?).map (·.type) = some 27 by kernel_rfl).symm.trans ht)
  obtain ⟨xs, n, _, hx, hl, hn, hel⟩ := DataW.trod_struct Tryz.underlying27 hd
  have uf : Tryz.prog.underlying 22 = some (.float .f64) := by kernel_rfl
  have ub : Tryz.prog.underlying 4 = some .bool := by kernel_rfl
  have cf : Tryz.prog.cellsOf 22 = 1 := by kernel_rfl
  have cb : Tryz.prog.cellsOf 4 = 1 := by kernel_rfl
  have c3 : Tryz.prog.cellsOf 27 = 3 := by kernel_rfl
  have e0 : DataW.trod (fun _ => ()) Tryz.prog W 0 (fun _ => true) false n 22 ((cs.toList.drop 0).take (Tryz.prog.cellsOf 22)) = xs[0]? := hel 0 _ rfl
  have e1 : DataW.trod (fun _ => ()) Tryz.prog W 0 (fun _ => true) false n 22 ((cs.toList.drop 1).take (Tryz.prog.cellsOf 22)) = xs[1]? := hel 1 _ rfl
  have e2 : DataW.trod (fun _ => ()) Tryz.prog W 0 (fun _ => true) false n 4 ((cs.toList.drop 2).take (Tryz.prog.cellsOf 4)) = xs[2]? := hel 2 _ rfl
  simp only [cf, cb] at e0 e1 e2
  rw [c3] at hl
  have hn3 : xs.length = 3 := hn
  obtain ⟨a, b, c, hc⟩ : ∃ a b c, cs.toList = [a, b, c] := by
    match h : cs.toList, hl with
    | [a, b, c], _ => exact ⟨a, b, c, rfl⟩
  obtain ⟨x0, x1, x2, rfl⟩ : ∃ a b c, xs = [a, b, c] := by
    match xs, hn3 with
    | [a, b, c], _ => exact ⟨a, b, c, rfl⟩
  rw [hc] at e0 e1 e2
  simp only [List.drop_zero, List.drop_succ_cons, List.take_succ_cons, List.take_zero, List.getElem?_cons_zero, List.getElem?_cons_succ] at e0 e1 e2
  obtain ⟨n0, ha, rfl⟩ := trod_flt' uf e0
  obtain ⟨n1, hb, rfl⟩ := trod_flt' uf e1
  obtain ⟨n2, hcc, rfl⟩ := DataW.trod_bool ub e2
  obtain rfl := (List.cons.inj ha).1
  obtain rfl := (List.cons.inj hb).1
  obtain rfl := (List.cons.inj hcc).1
  have hd' := (Prod.mk.inj hx).1
  unfold Rows.laid_ambit_span_bad at hd'
  simp only [List.map_cons, List.map_nil, DataW.agg.injEq, List.cons.injEq, DataW.lit.injEq, Lit.float.injEq, Lit.bool.injEq, and_true, true_and] at hd'
  obtain ⟨h0, h1, h2⟩ := hd'
  subst h0 h1 h2
  have hcell : ∀ i, W.cell? ⟨0, i, none⟩ = cs[i]? := fun i => World.var?_cell hg hw i
  have hcs : ∀ i, cs[i]? = [Value.float .f64 0, .float .f64 0, .bool true][i]? := fun i => by rw [← hc, Array.getElem?_toList]
  exact ⟨by rw [hcell, hcs]; rfl, by rw [hcell, hcs]; rfl, by rw [hcell, hcs]; rfl⟩
end Go.Proofs.YtikdhkmcdmnadaaGreatFmt
