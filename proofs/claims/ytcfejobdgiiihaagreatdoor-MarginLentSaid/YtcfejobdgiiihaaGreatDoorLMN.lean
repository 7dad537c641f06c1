/- MarginLent (17.11, rule 3): for every zonotope, question, number of outputs and of signs the law answers true, and what was handed in reads as it did. Conditions: none beyond the row's own. -/
import Derived.Test.YtcfejobdgiiihaaGreatDoorRows
import Derived.Test.YtcfejobdgiiihaaGreatDoorJ20
import Derived.Test.YtcfejobdgiiihaaGreatDoorJ22
import Derived.Test.YtcfejobdgiiihaaGreatDoorJ23
import Derived.WalkKit
import Derived.ProofKit
import Derived.OpenShut
import Derived.ShutString
import Derived.ChangeOld
import Derived.Below
import Derived.SizedLaws
import Derived.Handed
namespace Go.Proofs.YtcfejobdgiiihaaGreatDoor
namespace LMN
open Go.ChangeShapes Go.WideShapes Go.ChangeAt Go.RowKit
set_option linter.unusedVariables false
theorem own : ownKnob Tryz.prog.godebug = none := by kernel_rfl
theorem laidOut : laidOutB Tryz.prog = true := by kernel_rfl
theorem struct_fields {P : Program} {t : TypeId} (h : (shapeOf P t).isSome = true) : ∃ fs, P.underlying t = some (.struct fs) := by
  unfold shapeOf at h
  split at h
  · exact ⟨_, ‹_›⟩
  · cases h
set_option maxRecDepth 100000 in
theorem walk (z : Zn) (p : Pr) (cs cs' : List Value) (m k : Int) (w : World) (hz : zRd.R w w.heap.size z cs) (hp : prRd.R w w.heap.size p cs') :
    Calls Tryz.prog 7 #[.agg cs.toArray, .agg cs'.toArray, .int .i64 m, .int .i64 k] w fun e w' => e = .returned (.bool true) ∧ Below w.heap.size w w' := by
  by_cases hL : p.L.length ≤ 70 ∧ z.Ids.length ≤ 100
  · exact lent_main z p cs cs' m k w w.heap.size hz hp hL.1 hL.2 (Nat.le_refl _)
  · exact lent_early z p cs cs' m k w w.heap.size hz hp (by rcases Nat.lt_or_ge 70 p.L.length with h | h; exact .inl h; right; rcases Nat.lt_or_ge 100 z.Ids.length with h2 | h2; exact h2; exact absurd ⟨h, h2⟩ hL)
set_option maxHeartbeats 1000000 in
set_option maxRecDepth 100000 in
theorem lifted (os : Os) (started : os.Started) (H : Type) (enc : TypeId × Value → H) :
    ReturnsInHanded {} Tryz.checked os 7 .any (Rows.marginLentSpec.pre6 enc Tryz.prog Tryz.f7 [] false) (Rows.marginLentSpec.post enc Tryz.prog Tryz.f7 false true false false) := by
  refine returnsInHanded_of_change_sized (C := Tryz.checked) own started (by kernel_rfl) Tryz.func7
    (ChangeSpec.witness6 (enc := enc) (C := Tryz.checked) false ⟨#[], #[.agg #[.int .i64 0, .slice none 0 0, .slice none 0 0, .slice none 0 0, .slice none 0 0, .bool false], .agg #[.slice none 0 0, .slice none 0 0, .int .i64 0, .slice none 0 0, .int .i64 0, .int .i64 0, .int .i64 0], .int .i64 0, .int .i64 0], []⟩ 8 (by kernel_rfl) (by kernel_rfl) (by kernel_rfl) (by kernel_rfl)) ?_
  intro W base args ds gs before hval0 hW _ hsz0 _
  have hsz : (DataW.weightsEach Tryz.prog (Tryz.f7.params.toList ++ Rows.marginLentSpec.plain.varTypes Tryz.prog) (ds ++ gs)).all (· ≤ reachBytes) = true := hsz0
  have hval : ∀ (j : Nat) t v, Tryz.f7.params[j]? = some t → args[j]? = some v → Value.okWide Tryz.prog W .any base t v := hval0
  have hW' := hW
  obtain ⟨p, q, hA0, hV, rfl, hfz, hnd⟩ := hW
  have hA : DataW.TrodAll enc Tryz.prog W 0 (fun _ => true) true Tryz.f7.params.toList args.toList ds p := hA0
  rw [Tryz.params7] at hA hval hsz
  obtain ⟨v0, vs0, d0, ds0, p0, q0, hargs, rfl, rfl, h0, r0⟩ := trodAll_cons hA
  obtain ⟨v1, vs1, d1, ds1, p1, q1, rfl, rfl, rfl, h1, r1⟩ := trodAll_cons r0
  obtain ⟨v2, vs2, d2, ds2, p2, q2, rfl, rfl, rfl, h2, r2⟩ := trodAll_cons r1
  obtain ⟨v3, vs3, d3, ds3, p3, q3, rfl, rfl, rfl, h3, r3⟩ := trodAll_cons r2
  obtain ⟨rfl, rfl, rfl⟩ := trodAll_nil r3
  obtain rfl : args = #[v0, v1, v2, v3] := by cases args; simp_all
  obtain ⟨rfl, rfl⟩ := trodVars_none hV
  have u1 : Tryz.prog.underlying 3 = some (.int .i64) := by kernel_rfl
  obtain ⟨m, rfl, rfl, rfl, wm⟩ := open_int u1 (hval 2 3 v2 rfl rfl) h2
  obtain ⟨k, rfl, rfl, rfl, wk⟩ := open_int u1 (hval 3 3 v3 rfl rfl) h3
  have hw0 : Wt Tryz.prog 42 d0 := Wt.arg hsz (j := 0) rfl rfl
  have hw1 : Wt Tryz.prog 25 d1 := Wt.arg hsz (j := 1) rfl rfl
  have k0 := h0
  have k1 := h1
  have lt0 : ∀ x ∈ p0, x.block < W.heap.size := by obtain ⟨m, hm⟩ := k0; exact DataW.trod_lt m _ _ _ hm
  have lt1 : ∀ x ∈ p1, x.block < W.heap.size := by obtain ⟨m, hm⟩ := k1; exact DataW.trod_lt m _ _ _ hm
  obtain ⟨fs, hus⟩ := struct_fields (P := Tryz.prog) (t := 42) (by kernel_rfl)
  obtain ⟨cs, rfl, hcs⟩ := okWide_struct hus (hval 0 42 v0 rfl rfl)
  obtain ⟨fs', hus'⟩ := struct_fields (P := Tryz.prog) (t := 25) (by kernel_rfl)
  obtain ⟨cs', rfl, hcs'⟩ := okWide_struct hus' (hval 1 25 v1 rfl rfl)
  obtain ⟨fuel, hf⟩ := h0
  obtain ⟨z, hz⟩ := opens_zn enc W fuel cs.toList _ (by simpa [Value.cells] using hf) hw0
  obtain ⟨fuel1, hf1⟩ := h1
  obtain ⟨pr, hpr⟩ := opens_pr enc W fuel1 cs'.toList _ (by simpa [Value.cells] using hf1) hw1
  clear hA0 hval0 hsz0 hsz
  have hwalk := walk z pr cs.toList cs'.toList m k W hz hpr
  rw [Array.toArray_toList, Array.toArray_toList] at hwalk
  refine hwalk.mono fun e W' ⟨he, bel⟩ => ?_
  subst he
  exact ⟨_, rfl, ⟨_, _, _, [], _, [], hW', trodAll_mk1 (shut_bool (by kernel_rfl : Tryz.prog.underlying 4 = some .bool) _), (trodAll_cons_mk (Below.trod laidOut (by kernel_rfl) (of_decide_eq_true (by kernel_rfl)) k0 bel lt0) (trodAll_cons_mk (Below.trod laidOut (by kernel_rfl) (of_decide_eq_true (by kernel_rfl)) k1 bel lt1) (trodAll_cons_mk (shut_int u1 wm) (trodAll_cons_mk (shut_int u1 wk) trodAll_mk0)))), rfl, bel.frame _, fun h => by cases h⟩⟩
theorem over : Rows.marginLentRow.holds Tryz.pinned (OpenSpec.ofChange Rows.marginLentSpec) :=
  OpenClaim.holds_of_wide 7 Tryz.f7 rfl rfl rfl rfl rfl rfl rfl ⟨rfl, rfl, rfl, rfl, rfl⟩ rfl rfl rfl rfl rfl (by kernel_rfl) Tryz.func7 (by kernel_rfl)
    (of_decide_eq_true (by kernel_rfl)) (by unfold Func.isWrapper; first | (rw [if_pos (by decide +kernel)]; kernel_rfl) | (rw [if_neg (by decide +kernel)]; exact ⟨rfl, rfl⟩))
    (fun os started H enc _ => lifted os started H enc)
end LMN
theorem marginLent_holds : Rows.MarginLentSaid := LMN.over
#print axioms marginLent_holds
end Go.Proofs.YtcfejobdgiiihaaGreatDoor
