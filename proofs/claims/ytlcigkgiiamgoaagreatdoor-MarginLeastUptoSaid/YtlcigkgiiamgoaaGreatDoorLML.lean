/- MarginLeast (17.2), in its second form: for every zonotope and claim of bulk at most 1048576 the law answers true, and what was handed in reads as it did. Conditions: the second form's own bound. -/
import Derived.Test.YtlcigkgiiamgoaaGreatDoorRows
import Derived.Test.YtlcigkgiiamgoaaGreatDoorJ20
import Derived.Test.YtlcigkgiiamgoaaGreatDoorJ24
import Derived.WalkKit
import Derived.ProofKit
import Derived.OpenShut
import Derived.ShutString
import Derived.ChangeOld
import Derived.Below
import Derived.SizedLaws
import Derived.JoinedCond
import Derived.Deep.CondSized
namespace Go.Proofs.YtlcigkgiiamgoaaGreatDoor
namespace LML
open Go.ChangeShapes Go.WideShapes Go.ChangeAt Go.RowKit
set_option linter.unusedVariables false
theorem own : ownKnob Tryz.prog.godebug = none := by kernel_rfl
theorem laidOut : laidOutB Tryz.prog = true := by kernel_rfl
theorem struct_fields {P : Program} {t : TypeId} (h : (shapeOf P t).isSome = true) : ∃ fs, P.underlying t = some (.struct fs) := by
  unfold shapeOf at h
  split at h
  · exact ⟨_, ‹_›⟩
  · cases h
set_option maxRecDepth 100000 in
theorem walk (z : Zn) (cs : List Value) (A : Option Addr) (a : List Nat) (c base : Nat) (w : World) (h : zRd.R w base z cs) (ha : f64.Row 41 w base A a) (hal : a.length ≤ 1099511627776) (hbase : base ≤ w.heap.size) :
    Calls Tryz.prog 3 #[.agg cs.toArray, .slice A a.length c] w fun e w' => e = .returned (.bool true) ∧ Below w.heap.size w w' := by
  by_cases hf : fitsB z a = true
  · exact least_main z cs A a c base w h ha hal hbase z.N.toNat (fits_facts hf) hf
  · refine least_fail z cs A a c base w h ha hal hbase ?_
    rw [fits_real] at hf
    by_cases h1 : realB z = true
    · by_cases h2 : a.all fin = true
      · right; right
        intro h3
        rw [h1, h2, decide_eq_true h3] at hf
        exact hf rfl
      · exact .inr (.inl (by simpa using h2))
    · exact .inl (by simpa using h1)
set_option maxHeartbeats 2000000 in
set_option maxRecDepth 100000 in
theorem lifted (os : Os) (started : os.Started) (H : Type) (enc : TypeId × Value → H) (F : Stop.Interp) :
    ReturnsInHanded {} Tryz.checked os 3 .any ((Rows.OpenSpec.upto Rows.marginLeastSpec).pre6 enc Tryz.prog Tryz.f3 Rows.marginLeastUptoRow.domain false) (((Rows.OpenSpec.upto Rows.marginLeastSpec).at F).post enc Tryz.prog Tryz.f3 false true false false) := by
  refine returnsInHanded_of_cond_sized (C := Tryz.checked) (s := Rows.OpenSpec.upto Rows.marginLeastSpec) (k := Rows.uptoSmall) rfl own started (by kernel_rfl) Tryz.func3
    (OpenSpec.witness (enc := enc) (C := Tryz.checked) (s := Rows.OpenSpec.upto Rows.marginLeastSpec) (k := Rows.uptoSmall) rfl false ⟨#[], #[.agg #[.int .i64 0, .slice none 0 0, .slice none 0 0, .slice none 0 0, .slice none 0 0, .bool false], .slice none 0 0], []⟩ 8 (by kernel_rfl) (by kernel_rfl) (by kernel_rfl)
      (x := ([.agg [.lit (.int .i64 0), .nil, .nil, .nil, .nil, .lit (.bool false)], .nil], [], [])) (by kernel_rfl) rfl (by kernel_rfl)) ?_
  intro W base args ds gs before hval0 hW _ hk0 hsz0 _
  have hsz : (DataW.weightsEach Tryz.prog (Tryz.f3.params.toList ++ Rows.marginLeastSpec.plain.varTypes Tryz.prog) (ds ++ gs)).all (· ≤ reachBytes) = true := hsz0
  have hval : ∀ (j : Nat) t v, Tryz.f3.params[j]? = some t → args[j]? = some v → Value.okWide Tryz.prog W .any base t v := hval0
  have hW' := hW
  obtain ⟨p, q, hA0, hV, rfl, hfz, hnd⟩ := hW
  have hA : DataW.TrodAll enc Tryz.prog W 0 (fun _ => true) true Tryz.f3.params.toList args.toList ds p := hA0
  rw [Tryz.params3] at hA hval hsz
  obtain ⟨v0, vs0, d0, ds0, p0, q0, hargs, rfl, rfl, h0, r0⟩ := trodAll_cons hA
  obtain ⟨v1, vs1, d1, ds1, p1, q1, rfl, rfl, rfl, h1, r1⟩ := trodAll_cons r0
  obtain ⟨rfl, rfl, rfl⟩ := trodAll_nil r1
  obtain rfl : args = #[v0, v1] := by cases args; simp_all
  obtain ⟨rfl, rfl⟩ := trodVars_none hV
  have hw0 : Wt Tryz.prog 26 d0 := Wt.arg hsz (j := 0) rfl rfl
  have hw1 : Wt Tryz.prog 22 d1 := Wt.arg hsz (j := 1) rfl rfl
  have hbk : Rows.uptoBulk d1 ≤ 1048576 := small_part hk0 d1 (by simp)
  have k0 := h0
  have k1 := h1
  have lt0 : ∀ x ∈ p0, x.block < W.heap.size := by obtain ⟨m, hm⟩ := k0; exact DataW.trod_lt m _ _ _ hm
  have lt1 : ∀ x ∈ p1, x.block < W.heap.size := by obtain ⟨m, hm⟩ := k1; exact DataW.trod_lt m _ _ _ hm
  obtain ⟨fs, hus⟩ := struct_fields (P := Tryz.prog) (t := 26) (by kernel_rfl)
  obtain ⟨cs, rfl, hcs⟩ := okWide_struct hus (hval 0 26 v0 rfl rfl)
  obtain ⟨fuel, hf⟩ := h0
  obtain ⟨z, hz⟩ := opens_zn enc W fuel cs.toList _ (by simpa [Value.cells] using hf) hw0
  obtain ⟨fuel1, hf1⟩ := h1
  obtain ⟨a, hcl, hc1, _⟩ := opensB_f enc W fuel1 v1.cells.toList _ (by simpa using hf1) hw1
  obtain ⟨⟨A, c, hcv, hcc, hrow⟩, hcln⟩ := hcl
  obtain ⟨A', n', c', rfl⟩ := okWide_slice (by kernel_rfl : Tryz.prog.underlying 22 = some (.slice 41)) (hval 1 22 v1 rfl rfl)
  obtain ⟨rfl, rfl, rfl⟩ : A' = A ∧ n' = a.length ∧ c' = c := by simpa [Value.cells] using hcv
  simp only at hc1
  clear hA0 hval0 hsz0 hsz
  have hwalk := walk z cs.toList A' a c' W.heap.size W hz hrow (by omega) (Nat.le_refl _)
  rw [Array.toArray_toList] at hwalk
  refine hwalk.mono fun e W' ⟨he, bel⟩ => ?_
  subst he
  exact ⟨_, rfl, ⟨_, _, _, [], _, [], hW', trodAll_mk1 (shut_bool (by kernel_rfl : Tryz.prog.underlying 4 = some .bool) _), (trodAll_cons_mk (Below.trod laidOut (by kernel_rfl) (of_decide_eq_true (by kernel_rfl)) k0 bel lt0) (trodAll_cons_mk (Below.trod laidOut (by kernel_rfl) (of_decide_eq_true (by kernel_rfl)) k1 bel lt1) trodAll_mk0)), rfl, bel.frame _, fun h => by cases h⟩⟩
end LML
theorem marginLeast_holds : Rows.MarginLeastUptoSaid :=
  OpenClaim.holds_of_cond 3 Tryz.f3 rfl rfl rfl rfl rfl rfl rfl ⟨rfl, rfl, rfl, rfl, rfl⟩ rfl rfl rfl rfl rfl (by kernel_rfl) Tryz.func3 (by kernel_rfl)
    (of_decide_eq_true (by kernel_rfl)) (by unfold Func.isWrapper; first | (rw [if_pos (by decide +kernel)]; kernel_rfl) | (rw [if_neg (by decide +kernel)]; exact ⟨rfl, rfl⟩))
    (fun os started H enc _ F => LML.lifted os started H enc F)
#print axioms marginLeast_holds
end Go.Proofs.YtlcigkgiiamgoaaGreatDoor
