import Derived.Test.YtfgdmiigmcnmpaaGreatFmtJ36
import Derived.Test.YtfgdmiigmcnmpaaGreatFmtJ37
import Derived.Test.YtfgdmiigmcnmpaaGreatFmtKG35
set_option linter.unusedVariables false
set_option linter.unusedSimpArgs false
namespace Go.Proofs.YtfgdmiigmcnmpaaGreatFmt
open Go.RowKit
attribute [local go_sem ↓] Go.wp_at_zero Go.wp_at_succ

/-! ### ref2.rest, Sum2, Prod2 -/
def optRet3 (o : Option (Nat × Nat)) : Ending := .returned (.tuple #[.int .u64 (o.getD (0, 0)).1, .int .u64 (o.getD (0, 0)).2, .bool o.isSome])
theorem opt3_none {o : Option (Nat × Nat)} (h : o = none) : Ending.returned (.tuple #[.int .u64 0, .int .u64 0, .bool false]) = optRet3 o := by subst h; rfl
theorem opt3_some {o : Option (Nat × Nat)} {u v : Nat} (h : o = some (u, v)) : Ending.returned (.tuple #[.int .u64 u, .int .u64 v, .bool true]) = optRet3 o := by subst h; rfl
theorem rndD_in {d : Int} (K : Nat) (X : Int) (h : 0 ≤ d ∧ d ≤ 2) : rndD d K X = rndS d K X := by unfold rndD; rw [if_pos h]
/-- what rest tells, of what Up and Down tell -/
theorem meet_cases (s : Nat) (o1 o2 : Option Nat) : (o1.isSome = true → o2.isSome = true → (((o1.getD 0 : Nat) : Int) != ((o2.getD 0 : Nat) : Int)) = false → meetS s o1 o2 = some (s, o1.getD 0)) ∧ ((o1.isSome = false ∨ o2.isSome = false ∨ (((o1.getD 0 : Nat) : Int) != ((o2.getD 0 : Nat) : Int)) = true) → meetS s o1 o2 = none) := by
  cases o1 with
  | none => exact ⟨fun h => by simp at h, fun _ => meet_none (fun v h => by simp at h)⟩
  | some a =>
    cases o2 with
    | none => exact ⟨fun _ h => by simp at h, fun _ => meet_none (fun v _ h => by simp at h)⟩
    | some b =>
      refine ⟨fun _ _ h => ?_, fun h => ?_⟩
      · have : a = b := by simp [bne] at h; omega
        subst this
        exact meet_same _ _
      · refine meet_none (fun v h1 h2 => ?_)
        obtain rfl := Option.some.inj h1
        obtain rfl := Option.some.inj h2
        simp at h
set_option exponentiation.threshold 6000 in
theorem left_bd {X : Int} {s : Nat} (hX : X.natAbs < 2 ^ 5000) (hs : (fv s).natAbs < 2 ^ 2098) : (fv s * ((2 ^ 1074 : Nat) : Int)).natAbs < 2 ^ 5000 ∧ (X - fv s * ((2 ^ 1074 : Nat) : Int)).natAbs < 2 ^ 5001 := by
  have h := raise_bd hs
  refine ⟨h, ?_⟩
  have e : 2 ^ 5001 = 2 * 2 ^ 5000 := by rw [← Nat.pow_succ']
  rw [e]
  generalize fv s * ((2 ^ 1074 : Nat) : Int) = S at *
  generalize 2 ^ 5000 = P at *
  omega
set_option exponentiation.threshold 6000 in
set_option maxHeartbeats 1000000 in
set_option maxRecDepth 100000 in
theorem rest2_calls (base : Nat) (X : Int) (n1 : Bool) (A1 : Option Addr) (l1 c1 : Nat) (x1 : Int) (w : World) (hbase : base ≤ w.heap.size) (h : NumC 2148 w base X n1 A1 l1 c1 x1) (hX : X.natAbs < 2 ^ 5000) :
    Calls Tryz.prog 56 #[.agg #[.bool n1, .slice A1 l1 c1, .int .i64 x1]] w fun r w' => r = optRet3 (restS 2148 X) ∧ Below w.heap.size w w' := by
  have hB0 := below_new (Below.refl w.heap.size w) (.cells #[.bool n1, .slice A1 l1 c1, .int .i64 x1] 25)
  have H0 := Lib.hid (And.intro (num_blk w n1 A1 l1 c1 x1) (And.intro (h.below hB0) hB0))
  have HR := Lib.hid (fun (d : Int) (L : Nat) (X : Int) (n : Bool) (A : Option Addr) (l c : Nat) (x : Int) (W : World) (hb : w.heap.size ≤ W.heap.size) (hN : NumC 2148 W base X n A l c x) (hX : X.natAbs < 2 ^ L) (hL : L ≤ 536870912) => round_c d 2148 base L X n A l c x W (Nat.le_trans hbase hb) hN hX hL (by decide) (by decide))
  have HM := Lib.hid (fun (X Y : Int) (n1 n2 : Bool) (A1 A2 : Option Addr) (l1 l2 c1 c2 : Nat) (x1 x2 : Int) (W : World) (hb : w.heap.size ≤ W.heap.size) (hx : NumC 2148 W base X n1 A1 l1 c1 x1) (hy : NumC 2148 W base Y n2 A2 l2 c2 x2) (hX : X.natAbs < 2 ^ 5000) (hY : Y.natAbs < 2 ^ 5000) => minus_c3 2148 base 5000 X Y n1 n2 A1 A2 l1 l2 c1 c2 x1 x2 W (Nat.le_trans hbase hb) hx hy hX hY (by decide) (by decide))
  have HXB := Lib.hid hX
  rcases h0 : rndS 0 2148 X with _ | s
  · have HE : Hid (rndD 0 2148 X = none) := (rndD_in 2148 X (by decide)).trans h0
    have HRS : Hid (restS 2148 X = none) := by rw [Hid]; unfold restS; rw [h0, Option.bind_none]
    clear h hX hB0 h0 hbase HM
    go_enter Tryz.func56, Tryz.ntmps56
    go_wp2_with fail
    refine (HR.out 0 5000 X n1 A1 l1 c1 x1 _ H0.out.2.2.size H0.out.2.1 HXB.out (by decide)).mono ?_
    rintro e w1 ⟨rfl, hW⟩
    have H1 := Lib.hid (below_next H0.out.2.2 hW)
    clear hW
    rw [HE.out]
    unfold optRet
    go_wp2
    go_ret3
    exact ⟨opt3_none HRS.out, H1.out⟩
  · have HE : Hid (rndD 0 2148 X = some s) := (rndD_in 2148 X (by decide)).trans h0
    obtain ⟨hs1, hs2, -⟩ := near_close (by decide) h0
    have hbd := left_bd hX (near_bd (by decide) h0)
    have HO := Lib.hid (fun W => of_calls s base W hs1)
    have hnv : numV s = fv s := by unfold numV; rw [hs2, if_pos rfl]
    rw [hs2, hnv] at HO
    obtain ⟨S, hS⟩ : ∃ S, fv s * ((2 ^ 1074 : Nat) : Int) = S := ⟨_, rfl⟩
    rw [hS] at hbd
    have HSB := Lib.hid hbd
    have HSR := Lib.hid (fun (W : World) (n : Bool) (A : Option Addr) (l c : Nat) (x : Int) (hN : NumC 1074 W base (fv s) n A l c x) => show NumC 2148 W base S n A l c x from by have := hN.raise 1074; rw [hS] at this; exact this)
    have HRS : Hid (restS 2148 X = meetS s (rndS 1 2148 (X - S)) (rndS 2 2148 (X - S))) := restS_at h0 (by rw [← hS])
    have HU := Lib.hid (rndD_in (d := 1) 2148 (X - S) (by decide))
    have HD := Lib.hid (rndD_in (d := 2) 2148 (X - S) (by decide))
    obtain ⟨o1, ho1⟩ : ∃ o, rndS 1 2148 (X - S) = o := ⟨_, rfl⟩
    obtain ⟨o2, ho2⟩ : ∃ o, rndS 2 2148 (X - S) = o := ⟨_, rfl⟩
    rw [ho1, ho2] at HRS
    rw [ho1] at HU
    rw [ho2] at HD
    have HMC := Lib.hid (meet_cases s o1 o2)
    rw [← HRS.out] at HMC
    obtain ⟨o, ho⟩ : ∃ o, restS 2148 X = o := ⟨_, rfl⟩
    rw [ho] at HMC ⊢
    obtain ⟨a, ha⟩ : ∃ a, o1.getD 0 = a := ⟨_, rfl⟩
    obtain ⟨b, hb⟩ : ∃ a, o2.getD 0 = a := ⟨_, rfl⟩
    obtain ⟨p, hp⟩ : ∃ a, o1.isSome = a := ⟨_, rfl⟩
    obtain ⟨q, hq⟩ : ∃ a, o2.isSome = a := ⟨_, rfl⟩
    rw [ha, hb, hp, hq] at HMC
    have HU' : Hid (optRet (rndD 1 2148 (X - S)) = .returned (.tuple #[.int .u64 (a : Int), .bool p])) := by rw [Hid, HU.out, ← ha, ← hp]; rfl
    have HD' : Hid (optRet (rndD 2 2148 (X - S)) = .returned (.tuple #[.int .u64 (b : Int), .bool q])) := by rw [Hid, HD.out, ← hb, ← hq]; rfl
    clear h hX hB0 h0 hbase hs1 hs2 hbd hnv hS ho1 ho2 ho ha hb hp hq HU HD HRS
    go_enter Tryz.func56, Tryz.ntmps56
    go_wp2_with fail
    refine (HR.out 0 5000 X n1 A1 l1 c1 x1 _ H0.out.2.2.size H0.out.2.1 HXB.out (by decide)).mono ?_
    rintro e w1 ⟨rfl, hW⟩
    have H1 : Hid (Blk w1 w.heap.size 25 [.bool n1, .slice A1 l1 c1, .int .i64 x1] ∧ NumC 2148 w1 base X n1 A1 l1 c1 x1 ∧ Below w.heap.size w w1) := ⟨H0.out.1.below' hW, H0.out.2.1.below hW, below_next H0.out.2.2 hW⟩
    clear hW H0
    rw [HE.out]
    unfold optRet
    go_wp2_with fail
    refine (HO.out w1).mono ?_
    rintro e w2 ⟨n2, A2, l2, c2, x2, rfl, hR, hW⟩
    have hB2 := below_new (Below.refl w2.heap.size w2) (.cells #[.bool n2, .slice A2 l2 c2, .int .i64 x2] 25)
    have hblk := (H1.out.1.below' hW).below' hB2
    obtain ⟨⟨a0, a1, a2⟩, _⟩ := three hblk
    have H2 := Lib.hid (And.intro hblk (And.intro ((H1.out.2.1.below hW).below hB2) (And.intro (HSR.out _ _ _ _ _ _ (hR.below hB2)) (below_next (below_next H1.out.2.2 hW) hB2))))
    clear hR hW hB2 hblk
    obtain ⟨⟨b0, b1, b2⟩, _⟩ := three (num_blk w2 n2 A2 l2 c2 x2)
    go_wp2_with fail
    refine (HM.out X S n1 n2 A1 A2 l1 l2 c1 c2 x1 x2 _ H2.out.2.2.2.size H2.out.2.1 H2.out.2.2.1 HXB.out HSB.out.1).mono ?_
    rintro e w3 ⟨n3, A3, l3, c3, x3, rfl, hR, hW⟩
    have hB3 := below_new (Below.refl w3.heap.size w3) (.cells #[.bool n3, .slice A3 l3 c3, .int .i64 x3] 25)
    have H3 := Lib.hid (And.intro (num_blk w3 n3 A3 l3 c3 x3) (And.intro (hR.below hB3) (below_next (below_next H2.out.2.2.2 hW) hB3)))
    clear hR hW hB3 H1 H2 a0 a1 a2 b0 b1 b2
    obtain ⟨⟨a0, a1, a2⟩, _⟩ := three H3.out.1
    go_wp2_with fail
    refine (HR.out 1 5001 (X - S) n3 A3 l3 c3 x3 _ H3.out.2.2.size H3.out.2.1 HSB.out.2 (by decide)).mono ?_
    rintro e w4 ⟨rfl, hW⟩
    have H4 : Hid (Blk w4 w3.heap.size 25 [.bool n3, .slice A3 l3 c3, .int .i64 x3] ∧ NumC 2148 w4 base (X - S) n3 A3 l3 c3 x3 ∧ Below w.heap.size w w4) := ⟨H3.out.1.below' hW, H3.out.2.1.below hW, below_next H3.out.2.2 hW⟩
    clear hW H3 a0 a1 a2
    obtain ⟨⟨a0, a1, a2⟩, _⟩ := three H4.out.1
    rw [HU'.out]
    go_wp2_with fail
    refine (HR.out 2 5001 (X - S) n3 A3 l3 c3 x3 _ H4.out.2.2.size H4.out.2.1 HSB.out.2 (by decide)).mono ?_
    rintro e w5 ⟨rfl, hW⟩
    have H5 := Lib.hid (below_next H4.out.2.2 hW)
    clear hW H4 a0 a1 a2
    rw [HD'.out]
    cases p
    · have HNE := Lib.hid (HMC.out.2 (.inl (by first | rfl | trivial)))
      go_wp2
      go_ret3
      exact ⟨opt3_none HNE.out, H5.out⟩
    · cases q
      · have HNE := Lib.hid (HMC.out.2 (.inr (.inl (by first | rfl | trivial))))
        go_wp2
        go_ret3
        exact ⟨opt3_none HNE.out, H5.out⟩
      · rcases hne : (((a : Nat) : Int) != ((b : Nat) : Int)) with _ | _
        · have HNE := Lib.hid (HMC.out.1 (by first | rfl | trivial) (by first | rfl | trivial) hne)
          go_wp2
          go_ret3
          exact ⟨opt3_some HNE.out, H5.out⟩
        · have HNE := Lib.hid (HMC.out.2 (.inr (.inr hne)))
          go_wp2
          go_ret3
          exact ⟨opt3_none HNE.out, H5.out⟩
set_option exponentiation.threshold 6000 in
set_option maxHeartbeats 1000000 in
set_option maxRecDepth 100000 in
theorem sum22_calls (u v : Nat) (hu : u < 18446744073709551616) (hv : v < 18446744073709551616) (w : World) :
    Calls Tryz.prog 22 #[.int .u64 u, .int .u64 v] w fun r w' => r = optRet3 (partS 1 u v) ∧ Below w.heap.size w w' := by
  have HT := Lib.hid (two_calls u v hu hv w)
  rcases hf : (fin u && fin v) with _ | _
  · have hp : pairB 0 u v = false := by unfold pairB; rw [hf]; rfl
    rw [hf] at HT
    rw [part_false hp]
    clear hu hv hf hp
    go_enter Tryz.func22, Tryz.ntmps22
    go_wp2_with fail
    refine HT.out.mono ?_
    rintro e w1 ⟨n1, n2, A1, A2, l1, l2, c1, c2, x1, x2, rfl, hX, hY, hW⟩
    have H1 := Lib.hid (below_next hW (below_new (below_new (Below.refl w1.heap.size w1) (.cells #[.bool n1, .slice A1 l1 c1, .int .i64 x1] 25)) (.cells #[.bool n2, .slice A2 l2 c2, .int .i64 x2] 25)))
    clear hX hY hW HT
    go_wp2
    go_ret3
    exact ⟨rfl, by first | exact H1.out | exact Below.drew H1.out⟩
  · have f1 : fin u = true := by simp at hf; exact hf.1
    have f2 : fin v = true := by simp at hf; exact hf.2
    rw [hf] at HT
    obtain ⟨e1, e2⟩ := ex_num f1 f2
    have HXB := Lib.hid (exV_bd 1 hu hv (by decide))
    rw [hf, if_pos rfl] at HXB
    have HE : Hid (restS 2148 (exS 1 u v) = partS 1 u v) := (part_true (by unfold pairB; rw [f1, f2]; rfl)).symm
    have HV : Hid ((numV u + numV v) * ((2 ^ 1074 : Nat) : Int) = exS 1 u v) := by rw [Hid, e1, e2]; exact (exS_1 u v).symm
    have HBU := Lib.hid (And.intro (numV_bd hu) (numV_bd hv))
    obtain ⟨o, ho⟩ : ∃ o, partS 1 u v = o := ⟨_, rfl⟩
    obtain ⟨X, hX0⟩ : ∃ X, exS 1 u v = X := ⟨_, rfl⟩
    rw [ho, hX0] at HE
    rw [hX0] at HXB HV
    rw [ho]
    clear hu hv hf f1 f2 e1 e2 ho hX0
    go_enter Tryz.func22, Tryz.ntmps22
    go_wp2_with fail
    refine HT.out.mono ?_
    rintro e w1 ⟨n1, n2, A1, A2, l1, l2, c1, c2, x1, x2, rfl, hX, hY, hW⟩
    have hB := below_new (below_new (Below.refl w1.heap.size w1) (.cells #[.bool n1, .slice A1 l1 c1, .int .i64 x1] 25)) (.cells #[.bool n2, .slice A2 l2 c2, .int .i64 x2] 25)
    have H1 := Lib.hid (And.intro (hX.below hB) (And.intro (hY.below hB) (below_next hW hB)))
    clear hX hY hW HT hB
    go_wp2_with fail
    refine (plus_c2 1074 w.heap.size 2098 (numV u) (numV v) n1 n2 A1 A2 l1 l2 c1 c2 x1 x2 _ H1.out.2.2.size H1.out.1 H1.out.2.1 HBU.out.1 HBU.out.2 (by decide) (by decide)).mono ?_
    rintro e w2 ⟨n5, A5, l5, c5, x5, rfl, hR, hW⟩
    have hR2 : NumC 2148 w2 w.heap.size X n5 A5 l5 c5 x5 := by have h := hR.raise 1074; rw [HV.out] at h; exact h
    have H2 := Lib.hid (And.intro hR2 (below_next H1.out.2.2 hW))
    clear hR hR2 hW
    go_wp2_with fail
    refine (rest2_calls w.heap.size X n5 A5 l5 c5 x5 w2 H2.out.2.size H2.out.1 HXB.out).mono ?_
    rintro e w3 ⟨rfl, hW⟩
    have H3 := Lib.hid (below_next H2.out.2 hW)
    clear hW
    rw [HE.out]
    unfold optRet3
    go_wp2
    go_ret3
    exact ⟨rfl, H3.out⟩
set_option exponentiation.threshold 6000 in
set_option maxHeartbeats 1000000 in
set_option maxRecDepth 100000 in
theorem prod22_calls (u v : Nat) (hu : u < 18446744073709551616) (hv : v < 18446744073709551616) (w : World) :
    Calls Tryz.prog 25 #[.int .u64 u, .int .u64 v] w fun r w' => r = optRet3 (partS 3 u v) ∧ Below w.heap.size w w' := by
  have HT := Lib.hid (two_calls u v hu hv w)
  rcases hf : (fin u && fin v) with _ | _
  · have hp : pairB 0 u v = false := by unfold pairB; rw [hf]; rfl
    rw [hf] at HT
    rw [part_false hp]
    clear hu hv hf hp
    go_enter Tryz.func25, Tryz.ntmps25
    go_wp2_with fail
    refine HT.out.mono ?_
    rintro e w1 ⟨n1, n2, A1, A2, l1, l2, c1, c2, x1, x2, rfl, hX, hY, hW⟩
    have H1 := Lib.hid (below_next hW (below_new (below_new (Below.refl w1.heap.size w1) (.cells #[.bool n1, .slice A1 l1 c1, .int .i64 x1] 25)) (.cells #[.bool n2, .slice A2 l2 c2, .int .i64 x2] 25)))
    clear hX hY hW HT
    go_wp2
    go_ret3
    exact ⟨rfl, by first | exact H1.out | exact Below.drew H1.out⟩
  · have f1 : fin u = true := by simp at hf; exact hf.1
    have f2 : fin v = true := by simp at hf; exact hf.2
    rw [hf] at HT
    obtain ⟨e1, e2⟩ := ex_num f1 f2
    have HXB := Lib.hid (exV_bd 3 hu hv (by decide))
    rw [hf, if_pos rfl] at HXB
    have HE : Hid (restS 2148 (exS 3 u v) = partS 3 u v) := (part_true (by unfold pairB; rw [f1, f2]; rfl)).symm
    have HV : Hid (numV u * numV v = exS 3 u v) := by rw [Hid, e1, e2]; exact (exS_3 u v).symm
    have HBU := Lib.hid (And.intro (numV_bd hu) (numV_bd hv))
    obtain ⟨o, ho⟩ : ∃ o, partS 3 u v = o := ⟨_, rfl⟩
    obtain ⟨X, hX0⟩ : ∃ X, exS 3 u v = X := ⟨_, rfl⟩
    rw [ho, hX0] at HE
    rw [hX0] at HXB HV
    rw [ho]
    clear hu hv hf f1 f2 e1 e2 ho hX0
    go_enter Tryz.func25, Tryz.ntmps25
    go_wp2_with fail
    refine HT.out.mono ?_
    rintro e w1 ⟨n1, n2, A1, A2, l1, l2, c1, c2, x1, x2, rfl, hX, hY, hW⟩
    have hB := below_new (below_new (Below.refl w1.heap.size w1) (.cells #[.bool n1, .slice A1 l1 c1, .int .i64 x1] 25)) (.cells #[.bool n2, .slice A2 l2 c2, .int .i64 x2] 25)
    have H1 := Lib.hid (And.intro (hX.below hB) (And.intro (hY.below hB) (below_next hW hB)))
    clear hX hY hW HT hB
    go_wp2_with fail
    refine (times_c2 1074 1074 w.heap.size 2098 (numV u) (numV v) n1 n2 A1 A2 l1 l2 c1 c2 x1 x2 _ H1.out.2.2.size H1.out.1 H1.out.2.1 HBU.out.1 HBU.out.2 (by decide) (by decide) (by decide)).mono ?_
    rintro e w2 ⟨n5, A5, l5, c5, x5, rfl, hR, hW⟩
    have hR2 : NumC 2148 w2 w.heap.size X n5 A5 l5 c5 x5 := by have h := hR; rw [HV.out] at h; exact h
    have H2 := Lib.hid (And.intro hR2 (below_next H1.out.2.2 hW))
    clear hR hR2 hW
    go_wp2_with fail
    refine (rest2_calls w.heap.size X n5 A5 l5 c5 x5 w2 H2.out.2.size H2.out.1 HXB.out).mono ?_
    rintro e w3 ⟨rfl, hW⟩
    have H3 := Lib.hid (below_next H2.out.2 hW)
    clear hW
    rw [HE.out]
    unfold optRet3
    go_wp2
    go_ret3
    exact ⟨rfl, H3.out⟩
end Go.Proofs.YtfgdmiigmcnmpaaGreatFmt
