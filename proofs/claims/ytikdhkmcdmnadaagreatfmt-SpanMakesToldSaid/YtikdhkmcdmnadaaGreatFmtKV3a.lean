import Derived.Test.YtikdhkmcdmnadaaGreatFmtKV2
import Derived.Deep.RegionHeld
set_option linter.unusedVariables false
set_option linter.unusedSimpArgs false
namespace Go.Proofs.YtikdhkmcdmnadaaGreatFmt
open Go.RowKit
attribute [local go_sem ↓] Go.wp_at_zero Go.wp_at_succ

/-! ### ref4: bad, Of, Ends, Make (printed by gen_v3.py) -/
def rpV (s : Sp) : Value := .agg #[.int .u64 s.lo, .int .u64 s.hi, .bool s.bad]
def ofS (o1 o2 : Option Nat) : Sp := if o1.isSome && o2.isSome then ⟨o1.getD 0, o2.getD 0, false⟩ else badS
theorem rs_zero (w : World) : Blk (w.alloc (.cells #[.int .u64 0, .int .u64 0, .bool false] 30)) w.heap.size 30 [.int .u64 0, .int .u64 0, .bool false] := Blk.new _ _ _
theorem rs_new (w : World) (lo hi : Nat) (b : Bool) : Blk (w.alloc (.cells #[.int .u64 lo, .int .u64 hi, .bool b] 30)) w.heap.size 30 [.int .u64 lo, .int .u64 hi, .bool b] := Blk.new _ _ _
theorem rbad_calls (w : World) : Calls Tryz.prog 14 #[] w fun e w' => e = .returned (rpV badS) ∧ Below w.heap.size w w' := by
  have HR := Lib.hid (rs_zero w)
  have HB := Lib.hid (below_new (Below.refl w.heap.size w) (.cells #[.int .u64 0, .int .u64 0, .bool false] 30))
  obtain ⟨⟨r0, r1, r2⟩, f0, f1, f2⟩ := three HR.out
  go_enter Tryz.func14, Tryz.ntmps14
  go_wp2
  have hb := ((HR.out.set 0 (.int .u64 0)).set 1 (.int .u64 0)).set 2 (.bool true)
  obtain ⟨⟨t0, t1, t2⟩, _⟩ := three hb
  refine bodyPost_ret (v := .agg #[.int .u64 0, .int .u64 0, .bool true]) (by simp [results, Tryz.results14, go_sem, t0, t1, t2]) rfl ⟨rfl, ?_⟩
  first | exact below_new (Below.refl _ _) _ | exact ((HB.out.setCell (p := ⟨w.heap.size, 0, none⟩) (by first | exact Nat.le_refl _ | (dsimp only; omega)) _).setCell (p := ⟨w.heap.size, 1, none⟩) (by first | exact Nat.le_refl _ | (dsimp only; omega)) _).setCell (p := ⟨w.heap.size, 2, none⟩) (by first | exact Nat.le_refl _ | (dsimp only; omega)) _
/-- a number of the reference in a block of its own, at 2^-K -/
def NV (K : Nat) (w : World) (base b : Nat) (X : Int) (neg : Bool) (A : Option Addr) (n c : Nat) (x : Int) : Prop := Blk w b 38 [.bool neg, .slice A n c, .int .i64 x] ∧ NumC K w base X neg A n c x
theorem NV.below {K : Nat} {w w' : World} {base b : Nat} {X : Int} {neg : Bool} {A : Option Addr} {n c : Nat} {x : Int} (h : NV K w base b X neg A n c x) (hb : Below w.heap.size w w') : NV K w' base b X neg A n c x := ⟨h.1.below' hb, h.2.below hb⟩
theorem NV.cells {K : Nat} {w : World} {base b : Nat} {X : Int} {neg : Bool} {A : Option Addr} {n c : Nat} {x : Int} (h : NV K w base b X neg A n c x) : w.cell? ⟨b, 0, none⟩ = some (.bool neg) ∧ w.cell? ⟨b, 1, none⟩ = some (.slice A n c) ∧ w.cell? ⟨b, 2, none⟩ = some (.int .i64 x) := (three h.1).1
theorem NV.new {K : Nat} {w : World} {base : Nat} {X : Int} {neg : Bool} {A : Option Addr} {n c : Nat} {x : Int} (h : NumC K w base X neg A n c x) : NV K (w.alloc (.cells #[.bool neg, .slice A n c, .int .i64 x] 38)) base w.heap.size X neg A n c x := ⟨num_blk _ _ _ _ _ _, h.below (below_new (Below.refl _ _) _)⟩
set_option maxHeartbeats 1000000 in
set_option maxRecDepth 100000 in
theorem rof_calls (K base L : Nat) (X Y : Int) (n1 n2 : Bool) (A1 A2 : Option Addr) (l1 l2 c1 c2 : Nat) (x1 x2 : Int) (w : World) (hbase : base ≤ w.heap.size) (hx : NumC K w base X n1 A1 l1 c1 x1) (hy : NumC K w base Y n2 A2 l2 c2 x2) (hX : X.natAbs < 2 ^ L) (hY : Y.natAbs < 2 ^ L) (hL : L ≤ 536870912) (hK0 : 1074 < K) (hK : K ≤ 536870912) :
    Calls Tryz.prog 15 #[.agg #[.bool n1, .slice A1 l1 c1, .int .i64 x1], .agg #[.bool n2, .slice A2 l2 c2, .int .i64 x2]] w fun e w' => e = .returned (rpV (ofS (rndS 2 K X) (rndS 1 K Y))) ∧ Below w.heap.size w w' := by
  have hB1 := below_new (Below.refl w.heap.size w) (.cells #[.bool n1, .slice A1 l1 c1, .int .i64 x1] 38)
  have hB2 := below_new hB1 (.cells #[.bool n2, .slice A2 l2 c2, .int .i64 x2] 38)
  have hB3 := below_new hB2 (.cells #[.int .u64 0, .int .u64 0, .bool false] 30)
  have e2 : rndD 2 K X = rndS 2 K X := by unfold rndD; rw [if_pos (by decide)]
  have e1 : rndD 1 K Y = rndS 1 K Y := by unfold rndD; rw [if_pos (by decide)]
  have HRX := Lib.hid (fun (W : World) (hW : Below w.heap.size w W) => round_c 2 K base L X n1 A1 l1 c1 x1 W (Nat.le_trans hbase hW.size) (hx.below hW) hX hL hK0 hK)
  have HRY := Lib.hid (fun (W : World) (hW : Below w.heap.size w W) => round_c 1 K base L Y n2 A2 l2 c2 x2 W (Nat.le_trans hbase hW.size) (hy.below hW) hY hL hK0 hK)
  rw [e2] at HRX
  rw [e1] at HRY
  have hz := rs_zero ((w.alloc (.cells #[.bool n1, .slice A1 l1 c1, .int .i64 x1] 38)).alloc (.cells #[.bool n2, .slice A2 l2 c2, .int .i64 x2] 38))
  simp only [World.size_alloc] at hz
  have hq := (num_blk (w.alloc (.cells #[.bool n1, .slice A1 l1 c1, .int .i64 x1] 38)) n2 A2 l2 c2 x2).alloc (.cells #[.int .u64 0, .int .u64 0, .bool false] 30)
  simp only [World.size_alloc] at hq
  have H0 := Lib.hid (And.intro hz (And.intro hq hB3))
  obtain ⟨o1, ho1⟩ : ∃ o, rndS 2 K X = o := ⟨_, rfl⟩
  obtain ⟨o2, ho2⟩ : ∃ o, rndS 1 K Y = o := ⟨_, rfl⟩
  rw [ho1] at HRX
  rw [ho2] at HRY
  rw [ho1, ho2]
  obtain ⟨a, ha⟩ : ∃ a, o1.getD 0 = a := ⟨_, rfl⟩
  obtain ⟨b, hb⟩ : ∃ a, o2.getD 0 = a := ⟨_, rfl⟩
  obtain ⟨p, hp⟩ : ∃ a, o1.isSome = a := ⟨_, rfl⟩
  obtain ⟨q, hq'⟩ : ∃ a, o2.isSome = a := ⟨_, rfl⟩
  unfold optRet at HRX HRY
  unfold ofS
  rw [ha, hp] at HRX
  rw [hb, hq'] at HRY
  rw [ha, hb, hp, hq']
  clear hbase hx hy hX hY hL hK0 hK hB1 hB2 hB3 e1 e2 hz hq ho1 ho2 ha hb hp hq'
  go_enter Tryz.func15, Tryz.ntmps15
  go_wp2_with fail
  refine (HRX.out _ H0.out.2.2).mono ?_
  rintro e w1 ⟨rfl, hW⟩
  have H1 := Lib.hid (And.intro (H0.out.1.below' hW) (And.intro (H0.out.2.1.below' hW) (below_next H0.out.2.2 hW)))
  clear hW H0
  obtain ⟨⟨q0, q1, q2⟩, _⟩ := three H1.out.2.1
  go_wp2_with fail
  refine (HRY.out _ H1.out.2.2).mono ?_
  rintro e w2 ⟨rfl, hW⟩
  have H2 := Lib.hid (And.intro (H1.out.1.below' hW) (below_next H1.out.2.2 hW))
  clear hW H1 q0 q1 q2
  have HR := Lib.hid H2.out.1
  cases p
  · go_wp2_with fail
    refine (rbad_calls _).mono ?_
    rintro e w3 ⟨rfl, hW⟩
    have HB3 := Lib.hid (below_next H2.out.2 hW)
    have HR3 := Lib.hid (HR.out.below' hW)
    obtain ⟨⟨r0, r1, r2⟩, f0, f1, f2⟩ := three HR3.out
    clear hW
    unfold rpV badS
    go_wp2
    have hb := ((HR3.out.set 0 (.int .u64 0)).set 1 (.int .u64 0)).set 2 (.bool true)
    obtain ⟨⟨t0, t1, t2⟩, _⟩ := three hb
    refine bodyPost_ret (v := .agg #[.int .u64 0, .int .u64 0, .bool true]) (by simp [results, Tryz.results15, go_sem, t0, t1, t2]) rfl ⟨rfl, ?_⟩
    first | exact below_new (Below.refl _ _) _ | exact ((HB3.out.setCell (p := ⟨(w.heap.size + 1 + 1), 0, none⟩) (by first | exact Nat.le_refl _ | (dsimp only; omega)) _).setCell (p := ⟨(w.heap.size + 1 + 1), 1, none⟩) (by first | exact Nat.le_refl _ | (dsimp only; omega)) _).setCell (p := ⟨(w.heap.size + 1 + 1), 2, none⟩) (by first | exact Nat.le_refl _ | (dsimp only; omega)) _
  · cases q
    · go_wp2_with fail
      refine (rbad_calls _).mono ?_
      rintro e w3 ⟨rfl, hW⟩
      have HB3 := Lib.hid (below_next H2.out.2 hW)
      have HR3 := Lib.hid (HR.out.below' hW)
      obtain ⟨⟨r0, r1, r2⟩, f0, f1, f2⟩ := three HR3.out
      clear hW
      unfold rpV badS
      go_wp2
      have hb := ((HR3.out.set 0 (.int .u64 0)).set 1 (.int .u64 0)).set 2 (.bool true)
      obtain ⟨⟨t0, t1, t2⟩, _⟩ := three hb
      refine bodyPost_ret (v := .agg #[.int .u64 0, .int .u64 0, .bool true]) (by simp [results, Tryz.results15, go_sem, t0, t1, t2]) rfl ⟨rfl, ?_⟩
      first | exact below_new (Below.refl _ _) _ | exact ((HB3.out.setCell (p := ⟨(w.heap.size + 1 + 1), 0, none⟩) (by first | exact Nat.le_refl _ | (dsimp only; omega)) _).setCell (p := ⟨(w.heap.size + 1 + 1), 1, none⟩) (by first | exact Nat.le_refl _ | (dsimp only; omega)) _).setCell (p := ⟨(w.heap.size + 1 + 1), 2, none⟩) (by first | exact Nat.le_refl _ | (dsimp only; omega)) _
    · have HB := Lib.hid H2.out.2
      obtain ⟨⟨r0, r1, r2⟩, f0, f1, f2⟩ := three HR.out
      go_wp2
      have hb := ((HR.out.set 0 (.int .u64 a)).set 1 (.int .u64 b)).set 2 (.bool false)
      obtain ⟨⟨t0, t1, t2⟩, _⟩ := three hb
      refine bodyPost_ret (v := .agg #[.int .u64 a, .int .u64 b, .bool false]) (by simp [results, Tryz.results15, go_sem, t0, t1, t2]) rfl ⟨rfl, ?_⟩
      first | exact below_new (Below.refl _ _) _ | exact ((HB.out.setCell (p := ⟨(w.heap.size + 1 + 1), 0, none⟩) (by first | exact Nat.le_refl _ | (dsimp only; omega)) _).setCell (p := ⟨(w.heap.size + 1 + 1), 1, none⟩) (by first | exact Nat.le_refl _ | (dsimp only; omega)) _).setCell (p := ⟨(w.heap.size + 1 + 1), 2, none⟩) (by first | exact Nat.le_refl _ | (dsimp only; omega)) _
/-- what the last region of Ends reads -/
structure EnW (w0 w : World) (base b1 b5 b7 lo hi : Nat) (b : Bool) (P Q : Int) (n1 n2 : Bool) (A1 A2 : Option Addr) (l1 l2 c1 c2 : Nat) (x1 x2 : Int) : Prop where
  s : Blk w b1 30 [.int .u64 lo, .int .u64 hi, .bool b]
  p : NV 1074 w base b5 P n1 A1 l1 c1 x1
  q : NV 1074 w base b7 Q n2 A2 l2 c2 x2
  bel : Below w0.heap.size w0 w
theorem EnW.below {w0 w w' : World} {base b1 b5 b7 lo hi : Nat} {b : Bool} {P Q : Int} {n1 n2 : Bool} {A1 A2 : Option Addr} {l1 l2 c1 c2 : Nat} {x1 x2 : Int} (h : EnW w0 w base b1 b5 b7 lo hi b P Q n1 n2 A1 A2 l1 l2 c1 c2 x1 x2) (hb : Below w.heap.size w w') : EnW w0 w' base b1 b5 b7 lo hi b P Q n1 n2 A1 A2 l1 l2 c1 c2 x1 x2 := ⟨h.s.below' hb, h.p.below hb, h.q.below hb, below_next h.bel hb⟩
theorem EnW.set1 {w0 w : World} {base b1 b5 b7 lo hi r : Nat} {b : Bool} {P Q : Int} {n1 n2 : Bool} {A1 A2 : Option Addr} {l1 l2 c1 c2 : Nat} {x1 x2 : Int} {cs : List Value} (h : EnW w0 w base b1 b5 b7 lo hi b P Q n1 n2 A1 A2 l1 l2 c1 c2 x1 x2) (hr : Blk w r 38 cs) (hB : base ≤ r) (h0 : w0.heap.size ≤ r) (h1 : b1 ≠ r) (h5 : b5 ≠ r) (h7 : b7 ≠ r) (i : Nat) (u : Value) : EnW w0 (w.setCell ⟨r, i, none⟩ u) base b1 b5 b7 lo hi b P Q n1 n2 A1 A2 l1 l2 c1 c2 x1 x2 :=
  ⟨h.s.far (p := ⟨r, i, none⟩) h1 _, ⟨h.p.1.far (p := ⟨r, i, none⟩) h5 _, h.p.2.set hr hB i u⟩, ⟨h.q.1.far (p := ⟨r, i, none⟩) h7 _, h.q.2.set hr hB i u⟩, h.bel.setCell (p := ⟨r, i, none⟩) h0 _⟩
theorem EnW.set3 {w0 w : World} {base b1 b5 b7 lo hi r : Nat} {b : Bool} {P Q : Int} {n1 n2 : Bool} {A1 A2 : Option Addr} {l1 l2 c1 c2 : Nat} {x1 x2 : Int} {cs : List Value} (h : EnW w0 w base b1 b5 b7 lo hi b P Q n1 n2 A1 A2 l1 l2 c1 c2 x1 x2) (hr : Blk w r 38 cs) (hB : base ≤ r) (h0 : w0.heap.size ≤ r) (h1 : b1 ≠ r) (h5 : b5 ≠ r) (h7 : b7 ≠ r) (u0 u1 u2 : Value) : EnW w0 (((w.setCell ⟨r, 0, none⟩ u0).setCell ⟨r, 1, none⟩ u1).setCell ⟨r, 2, none⟩ u2) base b1 b5 b7 lo hi b P Q n1 n2 A1 A2 l1 l2 c1 c2 x1 x2 :=
  ((h.set1 hr hB h0 h1 h5 h7 0 u0).set1 (hr.set 0 u0) hB h0 h1 h5 h7 1 u1).set1 ((hr.set 0 u0).set 1 u1) hB h0 h1 h5 h7 2 u2
theorem good_num {lo hi : Nat} (hl : lo < 18446744073709551616) (hh : hi < 18446744073709551616) (fl : fin lo = true) (fh : fin hi = true) : goodB lo hi false = decide (Int.sign (numV lo - numV hi) ≤ 0) := by
  unfold goodB leF
  have e : FloatKind.f64.format.order lo hi = some (compare (fv lo) (fv hi)) := order_fin hl hh fl fh
  have a : numV lo = fv lo := by unfold numV; rw [fl, if_pos rfl]
  have b : numV hi = fv hi := by unfold numV; rw [fh, if_pos rfl]
  rw [fl, fh, e, a, b]
  rcases Int.lt_trichotomy (fv lo) (fv hi) with h | h | h
  · rw [Int.compare_eq_lt.2 h, Int.sign_eq_neg_one_of_neg (by omega)]; rfl
  · rw [Int.compare_eq_eq.2 h, h, Int.sub_self]; rfl
  · rw [Int.compare_eq_gt.2 h, Int.sign_eq_one_of_pos (by omega)]; rfl
set_option exponentiation.threshold 3000 in
theorem numV_bd {u : Nat} (hu : u < 18446744073709551616) : (numV u).natAbs < 2 ^ 2098 := by
  unfold numV
  rcases h : fin u with _ | _
  · exact Nat.pow_pos (by decide)
  · exact fv_bd hu h
end Go.Proofs.YtikdhkmcdmnadaaGreatFmt
