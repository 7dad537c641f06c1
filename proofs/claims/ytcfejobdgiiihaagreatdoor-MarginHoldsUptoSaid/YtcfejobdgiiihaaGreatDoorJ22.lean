/- Walks and plain laws of this seat's functions, part 22: C19 C11 C12 C13 C14 C20 C21 C22. -/
import Derived.Deep.DrawnRows
import Derived.Test.YtcfejobdgiiihaaGreatDoorJ21
set_option linter.unusedVariables false
set_option linter.unusedSimpArgs false
namespace Go.Proofs.YtcfejobdgiiihaaGreatDoor
open Go.RowKit

def RealsPost (z : Zn) (w : World) (base : Nat) (e : Ending) (w' : World) : Prop := Below w.heap.size w w' ∧
  ((realB z = false ∧ e = .returned (.tuple #[.agg zc5.toArray, .bool false])) ∨ (realB z = true ∧ ∃ AC AI AG AR cC cI cG cR, e = .returned (.tuple #[.agg (realCs z AC AI AG AR cC cI cG cR).toArray, .bool true]) ∧ RRows w' base z AC AI AG AR ∧ ∀ q : Addr, AI = some q → w.heap.size ≤ q.block))
theorem reals_calls (z : Zn) (cs : List Value) (w : World) (b1 base : Nat) (h : rzRd.R w b1 z cs) (hbase : base ≤ w.heap.size) :
    Calls Tryz.prog 24 #[.agg cs.toArray] w (RealsPost z w base) := by
  by_cases h1 : z.bad = true ∨ z.N < 1 ∨ 256 < z.N ∨ z.Ids.length ≠ z.G.length
  · refine (reals_early z cs w b1 h h1).mono ?_
    rintro e w' ⟨rfl, hW⟩
    refine ⟨hW, .inl ⟨realB_no ?_, rfl⟩⟩
    rcases h1 with h | h | h | h
    · exact .inl h
    · exact .inr (.inl h)
    · exact .inr (.inr (.inl h))
    · exact .inr (.inr (.inr (.inl h)))
  · have hb : z.bad = false := by
      cases hz : z.bad
      · rfl
      · exact absurd (.inl hz) h1
    have hn1 : 1 ≤ z.N := by
      rcases Int.lt_or_le z.N 1 with h | h
      · exact absurd (.inr (.inl h)) h1
      · exact h
    have hn2 : z.N ≤ 256 := by
      rcases Int.lt_or_le 256 z.N with h | h
      · exact absurd (.inr (.inr (.inl h))) h1
      · exact h
    have hL : z.Ids.length = z.G.length := Classical.byContradiction fun h => h1 (.inr (.inr (.inr h)))
    cases hrow : (rowB z.C z.N && rowB z.R z.N)
    · refine (reals_head z cs w b1 base h hbase hb hn1 hn2 hL hrow).mono ?_
      rintro e w' ⟨rfl, hW⟩
      refine ⟨hW, .inl ⟨realB_no ?_, rfl⟩⟩
      cases hc : rowB z.C z.N
      · exact .inr (.inr (.inr (.inr (.inl rfl))))
      · rw [hc, Bool.true_and] at hrow
        exact .inr (.inr (.inr (.inr (.inr hrow))))
    · have hC : rowB z.C z.N = true := by
        cases hc : rowB z.C z.N
        · rw [hc] at hrow; cases hrow
        · rfl
      have hR : rowB z.R z.N = true := by
        rw [hC, Bool.true_and] at hrow; exact hrow
      have hE : realB z = (z.R.all (fun u => decide (0 ≤ fv u)) && (List.range z.Ids.length).all (idOk z)) := by
        unfold realB goodB
        rw [hb, decide_eq_true hn1, decide_eq_true hn2, hC, hR, decide_eq_true hL]; rfl
      refine (reals_tail z cs w b1 base h hbase hb hn1 hn2 hL hC hR).mono ?_
      rintro e w' ⟨hW, hh⟩
      rw [← hE] at hh
      exact ⟨hW, hh⟩
theorem fits_real (z : Zn) (a : List Nat) : fitsB z a = (realB z && a.all fin && decide ((a.length : Int) = z.N + 1)) := by
  unfold fitsB realB
  cases z.bad <;> cases goodB z <;> cases a.all fin <;> simp
/-! what runs of ref2's functions leave, opened -/
theorem minus_o (K base : Nat) (X Y : Int) (cx cy : List Value) (w : World) (hbase : base ≤ w.heap.size) (hx : (numRd K).R w base X cx) (hy : (numRd K).R w base Y cy)
    (hX : X.natAbs < 2 ^ CapL) (hY : Y.natAbs < 2 ^ CapL) (hK : K ≤ 1073741824) :
    Calls Tryz.prog 31 #[.agg cx.toArray, .agg cy.toArray] w fun r w' => ∃ neg A n c e, r = .returned (.agg #[.bool neg, .slice A n c, .int .i64 e]) ∧ (numRd K).R w' base (X - Y) [.bool neg, .slice A n c, .int .i64 e] ∧ Below w.heap.size w w' := by
  refine (minus_num K base CapL X Y cx cy w hbase hx hy hX hY (by decide) hK).mono ?_
  rintro r w' ⟨cs, rfl, hr, hW⟩
  obtain ⟨neg, A, n, c, e, rfl⟩ := num_open hr
  exact ⟨_, _, _, _, _, rfl, hr, hW⟩
theorem size_o (K base : Nat) (X : Int) (cs : List Value) (w : World) (h : (numRd K).R w base X cs) :
    Calls Tryz.prog 33 #[.agg cs.toArray] w fun r w' => ∃ neg A n c e, r = .returned (.agg #[.bool neg, .slice A n c, .int .i64 e]) ∧ (numRd K).R w' base (X.natAbs : Int) [.bool neg, .slice A n c, .int .i64 e] ∧ Below w.heap.size w w' := by
  refine (size_calls K base X cs w h).mono ?_
  rintro r w' ⟨cs, rfl, hr, hW⟩
  obtain ⟨neg, A, n, c, e, rfl⟩ := num_open hr
  exact ⟨_, _, _, _, _, rfl, hr, hW⟩
theorem weighs_o (A B : Option Addr) (a l : List Nat) (n m ca cb t1 t2 base : Nat) (w : World) (hn : a.length = n) (hm : l.length = m) (hA : nRd.Row t1 w base A (a.map fv)) (hB : nRd.Row t2 w base B (l.map fv))
    (haf : a.all fin = true) (hlf : l.all fin = true) (hle : m ≤ n) (hm2 : m ≤ 256) (hn2 : n ≤ 1099511627776) (hbase : base ≤ w.heap.size) :
    Calls Tryz.prog 34 #[.slice A n ca, .slice B m cb] w fun r w' => ∃ neg A n c e, r = .returned (.agg #[.bool neg, .slice A n c, .int .i64 e]) ∧ mRd2.R w' base (dotS a l m) [.bool neg, .slice A n c, .int .i64 e] ∧ Below w.heap.size w w' := by
  refine (weighs_calls A B a l n m ca cb t1 t2 base w hn hm hA hB haf hlf hle hm2 hn2 hbase).mono ?_
  rintro r w' ⟨cs, rfl, hr, hW⟩
  obtain ⟨neg, A, n, c, e, rfl⟩ := num_open hr
  exact ⟨_, _, _, _, _, rfl, hr, hW⟩
/-- an element of a list of lists of reals -/
theorem gat {t : Nat} {w : World} {base : Nat} {A : Option Addr} {G : List (List Nat)} (h : gRd.Row t w base A (G.map (fun g => g.map fv))) {k : Nat} (hk : k < G.length) :
    ∃ (a : Addr) (B : Option Addr) (c : Nat), A = some a ∧ w.cell? (a.add k) = some (.slice B (G.getD k []).length c) ∧ nRd.Row 72 w base B ((G.getD k []).map fv) := by
  obtain ⟨a, B, l, c, ha, hc, hg, _, _, hr⟩ := bsl_at h (i := k) (by rw [List.length_map]; exact hk)
  have e : l = (G.getD k []).map fv := by
    rw [← hg.out, List.getD_eq_getElem?_getD, List.getD_eq_getElem?_getD, List.getElem?_map, List.getElem?_eq_getElem hk]; rfl
  subst e
  rw [List.length_map] at hc
  exact ⟨a, B, c, ha, hc, hr⟩
end Go.Proofs.YtcfejobdgiiihaaGreatDoor

namespace Go.Proofs.YtcfejobdgiiihaaGreatDoor
open Go.RowKit

set_option exponentiation.threshold 6000 in
theorem fv_capL {u : Nat} (h : fin u = true) : (fv u).natAbs < 2 ^ CapL := by
  have h1 := fv_le_max h
  have hc := F2_cap
  have hf : fMax ≤ F2 := Nat.le_mul_of_pos_left _ (by unfold fMax; exact Nat.mul_pos (by decide) (Nat.pow_pos (by decide)))
  have e2 : 72057594037927936 * F2 ≤ 72057594037927936 * F2 * 2 ^ 64 := Nat.le_mul_of_pos_right _ (by decide)
  rw [← cap_eqL]
  generalize Cap = cp at *
  generalize F2 = f at *
  generalize 72057594037927936 * f * 2 ^ 64 = q at *
  omega
set_option maxHeartbeats 4000000 in
set_option maxRecDepth 100000 in
theorem less_calls (u v : Nat) (w : World) (hu : u < 18446744073709551616) (hv : v < 18446744073709551616) (fu : fin u = true) (fv' : fin v = true) :
    Calls Tryz.prog 57 #[.int .u64 u, .int .u64 v] w fun e w' => e = .returned (.bool (decide (fv u < fv v))) ∧ Below w.heap.size w w' := by
  have HU := Lib.hid (fun W => of_fin u w.heap.size W hu fu)
  have HV := Lib.hid (fun W => of_fin v w.heap.size W hv fv')
  have HB := Lib.hid (And.intro (fv_capL fu) (fv_capL fv'))
  have HC := Lib.hid (fun cx cy W (hW : w.heap.size ≤ W.heap.size) (hx : (numRd 1074).R W w.heap.size (fv u) cx) (hy : (numRd 1074).R W w.heap.size (fv v) cy) => cmp_num 1074 w.heap.size CapL (fv u) (fv v) cx cy W hW hx hy HB.out.1 HB.out.2 (by decide) (by decide))
  obtain ⟨r, hr⟩ : ∃ r, Int.sign (fv u - fv v) = r := ⟨_, rfl⟩
  have HR : Hid (decide (fv u < fv v) = decide (r < 0)) := by
    rw [Hid, ← hr]
    rcases Int.lt_trichotomy (fv u - fv v) 0 with h | h | h
    · rw [Int.sign_eq_neg_one_of_neg h, decide_eq_true (by omega), decide_eq_true (by decide)]
    · rw [h, decide_eq_false (by omega), decide_eq_false (by decide)]
    · rw [Int.sign_eq_one_of_pos h, decide_eq_false (by omega), decide_eq_false (by decide)]
  rw [hr] at HC
  rw [HR.out]
  clear hr fu fv'
  go_enter Tryz.func57, Tryz.ntmps57
  go_wp2_with fail
  refine (HU.out _).mono ?_
  rintro e w1 ⟨cx, rfl, hx, hW1⟩
  have H1 := Lib.hid (And.intro hx hW1)
  obtain ⟨n1, a1, l1, c1, e1, rfl⟩ := num_open hx
  clear hx hW1 HU
  go_wp2_with fail
  refine (HV.out _).mono ?_
  rintro e w2 ⟨cy, rfl, hy, hW2⟩
  have H2 := Lib.hid (And.intro hy hW2)
  obtain ⟨n2, a2, l2, c2, e2, rfl⟩ := num_open hy
  obtain ⟨q0, q1, q2⟩ := three (Blk.below' (Blk.new w1 #[.bool n1, .slice a1 l1 c1, .int .i64 e1] 72) hW2)
  have hlt : w1.heap.size < w2.heap.size := by have := hW2.size; simp at this; omega
  have hne : ¬ w1.heap.size = w2.heap.size := by omega
  have hne' : ¬ w2.heap.size = w1.heap.size := by omega
  clear hy hW2 HV
  go_wp2_with fail
  refine (HC.out _ _ _ ?_ (Rd.below _ (Rd.below _ (Rd.below _ H1.out.1 (below_new (Below.refl _ _) _)) H2.out.2) (below_new (Below.refl _ _) _)) (Rd.below _ H2.out.1 (below_new (Below.refl _ _) _))).mono ?_
  · have h1 := (below_next (below_new H1.out.2 (.cells #[.bool n1, .slice a1 l1 c1, .int .i64 e1] 72)) H2.out.2).size
    simp; omega
  rintro e w3 ⟨rfl, hW3⟩
  have H3 := Lib.hid (below_next (below_new (below_next (below_new H1.out.2 (.cells #[.bool n1, .slice a1 l1 c1, .int .i64 e1] 72)) H2.out.2) (.cells #[.bool n2, .slice a2 l2 c2, .int .i64 e2] 72)) hW3)
  clear hW3
  go_wp2
  go_ret
  exact ⟨rfl, H3.out⟩
end Go.Proofs.YtcfejobdgiiihaaGreatDoor

namespace Go.Proofs.YtcfejobdgiiihaaGreatDoor
open Go.RowKit

set_option maxHeartbeats 4000000 in
set_option maxRecDepth 100000 in
theorem signed_calls (K J base : Nat) (X Y : Int) (ca cr : List Value) (w : World) (hbase : base ≤ w.heap.size) (ha : (numRd K).R w base X ca) (hr : (numRd J).R w base Y cr) :
    Calls Tryz.prog 32 #[.agg ca.toArray, .agg cr.toArray] w fun e w' => ∃ cs, e = .returned (.agg cs.toArray) ∧ (numRd J).R w' base (if X < 0 then -Y else Y) cs ∧ Below w.heap.size w w' := by
  have HS := Lib.hid (fun W (hW : Below w.heap.size w W) => sign_calls K base X ca W (Rd.below _ ha hW))
  have HT := Lib.hid (fun W (hW : Below w.heap.size w W) => turned_calls J base Y cr W (Rd.below _ hr hW))
  have HR := Lib.hid (fun W (hW : Below w.heap.size w W) => (show (numRd J).R W base Y cr from Rd.below _ hr hW))
  obtain ⟨n1, a1, l1, c1, e1, rfl⟩ := num_open ha
  obtain ⟨n2, a2, l2, c2, e2, rfl⟩ := num_open hr
  have HW := Lib.hid (below_new (below_new (below_new (Below.refl w.heap.size w) (.cells #[.bool n1, .slice a1 l1 c1, .int .i64 e1] 72)) (.cells #[.bool n2, .slice a2 l2 c2, .int .i64 e2] 72)) (.cells #[.bool false, .slice none 0 0, .int .i64 0] 72))
  have HB2 := Lib.hid (blk_new' (w.alloc (.cells #[.bool n1, .slice a1 l1 c1, .int .i64 e1] 72)) (w.heap.size + 1) (by simp) #[.bool n2, .slice a2 l2 c2, .int .i64 e2] 72 |>.alloc (.cells #[.bool false, .slice none 0 0, .int .i64 0] 72))
  have HB3 := Lib.hid (blk_new' ((w.alloc (.cells #[.bool n1, .slice a1 l1 c1, .int .i64 e1] 72)).alloc (.cells #[.bool n2, .slice a2 l2 c2, .int .i64 e2] 72)) (w.heap.size + 1 + 1) (by simp) #[.bool false, .slice none 0 0, .int .i64 0] 72)
  clear ha hr
  by_cases hX : X < 0
  · rw [if_pos hX]
    have hs : Int.sign X = -1 := Int.sign_eq_neg_one_of_neg hX
    rw [hs] at HS
    clear hX hs
    go_enter Tryz.func32, Tryz.ntmps32
    go_wp2_with fail
    refine (HS.out _ HW.out).mono ?_
    rintro e w1 ⟨rfl, hW1⟩
    have H1 := Lib.hid (below_next HW.out hW1)
    have B2 := Lib.hid (HB2.out.below' hW1)
    have B3 := Lib.hid (HB3.out.below' hW1)
    obtain ⟨q0, q1, q2⟩ := three B2.out
    clear hW1 HS
    go_wp2_with fail
    refine (HT.out _ H1.out).mono ?_
    rintro e w2 ⟨cs, rfl, hr2, hW2⟩
    obtain ⟨n3, a3, l3, c3, e3, rfl⟩ := num_open hr2
    have C3 := Lib.hid (B3.out.below' hW2)
    obtain ⟨r0, r1, r2⟩ := three C3.out
    have f0 := C3.out.frozen 0
    have f1 := C3.out.frozen 1
    have f2 := C3.out.frozen 2
    obtain ⟨g1, g2, g3⟩ := set3 (base := base) (B := w.heap.size) (E := [113]) (w0 := w) (.bool n3) (.slice a3 l3 c3) (.int .i64 e3) C3.out (by omega) (by decide) (by omega) (below_next H1.out hW2)
    have HG := Lib.hid (And.intro g3 ((numRd J).keep hr2 g2))
    obtain ⟨t0, t1, t2⟩ := three g1
    clear g1 g2 g3 hr2 hW2 HT
    go_wp2
    refine bodyPost_ret (v := .agg #[.bool n3, .slice a3 l3 c3, .int .i64 e3]) (by simp [results, Tryz.results32, go_sem, t0, t1, t2]) rfl ⟨[.bool n3, .slice a3 l3 c3, .int .i64 e3], rfl, HG.out.2, HG.out.1⟩
  · rw [if_neg hX]
    have hs : ¬ Int.sign X < 0 := by
      intro h
      exact hX (Int.neg_of_sign_eq_neg_one (by have := (sign_bd X).1; omega))
    obtain ⟨sx, hsx⟩ : ∃ s, Int.sign X = s := ⟨_, rfl⟩
    rw [hsx] at hs HS
    have hs0 : decide (sx < 0) = false := decide_eq_false hs
    clear hX hsx hs
    go_enter Tryz.func32, Tryz.ntmps32
    go_wp2_with fail
    refine (HS.out _ HW.out).mono ?_
    rintro e w1 ⟨rfl, hW1⟩
    have H1 := Lib.hid (below_next HW.out hW1)
    have B2 := Lib.hid (HB2.out.below' hW1)
    have B3 := Lib.hid (HB3.out.below' hW1)
    obtain ⟨q0, q1, q2⟩ := three B2.out
    obtain ⟨r0, r1, r2⟩ := three B3.out
    have f0 := B3.out.frozen 0
    have f1 := B3.out.frozen 1
    have f2 := B3.out.frozen 2
    obtain ⟨g1, g2, g3⟩ := set3 (base := base) (B := w.heap.size) (E := [113]) (w0 := w) (.bool n2) (.slice a2 l2 c2) (.int .i64 e2) B3.out (by omega) (by decide) (by omega) H1.out
    have HG := Lib.hid (And.intro g3 ((numRd J).keep (HR.out _ H1.out) g2))
    obtain ⟨t0, t1, t2⟩ := three g1
    clear g1 g2 g3 hW1 HS HT
    go_wp2
    refine bodyPost_ret (v := .agg #[.bool n2, .slice a2 l2 c2, .int .i64 e2]) (by simp [results, Tryz.results32, go_sem, t0, t1, t2]) rfl ⟨[.bool n2, .slice a2 l2 c2, .int .i64 e2], rfl, HG.out.2, HG.out.1⟩
end Go.Proofs.YtcfejobdgiiihaaGreatDoor

namespace Go.Proofs.YtcfejobdgiiihaaGreatDoor
open Go.RowKit

set_option maxHeartbeats 1000000 in
set_option maxRecDepth 100000 in
theorem whole2_zero (w : World) : Calls Tryz.prog 65 #[.int .i64 0] w fun e w' => e = .returned (.agg #[.bool false, .slice none 0 0, .int .i64 0]) ∧ Below w.heap.size w w' := by
  go_enter Tryz.func65, Tryz.ntmps65
  go_wp2
  exact bodyPost_ret (v := .agg #[.bool false, .slice none 0 0, .int .i64 0]) (by simp [results, Tryz.results65, go_sem]) rfl ⟨rfl, below_new (Below.refl _ _) _⟩
set_option maxHeartbeats 1000000 in
set_option maxRecDepth 100000 in
theorem whole2_pos (m base : Nat) (w : World) (h0 : m ≠ 0) (hm : m < 4611686018427387904) :
    Calls Tryz.prog 65 #[.int .i64 m] w fun e w' => ∃ v, e = .returned (.agg #[.bool false, v, .int .i64 0]) ∧ mRd.R w' base m [v] ∧ Below w.heap.size w w' := by
  have h1 : ((m : Int) == 0) = false := by simpa using h0
  have h2 : decide ((m : Int) < 0) = false := decide_eq_false (by omega)
  have HM := Lib.hid h0
  clear h0
  go_enter Tryz.func65, Tryz.ntmps65
  go_wp2_with fail
  have hZ := Lib.hid (lits32 (w.alloc (Obj.cells #[Value.bool false, Value.slice none 0 0, Value.int IntKind.i64 0] 72)) ((m : Int) % 4294967296) ((m : Int) / 4294967296) (m % 4294967296) (m / 4294967296) 113 (w.heap.size + 1) (by simp) (by omega) (by omega))
  have hl2 := two_lt (m := m) (by omega)
  refine (trim_calls _ _ _ 113 0 [m % 4294967296, m / 4294967296] _ rfl (u32all hZ.out hl2) (by simp) (Nat.le_refl _)).mono ?_
  rintro e w' ⟨rfl, rfl⟩
  clear hZ
  go_wp2
  refine bodyPost_ret (v := .agg #[.bool false, .slice (some ⟨w.heap.size + 1, 0, none⟩) (trimLen [m % 4294967296, m / 4294967296] 2) 2, .int .i64 0]) (by simp [results, Tryz.results65, go_sem]) rfl ⟨_, rfl, ?_, ?_⟩
  · exact mRd_trim (by repeat (first | exact lits32 _ _ _ _ _ _ _ (by simp) (by omega) (by omega) | (refine Blk.far ?_ (by simp) _))) hl2 rfl (Nat.le_refl _) (val_two _)
  · repeat (first | exact below_new (below_new (Below.refl _ _) _) _ | refine Below.setCell ?_ (by simp <;> omega) _)
set_option maxHeartbeats 1000000 in
set_option maxRecDepth 100000 in
theorem whole2_neg (m base : Nat) (w : World) (h0 : m ≠ 0) (hm : m < 4611686018427387904) :
    Calls Tryz.prog 65 #[.int .i64 (-(m : Int))] w fun e w' => ∃ v, e = .returned (.agg #[.bool true, v, .int .i64 0]) ∧ mRd.R w' base m [v] ∧ Below w.heap.size w w' := by
  have h1 : (-(m : Int) == 0) = false := by simp; omega
  have h2 : decide (-(m : Int) < 0) = true := decide_eq_true (by omega)
  have h3 : ¬ (-(m : Int) = 0) := by omega
  have hwr : IntKind.u64.wrap (-IntKind.u64.wrap (-(m : Int))) = (m : Int) := by simp [IntKind.wrap, IntKind.bits, IntKind.signed]; omega
  have HM := Lib.hid h0
  clear h0
  go_enter Tryz.func65, Tryz.ntmps65
  go_wp2_with fail
  have hZ := Lib.hid (lits32 (w.alloc (Obj.cells #[Value.bool false, Value.slice none 0 0, Value.int IntKind.i64 0] 72)) ((m : Int) % 4294967296) ((m : Int) / 4294967296) (m % 4294967296) (m / 4294967296) 113 (w.heap.size + 1) (by simp) (by omega) (by omega))
  have hl2 := two_lt (m := m) (by omega)
  refine (trim_calls _ _ _ 113 0 [m % 4294967296, m / 4294967296] _ rfl (u32all hZ.out hl2) (by simp) (Nat.le_refl _)).mono ?_
  rintro e w' ⟨rfl, rfl⟩
  clear hZ
  go_wp2
  refine bodyPost_ret (v := .agg #[.bool true, .slice (some ⟨w.heap.size + 1, 0, none⟩) (trimLen [m % 4294967296, m / 4294967296] 2) 2, .int .i64 0]) (by simp [results, Tryz.results65, go_sem]) rfl ⟨_, rfl, ?_, ?_⟩
  · exact mRd_trim (by repeat (first | exact lits32 _ _ _ _ _ _ _ (by simp) (by omega) (by omega) | (refine Blk.far ?_ (by simp) _))) hl2 rfl (Nat.le_refl _) (val_two _)
  · repeat (first | exact below_new (below_new (Below.refl _ _) _) _ | refine Below.setCell ?_ (by simp <;> omega) _)
theorem whole2_calls (n : Int) (base : Nat) (w : World) (hn : n.natAbs < 4611686018427387904) :
    Calls Tryz.prog 65 #[.int .i64 n] w fun e w' => ∃ cs, e = .returned (.agg cs.toArray) ∧ (numRd 0).R w' base n cs ∧ Below w.heap.size w w' := by
  rcases Int.lt_trichotomy n 0 with h | h | h
  · obtain ⟨m, rfl⟩ : ∃ m : Nat, n = -(m : Int) := ⟨n.natAbs, by omega⟩
    refine (whole2_neg m base w (by omega) (by omega)).mono ?_
    rintro e w' ⟨v, rfl, hv, hW⟩
    exact ⟨[.bool true, v, .int .i64 0], rfl, ⟨true, m, 0, v, rfl, hv, fun _ => by omega, by omega, by simp [sg]⟩, hW⟩
  · subst h
    refine (whole2_zero w).mono ?_
    rintro e w' ⟨rfl, hW⟩
    exact ⟨[.bool false, .slice none 0 0, .int .i64 0], rfl, ⟨false, 0, 0, _, rfl, mRd_nil _ _ _ _, fun h => absurd rfl h, by omega, by simp [sg]⟩, hW⟩
  · obtain ⟨m, rfl⟩ : ∃ m : Nat, n = (m : Int) := ⟨n.natAbs, by omega⟩
    refine (whole2_pos m base w (by omega) (by omega)).mono ?_
    rintro e w' ⟨v, rfl, hv, hW⟩
    exact ⟨[.bool false, v, .int .i64 0], rfl, ⟨false, m, 0, v, rfl, hv, fun _ => by omega, by omega, by simp [sg]⟩, hW⟩
end Go.Proofs.YtcfejobdgiiihaaGreatDoor

namespace Go.Proofs.YtcfejobdgiiihaaGreatDoor
open Go.RowKit

/-- a real is told -/
def NumRet (K base : Nat) (X : Int) (w : World) (r : Ending) (w' : World) : Prop :=
  ∃ neg A n c e, r = .returned (.agg #[.bool neg, .slice A n c, .int .i64 e]) ∧ (numRd K).R w' base X [.bool neg, .slice A n c, .int .i64 e] ∧ Below w.heap.size w w'
theorem numRet_mk {K base : Nat} {X : Int} {w w' : World} {neg : Bool} {A : Option Addr} {n c : Nat} {e : Int} (h : (numRd K).R w' base X [.bool neg, .slice A n c, .int .i64 e]) (hW : Below w.heap.size w w') : NumRet K base X w (.returned (.agg #[.bool neg, .slice A n c, .int .i64 e])) w' := ⟨neg, A, n, c, e, rfl, h, hW⟩
def partS (l : List Int) (i depth : Nat) : Int := if l.length ≤ i then 0 else max (min (l.getD i 0) (2 ^ depth : Nat)) (-(2 ^ depth : Nat))
theorem partS_bd (l : List Int) (i depth : Nat) : -((2 ^ depth : Nat) : Int) ≤ partS l i depth ∧ partS l i depth ≤ (2 ^ depth : Nat) := by
  unfold partS
  generalize 2 ^ depth = p
  split <;> omega
theorem wrap_pow {depth : Nat} {p : Int} (hq : (2 : Int) ^ depth = p) (h : 1 ≤ p) (h2 : p ≤ 1073741824) : wrap64 ((2 : Int) ^ depth) = p ∧ wrap64 (-(2 : Int) ^ depth) = -p := by
  rw [hq]
  exact ⟨IntWalk.wrap64_in _ (by omega), IntWalk.wrap64_in _ (by omega)⟩
theorem pow_le30 {depth : Nat} (h : depth ≤ 30) : 1 ≤ 2 ^ depth ∧ 2 ^ depth ≤ 1073741824 := by
  refine ⟨Nat.pow_pos (by decide), ?_⟩
  exact Nat.le_trans (Nat.pow_le_pow_right (by decide) h) (by decide)
set_option maxHeartbeats 2000000 in
set_option maxRecDepth 100000 in
theorem part_calls (A : Option Addr) (l : List Int) (n c i depth t b1 base : Nat) (w : World) (hn : l.length = n) (hA : i64.Row t w b1 A l) (hl : n ≤ 17592186044416) (hi : i ≤ 17592186044416) (hd : depth ≤ 30) (hbase : base ≤ w.heap.size) :
    Calls Tryz.prog 28 #[.slice A n c, .int .i64 i, .int .i64 depth] w (NumRet depth base (partS l i depth) w) := by
  subst hn
  have HA := Lib.hid (fun W (hW : Below w.heap.size w W) => (show i64.Row t W b1 A l from hA.below hW))
  clear hA
  have HB := Lib.hid (Blk.new w #[.bool false, .slice none 0 0, .int .i64 0] 72)
  have HW := Lib.hid (below_new (Below.refl w.heap.size w) (.cells #[.bool false, .slice none 0 0, .int .i64 0] 72))
  by_cases hlt : i < l.length
  · obtain ⟨a, x, rfl, hca, hxb, hxe⟩ := i64at (HA.out w (Below.refl _ _)) hlt
    obtain ⟨a', x', ha', hcb, _, hxe'⟩ := i64at (HA.out (w.alloc (.cells #[.bool false, .slice none 0 0, .int .i64 0] 72)) (below_new (Below.refl _ _) _)) hlt
    cases ha'
    obtain rfl : x = x' := hxe.out.symm.trans hxe'.out
    have h1 : (i : Int) < (l.length : Int) := by omega
    have h2 : (0 : Int) ≤ (i : Int) := by omega
    have h3 : (0 : Int) ≤ (depth : Int) := by omega
    obtain ⟨hp1, hp2⟩ := pow_le30 hd
    have hS : partS l i depth = max (min x ((2 ^ depth : Nat) : Int)) (-((2 ^ depth : Nat) : Int)) := by unfold partS; rw [if_neg (by omega), hxe.out]
    obtain ⟨p, hp⟩ : ∃ p : Int, ((2 ^ depth : Nat) : Int) = p := ⟨_, rfl⟩
    have hq : (2 : Int) ^ depth = p := by rw [← hp]; simp
    rw [hp] at hS
    have hp3 : 1 ≤ p := by omega
    have hp4 : p ≤ 1073741824 := by omega
    have HWR := Lib.hid (wrap_pow hq hp3 hp4)
    obtain ⟨v, hv⟩ : ∃ v, partS l i depth = v := ⟨_, rfl⟩
    rw [hv] at hS ⊢
    have hvb : v.natAbs < 4611686018427387904 := by omega
    have hvc : v.natAbs < 2 ^ 31 := by
      have : v.natAbs ≤ 1073741824 := by omega
      exact Nat.lt_of_le_of_lt this (by decide)
    have HWH := Lib.hid (fun W => whole2_calls v base W hvb)
    have HMV := Lib.hid (fun cs W (h : (numRd 0).R W base v cs) => moved_calls 0 depth base (-(depth : Int)) v cs W h (by omega) (by omega) 31 (by decide) hvc (by decide) (by omega))
    clear hp hp1 hp2 hv hvb hvc hq
    by_cases hx1 : p < x
    case' pos =>
      have hv : Hid (v = p) := by rw [Hid]; omega
      have hm1 : ¬ x ≤ p := by omega
      clear hS
      obtain ⟨hw1, hw2⟩ := HWR.out
      go_enter Tryz.func28, Tryz.ntmps28
      go_wp2
      go_region_with (fail)
      go_wp2_with fail
    case' neg =>
      by_cases hx2 : x < -p
      case' pos =>
        have hv : Hid (v = -p) := by rw [Hid]; omega
        clear hS hx1
        obtain ⟨hw1, hw2⟩ := HWR.out
        go_enter Tryz.func28, Tryz.ntmps28
        go_wp2
        go_region_with (fail)
        go_wp2_with fail
      case' neg =>
        have hv : Hid (v = x) := by rw [Hid]; omega
        clear hS
        obtain ⟨hw1, hw2⟩ := HWR.out
        go_enter Tryz.func28, Tryz.ntmps28
        go_wp2
        go_region_with (fail)
        go_wp2_with fail
    all_goals
      clear hw1 hw2 HWR
      rw [← hv.out]
      refine (HWH.out _).mono ?_
      rintro e w1 ⟨cs, rfl, hr, hW1⟩
      obtain ⟨n1, a1, l1, c1, e1, rfl⟩ := num_open hr
      have H1 := Lib.hid (And.intro hr (And.intro (HW.out.drew.trans (hW1.mono (show w.heap.size ≤ _ by simp [World.drew]))) (HB.out.drew.below' hW1)))
      clear hr hW1 HWH
      go_wp2_with fail
      refine (HMV.out _ _ H1.out.1).mono ?_
      rintro e w2 ⟨cs, rfl, hr, hW2⟩
      obtain ⟨n2, a2, l2, c2, e2, rfl⟩ := num_open hr
      have H2 := Lib.hid (And.intro hr (And.intro (below_next H1.out.2.1 hW2) (H1.out.2.2.below' hW2)))
      have C3 := H2.out.2.2
      obtain ⟨r0, r1, r2⟩ := three C3
      have f0 := C3.frozen 0
      have f1 := C3.frozen 1
      have f2 := C3.frozen 2
      obtain ⟨g1, g2, g3⟩ := set3 (base := base) (B := w.heap.size) (E := [113]) (w0 := w) (.bool n2) (.slice a2 l2 c2) (.int .i64 e2) C3 (by omega) (by decide) (by omega) H2.out.2.1
      have HG := Lib.hid (And.intro g3 ((numRd depth).keep hr g2))
      obtain ⟨t0, t1, t2⟩ := three g1
      clear g1 g2 g3 hr hW2 HMV C3
      go_wp2
      refine bodyPost_ret (v := .agg #[.bool n2, .slice a2 l2 c2, .int .i64 e2]) (by simp [results, Tryz.results28, go_sem, t0, t1, t2]) rfl (numRet_mk HG.out.2 HG.out.1)
  · have hS : Hid (partS l i depth = 0) := by rw [Hid]; unfold partS; rw [if_pos (by omega)]
    have h1 : (l.length : Int) ≤ (i : Int) := by omega
    go_enter Tryz.func28, Tryz.ntmps28
    go_wp2
    refine bodyPost_ret (v := .agg #[.bool false, .slice none 0 0, .int .i64 0]) (by simp [results, Tryz.results28, go_sem]) rfl (numRet_mk ?_ HW.out)
    rw [hS.out]
    exact ⟨false, 0, 0, _, rfl, mRd_nil _ _ _ _, fun h => absurd rfl h, by omega, by rw [Nat.zero_mul, sg_zero]⟩
end Go.Proofs.YtcfejobdgiiihaaGreatDoor

namespace Go.Proofs.YtcfejobdgiiihaaGreatDoor
open Go.RowKit
attribute [local go_sem ↓] Go.wp_at_zero Go.wp_at_succ

/-! ### a real in a block of its own -/
abbrev W3 (w : World) (b : Nat) (x0 x1 x2 : Value) : World := ((w.setCell ⟨b, 0, none⟩ x0).setCell ⟨b, 1, none⟩ x1).setCell ⟨b, 2, none⟩ x2
def NumB (K base : Nat) (w : World) (b : Nat) (X : Int) : Prop := ∃ neg A n c e, Blk w b 72 [.bool neg, .slice A n c, .int .i64 e] ∧ (numRd K).R w base X [.bool neg, .slice A n c, .int .i64 e]
theorem NumB.next {K base b : Nat} {w w' : World} {X : Int} (h : NumB K base w b X) (hW : Below w.heap.size w w') : NumB K base w' b X := by
  obtain ⟨neg, A, n, c, e, h1, h2⟩ := h
  exact ⟨neg, A, n, c, e, h1.below' hW, Rd.below _ h2 hW⟩
theorem NumB.lt {K base b : Nat} {w : World} {X : Int} (h : NumB K base w b X) : b < w.heap.size := by obtain ⟨_, _, _, _, _, h, _⟩ := h; exact h.lt
theorem numB_set {K base b : Nat} {w : World} {X : Int} {z0 z1 z2 : Value} {neg : Bool} {A : Option Addr} {n c : Nat} {e : Int} (hb : Blk w b 72 [z0, z1, z2]) (hr : (numRd K).R w base X [.bool neg, .slice A n c, .int .i64 e]) (hbase : base ≤ b) :
    NumB K base (W3 w b (.bool neg) (.slice A n c) (.int .i64 e)) b X := by
  obtain ⟨g1, g2, _⟩ := set3 (base := base) (B := 0) (E := [113]) (w0 := w) (.bool neg) (.slice A n c) (.int .i64 e) hb hbase (by decide) (Nat.zero_le _) ((Below.refl w.heap.size w).mono (Nat.zero_le _))
  exact ⟨neg, A, n, c, e, g1, (numRd K).keep hr g2⟩
theorem numB_far {K base b b' : Nat} {w : World} {X : Int} {z0 z1 z2 x0 x1 x2 : Value} (h : NumB K base w b X) (hb : Blk w b' 72 [z0, z1, z2]) (hne : b ≠ b') (hbase : base ≤ b') : NumB K base (W3 w b' x0 x1 x2) b X := by
  obtain ⟨neg, A, n, c, e, h1, h2⟩ := h
  obtain ⟨_, g2, _⟩ := set3 (base := base) (B := 0) (E := [113]) (w0 := w) x0 x1 x2 hb hbase (by decide) (Nat.zero_le _) ((Below.refl w.heap.size w).mono (Nat.zero_le _))
  exact ⟨neg, A, n, c, e, ((h1.far (p := ⟨b', 0, none⟩) hne _).far (p := ⟨b', 1, none⟩) hne _).far (p := ⟨b', 2, none⟩) hne _, (numRd K).keep h2 g2⟩
theorem Blk.far3 {w : World} {b b' t : Nat} {cs : List Value} (h : Blk w b t cs) (hne : b ≠ b') (x0 x1 x2 : Value) : Blk (W3 w b' x0 x1 x2) b t cs :=
  ((h.far (p := ⟨b', 0, none⟩) hne _).far (p := ⟨b', 1, none⟩) hne _).far (p := ⟨b', 2, none⟩) hne _
theorem below3 {B b : Nat} {w w' : World} (h : Below B w w') (hb : B ≤ b) (x0 x1 x2 : Value) : Below B w (W3 w' b x0 x1 x2) :=
  ((h.setCell (p := ⟨b, 0, none⟩) hb _).setCell (p := ⟨b, 1, none⟩) hb _).setCell (p := ⟨b, 2, none⟩) hb _
theorem numB_new {K base : Nat} {w : World} {X : Int} {neg : Bool} {A : Option Addr} {n c : Nat} {e : Int} (hr : (numRd K).R w base X [.bool neg, .slice A n c, .int .i64 e]) : NumB K base (w.alloc (.cells #[.bool neg, .slice A n c, .int .i64 e] 72)) w.heap.size X :=
  ⟨neg, A, n, c, e, Blk.new _ _ _, Rd.below _ hr (below_new (Below.refl _ _) _)⟩
theorem keep4 {w W : World} {q1 q2 q3 q4 : Addr} {u1 u2 u3 u4 : Value} (h1 : w.cell? q1 = some u1) (h2 : w.cell? q2 = some u2) (h3 : w.cell? q3 = some u3) (h4 : w.cell? q4 = some u4) (hW : Below w.heap.size w W) :
    W.cell? q1 = some u1 ∧ W.cell? q2 = some u2 ∧ W.cell? q3 = some u3 ∧ W.cell? q4 = some u4 := ⟨cell_kept hW h1, cell_kept hW h2, cell_kept hW h3, cell_kept hW h4⟩
/-! ### ref17.Least -/
structure LSt (w wx : World) (base bx : Nat) (xs : List Value) (V : Int) : Prop where
  W : Below w.heap.size w wx
  X : Blk wx w.heap.size 65 xs
  O : Blk wx (w.heap.size + 1) 72 [.bool false, .slice none 0 0, .int .i64 0]
  V : NumB 2148 base wx bx V
  b : w.heap.size + 2 ≤ bx
theorem LSt.next {w wx wy : World} {base bx : Nat} {xs : List Value} {V : Int} (h : LSt w wx base bx xs V) (hb : Below wx.heap.size wx wy) : LSt w wy base bx xs V :=
  ⟨below_next h.W hb, h.X.below' hb, h.O.below' hb, h.V.next hb, h.b⟩
theorem LSt.upd {w wx : World} {base bx : Nat} {xs : List Value} {V V' : Int} {neg : Bool} {A : Option Addr} {n c : Nat} {e : Int} (h : LSt w wx base bx xs V) (hbase : base ≤ w.heap.size) (hr : (numRd 2148).R wx base V' [.bool neg, .slice A n c, .int .i64 e]) :
    LSt w (W3 wx bx (.bool neg) (.slice A n c) (.int .i64 e)) base bx xs V' := by
  obtain ⟨_, _, _, _, _, hb, _⟩ := h.V
  have h2 := h.b
  exact ⟨below3 h.W (by omega) _ _ _, h.X.far3 (by omega) _ _ _, h.O.far3 (by omega) _ _ _, numB_set hb hr (by omega), h2⟩
theorem lst_new {w w3 : World} {base : Nat} {xs : List Value} {V : Int} {neg : Bool} {A : Option Addr} {n c : Nat} {e : Int} (hW : Below w.heap.size w w3) (hX : Blk w3 w.heap.size 65 xs) (hO : Blk w3 (w.heap.size + 1) 72 [.bool false, .slice none 0 0, .int .i64 0])
    (hr : (numRd 2148).R w3 base V [.bool neg, .slice A n c, .int .i64 e]) : LSt w (w3.alloc (.cells #[.bool neg, .slice A n c, .int .i64 e] 72)) base w3.heap.size xs V :=
  ⟨below_next hW (below_new (Below.refl _ _) _), hX.alloc _, hO.alloc _, numB_new hr, by have := hO.lt; omega⟩
theorem lst_set {w w3 : World} {base bx : Nat} {xs : List Value} {V : Int} {z0 z1 z2 : Value} {neg : Bool} {A : Option Addr} {n c : Nat} {e : Int} (hz : Blk w3 bx 72 [z0, z1, z2]) (hb : w.heap.size + 2 ≤ bx) (hbase : base ≤ w.heap.size) (hW : Below w.heap.size w w3) (hX : Blk w3 w.heap.size 65 xs) (hO : Blk w3 (w.heap.size + 1) 72 [.bool false, .slice none 0 0, .int .i64 0])
    (hr : (numRd 2148).R w3 base V [.bool neg, .slice A n c, .int .i64 e]) : LSt w (W3 w3 bx (.bool neg) (.slice A n c) (.int .i64 e)) base bx xs V :=
  ⟨below3 hW (by omega) _ _ _, hX.far3 (by omega) _ _ _, hO.far3 (by omega) _ _ _, numB_set hz hr (by omega), hb⟩
set_option exponentiation.threshold 6000 in
theorem capL_of {x : Int} (h : x.natAbs ≤ 72057594037927936 * F2) : x.natAbs < 2 ^ CapL := by
  rw [← cap_eqL]
  have := cap_of h
  rw [Int.natAbs_mul, Int.natAbs_natCast] at this
  exact Nat.lt_of_le_of_lt (Nat.le_mul_of_pos_right _ (by decide)) this
set_option maxHeartbeats 8000000 in
set_option maxRecDepth 100000 in
theorem least_calls (z : Zn) (a : List Nat) (A AC AI AG AR : Option Addr) (ca cC cI cG cR n base : Nat) (w : World) (F : FitsF z a n) (hz : RRows w base z AC AI AG AR) (ha : nRd.Row 72 w base A (a.map fv)) (hG : z.G.length ≤ 17592186044416) (hbase : base ≤ w.heap.size) :
    Calls Tryz.prog 53 #[.agg (realCs z AC AI AG AR cC cI cG cR).toArray, .slice A a.length ca] w (NumRet 2148 base (leastV z a) w) := by
  have hL : leastV z a = dotS a z.C n + fv (a.getD n 0) * (2 ^ 1074 : Nat) - colsS a z.G n z.G.length - boxS a z.R n := by unfold leastV; rw [show z.N.toNat = n from by have := F.N; omega, F.ig]
  obtain ⟨LV, hLV⟩ : ∃ v, leastV z a = v := ⟨_, rfl⟩
  rw [hLV] at hL ⊢
  have HL := Lib.hid hL
  have hB1 := Lib.hid (fun k (hk : k ≤ z.G.length) => capL_of (leastV_bd1 F hG k hk))
  have hB2 := Lib.hid (fun i (hi : i ≤ n) => capL_of (leastV_bd F hG z.G.length i (Nat.le_refl _) hi))
  obtain ⟨p, hp⟩ : ∃ p : Int, ((2 ^ 1074 : Nat) : Int) = p := ⟨_, rfl⟩
  have HP := Lib.hid hp
  rw [hp] at HL hB1 hB2
  have HF := Lib.hid F
  have HZR := Lib.hid (fun W (hW : Below w.heap.size w W) => hz.below hW)
  have HAR := Lib.hid (fun W (hW : Below w.heap.size w W) => (show nRd.Row 72 W base A (a.map fv) from ha.below hW))
  have hal1 : a.length ≤ n + 1 := by have := F.al; omega
  have hal2 : n + 1 ≤ a.length := by have := F.al; omega
  have hn2 := F.n2
  have hzN := F.N
  have HWG := Lib.hid (fun W (hW : Below w.heap.size w W) B (l : List Nat) c (hl : l.all fin = true) (hln : l.length = n) (hr : nRd.Row 72 W base B (l.map fv)) => weighs_o A B a l a.length l.length ca c 72 72 base W rfl rfl (ha.below hW) hr F.af hl (by omega) (by omega) (by omega) (Nat.le_trans hbase hW.size))
  obtain ⟨N, C, Ids, G, R, bad⟩ := z
  simp only at hzN HL hB1 hB2 hG HWG
  subst hzN
  have HCL : Hid (C.length = n) := F.cl
  have hcl1 : C.length ≤ n := by have := F.cl; simp only at this; omega
  clear hz ha F hL hLV hp
  simp only [realCs]
  have HW0 := Lib.hid (below_new (below_new (Below.refl w.heap.size w) (.cells #[.int .i64 (n : Int), .slice AC C.length cC, .slice AI Ids.length cI, .slice AG G.length cG, .slice AR R.length cR] 65)) (.cells #[.bool false, .slice none 0 0, .int .i64 0] 72))
  have HX0 := Lib.hid ((Blk.new w #[.int .i64 (n : Int), .slice AC C.length cC, .slice AI Ids.length cI, .slice AG G.length cG, .slice AR R.length cR] 65).alloc (.cells #[.bool false, .slice none 0 0, .int .i64 0] 72))
  have HO0 := Lib.hid (blk_new' (w.alloc (.cells #[.int .i64 (n : Int), .slice AC C.length cC, .slice AI Ids.length cI, .slice AG G.length cG, .slice AR R.length cR] 65)) (w.heap.size + 1) (by simp) #[.bool false, .slice none 0 0, .int .i64 0] 72)
  go_enter Tryz.func53, Tryz.ntmps53
  go_upto_region 2 with fail
  obtain ⟨w0, hw0⟩ : ∃ w0, (w.alloc (.cells #[.int .i64 (n : Int), .slice AC C.length cC, .slice AI Ids.length cI, .slice AG G.length cG, .slice AR R.length cR] 65)).alloc (.cells #[.bool false, .slice none 0 0, .int .i64 0] 72) = w0 := ⟨_, rfl⟩
  rw [hw0] at HW0 HX0 HO0 ⊢
  clear hw0
  go_cut [6] (fun s wx => ∃ bx : Nat, s = .pointer (some ⟨bx, 0, none⟩) ∧ Hid (LSt w wx base bx [.int .i64 (n : Int), .slice AC C.length cC, .slice AI Ids.length cI, .slice AG G.length cG, .slice AR R.length cR] (dotS a C n + fv (a.getD n 0) * p - colsS a G n 0)))
  case first =>
    have x1 : w0.cell? ⟨w.heap.size, 1, none⟩ = some (.slice AC C.length cC) := HX0.out.cell 1
    obtain ⟨pa, na, Aa, la, ka, ea, rfl, ra, a0, a1, a2⟩ := nat_elem (HAR.out w0 HW0.out) (i := n) (by rw [List.length_map]; omega)
    rw [getD_map_fv (by omega)] at ra
    have ra2 := num_raise (J := 1074) ra
    rw [HP.out] at ra2
    have RA := Lib.hid (fun W (hW : Below w0.heap.size w0 W) => Rd.below _ ra2 hW)
    have hi1 : (n : Int) < (a.length : Int) := by omega
    have hi2 : (0 : Int) ≤ (n : Int) := by omega
    have hbs := Nat.le_trans hbase HW0.out.size
    have hcap0 : (dotS a C C.length).natAbs < 2 ^ CapL := capL_of (Nat.le_trans (dotS_bd HF.out.af HF.out.cf C.length (by omega) (Nat.le_refl _)) (Nat.mul_le_mul_right _ (by omega)))
    have hcap1 : (fv (a.getD n 0) * p).natAbs < 2 ^ CapL := by
      rw [← HP.out]
      refine capL_of (Nat.le_trans (natAbs_mul_le (fv_le_max (all_getD HF.out.af (by omega))) (by rw [Int.natAbs_natCast]; exact pow1074_le)) ?_)
      exact Nat.le_mul_of_pos_left F2 (by decide)
    have HPL := Lib.hid (fun W cx (hW : Below w0.heap.size w0 W) (hx : mRd2.R W base (dotS a C C.length) cx) => plus_o 2148 base (dotS a C C.length) (fv (a.getD n 0) * p) cx _ W (Nat.le_trans hbs hW.size) hx (RA.out W hW) hcap0 hcap1 (by decide))
    have HWC := Lib.hid (fun W (hW : Below w0.heap.size w0 W) => HWG.out W (below_next HW0.out hW) AC C cC HF.out.cf HF.out.cl (HZR.out W (below_next HW0.out hW)).C)
    have HE : Hid (dotS a C C.length + fv (a.getD n 0) * p = dotS a C n + fv (a.getD n 0) * p - colsS a G n 0) := by rw [Hid, HCL.out, colsS, Int.sub_zero]
    clear ra ra2 hcap0 hcap1
    go_region_held3 (fun W => W.cell? ⟨w.heap.size, 1, none⟩ = some (.slice AC C.length cC) ∧ W.cell? (pa.add (n * 3)) = some (.bool na) ∧ W.cell? ⟨(pa.add (n * 3)).block, (pa.add (n * 3)).off + 1, none⟩ = some (.slice Aa la ka) ∧ W.cell? ⟨(pa.add (n * 3)).block, (pa.add (n * 3)).off + 2, none⟩ = some (.int .i64 ea))
      (first | (refine keep4 x1 a0 a1 a2 ?_; (repeat (first | exact H3.out | exact H2.out | exact Below.refl _ _ | (with_reducible apply below_drewN) | (with_reducible apply Below.drew) | (with_reducible apply below_new))); done) | (refine keep4 x1 a0 a1 a2 ?_; refine below3 ?_ (by first | exact H2.out.size | exact Nat.le_refl _) _ _ _; (repeat (first | exact H3.out | exact H2.out | exact Below.refl _ _ | (with_reducible apply below_drewN) | (with_reducible apply Below.drew) | (with_reducible apply below_new))); done) | ((try dsimp only); (repeat' apply And.intro) <;> go_keep))
      (first
        | (go_at_call 34; refine (HWC.out _ (by (repeat (first  | exact Below.refl _ _ | (with_reducible apply below_drewN) | (with_reducible apply Below.drew) | (with_reducible apply below_new))))).mono ?_; rintro e w2 ⟨n2, A2, l2, c2, e2, rfl, hr2, hW2⟩; have H2 : Hid (Below w0.heap.size w0 w2) := below_next (by (repeat (first  | exact Below.refl _ _ | (with_reducible apply below_drewN) | (with_reducible apply Below.drew) | (with_reducible apply below_new)))) hW2; have HR2 := Lib.hid hr2; (first | (have HZ2 := Lib.hid (Blk.below' (blk_new' w0.drew w0.heap.size (by rfl) #[.bool false, .slice none 0 0, .int .i64 0] 72) hW2)) | skip); clear hr2 hW2)
        | (go_at_call 26; refine (HPL.out _ _ (by (repeat (first | exact H2.out | exact Below.refl _ _ | (with_reducible apply below_drewN) | (with_reducible apply Below.drew) | (with_reducible apply below_new)))) (by first | exact HR2.out | exact Rd.below _ HR2.out (below_new (Below.refl _ _) _))).mono ?_; rintro e w3 ⟨n3, A3, l3, c3, e3, rfl, hr3, hW3⟩; have H3 : Hid (Below w0.heap.size w0 w3) := below_next (by (repeat (first | exact H2.out | exact Below.refl _ _ | (with_reducible apply below_drewN) | (with_reducible apply Below.drew) | (with_reducible apply below_new)))) hW3; have HR3 := Lib.hid hr3; (first | (have HZ3 := Lib.hid (HZ2.out.below' hW3); obtain ⟨z0, z1, z2⟩ := three HZ3.out; have f0 := HZ3.out.frozen 0; have f1 := HZ3.out.frozen 1; have f2 := HZ3.out.frozen 2) | (have HZ3 := Lib.hid (Blk.below' (Blk.new w2 #[.bool false, .slice none 0 0, .int .i64 0] 72) hW3); obtain ⟨z0, z1, z2⟩ := three HZ3.out; have f0 := HZ3.out.frozen 0; have f1 := HZ3.out.frozen 1; have f2 := HZ3.out.frozen 2) | skip); clear hr3 hW3))
    all_goals (
      go_wp2_with fail
      go_meet
      rw [HE.out] at HR3
      first
        | exact ⟨w3.heap.size, rfl, lst_new (below_next HW0.out H3.out) (HX0.out.below' H3.out) (HO0.out.below' H3.out) HR3.out⟩
        | exact ⟨w2.heap.size, rfl, lst_set HZ3.out (by have h1 := H2.out.size; have h2 := HO0.out.lt; omega) hbase (below_next HW0.out H3.out) (HX0.out.below' H3.out) (HO0.out.below' H3.out) HR3.out⟩
        | exact ⟨w0.heap.size, rfl, lst_set HZ3.out (by have h2 := HO0.out.lt; omega) hbase (below_next HW0.out H3.out) (HX0.out.below' H3.out) (HO0.out.below' H3.out) HR3.out⟩)
  case rest =>
    obtain ⟨bx, rfl, hM⟩ := hcut
    clear HW0 HX0 HO0
    go_wp2
    go_loopw [7] (fun i wr => ∃ k : Nat, k ≤ G.length ∧ i = .int .i64 k ∧ Hid (LSt w wr base bx [.int .i64 (n : Int), .slice AC C.length cC, .slice AI Ids.length cI, .slice AG G.length cG, .slice AR R.length cR] (dotS a C n + fv (a.getD n 0) * p - colsS a G n k))) (fun i _ => G.length - (intOf i).toNat)
    case atStart => exact ⟨0, by omega, rfl, hM.out⟩
    case round =>
      obtain ⟨k, hk, rfl, hS⟩ := hrel
      have c3 : wr.cell? ⟨w.heap.size, 3, none⟩ = some (.slice AG G.length cG) := hS.out.X.cell 3
      by_cases hlt : k < G.length
      · obtain ⟨b, B, c, rfl, hcg, hrow⟩ := gat (HZR.out wr hS.out.W).G hlt
        obtain ⟨hlf, hll⟩ := HF.out.gs k hlt
        simp only at hlf hll hcg hrow
        obtain ⟨l, hl⟩ : ∃ l, G.getD k [] = l := ⟨_, rfl⟩
        rw [hl] at hlf hll hcg hrow
        have hi1 : (k : Int) < (G.length : Int) := by omega
        have hi3 : (0 : Int) ≤ (k : Int) := by omega
        have hbs := Nat.le_trans hbase hS.out.W.size
        have hcapd : (dotS a l l.length).natAbs < 2 ^ CapL := capL_of (Nat.le_trans (dotS_bd HF.out.af hlf l.length (by omega) (Nat.le_refl _)) (Nat.mul_le_mul_right _ (by omega)))
        obtain ⟨neg, A2, n2, c2, ex, hvb, hvr⟩ := hS.out.V
        have hbx := hS.out.b
        obtain ⟨s0, s1, s2⟩ := three hvb
        have HVB := Lib.hid (fun W (hW : Below wr.heap.size wr W) => hvb.below' hW)
        have HWC := Lib.hid (fun W (hW : Below wr.heap.size wr W) => HWG.out W (below_next hS.out.W hW) B l c hlf hll (hrow.below hW))
        have HSZ := Lib.hid (fun W cs (hr : mRd2.R W base (dotS a l l.length) cs) => size_o 2148 base (dotS a l l.length) cs W hr)
        have HMN := Lib.hid (fun W cx (hW : Below wr.heap.size wr W) (hx : mRd2.R W base ((dotS a l l.length).natAbs : Int) cx) => minus_o 2148 base (dotS a C n + fv (a.getD n 0) * p - colsS a G n k) ((dotS a l l.length).natAbs : Int) _ cx W (Nat.le_trans hbs hW.size) (Rd.below _ hvr hW) hx (hB1.out k hk) (by rw [Int.natAbs_natCast]; exact hcapd) (by decide))
        have HE : Hid (dotS a C n + fv (a.getD n 0) * p - colsS a G n k - ((dotS a l l.length).natAbs : Int) = dotS a C n + fv (a.getD n 0) * p - colsS a G n (k + 1)) := by rw [Hid, colsS, hl, hll]; omega
        clear hvb hvr hrow hlf hll hl hcapd
        go_wp2
        go_region_with (first
          | (go_at_call 34; refine (HWC.out _ (by (repeat (first  | exact Below.refl _ _ | (with_reducible apply below_drewN) | (with_reducible apply Below.drew) | (with_reducible apply below_new))))).mono ?_; rintro e w2 ⟨m2, B2, l2, k2, e2, rfl, hr2, hW2⟩; have H2 : Hid (Below wr.heap.size wr w2) := below_next (by (repeat (first  | exact Below.refl _ _ | (with_reducible apply below_drewN) | (with_reducible apply Below.drew) | (with_reducible apply below_new)))) hW2; have HR2 := Lib.hid hr2; obtain ⟨q0, q1, q2⟩ := three (HVB.out _ H2.out); clear hr2 hW2)
          | (go_at_call 33; refine (HSZ.out _ _ (by first | exact HR2.out)).mono ?_; rintro e w3 ⟨m3, B3, l3, k3, e3, rfl, hr3, hW3⟩; have H3 : Hid (Below wr.heap.size wr w3) := below_next (by (repeat (first | exact H2.out | exact Below.refl _ _ | (with_reducible apply below_drewN) | (with_reducible apply Below.drew) | (with_reducible apply below_new)))) hW3; have HR3 := Lib.hid hr3; obtain ⟨p0, p1, p2⟩ := three (HVB.out _ H3.out); clear hr3 hW3)
          | (go_at_call 31; refine (HMN.out _ _ (by (repeat (first | exact H3.out | exact Below.refl _ _ | (with_reducible apply below_drewN) | (with_reducible apply Below.drew) | (with_reducible apply below_new)))) (by first | exact HR3.out)).mono ?_; rintro e w4 ⟨m4, B4, l4, k4, e4, rfl, hr4, hW4⟩; have H4 : Hid (Below wr.heap.size wr w4) := below_next (by (repeat (first | exact H3.out | exact Below.refl _ _ | (with_reducible apply below_drewN) | (with_reducible apply Below.drew) | (with_reducible apply below_new)))) hW4; have HR4 := Lib.hid hr4; obtain ⟨r0, r1, r2⟩ := three (HVB.out _ H4.out); have f0 := (HVB.out _ H4.out).frozen 0; have f1 := (HVB.out _ H4.out).frozen 1; have f2 := (HVB.out _ H4.out).frozen 2; clear hr4 hW4))
        all_goals (
          rw [HE.out] at HR4
          go_wp2
          go_roundw
          case rel => exact ⟨k + 1, by omega, by go_num, (hS.out.next H4.out).upd hbase HR4.out⟩
          case measure => simp [intOf]; omega)
      · obtain rfl : k = G.length := by omega
        have hM2 : Hid (LSt w wr base bx [.int .i64 (n : Int), .slice AC C.length cC, .slice AI Ids.length cI, .slice AG G.length cG, .slice AR R.length cR] (dotS a C n + fv (a.getD n 0) * p - colsS a G n G.length - boxS a R 0)) := by rw [Hid, boxS, Int.sub_zero]; exact hS.out
        go_wp2
        clear c3 hlt
        obtain ⟨wo, rfl⟩ : ∃ wo : World, wo = wr := ⟨_, rfl⟩
        go_loopw [8] (fun i wr => ∃ k : Nat, k ≤ n ∧ i = .int .i64 k ∧ Hid (LSt w wr base bx [.int .i64 (n : Int), .slice AC C.length cC, .slice AI Ids.length cI, .slice AG G.length cG, .slice AR R.length cR] (dotS a C n + fv (a.getD n 0) * p - colsS a G n G.length - boxS a R k))) (fun i _ => n - (intOf i).toNat)
        case atStart => exact ⟨0, by omega, rfl, hM2.out⟩
        case round =>
          obtain ⟨k, hk, rfl, hS⟩ := hrel
          have hRl : R.length = n := HF.out.rl
          by_cases hlt : k < n
          · have c4 : wr.cell? ⟨w.heap.size, 4, none⟩ = some (.slice AR R.length cR) := hS.out.X.cell 4
            obtain ⟨pa, na, Aa, la, ka, ea, rfl, ra, a0, a1, a2⟩ := nat_elem (HAR.out wr hS.out.W) (i := k) (by rw [List.length_map]; omega)
            obtain ⟨pb, nb, Ab, lb, kb, eb, rfl, rb, b0, b1, b2⟩ := nat_elem (HZR.out wr hS.out.W).R (i := k) (by rw [List.length_map]; show k < R.length; omega)
            simp only at rb
            rw [getD_map_fv (by omega)] at ra
            rw [getD_map_fv (by omega)] at rb
            have hfa := all_getD HF.out.af (show k < a.length by omega)
            have hfr := all_getD HF.out.rf (i := k) (show k < R.length by omega)
            simp only at hfr
            obtain ⟨xa, hxa⟩ : ∃ x, fv (a.getD k 0) = x := ⟨_, rfl⟩
            obtain ⟨xr, hxr⟩ : ∃ x, fv (R.getD k 0) = x := ⟨_, rfl⟩
            have hba := fv_le_max hfa
            have hbr := fv_le_max hfr
            have hca := fv_capL hfa
            have hcr := fv_capL hfr
            rw [hxa] at ra hba hca
            rw [hxr] at rb hbr hcr
            have hprod : ((xa.natAbs : Int) * xr).natAbs < 2 ^ CapL := capL_of (Nat.le_trans (natAbs_mul_le (by rw [Int.natAbs_natCast]; exact hba) hbr) (Nat.le_mul_of_pos_left F2 (by decide)))
            have hi1 : (k : Int) < (n : Int) := by omega
            have hi2 : (k : Int) < (a.length : Int) := by omega
            have hi4 : (k : Int) < (R.length : Int) := by omega
            have hi3 : (0 : Int) ≤ (k : Int) := by omega
            have hbs := Nat.le_trans hbase hS.out.W.size
            obtain ⟨neg, A2, n2, c2, ex, hvb, hvr⟩ := hS.out.V
            have hbx := hS.out.b
            obtain ⟨s0, s1, s2⟩ := three hvb
            have HVB := Lib.hid (fun W (hW : Below wr.heap.size wr W) => hvb.below' hW)
            have HKE := Lib.hid (fun W (hW : Below wr.heap.size wr W) => (And.intro (cell_kept hW c4) (And.intro (cell_kept hW b0) (And.intro (cell_kept hW b1) (cell_kept hW b2)))))
            have HSZ := Lib.hid (fun W (hW : Below wr.heap.size wr W) => size_o 1074 base xa _ W (Rd.below _ ra hW))
            have HTM := Lib.hid (fun W cx (hW : Below wr.heap.size wr W) (hx : (numRd 1074).R W base (xa.natAbs : Int) cx) => times_o 1074 1074 base (xa.natAbs : Int) xr cx _ W (Nat.le_trans hbs hW.size) hx (Rd.below _ rb hW) (by rw [Int.natAbs_natCast]; exact hca) hcr (by decide) (by decide))
            have HMN := Lib.hid (fun W cx (hW : Below wr.heap.size wr W) (hx : mRd2.R W base ((xa.natAbs : Int) * xr) cx) => minus_o 2148 base (dotS a C n + fv (a.getD n 0) * p - colsS a G n G.length - boxS a R k) ((xa.natAbs : Int) * xr) _ cx W (Nat.le_trans hbs hW.size) (Rd.below _ hvr hW) hx (hB2.out k hk) hprod (by decide))
            have HE : Hid (dotS a C n + fv (a.getD n 0) * p - colsS a G n G.length - boxS a R k - (xa.natAbs : Int) * xr = dotS a C n + fv (a.getD n 0) * p - colsS a G n G.length - boxS a R (k + 1)) := by rw [Hid, boxS, hxa, hxr]; omega
            clear hvb hvr ra rb hfa hfr hxa hxr hba hbr hca hcr hprod hRl
            go_wp2
            go_region_with (first
              | (go_at_call 33; refine (HSZ.out _ (by (repeat (first  | exact Below.refl _ _ | (with_reducible apply below_drewN) | (with_reducible apply Below.drew) | (with_reducible apply below_new))))).mono ?_; rintro e w2 ⟨m2, B2, l2, k2, e2, rfl, hr2, hW2⟩; have H2 : Hid (Below wr.heap.size wr w2) := below_next (by (repeat (first  | exact Below.refl _ _ | (with_reducible apply below_drewN) | (with_reducible apply Below.drew) | (with_reducible apply below_new)))) hW2; have HR2 := Lib.hid hr2; obtain ⟨q0, q1, q2⟩ := three (HVB.out _ H2.out); obtain ⟨t0, t1, t2, t3⟩ := HKE.out _ H2.out; clear hr2 hW2)
              | (go_at_call 27; refine (HTM.out _ _ (by (repeat (first | exact H2.out | exact Below.refl _ _ | (with_reducible apply below_drewN) | (with_reducible apply Below.drew) | (with_reducible apply below_new)))) (by first | exact HR2.out)).mono ?_; rintro e w3 ⟨m3, B3, l3, k3, e3, rfl, hr3, hW3⟩; have H3 : Hid (Below wr.heap.size wr w3) := below_next (by (repeat (first | exact H2.out | exact Below.refl _ _ | (with_reducible apply below_drewN) | (with_reducible apply Below.drew) | (with_reducible apply below_new)))) hW3; have HR3 := Lib.hid hr3; obtain ⟨p0, p1, p2⟩ := three (HVB.out _ H3.out); clear hr3 hW3)
              | (go_at_call 31; refine (HMN.out _ _ (by (repeat (first | exact H3.out | exact Below.refl _ _ | (with_reducible apply below_drewN) | (with_reducible apply Below.drew) | (with_reducible apply below_new)))) (by first | exact HR3.out)).mono ?_; rintro e w4 ⟨m4, B4, l4, k4, e4, rfl, hr4, hW4⟩; have H4 : Hid (Below wr.heap.size wr w4) := below_next (by (repeat (first | exact H3.out | exact Below.refl _ _ | (with_reducible apply below_drewN) | (with_reducible apply Below.drew) | (with_reducible apply below_new)))) hW4; have HR4 := Lib.hid hr4; obtain ⟨r0, r1, r2⟩ := three (HVB.out _ H4.out); have f0 := (HVB.out _ H4.out).frozen 0; have f1 := (HVB.out _ H4.out).frozen 1; have f2 := (HVB.out _ H4.out).frozen 2; clear hr4 hW4))
            all_goals (
              rw [HE.out] at HR4
              go_wp2
              go_roundw
              case rel => exact ⟨k + 1, by omega, by go_num, (hS.out.next H4.out).upd hbase HR4.out⟩
              case measure => simp [intOf]; omega)
          · obtain rfl : n = k := by omega
            have hLVe := HL.out
            obtain ⟨neg, A2, n2, c2, ex, hvb, hvr⟩ := hS.out.V
            have hbx := hS.out.b
            obtain ⟨s0, s1, s2⟩ := three hvb
            obtain ⟨r0, r1, r2⟩ := three hS.out.O
            have f0 := hS.out.O.frozen 0; have f1 := hS.out.O.frozen 1; have f2 := hS.out.O.frozen 2
            rw [← hLVe] at hvr
            obtain ⟨g1, g2, g3⟩ := set3 (base := base) (B := w.heap.size) (E := [113]) (w0 := w) (.bool neg) (.slice A2 n2 c2) (.int .i64 ex) hS.out.O (by omega) (by decide) (by omega) hS.out.W
            have HG := Lib.hid (And.intro g3 (mRd2.keep hvr g2))
            obtain ⟨t0, t1, t2⟩ := three g1
            clear g1 g2 g3 hvb hvr hLVe hRl
            go_wp2
            refine bodyPost_ret (v := .agg #[.bool neg, .slice A2 n2 c2, .int .i64 ex]) (by simp [results, Tryz.results53, go_sem, t0, t1, t2]) rfl (numRet_mk HG.out.2 HG.out.1)
end Go.Proofs.YtcfejobdgiiihaaGreatDoor

namespace Go.Proofs.YtcfejobdgiiihaaGreatDoor
open Go.RowKit
attribute [local go_sem ↓] Go.wp_at_zero Go.wp_at_succ

/-! ### ref17.Margin -/
theorem rzRd.below {w w' : World} {base : Nat} {z : Zn} {cs : List Value} (h : rzRd.R w base z cs) (hb : Below w.heap.size w w') : rzRd.R w' base z cs := Rd.below _ h hb
theorem fits_no {z : Zn} {a : List Nat} (h : realB z = false ∨ a.all fin = false ∨ (a.length : Int) ≠ z.N + 1) : marginS z a = none ∧ fitsB z a = false := by
  have hf : fitsB z a = false := by
    rw [fits_real]
    rcases h with h | h | h
    · rw [h]; rfl
    · rw [h]; simp
    · rw [decide_eq_false h]; simp
  exact ⟨by unfold marginS; rw [hf]; rfl, hf⟩
theorem realB_n {z : Zn} (h : realB z = true) : 1 ≤ z.N ∧ z.N ≤ 256 := by
  unfold realB goodB at h
  simp only [Bool.and_eq_true, decide_eq_true_eq] at h
  exact ⟨h.2.1.1.1.1.1.1, h.2.1.1.1.1.1.2⟩
def MgRet (o : Option Nat) (w : World) (e : Ending) (w' : World) : Prop := e = optRet o ∧ Below w.heap.size w w'
set_option maxHeartbeats 4000000 in
set_option maxRecDepth 100000 in
theorem rmargin_calls (z : Zn) (cs : List Value) (A : Option Addr) (a : List Nat) (n c t b1 b2 : Nat) (w : World) (h : rzRd.R w b1 z cs) (hn : a.length = n) (ha : u64.Row t w b2 A a) (hal : n ≤ 1099511627776) :
    Calls Tryz.prog 17 #[.agg cs.toArray, .slice A n c] w (MgRet (marginS z a) w) := by
  subst hn
  have HRE := Lib.hid (fun W (hW : Below w.heap.size w W) => reals_calls z cs W b1 w.heap.size (rzRd.below h hW) hW.size)
  have HEX := Lib.hid (fun W (hW : Below w.heap.size w W) => exact_calls A a a.length c t b2 w.heap.size W rfl (ha.below hW) hal hW.size)
  obtain ⟨AC, AI, AG, AR, cC, cI, cG, cR, rfl, hr, hl⟩ := h
  have hgl := hl.g.2
  have HW := Lib.hid (below_new (Below.refl w.heap.size w) (.cells #[.int .i64 z.N, .slice AC z.C.length cC, .slice AI z.Ids.length cI, .slice AG z.G.length cG, .slice AR z.R.length cR, .bool z.bad] 44))
  have HB := Lib.hid (Blk.new w #[.int .i64 z.N, .slice AC z.C.length cC, .slice AI z.Ids.length cI, .slice AG z.G.length cG, .slice AR z.R.length cR, .bool z.bad] 44)
  obtain ⟨o, ho⟩ : ∃ o, marginS z a = o := ⟨_, rfl⟩
  rw [ho]
  have HO := Lib.hid ho
  clear hr hl ha ho
  go_enter Tryz.func17, Tryz.ntmps17
  go_wp2_with fail
  refine (HRE.out _ HW.out).mono ?_
  rintro e w1 ⟨hW1, hh⟩
  have H1 := Lib.hid (And.intro (below_next HW.out hW1) (HB.out.below' hW1))
  clear hW1
  rcases hh with ⟨hrb, rfl⟩ | ⟨hrb, BC, BI, BG, BR, dC, dI, dG, dR, rfl, hrows, _⟩
  · have HN := Lib.hid (HO.out.symm.trans (fits_no (a := a) (.inl hrb)).1)
    clear hrb
    go_wp2_with fail
    refine (HEX.out _ (below_new H1.out.1 _)).mono ?_
    rintro e w2 ⟨B, k, cc, rfl, hk, hW2, hE⟩
    have H2 := Lib.hid (below_next (below_new H1.out.1 _) hW2)
    clear hW2 hE
    go_wp2
    go_ret2
    exact ⟨by rw [HN.out]; rfl, H2.out⟩
  · have hN := realB_n hrb
    have hN1 := hN.1
    have hN2 := hN.2
    have HRB := Lib.hid hrb
    have HRW := Lib.hid hrows
    simp only [realCs]
    clear hrb hrows hN
    obtain ⟨f, hf⟩ : ∃ f, a.all fin = f := ⟨_, rfl⟩
    rw [hf] at HEX
    cases f
    · have HN := Lib.hid (HO.out.symm.trans (fits_no (z := z) (.inr (.inl hf))).1)
      clear hf
      go_wp2_with fail
      refine (HEX.out _ (below_new H1.out.1 _)).mono ?_
      rintro e w2 ⟨B, k, cc, rfl, hk, hW2, hE⟩
      have H2 := Lib.hid (below_next (below_new H1.out.1 _) hW2)
      clear hW2 hE
      go_wp2
      go_ret2
      exact ⟨by rw [HN.out]; rfl, H2.out⟩
    · by_cases hln : (a.length : Int) = z.N + 1
      · have HFI := Lib.hid (fits_facts (show fitsB z a = true by rw [fits_real, HRB.out, hf, decide_eq_true hln]; rfl))
        have HM := Lib.hid (show o = rdown 2148 (leastV z a) by rw [← HO.out]; unfold marginS; rw [fits_real, HRB.out, hf, decide_eq_true hln]; rfl)
        have e1 : ((a.length : Int) != z.N + 1) = false := by simpa using hln
        have HLN := Lib.hid hln
        clear hf hln
        go_wp2_with fail
        refine (HEX.out _ (below_new H1.out.1 _)).mono ?_
        rintro e w2 ⟨B, k, cc, rfl, hk, hW2, hE⟩
        obtain ⟨hke, hrow⟩ := hE trivial
        obtain rfl : a.length = k := hke.symm
        have H2 := Lib.hid (below_next (below_new H1.out.1 _) hW2)
        have HB2 := Lib.hid ((H1.out.2.alloc _).below' hW2)
        have HX2 := Lib.hid ((Blk.new w1 #[.int .i64 z.N, .slice BC z.C.length dC, .slice BI z.Ids.length dI, .slice BG z.G.length dG, .slice BR z.R.length dR] 65).below' hW2)
        have HR2 := Lib.hid (HRW.out.below (below_next (below_new (Below.refl _ _) _) hW2))
        have HA2 := Lib.hid hrow
        have c0 : w2.cell? ⟨w.heap.size, 0, none⟩ = some (.int .i64 z.N) := HB2.out.cell 0
        obtain ⟨x0, x1, x2, x3, x4⟩ := five HX2.out
        have HLE := Lib.hid (least_calls z a B BC BI BG BR cc dC dI dG dR z.N.toNat w.heap.size w2 HFI.out HR2.out HA2.out (by omega) H2.out.size)
        simp only [realCs] at HLE
        clear hW2 hE hke hrow
        go_wp2_with fail
        refine HLE.out.mono ?_
        rintro e w3 ⟨n3, A3, l3, c3, e3, rfl, hr3, hW3⟩
        have H3 := Lib.hid (below_next H2.out hW3)
        have HRD := round_calls 2148 w.heap.size CapL (leastV z a) _ w3 H3.out.size hr3 (capL_of (leastV_bd HFI.out (by omega) z.Ids.length z.N.toNat (Nat.le_of_eq HFI.out.ig) (Nat.le_refl _))) (by decide) (by decide) (by decide)
        rw [← HM.out] at HRD
        unfold optRet at HRD
        replace HRD := Lib.hid HRD
        clear hr3 hW3 c0 x0 x1 x2 x3 x4
        go_wp2_with fail
        refine HRD.out.mono ?_
        rintro e w4 ⟨rfl, hW4⟩
        have H4 := Lib.hid (below_next H3.out hW4)
        clear hW4
        go_wp2
        go_ret2
        exact ⟨rfl, H4.out⟩
      · have HN := Lib.hid (HO.out.symm.trans (fits_no (z := z) (.inr (.inr hln))).1)
        have e1 : ((a.length : Int) != z.N + 1) = true := by simpa using hln
        clear hf hln
        go_wp2_with fail
        refine (HEX.out _ (below_new H1.out.1 _)).mono ?_
        rintro e w2 ⟨B, k, cc, rfl, hk, hW2, hE⟩
        have H2 := Lib.hid (below_next (below_new H1.out.1 _) hW2)
        have HB2 := Lib.hid ((H1.out.2.alloc _).below' hW2)
        have c0 : w2.cell? ⟨w.heap.size, 0, none⟩ = some (.int .i64 z.N) := HB2.out.cell 0
        clear hW2 hE
        go_wp2
        go_ret2
        exact ⟨by rw [HN.out]; rfl, H2.out⟩
end Go.Proofs.YtcfejobdgiiihaaGreatDoor

namespace Go.Proofs.YtcfejobdgiiihaaGreatDoor
open Go.RowKit
attribute [local go_sem ↓] Go.wp_at_zero Go.wp_at_succ

/-! ### ref17.Worst -/
theorem s7_of {w W : World} {t b : Nat} {x0 x1 x2 x3 x4 x5 u : Value} {q : Addr} (h : Blk W b t [x0, x1, x2, x3, x4, x5]) (hW : Below w.heap.size w W) (hq : w.cell? q = some u) :
    W.cell? ⟨b, 0, none⟩ = some x0 ∧ W.cell? ⟨b, 1, none⟩ = some x1 ∧ W.cell? ⟨b, 2, none⟩ = some x2 ∧ W.cell? ⟨b, 3, none⟩ = some x3 ∧ W.cell? ⟨b, 4, none⟩ = some x4 ∧ W.cell? ⟨b, 5, none⟩ = some x5 ∧ W.cell? q = some u :=
  ⟨h.cell 0, h.cell 1, h.cell 2, h.cell 3, h.cell 4, h.cell 5, cell_kept hW hq⟩
def uRet (o : Option (Nat × Nat)) : Ending := match o with
  | none => .returned (.tuple #[.int .i64 0, .int .u64 0, .bool false])
  | some (i, m) => .returned (.tuple #[.int .i64 (i : Nat), .int .u64 (m : Nat), .bool true])
def WsRet (o : Option (Nat × Nat)) (w : World) (e : Ending) (w' : World) : Prop := e = uRet o ∧ Below w.heap.size w w'
set_option maxHeartbeats 8000000 in
set_option maxRecDepth 100000 in
theorem rworst_calls (z : Zn) (cs : List Value) (A : Option Addr) (claims : List (List Nat)) (n c b1 b2 : Nat) (w : World) (h : rzRd.R w b1 z cs) (hn : claims.length = n) (ha : (bsl 50 u64).Row 33 w b2 A claims) (hal : n ≤ 17592186044416) (hll : ∀ k, (claims.getD k []).length ≤ 1099511627776) :
    Calls Tryz.prog 23 #[.agg cs.toArray, .slice A n c] w (WsRet (worstS z claims) w) := by
  subst hn
  have HM := Lib.hid (fun B (l : List Nat) lc W (hW : Below w.heap.size w W) (hl : u64.Row 50 W b2 B l) (hll : l.length ≤ 1099511627776) => rmargin_calls z cs B l l.length lc 50 b1 b2 W (rzRd.below h hW) rfl hl hll)
  have HA := Lib.hid (fun W (hW : Below w.heap.size w W) => (show (bsl 50 u64).Row 33 W b2 A claims from ha.below hW))
  have HLL := Lib.hid hll
  obtain ⟨AC, AI, AG, AR, cC, cI, cG, cR, rfl, hr, hl⟩ := h
  have HW := Lib.hid (below_new (Below.refl w.heap.size w) (.cells #[.int .i64 z.N, .slice AC z.C.length cC, .slice AI z.Ids.length cI, .slice AG z.G.length cG, .slice AR z.R.length cR, .bool z.bad] 44))
  have HB := Lib.hid (Blk.new w #[.int .i64 z.N, .slice AC z.C.length cC, .slice AI z.Ids.length cI, .slice AG z.G.length cG, .slice AR z.R.length cR, .bool z.bad] 44)
  clear hr hl ha hll
  go_enter Tryz.func23, Tryz.ntmps23
  go_wp2
  go_loopw [7, 8, 9, 10, 11] (fun at_ lv i _ _ wr => ∃ (k b m : Nat) (q : Int), k ≤ claims.length ∧ i = .int .i64 k ∧ at_ = .int .i64 q ∧ lv = .int .u64 m ∧ Hid ((k = 0 → q < 0) ∧ (k ≠ 0 → q = b)) ∧ Hid (wS z claims k = some (b, m)) ∧ Hid (Blk wr w.heap.size 44 [.int .i64 z.N, .slice AC z.C.length cC, .slice AI z.Ids.length cI, .slice AG z.G.length cG, .slice AR z.R.length cR, .bool z.bad]) ∧ Hid (Below w.heap.size w wr)) (fun _ _ i _ _ _ => claims.length - (intOf i).toNat)
  case atStart => exact ⟨0, 0, 0, -1, by omega, rfl, rfl, rfl, ⟨fun _ => by decide, fun h => absurd rfl h⟩, rfl, HB.out, HW.out⟩
  case round =>
    obtain ⟨k, b, m, q, hk, rfl, rfl, rfl, hQ, hS, hB, hW⟩ := hrel
    by_cases hlt : k < claims.length
    · obtain ⟨p, B, l, lc, rfl, hcg, hge, hlc, hlC, hrow⟩ := bsl_at (HA.out w (Below.refl _ _)) hlt
      have hl2 : l.length ≤ 1099511627776 := by have := HLL.out k; rw [hge.out] at this; exact this
      have HMG := fun W (hW : Below w.heap.size w W) => HM.out B l lc W hW (hrow.below hW) hl2
      obtain ⟨o, ho⟩ : ∃ o, marginS z l = o := ⟨_, rfl⟩
      rw [ho] at HMG
      have HO := Lib.hid ho
      have hi1 : (k : Int) < (claims.length : Int) := by omega
      have hi3 : (0 : Int) ≤ (k : Int) := by omega
      obtain ⟨z0, z1, z2, z3, z4, z5⟩ := six hB.out
      have hcg' : wr.cell? (p.add k) = some (.slice B l.length lc) := cell_kept hW.out hcg
      unfold MgRet optRet at HMG
      have HMGH := Lib.hid HMG
      clear hrow ho HMG
      cases o with
      | none =>
        have HN : Hid (worstS z claims = none) := by
          unfold worstS
          rw [Hid, if_neg (by omega)]
          exact wS_none (k := k + 1) (by rw [wS, hS.out, hge.out, HO.out]) _ (by omega)
        have HMG := HMGH.out
        simp only [Option.getD_none, Option.isSome_none] at HMG
        replace HMG := Lib.hid HMG
        go_wp2_with fail
        go_region_held3 (fun W => W.cell? ⟨w.heap.size, 0, none⟩ = some (.int .i64 z.N) ∧ W.cell? ⟨w.heap.size, 1, none⟩ = some (.slice AC z.C.length cC) ∧ W.cell? ⟨w.heap.size, 2, none⟩ = some (.slice AI z.Ids.length cI) ∧ W.cell? ⟨w.heap.size, 3, none⟩ = some (.slice AG z.G.length cG) ∧ W.cell? ⟨w.heap.size, 4, none⟩ = some (.slice AR z.R.length cR) ∧ W.cell? ⟨w.heap.size, 5, none⟩ = some (.bool z.bad) ∧ W.cell? (p.add k) = some (.slice B l.length lc))
          (first | (with_reducible exact s7_of H2.out.2 H2.out.1 hcg) | ((try dsimp only); (repeat' apply And.intro) <;> go_keep))
          ((go_at_call 17; refine (HMG.out _ (by (repeat (first | exact hW.out | exact Below.refl _ _ | (with_reducible apply below_drewN) | (with_reducible apply Below.drew) | (with_reducible apply below_new))))).mono ?_; rintro e w2 ⟨rfl, hW2⟩; have H2 : Hid (Below w.heap.size w w2 ∧ Blk w2 w.heap.size 44 [.int .i64 z.N, .slice AC z.C.length cC, .slice AI z.Ids.length cI, .slice AG z.G.length cG, .slice AR z.R.length cR, .bool z.bad]) := ⟨below_next (by (repeat (first | exact hW.out | exact Below.refl _ _ | (with_reducible apply below_drewN) | (with_reducible apply Below.drew) | (with_reducible apply below_new)))) hW2, hB.out.drew.below' hW2⟩; clear hW2))
        clear z0 z1 z2 z3 z4 z5 hcg'
        go_wp2
        go_ret3
        exact ⟨by rw [HN.out]; rfl, H2.out.1⟩
      | some u =>
        have HMG := HMGH.out
        simp only [Option.getD_some, Option.isSome_some] at HMG
        replace HMG := Lib.hid HMG
        have HLE := Lib.hid (fun W => less_calls u m W (marginS_fin HO.out).1 (wS_fin hS.out).1 (marginS_fin HO.out).2 (wS_fin hS.out).2)
        obtain ⟨lt, hlt2⟩ : ∃ b, decide (fv u < fv m) = b := ⟨_, rfl⟩
        rw [hlt2] at HLE
        have HLT := Lib.hid hlt2
        clear hlt2
        have hnext : ∀ (st : Nat × Nat), (if k = 0 ∨ fv u < fv m then (k, u) else (b, m)) = st → wS z claims (k + 1) = some st := by
          intro st hst; rw [wS, hS.out, hge.out, HO.out]; exact congrArg some hst
        have HNX := Lib.hid hnext
        clear hnext
        go_wp2_with fail
        go_region_held3 (fun W => W.cell? ⟨w.heap.size, 0, none⟩ = some (.int .i64 z.N) ∧ W.cell? ⟨w.heap.size, 1, none⟩ = some (.slice AC z.C.length cC) ∧ W.cell? ⟨w.heap.size, 2, none⟩ = some (.slice AI z.Ids.length cI) ∧ W.cell? ⟨w.heap.size, 3, none⟩ = some (.slice AG z.G.length cG) ∧ W.cell? ⟨w.heap.size, 4, none⟩ = some (.slice AR z.R.length cR) ∧ W.cell? ⟨w.heap.size, 5, none⟩ = some (.bool z.bad) ∧ W.cell? (p.add k) = some (.slice B l.length lc))
          (first | (with_reducible exact s7_of H2.out.2 H2.out.1 hcg) | ((try dsimp only); (repeat' apply And.intro) <;> go_keep))
          ((go_at_call 17; refine (HMG.out _ (by (repeat (first | exact hW.out | exact Below.refl _ _ | (with_reducible apply below_drewN) | (with_reducible apply Below.drew) | (with_reducible apply below_new))))).mono ?_; rintro e w2 ⟨rfl, hW2⟩; have H2 : Hid (Below w.heap.size w w2 ∧ Blk w2 w.heap.size 44 [.int .i64 z.N, .slice AC z.C.length cC, .slice AI z.Ids.length cI, .slice AG z.G.length cG, .slice AR z.R.length cR, .bool z.bad]) := ⟨below_next (by (repeat (first | exact hW.out | exact Below.refl _ _ | (with_reducible apply below_drewN) | (with_reducible apply Below.drew) | (with_reducible apply below_new)))) hW2, hB.out.drew.below' hW2⟩; clear hW2))
        clear z0 z1 z2 z3 z4 z5 hcg'
        by_cases hk0 : k = 0
        · have hq := hQ.out.1 hk0
          have HK := Lib.hid hk0
          clear hk0
          go_wp2
          go_roundw
          case rel => exact ⟨k + 1, k, u, k, by omega, by go_num, rfl, rfl, ⟨fun h => absurd h (by omega), fun _ => rfl⟩, HNX.out _ (if_pos (.inl HK.out)), H2.out.2, H2.out.1⟩
          case measure => simp [intOf]; omega
        · have hq : ¬ q < 0 := by rw [hQ.out.2 hk0]; omega
          have HK := Lib.hid hk0
          clear hk0
          go_wp2_with fail
          refine (HLE.out _).mono ?_
          rintro e w3 ⟨rfl, hW3⟩
          have H3 := Lib.hid (And.intro (below_next H2.out.1 hW3) (H2.out.2.below' hW3))
          clear hW3
          cases lt
          · go_wp2
            go_roundw
            case rel => exact ⟨k + 1, b, m, q, by omega, by go_num, rfl, rfl, ⟨fun h => absurd h (by omega), fun _ => hQ.out.2 HK.out⟩, HNX.out _ (if_neg (by rintro (h | h); exact HK.out h; exact of_decide_eq_false HLT.out h)), H3.out.2, H3.out.1⟩
            case measure => simp [intOf]; omega
          · go_wp2
            go_roundw
            case rel => exact ⟨k + 1, k, u, k, by omega, by go_num, rfl, rfl, ⟨fun h => absurd h (by omega), fun _ => rfl⟩, HNX.out _ (if_pos (.inr (of_decide_eq_true HLT.out))), H3.out.2, H3.out.1⟩
            case measure => simp [intOf]; omega
    · obtain rfl : k = claims.length := by omega
      by_cases h0 : claims.length = 0
      · have hq := hQ.out.1 h0
        have HN : Hid (worstS z claims = none) := by unfold worstS; rw [Hid, if_pos h0]
        clear h0
        go_wp2
        go_ret3
        exact ⟨by rw [HN.out]; rfl, hW.out⟩
      · have hqe := Lib.hid (hQ.out.2 h0)
        have hq : ¬ q < 0 := by rw [hqe.out]; omega
        have HN : Hid (worstS z claims = some (b, m)) := by unfold worstS; rw [Hid, if_neg h0]; exact hS.out
        clear h0
        go_wp2
        go_ret3
        exact ⟨by rw [HN.out, hqe.out]; rfl, hW.out⟩
end Go.Proofs.YtcfejobdgiiihaaGreatDoor
