/- Walks and plain laws of this seat's functions, part 5: R2g R2h R2i. -/
import Derived.Test.YtikdhkmcdmnadaaGreatFmtBesafterJ04
set_option linter.unusedVariables false
set_option linter.unusedSimpArgs false
namespace Go.Proofs.YtikdhkmcdmnadaaGreatFmtBesafter
open Go.RowKit

theorem numRd_setNT {K : Nat} {w : World} {base b : Nat} {X : Int} {cs : List Value} (h : (numRd K).R w base X cs) (hn : NT w 46 b) (hb : base ≤ b) (i : Nat) (u : Value) : (numRd K).R (w.setCell ⟨b, i, none⟩ u) base X cs :=
  (numRd K).keep h (Keeps.set_nt hn hb i u)
set_option maxHeartbeats 2000000 in
theorem minus_num (K base L : Nat) (X Y : Int) (cx cy : List Value) (w : World) (hbase : base ≤ w.heap.size) (hx : (numRd K).R w base X cx) (hy : (numRd K).R w base Y cy)
    (hX : X.natAbs < 2 ^ L) (hY : Y.natAbs < 2 ^ L) (hL : L ≤ 1073741824) (hK : K ≤ 1073741824) :
    Calls Tryz.prog 13 #[.agg cx.toArray, .agg cy.toArray] w fun r w' => ∃ cs, r = .returned (.agg cs.toArray) ∧ (numRd K).R w' base (X - Y) cs ∧ Below w.heap.size w w' := by
  have h1 := fun W (h : Below w.heap.size w W) => turned_calls K base Y cy W ((numRd K).below hy h)
  have h2 := fun W (h : Below w.heap.size w W) cz (hz : (numRd K).R W base (-Y) cz) => plus_num K base L X (-Y) cx cz W (Nat.le_trans hbase h.size) ((numRd K).below hx h) hz hX (by rw [Int.natAbs_neg]; exact hY) hL hK
  obtain ⟨nx, mx, ex, vx, rfl, hmx, hex, hbx, hXX⟩ := hx
  obtain ⟨ny, my, ey, vy, rfl, hmy, hey, hby, hYY⟩ := hy
  obtain ⟨xs, A, ca, hv, _⟩ := hmx
  obtain ⟨ys, B, cb, hv', _⟩ := hmy
  cases hv
  cases hv'
  have H1 := Lib.hid h1
  have H2 := Lib.hid h2
  clear h1 h2 hex hey hXX hYY hX hY
  have hne0 : ¬ w.heap.size = w.heap.size + 1 + 1 := by omega
  have hne1 : ¬ w.heap.size + 1 + 1 = w.heap.size := by omega
  go_enter Tryz.func13, Tryz.ntmps13
  go_wp2
  go_region_held3 (fun w' => w'.cell? ⟨w.heap.size, 0, none⟩ = some (.bool nx) ∧ w'.cell? ⟨w.heap.size, 1, none⟩ = some (.slice A xs.length ca) ∧ w'.cell? ⟨w.heap.size, 2, none⟩ = some (.int .i64 ex) ∧ w'.cell? ⟨w.heap.size + 1, 0, none⟩ = some (.bool ny) ∧ w'.cell? ⟨w.heap.size + 1, 1, none⟩ = some (.slice B ys.length cb) ∧ w'.cell? ⟨w.heap.size + 1, 2, none⟩ = some (.int .i64 ey)) (first | exact ⟨cell_kept hb2 (by go_simp), cell_kept hb2 (by go_simp), cell_kept hb2 (by go_simp), cell_kept hb2 (by go_simp), cell_kept hb2 (by go_simp), cell_kept hb2 (by go_simp)⟩ | exact ⟨cell_kept hb1 (by go_simp), cell_kept hb1 (by go_simp), cell_kept hb1 (by go_simp), cell_kept hb1 (by go_simp), cell_kept hb1 (by go_simp), cell_kept hb1 (by go_simp)⟩ | ((try dsimp only); (repeat' apply And.intro) <;> go_keep)) (first | (go_at_call 9; refine (H1.out _ (by repeat (first | exact Below.refl _ _ | (with_reducible apply Below.drew) | (with_reducible apply below_new)))).mono ?_; rintro e w1 ⟨cz, rfl, hz, hb1⟩) | (go_at_call 15; refine (H2.out _ (below_next (by repeat (first | exact Below.refl _ _ | (with_reducible apply Below.drew) | (with_reducible apply below_new))) hb1) cz hz).mono ?_; rintro e w2 ⟨cs, rfl, hcs, hb2⟩; have HC := Lib.hid hcs; obtain ⟨nz, mz, ez, vz, rfl, ⟨ts, C, cc, hvz, _⟩, _⟩ := hcs; cases hvz; obtain ⟨hc, hf⟩ := bcell hb2; obtain ⟨hc1, hf1⟩ := bcell hb1; have hn2 : w.heap.size + 1 + 1 < w1.heap.size := (by have := hb1.size; simp at this; omega)))
  have hT0 : NT ((w.alloc (.cells #[.bool nx, .slice A xs.length ca, .int .i64 ex] 25)).alloc (.cells #[.bool ny, .slice B ys.length cb, .int .i64 ey] 25) |>.alloc (.cells #[.bool false, .slice none 0 0, .int .i64 0] 25)) 46 (w.heap.size + 1 + 1) := by have := NT.new ((w.alloc (.cells #[.bool nx, .slice A xs.length ca, .int .i64 ex] 25)).alloc (.cells #[.bool ny, .slice B ys.length cb, .int .i64 ey] 25)) #[.bool false, .slice none 0 0, .int .i64 0] 25 46 (by decide); simpa using this
  have hT1 : NT w1 46 (w.heap.size + 1 + 1) := NT.below (NT.drew hT0) hb1
  have hT2 := hT1.below hb2
  have hW2 : Below w.heap.size w w2 := below_next (below_next (by repeat (first | exact Below.refl _ _ | (with_reducible apply Below.drew) | (with_reducible apply below_new))) hb1) hb2
  go_wp2
  refine bodyPost_ret (v := .agg #[.bool nz, .slice C ts.length cc, .int .i64 ez]) (by simp [results, Tryz.results13, go_sem, hc, hc1, hn2]) rfl ⟨[.bool nz, .slice C ts.length cc, .int .i64 ez], rfl, ?_, (by repeat (first | exact hW2 | refine Below.setCell ?_ (by simp <;> omega) _))⟩
  have HC2 := HC.out
  rw [← Int.sub_eq_add_neg] at HC2
  (repeat (first | exact HC2 | refine numRd_setNT ?_ (by repeat (first | exact hT2 | apply NT.set)) (by omega) _ _))

set_option maxHeartbeats 400000 in
theorem cmp_num (K base L : Nat) (X Y : Int) (cx cy : List Value) (w : World) (hbase : base ≤ w.heap.size) (hx : (numRd K).R w base X cx) (hy : (numRd K).R w base Y cy)
    (hX : X.natAbs < 2 ^ L) (hY : Y.natAbs < 2 ^ L) (hL : L ≤ 1073741824) (hK : K ≤ 1073741824) :
    Calls Tryz.prog 8 #[.agg cx.toArray, .agg cy.toArray] w fun r w' => r = .returned (.int .i64 (Int.sign (X - Y))) ∧ Below w.heap.size w w' := by
  have h1 := fun W (h : Below w.heap.size w W) => minus_num K base L X Y cx cy W (Nat.le_trans hbase h.size) ((numRd K).below hx h) ((numRd K).below hy h) hX hY hL hK
  obtain ⟨nx, mx, ex, vx, rfl, hmx, hex, hbx, hXX⟩ := hx
  obtain ⟨ny, my, ey, vy, rfl, hmy, hey, hby, hYY⟩ := hy
  obtain ⟨xs, A, ca, hv, _⟩ := hmx
  obtain ⟨ys, B, cb, hv', _⟩ := hmy
  cases hv
  cases hv'
  have H1 := Lib.hid h1
  clear h1 hex hey hXX hYY hX hY
  go_enter Tryz.func8, Tryz.ntmps8
  go_wp2_with fail
  refine (H1.out _ (by repeat (first | exact Below.refl _ _ | (with_reducible apply below_new)))).mono ?_
  rintro e w1 ⟨cz, rfl, hz, hb1⟩
  have hs := sign_calls K base (X - Y) cz w1 hz
  have HS := Lib.hid hs
  clear hs hz
  have HB := Lib.hid hb1
  clear hb1
  go_wp2_with fail
  refine HS.out.mono ?_
  rintro e w2 ⟨rfl, hb2⟩
  go_wp2
  go_ret
  exact ⟨rfl, below_next (below_next (by repeat (first | exact Below.refl _ _ | (with_reducible apply below_new))) HB.out) hb2⟩

theorem sg_mul (nx ny : Bool) (a b j k : Nat) : sg nx (a * 2 ^ j) * sg ny (b * 2 ^ k) = sg (nx != ny) (a * b * 2 ^ (j + k)) := by
  have e : a * b * 2 ^ (j + k) = a * 2 ^ j * (b * 2 ^ k) := by rw [Nat.pow_add]; simp only [Nat.mul_assoc, Nat.mul_left_comm, Nat.mul_comm]
  rw [e]
  generalize a * 2 ^ j = p
  generalize b * 2 ^ k = q
  cases nx <;> cases ny <;> simp [sg, Int.neg_mul, Int.mul_neg]
set_option maxHeartbeats 2000000 in
theorem times_num (K J base L : Nat) (X Y : Int) (cx cy : List Value) (w : World) (hbase : base ≤ w.heap.size) (hx : (numRd K).R w base X cx) (hy : (numRd J).R w base Y cy)
    (hX : X.natAbs < 2 ^ L) (hY : Y.natAbs < 2 ^ L) (hL : L ≤ 1073741824) (hK : K ≤ 1073741824) (hJ : J ≤ 1073741824) :
    Calls Tryz.prog 16 #[.agg cx.toArray, .agg cy.toArray] w fun r w' => ∃ cs, r = .returned (.agg cs.toArray) ∧ (numRd (K + J)).R w' base (X * Y) cs ∧ Below w.heap.size w w' := by
  obtain ⟨nx, mx, ex, vx, rfl, hmx, hex, hbx, hXX⟩ := hx
  obtain ⟨ny, my, ey, vy, rfl, hmy, hey, hby, hYY⟩ := hy
  have hexl := fun h => exp_lt (m := mx) h (hXX ▸ hX)
  have heyl := fun h => exp_lt (m := my) h (hYY ▸ hY)
  have hmlx := man_lt (hXX ▸ hX)
  have hmly := man_lt (hYY ▸ hY)
  obtain ⟨xs, A, ca, hv, hxc, hxr, hxt, hxv⟩ := hmx
  obtain ⟨ys, B, cb, hv', hyc, hyr, hyt, hyv⟩ := hmy
  cases hv
  cases hv'
  have hlx := man_len hxt hxv hmlx
  have hly := man_len hyt hyv hmly
  have hzx := hxt.nil_iff (B := B32) (by decide)
  have hzy := hyt.nil_iff (B := B32) (by decide)
  rw [hxv] at hzx
  rw [hyv] at hzy
  clear hX hY hmlx hmly
  by_cases h0 : mx = 0
  · have hz : ((xs.length : Int) == 0) = true := by simp; exact List.length_eq_zero_iff.1 (hzx.2 h0)
    have HZ : Hid (X * Y = 0) := by simp only [Hid]; rw [hXX, h0, Nat.zero_mul, sg_zero, Int.zero_mul]
    clear hxv hyv hxt hyt hzx hzy hXX hYY hex hey hexl heyl h0
    go_enter Tryz.func16, Tryz.ntmps16
    go_wp2
    refine bodyPost_ret (v := .agg #[.bool false, .slice none 0 0, .int .i64 0]) (by simp [results, Tryz.results16, go_sem]) rfl ⟨[.bool false, .slice none 0 0, .int .i64 0], rfl, ⟨false, 0, 0, _, rfl, mRd_nil _ _ _ _, fun h => absurd rfl h, by omega, by rw [HZ.out, Nat.zero_mul, sg_zero]⟩, (by repeat (first | exact Below.refl _ _ | refine Below.setCell ?_ (by simp <;> omega) _ | (with_reducible apply below_new)))⟩
  by_cases h1 : my = 0
  · have hz0 : ((xs.length : Int) == 0) = false := by simp; exact fun h => h0 (hzx.1 (by rw [h]; rfl))
    have hz : ((ys.length : Int) == 0) = true := by simp; exact List.length_eq_zero_iff.1 (hzy.2 h1)
    have HZ : Hid (X * Y = 0) := by simp only [Hid]; rw [hYY, h1, Nat.zero_mul, sg_zero, Int.mul_zero]
    clear hxv hyv hxt hyt hzx hzy hXX hYY hex hey hexl heyl h0 h1
    go_enter Tryz.func16, Tryz.ntmps16
    go_wp2
    refine bodyPost_ret (v := .agg #[.bool false, .slice none 0 0, .int .i64 0]) (by simp [results, Tryz.results16, go_sem]) rfl ⟨[.bool false, .slice none 0 0, .int .i64 0], rfl, ⟨false, 0, 0, _, rfl, mRd_nil _ _ _ _, fun h => absurd rfl h, by omega, by rw [HZ.out, Nat.zero_mul, sg_zero]⟩, (by repeat (first | exact Below.refl _ _ | refine Below.setCell ?_ (by simp <;> omega) _ | (with_reducible apply below_new)))⟩
  · have hz0 : ((xs.length : Int) == 0) = false := by simp; exact fun h => h0 (hzx.1 (by rw [h]; rfl))
    have hz : ((ys.length : Int) == 0) = false := by simp; exact fun h => h1 (hzy.1 (by rw [h]; rfl))
    have hex := hex h0
    have hey := hey h1
    have hexl := hexl h0
    have heyl := heyl h1
    have hsum : IntKind.i64.wrap (ex + ey) = ex + ey := IntWalk.i64_in _ (by omega)
    have HZ : Hid (X * Y = sg (nx != ny) (val B32 xs * val B32 ys * 2 ^ (ex + ey + (K + J : Nat)).toNat)) := by
      simp only [Hid]; rw [hXX, hYY, sg_mul, hxv, hyv, show (ex + K).toNat + (ey + J).toNat = (ex + ey + (K + J : Nat)).toNat from by omega]
    have hne0 : ¬ w.heap.size = w.heap.size + 1 + 1 := by omega
    have hne1 : ¬ w.heap.size + 1 + 1 = w.heap.size := by omega
    have HE : Hid (0 ≤ ex + ey + (K + J : Nat) ∧ -1099511627776 ≤ ex + ey ∧ ex + ey ≤ 1099511627776) := by simp only [Hid]; omega
    have HR1 : Hid (∀ W, Below w.heap.size w W → u32.Row 46 W base A xs) := fun W h => hxr.below h
    have HR2 : Hid (∀ W, Below w.heap.size w W → u32.Row 46 W base B ys) := fun W h => hyr.below h
    clear hxv hyv hxt hyt hzx hzy hXX hYY hex hey hexl heyl h0 h1 hxr hyr
    go_enter Tryz.func16, Tryz.ntmps16
    go_wp2
    go_region_held3 (fun w' => w'.cell? ⟨w.heap.size, 0, none⟩ = some (.bool nx) ∧ w'.cell? ⟨w.heap.size, 1, none⟩ = some (.slice A xs.length ca) ∧ w'.cell? ⟨w.heap.size, 2, none⟩ = some (.int .i64 ex) ∧ w'.cell? ⟨w.heap.size + 1, 0, none⟩ = some (.bool ny) ∧ w'.cell? ⟨w.heap.size + 1, 1, none⟩ = some (.slice B ys.length cb) ∧ w'.cell? ⟨w.heap.size + 1, 2, none⟩ = some (.int .i64 ey)) (first | exact ⟨cell_kept hb2 (by go_simp), cell_kept hb2 (by go_simp), cell_kept hb2 (by go_simp), cell_kept hb2 (by go_simp), cell_kept hb2 (by go_simp), cell_kept hb2 (by go_simp)⟩ | ((try dsimp only); (repeat' apply And.intro) <;> go_keep)) (first | (go_at_call 34; refine (times_calls A B _ _ ca cb 46 46 base base base xs ys _ rfl rfl (HR1.out _ (by repeat (first | exact Below.refl _ _ | (with_reducible apply Below.drew) | (with_reducible apply below_new)))) (HR2.out _ (by repeat (first | exact Below.refl _ _ | (with_reducible apply Below.drew) | (with_reducible apply below_new)))) (by omega) (by omega)).mono ?_; rintro e w2 ⟨v, rfl, hm, hb2⟩; have HM := Lib.hid hm; obtain ⟨ts, C, cc, hvz, _⟩ := hm; cases hvz; obtain ⟨hc, hf⟩ := bcell hb2))
    have hT0 : NT ((w.alloc (.cells #[.bool nx, .slice A xs.length ca, .int .i64 ex] 25)).alloc (.cells #[.bool ny, .slice B ys.length cb, .int .i64 ey] 25) |>.alloc (.cells #[.bool false, .slice none 0 0, .int .i64 0] 25)) 46 (w.heap.size + 1 + 1) := by have := NT.new ((w.alloc (.cells #[.bool nx, .slice A xs.length ca, .int .i64 ex] 25)).alloc (.cells #[.bool ny, .slice B ys.length cb, .int .i64 ey] 25)) #[.bool false, .slice none 0 0, .int .i64 0] 25 46 (by decide); simpa using this
    have hT1 : NT w2 46 (w.heap.size + 1 + 1) := NT.below (NT.drew hT0) hb2
    have hW2 : Below w.heap.size w w2 := below_next (by repeat (first | exact Below.refl _ _ | (with_reducible apply Below.drew) | (with_reducible apply below_new))) hb2
    go_wp2
    refine bodyPost_ret (v := .agg #[.bool (nx != ny), .slice C ts.length cc, .int .i64 (ex + ey)]) (by simp [results, Tryz.results16, go_sem, hc] <;> (cases nx <;> cases ny <;> rfl)) rfl ⟨[.bool (nx != ny), .slice C ts.length cc, .int .i64 (ex + ey)], rfl, ?_, (by repeat (first | exact hW2 | refine Below.setCell ?_ (by simp <;> omega) _))⟩
    exact ⟨_, (val B32 xs * val B32 ys), _, _, rfl, (by repeat (first | exact HM.out | refine mRd_setNT ?_ (by repeat (first | exact hT1 | apply NT.set)) (by omega) _ _)), fun _ => HE.out.1, HE.out.2, HZ.out⟩
end Go.Proofs.YtikdhkmcdmnadaaGreatFmtBesafter


namespace Go.Proofs.YtikdhkmcdmnadaaGreatFmtBesafter
open Go.RowKit

/-! ### rounding: the last step -/
theorem bits_lsb {h : Nat} (hh : h < 18446744073709551616) : bits .and .u64 (h : Int) 1 = ((h % 2 : Nat) : Int) := by
  rw [show (1 : Int) = ((2 ^ 1 - 1 : Nat) : Int) from by decide, u64_and_nat _ _ hh (by decide), Nat.and_two_pow_sub_one_eq_mod]
theorem bits_pack {e : Int} {q : Nat} (h0 : 0 ≤ e) (h1 : e < 2048) (hq : q < 4503599627370496) : bits .or .u64 (e * 4503599627370496) (q : Int) = ((e.toNat * 4503599627370496 + q : Nat) : Int) := by
  obtain ⟨n, rfl⟩ := Int.eq_ofNat_of_zero_le h0
  have e1 : (n : Int) * 4503599627370496 = ((n * 4503599627370496 : Nat) : Int) := by omega
  rw [e1, u64_or_nat _ _ (by omega) (by omega)]
  have := or_add_low (z := q) (y := n * 4503599627370496) (r := 52) hq (by omega)
  rw [Nat.or_comm, this]; simp [Nat.add_comm]
theorem bits_top {p : Nat} (hp : p < 9223372036854775808) : bits .or .u64 (p : Int) 9223372036854775808 = ((p + 9223372036854775808 : Nat) : Int) := by
  rw [show (9223372036854775808 : Int) = ((9223372036854775808 : Nat) : Int) from rfl, u64_or_nat _ _ (by omega) (by omega), or_add_low (r := 63) hp (by omega)]
theorem bits_fmask {q : Nat} (h1 : 4503599627370496 ≤ q) (h2 : q < 9007199254740992) : bits .and .u64 (q : Int) 4503599627370495 = ((q - 4503599627370496 : Nat) : Int) := by
  have e : q % 4503599627370496 = q - 4503599627370496 := by omega
  rw [bits_fman (by omega), e]
/-- a number's bits: q parts of 2^e -/
def sgnB (neg : Bool) : Nat := if neg then 9223372036854775808 else 0
def packB (neg : Bool) (q : Nat) (e : Int) : Nat :=
  if 4503599627370496 ≤ q then (e + 1075).toNat * 4503599627370496 + (q - 4503599627370496) + sgnB neg else if 0 < q then q + sgnB neg else 0
def finD (neg : Bool) (q : Nat) (e : Int) : Option Nat := if 971 < e then (if neg then none else some 9218868437227405311) else some (packB neg q e)
def downEnd (neg : Bool) (q : Nat) (e : Int) : Option Nat := if q = 9007199254740992 then finD neg 4503599627370496 (e + 1) else finD neg q e
def optRet (o : Option Nat) : Ending := .returned (.tuple #[.int .u64 (o.getD 0 : Nat), .bool o.isSome])
theorem ret_opt {a : Int} {o : Option Nat} {x : Nat} (h : o = some x) (ha : a = x) : Ending.returned (.tuple #[.int .u64 a, .bool true]) = optRet o := by subst h ha; rfl
theorem ret_none {o : Option Nat} (h : o = none) : Ending.returned (.tuple #[.int .u64 0, .bool false]) = optRet o := by subst h; rfl
theorem finD_big {neg : Bool} {q : Nat} {e : Int} (he : 971 < e) : finD neg q e = if neg then none else some 9218868437227405311 := by unfold finD; rw [if_pos he]
theorem finD_norm {neg : Bool} {q : Nat} {e : Int} (he : ¬ 971 < e) (hq : 4503599627370496 ≤ q) : finD neg q e = some (((e + 1075).toNat * 4503599627370496 + (q - 4503599627370496)) + sgnB neg) := by
  unfold finD packB; rw [if_neg he, if_pos hq]
theorem finD_sub {neg : Bool} {q : Nat} {e : Int} (he : ¬ 971 < e) (hq : q < 4503599627370496) (h0 : 0 < q) : finD neg q e = some (q + sgnB neg) := by
  unfold finD packB; rw [if_neg he, if_neg (by omega), if_pos h0]
theorem finD_zero {neg : Bool} {e : Int} (he : ¬ 971 < e) : finD neg 0 e = some 0 := by
  unfold finD packB; rw [if_neg he, if_neg (by omega), if_neg (by omega)]
theorem bits_top' {p : Int} {q : Nat} (hp : q < 9223372036854775808) (h : p = q) : bits .or .u64 p 9223372036854775808 = ((q + sgnB true : Nat) : Int) := by
  subst h; exact bits_top hp

/-- how many at the end, rounded down -/
def moreD (neg rest : Bool) (h : Nat) : Nat := if neg && (decide (h % 2 = 1) || rest) then 1 else 0
end Go.Proofs.YtikdhkmcdmnadaaGreatFmtBesafter

namespace Go.Proofs.YtikdhkmcdmnadaaGreatFmtBesafter
open Go.RowKit

/-! rounding down, of X parts of 2^-K -/
def shD (K n : Nat) : Nat := max (bl n - 53) (K - 1074)
def rdown (K : Nat) (X : Int) : Option Nat :=
  if X = 0 then some 0
  else downEnd (decide (X < 0)) (X.natAbs / 2 ^ shD K X.natAbs + (if decide (X < 0) && decide (X.natAbs % 2 ^ shD K X.natAbs ≠ 0) then 1 else 0)) ((shD K X.natAbs : Int) - K)
theorem rdown_spec {K m k0 : Nat} {neg : Bool} (hm : m ≠ 0) (hK : 1074 < K) {h : Nat} {rest : Bool} {k : Nat} (hk : k = shD K (m * 2 ^ k0)) (hh : h = m * 2 ^ k0 / 2 ^ (k - 1)) (hr : rest = restB (m * 2 ^ k0 % 2 ^ (k - 1))) :
    rdown K (sg neg (m * 2 ^ k0)) = downEnd neg (h / 2 + moreD neg rest h) ((k : Int) - K) ∧ h < 18014398509481984 := by
  have hn : 0 < m * 2 ^ k0 := Nat.mul_pos (by omega) (Nat.pow_pos (by decide))
  generalize m * 2 ^ k0 = n at *
  have h0 : sg neg n ≠ 0 := by cases neg <;> simp [sg] <;> omega
  have h1 : decide (sg neg n < 0) = neg := by cases neg <;> simp [sg] <;> omega
  have h2 : (sg neg n).natAbs = n := sg_abs _ _
  have hk1 : 1 ≤ k := by rw [hk]; unfold shD; omega
  have e2 : 2 ^ k = 2 ^ (k - 1) * 2 := by rw [← Nat.pow_succ]; congr 1; omega
  have e3 : n / 2 ^ k = h / 2 := by rw [e2, ← Nat.div_div_eq_div_mul, hh]
  have e4 : n % 2 ^ k = n % 2 ^ (k - 1) + 2 ^ (k - 1) * (h % 2) := by rw [e2, Nat.mod_mul, hh]
  have hp : 0 < 2 ^ (k - 1) := Nat.pow_pos (by decide)
  refine ⟨?_, ?_⟩
  · unfold rdown
    rw [if_neg h0, h1, h2, ← hk, e3]
    congr 1
    congr 1
    unfold moreD restB at *
    rw [hr]
    have : decide (n % 2 ^ k ≠ 0) = (decide (h % 2 = 1) || decide (n % 2 ^ (k - 1) ≠ 0)) := by
      rw [Bool.eq_iff_iff]
      simp only [decide_eq_true_eq, Bool.or_eq_true]
      rw [e4]
      rcases Nat.mod_two_eq_zero_or_one h with hq | hq
      · rw [hq]; simp
      · rw [hq]; simp
    rw [this]
  · have hb : bl n ≤ k + 53 := by rw [hk]; unfold shD; omega
    have hl := bl_lt n
    have : 2 ^ bl n ≤ 2 ^ (k - 1) * 18014398509481984 := by
      rw [show (18014398509481984 : Nat) = 2 ^ 54 from by decide, ← Nat.pow_add]
      exact Nat.pow_le_pow_right (by decide) (by omega)
    rw [hh, Nat.div_lt_iff_lt_mul hp, Nat.mul_comm]
    omega

set_option maxHeartbeats 400000 in
theorem size_exact (neg : Bool) (e : Int) (A : Option Addr) (n c : Nat) (w : World) :
    Calls Tryz.prog 11 #[.agg #[.bool neg, .slice A n c, .int .i64 e]] w fun r w' => r = .returned (.agg #[.bool false, .slice A n c, .int .i64 e]) ∧ Below w.heap.size w w' := by
  go_enter Tryz.func11, Tryz.ntmps11
  go_wp2
  exact bodyPost_ret (v := .agg #[.bool false, .slice A n c, .int .i64 e]) (by simp [results, Tryz.results11, go_sem]) rfl ⟨rfl, below_new (below_new (Below.refl _ _) _) _⟩
end Go.Proofs.YtikdhkmcdmnadaaGreatFmtBesafter
