/- Walks and plain laws of this seat's functions, part 6: R2g R2h. -/
import Derived.Test.YtikdhkmcdmnadaaGreatFmtJ05
set_option linter.unusedVariables false
set_option linter.unusedSimpArgs false
namespace Go.Proofs.YtikdhkmcdmnadaaGreatFmt
open Go.RowKit

theorem numRd_setNT {K : Nat} {w : World} {base b : Nat} {X : Int} {cs : List Value} (h : (numRd K).R w base X cs) (hn : NT w 58 b) (hb : base ≤ b) (i : Nat) (u : Value) : (numRd K).R (w.setCell ⟨b, i, none⟩ u) base X cs :=
  (numRd K).keep h (Keeps.set_nt hn hb i u)
set_option maxHeartbeats 2000000 in
theorem minus_num (K base L : Nat) (X Y : Int) (cx cy : List Value) (w : World) (hbase : base ≤ w.heap.size) (hx : (numRd K).R w base X cx) (hy : (numRd K).R w base Y cy)
    (hX : X.natAbs < 2 ^ L) (hY : Y.natAbs < 2 ^ L) (hL : L ≤ 1073741824) (hK : K ≤ 1073741824) :
    Calls Tryz.prog 34 #[.agg cx.toArray, .agg cy.toArray] w fun r w' => ∃ cs, r = .returned (.agg cs.toArray) ∧ (numRd K).R w' base (X - Y) cs ∧ Below w.heap.size w w' := by
  have h1 := fun W (h : Below w.heap.size w W) => turned_calls K base Y cy W ((numRd K).below hy h)
  have h2 := fun W (h : Below w.heap.size w W) cz (hz : (numRd K).R W base (-Y) cz) => plus_num K base L X (-Y) cx cz W (Nat.le_trans hbase h.size) ((numRd K).below hx h) hz hX (by rw [Int.natAbs_neg]; exact hY) hL hK
  obtain ⟨nx, mx, ex, vx, rfl, hmx, hex, hbx, hXX⟩ := hx
  obtain ⟨ny, my, ey, vy, rfl, hmy, hey, hby, hYY⟩ := hy
  obtain ⟨xs, A, ca, hv, _⟩ := hmx
  obtain ⟨ys, B, cb, hv', _⟩ := hmy
  cases hv
  cases hv'
  have H1 := Lib.hid h1
  have H2 := Lib.hid h2
  clear h1 h2 hex hey hXX hYY hX hY
  have hne0 : ¬ w.heap.size = w.heap.size + 1 + 1 := by omega
  have hne1 : ¬ w.heap.size + 1 + 1 = w.heap.size := by omega
  go_enter Tryz.func34, Tryz.ntmps34
  go_wp2
  go_region_held3 (fun w' => w'.cell? ⟨w.heap.size, 0, none⟩ = some (.bool nx) ∧ w'.cell? ⟨w.heap.size, 1, none⟩ = some (.slice A xs.length ca) ∧ w'.cell? ⟨w.heap.size, 2, none⟩ = some (.int .i64 ex) ∧ w'.cell? ⟨w.heap.size + 1, 0, none⟩ = some (.bool ny) ∧ w'.cell? ⟨w.heap.size + 1, 1, none⟩ = some (.slice B ys.length cb) ∧ w'.cell? ⟨w.heap.size + 1, 2, none⟩ = some (.int .i64 ey)) (first | exact ⟨cell_kept hb2 (by go_simp), cell_kept hb2 (by go_simp), cell_kept hb2 (by go_simp), cell_kept hb2 (by go_simp), cell_kept hb2 (by go_simp), cell_kept hb2 (by go_simp)⟩ | exact ⟨cell_kept hb1 (by go_simp), cell_kept hb1 (by go_simp), cell_kept hb1 (by go_simp), cell_kept hb1 (by go_simp), cell_kept hb1 (by go_simp), cell_kept hb1 (by go_simp)⟩ | ((try dsimp only); (repeat' apply And.intro) <;> go_keep)) (first | (go_at_call 53; refine (H1.out _ (by repeat (first | exact Below.refl _ _ | (with_reducible apply Below.drew) | (with_reducible apply below_new)))).mono ?_; rintro e w1 ⟨cz, rfl, hz, hb1⟩) | (go_at_call 52; refine (H2.out _ (below_next (by repeat (first | exact Below.refl _ _ | (with_reducible apply Below.drew) | (with_reducible apply below_new))) hb1) cz hz).mono ?_; rintro e w2 ⟨cs, rfl, hcs, hb2⟩; have HC := Lib.hid hcs; obtain ⟨nz, mz, ez, vz, rfl, ⟨ts, C, cc, hvz, _⟩, _⟩ := hcs; cases hvz; obtain ⟨hc, hf⟩ := bcell hb2; obtain ⟨hc1, hf1⟩ := bcell hb1; have hn2 : w.heap.size + 1 + 1 < w1.heap.size := (by have := hb1.size; simp at this; omega)))
  have hT0 : NT ((w.alloc (.cells #[.bool nx, .slice A xs.length ca, .int .i64 ex] 38)).alloc (.cells #[.bool ny, .slice B ys.length cb, .int .i64 ey] 38) |>.alloc (.cells #[.bool false, .slice none 0 0, .int .i64 0] 38)) 58 (w.heap.size + 1 + 1) := by have := NT.new ((w.alloc (.cells #[.bool nx, .slice A xs.length ca, .int .i64 ex] 38)).alloc (.cells #[.bool ny, .slice B ys.length cb, .int .i64 ey] 38)) #[.bool false, .slice none 0 0, .int .i64 0] 38 58 (by decide); simpa using this
  have hT1 : NT w1 58 (w.heap.size + 1 + 1) := NT.below (NT.drew hT0) hb1
  have hT2 := hT1.below hb2
  have hW2 : Below w.heap.size w w2 := below_next (below_next (by repeat (first | exact Below.refl _ _ | (with_reducible apply Below.drew) | (with_reducible apply below_new))) hb1) hb2
  go_wp2
  refine bodyPost_ret (v := .agg #[.bool nz, .slice C ts.length cc, .int .i64 ez]) (by simp [results, Tryz.results34, go_sem, hc, hc1, hn2]) rfl ⟨[.bool nz, .slice C ts.length cc, .int .i64 ez], rfl, ?_, (by repeat (first | exact hW2 | refine Below.setCell ?_ (by simp <;> omega) _))⟩
  have HC2 := HC.out
  rw [← Int.sub_eq_add_neg] at HC2
  (repeat (first | exact HC2 | refine numRd_setNT ?_ (by repeat (first | exact hT2 | apply NT.set)) (by omega) _ _))

set_option maxHeartbeats 400000 in
theorem cmp_num (K base L : Nat) (X Y : Int) (cx cy : List Value) (w : World) (hbase : base ≤ w.heap.size) (hx : (numRd K).R w base X cx) (hy : (numRd K).R w base Y cy)
    (hX : X.natAbs < 2 ^ L) (hY : Y.natAbs < 2 ^ L) (hL : L ≤ 1073741824) (hK : K ≤ 1073741824) :
    Calls Tryz.prog 23 #[.agg cx.toArray, .agg cy.toArray] w fun r w' => r = .returned (.int .i64 (Int.sign (X - Y))) ∧ Below w.heap.size w w' := by
  have h1 := fun W (h : Below w.heap.size w W) => minus_num K base L X Y cx cy W (Nat.le_trans hbase h.size) ((numRd K).below hx h) ((numRd K).below hy h) hX hY hL hK
  obtain ⟨nx, mx, ex, vx, rfl, hmx, hex, hbx, hXX⟩ := hx
  obtain ⟨ny, my, ey, vy, rfl, hmy, hey, hby, hYY⟩ := hy
  obtain ⟨xs, A, ca, hv, _⟩ := hmx
  obtain ⟨ys, B, cb, hv', _⟩ := hmy
  cases hv
  cases hv'
  have H1 := Lib.hid h1
  clear h1 hex hey hXX hYY hX hY
  go_enter Tryz.func23, Tryz.ntmps23
  go_wp2_with fail
  refine (H1.out _ (by repeat (first | exact Below.refl _ _ | (with_reducible apply below_new)))).mono ?_
  rintro e w1 ⟨cz, rfl, hz, hb1⟩
  have hs := sign_calls K base (X - Y) cz w1 hz
  have HS := Lib.hid hs
  clear hs hz
  have HB := Lib.hid hb1
  clear hb1
  go_wp2_with fail
  refine HS.out.mono ?_
  rintro e w2 ⟨rfl, hb2⟩
  go_wp2
  go_ret
  exact ⟨rfl, below_next (below_next (by repeat (first | exact Below.refl _ _ | (with_reducible apply below_new))) HB.out) hb2⟩

theorem sg_mul (nx ny : Bool) (a b j k : Nat) : sg nx (a * 2 ^ j) * sg ny (b * 2 ^ k) = sg (nx != ny) (a * b * 2 ^ (j + k)) := by
  have e : a * b * 2 ^ (j + k) = a * 2 ^ j * (b * 2 ^ k) := by rw [Nat.pow_add]; simp only [Nat.mul_assoc, Nat.mul_left_comm, Nat.mul_comm]
  rw [e]
  generalize a * 2 ^ j = p
  generalize b * 2 ^ k = q
  cases nx <;> cases ny <;> simp [sg, Int.neg_mul, Int.mul_neg]
end Go.Proofs.YtikdhkmcdmnadaaGreatFmt


namespace Go.Proofs.YtikdhkmcdmnadaaGreatFmt
open Go.RowKit

/-! ### rounding: the last step -/
theorem bits_lsb {h : Nat} (hh : h < 18446744073709551616) : bits .and .u64 (h : Int) 1 = ((h % 2 : Nat) : Int) := by
  rw [show (1 : Int) = ((2 ^ 1 - 1 : Nat) : Int) from by decide, u64_and_nat _ _ hh (by decide), Nat.and_two_pow_sub_one_eq_mod]
theorem bits_pack {e : Int} {q : Nat} (h0 : 0 ≤ e) (h1 : e < 2048) (hq : q < 4503599627370496) : bits .or .u64 (e * 4503599627370496) (q : Int) = ((e.toNat * 4503599627370496 + q : Nat) : Int) := by
  obtain ⟨n, rfl⟩ := Int.eq_ofNat_of_zero_le h0
  have e1 : (n : Int) * 4503599627370496 = ((n * 4503599627370496 : Nat) : Int) := by omega
  rw [e1, u64_or_nat _ _ (by omega) (by omega)]
  have := or_add_low (z := q) (y := n * 4503599627370496) (r := 52) hq (by omega)
  rw [Nat.or_comm, this]; simp [Nat.add_comm]
theorem bits_top {p : Nat} (hp : p < 9223372036854775808) : bits .or .u64 (p : Int) 9223372036854775808 = ((p + 9223372036854775808 : Nat) : Int) := by
  rw [show (9223372036854775808 : Int) = ((9223372036854775808 : Nat) : Int) from rfl, u64_or_nat _ _ (by omega) (by omega), or_add_low (r := 63) hp (by omega)]
theorem bits_fmask {q : Nat} (h1 : 4503599627370496 ≤ q) (h2 : q < 9007199254740992) : bits .and .u64 (q : Int) 4503599627370495 = ((q - 4503599627370496 : Nat) : Int) := by
  have e : q % 4503599627370496 = q - 4503599627370496 := by omega
  rw [bits_fman (by omega), e]
/-- a number's bits: q parts of 2^e -/
def sgnB (neg : Bool) : Nat := if neg then 9223372036854775808 else 0
def packB (neg : Bool) (q : Nat) (e : Int) : Nat :=
  if 4503599627370496 ≤ q then (e + 1075).toNat * 4503599627370496 + (q - 4503599627370496) + sgnB neg else if 0 < q then q + sgnB neg else 0
def finD (neg : Bool) (q : Nat) (e : Int) : Option Nat := if 971 < e then (if neg then none else some 9218868437227405311) else some (packB neg q e)
def downEnd (neg : Bool) (q : Nat) (e : Int) : Option Nat := if q = 9007199254740992 then finD neg 4503599627370496 (e + 1) else finD neg q e
def optRet (o : Option Nat) : Ending := .returned (.tuple #[.int .u64 (o.getD 0 : Nat), .bool o.isSome])
theorem ret_opt {a : Int} {o : Option Nat} {x : Nat} (h : o = some x) (ha : a = x) : Ending.returned (.tuple #[.int .u64 a, .bool true]) = optRet o := by subst h ha; rfl
theorem ret_none {o : Option Nat} (h : o = none) : Ending.returned (.tuple #[.int .u64 0, .bool false]) = optRet o := by subst h; rfl
theorem finD_big {neg : Bool} {q : Nat} {e : Int} (he : 971 < e) : finD neg q e = if neg then none else some 9218868437227405311 := by unfold finD; rw [if_pos he]
theorem finD_norm {neg : Bool} {q : Nat} {e : Int} (he : ¬ 971 < e) (hq : 4503599627370496 ≤ q) : finD neg q e = some (((e + 1075).toNat * 4503599627370496 + (q - 4503599627370496)) + sgnB neg) := by
  unfold finD packB; rw [if_neg he, if_pos hq]
theorem finD_sub {neg : Bool} {q : Nat} {e : Int} (he : ¬ 971 < e) (hq : q < 4503599627370496) (h0 : 0 < q) : finD neg q e = some (q + sgnB neg) := by
  unfold finD packB; rw [if_neg he, if_neg (by omega), if_pos h0]
theorem finD_zero {neg : Bool} {e : Int} (he : ¬ 971 < e) : finD neg 0 e = some 0 := by
  unfold finD packB; rw [if_neg he, if_neg (by omega), if_neg (by omega)]
theorem bits_top' {p : Int} {q : Nat} (hp : q < 9223372036854775808) (h : p = q) : bits .or .u64 p 9223372036854775808 = ((q + sgnB true : Nat) : Int) := by
  subst h; exact bits_top hp

set_option maxHeartbeats 4000000 in
set_option maxRecDepth 100000 in
theorem told_p (rest : Bool) (h q : Nat) (e : Int) (w : World) (hh : h < 18014398509481984) (hq : h / 2 = q) (he : -1074 ≤ e) (he2 : e ≤ 1099511627776) :
    Calls Tryz.prog 38 #[.int .i64 2, .bool false, .int .u64 h, .bool rest, .int .i64 e] w fun r w' => r = optRet (downEnd false (q) e) ∧ w = w' := by
  have h2 : (h : Int) / 2 = (q : Int) := by omega
  have hqb : q < 9007199254740992 := by omega
  have HQ := Lib.hid hq
  clear hq
  by_cases hA : q = 9007199254740992
  · omega
  · have hF : downEnd false (q) e = finD false (q) e := by unfold downEnd; rw [if_neg hA]
    have hA' : ((q : Int) == 9007199254740992) = false := by simp; omega
    have hq1 : q < 9007199254740992 := by omega
    by_cases hE : 971 < e
    · have HR : Hid (downEnd false (q) e = some 9218868437227405311) := by rw [Hid, hF, finD_big hE]; rfl
      clear hA hF
      go_enter Tryz.func38, Tryz.ntmps38
      go_wp2
      all_goals
        go_ret2
        exact ⟨ret_opt HR.out rfl, rfl⟩
    · by_cases hN : 4503599627370496 ≤ q
      · obtain ⟨P, hP⟩ : ∃ P, P = (e + 1075).toNat * 4503599627370496 + (q - 4503599627370496) := ⟨_, rfl⟩
        have HR : Hid (downEnd false (q) e = some (P + sgnB false)) := by rw [Hid, hF, finD_norm hE hN, hP]
        have hm := bits_fmask hN hq1
        have ho := bits_pack (e := e + 1075) (q := q - 4503599627370496) (by omega) (by omega) (by omega)
        try simp only [Int.natCast_add, Int.cast_ofNat_Int] at hm
        rw [← hm, ← hP] at ho
        have hP0 : 0 < P := by omega
        have hPb : P < 9223372036854775808 := by omega
        clear hP hm hA hF
        go_enter Tryz.func38, Tryz.ntmps38
        go_wp2
        go_ret2
        exact ⟨ret_opt HR.out rfl, rfl⟩
      · have HR : Hid (downEnd false q e = some q) := by
          rw [Hid, hF]
          rcases Nat.eq_zero_or_pos q with h | h
          · subst h; exact finD_zero hE
          · rw [finD_sub hE (by omega) h]; rfl
        clear hA hF
        go_enter Tryz.func38, Tryz.ntmps38
        go_wp2
        all_goals
          go_ret2
          exact ⟨ret_opt HR.out rfl, rfl⟩

set_option maxHeartbeats 4000000 in
set_option maxRecDepth 100000 in
theorem told_h (rest : Bool) (h q : Nat) (e : Int) (w : World) (hh : h < 18014398509481984) (hq : h / 2 = q) (he : -1074 ≤ e) (he2 : e ≤ 1099511627776) (hb : h % 2 = 1) :
    Calls Tryz.prog 38 #[.int .i64 2, .bool true, .int .u64 h, .bool rest, .int .i64 e] w fun r w' => r = optRet (downEnd true (q + 1) e) ∧ w = w' := by
  have h1 := bits_lsb (h := h) (by omega)
  rw [hb] at h1
  have h2 : (h : Int) / 2 = (q : Int) := by omega
  have hqb : q < 9007199254740992 := by omega
  have HQ := Lib.hid hq
  clear hb hq
  by_cases hA : q + 1 = 9007199254740992
  · have hF : downEnd true (q + 1) e = finD true 4503599627370496 (e + 1) := by unfold downEnd; rw [if_pos hA]
    by_cases hE : 971 < e + 1
    · have HR : Hid (downEnd true (q + 1) e = none) := by rw [Hid, hF, finD_big hE]; rfl
      obtain rfl : q = 9007199254740991 := by omega
      clear hA hF
      go_enter Tryz.func38, Tryz.ntmps38
      go_wp2
      go_ret2
      exact ⟨ret_none HR.out, rfl⟩
    · obtain ⟨P, hP⟩ : ∃ P, P = (e + 1 + 1075).toNat * 4503599627370496 := ⟨_, rfl⟩
      have HR : Hid (downEnd true (q + 1) e = some (P + sgnB true)) := by rw [Hid, hF, finD_norm hE (by omega), hP, Nat.sub_self, Nat.add_zero]
      have ho := bits_pack (e := e + 1 + 1075) (q := 0) (by omega) (by omega) (by decide)
      simp only [Int.natCast_zero, Nat.add_zero] at ho
      rw [← hP] at ho
      have hP0 : 0 < P := by omega
      have hPb : P < 9223372036854775808 := by omega
      have hk : bits BinOp.and IntKind.u64 4503599627370496 4503599627370495 = 0 := by decide
      obtain rfl : q = 9007199254740991 := by omega
      clear hP hA hF
      go_enter Tryz.func38, Tryz.ntmps38
      go_wp2
      go_ret2
      exact ⟨ret_opt HR.out (bits_top' hPb rfl), rfl⟩
  · have hF : downEnd true (q + 1) e = finD true (q + 1) e := by unfold downEnd; rw [if_neg hA]
    have hA' : ((q : Int) + 1 == 9007199254740992) = false := by simp; omega
    have hq1 : q + 1 < 9007199254740992 := by omega
    by_cases hE : 971 < e
    · have HR : Hid (downEnd true (q + 1) e = none) := by rw [Hid, hF, finD_big hE]; rfl
      clear hA hF
      go_enter Tryz.func38, Tryz.ntmps38
      go_wp2
      all_goals
        go_ret2
        exact ⟨ret_none HR.out, rfl⟩
    · by_cases hN : 4503599627370496 ≤ q + 1
      · obtain ⟨P, hP⟩ : ∃ P, P = (e + 1075).toNat * 4503599627370496 + (q + 1 - 4503599627370496) := ⟨_, rfl⟩
        have HR : Hid (downEnd true (q + 1) e = some (P + sgnB true)) := by rw [Hid, hF, finD_norm hE hN, hP]
        have hm := bits_fmask hN hq1
        have ho := bits_pack (e := e + 1075) (q := q + 1 - 4503599627370496) (by omega) (by omega) (by omega)
        try simp only [Int.natCast_add, Int.cast_ofNat_Int] at hm
        rw [← hm, ← hP] at ho
        have hP0 : 0 < P := by omega
        have hPb : P < 9223372036854775808 := by omega
        clear hP hm hA hF
        go_enter Tryz.func38, Tryz.ntmps38
        go_wp2
        go_ret2
        exact ⟨ret_opt HR.out (bits_top' hPb rfl), rfl⟩
      · by_cases h0 : q + 1 = 0
        · have HR : Hid (downEnd true (q + 1) e = some 0) := by rw [Hid, hF, h0, finD_zero hE]
          omega
        · have HR : Hid (downEnd true (q + 1) e = some ((q + 1) + sgnB true)) := by rw [Hid, hF, finD_sub hE (by omega) (by omega)]
          obtain ⟨P, hP⟩ : ∃ P, P = q + 1 := ⟨_, rfl⟩
          have hPi : (q : Int) + 1 = (P : Int) := by omega
          have HP := Lib.hid hP
          rw [← hP] at hq1 hN
          have hP0 : 0 < P := by omega
          have hPb : P < 4503599627370496 := by omega
          have hPn : ¬ 4503599627370496 ≤ (P : Int) := by omega
          clear hP hA hF h0 hN
          go_enter Tryz.func38, Tryz.ntmps38
          go_wp2
          go_ret2
          exact ⟨ret_opt HR.out (bits_top' (by have := HP.out; omega) (by have := HP.out; omega)), rfl⟩

set_option maxHeartbeats 4000000 in
set_option maxRecDepth 100000 in
theorem told_r (rest : Bool) (h q : Nat) (e : Int) (w : World) (hh : h < 18014398509481984) (hq : h / 2 = q) (he : -1074 ≤ e) (he2 : e ≤ 1099511627776) (hb : h % 2 = 0) (hr : rest = true) :
    Calls Tryz.prog 38 #[.int .i64 2, .bool true, .int .u64 h, .bool rest, .int .i64 e] w fun r w' => r = optRet (downEnd true (q + 1) e) ∧ w = w' := by
  subst hr
  have h1 := bits_lsb (h := h) (by omega)
  rw [hb] at h1
  have h2 : (h : Int) / 2 = (q : Int) := by omega
  have hqb : q < 9007199254740992 := by omega
  have HQ := Lib.hid hq
  clear hb hq
  by_cases hA : q + 1 = 9007199254740992
  · have hF : downEnd true (q + 1) e = finD true 4503599627370496 (e + 1) := by unfold downEnd; rw [if_pos hA]
    by_cases hE : 971 < e + 1
    · have HR : Hid (downEnd true (q + 1) e = none) := by rw [Hid, hF, finD_big hE]; rfl
      obtain rfl : q = 9007199254740991 := by omega
      clear hA hF
      go_enter Tryz.func38, Tryz.ntmps38
      go_wp2
      go_ret2
      exact ⟨ret_none HR.out, rfl⟩
    · obtain ⟨P, hP⟩ : ∃ P, P = (e + 1 + 1075).toNat * 4503599627370496 := ⟨_, rfl⟩
      have HR : Hid (downEnd true (q + 1) e = some (P + sgnB true)) := by rw [Hid, hF, finD_norm hE (by omega), hP, Nat.sub_self, Nat.add_zero]
      have ho := bits_pack (e := e + 1 + 1075) (q := 0) (by omega) (by omega) (by decide)
      simp only [Int.natCast_zero, Nat.add_zero] at ho
      rw [← hP] at ho
      have hP0 : 0 < P := by omega
      have hPb : P < 9223372036854775808 := by omega
      have hk : bits BinOp.and IntKind.u64 4503599627370496 4503599627370495 = 0 := by decide
      obtain rfl : q = 9007199254740991 := by omega
      clear hP hA hF
      go_enter Tryz.func38, Tryz.ntmps38
      go_wp2
      go_ret2
      exact ⟨ret_opt HR.out (bits_top' hPb rfl), rfl⟩
  · have hF : downEnd true (q + 1) e = finD true (q + 1) e := by unfold downEnd; rw [if_neg hA]
    have hA' : ((q : Int) + 1 == 9007199254740992) = false := by simp; omega
    have hq1 : q + 1 < 9007199254740992 := by omega
    by_cases hE : 971 < e
    · have HR : Hid (downEnd true (q + 1) e = none) := by rw [Hid, hF, finD_big hE]; rfl
      clear hA hF
      go_enter Tryz.func38, Tryz.ntmps38
      go_wp2
      all_goals
        go_ret2
        exact ⟨ret_none HR.out, rfl⟩
    · by_cases hN : 4503599627370496 ≤ q + 1
      · obtain ⟨P, hP⟩ : ∃ P, P = (e + 1075).toNat * 4503599627370496 + (q + 1 - 4503599627370496) := ⟨_, rfl⟩
        have HR : Hid (downEnd true (q + 1) e = some (P + sgnB true)) := by rw [Hid, hF, finD_norm hE hN, hP]
        have hm := bits_fmask hN hq1
        have ho := bits_pack (e := e + 1075) (q := q + 1 - 4503599627370496) (by omega) (by omega) (by omega)
        try simp only [Int.natCast_add, Int.cast_ofNat_Int] at hm
        rw [← hm, ← hP] at ho
        have hP0 : 0 < P := by omega
        have hPb : P < 9223372036854775808 := by omega
        clear hP hm hA hF
        go_enter Tryz.func38, Tryz.ntmps38
        go_wp2
        go_ret2
        exact ⟨ret_opt HR.out (bits_top' hPb rfl), rfl⟩
      · by_cases h0 : q + 1 = 0
        · have HR : Hid (downEnd true (q + 1) e = some 0) := by rw [Hid, hF, h0, finD_zero hE]
          omega
        · have HR : Hid (downEnd true (q + 1) e = some ((q + 1) + sgnB true)) := by rw [Hid, hF, finD_sub hE (by omega) (by omega)]
          obtain ⟨P, hP⟩ : ∃ P, P = q + 1 := ⟨_, rfl⟩
          have hPi : (q : Int) + 1 = (P : Int) := by omega
          have HP := Lib.hid hP
          rw [← hP] at hq1 hN
          have hP0 : 0 < P := by omega
          have hPb : P < 4503599627370496 := by omega
          have hPn : ¬ 4503599627370496 ≤ (P : Int) := by omega
          clear hP hA hF h0 hN
          go_enter Tryz.func38, Tryz.ntmps38
          go_wp2
          go_ret2
          exact ⟨ret_opt HR.out (bits_top' (by have := HP.out; omega) (by have := HP.out; omega)), rfl⟩

set_option maxHeartbeats 4000000 in
set_option maxRecDepth 100000 in
theorem told_n (rest : Bool) (h q : Nat) (e : Int) (w : World) (hh : h < 18014398509481984) (hq : h / 2 = q) (he : -1074 ≤ e) (he2 : e ≤ 1099511627776) (hb : h % 2 = 0) (hr : rest = false) :
    Calls Tryz.prog 38 #[.int .i64 2, .bool true, .int .u64 h, .bool rest, .int .i64 e] w fun r w' => r = optRet (downEnd true (q) e) ∧ w = w' := by
  subst hr
  have h1 := bits_lsb (h := h) (by omega)
  rw [hb] at h1
  have h2 : (h : Int) / 2 = (q : Int) := by omega
  have hqb : q < 9007199254740992 := by omega
  have HQ := Lib.hid hq
  clear hb hq
  by_cases hA : q = 9007199254740992
  · omega
  · have hF : downEnd true (q) e = finD true (q) e := by unfold downEnd; rw [if_neg hA]
    have hA' : ((q : Int) == 9007199254740992) = false := by simp; omega
    have hq1 : q < 9007199254740992 := by omega
    by_cases hE : 971 < e
    · have HR : Hid (downEnd true (q) e = none) := by rw [Hid, hF, finD_big hE]; rfl
      clear hA hF
      go_enter Tryz.func38, Tryz.ntmps38
      go_wp2
      all_goals
        go_ret2
        exact ⟨ret_none HR.out, rfl⟩
    · by_cases hN : 4503599627370496 ≤ q
      · obtain ⟨P, hP⟩ : ∃ P, P = (e + 1075).toNat * 4503599627370496 + (q - 4503599627370496) := ⟨_, rfl⟩
        have HR : Hid (downEnd true (q) e = some (P + sgnB true)) := by rw [Hid, hF, finD_norm hE hN, hP]
        have hm := bits_fmask hN hq1
        have ho := bits_pack (e := e + 1075) (q := q - 4503599627370496) (by omega) (by omega) (by omega)
        try simp only [Int.natCast_add, Int.cast_ofNat_Int] at hm
        rw [← hm, ← hP] at ho
        have hP0 : 0 < P := by omega
        have hPb : P < 9223372036854775808 := by omega
        clear hP hm hA hF
        go_enter Tryz.func38, Tryz.ntmps38
        go_wp2
        go_ret2
        exact ⟨ret_opt HR.out (bits_top' hPb rfl), rfl⟩
      · by_cases h0 : q = 0
        · have HR : Hid (downEnd true (q) e = some 0) := by rw [Hid, hF, h0, finD_zero hE]
          have hq0 := h0
          subst hq0
          clear hA hF hN
          go_enter Tryz.func38, Tryz.ntmps38
          go_wp2
          go_ret2
          exact ⟨ret_opt HR.out rfl, rfl⟩
        · have HR : Hid (downEnd true (q) e = some ((q) + sgnB true)) := by rw [Hid, hF, finD_sub hE (by omega) (by omega)]
          obtain ⟨P, hP⟩ : ∃ P, P = q := ⟨_, rfl⟩
          have hPi : (q : Int) = (P : Int) := by omega
          rw [← hP] at HR hq1 hN
          have hP0 : 0 < P := by omega
          have hPb : P < 4503599627370496 := by omega
          have hPn : ¬ 4503599627370496 ≤ (P : Int) := by omega
          subst hP
          clear hPi
          clear hA hF h0 hN
          go_enter Tryz.func38, Tryz.ntmps38
          go_wp2
          go_ret2
          exact ⟨ret_opt HR.out (bits_top' (by omega) rfl), rfl⟩

/-- how many at the end, rounded down -/
def moreD (neg rest : Bool) (h : Nat) : Nat := if neg && (decide (h % 2 = 1) || rest) then 1 else 0
theorem told_calls (neg rest : Bool) (h : Nat) (e : Int) (w : World) (hh : h < 18014398509481984) (he : -1074 ≤ e) (he2 : e ≤ 1099511627776) :
    Calls Tryz.prog 38 #[.int .i64 2, .bool neg, .int .u64 h, .bool rest, .int .i64 e] w fun r w' => r = optRet (downEnd neg (h / 2 + moreD neg rest h) e) ∧ w = w' := by
  cases neg
  · exact told_p rest h _ e w hh rfl he he2
  · rcases Nat.mod_two_eq_zero_or_one h with hb | hb
    · cases rest
      · have : moreD true false h = 0 := by simp [moreD, hb]
        rw [this]; exact told_n _ h _ e w hh rfl he he2 hb rfl
      · have : moreD true true h = 1 := by simp [moreD]
        rw [this]; exact told_r _ h _ e w hh rfl he he2 hb rfl
    · have : moreD true rest h = 1 := by simp [moreD, hb]
      rw [this]; exact told_h rest h _ e w hh rfl he he2 hb
end Go.Proofs.YtikdhkmcdmnadaaGreatFmt
