/- Walks and plain laws of this seat's functions, part 11: N23 N24 N25. -/
import Derived.Test.YtcfejobdgiiihaaGreatDoorJ09
import Derived.Test.YtcfejobdgiiihaaGreatDoorJ10
set_option linter.unusedVariables false
set_option linter.unusedSimpArgs false
namespace Go.Proofs.YtcfejobdgiiihaaGreatDoor
open Go.RowKit

set_option maxHeartbeats 1000000 in
theorem number_calls (neg : Bool) (b q : Nat) (v : Value) (e : Int) (w : World) (hx : IntR w b v q) (hq : q ≤ 9007199254740992) (he : -1074 ≤ e) (he2 : e ≤ 971) (h54 : q = 9007199254740992 → e ≤ 970) (hs : q < 4503599627370496 → 0 < q → e = -1074) :
    Calls Tryz.prog 108 #[.bool neg, .pointer (some ⟨b, 0, none⟩), .int .i64 e] w fun r w' => r = .returned (.float .f64 (numB neg q e)) ∧ Below w.heap.size w w' := by
  unfold numB
  rcases Nat.eq_zero_or_pos q with h0 | h0
  · subst h0
    rw [if_neg (by decide)]
    have e0 : packB neg 0 e = 0 := by unfold packB; rw [if_neg (by decide), if_neg (by decide)]
    rw [e0]
    exact number_zero neg b v e w hx
  · by_cases h1 : q = 9007199254740992
    · subst h1
      rw [if_pos rfl]
      exact number_54 neg b v e w hx he (h54 rfl)
    · rw [if_neg h1]
      by_cases h2 : 4503599627370496 ≤ q
      · exact number_norm neg b q v e w hx h2 (by omega) he he2
      · exact number_sub neg b q v e w hx h0 (by omega) (hs (by omega) h0)
end Go.Proofs.YtcfejobdgiiihaaGreatDoor

namespace Go.Proofs.YtcfejobdgiiihaaGreatDoor
open Go.RowKit

/-- what is told: a number's bits, or none -/
def fRet (o : Option Nat) : Ending := .returned (.tuple #[.float .f64 (o.getD 0), .bool o.isSome])
theorem told_end {neg : Bool} {q : Nat} {low : Int} (hq : q ≤ 9007199254740992) (hlow : -1074 ≤ low) (hs : q < 4503599627370496 → low = -1074) :
    (1024 < (bl q : Int) + low → downEnd neg q low = if neg then none else some 9218868437227405311) ∧
    (¬ 1024 < (bl q : Int) + low → low ≤ 971 ∧ (q = 9007199254740992 → low ≤ 970) ∧ downEnd neg q low = some (numB neg q low)) := by
  by_cases h1 : q = 9007199254740992
  · have hb : bl q = 54 := by rw [h1]; exact bl_eq (L := 53) (by decide) (by decide)
    rw [hb]
    unfold downEnd numB
    rw [if_pos h1, if_pos h1]
    refine ⟨fun h => finD_big (by omega), fun h => ⟨by omega, fun _ => by omega, ?_⟩⟩
    unfold finD
    rw [if_neg (by omega)]
  · unfold downEnd numB
    rw [if_neg h1, if_neg h1]
    by_cases h2 : 4503599627370496 ≤ q
    · have hb : bl q = 53 := bl_eq (L := 52) (by omega) (by omega)
      rw [hb]
      refine ⟨fun h => finD_big (by omega), fun h => ⟨by omega, fun h => absurd h h1, ?_⟩⟩
      unfold finD
      rw [if_neg (by omega)]
    · have hb : bl q ≤ 52 := bl_le_of_lt (L := 52) (by omega)
      have hl := hs (by omega)
      refine ⟨fun h => by omega, fun h => ⟨by omega, fun h => absurd h h1, ?_⟩⟩
      unfold finD
      rw [if_neg (by omega)]
theorem top_num : packB false 9007199254740991 971 = 9218868437227405311 := by
  unfold packB
  rw [if_pos (by decide)]
  decide
abbrev nilInt : Obj := .cells #[.bool false, .slice none 0 0] 149

set_option maxHeartbeats 4000000 in
set_option maxRecDepth 100000 in
theorem atold_big_p0 (bm m l n : Nat) (low : Int) (vm : Value) (w : World) (hx : IntR w bm vm m) (h0 : 0 < m) (hm : m < B64 ^ 76) (hl : bl m = l)
    (hc : 1191 ≤ l) (hl4 : l ≤ 4864) (hn : n = l - 53) (hlow : low = (n : Int) - 2212) (hr : m - m / 2 ^ n * 2 ^ n = 0) (q : Nat) (hqv : m / 2 ^ n = q) (hq53 : q ≤ 9007199254740992) (hs : q < 4503599627370496 → low = -1074) :
    Calls Tryz.prog 88 #[.int .i64 2, .bool false, .pointer (some ⟨bm, 0, none⟩), .int .i64 (-2212), .bool false] w fun r w' => r = fRet (downEnd false q low) ∧ Below w.heap.size w w' := by
  have HS := iSign_calls bm m vm w hx
  rw [if_neg (by omega)] at HS
  replace HS := Lib.hid HS
  have HB := iBitLen_calls bm m vm w hx
  rw [hl] at HB
  replace HB := Lib.hid HB
  have hbm := hx.cells.2.2
  have hB1 : Blk (w.alloc nilInt) w.heap.size 149 [.bool false, .slice none 0 0] := Blk.new w _ _
  have hx1 := hx.keep (below_new (Below.refl _ _) nilInt)
  have HR := Lib.hid (iRsh_calls w.heap.size bm m n false vm _ hB1 hx1 (by omega) (by omega) (by omega) 76 hm (by omega))
  have HX := Lib.hid hx
  have hq0 : m / 2 ^ n < B64 ^ 76 := Nat.lt_of_le_of_lt (Nat.div_le_self _ _) hm
  have HEND := Lib.hid (told_end (neg := false) hq53 (low := low) (by omega) hs)
  obtain ⟨lb, hlb⟩ : ∃ lb, bl q = lb := ⟨_, rfl⟩
  rw [hlb] at HEND
  have HM := Lib.hid hm
  have HQ0 := Lib.hid hq0
  have HREM := Lib.hid hr
  have HQV := Lib.hid hqv
  have HLB := Lib.hid hlb
  have HQ53 := Lib.hid hq53
  have HSS := Lib.hid hs
  have H0 := Lib.hid h0
  have hlbb : lb ≤ 54 := by rw [← hlb]; exact bl_le_of_lt (L := 54) (by omega)
  clear hx hx1 hm hq0 hr hqv hlb hq53 hs h0 hl hB1
  have hmax : ¬ ((l : Int) + -2212 - 53 < -1074) := by omega
  have hn1 : (l : Int) + -2212 - 53 = low := by omega
  have hn2 : low + 2212 = (n : Int) := by omega
  have hn3 : (n : Int) - 1 = ((n - 1 : Nat) : Int) := by omega
  have hn0 : 0 < n := by omega
  have hnb : n ≤ 4811 := by omega
  have hlw : -1074 ≤ low := by omega
  have hlw2 : low ≤ 2599 := by omega
  clear hn hlow hc hl4
  go_enter Tryz.func88, Tryz.ntmps88
  go_wp2_with fail
  refine HS.out.mono ?_
  rintro r w' ⟨rfl, rfl⟩
  go_wp2_with fail
  refine HB.out.mono ?_
  rintro r w' ⟨rfl, rfl⟩
  go_wp2_with fail
  refine HR.out.mono ?_
  rintro r w2 ⟨rfl, vq, hq2, hOq, hW2⟩
  have hs2 : w.heap.size + 1 ≤ w2.heap.size := by have := hW2.size; simpa using this
  have hWq : Below w.heap.size w w2 := (below_new (Below.refl _ _) nilInt).trans hW2
  have hxm2 := HX.out.keep hWq
  have hxq2 : IntR w2 w.heap.size vq (m / 2 ^ n) := ⟨hq2, _, hOq⟩
  have hWa : Below w2.heap.size w2 ((w2.alloc nilInt).alloc nilInt) := below_new (below_new (Below.refl _ _) _) _
  have hB3 : Blk ((w2.alloc nilInt).alloc nilInt) w2.heap.size 149 [.bool false, .slice none 0 0] := Blk.alloc (Blk.new w2 _ _) _
  have hB4 : Blk ((w2.alloc nilInt).alloc nilInt) (w2.heap.size + 1) 149 [.bool false, .slice none 0 0] := by
    have := Blk.new (w2.alloc nilInt) #[.bool false, .slice none 0 0] 149
    simpa using this
  have HL := Lib.hid (iLsh_calls (w2.heap.size + 1) w.heap.size (m / 2 ^ n) n false vq _ hB4 (hxq2.keep hWa) (by omega) (by omega) 76 HQ0.out (by omega))
  have H1 := Lib.hid (And.intro hWq (And.intro hxm2 (And.intro hxq2 (And.intro hWa (And.intro hB3 hOq)))))
  clear hWq hxm2 hxq2 hWa hB3 hB4 hq2 hOq hW2
  go_wp2_with fail
  refine HL.out.mono ?_
  rintro r w5 ⟨rfl, vt, ht5, hOt, hW5⟩
  have hs5 : w2.heap.size + 2 ≤ w5.heap.size := by have := hW5.size; simpa using this
  have hB5 : Blk w5 w2.heap.size 149 [.bool false, .slice none 0 0] := H1.out.2.2.2.2.1.below hW5 (by omega)
  have hW25 : Below w2.heap.size w2 w5 := H1.out.2.2.2.1.trans (hW5.mono (by omega))
  have HSub := Lib.hid (iSub_calls w2.heap.size bm (w2.heap.size + 1) m _ false vm vt w5 hB5 (H1.out.2.1.keep hW25) ⟨ht5, _, hOt⟩ (by omega) (by omega) (Nat.div_mul_le_self _ _) 76 HM.out (by omega))
  have H2 := Lib.hid hW25
  clear hB5 hW25 ht5 hOt hW5
  go_wp2_with fail
  refine HSub.out.mono ?_
  rintro r w6 ⟨rfl, vl, hl6, hOl, hW6⟩
  have hW26 := H2.out.trans hW6
  have hs6 : w5.heap.size ≤ w6.heap.size := hW6.size
  have hxq6 := H1.out.2.2.1.keep hW26
  have hxl6 : IntR w6 w2.heap.size vl (m - m / 2 ^ n * 2 ^ n) := ⟨hl6, _, hOl⟩
  have HN := Lib.hid (newInt_calls (w6.alloc nilInt))
  have H3 := Lib.hid (And.intro hW26 (And.intro hxq6 hxl6))
  clear hW26 hxq6 hxl6 hl6 hOl hW6
  go_wp2_with fail
  refine HN.out.mono ?_
  rintro r w8 ⟨b1, v1, rfl, hb1, hI1, hW8⟩
  have hb1' : w6.heap.size + 1 ≤ b1 := by simpa using hb1
  have hB8 : Blk w8 w6.heap.size 149 [.bool false, .slice none 0 0] := Blk.below' (Blk.new w6 _ _) hW8
  have HLh := Lib.hid (iLsh_calls w6.heap.size b1 1 (n - 1) false v1 w8 hB8 hI1 (by omega) (by omega) 1 (by decide) (by omega))
  have hW68 : Below w6.heap.size w6 w8 := (below_new (Below.refl _ _) nilInt).trans (hW8.mono (by simp))
  have H4 := Lib.hid hW68
  clear hB8 hW68 hW8 hI1 hb1
  go_wp2_with fail
  refine HLh.out.mono ?_
  rintro r w9 ⟨rfl, vh, hh9, hOh, hW9⟩
  have hW69 := H4.out.trans hW9
  have HC := Lib.hid (iCmp_calls w2.heap.size w6.heap.size _ _ vl vh w9 (H3.out.2.2.keep hW69) ⟨hh9, _, hOh⟩ (by omega))
  have H5 := Lib.hid hW69
  clear hW69 hh9 hOh hW9
  go_wp2_with fail
  refine HC.out.mono ?_
  rintro r w10 ⟨rfl, qd, rfl⟩
  have hW610 := below_drewN H5.out qd
  have HSg := iSign_calls w2.heap.size _ vl (w9.drewN qd) (H3.out.2.2.keep hW610)
  rw [if_pos HREM.out] at HSg
  replace HSg := Lib.hid HSg
  have hxq10 := H3.out.2.1.keep hW610
  have hWt : Below w.heap.size w (w9.drewN qd) := (H1.out.1.trans (H3.out.1.mono (by omega))).trans (hW610.mono (by omega))
  have H6 := Lib.hid (And.intro hxq10 hWt)
  have hqO : OwnN (w9.drewN qd) (w.heap.size + 1) (m / 2 ^ n) vq := (H1.out.2.2.2.2.2.keep H3.out.1).keep hW610
  have H7 := Lib.hid hqO
  clear hW610 hxq10 hWt hqO
  go_wp2_with fail
  refine HSg.out.mono ?_
  rintro r w' ⟨rfl, rfl⟩
  have hxt : Hid (IntR (w9.drewN qd) w.heap.size vq q) := by have := H6.out.1; rw [HQV.out] at this; exact this
  have HWT : Hid (Below w.heap.size w (w9.drewN qd)) := H6.out.2
  have HBq := iBitLen_calls w.heap.size q _ (w9.drewN qd) hxt.out
  rw [HLB.out] at HBq
  replace HBq := Lib.hid HBq
  by_cases hov : 1024 < (lb : Int) + low
  · have HF := Lib.hid (HEND.out.1 (by omega))
    go_wp2_with fail
    refine HBq.out.mono ?_
    rintro r w' ⟨rfl, rfl⟩
    have hBs : Blk ((w9.drewN qd).alloc nilInt) (w9.drewN qd).heap.size 149 [.bool false, .slice none 0 0] := Blk.new (w9.drewN qd) _ _
    have HSU := Lib.hid (iSetUint64_calls (w9.drewN qd).heap.size 9007199254740991 false _ hBs (by decide))
    clear hBs
    go_wp2_with fail
    refine HSU.out.mono ?_
    rintro r w13 ⟨rfl, vs, hs13, hOs, hW13⟩
    have HNU := number_calls false (w9.drewN qd).heap.size 9007199254740991 vs 971 w13 ⟨hs13, _, hOs⟩ (by decide) (by decide) (by decide) (by decide) (by decide)
    unfold numB at HNU
    rw [if_neg (by decide), top_num] at HNU
    replace HNU := Lib.hid HNU
    have HW13 : Hid (Below w.heap.size w w13) := HWT.out.trans (((below_new (Below.refl _ _) nilInt).trans hW13).mono HWT.out.size)
    clear hs13 hOs hW13
    go_wp2_with fail
    refine HNU.out.mono ?_
    rintro r w14 ⟨rfl, hW14⟩
    have HW14 : Hid (Below w.heap.size w w14) := HW13.out.trans (hW14.mono HW13.out.size)
    go_wp2
    go_ret2
    exact ⟨by rw [HF.out]; rfl, HW14.out⟩
  · have HF := Lib.hid (HEND.out.2 (by omega))
    have HNU := Lib.hid (number_calls false w.heap.size q _ low (w9.drewN qd) hxt.out HQ53.out (by omega) HF.out.1 HF.out.2.1 (fun h _ => HSS.out h))
    go_wp2_with fail
    refine HBq.out.mono ?_
    rintro r w' ⟨rfl, rfl⟩
    go_wp2_with fail
    refine HNU.out.mono ?_
    rintro r w14 ⟨rfl, hW14⟩
    have HW14 : Hid (Below w.heap.size w w14) := HWT.out.trans (hW14.mono HWT.out.size)
    go_wp2
    go_ret2
    exact ⟨by rw [HF.out.2.2]; rfl, HW14.out⟩

set_option maxHeartbeats 4000000 in
set_option maxRecDepth 100000 in
theorem atold_big_p1 (bm m l n : Nat) (low : Int) (vm : Value) (w : World) (hx : IntR w bm vm m) (h0 : 0 < m) (hm : m < B64 ^ 76) (hl : bl m = l)
    (hc : 1191 ≤ l) (hl4 : l ≤ 4864) (hn : n = l - 53) (hlow : low = (n : Int) - 2212) (hr : ¬ m - m / 2 ^ n * 2 ^ n = 0) (q : Nat) (hqv : m / 2 ^ n = q) (hq53 : q ≤ 9007199254740992) (hs : q < 4503599627370496 → low = -1074) :
    Calls Tryz.prog 88 #[.int .i64 2, .bool false, .pointer (some ⟨bm, 0, none⟩), .int .i64 (-2212), .bool false] w fun r w' => r = fRet (downEnd false q low) ∧ Below w.heap.size w w' := by
  have HS := iSign_calls bm m vm w hx
  rw [if_neg (by omega)] at HS
  replace HS := Lib.hid HS
  have HB := iBitLen_calls bm m vm w hx
  rw [hl] at HB
  replace HB := Lib.hid HB
  have hbm := hx.cells.2.2
  have hB1 : Blk (w.alloc nilInt) w.heap.size 149 [.bool false, .slice none 0 0] := Blk.new w _ _
  have hx1 := hx.keep (below_new (Below.refl _ _) nilInt)
  have HR := Lib.hid (iRsh_calls w.heap.size bm m n false vm _ hB1 hx1 (by omega) (by omega) (by omega) 76 hm (by omega))
  have HX := Lib.hid hx
  have hq0 : m / 2 ^ n < B64 ^ 76 := Nat.lt_of_le_of_lt (Nat.div_le_self _ _) hm
  have HEND := Lib.hid (told_end (neg := false) hq53 (low := low) (by omega) hs)
  obtain ⟨lb, hlb⟩ : ∃ lb, bl q = lb := ⟨_, rfl⟩
  rw [hlb] at HEND
  have HM := Lib.hid hm
  have HQ0 := Lib.hid hq0
  have HREM := Lib.hid hr
  have HQV := Lib.hid hqv
  have HLB := Lib.hid hlb
  have HQ53 := Lib.hid hq53
  have HSS := Lib.hid hs
  have H0 := Lib.hid h0
  have hlbb : lb ≤ 54 := by rw [← hlb]; exact bl_le_of_lt (L := 54) (by omega)
  clear hx hx1 hm hq0 hr hqv hlb hq53 hs h0 hl hB1
  have hmax : ¬ ((l : Int) + -2212 - 53 < -1074) := by omega
  have hn1 : (l : Int) + -2212 - 53 = low := by omega
  have hn2 : low + 2212 = (n : Int) := by omega
  have hn3 : (n : Int) - 1 = ((n - 1 : Nat) : Int) := by omega
  have hn0 : 0 < n := by omega
  have hnb : n ≤ 4811 := by omega
  have hlw : -1074 ≤ low := by omega
  have hlw2 : low ≤ 2599 := by omega
  clear hn hlow hc hl4
  go_enter Tryz.func88, Tryz.ntmps88
  go_wp2_with fail
  refine HS.out.mono ?_
  rintro r w' ⟨rfl, rfl⟩
  go_wp2_with fail
  refine HB.out.mono ?_
  rintro r w' ⟨rfl, rfl⟩
  go_wp2_with fail
  refine HR.out.mono ?_
  rintro r w2 ⟨rfl, vq, hq2, hOq, hW2⟩
  have hs2 : w.heap.size + 1 ≤ w2.heap.size := by have := hW2.size; simpa using this
  have hWq : Below w.heap.size w w2 := (below_new (Below.refl _ _) nilInt).trans hW2
  have hxm2 := HX.out.keep hWq
  have hxq2 : IntR w2 w.heap.size vq (m / 2 ^ n) := ⟨hq2, _, hOq⟩
  have hWa : Below w2.heap.size w2 ((w2.alloc nilInt).alloc nilInt) := below_new (below_new (Below.refl _ _) _) _
  have hB3 : Blk ((w2.alloc nilInt).alloc nilInt) w2.heap.size 149 [.bool false, .slice none 0 0] := Blk.alloc (Blk.new w2 _ _) _
  have hB4 : Blk ((w2.alloc nilInt).alloc nilInt) (w2.heap.size + 1) 149 [.bool false, .slice none 0 0] := by
    have := Blk.new (w2.alloc nilInt) #[.bool false, .slice none 0 0] 149
    simpa using this
  have HL := Lib.hid (iLsh_calls (w2.heap.size + 1) w.heap.size (m / 2 ^ n) n false vq _ hB4 (hxq2.keep hWa) (by omega) (by omega) 76 HQ0.out (by omega))
  have H1 := Lib.hid (And.intro hWq (And.intro hxm2 (And.intro hxq2 (And.intro hWa (And.intro hB3 hOq)))))
  clear hWq hxm2 hxq2 hWa hB3 hB4 hq2 hOq hW2
  go_wp2_with fail
  refine HL.out.mono ?_
  rintro r w5 ⟨rfl, vt, ht5, hOt, hW5⟩
  have hs5 : w2.heap.size + 2 ≤ w5.heap.size := by have := hW5.size; simpa using this
  have hB5 : Blk w5 w2.heap.size 149 [.bool false, .slice none 0 0] := H1.out.2.2.2.2.1.below hW5 (by omega)
  have hW25 : Below w2.heap.size w2 w5 := H1.out.2.2.2.1.trans (hW5.mono (by omega))
  have HSub := Lib.hid (iSub_calls w2.heap.size bm (w2.heap.size + 1) m _ false vm vt w5 hB5 (H1.out.2.1.keep hW25) ⟨ht5, _, hOt⟩ (by omega) (by omega) (Nat.div_mul_le_self _ _) 76 HM.out (by omega))
  have H2 := Lib.hid hW25
  clear hB5 hW25 ht5 hOt hW5
  go_wp2_with fail
  refine HSub.out.mono ?_
  rintro r w6 ⟨rfl, vl, hl6, hOl, hW6⟩
  have hW26 := H2.out.trans hW6
  have hs6 : w5.heap.size ≤ w6.heap.size := hW6.size
  have hxq6 := H1.out.2.2.1.keep hW26
  have hxl6 : IntR w6 w2.heap.size vl (m - m / 2 ^ n * 2 ^ n) := ⟨hl6, _, hOl⟩
  have HN := Lib.hid (newInt_calls (w6.alloc nilInt))
  have H3 := Lib.hid (And.intro hW26 (And.intro hxq6 hxl6))
  clear hW26 hxq6 hxl6 hl6 hOl hW6
  go_wp2_with fail
  refine HN.out.mono ?_
  rintro r w8 ⟨b1, v1, rfl, hb1, hI1, hW8⟩
  have hb1' : w6.heap.size + 1 ≤ b1 := by simpa using hb1
  have hB8 : Blk w8 w6.heap.size 149 [.bool false, .slice none 0 0] := Blk.below' (Blk.new w6 _ _) hW8
  have HLh := Lib.hid (iLsh_calls w6.heap.size b1 1 (n - 1) false v1 w8 hB8 hI1 (by omega) (by omega) 1 (by decide) (by omega))
  have hW68 : Below w6.heap.size w6 w8 := (below_new (Below.refl _ _) nilInt).trans (hW8.mono (by simp))
  have H4 := Lib.hid hW68
  clear hB8 hW68 hW8 hI1 hb1
  go_wp2_with fail
  refine HLh.out.mono ?_
  rintro r w9 ⟨rfl, vh, hh9, hOh, hW9⟩
  have hW69 := H4.out.trans hW9
  have HC := Lib.hid (iCmp_calls w2.heap.size w6.heap.size _ _ vl vh w9 (H3.out.2.2.keep hW69) ⟨hh9, _, hOh⟩ (by omega))
  have H5 := Lib.hid hW69
  clear hW69 hh9 hOh hW9
  go_wp2_with fail
  refine HC.out.mono ?_
  rintro r w10 ⟨rfl, qd, rfl⟩
  have hW610 := below_drewN H5.out qd
  have HSg := iSign_calls w2.heap.size _ vl (w9.drewN qd) (H3.out.2.2.keep hW610)
  rw [if_neg HREM.out] at HSg
  replace HSg := Lib.hid HSg
  have hxq10 := H3.out.2.1.keep hW610
  have hWt : Below w.heap.size w (w9.drewN qd) := (H1.out.1.trans (H3.out.1.mono (by omega))).trans (hW610.mono (by omega))
  have H6 := Lib.hid (And.intro hxq10 hWt)
  have hqO : OwnN (w9.drewN qd) (w.heap.size + 1) (m / 2 ^ n) vq := (H1.out.2.2.2.2.2.keep H3.out.1).keep hW610
  have H7 := Lib.hid hqO
  clear hW610 hxq10 hWt hqO
  go_wp2_with fail
  refine HSg.out.mono ?_
  rintro r w' ⟨rfl, rfl⟩
  have hxt : Hid (IntR (w9.drewN qd) w.heap.size vq q) := by have := H6.out.1; rw [HQV.out] at this; exact this
  have HWT : Hid (Below w.heap.size w (w9.drewN qd)) := H6.out.2
  have HBq := iBitLen_calls w.heap.size q _ (w9.drewN qd) hxt.out
  rw [HLB.out] at HBq
  replace HBq := Lib.hid HBq
  by_cases hov : 1024 < (lb : Int) + low
  · have HF := Lib.hid (HEND.out.1 (by omega))
    go_wp2_with fail
    refine HBq.out.mono ?_
    rintro r w' ⟨rfl, rfl⟩
    have hBs : Blk ((w9.drewN qd).alloc nilInt) (w9.drewN qd).heap.size 149 [.bool false, .slice none 0 0] := Blk.new (w9.drewN qd) _ _
    have HSU := Lib.hid (iSetUint64_calls (w9.drewN qd).heap.size 9007199254740991 false _ hBs (by decide))
    clear hBs
    go_wp2_with fail
    refine HSU.out.mono ?_
    rintro r w13 ⟨rfl, vs, hs13, hOs, hW13⟩
    have HNU := number_calls false (w9.drewN qd).heap.size 9007199254740991 vs 971 w13 ⟨hs13, _, hOs⟩ (by decide) (by decide) (by decide) (by decide) (by decide)
    unfold numB at HNU
    rw [if_neg (by decide), top_num] at HNU
    replace HNU := Lib.hid HNU
    have HW13 : Hid (Below w.heap.size w w13) := HWT.out.trans (((below_new (Below.refl _ _) nilInt).trans hW13).mono HWT.out.size)
    clear hs13 hOs hW13
    go_wp2_with fail
    refine HNU.out.mono ?_
    rintro r w14 ⟨rfl, hW14⟩
    have HW14 : Hid (Below w.heap.size w w14) := HW13.out.trans (hW14.mono HW13.out.size)
    go_wp2
    go_ret2
    exact ⟨by rw [HF.out]; rfl, HW14.out⟩
  · have HF := Lib.hid (HEND.out.2 (by omega))
    have HNU := Lib.hid (number_calls false w.heap.size q _ low (w9.drewN qd) hxt.out HQ53.out (by omega) HF.out.1 HF.out.2.1 (fun h _ => HSS.out h))
    go_wp2_with fail
    refine HBq.out.mono ?_
    rintro r w' ⟨rfl, rfl⟩
    go_wp2_with fail
    refine HNU.out.mono ?_
    rintro r w14 ⟨rfl, hW14⟩
    have HW14 : Hid (Below w.heap.size w w14) := HWT.out.trans (hW14.mono HWT.out.size)
    go_wp2
    go_ret2
    exact ⟨by rw [HF.out.2.2]; rfl, HW14.out⟩

set_option maxHeartbeats 4000000 in
set_option maxRecDepth 100000 in
theorem atold_big_n0 (bm m l n : Nat) (low : Int) (vm : Value) (w : World) (hx : IntR w bm vm m) (h0 : 0 < m) (hm : m < B64 ^ 76) (hl : bl m = l)
    (hc : 1191 ≤ l) (hl4 : l ≤ 4864) (hn : n = l - 53) (hlow : low = (n : Int) - 2212) (hr : m - m / 2 ^ n * 2 ^ n = 0) (q : Nat) (hqv : m / 2 ^ n = q) (hq53 : q ≤ 9007199254740992) (hs : q < 4503599627370496 → low = -1074) :
    Calls Tryz.prog 88 #[.int .i64 2, .bool true, .pointer (some ⟨bm, 0, none⟩), .int .i64 (-2212), .bool false] w fun r w' => r = fRet (downEnd true q low) ∧ Below w.heap.size w w' := by
  have HS := iSign_calls bm m vm w hx
  rw [if_neg (by omega)] at HS
  replace HS := Lib.hid HS
  have HB := iBitLen_calls bm m vm w hx
  rw [hl] at HB
  replace HB := Lib.hid HB
  have hbm := hx.cells.2.2
  have hB1 : Blk (w.alloc nilInt) w.heap.size 149 [.bool false, .slice none 0 0] := Blk.new w _ _
  have hx1 := hx.keep (below_new (Below.refl _ _) nilInt)
  have HR := Lib.hid (iRsh_calls w.heap.size bm m n false vm _ hB1 hx1 (by omega) (by omega) (by omega) 76 hm (by omega))
  have HX := Lib.hid hx
  have hq0 : m / 2 ^ n < B64 ^ 76 := Nat.lt_of_le_of_lt (Nat.div_le_self _ _) hm
  have HEND := Lib.hid (told_end (neg := true) hq53 (low := low) (by omega) hs)
  obtain ⟨lb, hlb⟩ : ∃ lb, bl q = lb := ⟨_, rfl⟩
  rw [hlb] at HEND
  have HM := Lib.hid hm
  have HQ0 := Lib.hid hq0
  have HREM := Lib.hid hr
  have HQV := Lib.hid hqv
  have HLB := Lib.hid hlb
  have HQ53 := Lib.hid hq53
  have HSS := Lib.hid hs
  have H0 := Lib.hid h0
  have hlbb : lb ≤ 54 := by rw [← hlb]; exact bl_le_of_lt (L := 54) (by omega)
  clear hx hx1 hm hq0 hr hqv hlb hq53 hs h0 hl hB1
  have hmax : ¬ ((l : Int) + -2212 - 53 < -1074) := by omega
  have hn1 : (l : Int) + -2212 - 53 = low := by omega
  have hn2 : low + 2212 = (n : Int) := by omega
  have hn3 : (n : Int) - 1 = ((n - 1 : Nat) : Int) := by omega
  have hn0 : 0 < n := by omega
  have hnb : n ≤ 4811 := by omega
  have hlw : -1074 ≤ low := by omega
  have hlw2 : low ≤ 2599 := by omega
  clear hn hlow hc hl4
  go_enter Tryz.func88, Tryz.ntmps88
  go_wp2_with fail
  refine HS.out.mono ?_
  rintro r w' ⟨rfl, rfl⟩
  go_wp2_with fail
  refine HB.out.mono ?_
  rintro r w' ⟨rfl, rfl⟩
  go_wp2_with fail
  refine HR.out.mono ?_
  rintro r w2 ⟨rfl, vq, hq2, hOq, hW2⟩
  have hs2 : w.heap.size + 1 ≤ w2.heap.size := by have := hW2.size; simpa using this
  have hWq : Below w.heap.size w w2 := (below_new (Below.refl _ _) nilInt).trans hW2
  have hxm2 := HX.out.keep hWq
  have hxq2 : IntR w2 w.heap.size vq (m / 2 ^ n) := ⟨hq2, _, hOq⟩
  have hWa : Below w2.heap.size w2 ((w2.alloc nilInt).alloc nilInt) := below_new (below_new (Below.refl _ _) _) _
  have hB3 : Blk ((w2.alloc nilInt).alloc nilInt) w2.heap.size 149 [.bool false, .slice none 0 0] := Blk.alloc (Blk.new w2 _ _) _
  have hB4 : Blk ((w2.alloc nilInt).alloc nilInt) (w2.heap.size + 1) 149 [.bool false, .slice none 0 0] := by
    have := Blk.new (w2.alloc nilInt) #[.bool false, .slice none 0 0] 149
    simpa using this
  have HL := Lib.hid (iLsh_calls (w2.heap.size + 1) w.heap.size (m / 2 ^ n) n false vq _ hB4 (hxq2.keep hWa) (by omega) (by omega) 76 HQ0.out (by omega))
  have H1 := Lib.hid (And.intro hWq (And.intro hxm2 (And.intro hxq2 (And.intro hWa (And.intro hB3 hOq)))))
  clear hWq hxm2 hxq2 hWa hB3 hB4 hq2 hOq hW2
  go_wp2_with fail
  refine HL.out.mono ?_
  rintro r w5 ⟨rfl, vt, ht5, hOt, hW5⟩
  have hs5 : w2.heap.size + 2 ≤ w5.heap.size := by have := hW5.size; simpa using this
  have hB5 : Blk w5 w2.heap.size 149 [.bool false, .slice none 0 0] := H1.out.2.2.2.2.1.below hW5 (by omega)
  have hW25 : Below w2.heap.size w2 w5 := H1.out.2.2.2.1.trans (hW5.mono (by omega))
  have HSub := Lib.hid (iSub_calls w2.heap.size bm (w2.heap.size + 1) m _ false vm vt w5 hB5 (H1.out.2.1.keep hW25) ⟨ht5, _, hOt⟩ (by omega) (by omega) (Nat.div_mul_le_self _ _) 76 HM.out (by omega))
  have H2 := Lib.hid hW25
  clear hB5 hW25 ht5 hOt hW5
  go_wp2_with fail
  refine HSub.out.mono ?_
  rintro r w6 ⟨rfl, vl, hl6, hOl, hW6⟩
  have hW26 := H2.out.trans hW6
  have hs6 : w5.heap.size ≤ w6.heap.size := hW6.size
  have hxq6 := H1.out.2.2.1.keep hW26
  have hxl6 : IntR w6 w2.heap.size vl (m - m / 2 ^ n * 2 ^ n) := ⟨hl6, _, hOl⟩
  have HN := Lib.hid (newInt_calls (w6.alloc nilInt))
  have H3 := Lib.hid (And.intro hW26 (And.intro hxq6 hxl6))
  clear hW26 hxq6 hxl6 hl6 hOl hW6
  go_wp2_with fail
  refine HN.out.mono ?_
  rintro r w8 ⟨b1, v1, rfl, hb1, hI1, hW8⟩
  have hb1' : w6.heap.size + 1 ≤ b1 := by simpa using hb1
  have hB8 : Blk w8 w6.heap.size 149 [.bool false, .slice none 0 0] := Blk.below' (Blk.new w6 _ _) hW8
  have HLh := Lib.hid (iLsh_calls w6.heap.size b1 1 (n - 1) false v1 w8 hB8 hI1 (by omega) (by omega) 1 (by decide) (by omega))
  have hW68 : Below w6.heap.size w6 w8 := (below_new (Below.refl _ _) nilInt).trans (hW8.mono (by simp))
  have H4 := Lib.hid hW68
  clear hB8 hW68 hW8 hI1 hb1
  go_wp2_with fail
  refine HLh.out.mono ?_
  rintro r w9 ⟨rfl, vh, hh9, hOh, hW9⟩
  have hW69 := H4.out.trans hW9
  have HC := Lib.hid (iCmp_calls w2.heap.size w6.heap.size _ _ vl vh w9 (H3.out.2.2.keep hW69) ⟨hh9, _, hOh⟩ (by omega))
  have H5 := Lib.hid hW69
  clear hW69 hh9 hOh hW9
  go_wp2_with fail
  refine HC.out.mono ?_
  rintro r w10 ⟨rfl, qd, rfl⟩
  have hW610 := below_drewN H5.out qd
  have HSg := iSign_calls w2.heap.size _ vl (w9.drewN qd) (H3.out.2.2.keep hW610)
  rw [if_pos HREM.out] at HSg
  replace HSg := Lib.hid HSg
  have hxq10 := H3.out.2.1.keep hW610
  have hWt : Below w.heap.size w (w9.drewN qd) := (H1.out.1.trans (H3.out.1.mono (by omega))).trans (hW610.mono (by omega))
  have H6 := Lib.hid (And.intro hxq10 hWt)
  have hqO : OwnN (w9.drewN qd) (w.heap.size + 1) (m / 2 ^ n) vq := (H1.out.2.2.2.2.2.keep H3.out.1).keep hW610
  have H7 := Lib.hid hqO
  clear hW610 hxq10 hWt hqO
  go_wp2_with fail
  refine HSg.out.mono ?_
  rintro r w' ⟨rfl, rfl⟩
  have hxt : Hid (IntR (w9.drewN qd) w.heap.size vq q) := by have := H6.out.1; rw [HQV.out] at this; exact this
  have HWT : Hid (Below w.heap.size w (w9.drewN qd)) := H6.out.2
  have HBq := iBitLen_calls w.heap.size q _ (w9.drewN qd) hxt.out
  rw [HLB.out] at HBq
  replace HBq := Lib.hid HBq
  by_cases hov : 1024 < (lb : Int) + low
  · have HF := Lib.hid (HEND.out.1 (by omega))
    go_wp2_with fail
    refine HBq.out.mono ?_
    rintro r w' ⟨rfl, rfl⟩
    go_wp2
    go_ret2
    exact ⟨by rw [HF.out]; rfl, HWT.out⟩
  · have HF := Lib.hid (HEND.out.2 (by omega))
    have HNU := Lib.hid (number_calls true w.heap.size q _ low (w9.drewN qd) hxt.out HQ53.out (by omega) HF.out.1 HF.out.2.1 (fun h _ => HSS.out h))
    go_wp2_with fail
    refine HBq.out.mono ?_
    rintro r w' ⟨rfl, rfl⟩
    go_wp2_with fail
    refine HNU.out.mono ?_
    rintro r w14 ⟨rfl, hW14⟩
    have HW14 : Hid (Below w.heap.size w w14) := HWT.out.trans (hW14.mono HWT.out.size)
    go_wp2
    go_ret2
    exact ⟨by rw [HF.out.2.2]; rfl, HW14.out⟩

set_option maxHeartbeats 4000000 in
set_option maxRecDepth 100000 in
theorem atold_big_n1 (bm m l n : Nat) (low : Int) (vm : Value) (w : World) (hx : IntR w bm vm m) (h0 : 0 < m) (hm : m < B64 ^ 76) (hl : bl m = l)
    (hc : 1191 ≤ l) (hl4 : l ≤ 4864) (hn : n = l - 53) (hlow : low = (n : Int) - 2212) (hr : ¬ m - m / 2 ^ n * 2 ^ n = 0) (q : Nat) (hqv : m / 2 ^ n + 1 = q) (hq53 : q ≤ 9007199254740992) (hs : q < 4503599627370496 → low = -1074) :
    Calls Tryz.prog 88 #[.int .i64 2, .bool true, .pointer (some ⟨bm, 0, none⟩), .int .i64 (-2212), .bool false] w fun r w' => r = fRet (downEnd true q low) ∧ Below w.heap.size w w' := by
  have HS := iSign_calls bm m vm w hx
  rw [if_neg (by omega)] at HS
  replace HS := Lib.hid HS
  have HB := iBitLen_calls bm m vm w hx
  rw [hl] at HB
  replace HB := Lib.hid HB
  have hbm := hx.cells.2.2
  have hB1 : Blk (w.alloc nilInt) w.heap.size 149 [.bool false, .slice none 0 0] := Blk.new w _ _
  have hx1 := hx.keep (below_new (Below.refl _ _) nilInt)
  have HR := Lib.hid (iRsh_calls w.heap.size bm m n false vm _ hB1 hx1 (by omega) (by omega) (by omega) 76 hm (by omega))
  have HX := Lib.hid hx
  have hq0 : m / 2 ^ n < B64 ^ 76 := Nat.lt_of_le_of_lt (Nat.div_le_self _ _) hm
  have HEND := Lib.hid (told_end (neg := true) hq53 (low := low) (by omega) hs)
  obtain ⟨lb, hlb⟩ : ∃ lb, bl q = lb := ⟨_, rfl⟩
  rw [hlb] at HEND
  have HM := Lib.hid hm
  have HQ0 := Lib.hid hq0
  have HREM := Lib.hid hr
  have HQV := Lib.hid hqv
  have HLB := Lib.hid hlb
  have HQ53 := Lib.hid hq53
  have HSS := Lib.hid hs
  have H0 := Lib.hid h0
  have hlbb : lb ≤ 54 := by rw [← hlb]; exact bl_le_of_lt (L := 54) (by omega)
  clear hx hx1 hm hq0 hr hqv hlb hq53 hs h0 hl hB1
  have hmax : ¬ ((l : Int) + -2212 - 53 < -1074) := by omega
  have hn1 : (l : Int) + -2212 - 53 = low := by omega
  have hn2 : low + 2212 = (n : Int) := by omega
  have hn3 : (n : Int) - 1 = ((n - 1 : Nat) : Int) := by omega
  have hn0 : 0 < n := by omega
  have hnb : n ≤ 4811 := by omega
  have hlw : -1074 ≤ low := by omega
  have hlw2 : low ≤ 2599 := by omega
  clear hn hlow hc hl4
  go_enter Tryz.func88, Tryz.ntmps88
  go_wp2_with fail
  refine HS.out.mono ?_
  rintro r w' ⟨rfl, rfl⟩
  go_wp2_with fail
  refine HB.out.mono ?_
  rintro r w' ⟨rfl, rfl⟩
  go_wp2_with fail
  refine HR.out.mono ?_
  rintro r w2 ⟨rfl, vq, hq2, hOq, hW2⟩
  have hs2 : w.heap.size + 1 ≤ w2.heap.size := by have := hW2.size; simpa using this
  have hWq : Below w.heap.size w w2 := (below_new (Below.refl _ _) nilInt).trans hW2
  have hxm2 := HX.out.keep hWq
  have hxq2 : IntR w2 w.heap.size vq (m / 2 ^ n) := ⟨hq2, _, hOq⟩
  have hWa : Below w2.heap.size w2 ((w2.alloc nilInt).alloc nilInt) := below_new (below_new (Below.refl _ _) _) _
  have hB3 : Blk ((w2.alloc nilInt).alloc nilInt) w2.heap.size 149 [.bool false, .slice none 0 0] := Blk.alloc (Blk.new w2 _ _) _
  have hB4 : Blk ((w2.alloc nilInt).alloc nilInt) (w2.heap.size + 1) 149 [.bool false, .slice none 0 0] := by
    have := Blk.new (w2.alloc nilInt) #[.bool false, .slice none 0 0] 149
    simpa using this
  have HL := Lib.hid (iLsh_calls (w2.heap.size + 1) w.heap.size (m / 2 ^ n) n false vq _ hB4 (hxq2.keep hWa) (by omega) (by omega) 76 HQ0.out (by omega))
  have H1 := Lib.hid (And.intro hWq (And.intro hxm2 (And.intro hxq2 (And.intro hWa (And.intro hB3 hOq)))))
  clear hWq hxm2 hxq2 hWa hB3 hB4 hq2 hOq hW2
  go_wp2_with fail
  refine HL.out.mono ?_
  rintro r w5 ⟨rfl, vt, ht5, hOt, hW5⟩
  have hs5 : w2.heap.size + 2 ≤ w5.heap.size := by have := hW5.size; simpa using this
  have hB5 : Blk w5 w2.heap.size 149 [.bool false, .slice none 0 0] := H1.out.2.2.2.2.1.below hW5 (by omega)
  have hW25 : Below w2.heap.size w2 w5 := H1.out.2.2.2.1.trans (hW5.mono (by omega))
  have HSub := Lib.hid (iSub_calls w2.heap.size bm (w2.heap.size + 1) m _ false vm vt w5 hB5 (H1.out.2.1.keep hW25) ⟨ht5, _, hOt⟩ (by omega) (by omega) (Nat.div_mul_le_self _ _) 76 HM.out (by omega))
  have H2 := Lib.hid hW25
  clear hB5 hW25 ht5 hOt hW5
  go_wp2_with fail
  refine HSub.out.mono ?_
  rintro r w6 ⟨rfl, vl, hl6, hOl, hW6⟩
  have hW26 := H2.out.trans hW6
  have hs6 : w5.heap.size ≤ w6.heap.size := hW6.size
  have hxq6 := H1.out.2.2.1.keep hW26
  have hxl6 : IntR w6 w2.heap.size vl (m - m / 2 ^ n * 2 ^ n) := ⟨hl6, _, hOl⟩
  have HN := Lib.hid (newInt_calls (w6.alloc nilInt))
  have H3 := Lib.hid (And.intro hW26 (And.intro hxq6 hxl6))
  clear hW26 hxq6 hxl6 hl6 hOl hW6
  go_wp2_with fail
  refine HN.out.mono ?_
  rintro r w8 ⟨b1, v1, rfl, hb1, hI1, hW8⟩
  have hb1' : w6.heap.size + 1 ≤ b1 := by simpa using hb1
  have hB8 : Blk w8 w6.heap.size 149 [.bool false, .slice none 0 0] := Blk.below' (Blk.new w6 _ _) hW8
  have HLh := Lib.hid (iLsh_calls w6.heap.size b1 1 (n - 1) false v1 w8 hB8 hI1 (by omega) (by omega) 1 (by decide) (by omega))
  have hW68 : Below w6.heap.size w6 w8 := (below_new (Below.refl _ _) nilInt).trans (hW8.mono (by simp))
  have H4 := Lib.hid hW68
  clear hB8 hW68 hW8 hI1 hb1
  go_wp2_with fail
  refine HLh.out.mono ?_
  rintro r w9 ⟨rfl, vh, hh9, hOh, hW9⟩
  have hW69 := H4.out.trans hW9
  have HC := Lib.hid (iCmp_calls w2.heap.size w6.heap.size _ _ vl vh w9 (H3.out.2.2.keep hW69) ⟨hh9, _, hOh⟩ (by omega))
  have H5 := Lib.hid hW69
  clear hW69 hh9 hOh hW9
  go_wp2_with fail
  refine HC.out.mono ?_
  rintro r w10 ⟨rfl, qd, rfl⟩
  have hW610 := below_drewN H5.out qd
  have HSg := iSign_calls w2.heap.size _ vl (w9.drewN qd) (H3.out.2.2.keep hW610)
  rw [if_neg HREM.out] at HSg
  replace HSg := Lib.hid HSg
  have hxq10 := H3.out.2.1.keep hW610
  have hWt : Below w.heap.size w (w9.drewN qd) := (H1.out.1.trans (H3.out.1.mono (by omega))).trans (hW610.mono (by omega))
  have H6 := Lib.hid (And.intro hxq10 hWt)
  have hqO : OwnN (w9.drewN qd) (w.heap.size + 1) (m / 2 ^ n) vq := (H1.out.2.2.2.2.2.keep H3.out.1).keep hW610
  have H7 := Lib.hid hqO
  clear hW610 hxq10 hWt hqO
  go_wp2_with fail
  refine HSg.out.mono ?_
  rintro r w' ⟨rfl, rfl⟩
  have HN2 := Lib.hid (newInt_calls (w9.drewN qd))
  go_wp2_with fail
  refine HN2.out.mono ?_
  rintro r w11 ⟨b2, v2, rfl, hb2, hI2, hW11⟩
  have hb2' : w9.heap.size ≤ b2 := hb2
  have hs9 : w6.heap.size ≤ w9.heap.size := H5.out.size
  have HA := Lib.hid (iAdd_calls w.heap.size b2 (m / 2 ^ n) 1 vq v2 w11 (H6.out.1.1.below' hW11) (H7.out.keep hW11) hI2 (by omega) 76 HQ0.out (Nat.lt_of_lt_of_le (by decide : 1 < B64 ^ 1) (Nat.pow_le_pow_right (by decide) (by omega))) (by omega))
  have H8 := Lib.hid (H6.out.2.trans (hW11.mono (by have := H6.out.2.size; exact this)))
  clear hW11 hI2 hb2
  go_wp2_with fail
  refine HA.out.mono ?_
  rintro r w12 ⟨rfl, vp, hp12, hOp, hW12⟩
  have hxt : Hid (IntR w12 w.heap.size vp q) := ⟨hp12, _, by rw [← HQV.out]; exact hOp⟩
  have HWT : Hid (Below w.heap.size w w12) := H8.out.trans hW12
  clear hp12 hOp hW12
  have HBq := iBitLen_calls w.heap.size q _ w12 hxt.out
  rw [HLB.out] at HBq
  replace HBq := Lib.hid HBq
  by_cases hov : 1024 < (lb : Int) + low
  · have HF := Lib.hid (HEND.out.1 (by omega))
    go_wp2_with fail
    refine HBq.out.mono ?_
    rintro r w' ⟨rfl, rfl⟩
    go_wp2
    go_ret2
    exact ⟨by rw [HF.out]; rfl, HWT.out⟩
  · have HF := Lib.hid (HEND.out.2 (by omega))
    have HNU := Lib.hid (number_calls true w.heap.size q _ low w12 hxt.out HQ53.out (by omega) HF.out.1 HF.out.2.1 (fun h _ => HSS.out h))
    go_wp2_with fail
    refine HBq.out.mono ?_
    rintro r w' ⟨rfl, rfl⟩
    go_wp2_with fail
    refine HNU.out.mono ?_
    rintro r w14 ⟨rfl, hW14⟩
    have HW14 : Hid (Below w.heap.size w w14) := HWT.out.trans (hW14.mono HWT.out.size)
    go_wp2
    go_ret2
    exact ⟨by rw [HF.out.2.2]; rfl, HW14.out⟩
end Go.Proofs.YtcfejobdgiiihaaGreatDoor

namespace Go.Proofs.YtcfejobdgiiihaaGreatDoor
open Go.RowKit

set_option maxHeartbeats 4000000 in
set_option exponentiation.threshold 6000 in
set_option maxRecDepth 100000 in
theorem atold_sm_p0 (bm m l : Nat) (vm : Value) (w : World) (hx : IntR w bm vm m) (h0 : 0 < m) (hm : m < B64 ^ 76) (hl : bl m = l)
    (hc : l < 1191) (hr : m - m / 2 ^ 1138 * 2 ^ 1138 = 0) (q : Nat) (hqv : m / 2 ^ 1138 = q) (hq53 : q ≤ 9007199254740992) (hs : q < 4503599627370496 → (-1074) = -1074) :
    Calls Tryz.prog 88 #[.int .i64 2, .bool false, .pointer (some ⟨bm, 0, none⟩), .int .i64 (-2212), .bool false] w fun r w' => r = fRet (downEnd false q (-1074)) ∧ Below w.heap.size w w' := by
  have HS := iSign_calls bm m vm w hx
  rw [if_neg (by omega)] at HS
  replace HS := Lib.hid HS
  have HB := iBitLen_calls bm m vm w hx
  rw [hl] at HB
  replace HB := Lib.hid HB
  have hbm := hx.cells.2.2
  have hB1 : Blk (w.alloc nilInt) w.heap.size 149 [.bool false, .slice none 0 0] := Blk.new w _ _
  have hx1 := hx.keep (below_new (Below.refl _ _) nilInt)
  have HR := Lib.hid (iRsh_calls w.heap.size bm m 1138 false vm _ hB1 hx1 (by omega) (by omega) (by omega) 76 hm (by omega))
  have HX := Lib.hid hx
  have hq0 : m / 2 ^ 1138 < B64 ^ 76 := Nat.lt_of_le_of_lt (Nat.div_le_self _ _) hm
  have HEND := Lib.hid (told_end (neg := false) hq53 (low := (-1074)) (by omega) hs)
  obtain ⟨lb, hlb⟩ : ∃ lb, bl q = lb := ⟨_, rfl⟩
  rw [hlb] at HEND
  have HM := Lib.hid hm
  have HQ0 := Lib.hid hq0
  have HREM := Lib.hid hr
  have HQV := Lib.hid hqv
  have HLB := Lib.hid hlb
  have HQ53 := Lib.hid hq53
  have HSS := Lib.hid hs
  have H0 := Lib.hid h0
  have hlbb : lb ≤ 54 := by rw [← hlb]; exact bl_le_of_lt (L := 54) (by omega)
  clear hx hx1 hm hq0 hr hqv hlb hq53 hs h0 hl hB1
  have hmx : (l : Int) + -2212 - 53 < -1074 := by omega
  have hmx2 : (0 : Int) ≤ (l : Int) := by omega
  clear hc
  go_enter Tryz.func88, Tryz.ntmps88
  go_wp2_with fail
  refine HS.out.mono ?_
  rintro r w' ⟨rfl, rfl⟩
  go_wp2_with fail
  refine HB.out.mono ?_
  rintro r w' ⟨rfl, rfl⟩
  go_wp2_with fail
  refine HR.out.mono ?_
  rintro r w2 ⟨rfl, vq, hq2, hOq, hW2⟩
  have hs2 : w.heap.size + 1 ≤ w2.heap.size := by have := hW2.size; simpa using this
  have hWq : Below w.heap.size w w2 := (below_new (Below.refl _ _) nilInt).trans hW2
  have hxm2 := HX.out.keep hWq
  have hxq2 : IntR w2 w.heap.size vq (m / 2 ^ 1138) := ⟨hq2, _, hOq⟩
  have hWa : Below w2.heap.size w2 ((w2.alloc nilInt).alloc nilInt) := below_new (below_new (Below.refl _ _) _) _
  have hB3 : Blk ((w2.alloc nilInt).alloc nilInt) w2.heap.size 149 [.bool false, .slice none 0 0] := Blk.alloc (Blk.new w2 _ _) _
  have hB4 : Blk ((w2.alloc nilInt).alloc nilInt) (w2.heap.size + 1) 149 [.bool false, .slice none 0 0] := by
    have := Blk.new (w2.alloc nilInt) #[.bool false, .slice none 0 0] 149
    simpa using this
  have HL := Lib.hid (iLsh_calls (w2.heap.size + 1) w.heap.size (m / 2 ^ 1138) 1138 false vq _ hB4 (hxq2.keep hWa) (by omega) (by omega) 76 HQ0.out (by omega))
  have H1 := Lib.hid (And.intro hWq (And.intro hxm2 (And.intro hxq2 (And.intro hWa (And.intro hB3 hOq)))))
  clear hWq hxm2 hxq2 hWa hB3 hB4 hq2 hOq hW2
  go_wp2_with fail
  refine HL.out.mono ?_
  rintro r w5 ⟨rfl, vt, ht5, hOt, hW5⟩
  have hs5 : w2.heap.size + 2 ≤ w5.heap.size := by have := hW5.size; simpa using this
  have hB5 : Blk w5 w2.heap.size 149 [.bool false, .slice none 0 0] := H1.out.2.2.2.2.1.below hW5 (by omega)
  have hW25 : Below w2.heap.size w2 w5 := H1.out.2.2.2.1.trans (hW5.mono (by omega))
  have HSub := Lib.hid (iSub_calls w2.heap.size bm (w2.heap.size + 1) m _ false vm vt w5 hB5 (H1.out.2.1.keep hW25) ⟨ht5, _, hOt⟩ (by omega) (by omega) (Nat.div_mul_le_self _ _) 76 HM.out (by omega))
  have H2 := Lib.hid hW25
  clear hB5 hW25 ht5 hOt hW5
  go_wp2_with fail
  refine HSub.out.mono ?_
  rintro r w6 ⟨rfl, vl, hl6, hOl, hW6⟩
  have hW26 := H2.out.trans hW6
  have hs6 : w5.heap.size ≤ w6.heap.size := hW6.size
  have hxq6 := H1.out.2.2.1.keep hW26
  have hxl6 : IntR w6 w2.heap.size vl (m - m / 2 ^ 1138 * 2 ^ 1138) := ⟨hl6, _, hOl⟩
  have HN := Lib.hid (newInt_calls (w6.alloc nilInt))
  have H3 := Lib.hid (And.intro hW26 (And.intro hxq6 hxl6))
  clear hW26 hxq6 hxl6 hl6 hOl hW6
  go_wp2_with fail
  refine HN.out.mono ?_
  rintro r w8 ⟨b1, v1, rfl, hb1, hI1, hW8⟩
  have hb1' : w6.heap.size + 1 ≤ b1 := by simpa using hb1
  have hB8 : Blk w8 w6.heap.size 149 [.bool false, .slice none 0 0] := Blk.below' (Blk.new w6 _ _) hW8
  have HLh := Lib.hid (iLsh_calls w6.heap.size b1 1 1137 false v1 w8 hB8 hI1 (by omega) (by omega) 1 (by decide) (by omega))
  have hW68 : Below w6.heap.size w6 w8 := (below_new (Below.refl _ _) nilInt).trans (hW8.mono (by simp))
  have H4 := Lib.hid hW68
  clear hB8 hW68 hW8 hI1 hb1
  go_wp2_with fail
  refine HLh.out.mono ?_
  rintro r w9 ⟨rfl, vh, hh9, hOh, hW9⟩
  have hW69 := H4.out.trans hW9
  have HC := Lib.hid (iCmp_calls w2.heap.size w6.heap.size _ _ vl vh w9 (H3.out.2.2.keep hW69) ⟨hh9, _, hOh⟩ (by omega))
  have H5 := Lib.hid hW69
  clear hW69 hh9 hOh hW9
  go_wp2_with fail
  refine HC.out.mono ?_
  rintro r w10 ⟨rfl, qd, rfl⟩
  have hW610 := below_drewN H5.out qd
  have HSg := iSign_calls w2.heap.size _ vl (w9.drewN qd) (H3.out.2.2.keep hW610)
  rw [if_pos HREM.out] at HSg
  replace HSg := Lib.hid HSg
  have hxq10 := H3.out.2.1.keep hW610
  have hWt : Below w.heap.size w (w9.drewN qd) := (H1.out.1.trans (H3.out.1.mono (by omega))).trans (hW610.mono (by omega))
  have H6 := Lib.hid (And.intro hxq10 hWt)
  have hqO : OwnN (w9.drewN qd) (w.heap.size + 1) (m / 2 ^ 1138) vq := (H1.out.2.2.2.2.2.keep H3.out.1).keep hW610
  have H7 := Lib.hid hqO
  clear hW610 hxq10 hWt hqO
  go_wp2_with fail
  refine HSg.out.mono ?_
  rintro r w' ⟨rfl, rfl⟩
  have hxt : Hid (IntR (w9.drewN qd) w.heap.size vq q) := by have := H6.out.1; rw [HQV.out] at this; exact this
  have HWT : Hid (Below w.heap.size w (w9.drewN qd)) := H6.out.2
  have HBq := iBitLen_calls w.heap.size q _ (w9.drewN qd) hxt.out
  rw [HLB.out] at HBq
  replace HBq := Lib.hid HBq
  by_cases hov : 1024 < (lb : Int) + (-1074)
  · have HF := Lib.hid (HEND.out.1 (by omega))
    go_wp2_with fail
    refine HBq.out.mono ?_
    rintro r w' ⟨rfl, rfl⟩
    have hBs : Blk ((w9.drewN qd).alloc nilInt) (w9.drewN qd).heap.size 149 [.bool false, .slice none 0 0] := Blk.new (w9.drewN qd) _ _
    have HSU := Lib.hid (iSetUint64_calls (w9.drewN qd).heap.size 9007199254740991 false _ hBs (by decide))
    clear hBs
    go_wp2_with fail
    refine HSU.out.mono ?_
    rintro r w13 ⟨rfl, vs, hs13, hOs, hW13⟩
    have HNU := number_calls false (w9.drewN qd).heap.size 9007199254740991 vs 971 w13 ⟨hs13, _, hOs⟩ (by decide) (by decide) (by decide) (by decide) (by decide)
    unfold numB at HNU
    rw [if_neg (by decide), top_num] at HNU
    replace HNU := Lib.hid HNU
    have HW13 : Hid (Below w.heap.size w w13) := HWT.out.trans (((below_new (Below.refl _ _) nilInt).trans hW13).mono HWT.out.size)
    clear hs13 hOs hW13
    go_wp2_with fail
    refine HNU.out.mono ?_
    rintro r w14 ⟨rfl, hW14⟩
    have HW14 : Hid (Below w.heap.size w w14) := HW13.out.trans (hW14.mono HW13.out.size)
    go_wp2
    go_ret2
    exact ⟨by rw [HF.out]; rfl, HW14.out⟩
  · have HF := Lib.hid (HEND.out.2 (by omega))
    have HNU := Lib.hid (number_calls false w.heap.size q _ (-1074) (w9.drewN qd) hxt.out HQ53.out (by omega) HF.out.1 HF.out.2.1 (fun h _ => rfl))
    go_wp2_with fail
    refine HBq.out.mono ?_
    rintro r w' ⟨rfl, rfl⟩
    go_wp2_with fail
    refine HNU.out.mono ?_
    rintro r w14 ⟨rfl, hW14⟩
    have HW14 : Hid (Below w.heap.size w w14) := HWT.out.trans (hW14.mono HWT.out.size)
    go_wp2
    go_ret2
    exact ⟨by rw [HF.out.2.2]; rfl, HW14.out⟩

set_option maxHeartbeats 4000000 in
set_option exponentiation.threshold 6000 in
set_option maxRecDepth 100000 in
theorem atold_sm_p1 (bm m l : Nat) (vm : Value) (w : World) (hx : IntR w bm vm m) (h0 : 0 < m) (hm : m < B64 ^ 76) (hl : bl m = l)
    (hc : l < 1191) (hr : ¬ m - m / 2 ^ 1138 * 2 ^ 1138 = 0) (q : Nat) (hqv : m / 2 ^ 1138 = q) (hq53 : q ≤ 9007199254740992) (hs : q < 4503599627370496 → (-1074) = -1074) :
    Calls Tryz.prog 88 #[.int .i64 2, .bool false, .pointer (some ⟨bm, 0, none⟩), .int .i64 (-2212), .bool false] w fun r w' => r = fRet (downEnd false q (-1074)) ∧ Below w.heap.size w w' := by
  have HS := iSign_calls bm m vm w hx
  rw [if_neg (by omega)] at HS
  replace HS := Lib.hid HS
  have HB := iBitLen_calls bm m vm w hx
  rw [hl] at HB
  replace HB := Lib.hid HB
  have hbm := hx.cells.2.2
  have hB1 : Blk (w.alloc nilInt) w.heap.size 149 [.bool false, .slice none 0 0] := Blk.new w _ _
  have hx1 := hx.keep (below_new (Below.refl _ _) nilInt)
  have HR := Lib.hid (iRsh_calls w.heap.size bm m 1138 false vm _ hB1 hx1 (by omega) (by omega) (by omega) 76 hm (by omega))
  have HX := Lib.hid hx
  have hq0 : m / 2 ^ 1138 < B64 ^ 76 := Nat.lt_of_le_of_lt (Nat.div_le_self _ _) hm
  have HEND := Lib.hid (told_end (neg := false) hq53 (low := (-1074)) (by omega) hs)
  obtain ⟨lb, hlb⟩ : ∃ lb, bl q = lb := ⟨_, rfl⟩
  rw [hlb] at HEND
  have HM := Lib.hid hm
  have HQ0 := Lib.hid hq0
  have HREM := Lib.hid hr
  have HQV := Lib.hid hqv
  have HLB := Lib.hid hlb
  have HQ53 := Lib.hid hq53
  have HSS := Lib.hid hs
  have H0 := Lib.hid h0
  have hlbb : lb ≤ 54 := by rw [← hlb]; exact bl_le_of_lt (L := 54) (by omega)
  clear hx hx1 hm hq0 hr hqv hlb hq53 hs h0 hl hB1
  have hmx : (l : Int) + -2212 - 53 < -1074 := by omega
  have hmx2 : (0 : Int) ≤ (l : Int) := by omega
  clear hc
  go_enter Tryz.func88, Tryz.ntmps88
  go_wp2_with fail
  refine HS.out.mono ?_
  rintro r w' ⟨rfl, rfl⟩
  go_wp2_with fail
  refine HB.out.mono ?_
  rintro r w' ⟨rfl, rfl⟩
  go_wp2_with fail
  refine HR.out.mono ?_
  rintro r w2 ⟨rfl, vq, hq2, hOq, hW2⟩
  have hs2 : w.heap.size + 1 ≤ w2.heap.size := by have := hW2.size; simpa using this
  have hWq : Below w.heap.size w w2 := (below_new (Below.refl _ _) nilInt).trans hW2
  have hxm2 := HX.out.keep hWq
  have hxq2 : IntR w2 w.heap.size vq (m / 2 ^ 1138) := ⟨hq2, _, hOq⟩
  have hWa : Below w2.heap.size w2 ((w2.alloc nilInt).alloc nilInt) := below_new (below_new (Below.refl _ _) _) _
  have hB3 : Blk ((w2.alloc nilInt).alloc nilInt) w2.heap.size 149 [.bool false, .slice none 0 0] := Blk.alloc (Blk.new w2 _ _) _
  have hB4 : Blk ((w2.alloc nilInt).alloc nilInt) (w2.heap.size + 1) 149 [.bool false, .slice none 0 0] := by
    have := Blk.new (w2.alloc nilInt) #[.bool false, .slice none 0 0] 149
    simpa using this
  have HL := Lib.hid (iLsh_calls (w2.heap.size + 1) w.heap.size (m / 2 ^ 1138) 1138 false vq _ hB4 (hxq2.keep hWa) (by omega) (by omega) 76 HQ0.out (by omega))
  have H1 := Lib.hid (And.intro hWq (And.intro hxm2 (And.intro hxq2 (And.intro hWa (And.intro hB3 hOq)))))
  clear hWq hxm2 hxq2 hWa hB3 hB4 hq2 hOq hW2
  go_wp2_with fail
  refine HL.out.mono ?_
  rintro r w5 ⟨rfl, vt, ht5, hOt, hW5⟩
  have hs5 : w2.heap.size + 2 ≤ w5.heap.size := by have := hW5.size; simpa using this
  have hB5 : Blk w5 w2.heap.size 149 [.bool false, .slice none 0 0] := H1.out.2.2.2.2.1.below hW5 (by omega)
  have hW25 : Below w2.heap.size w2 w5 := H1.out.2.2.2.1.trans (hW5.mono (by omega))
  have HSub := Lib.hid (iSub_calls w2.heap.size bm (w2.heap.size + 1) m _ false vm vt w5 hB5 (H1.out.2.1.keep hW25) ⟨ht5, _, hOt⟩ (by omega) (by omega) (Nat.div_mul_le_self _ _) 76 HM.out (by omega))
  have H2 := Lib.hid hW25
  clear hB5 hW25 ht5 hOt hW5
  go_wp2_with fail
  refine HSub.out.mono ?_
  rintro r w6 ⟨rfl, vl, hl6, hOl, hW6⟩
  have hW26 := H2.out.trans hW6
  have hs6 : w5.heap.size ≤ w6.heap.size := hW6.size
  have hxq6 := H1.out.2.2.1.keep hW26
  have hxl6 : IntR w6 w2.heap.size vl (m - m / 2 ^ 1138 * 2 ^ 1138) := ⟨hl6, _, hOl⟩
  have HN := Lib.hid (newInt_calls (w6.alloc nilInt))
  have H3 := Lib.hid (And.intro hW26 (And.intro hxq6 hxl6))
  clear hW26 hxq6 hxl6 hl6 hOl hW6
  go_wp2_with fail
  refine HN.out.mono ?_
  rintro r w8 ⟨b1, v1, rfl, hb1, hI1, hW8⟩
  have hb1' : w6.heap.size + 1 ≤ b1 := by simpa using hb1
  have hB8 : Blk w8 w6.heap.size 149 [.bool false, .slice none 0 0] := Blk.below' (Blk.new w6 _ _) hW8
  have HLh := Lib.hid (iLsh_calls w6.heap.size b1 1 1137 false v1 w8 hB8 hI1 (by omega) (by omega) 1 (by decide) (by omega))
  have hW68 : Below w6.heap.size w6 w8 := (below_new (Below.refl _ _) nilInt).trans (hW8.mono (by simp))
  have H4 := Lib.hid hW68
  clear hB8 hW68 hW8 hI1 hb1
  go_wp2_with fail
  refine HLh.out.mono ?_
  rintro r w9 ⟨rfl, vh, hh9, hOh, hW9⟩
  have hW69 := H4.out.trans hW9
  have HC := Lib.hid (iCmp_calls w2.heap.size w6.heap.size _ _ vl vh w9 (H3.out.2.2.keep hW69) ⟨hh9, _, hOh⟩ (by omega))
  have H5 := Lib.hid hW69
  clear hW69 hh9 hOh hW9
  go_wp2_with fail
  refine HC.out.mono ?_
  rintro r w10 ⟨rfl, qd, rfl⟩
  have hW610 := below_drewN H5.out qd
  have HSg := iSign_calls w2.heap.size _ vl (w9.drewN qd) (H3.out.2.2.keep hW610)
  rw [if_neg HREM.out] at HSg
  replace HSg := Lib.hid HSg
  have hxq10 := H3.out.2.1.keep hW610
  have hWt : Below w.heap.size w (w9.drewN qd) := (H1.out.1.trans (H3.out.1.mono (by omega))).trans (hW610.mono (by omega))
  have H6 := Lib.hid (And.intro hxq10 hWt)
  have hqO : OwnN (w9.drewN qd) (w.heap.size + 1) (m / 2 ^ 1138) vq := (H1.out.2.2.2.2.2.keep H3.out.1).keep hW610
  have H7 := Lib.hid hqO
  clear hW610 hxq10 hWt hqO
  go_wp2_with fail
  refine HSg.out.mono ?_
  rintro r w' ⟨rfl, rfl⟩
  have hxt : Hid (IntR (w9.drewN qd) w.heap.size vq q) := by have := H6.out.1; rw [HQV.out] at this; exact this
  have HWT : Hid (Below w.heap.size w (w9.drewN qd)) := H6.out.2
  have HBq := iBitLen_calls w.heap.size q _ (w9.drewN qd) hxt.out
  rw [HLB.out] at HBq
  replace HBq := Lib.hid HBq
  by_cases hov : 1024 < (lb : Int) + (-1074)
  · have HF := Lib.hid (HEND.out.1 (by omega))
    go_wp2_with fail
    refine HBq.out.mono ?_
    rintro r w' ⟨rfl, rfl⟩
    have hBs : Blk ((w9.drewN qd).alloc nilInt) (w9.drewN qd).heap.size 149 [.bool false, .slice none 0 0] := Blk.new (w9.drewN qd) _ _
    have HSU := Lib.hid (iSetUint64_calls (w9.drewN qd).heap.size 9007199254740991 false _ hBs (by decide))
    clear hBs
    go_wp2_with fail
    refine HSU.out.mono ?_
    rintro r w13 ⟨rfl, vs, hs13, hOs, hW13⟩
    have HNU := number_calls false (w9.drewN qd).heap.size 9007199254740991 vs 971 w13 ⟨hs13, _, hOs⟩ (by decide) (by decide) (by decide) (by decide) (by decide)
    unfold numB at HNU
    rw [if_neg (by decide), top_num] at HNU
    replace HNU := Lib.hid HNU
    have HW13 : Hid (Below w.heap.size w w13) := HWT.out.trans (((below_new (Below.refl _ _) nilInt).trans hW13).mono HWT.out.size)
    clear hs13 hOs hW13
    go_wp2_with fail
    refine HNU.out.mono ?_
    rintro r w14 ⟨rfl, hW14⟩
    have HW14 : Hid (Below w.heap.size w w14) := HW13.out.trans (hW14.mono HW13.out.size)
    go_wp2
    go_ret2
    exact ⟨by rw [HF.out]; rfl, HW14.out⟩
  · have HF := Lib.hid (HEND.out.2 (by omega))
    have HNU := Lib.hid (number_calls false w.heap.size q _ (-1074) (w9.drewN qd) hxt.out HQ53.out (by omega) HF.out.1 HF.out.2.1 (fun h _ => rfl))
    go_wp2_with fail
    refine HBq.out.mono ?_
    rintro r w' ⟨rfl, rfl⟩
    go_wp2_with fail
    refine HNU.out.mono ?_
    rintro r w14 ⟨rfl, hW14⟩
    have HW14 : Hid (Below w.heap.size w w14) := HWT.out.trans (hW14.mono HWT.out.size)
    go_wp2
    go_ret2
    exact ⟨by rw [HF.out.2.2]; rfl, HW14.out⟩

set_option maxHeartbeats 4000000 in
set_option exponentiation.threshold 6000 in
set_option maxRecDepth 100000 in
theorem atold_sm_n0 (bm m l : Nat) (vm : Value) (w : World) (hx : IntR w bm vm m) (h0 : 0 < m) (hm : m < B64 ^ 76) (hl : bl m = l)
    (hc : l < 1191) (hr : m - m / 2 ^ 1138 * 2 ^ 1138 = 0) (q : Nat) (hqv : m / 2 ^ 1138 = q) (hq53 : q ≤ 9007199254740992) (hs : q < 4503599627370496 → (-1074) = -1074) :
    Calls Tryz.prog 88 #[.int .i64 2, .bool true, .pointer (some ⟨bm, 0, none⟩), .int .i64 (-2212), .bool false] w fun r w' => r = fRet (downEnd true q (-1074)) ∧ Below w.heap.size w w' := by
  have HS := iSign_calls bm m vm w hx
  rw [if_neg (by omega)] at HS
  replace HS := Lib.hid HS
  have HB := iBitLen_calls bm m vm w hx
  rw [hl] at HB
  replace HB := Lib.hid HB
  have hbm := hx.cells.2.2
  have hB1 : Blk (w.alloc nilInt) w.heap.size 149 [.bool false, .slice none 0 0] := Blk.new w _ _
  have hx1 := hx.keep (below_new (Below.refl _ _) nilInt)
  have HR := Lib.hid (iRsh_calls w.heap.size bm m 1138 false vm _ hB1 hx1 (by omega) (by omega) (by omega) 76 hm (by omega))
  have HX := Lib.hid hx
  have hq0 : m / 2 ^ 1138 < B64 ^ 76 := Nat.lt_of_le_of_lt (Nat.div_le_self _ _) hm
  have HEND := Lib.hid (told_end (neg := true) hq53 (low := (-1074)) (by omega) hs)
  obtain ⟨lb, hlb⟩ : ∃ lb, bl q = lb := ⟨_, rfl⟩
  rw [hlb] at HEND
  have HM := Lib.hid hm
  have HQ0 := Lib.hid hq0
  have HREM := Lib.hid hr
  have HQV := Lib.hid hqv
  have HLB := Lib.hid hlb
  have HQ53 := Lib.hid hq53
  have HSS := Lib.hid hs
  have H0 := Lib.hid h0
  have hlbb : lb ≤ 54 := by rw [← hlb]; exact bl_le_of_lt (L := 54) (by omega)
  clear hx hx1 hm hq0 hr hqv hlb hq53 hs h0 hl hB1
  have hmx : (l : Int) + -2212 - 53 < -1074 := by omega
  have hmx2 : (0 : Int) ≤ (l : Int) := by omega
  clear hc
  go_enter Tryz.func88, Tryz.ntmps88
  go_wp2_with fail
  refine HS.out.mono ?_
  rintro r w' ⟨rfl, rfl⟩
  go_wp2_with fail
  refine HB.out.mono ?_
  rintro r w' ⟨rfl, rfl⟩
  go_wp2_with fail
  refine HR.out.mono ?_
  rintro r w2 ⟨rfl, vq, hq2, hOq, hW2⟩
  have hs2 : w.heap.size + 1 ≤ w2.heap.size := by have := hW2.size; simpa using this
  have hWq : Below w.heap.size w w2 := (below_new (Below.refl _ _) nilInt).trans hW2
  have hxm2 := HX.out.keep hWq
  have hxq2 : IntR w2 w.heap.size vq (m / 2 ^ 1138) := ⟨hq2, _, hOq⟩
  have hWa : Below w2.heap.size w2 ((w2.alloc nilInt).alloc nilInt) := below_new (below_new (Below.refl _ _) _) _
  have hB3 : Blk ((w2.alloc nilInt).alloc nilInt) w2.heap.size 149 [.bool false, .slice none 0 0] := Blk.alloc (Blk.new w2 _ _) _
  have hB4 : Blk ((w2.alloc nilInt).alloc nilInt) (w2.heap.size + 1) 149 [.bool false, .slice none 0 0] := by
    have := Blk.new (w2.alloc nilInt) #[.bool false, .slice none 0 0] 149
    simpa using this
  have HL := Lib.hid (iLsh_calls (w2.heap.size + 1) w.heap.size (m / 2 ^ 1138) 1138 false vq _ hB4 (hxq2.keep hWa) (by omega) (by omega) 76 HQ0.out (by omega))
  have H1 := Lib.hid (And.intro hWq (And.intro hxm2 (And.intro hxq2 (And.intro hWa (And.intro hB3 hOq)))))
  clear hWq hxm2 hxq2 hWa hB3 hB4 hq2 hOq hW2
  go_wp2_with fail
  refine HL.out.mono ?_
  rintro r w5 ⟨rfl, vt, ht5, hOt, hW5⟩
  have hs5 : w2.heap.size + 2 ≤ w5.heap.size := by have := hW5.size; simpa using this
  have hB5 : Blk w5 w2.heap.size 149 [.bool false, .slice none 0 0] := H1.out.2.2.2.2.1.below hW5 (by omega)
  have hW25 : Below w2.heap.size w2 w5 := H1.out.2.2.2.1.trans (hW5.mono (by omega))
  have HSub := Lib.hid (iSub_calls w2.heap.size bm (w2.heap.size + 1) m _ false vm vt w5 hB5 (H1.out.2.1.keep hW25) ⟨ht5, _, hOt⟩ (by omega) (by omega) (Nat.div_mul_le_self _ _) 76 HM.out (by omega))
  have H2 := Lib.hid hW25
  clear hB5 hW25 ht5 hOt hW5
  go_wp2_with fail
  refine HSub.out.mono ?_
  rintro r w6 ⟨rfl, vl, hl6, hOl, hW6⟩
  have hW26 := H2.out.trans hW6
  have hs6 : w5.heap.size ≤ w6.heap.size := hW6.size
  have hxq6 := H1.out.2.2.1.keep hW26
  have hxl6 : IntR w6 w2.heap.size vl (m - m / 2 ^ 1138 * 2 ^ 1138) := ⟨hl6, _, hOl⟩
  have HN := Lib.hid (newInt_calls (w6.alloc nilInt))
  have H3 := Lib.hid (And.intro hW26 (And.intro hxq6 hxl6))
  clear hW26 hxq6 hxl6 hl6 hOl hW6
  go_wp2_with fail
  refine HN.out.mono ?_
  rintro r w8 ⟨b1, v1, rfl, hb1, hI1, hW8⟩
  have hb1' : w6.heap.size + 1 ≤ b1 := by simpa using hb1
  have hB8 : Blk w8 w6.heap.size 149 [.bool false, .slice none 0 0] := Blk.below' (Blk.new w6 _ _) hW8
  have HLh := Lib.hid (iLsh_calls w6.heap.size b1 1 1137 false v1 w8 hB8 hI1 (by omega) (by omega) 1 (by decide) (by omega))
  have hW68 : Below w6.heap.size w6 w8 := (below_new (Below.refl _ _) nilInt).trans (hW8.mono (by simp))
  have H4 := Lib.hid hW68
  clear hB8 hW68 hW8 hI1 hb1
  go_wp2_with fail
  refine HLh.out.mono ?_
  rintro r w9 ⟨rfl, vh, hh9, hOh, hW9⟩
  have hW69 := H4.out.trans hW9
  have HC := Lib.hid (iCmp_calls w2.heap.size w6.heap.size _ _ vl vh w9 (H3.out.2.2.keep hW69) ⟨hh9, _, hOh⟩ (by omega))
  have H5 := Lib.hid hW69
  clear hW69 hh9 hOh hW9
  go_wp2_with fail
  refine HC.out.mono ?_
  rintro r w10 ⟨rfl, qd, rfl⟩
  have hW610 := below_drewN H5.out qd
  have HSg := iSign_calls w2.heap.size _ vl (w9.drewN qd) (H3.out.2.2.keep hW610)
  rw [if_pos HREM.out] at HSg
  replace HSg := Lib.hid HSg
  have hxq10 := H3.out.2.1.keep hW610
  have hWt : Below w.heap.size w (w9.drewN qd) := (H1.out.1.trans (H3.out.1.mono (by omega))).trans (hW610.mono (by omega))
  have H6 := Lib.hid (And.intro hxq10 hWt)
  have hqO : OwnN (w9.drewN qd) (w.heap.size + 1) (m / 2 ^ 1138) vq := (H1.out.2.2.2.2.2.keep H3.out.1).keep hW610
  have H7 := Lib.hid hqO
  clear hW610 hxq10 hWt hqO
  go_wp2_with fail
  refine HSg.out.mono ?_
  rintro r w' ⟨rfl, rfl⟩
  have hxt : Hid (IntR (w9.drewN qd) w.heap.size vq q) := by have := H6.out.1; rw [HQV.out] at this; exact this
  have HWT : Hid (Below w.heap.size w (w9.drewN qd)) := H6.out.2
  have HBq := iBitLen_calls w.heap.size q _ (w9.drewN qd) hxt.out
  rw [HLB.out] at HBq
  replace HBq := Lib.hid HBq
  by_cases hov : 1024 < (lb : Int) + (-1074)
  · have HF := Lib.hid (HEND.out.1 (by omega))
    go_wp2_with fail
    refine HBq.out.mono ?_
    rintro r w' ⟨rfl, rfl⟩
    go_wp2
    go_ret2
    exact ⟨by rw [HF.out]; rfl, HWT.out⟩
  · have HF := Lib.hid (HEND.out.2 (by omega))
    have HNU := Lib.hid (number_calls true w.heap.size q _ (-1074) (w9.drewN qd) hxt.out HQ53.out (by omega) HF.out.1 HF.out.2.1 (fun h _ => rfl))
    go_wp2_with fail
    refine HBq.out.mono ?_
    rintro r w' ⟨rfl, rfl⟩
    go_wp2_with fail
    refine HNU.out.mono ?_
    rintro r w14 ⟨rfl, hW14⟩
    have HW14 : Hid (Below w.heap.size w w14) := HWT.out.trans (hW14.mono HWT.out.size)
    go_wp2
    go_ret2
    exact ⟨by rw [HF.out.2.2]; rfl, HW14.out⟩

set_option maxHeartbeats 4000000 in
set_option exponentiation.threshold 6000 in
set_option maxRecDepth 100000 in
theorem atold_sm_n1 (bm m l : Nat) (vm : Value) (w : World) (hx : IntR w bm vm m) (h0 : 0 < m) (hm : m < B64 ^ 76) (hl : bl m = l)
    (hc : l < 1191) (hr : ¬ m - m / 2 ^ 1138 * 2 ^ 1138 = 0) (q : Nat) (hqv : m / 2 ^ 1138 + 1 = q) (hq53 : q ≤ 9007199254740992) (hs : q < 4503599627370496 → (-1074) = -1074) :
    Calls Tryz.prog 88 #[.int .i64 2, .bool true, .pointer (some ⟨bm, 0, none⟩), .int .i64 (-2212), .bool false] w fun r w' => r = fRet (downEnd true q (-1074)) ∧ Below w.heap.size w w' := by
  have HS := iSign_calls bm m vm w hx
  rw [if_neg (by omega)] at HS
  replace HS := Lib.hid HS
  have HB := iBitLen_calls bm m vm w hx
  rw [hl] at HB
  replace HB := Lib.hid HB
  have hbm := hx.cells.2.2
  have hB1 : Blk (w.alloc nilInt) w.heap.size 149 [.bool false, .slice none 0 0] := Blk.new w _ _
  have hx1 := hx.keep (below_new (Below.refl _ _) nilInt)
  have HR := Lib.hid (iRsh_calls w.heap.size bm m 1138 false vm _ hB1 hx1 (by omega) (by omega) (by omega) 76 hm (by omega))
  have HX := Lib.hid hx
  have hq0 : m / 2 ^ 1138 < B64 ^ 76 := Nat.lt_of_le_of_lt (Nat.div_le_self _ _) hm
  have HEND := Lib.hid (told_end (neg := true) hq53 (low := (-1074)) (by omega) hs)
  obtain ⟨lb, hlb⟩ : ∃ lb, bl q = lb := ⟨_, rfl⟩
  rw [hlb] at HEND
  have HM := Lib.hid hm
  have HQ0 := Lib.hid hq0
  have HREM := Lib.hid hr
  have HQV := Lib.hid hqv
  have HLB := Lib.hid hlb
  have HQ53 := Lib.hid hq53
  have HSS := Lib.hid hs
  have H0 := Lib.hid h0
  have hlbb : lb ≤ 54 := by rw [← hlb]; exact bl_le_of_lt (L := 54) (by omega)
  clear hx hx1 hm hq0 hr hqv hlb hq53 hs h0 hl hB1
  have hmx : (l : Int) + -2212 - 53 < -1074 := by omega
  have hmx2 : (0 : Int) ≤ (l : Int) := by omega
  clear hc
  go_enter Tryz.func88, Tryz.ntmps88
  go_wp2_with fail
  refine HS.out.mono ?_
  rintro r w' ⟨rfl, rfl⟩
  go_wp2_with fail
  refine HB.out.mono ?_
  rintro r w' ⟨rfl, rfl⟩
  go_wp2_with fail
  refine HR.out.mono ?_
  rintro r w2 ⟨rfl, vq, hq2, hOq, hW2⟩
  have hs2 : w.heap.size + 1 ≤ w2.heap.size := by have := hW2.size; simpa using this
  have hWq : Below w.heap.size w w2 := (below_new (Below.refl _ _) nilInt).trans hW2
  have hxm2 := HX.out.keep hWq
  have hxq2 : IntR w2 w.heap.size vq (m / 2 ^ 1138) := ⟨hq2, _, hOq⟩
  have hWa : Below w2.heap.size w2 ((w2.alloc nilInt).alloc nilInt) := below_new (below_new (Below.refl _ _) _) _
  have hB3 : Blk ((w2.alloc nilInt).alloc nilInt) w2.heap.size 149 [.bool false, .slice none 0 0] := Blk.alloc (Blk.new w2 _ _) _
  have hB4 : Blk ((w2.alloc nilInt).alloc nilInt) (w2.heap.size + 1) 149 [.bool false, .slice none 0 0] := by
    have := Blk.new (w2.alloc nilInt) #[.bool false, .slice none 0 0] 149
    simpa using this
  have HL := Lib.hid (iLsh_calls (w2.heap.size + 1) w.heap.size (m / 2 ^ 1138) 1138 false vq _ hB4 (hxq2.keep hWa) (by omega) (by omega) 76 HQ0.out (by omega))
  have H1 := Lib.hid (And.intro hWq (And.intro hxm2 (And.intro hxq2 (And.intro hWa (And.intro hB3 hOq)))))
  clear hWq hxm2 hxq2 hWa hB3 hB4 hq2 hOq hW2
  go_wp2_with fail
  refine HL.out.mono ?_
  rintro r w5 ⟨rfl, vt, ht5, hOt, hW5⟩
  have hs5 : w2.heap.size + 2 ≤ w5.heap.size := by have := hW5.size; simpa using this
  have hB5 : Blk w5 w2.heap.size 149 [.bool false, .slice none 0 0] := H1.out.2.2.2.2.1.below hW5 (by omega)
  have hW25 : Below w2.heap.size w2 w5 := H1.out.2.2.2.1.trans (hW5.mono (by omega))
  have HSub := Lib.hid (iSub_calls w2.heap.size bm (w2.heap.size + 1) m _ false vm vt w5 hB5 (H1.out.2.1.keep hW25) ⟨ht5, _, hOt⟩ (by omega) (by omega) (Nat.div_mul_le_self _ _) 76 HM.out (by omega))
  have H2 := Lib.hid hW25
  clear hB5 hW25 ht5 hOt hW5
  go_wp2_with fail
  refine HSub.out.mono ?_
  rintro r w6 ⟨rfl, vl, hl6, hOl, hW6⟩
  have hW26 := H2.out.trans hW6
  have hs6 : w5.heap.size ≤ w6.heap.size := hW6.size
  have hxq6 := H1.out.2.2.1.keep hW26
  have hxl6 : IntR w6 w2.heap.size vl (m - m / 2 ^ 1138 * 2 ^ 1138) := ⟨hl6, _, hOl⟩
  have HN := Lib.hid (newInt_calls (w6.alloc nilInt))
  have H3 := Lib.hid (And.intro hW26 (And.intro hxq6 hxl6))
  clear hW26 hxq6 hxl6 hl6 hOl hW6
  go_wp2_with fail
  refine HN.out.mono ?_
  rintro r w8 ⟨b1, v1, rfl, hb1, hI1, hW8⟩
  have hb1' : w6.heap.size + 1 ≤ b1 := by simpa using hb1
  have hB8 : Blk w8 w6.heap.size 149 [.bool false, .slice none 0 0] := Blk.below' (Blk.new w6 _ _) hW8
  have HLh := Lib.hid (iLsh_calls w6.heap.size b1 1 1137 false v1 w8 hB8 hI1 (by omega) (by omega) 1 (by decide) (by omega))
  have hW68 : Below w6.heap.size w6 w8 := (below_new (Below.refl _ _) nilInt).trans (hW8.mono (by simp))
  have H4 := Lib.hid hW68
  clear hB8 hW68 hW8 hI1 hb1
  go_wp2_with fail
  refine HLh.out.mono ?_
  rintro r w9 ⟨rfl, vh, hh9, hOh, hW9⟩
  have hW69 := H4.out.trans hW9
  have HC := Lib.hid (iCmp_calls w2.heap.size w6.heap.size _ _ vl vh w9 (H3.out.2.2.keep hW69) ⟨hh9, _, hOh⟩ (by omega))
  have H5 := Lib.hid hW69
  clear hW69 hh9 hOh hW9
  go_wp2_with fail
  refine HC.out.mono ?_
  rintro r w10 ⟨rfl, qd, rfl⟩
  have hW610 := below_drewN H5.out qd
  have HSg := iSign_calls w2.heap.size _ vl (w9.drewN qd) (H3.out.2.2.keep hW610)
  rw [if_neg HREM.out] at HSg
  replace HSg := Lib.hid HSg
  have hxq10 := H3.out.2.1.keep hW610
  have hWt : Below w.heap.size w (w9.drewN qd) := (H1.out.1.trans (H3.out.1.mono (by omega))).trans (hW610.mono (by omega))
  have H6 := Lib.hid (And.intro hxq10 hWt)
  have hqO : OwnN (w9.drewN qd) (w.heap.size + 1) (m / 2 ^ 1138) vq := (H1.out.2.2.2.2.2.keep H3.out.1).keep hW610
  have H7 := Lib.hid hqO
  clear hW610 hxq10 hWt hqO
  go_wp2_with fail
  refine HSg.out.mono ?_
  rintro r w' ⟨rfl, rfl⟩
  have HN2 := Lib.hid (newInt_calls (w9.drewN qd))
  go_wp2_with fail
  refine HN2.out.mono ?_
  rintro r w11 ⟨b2, v2, rfl, hb2, hI2, hW11⟩
  have hb2' : w9.heap.size ≤ b2 := hb2
  have hs9 : w6.heap.size ≤ w9.heap.size := H5.out.size
  have HA := Lib.hid (iAdd_calls w.heap.size b2 (m / 2 ^ 1138) 1 vq v2 w11 (H6.out.1.1.below' hW11) (H7.out.keep hW11) hI2 (by omega) 76 HQ0.out (Nat.lt_of_lt_of_le (by decide : 1 < B64 ^ 1) (Nat.pow_le_pow_right (by decide) (by omega))) (by omega))
  have H8 := Lib.hid (H6.out.2.trans (hW11.mono (by have := H6.out.2.size; exact this)))
  clear hW11 hI2 hb2
  go_wp2_with fail
  refine HA.out.mono ?_
  rintro r w12 ⟨rfl, vp, hp12, hOp, hW12⟩
  have hxt : Hid (IntR w12 w.heap.size vp q) := ⟨hp12, _, by rw [← HQV.out]; exact hOp⟩
  have HWT : Hid (Below w.heap.size w w12) := H8.out.trans hW12
  clear hp12 hOp hW12
  have HBq := iBitLen_calls w.heap.size q _ w12 hxt.out
  rw [HLB.out] at HBq
  replace HBq := Lib.hid HBq
  by_cases hov : 1024 < (lb : Int) + (-1074)
  · have HF := Lib.hid (HEND.out.1 (by omega))
    go_wp2_with fail
    refine HBq.out.mono ?_
    rintro r w' ⟨rfl, rfl⟩
    go_wp2
    go_ret2
    exact ⟨by rw [HF.out]; rfl, HWT.out⟩
  · have HF := Lib.hid (HEND.out.2 (by omega))
    have HNU := Lib.hid (number_calls true w.heap.size q _ (-1074) w12 hxt.out HQ53.out (by omega) HF.out.1 HF.out.2.1 (fun h _ => rfl))
    go_wp2_with fail
    refine HBq.out.mono ?_
    rintro r w' ⟨rfl, rfl⟩
    go_wp2_with fail
    refine HNU.out.mono ?_
    rintro r w14 ⟨rfl, hW14⟩
    have HW14 : Hid (Below w.heap.size w w14) := HWT.out.trans (hW14.mono HWT.out.size)
    go_wp2
    go_ret2
    exact ⟨by rw [HF.out.2.2]; rfl, HW14.out⟩
end Go.Proofs.YtcfejobdgiiihaaGreatDoor
