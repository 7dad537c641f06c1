/- Walks and plain laws of this seat's functions, part 15: Z8 Z9 Z10. -/
import Derived.Test.YtcfejobdgiiihaaGreatDoorJ14
set_option linter.unusedVariables false
set_option linter.unusedSimpArgs false
namespace Go.Proofs.YtcfejobdgiiihaaGreatDoor
open Go.RowKit

def iInts (xs : List Int) : List Value := xs.map fun x => .int .i64 x
def sgS (z : Zn) (a : List Nat) (k : Nat) : Nat → List Int
  | 0 => List.replicate k 0
  | c + 1 => if z.Ids.getD c 0 < (k : Int) then (sgS z a k c).set (z.Ids.getD c 0).toNat (-(Int.sign (dotS a (z.G.getD c []) z.N.toNat))) else sgS z a k c
theorem sgS_len (z : Zn) (a : List Nat) (k : Nat) : ∀ c, (sgS z a k c).length = k
  | 0 => by simp [sgS]
  | c + 1 => by rw [sgS]; split <;> simp [sgS_len z a k c]
def signsS (z : Zn) (a : List Nat) (k : Int) : List Int :=
  if k < 0 ∨ 256 < k then [] else if fitsB z a then sgS z a k.toNat z.Ids.length else List.replicate k.toNat 0
theorem madeI (n : Nat) : (madeCells #[Value.int .i64 0] n).toList = iInts (List.replicate n 0) := by
  simp [iInts, madeCells, Nat.mod_one, List.map_const']
theorem makeI {n : Nat} (W : World) (h : n ≤ 4398046511104) : (Instr.makeSlice 40 (.int .i64 (n : Int)) (.int .i64 (n : Int))).run Tryz.prog W = .ok (.slice (some ⟨W.heap.size, 0, none⟩) n n) (W.alloc (.cells (madeCells #[.int .i64 0] n) 3)) :=
  run_make_row' (P := Tryz.prog) 40 3 (.int .i64 0) 8 (by kernel_rfl) (by kernel_rfl) rfl .i64 .i64 n (by omega) (by omega) W
theorem Blk.atI {w : World} {b t : Nat} {zs : List Int} (h : Blk w b t (iInts zs)) {i : Nat} (hi : i < zs.length) :
    w.cell? ⟨b, i, none⟩ = some (.int .i64 (zs.getD i 0)) ∧ w.frozen? ⟨b, i, none⟩ = false := by
  refine ⟨?_, h.frozen i⟩
  rw [h.cell]; simp [iInts, hi]
theorem Blk.setI {w : World} {b t : Nat} {zs : List Int} (h : Blk w b t (iInts zs)) (i : Nat) (x : Int) :
    Blk (w.setCell ⟨b, i, none⟩ (.int .i64 x)) b t (iInts (zs.set i x)) := by
  have := h.set i (.int .i64 x)
  simpa [iInts, List.map_set] using this
theorem sign_pow (X : Int) : Int.sign (X * (2 ^ 64 : Nat)) = Int.sign X := by
  rw [Int.sign_mul, Int.sign_eq_one_of_pos (a := ((2 ^ 64 : Nat) : Int)) (by decide), Int.mul_one]
theorem sign_bd (X : Int) : -1 ≤ Int.sign X ∧ Int.sign X ≤ 1 := by
  rcases Int.lt_trichotomy X 0 with h | h | h
  · rw [Int.sign_eq_neg_one_of_neg h]; decide
  · subst h; decide
  · rw [Int.sign_eq_one_of_pos h]; decide
set_option maxHeartbeats 2000000 in
set_option maxRecDepth 100000 in
theorem msigns_nil (z : Zn) (cs : List Value) (A : Option Addr) (n c : Nat) (k : Int) (w : World) (base : Nat) (h : zRd.R w base z cs) (hk : k < 0 ∨ 256 < k) :
    Calls Tryz.prog 20 #[.agg cs.toArray, .slice A n c, .int .i64 k] w fun e w' => e = .returned (.slice none 0 0) ∧ Below w.heap.size w w' := by
  obtain ⟨AC, AI, AG, AR, cC, cI, cG, cR, rfl, hr, hl⟩ := h
  clear hr hl
  by_cases h1 : k < 0
  · clear hk
    go_enter Tryz.func20, Tryz.ntmps20
    go_wp2
    go_ret
    exact ⟨rfl, below_new (Below.refl _ _) _⟩
  · have h2 : 256 < k := by omega
    clear hk
    go_enter Tryz.func20, Tryz.ntmps20
    go_wp2
    go_ret
    exact ⟨rfl, below_new (Below.refl _ _) _⟩
set_option maxHeartbeats 4000000 in
set_option maxRecDepth 100000 in
theorem msigns_bad (z : Zn) (cs : List Value) (A : Option Addr) (a : List Nat) (n c : Nat) (k : Nat) (w : World) (base : Nat) (h : zRd.R w base z cs) (hn : a.length = n) (ha : f64.Row 47 w base A a) (hal : a.length ≤ 17592186044416) (hk : k ≤ 256) (hf : fitsB z a = false) :
    Calls Tryz.prog 20 #[.agg cs.toArray, .slice A n c, .int .i64 k] w fun e w' => ∃ g, e = .returned (.slice (some ⟨g, 0, none⟩) k k) ∧ w.heap.size ≤ g ∧ Blk w' g 3 (iInts (List.replicate k 0)) ∧ Below w.heap.size w w' := by
  have HF := Lib.hid (fun W (hW : Below w.heap.size w W) => fits_calls z cs A a n c W base (zRd.below h hW) hn (show f64.Row 47 W base A a from ha.below hW) hal)
  rw [hf] at HF
  obtain ⟨AC, AI, AG, AR, cC, cI, cG, cR, rfl, hr, hl⟩ := h
  have HW := Lib.hid (below_new (Below.refl w.heap.size w) (.cells #[.int .i64 z.N, .slice AC z.C.length cC, .slice AI z.Ids.length cI, .slice AG z.G.length cG, .slice AR z.R.length cR, .bool z.bad] 42))
  have hm := fun W => makeI (n := k) W (by omega)
  clear hr hl ha hf
  have hk0 : (0 : Int) ≤ (k : Int) := by omega
  have hk2 : (k : Int) ≤ 256 := by omega
  have d1 : decide ((k : Int) < 0) = false := by simp
  have d2 : decide ((256 : Int) < (k : Int)) = false := by simp; omega
  have HB := Lib.hid (Blk.new (w.alloc (.cells #[.int .i64 z.N, .slice AC z.C.length cC, .slice AI z.Ids.length cI, .slice AG z.G.length cG, .slice AR z.R.length cR, .bool z.bad] 42)) (madeCells #[.int .i64 0] k) 3)
  rw [madeI] at HB
  go_enter Tryz.func20, Tryz.ntmps20
  go_wp2_with fail
  refine (HF.out _ (below_new HW.out _)).mono ?_
  rintro e w2 ⟨rfl, hW2⟩
  have HW2 := Lib.hid (And.intro (below_next (below_new HW.out _) hW2) (Blk.below' HB.out hW2))
  clear hW2 hm
  go_wp2
  go_ret
  exact ⟨_, rfl, by omega, by have := HW2.out.2; simpa using this, HW2.out.1⟩
set_option maxHeartbeats 4000000 in
set_option maxRecDepth 100000 in
theorem msigns_good (z : Zn) (cs : List Value) (A : Option Addr) (a : List Nat) (n c : Nat) (k : Nat) (w : World) (base : Nat) (h : zRd.R w base z cs) (hn : a.length = n) (ha : f64.Row 47 w base A a) (hal : a.length ≤ 17592186044416) (hk : k ≤ 256) (hf : fitsB z a = true) :
    Calls Tryz.prog 20 #[.agg cs.toArray, .slice A n c, .int .i64 k] w fun e w' => ∃ g, e = .returned (.slice (some ⟨g, 0, none⟩) k k) ∧ w.heap.size ≤ g ∧ Blk w' g 3 (iInts (sgS z a k z.Ids.length)) ∧ Below w.heap.size w w' := by
  subst hn
  have HF := Lib.hid (fun W (hW : Below w.heap.size w W) => fits_calls z cs A a a.length c W base (zRd.below h hW) rfl (show f64.Row 47 W base A a from ha.below hW) hal)
  rw [hf] at HF
  have hff := fits_facts hf
  obtain ⟨AC, AI, AG, AR, cC, cI, cG, cR, rfl, hr, hl⟩ := h
  have HW := Lib.hid (below_new (Below.refl w.heap.size w) (.cells #[.int .i64 z.N, .slice AC z.C.length cC, .slice AI z.Ids.length cI, .slice AG z.G.length cG, .slice AR z.R.length cR, .bool z.bad] 42))
  have hm := fun W => makeI (n := k) W (by omega)
  have HRA := Lib.hid (fun W (hW : Below w.heap.size w W) => (show f64.Row 47 W base A a from ha.below hW))
  have HRI := Lib.hid (fun W (hW : Below w.heap.size w W) => (show i64.Row 3 W base AI z.Ids from hr.I.below hW))
  have HRG := Lib.hid (fun W (hW : Below w.heap.size w W) => (show (bsl 47 f64).Row 22 W base AG z.G from hr.G.below hW))
  have HFF := Lib.hid hff
  have hgl1 : z.Ids.length ≤ z.G.length := Nat.le_of_eq hff.ig
  have hgl2 : z.G.length ≤ z.Ids.length := Nat.le_of_eq hff.ig.symm
  have hgl3 : z.G.length ≤ 17592186044416 := Nat.le_trans hl.g.2 (by decide)
  clear hr hl ha hf hff
  have hk0 : (0 : Int) ≤ (k : Int) := by omega
  have hk2 : (k : Int) ≤ 256 := by omega
  have d1 : decide ((k : Int) < 0) = false := by simp
  have d2 : decide ((256 : Int) < (k : Int)) = false := by simp; omega
  have HB := Lib.hid (Blk.new (w.alloc (.cells #[.int .i64 z.N, .slice AC z.C.length cC, .slice AI z.Ids.length cI, .slice AG z.G.length cG, .slice AR z.R.length cR, .bool z.bad] 42)) (madeCells #[.int .i64 0] k) 3)
  rw [madeI] at HB
  have HBZ := Lib.hid ((Blk.new w #[.int .i64 z.N, .slice AC z.C.length cC, .slice AI z.Ids.length cI, .slice AG z.G.length cG, .slice AR z.R.length cR, .bool z.bad] 42).alloc (.cells (madeCells #[.int .i64 0] k) 3))
  go_enter Tryz.func20, Tryz.ntmps20
  go_wp2_with fail
  refine (HF.out _ (below_new HW.out _)).mono ?_
  rintro e w2 ⟨rfl, hW2⟩
  have HW2 := Lib.hid (below_next (below_new HW.out _) hW2)
  have HB2 : Hid (Blk w2 (w.heap.size + 1) 3 (iInts (List.replicate k 0))) := by have := Blk.below' HB.out hW2; simpa [Hid] using this
  have HBZ2 := Lib.hid (Blk.below' HBZ.out hW2)
  have c2 : w2.cell? ⟨w.heap.size, 2, none⟩ = some (.slice AI z.Ids.length cI) := HBZ2.out.cell 2
  clear hW2 hm HF HW HB HBZ d1 d2
  go_wp2
  clear c2
  go_loopw [8, 9, 26] (fun _ _ i wr => ∃ j : Nat, j ≤ z.Ids.length ∧ i = .int .i64 j ∧ Hid (Blk wr (w.heap.size + 1) 3 (iInts (sgS z a k j))) ∧ Hid (Blk wr w.heap.size 42 [.int .i64 z.N, .slice AC z.C.length cC, .slice AI z.Ids.length cI, .slice AG z.G.length cG, .slice AR z.R.length cR, .bool z.bad]) ∧ Hid (Below w.heap.size w wr)) (fun _ _ i _ => z.Ids.length - (intOf i).toNat)
  case atStart => exact ⟨0, by omega, rfl, HB2.out, HBZ2.out, HW2.out⟩
  case round =>
    obtain ⟨j, hj, rfl, hB, hZ, hW⟩ := hrel
    by_cases hlt : j < z.Ids.length
    · obtain ⟨p, x, rfl, hcx, hxb, hxe⟩ := i64at (HRI.out wr hW.out) hlt
      have hids := (HFF.out.ids j hlt).1
      rw [hxe.out] at hids
      obtain ⟨id, rfl⟩ : ∃ id : Nat, x = id := ⟨x.toNat, by omega⟩
      clear hids
      by_cases hik : id < k
      · obtain ⟨b, B, l, lc, rfl, hcg, hge, hlc, hlC, hrow⟩ := bsl_at (HRG.out wr hW.out) (i := j) (by omega)
        have hgs := HFF.out.gs j (by omega)
        simp only [hge.out] at hgs
        have hll := Lib.hid hgs.2
        have hll1 : l.length ≤ z.N.toNat := Nat.le_of_eq hgs.2
        have hal1 : z.N.toNat + 1 ≤ a.length := Nat.le_of_eq HFF.out.al.symm
        have hal2 : a.length ≤ z.N.toNat + 1 := Nat.le_of_eq HFF.out.al
        have hN2 := HFF.out.n2
        have HAL := Lib.hid (along_calls A B a l a.length l.length c lc 47 47 wr base rfl rfl (HRA.out _ hW.out) hrow HFF.out.af hgs.1 (by omega) (by omega) (by omega))
        have hi1 : (j : Int) < (z.Ids.length : Int) := by omega
        have hi2 : (j : Int) < (z.G.length : Int) := by omega
        have hi3 : (id : Int) < (k : Int) := by omega
        have c3 : wr.cell? ⟨w.heap.size, 3, none⟩ = some (.slice (some b) z.G.length cG) := hZ.out.cell 3
        clear hrow hgs
        go_wp2_with fail
        refine HAL.out.mono ?_
        rintro e w3 ⟨rfl, hI3, hW3⟩
        have HSG := asign_calls wr.heap.size _ w3 hI3
        rw [sign_pow] at HSG
        obtain ⟨s, hs⟩ : ∃ s, Int.sign (dotS a l l.length) = s := ⟨_, rfl⟩
        have hsb := sign_bd (dotS a l l.length)
        rw [hs] at HSG hsb
        obtain ⟨hs1, hs2⟩ := hsb
        have HSGH := Lib.hid HSG
        have HB3 := Lib.hid (hB.out.below' hW3)
        have HZ3 := Lib.hid (hZ.out.below' hW3)
        have HW3 := Lib.hid (below_next hW.out hW3)
        have hnext : (sgS z a k j).set id (-s) = sgS z a k (j + 1) := by
          rw [sgS, hxe.out, if_pos (by omega), hge.out, ← hs, hll.out]; rfl
        have HNX := Lib.hid hnext
        have hcell := HB3.out.atI (i := id) (by rw [sgS_len]; exact hik)
        obtain ⟨hc1, hc2⟩ := hcell
        generalize (sgS z a k j).getD id 0 = x0 at *
        clear hI3 hW3 HAL HSG hs hnext
        go_wp2_with fail
        refine HSGH.out.mono ?_
        rintro e w' ⟨rfl, rfl⟩
        go_wp2
        go_roundw
        case rel =>
          have hb := HB3.out.setI id (-s)
          rw [HNX.out] at hb
          exact ⟨j + 1, by omega, by go_num, hb, HZ3.out.far (p := ⟨w.heap.size + 1, id, none⟩) (show w.heap.size ≠ w.heap.size + 1 by omega) _, HW3.out.setCell (p := ⟨w.heap.size + 1, id, none⟩) (Nat.le_succ _) _⟩
        case measure => simp [intOf]; omega
      · have hi1 : (j : Int) < (z.Ids.length : Int) := by omega
        have hi3 : ¬ (id : Int) < (k : Int) := by omega
        have hnext : Hid (sgS z a k j = sgS z a k (j + 1)) := by rw [Hid, sgS, hxe.out, if_neg (by omega)]
        go_wp2
        go_roundw
        case rel => exact ⟨j + 1, by omega, by go_num, by rw [← hnext.out]; exact hB.out, hZ.out, hW.out⟩
        case measure => simp [intOf]; omega
    · obtain rfl : j = z.Ids.length := by omega
      go_wp2
      go_ret
      exact ⟨_, rfl, by omega, hB.out, hW.out⟩
theorem msigns_calls (z : Zn) (cs : List Value) (A : Option Addr) (a : List Nat) (n c : Nat) (k : Nat) (w : World) (base : Nat) (h : zRd.R w base z cs) (hn : a.length = n) (ha : f64.Row 47 w base A a) (hal : a.length ≤ 17592186044416) (hk : k ≤ 256) :
    Calls Tryz.prog 20 #[.agg cs.toArray, .slice A n c, .int .i64 k] w fun e w' => ∃ g, e = .returned (.slice (some ⟨g, 0, none⟩) k k) ∧ w.heap.size ≤ g ∧ Blk w' g 3 (iInts (signsS z a k)) ∧ Below w.heap.size w w' := by
  unfold signsS
  rw [if_neg (by omega), Int.toNat_natCast]
  by_cases hf : fitsB z a = true
  · rw [if_pos hf]; exact msigns_good z cs A a n c k w base h hn ha hal hk hf
  · rw [if_neg hf]; exact msigns_bad z cs A a n c k w base h hn ha hal hk (by simpa using hf)
end Go.Proofs.YtcfejobdgiiihaaGreatDoor

namespace Go.Proofs.YtcfejobdgiiihaaGreatDoor
open Go.RowKit

/-! ### questions -/
structure Pr where
  C : List Nat
  G : List (List Nat)
  T : Int
  L : List (List Nat)
  K : Int
  D : Int
  S : Int
abbrev InInt (x : Int) : Prop := -9223372036854775808 ≤ x ∧ x ≤ 9223372036854775807
structure PRows (tf ts : Nat) (d : Rd Nat) (w : World) (base : Nat) (p : Pr) (AC AG AL : Option Addr) : Prop where
  C : d.Row tf w base AC p.C
  G : (bsl tf d).Row ts w base AG p.G
  L : (bsl tf d).Row ts w base AL p.L
structure PLens (p : Pr) (cC cG cL : Nat) : Prop where
  c : p.C.length ≤ cC ∧ p.C.length ≤ 17592186044416
  g : p.G.length ≤ cG ∧ p.G.length ≤ 5864062014805
  l : p.L.length ≤ cL ∧ p.L.length ≤ 5864062014805
  t : InInt p.T
  k : InInt p.K
  d : InInt p.D
  s : InInt p.S
theorem bsl_keep {α : Type} {te t : Nat} {d : Rd α} {w w' : World} {base : Nat} {A : Option Addr} {gs : List (List α)} {E : List Nat} (h : (bsl te d).Row t w base A gs) (hd : d.E = []) (hk : Keeps base E w w') (h1 : te ∈ E) (h2 : t ∈ E) : (bsl te d).Row t w' base A gs :=
  h.keep hk h2 (by intro q hq; simp [bsl, Rd.iso, Rd.slice, hd] at hq; subst hq; exact h1)
def prG (tf ts : Nat) (d : Rd Nat) (hd : d.E = []) : Rd Pr where
  sz := 7
  E := [tf, ts]
  R w base p cs := ∃ (AC AG AL : Option Addr) (cC cG cL : Nat), cs = [.slice AC p.C.length cC, .slice AG p.G.length cG, .int .i64 p.T, .slice AL p.L.length cL, .int .i64 p.K, .int .i64 p.D, .int .i64 p.S] ∧
    PRows tf ts d w base p AC AG AL ∧ PLens p cC cG cL
  len h := by obtain ⟨_, _, _, _, _, _, rfl, _⟩ := h; rfl
  one h u hu := by
    obtain ⟨_, _, _, _, _, _, rfl, _⟩ := h
    simp at hu
    rcases hu with rfl | rfl | rfl | rfl | rfl | rfl | rfl <;> rfl
  keep h hk := by
    obtain ⟨_, _, _, _, _, _, rfl, h1, h2⟩ := h
    exact ⟨_, _, _, _, _, _, rfl, ⟨h1.C.keep hk (by simp) (by rw [hd]; simp), bsl_keep h1.G hd hk (by simp) (by simp), bsl_keep h1.L hd hk (by simp) (by simp)⟩, h2⟩
def prRd : Rd Pr := prG 47 22 f64 rfl

def rowS (m t j : Nat) : List Nat := ((List.replicate (m + 1) 0).set t 4607182418800017408).set j 13830554455654793216
def rowsS (m t : Nat) : Nat → List (List Nat)
  | 0 => []
  | j + 1 => if j = t then rowsS m t j else rowsS m t j ++ [rowS m t j]
def tbadB (p : Pr) (m : Int) : Bool := decide (m < 1) || decide (256 < m) || decide (p.T < -1) || decide (m ≤ p.T) || (decide (p.L.length = 0) && (decide (p.T < 0) || decide (m < 2)))
def lbadB (p : Pr) (m : Int) : Bool := !(p.L.all fun l => decide ((l.length : Int) = m + 1))
def nbadB (p : Pr) : Bool := !(p.L.all fun l => l.all fin)
def errS (p : Pr) (m : Int) : Nat := if tbadB p m then 68 else if lbadB p m then 63 else if nbadB p then 64 else 0
def claimsL (p : Pr) (m : Int) : List (List Nat) := (if 0 ≤ p.T then rowsS m.toNat p.T.toNat m.toNat else []) ++ p.L
theorem rowS_len (m t j : Nat) : (rowS m t j).length = m + 1 := by simp [rowS]
theorem rowS_bd (m t j : Nat) : ∀ d ∈ rowS m t j, d < B64 :=
  mem_set (mem_set (by intro d hd; simp at hd; subst hd; decide) (by decide)) (by decide)
set_option maxHeartbeats 4000000 in
set_option maxRecDepth 100000 in
theorem mclaims_bad (p : Pr) (cs : List Value) (m : Int) (w : World) (base : Nat) (h : prRd.R w base p cs) (hb : tbadB p m = true) :
    Calls Tryz.prog 9 #[.agg cs.toArray, .int .i64 m] w fun e w' => e = .returned (.tuple #[.slice none 0 0, .int .i64 68]) ∧ Below w.heap.size w w' := by
  obtain ⟨AC, AG, AL, cC, cG, cL, rfl, hr, hl⟩ := h
  obtain ⟨C, G, T, L, K, D, S⟩ := p
  unfold tbadB at hb
  simp only at hb ⊢
  have hL : L.length ≤ 17592186044416 := Nat.le_trans hl.l.2 (by decide)
  clear hr hl
  by_cases h1 : m < 1
  · clear hb
    go_enter Tryz.func9, Tryz.ntmps9
    go_wp2
    go_ret2
    exact ⟨rfl, below_new (Below.refl _ _) _⟩
  · have d1 : decide (m < 1) = false := decide_eq_false h1
    by_cases h2 : 256 < m
    · clear hb
      go_enter Tryz.func9, Tryz.ntmps9
      go_wp2
      go_ret2
      exact ⟨rfl, below_new (Below.refl _ _) _⟩
    · have d2 : decide (256 < m) = false := decide_eq_false h2
      by_cases h3 : T < -1
      · clear hb
        go_enter Tryz.func9, Tryz.ntmps9
        go_wp2
        go_ret2
        exact ⟨rfl, below_new (Below.refl _ _) _⟩
      · have d3 : decide (T < -1) = false := decide_eq_false h3
        by_cases h4 : m ≤ T
        · clear hb
          go_enter Tryz.func9, Tryz.ntmps9
          go_wp2
          go_ret2
          exact ⟨rfl, below_new (Below.refl _ _) _⟩
        · have d4 : decide (m ≤ T) = false := decide_eq_false h4
          rw [d1, d2, d3, d4] at hb
          simp only [Bool.false_or, Bool.and_eq_true, decide_eq_true_eq, Bool.or_eq_true] at hb
          obtain ⟨h5, h6⟩ := hb
          have e5 : ((L.length : Int) == 0) = true := by simp [h5]
          have e5' : decide (L.length = 0) = true := decide_eq_true h5
          have H5 := Lib.hid h5
          by_cases h7 : T < 0
          · clear h5 h6
            go_enter Tryz.func9, Tryz.ntmps9
            go_wp2
            go_ret2
            exact ⟨rfl, below_new (Below.refl _ _) _⟩
          · have d7 : decide (T < 0) = false := decide_eq_false h7
            have h8 : m < 2 := by omega
            clear h5 h6
            go_enter Tryz.func9, Tryz.ntmps9
            go_wp2
            go_ret2
            exact ⟨rfl, below_new (Below.refl _ _) _⟩
end Go.Proofs.YtcfejobdgiiihaaGreatDoor

namespace Go.Proofs.YtcfejobdgiiihaaGreatDoor
open Go.RowKit

@[go_sem] theorem run_store_float (P : Program) (w : World) (a : Addr) (m : Mode) (k : FloatKind) (b : Nat) : (store a (.float k b) m).run P w = stored P w a (.float k b) m := run_store P w a _ m rfl
/-! ### lists of the call's own -/
def f64s (xs : List Nat) : List Value := xs.map fun x => .float .f64 x
structure OL where
  g : Nat
  cap : Nat
  l : List Nat
def OL.val (e : OL) : Value := .slice (some ⟨e.g, 0, none⟩) e.l.length e.cap
/-- a list in a block of its own -/
structure OwnL (w : World) (base : Nat) (e : OL) : Prop where
  own : w.ownsRow base 47 1 e.val e.l.length (f64s e.l)
  bd : ∀ d ∈ e.l, d < B64
  len : e.l.length ≤ 257
theorem ownsRow_keep {w w' : World} {base t n : Nat} {v : Value} {xs : List Value} {E : List Nat} (h : w.ownsRow base t 1 v n xs) (hk : Keeps base E w w') (ht : t ∈ E) : w'.ownsRow base t 1 v n xs := by
  refine ⟨h.1, ?_⟩
  rcases h.2 with hn | ⟨g, cap, cur, rfl, hg, hh, r⟩
  · exact .inl hn
  · exact .inr ⟨g, cap, cur, rfl, hg, (hk.2 g (Array.getElem?_eq_some_iff.1 hh).1 (.inr ⟨cur, t, ht, hh⟩)).trans hh, r⟩
def olRd : Rd OL where
  sz := 1
  E := [47]
  R w base e cs := cs = [e.val] ∧ OwnL w base e
  len h := by rw [h.1]; rfl
  one h u hu := by rw [h.1] at hu; simp at hu; subst hu; rfl
  keep h hk := ⟨h.1, ownsRow_keep h.2.own hk (by simp), h.2.bd, h.2.len⟩
theorem OwnL.lt {w : World} {base : Nat} {e : OL} (h : OwnL w base e) : base ≤ e.g ∧ e.g < w.heap.size := by
  rcases h.own.2 with ⟨hn, _⟩ | ⟨g, cap, cur, hv, hg, hh, _⟩
  · simp [OL.val] at hn
  · simp [OL.val] at hv; obtain ⟨⟨rfl⟩, _⟩ := hv; exact ⟨hg, (Array.getElem?_eq_some_iff.1 hh).1⟩
theorem Blk.ownL {w : World} {b base : Nat} {l : List Nat} (h : Blk w b 47 (f64s l)) (hb : base ≤ b) (hl : l.length ≤ 257) (hd : ∀ d ∈ l, d < B64) : OwnL w base ⟨b, l.length, l⟩ := by
  refine ⟨⟨by simp [f64s], .inr ⟨b, l.length, (f64s l).toArray, rfl, hb, h, Nat.le_refl _, ?_, by simp [f64s], ?_⟩⟩, hd, hl⟩
  · simp only [maxLen]; show l.length ≤ _; omega
  · simp only [Nat.mul_one]; rw [List.take_of_length_le (by simp [f64s])]
theorem madeF (n : Nat) : (madeCells #[Value.float .f64 0] n).toList = f64s (List.replicate n 0) := by
  simp [f64s, madeCells, Nat.mod_one, List.map_const']
theorem makeF {n : Nat} (W : World) (h : n ≤ 4398046511104) : (Instr.makeSlice 22 (.int .i64 (n : Int)) (.int .i64 (n : Int))).run Tryz.prog W = .ok (.slice (some ⟨W.heap.size, 0, none⟩) n n) (W.alloc (.cells (madeCells #[.float .f64 0] n) 47)) :=
  run_make_row' (P := Tryz.prog) 22 47 (.float .f64 0) 8 (by kernel_rfl) (by kernel_rfl) rfl .i64 .i64 n (by omega) (by omega) W
theorem Blk.setF {w : World} {b t : Nat} {zs : List Nat} (h : Blk w b t (f64s zs)) (i x : Nat) :
    Blk (w.setCell ⟨b, i, none⟩ (.float .f64 x)) b t (f64s (zs.set i x)) := by
  have := h.set i (.float .f64 x)
  simpa [f64s, List.map_set] using this
theorem Blk.atF {w : World} {b t : Nat} {zs : List Nat} (h : Blk w b t (f64s zs)) {i : Nat} (hi : i < zs.length) :
    w.cell? ⟨b, i, none⟩ = some (.float .f64 (zs.getD i 0)) ∧ w.frozen? ⟨b, i, none⟩ = false := by
  refine ⟨?_, h.frozen i⟩
  rw [h.cell]; simp [f64s, hi]
theorem allL_take_step {p : List Nat → Bool} {xs : List (List Nat)} {k : Nat} {l : List Nat} (hk : k < xs.length) (hx : xs.getD k [] = l) : (xs.take (k + 1)).all p = ((xs.take k).all p && p l) := by
  rw [List.take_succ_eq_append_getElem hk, List.all_append, ← hx, List.getD_eq_getElem?_getD, List.getElem?_eq_getElem hk]; simp
theorem allL_getD {p : List Nat → Bool} {xs : List (List Nat)} (h : xs.all p = true) {i : Nat} (hi : i < xs.length) : p (xs.getD i []) = true := by
  rw [List.all_eq_true] at h
  exact h _ (by rw [List.getD_eq_getElem?_getD, List.getElem?_eq_getElem hi, Option.getD_some]; exact List.getElem_mem hi)
theorem allL_false {p : List Nat → Bool} {xs : List (List Nat)} {k : Nat} {l : List Nat} (hk : k < xs.length) (hx : xs.getD k [] = l) (hp : p l = false) : xs.all p = false := by
  rw [Bool.eq_false_iff]
  intro h
  have := allL_getD h hk
  rw [hx, hp] at this; cases this
section
variable {P : Program} {ops : Array Oper} {rest : List Oper} {o : Oper} {a : Act} {Q : Exit → Act → World → Prop}
theorem own_append' {α : Type} (d : Rd α) {W : World} (g b0 base : Nat) (hg : W.heap.size = g) (hgd : o.guard = none) (s x : Operand) (t e : TypeId) (z : Value) (bytes : Nat)
    (ho : o.op = .call { callee := .builtin .append, args := #[s, x], argTypes := #[t, t] })
    (ht : P.underlying t = some (.slice e)) (hinfo : (P.info? e).map (fun i => (i.zero, i.size, i.bytes)) = some (some z, d.sz, bytes)) (hz : z.cells.size = d.sz) (hs0 : 0 < d.sz) (hb0 : 0 < bytes)
    (v : Value) (xs : List α) (p : α) (cs : List Value) (hs : a.eval s = v) (hx : a.eval x = .slice (some ⟨g, 0, none⟩) 1 1) (hp : d.R W base p cs) (he : e ∉ d.E)
    (HO : d.Own e W b0 base v xs) (hbb : base ≤ b0) (hbase : b0 ≤ g) (hl : (xs.length + 1) * bytes ≤ 140737488355328)
    (h : ∀ v1 w1, d.Own e w1 b0 base v1 (xs ++ [p]) → W.grownBy w1 v.ownBlock → wpList P ops Q rest (a.put o.dst v1) w1) :
    wpList P ops Q (o :: rest) a (W.alloc (.cells cs.toArray e)) := by
  subst hg
  exact own_append d b0 base hgd s x t e z bytes ho ht hinfo hz hs0 hb0 v xs p cs hs hx hp he HO hbb hbase hl h
end
theorem rowsS_len (m t : Nat) : ∀ j, (rowsS m t j).length ≤ j
  | 0 => Nat.le_refl _
  | j + 1 => by
    have := rowsS_len m t j
    rw [rowsS]; split
    · omega
    · rw [List.length_append, List.length_singleton]; omega
theorem UF : Tryz.prog.underlying 23 = some (.slice 22) := by kernel_rfl
theorem UF1 : Tryz.prog.underlying 22 = some (.slice 47) := by kernel_rfl
theorem IF : (Tryz.prog.info? 22).map (fun i => (i.zero, i.size, i.bytes)) = some (some (.slice none 0 0), 1, 24) := by kernel_rfl
theorem IF1 : (Tryz.prog.info? 47).map (fun i => (i.zero, i.size, i.bytes)) = some (some (.float .f64 0), 1, 8) := by kernel_rfl
theorem own_len {t : Nat} {w : World} {b0 base : Nat} {v : Value} {es : List OL} {ls : List (List Nat)} (_h : olRd.Own t w b0 base v es) (h2 : es.map (·.l) = ls) : es.length = ls.length := by rw [← h2, List.length_map]
/-- a new list beside those that lie there -/
theorem nodup_new {es : List OL} {t : Nat} {w : World} {b0 base : Nat} {v : Value} (h : olRd.Own t w b0 base v es) (hn : (es.map (·.g)).Nodup) (e : OL) (he : w.heap.size ≤ e.g) : ((es ++ [e]).map (·.g)).Nodup := by
  rw [List.map_append, List.nodup_append]
  refine ⟨hn, by simp, ?_⟩
  intro g hg g' hg'
  simp at hg'
  subst hg'
  obtain ⟨x, hx, rfl⟩ := List.mem_map.1 hg
  obtain ⟨i, hi, rfl⟩ := List.getElem_of_mem hx
  obtain ⟨css, hl, _, hr⟩ := h
  have := (hr i es[i] (css[i]'(by omega)) (by simp) (by simp)).2.lt.2
  intro h; rw [h] at this; omega
theorem Blk.ne_own {w : World} {b t t' b0 base : Nat} {cs : List Value} {v : Value} {es : List OL} (h : Blk w b t cs) (ho : olRd.Own t' w b0 base v es) (ht : t ≠ t') : some b ≠ v.ownBlock := by
  intro e
  obtain ⟨_, _, cells, hh⟩ := ho.blk b e.symm
  have := (show w.heap[b]? = _ from h).symm.trans hh
  simp at this
  exact ht this.2
/-- what loops 1 and 2 find -/
structure GoodP (p : Pr) (m : Nat) : Prop where
  m1 : 1 ≤ m
  m2 : m ≤ 256
  t1 : -1 ≤ p.T
  t2 : p.T < m
/-- what is told: lists of the call's own -/
def ClaimsPost (p : Pr) (m : Int) (w : World) (e : Ending) (w' : World) : Prop :=
  ∃ v es, e = .returned (.tuple #[v, .int .i64 (errS p m : Nat)]) ∧ olRd.Own 22 w' w.heap.size w.heap.size v es ∧ (es.map (·.g)).Nodup ∧ es.map (·.l) = (if errS p m = 0 then claimsL p m else []) ∧ Below w.heap.size w w'
theorem claims_err {p : Pr} {m : Int} {w w' : World} {c : Nat} (h : errS p m = c) (hc : c ≠ 0) (hW : Below w.heap.size w w') : ClaimsPost p m w (.returned (.tuple #[.slice none 0 0, .int .i64 (c : Nat)])) w' :=
  ⟨_, [], by rw [h], Rd.Own.nil _ _ _ _ _, by simp, by rw [h, if_neg hc]; rfl, hW⟩
theorem err63 {p : Pr} {m : Int} (h1 : tbadB p m = false) (h2 : (p.L.all fun l => decide ((l.length : Int) = m + 1)) = false) : errS p m = 63 := by
  unfold errS lbadB; rw [h1, h2]; rfl
theorem err64 {p : Pr} {m : Int} (h1 : tbadB p m = false) (h2 : (p.L.all fun l => decide ((l.length : Int) = m + 1)) = true) (h3 : (p.L.all fun l => l.all fin) = false) : errS p m = 64 := by
  unfold errS lbadB nbadB; rw [h1, h2, h3]; rfl
theorem err0 {p : Pr} {m : Int} (h1 : tbadB p m = false) (h2 : (p.L.all fun l => decide ((l.length : Int) = m + 1)) = true) (h3 : (p.L.all fun l => l.all fin) = true) : errS p m = 0 := by
  unfold errS lbadB nbadB; rw [h1, h2, h3]; rfl
theorem own_shape {w : World} {base t n : Nat} {v : Value} {xs : List Value} (h : w.ownsRow base t 1 v n xs) (hn : 0 < n) : ∃ g cap, v = .slice (some ⟨g, 0, none⟩) n cap ∧ base ≤ g ∧ g < w.heap.size := by
  rcases h.2 with ⟨_, h0⟩ | ⟨g, cap, cur, rfl, hg, hh, _⟩
  · omega
  · exact ⟨g, cap, rfl, hg, (Array.getElem?_eq_some_iff.1 hh).1⟩
theorem info_parts' {e : TypeId} {z : Value} {sz by' : Nat} (h : (Tryz.prog.info? e).map (fun i => (i.zero, i.size, i.bytes)) = some (some z, sz, by')) : ∃ i, Tryz.prog.info? e = some i ∧ i.zero = some z ∧ i.size = sz ∧ i.bytes = by' := by
  cases hi : Tryz.prog.info? e with
  | none => rw [hi] at h; cases h
  | some i =>
    rw [hi] at h
    injection h with h
    simp only [Prod.mk.injEq] at h
    exact ⟨i, rfl, h⟩
theorem f64_cells {t : Nat} {w : World} {base : Nat} {a : Addr} {l : List Nat} (h : f64.Row t w base (some a) l) : ∀ j u, (f64s l)[j]? = some u → w.cell? (a.add j) = some u := by
  intro j u hj
  have hl : j < l.length := by have := (List.getElem?_eq_some_iff.1 hj).1; simpa [f64s] using this
  obtain ⟨a', x, ha, hc, _, hx⟩ := f64at h hl
  cases ha
  rw [hc]
  simp [f64s, hl] at hj
  rw [← hj, ← hx.out]; simp [hl]
theorem ownsRow_lower {w : World} {base base' t n : Nat} {v : Value} {xs : List Value} (h : w.ownsRow base t 1 v n xs) (hb : base' ≤ base) : w.ownsRow base' t 1 v n xs := by
  refine ⟨h.1, ?_⟩
  rcases h.2 with hn | ⟨g, cap, cur, rfl, hg, r⟩
  · exact .inl hn
  · exact .inr ⟨g, cap, cur, rfl, by omega, r⟩
/-- a list that was just laid by an append -/
theorem new_list {wr w1 : World} {B n : Nat} {l : List Nat} {v1 : Value} (h : w1.ownsRow wr.heap.size 47 1 v1 (0 + l.length) ([] ++ f64s l)) (hg : wr.grownBy w1 (Value.slice none 0 0).ownBlock) (h0 : 0 < l.length) (hl : l.length ≤ 257) (hd : ∀ d ∈ l, d < B64) (hB : B ≤ wr.heap.size) :
    ∃ e : OL, v1 = .slice (some ⟨e.g, 0, none⟩) l.length e.cap ∧ e.l = l ∧ wr.heap.size ≤ e.g ∧ olRd.R w1 B e [v1] ∧ Below wr.heap.size wr w1 := by
  rw [Nat.zero_add, List.nil_append] at h
  obtain ⟨g, cap, rfl, h1, h2⟩ := own_shape h h0
  exact ⟨⟨g, cap, l⟩, rfl, rfl, h1, ⟨rfl, ownsRow_lower h hB, hd, hl⟩, (Below.refl _ _).grown hg (Nat.le_refl _) (fun k hk => by simp [Value.ownBlock] at hk)⟩
set_option maxHeartbeats 8000000 in
set_option maxRecDepth 100000 in
theorem mclaims_ne (p : Pr) (cs : List Value) (m : Nat) (w : World) (base : Nat) (h : prRd.R w base p cs) (hb : tbadB p m = false) (h5 : p.L.length ≠ 0) (hL3 : p.L.length ≤ 1000000) :
    Calls Tryz.prog 9 #[.agg cs.toArray, .int .i64 m] w (ClaimsPost p m w) := by
  obtain ⟨AC, AG, AL, cC, cG, cL, rfl, hr, hl⟩ := h
  obtain ⟨C, G, T, L, K, D, S⟩ := p
  have HTB := Lib.hid hb
  unfold tbadB at hb
  simp only [Bool.or_eq_false_iff, decide_eq_false_iff_not] at hb h5 hL3 ⊢
  obtain ⟨⟨⟨⟨h1, h2⟩, h3⟩, h4⟩, h6⟩ := hb
  have d1 : decide ((m : Int) < 1) = false := decide_eq_false h1
  have d2 : decide ((256 : Int) < m) = false := decide_eq_false h2
  have d3 : decide (T < -1) = false := decide_eq_false h3
  have d4 : decide ((m : Int) ≤ T) = false := decide_eq_false h4
  have e5 : ((L.length : Int) == 0) = false := by simp; intro h; exact h5 (by rw [h]; rfl)
  have hL : L.length ≤ 17592186044416 := Nat.le_trans hl.l.2 (by decide)
  have HRL := Lib.hid (fun W (hW : Below w.heap.size w W) => (show (bsl 47 f64).Row 22 W base AL L from hr.L.below hW))
  have HW := Lib.hid (below_new (Below.refl w.heap.size w) (.cells #[.slice AC C.length cC, .slice AG G.length cG, .int .i64 T, .slice AL L.length cL, .int .i64 K, .int .i64 D, .int .i64 S] 25))
  have HB := Lib.hid (Blk.new w #[.slice AC C.length cC, .slice AG G.length cG, .int .i64 T, .slice AL L.length cL, .int .i64 K, .int .i64 D, .int .i64 S] 25)
  clear hr hl
  have hm1 : 1 ≤ m := by omega
  have hm2 : m ≤ 256 := by omega
  have ht1 : -1 ≤ T := by omega
  have ht2 : T < (m : Int) := by omega
  clear h1 h2 h3 h4 h6
  go_enter Tryz.func9, Tryz.ntmps9
  go_wp2
  clear d1 d2 d3 d4 e5
  go_loop [7, 50] (fun _ i => ∃ k : Nat, k ≤ L.length ∧ i = .int .i64 k ∧ Hid ((L.take k).all (fun l => decide ((l.length : Int) = m + 1)) = true)) (fun _ i => L.length - (intOf i).toNat)
  case atStart => exact ⟨0, by omega, rfl, rfl⟩
  case round =>
    obtain ⟨k, hk, rfl, hall⟩ := hrel
    by_cases hlt : k < L.length
    · obtain ⟨b, B, l, lc, rfl, hcg, hge, hlc, hlC, hrow⟩ := bsl_at (HRL.out _ HW.out) hlt
      have hi1 : (k : Int) < (L.length : Int) := by omega
      by_cases hll : (l.length : Int) = (m : Int) + 1
      · have d1 : ((l.length : Int) != (m : Int) + 1) = false := by simp; exact hll
        have HLL := Lib.hid hll
        clear hrow hll
        go_wp2
        go_round
        case rel => exact ⟨k + 1, by omega, by go_num, by rw [Hid, allL_take_step hlt hge.out, hall.out, decide_eq_true HLL.out]; rfl⟩
        case measure => simp [intOf]; omega
      · have d1 : ((l.length : Int) != (m : Int) + 1) = true := by simp; exact hll
        have HLL := Lib.hid hll
        clear hrow hll
        go_wp2
        go_ret2
        exact claims_err (c := 63) (err63 HTB.out (allL_false hlt hge.out (decide_eq_false HLL.out))) (by decide) HW.out
    · obtain rfl : k = L.length := by omega
      have hall2 : Hid (L.all (fun l => decide ((l.length : Int) = m + 1)) = true) := by have := hall.out; rw [List.take_length] at this; exact this
      clear hall hlt
      go_wp2
      go_loop [9, 63] (fun _ i => ∃ k : Nat, k ≤ L.length ∧ i = .int .i64 k ∧ Hid ((L.take k).all (fun l => l.all fin) = true)) (fun _ i => L.length - (intOf i).toNat)
      case atStart => exact ⟨0, by omega, rfl, rfl⟩
      case round =>
        obtain ⟨k, hk, rfl, hall⟩ := hrel
        by_cases hlt : k < L.length
        · obtain ⟨b, B, l, lc, rfl, hcg, hge, hlc, hlC, hrow⟩ := bsl_at (HRL.out _ HW.out) hlt
          have hi1 : (k : Int) < (L.length : Int) := by omega
          obtain ⟨f, hf⟩ : ∃ f, l.all fin = f := ⟨_, rfl⟩
          have HN := mnumbers_calls B l.length lc 47 base l _ rfl hrow hlC
          rw [hf] at HN
          have HNH := Lib.hid HN
          have HFH := Lib.hid hf
          clear hrow HN hf
          cases f
          · go_wp2_with fail
            refine HNH.out.mono ?_
            rintro e w' ⟨rfl, rfl⟩
            go_wp2
            go_ret2
            exact claims_err (c := 64) (err64 HTB.out hall2.out (allL_false hlt hge.out HFH.out)) (by decide) HW.out
          · go_wp2_with fail
            refine HNH.out.mono ?_
            rintro e w' ⟨rfl, rfl⟩
            go_wp2
            go_round
            case rel => exact ⟨k + 1, by omega, by go_num, by rw [Hid, allL_take_step hlt hge.out, hall.out, HFH.out]; rfl⟩
            case measure => simp [intOf]; omega
        · obtain rfl : k = L.length := by omega
          have hall3 : Hid (L.all (fun l => l.all fin) = true) := by have := hall.out; rw [List.take_length] at this; exact this
          clear hall hlt
          go_wp2
          go_loopw [10, 11, 12] (fun v jv _ wr => ∃ (j : Nat) (es : List OL), j ≤ m ∧ (j < m → 0 ≤ T ∨ j = 0) ∧ jv = .int .i64 j ∧ Hid (olRd.Own 22 wr w.heap.size w.heap.size v es) ∧ Hid ((es.map (·.g)).Nodup) ∧ Hid (es.map (·.l) = if 0 ≤ T then rowsS m T.toNat j else []) ∧ Hid (Blk wr w.heap.size 25 [.slice AC C.length cC, .slice AG G.length cG, .int .i64 T, .slice AL L.length cL, .int .i64 K, .int .i64 D, .int .i64 S]) ∧ Hid (Below w.heap.size w wr)) (fun _ jv _ _ => m - (intOf jv).toNat)
          case atStart => exact ⟨0, [], by omega, fun _ => .inr rfl, rfl, Rd.Own.nil _ _ _ _ _, by simp [Hid], by rw [Hid]; split <;> rfl, HB.out, HW.out⟩
          case round =>
            obtain ⟨j, es, hj, hj0, rfl, hO, hN, hE, hB, hW⟩ := hrel
            obtain ⟨vA, vc, rfl, _, _⟩ := hO.out.row
            obtain ⟨mm, hmm⟩ : ∃ mm, m + 1 = mm := ⟨_, rfl⟩
            have hm := fun W => makeF (n := mm) W (by omega)
            have n1 : (m : Int) + 1 = (mm : Int) := by omega
            have hm3 : m < mm := by omega
            have HMM := Lib.hid hmm
            clear hmm
            have c2 : wr.cell? ⟨w.heap.size, 2, none⟩ = some (.int .i64 T) := hB.out.cell 2
            have HJ0 := Lib.hid hj0
            clear hj0
            by_cases hgo : j < m ∧ 0 ≤ T
            · obtain ⟨hjm, hT⟩ := hgo
              obtain ⟨tn, hTn⟩ : ∃ tn : Nat, T = tn := ⟨T.toNat, by omega⟩
              by_cases hjt : j = tn
              · have d1 : ((j : Int) == T) = true := by simp; omega
                have HNX : Hid (rowsS m T.toNat (j + 1) = rowsS m T.toNat j) := by rw [Hid, rowsS, if_pos (by omega)]
                clear hjt hTn hm
                go_wp2
                go_roundw
                case rel => exact ⟨j + 1, es, by omega, fun _ => .inl hT, by go_num, hO.out, hN.out, by rw [Hid, hE.out, if_pos hT, if_pos hT, HNX.out], hB.out, hW.out⟩
                case measure => simp [intOf]; omega
              · have d1 : ((j : Int) == T) = false := by simp; omega
                have HJT := Lib.hid hjt
                have HTN := Lib.hid hTn
                subst hTn
                clear hjt
                obtain ⟨W1, hW1⟩ : ∃ W1, W1 = wr.alloc (.cells (madeCells #[.float .f64 0] mm) 47) := ⟨_, rfl⟩
                have hm1' : (Instr.makeSlice 22 (.int .i64 (mm : Int)) (.int .i64 (mm : Int))).run Tryz.prog wr = .ok (.slice (some ⟨wr.heap.size, 0, none⟩) mm mm) W1 := by rw [hW1]; exact hm wr
                have HZ : Hid (Blk W1 wr.heap.size 47 (f64s (List.replicate mm 0))) := by
                  have := Blk.new wr (madeCells #[.float .f64 0] mm) 47
                  rw [madeF, ← hW1] at this
                  exact this
                have HW1 : Hid (Below wr.heap.size wr W1 ∧ W1.heap.size = wr.heap.size + 1) := by rw [hW1]; exact ⟨below_new (Below.refl _ _) _, by simp⟩
                have hsz1 := hB.out.lt
                have htm : tn < mm := by omega
                obtain ⟨z1, z2⟩ := HZ.out.atF (i := tn) (by simpa using htm)
                obtain ⟨z3, z4⟩ := (HZ.out.setF tn 4607182418800017408).atF (i := j) (by simp; omega)
                have c2' : W1.cell? ⟨w.heap.size, 2, none⟩ = some (.int .i64 tn) := (hB.out.below' HW1.out.1).cell 2
                have hi1 : (tn : Int) < (mm : Int) := by omega
                have hi2 : (j : Int) < (mm : Int) := by omega
                generalize (List.replicate mm 0).getD tn 0 = x1 at *
                generalize ((List.replicate mm 0).set tn 4607182418800017408).getD j 0 = x3 at *
                have hW2 : Below wr.heap.size wr ((W1.setCell ⟨wr.heap.size, tn, none⟩ (.float .f64 4607182418800017408)).setCell ⟨wr.heap.size, j, none⟩ (.float .f64 13830554455654793216)) := (HW1.out.1.setCell (p := ⟨wr.heap.size, tn, none⟩) (Nat.le_refl _) _).setCell (p := ⟨wr.heap.size, j, none⟩) (Nat.le_refl _) _
                have HO2 := Lib.hid (hO.out.below hW2)
                obtain ⟨e2, he2⟩ : ∃ e2 : OL, e2 = ⟨wr.heap.size, mm, rowS m tn j⟩ := ⟨_, rfl⟩
                have HP2 : Hid (olRd.R ((W1.setCell ⟨wr.heap.size, tn, none⟩ (.float .f64 4607182418800017408)).setCell ⟨wr.heap.size, j, none⟩ (.float .f64 13830554455654793216)) w.heap.size e2 [.slice (some ⟨wr.heap.size, 0, none⟩) mm mm]) := by
                  have hb := (HZ.out.setF tn 4607182418800017408).setF j 13830554455654793216
                  have e : ((List.replicate mm 0).set tn 4607182418800017408).set j 13830554455654793216 = rowS m tn j := by rw [rowS, HMM.out]
                  rw [e] at hb
                  have := hb.ownL (base := w.heap.size) (by omega) (by rw [rowS_len]; omega) (rowS_bd m tn j)
                  rw [rowS_len, HMM.out] at this
                  rw [he2]
                  exact ⟨by simp [OL.val, rowS_len, HMM.out], this⟩
                have HN2 := Lib.hid (nodup_new hO.out hN.out e2 (by rw [he2]; exact Nat.le_refl _))
                have hlen : (es.length + 1) * 24 ≤ 140737488355328 := by
                  have h1 := own_len hO.out hE.out
                  rw [if_pos hT] at h1
                  have := rowsS_len m (Int.toNat (tn : Int)) j
                  omega
                have HE2 : Hid ((es ++ [e2]).map (·.l) = rowsS m tn (j + 1)) := by
                  have := hE.out
                  rw [if_pos hT, Int.toNat_natCast] at this
                  rw [Hid, List.map_append, this, rowsS, if_neg HJT.out, he2]; rfl
                have HW2 := Lib.hid hW2
                have hsz2 : w.heap.size ≤ W1.heap.size := by have := HW1.out.2; omega
                clear hm hW1 hW2 he2
                go_wp2_with (at_builtin; refine own_append' olRd W1.heap.size w.heap.size w.heap.size (by simp) rfl _ _ 23 22 (.slice none 0 0) 24 (by rfl) UF IF rfl (by decide) (by decide) _ es e2 [.slice (some ⟨wr.heap.size, 0, none⟩) mm mm] (by rfl) (by rfl) HP2.out (by decide) HO2.out (Nat.le_refl _) (by omega) hlen ?_; intro v1 w1 hO1 hg1)
                have HR := Lib.hid (And.intro hO1 (And.intro (Rd.Own.below_of HO2.out (below_next hW.out HW2.out) hg1) (Blk.grown (hB.out.below' HW2.out) hg1 ((hB.out.below' HW2.out).ne_own HO2.out (by decide)))))
                clear hO1 hg1
                go_wp2
                go_roundw
                case rel => exact ⟨j + 1, _, by omega, fun _ => .inl hT, by go_num, HR.out.1, HN2.out, by rw [Hid, if_pos hT]; exact HE2.out, HR.out.2.2, HR.out.2.1⟩
                case measure => simp [intOf]; omega
            · have HE3 : Hid (es.map (·.l) = if 0 ≤ T then rowsS m T.toNat m else []) := by
                rw [Hid, hE.out]
                by_cases hT : 0 ≤ T
                · have : j = m := by omega
                  rw [this]
                · rw [if_neg hT, if_neg hT]
              have c3 : wr.cell? ⟨w.heap.size, 3, none⟩ = some (.slice AL L.length cL) := hB.out.cell 3
              have hsp : decide (j < m) = false ∨ (decide (j < m) = true ∧ decide (0 ≤ T) = false) := by
                by_cases h : j < m
                · exact .inr ⟨decide_eq_true h, decide_eq_false (by omega)⟩
                · exact .inl (decide_eq_false h)
              clear hm hgo
              rcases hsp with d1 | ⟨d1, d2⟩
              · go_wp2
                obtain ⟨wo, rfl⟩ : ∃ wo : World, wo = wr := ⟨_, rfl⟩
                clear c2 c3 d1
                go_loopw [10, 14, 102] (fun v _ iv wr => ∃ (k : Nat) (es : List OL), k ≤ L.length ∧ iv = .int .i64 k ∧ Hid (olRd.Own 22 wr w.heap.size w.heap.size v es) ∧ Hid ((es.map (·.g)).Nodup) ∧ Hid (es.map (·.l) = (if 0 ≤ T then rowsS m T.toNat m else []) ++ L.take k) ∧ Hid (Below w.heap.size w wr)) (fun _ _ iv _ => L.length - (intOf iv).toNat)
                case atStart => exact ⟨0, es, by omega, rfl, hO.out, hN.out, by rw [Hid, List.take_zero, List.append_nil]; exact HE3.out, hW.out⟩
                case round =>
                  obtain ⟨k, es', hk, rfl, hO, hN, hE, hW⟩ := hrel
                  obtain ⟨vA', vc', rfl, _, _⟩ := hO.out.row
                  by_cases hlt : k < L.length
                  · obtain ⟨b, B, l, lc, rfl, hcg, hge, hlc, hlC, hrow⟩ := bsl_at (HRL.out wr hW.out) hlt
                    have hll : (l.length : Int) = m + 1 := by
                      have := allL_getD hall2.out hlt
                      simp only [hge.out] at this
                      exact of_decide_eq_true this
                    have hl0 : 0 < l.length := by omega
                    have hl257 : l.length ≤ 257 := by omega
                    obtain ⟨ba, _, hBa, _⟩ := f64at hrow hl0
                    subst hBa
                    have hcells := f64_cells hrow
                    have hlb := f64bd hrow
                    have hi1 : (k : Int) < (L.length : Int) := by omega
                    obtain ⟨ii, hii, hi0, hi2, hi3⟩ := info_parts' IF1
                    have HLB := Lib.hid hlb
                    have HGE := hge
                    have hlen : (es'.length + 1) * 24 ≤ 140737488355328 := by
                      have h1 := own_len hO.out hE.out
                      rw [List.length_append, List.length_take] at h1
                      have h2 : (if 0 ≤ T then rowsS m T.toNat m else []).length ≤ m := by
                        split
                        · exact rowsS_len _ _ _
                        · exact Nat.zero_le _
                      omega
                    have hwsz := hW.out.size
                    clear hll hrow hlb hge
                    go_wp2_with (first | (at_builtin; refine wpList_append_own _ rfl (.const (.slice none 0 0)) (.tmp 107) 22 (by rfl) wr.heap.size 47 ii (.float .f64 0) 1 8 UF1 hii hi0 hi2 hi3 rfl (by decide) (.slice none 0 0) 0 [] (by rfl) (World.ownsRow_nil _ _ _ _) ba l.length lc (f64s l) (by rfl) (by simp [f64s]) hcells (by intro u hu; simp [f64s] at hu; obtain ⟨x, _, rfl⟩ := hu; rfl) (by simp only [maxLen]; omega) (by omega) (Nat.le_refl _) ?_; intro v1 w1 hown1 hg1 _; obtain ⟨e2, rfl, he2, he3, he4, he5⟩ := new_list (B := w.heap.size) (n := 0) hown1 hg1 hl0 hl257 HLB.out hwsz; have HN2 := Lib.hid (nodup_new hO.out hN.out e2 he3); have HO2 := Lib.hid (hO.out.below he5); have HP2 := Lib.hid he4; have HE2 := Lib.hid he2; have HW2 := Lib.hid (below_next hW.out he5); have hsz2 := HW2.out.size; clear hown1 hg1 he2 he3 he4 he5 hcells hii hi0 hi2 hi3) | (at_builtin; refine own_append' olRd w1.heap.size w.heap.size w.heap.size rfl rfl _ _ 23 22 (.slice none 0 0) 24 (by rfl) UF IF rfl (by decide) (by decide) _ es' e2 [.slice (some ⟨e2.g, 0, none⟩) l.length e2.cap] (by rfl) (by rfl) HP2.out (by decide) HO2.out (Nat.le_refl _) hsz2 hlen ?_; intro v3 w3 hO3 hg3; have HR := Lib.hid (And.intro hO3 (Rd.Own.below_of HO2.out HW2.out hg3)); clear hO3 hg3))
                    go_roundw
                    case rel => exact ⟨k + 1, _, by omega, by go_num, HR.out.1, HN2.out, by rw [Hid, List.map_append, hE.out, List.take_succ_eq_append_getElem hlt, List.append_assoc]; congr 2; simp only [List.map_cons, List.map_nil]; rw [HE2.out, ← HGE.out, List.getD_eq_getElem?_getD, List.getElem?_eq_getElem hlt, Option.getD_some], HR.out.2⟩
                    case measure => simp [intOf]; omega
                  · obtain rfl : k = L.length := by omega
                    go_wp2
                    go_ret2
                    refine ⟨_, es', ?_, hO.out, hN.out, ?_, hW.out⟩
                    · rw [err0 HTB.out hall2.out hall3.out]; rfl
                    · have := hE.out
                      rw [List.take_length] at this
                      rw [err0 HTB.out hall2.out hall3.out, if_pos rfl, this]; rfl
              · go_wp2
                obtain ⟨wo, rfl⟩ : ∃ wo : World, wo = wr := ⟨_, rfl⟩
                clear c2 c3 d1 d2
                go_loopw [10, 14, 102] (fun v _ iv wr => ∃ (k : Nat) (es : List OL), k ≤ L.length ∧ iv = .int .i64 k ∧ Hid (olRd.Own 22 wr w.heap.size w.heap.size v es) ∧ Hid ((es.map (·.g)).Nodup) ∧ Hid (es.map (·.l) = (if 0 ≤ T then rowsS m T.toNat m else []) ++ L.take k) ∧ Hid (Below w.heap.size w wr)) (fun _ _ iv _ => L.length - (intOf iv).toNat)
                case atStart => exact ⟨0, es, by omega, rfl, hO.out, hN.out, by rw [Hid, List.take_zero, List.append_nil]; exact HE3.out, hW.out⟩
                case round =>
                  obtain ⟨k, es', hk, rfl, hO, hN, hE, hW⟩ := hrel
                  obtain ⟨vA', vc', rfl, _, _⟩ := hO.out.row
                  by_cases hlt : k < L.length
                  · obtain ⟨b, B, l, lc, rfl, hcg, hge, hlc, hlC, hrow⟩ := bsl_at (HRL.out wr hW.out) hlt
                    have hll : (l.length : Int) = m + 1 := by
                      have := allL_getD hall2.out hlt
                      simp only [hge.out] at this
                      exact of_decide_eq_true this
                    have hl0 : 0 < l.length := by omega
                    have hl257 : l.length ≤ 257 := by omega
                    obtain ⟨ba, _, hBa, _⟩ := f64at hrow hl0
                    subst hBa
                    have hcells := f64_cells hrow
                    have hlb := f64bd hrow
                    have hi1 : (k : Int) < (L.length : Int) := by omega
                    obtain ⟨ii, hii, hi0, hi2, hi3⟩ := info_parts' IF1
                    have HLB := Lib.hid hlb
                    have HGE := hge
                    have hlen : (es'.length + 1) * 24 ≤ 140737488355328 := by
                      have h1 := own_len hO.out hE.out
                      rw [List.length_append, List.length_take] at h1
                      have h2 : (if 0 ≤ T then rowsS m T.toNat m else []).length ≤ m := by
                        split
                        · exact rowsS_len _ _ _
                        · exact Nat.zero_le _
                      omega
                    have hwsz := hW.out.size
                    clear hll hrow hlb hge
                    go_wp2_with (first | (at_builtin; refine wpList_append_own _ rfl (.const (.slice none 0 0)) (.tmp 107) 22 (by rfl) wr.heap.size 47 ii (.float .f64 0) 1 8 UF1 hii hi0 hi2 hi3 rfl (by decide) (.slice none 0 0) 0 [] (by rfl) (World.ownsRow_nil _ _ _ _) ba l.length lc (f64s l) (by rfl) (by simp [f64s]) hcells (by intro u hu; simp [f64s] at hu; obtain ⟨x, _, rfl⟩ := hu; rfl) (by simp only [maxLen]; omega) (by omega) (Nat.le_refl _) ?_; intro v1 w1 hown1 hg1 _; obtain ⟨e2, rfl, he2, he3, he4, he5⟩ := new_list (B := w.heap.size) (n := 0) hown1 hg1 hl0 hl257 HLB.out hwsz; have HN2 := Lib.hid (nodup_new hO.out hN.out e2 he3); have HO2 := Lib.hid (hO.out.below he5); have HP2 := Lib.hid he4; have HE2 := Lib.hid he2; have HW2 := Lib.hid (below_next hW.out he5); have hsz2 := HW2.out.size; clear hown1 hg1 he2 he3 he4 he5 hcells hii hi0 hi2 hi3) | (at_builtin; refine own_append' olRd w1.heap.size w.heap.size w.heap.size rfl rfl _ _ 23 22 (.slice none 0 0) 24 (by rfl) UF IF rfl (by decide) (by decide) _ es' e2 [.slice (some ⟨e2.g, 0, none⟩) l.length e2.cap] (by rfl) (by rfl) HP2.out (by decide) HO2.out (Nat.le_refl _) hsz2 hlen ?_; intro v3 w3 hO3 hg3; have HR := Lib.hid (And.intro hO3 (Rd.Own.below_of HO2.out HW2.out hg3)); clear hO3 hg3))
                    go_roundw
                    case rel => exact ⟨k + 1, _, by omega, by go_num, HR.out.1, HN2.out, by rw [Hid, List.map_append, hE.out, List.take_succ_eq_append_getElem hlt, List.append_assoc]; congr 2; simp only [List.map_cons, List.map_nil]; rw [HE2.out, ← HGE.out, List.getD_eq_getElem?_getD, List.getElem?_eq_getElem hlt, Option.getD_some], HR.out.2⟩
                    case measure => simp [intOf]; omega
                  · obtain rfl : k = L.length := by omega
                    go_wp2
                    go_ret2
                    refine ⟨_, es', ?_, hO.out, hN.out, ?_, hW.out⟩
                    · rw [err0 HTB.out hall2.out hall3.out]; rfl
                    · have := hE.out
                      rw [List.take_length] at this
                      rw [err0 HTB.out hall2.out hall3.out, if_pos rfl, this]; rfl
end Go.Proofs.YtcfejobdgiiihaaGreatDoor
